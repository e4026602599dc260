/-
  Closed facts on the program's types and functions, each checked by the kernel.
-/
import Derived.Test.YtnbfdncmlbegmaaSxDef
import Derived.Test.YtnbfdncmlbegmaaRows
set_option maxRecDepth 100000
namespace Go.Proofs.Ytnbfdncmlbegmaa
open Go Go.SX
theorem agg22 : aggB Try.prog 22 = some false := by kernel_rfl
theorem agg23 : aggB Try.prog 23 = some false := by kernel_rfl
theorem agg25 : aggB Try.prog 25 = some false := by kernel_rfl
theorem agg3 : aggB Try.prog 3 = some false := by kernel_rfl
theorem agg48 : aggB Try.prog 48 = some true := by kernel_rfl
theorem agg5 : aggB Try.prog 5 = some false := by kernel_rfl
theorem agg51 : aggB Try.prog 51 = some false := by kernel_rfl
theorem agg57 : aggB Try.prog 57 = some true := by kernel_rfl
theorem agg65 : aggB Try.prog 65 = some true := by kernel_rfl
theorem ar48 : arrP Try.prog 48 = some (8, 5, 1) := by kernel_rfl
theorem co10 : callOk Try.prog 10 = true := by kernel_rfl
theorem co11 : callOk Try.prog 11 = true := by kernel_rfl
theorem co12 : callOk Try.prog 12 = true := by kernel_rfl
theorem co13 : callOk Try.prog 13 = true := by kernel_rfl
theorem co14 : callOk Try.prog 14 = true := by kernel_rfl
theorem co15 : callOk Try.prog 15 = true := by kernel_rfl
theorem co16 : callOk Try.prog 16 = true := by kernel_rfl
theorem co17 : callOk Try.prog 17 = true := by kernel_rfl
theorem co18 : callOk Try.prog 18 = true := by kernel_rfl
theorem co19 : callOk Try.prog 19 = true := by kernel_rfl
theorem co20 : callOk Try.prog 20 = true := by kernel_rfl
theorem co21 : callOk Try.prog 21 = true := by kernel_rfl
theorem co22 : callOk Try.prog 22 = true := by kernel_rfl
theorem co23 : callOk Try.prog 23 = true := by kernel_rfl
theorem co24 : callOk Try.prog 24 = true := by kernel_rfl
theorem co25 : callOk Try.prog 25 = true := by kernel_rfl
theorem co26 : callOk Try.prog 26 = true := by kernel_rfl
theorem co27 : callOk Try.prog 27 = true := by kernel_rfl
theorem co29 : callOk Try.prog 29 = true := by kernel_rfl
theorem co30 : callOk Try.prog 30 = true := by kernel_rfl
theorem co31 : callOk Try.prog 31 = true := by kernel_rfl
theorem co32 : callOk Try.prog 32 = true := by kernel_rfl
theorem co33 : callOk Try.prog 33 = true := by kernel_rfl
theorem co34 : callOk Try.prog 34 = true := by kernel_rfl
theorem co35 : callOk Try.prog 35 = true := by kernel_rfl
theorem co36 : callOk Try.prog 36 = true := by kernel_rfl
theorem co37 : callOk Try.prog 37 = true := by kernel_rfl
theorem co9 : callOk Try.prog 9 = true := by kernel_rfl
theorem cv37_3 : convTo Try.prog 37 3 = some .i64 := by kernel_rfl
theorem cv3_47 : convTo Try.prog 3 47 = some .u64 := by kernel_rfl
theorem cv3_5 : convTo Try.prog 3 5 = some .u8 := by kernel_rfl
theorem cv3_51 : convTo Try.prog 3 51 = some .u64 := by kernel_rfl
theorem cv51_3 : convTo Try.prog 51 3 = some .i64 := by kernel_rfl
theorem cv51_5 : convTo Try.prog 51 5 = some .u8 := by kernel_rfl
theorem cv5_3 : convTo Try.prog 5 3 = some .i64 := by kernel_rfl
theorem cv5_51 : convTo Try.prog 5 51 = some .u64 := by kernel_rfl
theorem ek22 : elemK Try.prog 22 = some (3, 1, 8, [.int .i64 0]) := by kernel_rfl
theorem ek23 : elemK Try.prog 23 = some (5, 1, 1, [.int .u8 0]) := by kernel_rfl
theorem ek32 : elemK Try.prog 32 = some (22, 1, 24, [.slice none 0 0]) := by kernel_rfl
theorem el22 : elemSz Try.prog 22 = some (3, 1) := by kernel_rfl
theorem el23 : elemSz Try.prog 23 = some (5, 1) := by kernel_rfl
theorem el32 : elemSz Try.prog 32 = some (22, 1) := by kernel_rfl
theorem fo57_0 : fieldOff Try.prog 57 0 = some 0 := by kernel_rfl
theorem fs57 : fieldsS Try.prog 57 = some [(0, 1)] := by kernel_rfl
theorem fs65 : fieldsS Try.prog 65 = some [] := by kernel_rfl
theorem ia48 : intsA Try.prog 48 = some (8, .u8) := by kernel_rfl
theorem len22 : lenKd Try.prog 22 = .slice := by kernel_rfl
theorem len23 : lenKd Try.prog 23 = .slice := by kernel_rfl
theorem len32 : lenKd Try.prog 32 = .slice := by kernel_rfl
theorem sz22 : szOf Try.prog 22 = some 1 := by kernel_rfl
theorem sz23 : szOf Try.prog 23 = some 1 := by kernel_rfl
theorem sz25 : szOf Try.prog 25 = some 1 := by kernel_rfl
theorem sz3 : szOf Try.prog 3 = some 1 := by kernel_rfl
theorem sz48 : szOf Try.prog 48 = some 8 := by kernel_rfl
theorem sz5 : szOf Try.prog 5 = some 1 := by kernel_rfl
theorem sz51 : szOf Try.prog 51 = some 1 := by kernel_rfl
theorem sz57 : szOf Try.prog 57 = some 1 := by kernel_rfl
theorem sz65 : szOf Try.prog 65 = some 0 := by kernel_rfl
theorem ze22 : zeroS Try.prog 22 = some [.val (.slice none 0 0)] := by kernel_rfl
theorem ze25 : zeroS Try.prog 25 = some [.val (.int .i64 0)] := by kernel_rfl
theorem ze3 : zeroS Try.prog 3 = some [.val (.int .i64 0)] := by kernel_rfl
theorem ze48 : zeroS Try.prog 48 = some [.val (.int .u8 0), .val (.int .u8 0), .val (.int .u8 0), .val (.int .u8 0), .val (.int .u8 0), .val (.int .u8 0), .val (.int .u8 0), .val (.int .u8 0)] := by kernel_rfl
theorem ze5 : zeroS Try.prog 5 = some [.val (.int .u8 0)] := by kernel_rfl
theorem ze51 : zeroS Try.prog 51 = some [.val (.int .u64 0)] := by kernel_rfl
theorem ze57 : zeroS Try.prog 57 = some [.val (.slice none 0 0)] := by kernel_rfl
theorem ze65 : zeroS Try.prog 65 = some [] := by kernel_rfl
theorem ty : (aggB Try.prog 22 = some false) ∧ (aggB Try.prog 23 = some false) ∧ (aggB Try.prog 25 = some false) ∧ (aggB Try.prog 3 = some false) ∧ (aggB Try.prog 48 = some true) ∧ (aggB Try.prog 5 = some false) ∧ (aggB Try.prog 51 = some false) ∧ (aggB Try.prog 57 = some true) ∧ (aggB Try.prog 65 = some true) ∧ (convTo Try.prog 37 3 = some .i64) ∧ (convTo Try.prog 3 47 = some .u64) ∧ (convTo Try.prog 3 5 = some .u8) ∧ (convTo Try.prog 3 51 = some .u64) ∧ (convTo Try.prog 51 3 = some .i64) ∧ (convTo Try.prog 51 5 = some .u8) ∧ (convTo Try.prog 5 3 = some .i64) ∧ (convTo Try.prog 5 51 = some .u64) ∧ (elemSz Try.prog 22 = some (3, 1)) ∧ (elemSz Try.prog 23 = some (5, 1)) ∧ (elemSz Try.prog 32 = some (22, 1)) ∧ (fieldOff Try.prog 57 0 = some 0) ∧ (fieldsS Try.prog 57 = some [(0, 1)]) ∧ (fieldsS Try.prog 65 = some []) ∧ (lenKd Try.prog 22 = .slice) ∧ (lenKd Try.prog 23 = .slice) ∧ (lenKd Try.prog 32 = .slice) ∧ (szOf Try.prog 22 = some 1) ∧ (szOf Try.prog 23 = some 1) ∧ (szOf Try.prog 25 = some 1) ∧ (szOf Try.prog 3 = some 1) ∧ (szOf Try.prog 48 = some 8) ∧ (szOf Try.prog 5 = some 1) ∧ (szOf Try.prog 51 = some 1) ∧ (szOf Try.prog 57 = some 1) ∧ (szOf Try.prog 65 = some 0) ∧ (zeroS Try.prog 22 = some [.val (.slice none 0 0)]) ∧ (zeroS Try.prog 25 = some [.val (.int .i64 0)]) ∧ (zeroS Try.prog 3 = some [.val (.int .i64 0)]) ∧ (zeroS Try.prog 48 = some [.val (.int .u8 0), .val (.int .u8 0), .val (.int .u8 0), .val (.int .u8 0), .val (.int .u8 0), .val (.int .u8 0), .val (.int .u8 0), .val (.int .u8 0)]) ∧ (zeroS Try.prog 5 = some [.val (.int .u8 0)]) ∧ (zeroS Try.prog 51 = some [.val (.int .u64 0)]) ∧ (zeroS Try.prog 57 = some [.val (.slice none 0 0)]) ∧ (zeroS Try.prog 65 = some []) := ⟨agg22, agg23, agg25, agg3, agg48, agg5, agg51, agg57, agg65, cv37_3, cv3_47, cv3_5, cv3_51, cv51_3, cv51_5, cv5_3, cv5_51, el22, el23, el32, fo57_0, fs57, fs65, len22, len23, len32, sz22, sz23, sz25, sz3, sz48, sz5, sz51, sz57, sz65, ze22, ze25, ze3, ze48, ze5, ze51, ze57, ze65⟩
theorem mixed : Try.prog.follows .mixedOrders = true := by kernel_rfl
end Go.Proofs.Ytnbfdncmlbegmaa
