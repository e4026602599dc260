/-
  Closed facts on the program's types and functions, each checked by the kernel.
-/
import Derived.Test.YtblagioibffgcaaSxSet
import Derived.Test.YtblagioibffgcaaRows
set_option maxRecDepth 100000
namespace Go.Proofs.Ytblagioibffgcaa
open Go Go.SX
theorem agg3 : aggB Try.prog 3 = some false := by kernel_rfl
theorem agg33 : aggB Try.prog 33 = some false := by kernel_rfl
theorem agg35 : aggB Try.prog 35 = some true := by kernel_rfl
theorem agg37 : aggB Try.prog 37 = some true := by kernel_rfl
theorem bo4 : boolT Try.prog 4 = true := by kernel_rfl
theorem co10 : callOk Try.prog 10 = true := by kernel_rfl
theorem co11 : callOk Try.prog 11 = true := by kernel_rfl
theorem co12 : callOk Try.prog 12 = true := by kernel_rfl
theorem co13 : callOk Try.prog 13 = true := by kernel_rfl
theorem co14 : callOk Try.prog 14 = true := by kernel_rfl
theorem co15 : callOk Try.prog 15 = true := by kernel_rfl
theorem co16 : callOk Try.prog 16 = true := by kernel_rfl
theorem co17 : callOk Try.prog 17 = true := by kernel_rfl
theorem co18 : callOk Try.prog 18 = true := by kernel_rfl
theorem co19 : callOk Try.prog 19 = true := by kernel_rfl
theorem co20 : callOk Try.prog 20 = true := by kernel_rfl
theorem co21 : callOk Try.prog 21 = true := by kernel_rfl
theorem co22 : callOk Try.prog 22 = true := by kernel_rfl
theorem co23 : callOk Try.prog 23 = true := by kernel_rfl
theorem co24 : callOk Try.prog 24 = true := by kernel_rfl
theorem co25 : callOk Try.prog 25 = true := by kernel_rfl
theorem co26 : callOk Try.prog 26 = true := by kernel_rfl
theorem co27 : callOk Try.prog 27 = true := by kernel_rfl
theorem co28 : callOk Try.prog 28 = true := by kernel_rfl
theorem co29 : callOk Try.prog 29 = true := by kernel_rfl
theorem co30 : callOk Try.prog 30 = true := by kernel_rfl
theorem co31 : callOk Try.prog 31 = true := by kernel_rfl
theorem co32 : callOk Try.prog 32 = true := by kernel_rfl
theorem co33 : callOk Try.prog 33 = true := by kernel_rfl
theorem co34 : callOk Try.prog 34 = true := by kernel_rfl
theorem co35 : callOk Try.prog 35 = true := by kernel_rfl
theorem co36 : callOk Try.prog 36 = true := by kernel_rfl
theorem co8 : callOk Try.prog 8 = true := by kernel_rfl
theorem co9 : callOk Try.prog 9 = true := by kernel_rfl
theorem cv32_3 : convTo Try.prog 32 3 = some .i64 := by kernel_rfl
theorem cv5_3 : convTo Try.prog 5 3 = some .i64 := by kernel_rfl
theorem ek22 : elemK Try.prog 22 = some (35, 4, 48, [.int .i64 0, .int .i64 0, .int .i64 0, .slice none 0 0]) := by kernel_rfl
theorem ek23 : elemK Try.prog 23 = some (37, 4, 32, [.int .i64 0, .int .i64 0, .int .i64 0, .int .i64 0]) := by kernel_rfl
theorem ek26 : elemK Try.prog 26 = some (33, 1, 24, [.slice none 0 0]) := by kernel_rfl
theorem ek33 : elemK Try.prog 33 = some (3, 1, 8, [.int .i64 0]) := by kernel_rfl
theorem el22 : elemSz Try.prog 22 = some (35, 4) := by kernel_rfl
theorem el23 : elemSz Try.prog 23 = some (37, 4) := by kernel_rfl
theorem el26 : elemSz Try.prog 26 = some (33, 1) := by kernel_rfl
theorem el33 : elemSz Try.prog 33 = some (3, 1) := by kernel_rfl
theorem fo35_0 : fieldOff Try.prog 35 0 = some 0 := by kernel_rfl
theorem fo35_1 : fieldOff Try.prog 35 1 = some 1 := by kernel_rfl
theorem fo35_2 : fieldOff Try.prog 35 2 = some 2 := by kernel_rfl
theorem fo35_3 : fieldOff Try.prog 35 3 = some 3 := by kernel_rfl
theorem fo37_0 : fieldOff Try.prog 37 0 = some 0 := by kernel_rfl
theorem fo37_1 : fieldOff Try.prog 37 1 = some 1 := by kernel_rfl
theorem fo37_2 : fieldOff Try.prog 37 2 = some 2 := by kernel_rfl
theorem fo37_3 : fieldOff Try.prog 37 3 = some 3 := by kernel_rfl
theorem fs35 : fieldsS Try.prog 35 = some [(0, 1), (1, 1), (2, 1), (3, 1)] := by kernel_rfl
theorem fs37 : fieldsS Try.prog 37 = some [(0, 1), (1, 1), (2, 1), (3, 1)] := by kernel_rfl
theorem len22 : lenKd Try.prog 22 = .slice := by kernel_rfl
theorem len23 : lenKd Try.prog 23 = .slice := by kernel_rfl
theorem len26 : lenKd Try.prog 26 = .slice := by kernel_rfl
theorem len33 : lenKd Try.prog 33 = .slice := by kernel_rfl
theorem ms59 : mapSet Try.prog 59 = some (3, 4) := by kernel_rfl
theorem sz3 : szOf Try.prog 3 = some 1 := by kernel_rfl
theorem sz33 : szOf Try.prog 33 = some 1 := by kernel_rfl
theorem sz35 : szOf Try.prog 35 = some 4 := by kernel_rfl
theorem sz37 : szOf Try.prog 37 = some 4 := by kernel_rfl
theorem ze3 : zeroS Try.prog 3 = some [.val (.int .i64 0)] := by kernel_rfl
theorem ze33 : zeroS Try.prog 33 = some [.val (.slice none 0 0)] := by kernel_rfl
theorem ze35 : zeroS Try.prog 35 = some [.val (.int .i64 0), .val (.int .i64 0), .val (.int .i64 0), .val (.slice none 0 0)] := by kernel_rfl
theorem ze37 : zeroS Try.prog 37 = some [.val (.int .i64 0), .val (.int .i64 0), .val (.int .i64 0), .val (.int .i64 0)] := by kernel_rfl
theorem ty : (aggB Try.prog 3 = some false) ∧ (aggB Try.prog 33 = some false) ∧ (aggB Try.prog 35 = some true) ∧ (aggB Try.prog 37 = some true) ∧ (boolT Try.prog 4 = true) ∧ (convTo Try.prog 32 3 = some .i64) ∧ (convTo Try.prog 5 3 = some .i64) ∧ (elemSz Try.prog 22 = some (35, 4)) ∧ (elemSz Try.prog 23 = some (37, 4)) ∧ (elemSz Try.prog 26 = some (33, 1)) ∧ (elemSz Try.prog 33 = some (3, 1)) ∧ (fieldOff Try.prog 35 0 = some 0) ∧ (fieldOff Try.prog 35 1 = some 1) ∧ (fieldOff Try.prog 35 2 = some 2) ∧ (fieldOff Try.prog 35 3 = some 3) ∧ (fieldOff Try.prog 37 0 = some 0) ∧ (fieldOff Try.prog 37 1 = some 1) ∧ (fieldOff Try.prog 37 2 = some 2) ∧ (fieldOff Try.prog 37 3 = some 3) ∧ (fieldsS Try.prog 35 = some [(0, 1), (1, 1), (2, 1), (3, 1)]) ∧ (fieldsS Try.prog 37 = some [(0, 1), (1, 1), (2, 1), (3, 1)]) ∧ (lenKd Try.prog 22 = .slice) ∧ (lenKd Try.prog 23 = .slice) ∧ (lenKd Try.prog 26 = .slice) ∧ (lenKd Try.prog 33 = .slice) ∧ (szOf Try.prog 3 = some 1) ∧ (szOf Try.prog 33 = some 1) ∧ (szOf Try.prog 35 = some 4) ∧ (szOf Try.prog 37 = some 4) ∧ (zeroS Try.prog 3 = some [.val (.int .i64 0)]) ∧ (zeroS Try.prog 33 = some [.val (.slice none 0 0)]) ∧ (zeroS Try.prog 35 = some [.val (.int .i64 0), .val (.int .i64 0), .val (.int .i64 0), .val (.slice none 0 0)]) ∧ (zeroS Try.prog 37 = some [.val (.int .i64 0), .val (.int .i64 0), .val (.int .i64 0), .val (.int .i64 0)]) := ⟨agg3, agg33, agg35, agg37, bo4, cv32_3, cv5_3, el22, el23, el26, el33, fo35_0, fo35_1, fo35_2, fo35_3, fo37_0, fo37_1, fo37_2, fo37_3, fs35, fs37, len22, len23, len26, len33, sz3, sz33, sz35, sz37, ze3, ze33, ze35, ze37⟩
theorem mixed : Try.prog.follows .mixedOrders = true := by kernel_rfl
theorem beq4 (a b : Bool) : binS Try.prog 4 .eql (.bool a) (.bool b) = some (.bool (a == b)) := r_beql 4 a b bo4
theorem bne4 (a b : Bool) : binS Try.prog 4 .neq (.bool a) (.bool b) = some (.bool (!(a == b))) := r_bneq 4 a b bo4
end Go.Proofs.Ytblagioibffgcaa
