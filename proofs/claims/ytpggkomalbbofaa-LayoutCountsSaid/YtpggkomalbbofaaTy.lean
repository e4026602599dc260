/-
  Closed facts on the program's types and functions, each checked by the kernel.
-/
import Derived.Test.YtpggkomalbbofaaSxRng
import Derived.Test.YtpggkomalbbofaaRows
set_option maxRecDepth 100000
namespace Go.Proofs.Ytpggkomalbbofaa
open Go Go.SX
theorem agg22 : aggB Try.prog 22 = some false := by kernel_rfl
theorem agg23 : aggB Try.prog 23 = some false := by kernel_rfl
theorem agg3 : aggB Try.prog 3 = some false := by kernel_rfl
theorem agg36 : aggB Try.prog 36 = some true := by kernel_rfl
theorem agg4 : aggB Try.prog 4 = some false := by kernel_rfl
theorem agg43 : aggB Try.prog 43 = some false := by kernel_rfl
theorem agg45 : aggB Try.prog 45 = some true := by kernel_rfl
theorem agg49 : aggB Try.prog 49 = some true := by kernel_rfl
theorem agg53 : aggB Try.prog 53 = some false := by kernel_rfl
theorem agg54 : aggB Try.prog 54 = some true := by kernel_rfl
theorem agg57 : aggB Try.prog 57 = some true := by kernel_rfl
theorem ar45 : arrP Try.prog 45 = some (3, 3, 1) := by kernel_rfl
theorem ar49 : arrP Try.prog 49 = some (2, 45, 3) := by kernel_rfl
theorem ar54 : arrP Try.prog 54 = some (2, 53, 1) := by kernel_rfl
theorem bo4 : boolT Try.prog 4 = true := by kernel_rfl
theorem co10 : callOk Try.prog 10 = true := by kernel_rfl
theorem co11 : callOk Try.prog 11 = true := by kernel_rfl
theorem co12 : callOk Try.prog 12 = true := by kernel_rfl
theorem co13 : callOk Try.prog 13 = true := by kernel_rfl
theorem co14 : callOk Try.prog 14 = true := by kernel_rfl
theorem co15 : callOk Try.prog 15 = true := by kernel_rfl
theorem co16 : callOk Try.prog 16 = true := by kernel_rfl
theorem co17 : callOk Try.prog 17 = true := by kernel_rfl
theorem co18 : callOk Try.prog 18 = true := by kernel_rfl
theorem co19 : callOk Try.prog 19 = true := by kernel_rfl
theorem co20 : callOk Try.prog 20 = true := by kernel_rfl
theorem co21 : callOk Try.prog 21 = true := by kernel_rfl
theorem co22 : callOk Try.prog 22 = true := by kernel_rfl
theorem co23 : callOk Try.prog 23 = true := by kernel_rfl
theorem co24 : callOk Try.prog 24 = true := by kernel_rfl
theorem co25 : callOk Try.prog 25 = true := by kernel_rfl
theorem co26 : callOk Try.prog 26 = true := by kernel_rfl
theorem co27 : callOk Try.prog 27 = true := by kernel_rfl
theorem co28 : callOk Try.prog 28 = true := by kernel_rfl
theorem co29 : callOk Try.prog 29 = true := by kernel_rfl
theorem co30 : callOk Try.prog 30 = true := by kernel_rfl
theorem co31 : callOk Try.prog 31 = true := by kernel_rfl
theorem co32 : callOk Try.prog 32 = true := by kernel_rfl
theorem co33 : callOk Try.prog 33 = true := by kernel_rfl
theorem co34 : callOk Try.prog 34 = true := by kernel_rfl
theorem co35 : callOk Try.prog 35 = true := by kernel_rfl
theorem co36 : callOk Try.prog 36 = true := by kernel_rfl
theorem co37 : callOk Try.prog 37 = true := by kernel_rfl
theorem co38 : callOk Try.prog 38 = true := by kernel_rfl
theorem co9 : callOk Try.prog 9 = true := by kernel_rfl
theorem cv5_3 : convTo Try.prog 5 3 = some .i64 := by kernel_rfl
theorem ek23 : elemK Try.prog 23 = some (4, 1, 1, [.bool false]) := by kernel_rfl
theorem ek24 : elemK Try.prog 24 = some (36, 2, 16, [.int .i64 0, .int .i64 0]) := by kernel_rfl
theorem ek43 : elemK Try.prog 43 = some (49, 6, 48, [.int .i64 0, .int .i64 0, .int .i64 0, .int .i64 0, .int .i64 0, .int .i64 0]) := by kernel_rfl
theorem ek53 : elemK Try.prog 53 = some (57, 3, 24, [.int .i64 0, .int .i64 0, .int .i64 0]) := by kernel_rfl
theorem el22 : elemSz Try.prog 22 = some (3, 1) := by kernel_rfl
theorem el23 : elemSz Try.prog 23 = some (4, 1) := by kernel_rfl
theorem el24 : elemSz Try.prog 24 = some (36, 2) := by kernel_rfl
theorem el43 : elemSz Try.prog 43 = some (49, 6) := by kernel_rfl
theorem el53 : elemSz Try.prog 53 = some (57, 3) := by kernel_rfl
theorem fo36_0 : fieldOff Try.prog 36 0 = some 0 := by kernel_rfl
theorem fo36_1 : fieldOff Try.prog 36 1 = some 1 := by kernel_rfl
theorem fo57_0 : fieldOff Try.prog 57 0 = some 0 := by kernel_rfl
theorem fo57_1 : fieldOff Try.prog 57 1 = some 1 := by kernel_rfl
theorem fo57_2 : fieldOff Try.prog 57 2 = some 2 := by kernel_rfl
theorem fs36 : fieldsS Try.prog 36 = some [(0, 1), (1, 1)] := by kernel_rfl
theorem fs45 : fieldsS Try.prog 45 = some [(0, 1), (1, 1), (2, 1)] := by kernel_rfl
theorem fs57 : fieldsS Try.prog 57 = some [(0, 1), (1, 1), (2, 1)] := by kernel_rfl
theorem ia45 : intsA Try.prog 45 = some (3, .i64) := by kernel_rfl
theorem it36 : intsT Try.prog 36 = some 2 := by kernel_rfl
theorem len22 : lenKd Try.prog 22 = .slice := by kernel_rfl
theorem len23 : lenKd Try.prog 23 = .slice := by kernel_rfl
theorem len24 : lenKd Try.prog 24 = .slice := by kernel_rfl
theorem sz22 : szOf Try.prog 22 = some 1 := by kernel_rfl
theorem sz23 : szOf Try.prog 23 = some 1 := by kernel_rfl
theorem sz3 : szOf Try.prog 3 = some 1 := by kernel_rfl
theorem sz36 : szOf Try.prog 36 = some 2 := by kernel_rfl
theorem sz4 : szOf Try.prog 4 = some 1 := by kernel_rfl
theorem sz43 : szOf Try.prog 43 = some 1 := by kernel_rfl
theorem sz45 : szOf Try.prog 45 = some 3 := by kernel_rfl
theorem sz49 : szOf Try.prog 49 = some 6 := by kernel_rfl
theorem sz53 : szOf Try.prog 53 = some 1 := by kernel_rfl
theorem sz54 : szOf Try.prog 54 = some 2 := by kernel_rfl
theorem sz57 : szOf Try.prog 57 = some 3 := by kernel_rfl
theorem ze3 : zeroS Try.prog 3 = some [.val (.int .i64 0)] := by kernel_rfl
theorem ze36 : zeroS Try.prog 36 = some [.val (.int .i64 0), .val (.int .i64 0)] := by kernel_rfl
theorem ze4 : zeroS Try.prog 4 = some [.val (.bool false)] := by kernel_rfl
theorem ze43 : zeroS Try.prog 43 = some [.val (.slice none 0 0)] := by kernel_rfl
theorem ze45 : zeroS Try.prog 45 = some [.val (.int .i64 0), .val (.int .i64 0), .val (.int .i64 0)] := by kernel_rfl
theorem ze54 : zeroS Try.prog 54 = some [.val (.slice none 0 0), .val (.slice none 0 0)] := by kernel_rfl
theorem ze57 : zeroS Try.prog 57 = some [.val (.int .i64 0), .val (.int .i64 0), .val (.int .i64 0)] := by kernel_rfl
theorem ty : (aggB Try.prog 22 = some false) ∧ (aggB Try.prog 23 = some false) ∧ (aggB Try.prog 3 = some false) ∧ (aggB Try.prog 36 = some true) ∧ (aggB Try.prog 4 = some false) ∧ (aggB Try.prog 43 = some false) ∧ (aggB Try.prog 45 = some true) ∧ (aggB Try.prog 49 = some true) ∧ (aggB Try.prog 53 = some false) ∧ (aggB Try.prog 54 = some true) ∧ (aggB Try.prog 57 = some true) ∧ (boolT Try.prog 4 = true) ∧ (convTo Try.prog 5 3 = some .i64) ∧ (elemSz Try.prog 22 = some (3, 1)) ∧ (elemSz Try.prog 23 = some (4, 1)) ∧ (elemSz Try.prog 24 = some (36, 2)) ∧ (elemSz Try.prog 43 = some (49, 6)) ∧ (elemSz Try.prog 53 = some (57, 3)) ∧ (fieldOff Try.prog 36 0 = some 0) ∧ (fieldOff Try.prog 36 1 = some 1) ∧ (fieldOff Try.prog 57 0 = some 0) ∧ (fieldOff Try.prog 57 1 = some 1) ∧ (fieldOff Try.prog 57 2 = some 2) ∧ (fieldsS Try.prog 36 = some [(0, 1), (1, 1)]) ∧ (fieldsS Try.prog 45 = some [(0, 1), (1, 1), (2, 1)]) ∧ (fieldsS Try.prog 57 = some [(0, 1), (1, 1), (2, 1)]) ∧ (lenKd Try.prog 22 = .slice) ∧ (lenKd Try.prog 23 = .slice) ∧ (lenKd Try.prog 24 = .slice) ∧ (szOf Try.prog 22 = some 1) ∧ (szOf Try.prog 23 = some 1) ∧ (szOf Try.prog 3 = some 1) ∧ (szOf Try.prog 36 = some 2) ∧ (szOf Try.prog 4 = some 1) ∧ (szOf Try.prog 43 = some 1) ∧ (szOf Try.prog 45 = some 3) ∧ (szOf Try.prog 49 = some 6) ∧ (szOf Try.prog 53 = some 1) ∧ (szOf Try.prog 54 = some 2) ∧ (szOf Try.prog 57 = some 3) ∧ (zeroS Try.prog 3 = some [.val (.int .i64 0)]) ∧ (zeroS Try.prog 36 = some [.val (.int .i64 0), .val (.int .i64 0)]) ∧ (zeroS Try.prog 4 = some [.val (.bool false)]) ∧ (zeroS Try.prog 43 = some [.val (.slice none 0 0)]) ∧ (zeroS Try.prog 45 = some [.val (.int .i64 0), .val (.int .i64 0), .val (.int .i64 0)]) ∧ (zeroS Try.prog 54 = some [.val (.slice none 0 0), .val (.slice none 0 0)]) ∧ (zeroS Try.prog 57 = some [.val (.int .i64 0), .val (.int .i64 0), .val (.int .i64 0)]) := ⟨agg22, agg23, agg3, agg36, agg4, agg43, agg45, agg49, agg53, agg54, agg57, bo4, cv5_3, el22, el23, el24, el43, el53, fo36_0, fo36_1, fo57_0, fo57_1, fo57_2, fs36, fs45, fs57, len22, len23, len24, sz22, sz23, sz3, sz36, sz4, sz43, sz45, sz49, sz53, sz54, sz57, ze3, ze36, ze4, ze43, ze45, ze54, ze57⟩
theorem mixed : Try.prog.follows .mixedOrders = true := by kernel_rfl
theorem beq4 (a b : Bool) : binS Try.prog 4 .eql (.bool a) (.bool b) = some (.bool (a == b)) := r_beql 4 a b bo4
theorem bne4 (a b : Bool) : binS Try.prog 4 .neq (.bool a) (.bool b) = some (.bool (!(a == b))) := r_bneq 4 a b bo4
end Go.Proofs.Ytpggkomalbbofaa
