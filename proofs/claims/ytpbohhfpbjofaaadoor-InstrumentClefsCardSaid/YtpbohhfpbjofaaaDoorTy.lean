/-
  Closed facts on the program's types and functions, each checked by the kernel.
-/
import Derived.Test.YtpbohhfpbjofaaaDoorSxSet
import Derived.Test.YtpbohhfpbjofaaaDoorRows
set_option maxRecDepth 100000
namespace Go.Proofs.YtpbohhfpbjofaaaDoor
open Go Go.SX
theorem agg23 : aggB Tryd.prog 23 = some true := by kernel_rfl
theorem agg25 : aggB Tryd.prog 25 = some true := by kernel_rfl
theorem agg27 : aggB Tryd.prog 27 = some true := by kernel_rfl
theorem agg28 : aggB Tryd.prog 28 = some false := by kernel_rfl
theorem agg3 : aggB Tryd.prog 3 = some false := by kernel_rfl
theorem agg65 : aggB Tryd.prog 65 = some true := by kernel_rfl
theorem agg82 : aggB Tryd.prog 82 = some true := by kernel_rfl
theorem ar82 : arrP Tryd.prog 82 = some (7, 3, 1) := by kernel_rfl
theorem bo4 : boolT Tryd.prog 4 = true := by kernel_rfl
theorem co10 : callOk Tryd.prog 10 = true := by kernel_rfl
theorem co11 : callOk Tryd.prog 11 = true := by kernel_rfl
theorem co12 : callOk Tryd.prog 12 = true := by kernel_rfl
theorem co13 : callOk Tryd.prog 13 = true := by kernel_rfl
theorem co14 : callOk Tryd.prog 14 = true := by kernel_rfl
theorem co15 : callOk Tryd.prog 15 = true := by kernel_rfl
theorem co16 : callOk Tryd.prog 16 = true := by kernel_rfl
theorem co17 : callOk Tryd.prog 17 = true := by kernel_rfl
theorem co18 : callOk Tryd.prog 18 = true := by kernel_rfl
theorem co19 : callOk Tryd.prog 19 = true := by kernel_rfl
theorem co20 : callOk Tryd.prog 20 = true := by kernel_rfl
theorem co21 : callOk Tryd.prog 21 = true := by kernel_rfl
theorem co22 : callOk Tryd.prog 22 = true := by kernel_rfl
theorem co23 : callOk Tryd.prog 23 = true := by kernel_rfl
theorem co24 : callOk Tryd.prog 24 = true := by kernel_rfl
theorem co25 : callOk Tryd.prog 25 = true := by kernel_rfl
theorem co26 : callOk Tryd.prog 26 = true := by kernel_rfl
theorem co27 : callOk Tryd.prog 27 = true := by kernel_rfl
theorem co28 : callOk Tryd.prog 28 = true := by kernel_rfl
theorem co29 : callOk Tryd.prog 29 = true := by kernel_rfl
theorem co30 : callOk Tryd.prog 30 = true := by kernel_rfl
theorem co31 : callOk Tryd.prog 31 = true := by kernel_rfl
theorem co32 : callOk Tryd.prog 32 = true := by kernel_rfl
theorem co33 : callOk Tryd.prog 33 = true := by kernel_rfl
theorem co34 : callOk Tryd.prog 34 = true := by kernel_rfl
theorem co35 : callOk Tryd.prog 35 = true := by kernel_rfl
theorem co36 : callOk Tryd.prog 36 = true := by kernel_rfl
theorem co37 : callOk Tryd.prog 37 = true := by kernel_rfl
theorem co38 : callOk Tryd.prog 38 = true := by kernel_rfl
theorem co39 : callOk Tryd.prog 39 = true := by kernel_rfl
theorem co40 : callOk Tryd.prog 40 = true := by kernel_rfl
theorem co41 : callOk Tryd.prog 41 = true := by kernel_rfl
theorem co42 : callOk Tryd.prog 42 = true := by kernel_rfl
theorem co43 : callOk Tryd.prog 43 = true := by kernel_rfl
theorem co44 : callOk Tryd.prog 44 = true := by kernel_rfl
theorem co45 : callOk Tryd.prog 45 = true := by kernel_rfl
theorem co46 : callOk Tryd.prog 46 = true := by kernel_rfl
theorem co47 : callOk Tryd.prog 47 = true := by kernel_rfl
theorem co48 : callOk Tryd.prog 48 = true := by kernel_rfl
theorem co49 : callOk Tryd.prog 49 = true := by kernel_rfl
theorem co50 : callOk Tryd.prog 50 = true := by kernel_rfl
theorem co51 : callOk Tryd.prog 51 = true := by kernel_rfl
theorem co52 : callOk Tryd.prog 52 = true := by kernel_rfl
theorem co53 : callOk Tryd.prog 53 = true := by kernel_rfl
theorem co54 : callOk Tryd.prog 54 = true := by kernel_rfl
theorem co55 : callOk Tryd.prog 55 = true := by kernel_rfl
theorem co56 : callOk Tryd.prog 56 = true := by kernel_rfl
theorem co57 : callOk Tryd.prog 57 = true := by kernel_rfl
theorem co58 : callOk Tryd.prog 58 = true := by kernel_rfl
theorem co59 : callOk Tryd.prog 59 = true := by kernel_rfl
theorem co60 : callOk Tryd.prog 60 = true := by kernel_rfl
theorem co61 : callOk Tryd.prog 61 = true := by kernel_rfl
theorem co62 : callOk Tryd.prog 62 = true := by kernel_rfl
theorem co63 : callOk Tryd.prog 63 = true := by kernel_rfl
theorem co64 : callOk Tryd.prog 64 = true := by kernel_rfl
theorem co65 : callOk Tryd.prog 65 = true := by kernel_rfl
theorem co66 : callOk Tryd.prog 66 = true := by kernel_rfl
theorem co67 : callOk Tryd.prog 67 = true := by kernel_rfl
theorem co68 : callOk Tryd.prog 68 = true := by kernel_rfl
theorem co69 : callOk Tryd.prog 69 = true := by kernel_rfl
theorem co70 : callOk Tryd.prog 70 = true := by kernel_rfl
theorem co71 : callOk Tryd.prog 71 = true := by kernel_rfl
theorem co72 : callOk Tryd.prog 72 = true := by kernel_rfl
theorem co73 : callOk Tryd.prog 73 = true := by kernel_rfl
theorem cv5_3 : convTo Tryd.prog 5 3 = some .i64 := by kernel_rfl
theorem ek28 : elemK Tryd.prog 28 = some (25, 3, 24, [.int .i64 0, .int .i64 0, .int .i64 0]) := by kernel_rfl
theorem el28 : elemSz Tryd.prog 28 = some (25, 3) := by kernel_rfl
theorem el67 : elemSz Tryd.prog 67 = some (65, 3) := by kernel_rfl
theorem el81 : elemSz Tryd.prog 81 = some (3, 1) := by kernel_rfl
theorem fa65_0 : fieldAt' Tryd.prog 65 0 = some (0, 1, false) := by kernel_rfl
theorem fo23_0 : fieldOff Tryd.prog 23 0 = some 0 := by kernel_rfl
theorem fo23_1 : fieldOff Tryd.prog 23 1 = some 1 := by kernel_rfl
theorem fo25_0 : fieldOff Tryd.prog 25 0 = some 0 := by kernel_rfl
theorem fo25_1 : fieldOff Tryd.prog 25 1 = some 1 := by kernel_rfl
theorem fo25_2 : fieldOff Tryd.prog 25 2 = some 2 := by kernel_rfl
theorem fo27_5 : fieldOff Tryd.prog 27 5 = some 5 := by kernel_rfl
theorem fo27_6 : fieldOff Tryd.prog 27 6 = some 7 := by kernel_rfl
theorem fo27_7 : fieldOff Tryd.prog 27 7 = some 10 := by kernel_rfl
theorem fo65_1 : fieldOff Tryd.prog 65 1 = some 1 := by kernel_rfl
theorem fo65_2 : fieldOff Tryd.prog 65 2 = some 2 := by kernel_rfl
theorem fs23 : fieldsS Tryd.prog 23 = some [(0, 1), (1, 1)] := by kernel_rfl
theorem fs25 : fieldsS Tryd.prog 25 = some [(0, 1), (1, 1), (2, 1)] := by kernel_rfl
theorem fs27 : fieldsS Tryd.prog 27 = some [(0, 1), (1, 1), (2, 1), (3, 1), (4, 1), (5, 2), (7, 3), (10, 3)] := by kernel_rfl
theorem fs65 : fieldsS Tryd.prog 65 = some [(0, 1), (1, 1), (2, 1)] := by kernel_rfl
theorem fs82 : fieldsS Tryd.prog 82 = some [(0, 1), (1, 1), (2, 1), (3, 1), (4, 1), (5, 1), (6, 1)] := by kernel_rfl
theorem it23 : intsT Tryd.prog 23 = some 2 := by kernel_rfl
theorem it25 : intsT Tryd.prog 25 = some 3 := by kernel_rfl
theorem len28 : lenKd Tryd.prog 28 = .slice := by kernel_rfl
theorem len67 : lenKd Tryd.prog 67 = .slice := by kernel_rfl
theorem len81 : lenKd Tryd.prog 81 = .slice := by kernel_rfl
theorem sz23 : szOf Tryd.prog 23 = some 2 := by kernel_rfl
theorem sz25 : szOf Tryd.prog 25 = some 3 := by kernel_rfl
theorem sz27 : szOf Tryd.prog 27 = some 13 := by kernel_rfl
theorem sz28 : szOf Tryd.prog 28 = some 1 := by kernel_rfl
theorem sz3 : szOf Tryd.prog 3 = some 1 := by kernel_rfl
theorem sz65 : szOf Tryd.prog 65 = some 3 := by kernel_rfl
theorem sz82 : szOf Tryd.prog 82 = some 7 := by kernel_rfl
theorem ze23 : zeroS Tryd.prog 23 = some [.val (.int .i64 0), .val (.int .i64 0)] := by kernel_rfl
theorem ze25 : zeroS Tryd.prog 25 = some [.val (.int .i64 0), .val (.int .i64 0), .val (.int .i64 0)] := by kernel_rfl
theorem ze27 : zeroS Tryd.prog 27 = some [.val (.int .i64 0), .val (.int .i64 0), .val (.int .i64 0), .val (.int .i64 0), .val (.int .i64 0), .val (.int .i64 0), .val (.int .i64 0), .val (.int .i64 0), .val (.int .i64 0), .val (.int .i64 0), .val (.int .i64 0), .val (.int .i64 0), .val (.int .i64 0)] := by kernel_rfl
theorem ze3 : zeroS Tryd.prog 3 = some [.val (.int .i64 0)] := by kernel_rfl
theorem ze65 : zeroS Tryd.prog 65 = some [.val (.int .i64 0), .val (.int .i64 0), .val (.int .i64 0)] := by kernel_rfl
theorem ze82 : zeroS Tryd.prog 82 = some [.val (.int .i64 0), .val (.int .i64 0), .val (.int .i64 0), .val (.int .i64 0), .val (.int .i64 0), .val (.int .i64 0), .val (.int .i64 0)] := by kernel_rfl
theorem ty : (aggB Tryd.prog 23 = some true) ∧ (aggB Tryd.prog 25 = some true) ∧ (aggB Tryd.prog 27 = some true) ∧ (aggB Tryd.prog 28 = some false) ∧ (aggB Tryd.prog 3 = some false) ∧ (aggB Tryd.prog 65 = some true) ∧ (aggB Tryd.prog 82 = some true) ∧ (boolT Tryd.prog 4 = true) ∧ (convTo Tryd.prog 5 3 = some .i64) ∧ (elemSz Tryd.prog 28 = some (25, 3)) ∧ (elemSz Tryd.prog 67 = some (65, 3)) ∧ (elemSz Tryd.prog 81 = some (3, 1)) ∧ (fieldAt' Tryd.prog 65 0 = some (0, 1, false)) ∧ (fieldOff Tryd.prog 23 0 = some 0) ∧ (fieldOff Tryd.prog 23 1 = some 1) ∧ (fieldOff Tryd.prog 25 0 = some 0) ∧ (fieldOff Tryd.prog 25 1 = some 1) ∧ (fieldOff Tryd.prog 25 2 = some 2) ∧ (fieldOff Tryd.prog 27 5 = some 5) ∧ (fieldOff Tryd.prog 27 6 = some 7) ∧ (fieldOff Tryd.prog 27 7 = some 10) ∧ (fieldOff Tryd.prog 65 1 = some 1) ∧ (fieldOff Tryd.prog 65 2 = some 2) ∧ (fieldsS Tryd.prog 23 = some [(0, 1), (1, 1)]) ∧ (fieldsS Tryd.prog 25 = some [(0, 1), (1, 1), (2, 1)]) ∧ (fieldsS Tryd.prog 27 = some [(0, 1), (1, 1), (2, 1), (3, 1), (4, 1), (5, 2), (7, 3), (10, 3)]) ∧ (fieldsS Tryd.prog 65 = some [(0, 1), (1, 1), (2, 1)]) ∧ (fieldsS Tryd.prog 82 = some [(0, 1), (1, 1), (2, 1), (3, 1), (4, 1), (5, 1), (6, 1)]) ∧ (lenKd Tryd.prog 28 = .slice) ∧ (lenKd Tryd.prog 67 = .slice) ∧ (lenKd Tryd.prog 81 = .slice) ∧ (szOf Tryd.prog 23 = some 2) ∧ (szOf Tryd.prog 25 = some 3) ∧ (szOf Tryd.prog 27 = some 13) ∧ (szOf Tryd.prog 28 = some 1) ∧ (szOf Tryd.prog 3 = some 1) ∧ (szOf Tryd.prog 65 = some 3) ∧ (szOf Tryd.prog 82 = some 7) ∧ (zeroS Tryd.prog 23 = some [.val (.int .i64 0), .val (.int .i64 0)]) ∧ (zeroS Tryd.prog 25 = some [.val (.int .i64 0), .val (.int .i64 0), .val (.int .i64 0)]) ∧ (zeroS Tryd.prog 27 = some [.val (.int .i64 0), .val (.int .i64 0), .val (.int .i64 0), .val (.int .i64 0), .val (.int .i64 0), .val (.int .i64 0), .val (.int .i64 0), .val (.int .i64 0), .val (.int .i64 0), .val (.int .i64 0), .val (.int .i64 0), .val (.int .i64 0), .val (.int .i64 0)]) ∧ (zeroS Tryd.prog 3 = some [.val (.int .i64 0)]) ∧ (zeroS Tryd.prog 65 = some [.val (.int .i64 0), .val (.int .i64 0), .val (.int .i64 0)]) ∧ (zeroS Tryd.prog 82 = some [.val (.int .i64 0), .val (.int .i64 0), .val (.int .i64 0), .val (.int .i64 0), .val (.int .i64 0), .val (.int .i64 0), .val (.int .i64 0)]) := ⟨agg23, agg25, agg27, agg28, agg3, agg65, agg82, bo4, cv5_3, el28, el67, el81, fa65_0, fo23_0, fo23_1, fo25_0, fo25_1, fo25_2, fo27_5, fo27_6, fo27_7, fo65_1, fo65_2, fs23, fs25, fs27, fs65, fs82, len28, len67, len81, sz23, sz25, sz27, sz28, sz3, sz65, sz82, ze23, ze25, ze27, ze3, ze65, ze82⟩
theorem mixed : Tryd.prog.follows .mixedOrders = true := by kernel_rfl
theorem beq4 (a b : Bool) : binS Tryd.prog 4 .eql (.bool a) (.bool b) = some (.bool (a == b)) := r_beql 4 a b bo4
theorem bne4 (a b : Bool) : binS Tryd.prog 4 .neq (.bool a) (.bool b) = some (.bool (!(a == b))) := r_bneq 4 a b bo4
end Go.Proofs.YtpbohhfpbjofaaaDoor
