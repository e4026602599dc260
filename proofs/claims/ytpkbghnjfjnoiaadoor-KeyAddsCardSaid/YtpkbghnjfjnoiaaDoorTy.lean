/-
  Closed facts on the program's types and functions, each checked by the kernel.
-/
import Derived.Test.YtpkbghnjfjnoiaaDoorSxSet
import Derived.Test.YtpkbghnjfjnoiaaDoorRows
set_option maxRecDepth 100000
namespace Go.Proofs.YtpkbghnjfjnoiaaDoor
open Go Go.SX
theorem agg23 : aggB Tryd.prog 23 = some true := by kernel_rfl
theorem agg3 : aggB Tryd.prog 3 = some false := by kernel_rfl
theorem agg46 : aggB Tryd.prog 46 = some true := by kernel_rfl
theorem agg60 : aggB Tryd.prog 60 = some false := by kernel_rfl
theorem agg62 : aggB Tryd.prog 62 = some true := by kernel_rfl
theorem agg70 : aggB Tryd.prog 70 = some true := by kernel_rfl
theorem ar70 : arrP Tryd.prog 70 = some (7, 3, 1) := by kernel_rfl
theorem bo4 : boolT Tryd.prog 4 = true := by kernel_rfl
theorem co10 : callOk Tryd.prog 10 = true := by kernel_rfl
theorem co11 : callOk Tryd.prog 11 = true := by kernel_rfl
theorem co12 : callOk Tryd.prog 12 = true := by kernel_rfl
theorem co13 : callOk Tryd.prog 13 = true := by kernel_rfl
theorem co14 : callOk Tryd.prog 14 = true := by kernel_rfl
theorem co15 : callOk Tryd.prog 15 = true := by kernel_rfl
theorem co16 : callOk Tryd.prog 16 = true := by kernel_rfl
theorem co17 : callOk Tryd.prog 17 = true := by kernel_rfl
theorem co18 : callOk Tryd.prog 18 = true := by kernel_rfl
theorem co19 : callOk Tryd.prog 19 = true := by kernel_rfl
theorem co20 : callOk Tryd.prog 20 = true := by kernel_rfl
theorem co21 : callOk Tryd.prog 21 = true := by kernel_rfl
theorem co22 : callOk Tryd.prog 22 = true := by kernel_rfl
theorem co23 : callOk Tryd.prog 23 = true := by kernel_rfl
theorem co24 : callOk Tryd.prog 24 = true := by kernel_rfl
theorem co25 : callOk Tryd.prog 25 = true := by kernel_rfl
theorem co26 : callOk Tryd.prog 26 = true := by kernel_rfl
theorem co27 : callOk Tryd.prog 27 = true := by kernel_rfl
theorem co28 : callOk Tryd.prog 28 = true := by kernel_rfl
theorem co29 : callOk Tryd.prog 29 = true := by kernel_rfl
theorem co30 : callOk Tryd.prog 30 = true := by kernel_rfl
theorem co31 : callOk Tryd.prog 31 = true := by kernel_rfl
theorem co32 : callOk Tryd.prog 32 = true := by kernel_rfl
theorem co33 : callOk Tryd.prog 33 = true := by kernel_rfl
theorem co34 : callOk Tryd.prog 34 = true := by kernel_rfl
theorem co35 : callOk Tryd.prog 35 = true := by kernel_rfl
theorem co36 : callOk Tryd.prog 36 = true := by kernel_rfl
theorem co37 : callOk Tryd.prog 37 = true := by kernel_rfl
theorem co38 : callOk Tryd.prog 38 = true := by kernel_rfl
theorem co39 : callOk Tryd.prog 39 = true := by kernel_rfl
theorem co40 : callOk Tryd.prog 40 = true := by kernel_rfl
theorem co41 : callOk Tryd.prog 41 = true := by kernel_rfl
theorem co42 : callOk Tryd.prog 42 = true := by kernel_rfl
theorem co43 : callOk Tryd.prog 43 = true := by kernel_rfl
theorem co44 : callOk Tryd.prog 44 = true := by kernel_rfl
theorem co45 : callOk Tryd.prog 45 = true := by kernel_rfl
theorem co46 : callOk Tryd.prog 46 = true := by kernel_rfl
theorem co47 : callOk Tryd.prog 47 = true := by kernel_rfl
theorem co48 : callOk Tryd.prog 48 = true := by kernel_rfl
theorem co49 : callOk Tryd.prog 49 = true := by kernel_rfl
theorem co50 : callOk Tryd.prog 50 = true := by kernel_rfl
theorem co9 : callOk Tryd.prog 9 = true := by kernel_rfl
theorem cv43_3 : convTo Tryd.prog 43 3 = some .i64 := by kernel_rfl
theorem cv5_3 : convTo Tryd.prog 5 3 = some .i64 := by kernel_rfl
theorem ek24 : elemK Tryd.prog 24 = some (46, 3, 24, [.int .i64 0, .int .i64 0, .int .i64 0]) := by kernel_rfl
theorem ek25 : elemK Tryd.prog 25 = some (3, 1, 8, [.int .i64 0]) := by kernel_rfl
theorem el24 : elemSz Tryd.prog 24 = some (46, 3) := by kernel_rfl
theorem el25 : elemSz Tryd.prog 25 = some (3, 1) := by kernel_rfl
theorem fo23_0 : fieldOff Tryd.prog 23 0 = some 0 := by kernel_rfl
theorem fo23_1 : fieldOff Tryd.prog 23 1 = some 1 := by kernel_rfl
theorem fo46_0 : fieldOff Tryd.prog 46 0 = some 0 := by kernel_rfl
theorem fo46_1 : fieldOff Tryd.prog 46 1 = some 1 := by kernel_rfl
theorem fo46_2 : fieldOff Tryd.prog 46 2 = some 2 := by kernel_rfl
theorem fo62_0 : fieldOff Tryd.prog 62 0 = some 0 := by kernel_rfl
theorem fo62_1 : fieldOff Tryd.prog 62 1 = some 1 := by kernel_rfl
theorem fs23 : fieldsS Tryd.prog 23 = some [(0, 1), (1, 1)] := by kernel_rfl
theorem fs46 : fieldsS Tryd.prog 46 = some [(0, 1), (1, 1), (2, 1)] := by kernel_rfl
theorem fs62 : fieldsS Tryd.prog 62 = some [(0, 1), (1, 1)] := by kernel_rfl
theorem fs70 : fieldsS Tryd.prog 70 = some [(0, 1), (1, 1), (2, 1), (3, 1), (4, 1), (5, 1), (6, 1)] := by kernel_rfl
theorem fs74 : fieldsS Tryd.prog 74 = some [(0, 1), (1, 1)] := by kernel_rfl
theorem it23 : intsT Tryd.prog 23 = some 2 := by kernel_rfl
theorem it46 : intsT Tryd.prog 46 = some 3 := by kernel_rfl
theorem len24 : lenKd Tryd.prog 24 = .slice := by kernel_rfl
theorem len25 : lenKd Tryd.prog 25 = .slice := by kernel_rfl
theorem pm60 : mapPM Tryd.prog 60 = some (74, 3) := by kernel_rfl
theorem sz23 : szOf Tryd.prog 23 = some 2 := by kernel_rfl
theorem sz3 : szOf Tryd.prog 3 = some 1 := by kernel_rfl
theorem sz46 : szOf Tryd.prog 46 = some 3 := by kernel_rfl
theorem sz60 : szOf Tryd.prog 60 = some 1 := by kernel_rfl
theorem sz62 : szOf Tryd.prog 62 = some 2 := by kernel_rfl
theorem sz70 : szOf Tryd.prog 70 = some 7 := by kernel_rfl
theorem ze23 : zeroS Tryd.prog 23 = some [.val (.int .i64 0), .val (.int .i64 0)] := by kernel_rfl
theorem ze3 : zeroS Tryd.prog 3 = some [.val (.int .i64 0)] := by kernel_rfl
theorem ze46 : zeroS Tryd.prog 46 = some [.val (.int .i64 0), .val (.int .i64 0), .val (.int .i64 0)] := by kernel_rfl
theorem ze62 : zeroS Tryd.prog 62 = some [.val (.int .i64 0), .val (.map none)] := by kernel_rfl
theorem ze70 : zeroS Tryd.prog 70 = some [.val (.int .i64 0), .val (.int .i64 0), .val (.int .i64 0), .val (.int .i64 0), .val (.int .i64 0), .val (.int .i64 0), .val (.int .i64 0)] := by kernel_rfl
theorem ze74 : zeroS Tryd.prog 74 = some [.val (.int .i64 0), .val (.int .i64 0)] := by kernel_rfl
theorem ty : (aggB Tryd.prog 23 = some true) ∧ (aggB Tryd.prog 3 = some false) ∧ (aggB Tryd.prog 46 = some true) ∧ (aggB Tryd.prog 60 = some false) ∧ (aggB Tryd.prog 62 = some true) ∧ (aggB Tryd.prog 70 = some true) ∧ (boolT Tryd.prog 4 = true) ∧ (convTo Tryd.prog 43 3 = some .i64) ∧ (convTo Tryd.prog 5 3 = some .i64) ∧ (elemSz Tryd.prog 24 = some (46, 3)) ∧ (elemSz Tryd.prog 25 = some (3, 1)) ∧ (fieldOff Tryd.prog 23 0 = some 0) ∧ (fieldOff Tryd.prog 23 1 = some 1) ∧ (fieldOff Tryd.prog 46 0 = some 0) ∧ (fieldOff Tryd.prog 46 1 = some 1) ∧ (fieldOff Tryd.prog 46 2 = some 2) ∧ (fieldOff Tryd.prog 62 0 = some 0) ∧ (fieldOff Tryd.prog 62 1 = some 1) ∧ (fieldsS Tryd.prog 23 = some [(0, 1), (1, 1)]) ∧ (fieldsS Tryd.prog 46 = some [(0, 1), (1, 1), (2, 1)]) ∧ (fieldsS Tryd.prog 62 = some [(0, 1), (1, 1)]) ∧ (fieldsS Tryd.prog 70 = some [(0, 1), (1, 1), (2, 1), (3, 1), (4, 1), (5, 1), (6, 1)]) ∧ (fieldsS Tryd.prog 74 = some [(0, 1), (1, 1)]) ∧ (lenKd Tryd.prog 24 = .slice) ∧ (lenKd Tryd.prog 25 = .slice) ∧ (szOf Tryd.prog 23 = some 2) ∧ (szOf Tryd.prog 3 = some 1) ∧ (szOf Tryd.prog 46 = some 3) ∧ (szOf Tryd.prog 60 = some 1) ∧ (szOf Tryd.prog 62 = some 2) ∧ (szOf Tryd.prog 70 = some 7) ∧ (zeroS Tryd.prog 23 = some [.val (.int .i64 0), .val (.int .i64 0)]) ∧ (zeroS Tryd.prog 3 = some [.val (.int .i64 0)]) ∧ (zeroS Tryd.prog 46 = some [.val (.int .i64 0), .val (.int .i64 0), .val (.int .i64 0)]) ∧ (zeroS Tryd.prog 62 = some [.val (.int .i64 0), .val (.map none)]) ∧ (zeroS Tryd.prog 70 = some [.val (.int .i64 0), .val (.int .i64 0), .val (.int .i64 0), .val (.int .i64 0), .val (.int .i64 0), .val (.int .i64 0), .val (.int .i64 0)]) ∧ (zeroS Tryd.prog 74 = some [.val (.int .i64 0), .val (.int .i64 0)]) := ⟨agg23, agg3, agg46, agg60, agg62, agg70, bo4, cv43_3, cv5_3, el24, el25, fo23_0, fo23_1, fo46_0, fo46_1, fo46_2, fo62_0, fo62_1, fs23, fs46, fs62, fs70, fs74, len24, len25, sz23, sz3, sz46, sz60, sz62, sz70, ze23, ze3, ze46, ze62, ze70, ze74⟩
theorem mixed : Tryd.prog.follows .mixedOrders = true := by kernel_rfl
theorem beq4 (a b : Bool) : binS Tryd.prog 4 .eql (.bool a) (.bool b) = some (.bool (a == b)) := r_beql 4 a b bo4
theorem bne4 (a b : Bool) : binS Tryd.prog 4 .neq (.bool a) (.bool b) = some (.bool (!(a == b))) := r_bneq 4 a b bo4
end Go.Proofs.YtpkbghnjfjnoiaaDoor
