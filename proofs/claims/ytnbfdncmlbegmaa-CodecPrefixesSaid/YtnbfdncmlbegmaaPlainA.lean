/-
  Codec: numbers and their bits, without the program.
-/
import Derived.Test.YtnbfdncmlbegmaaTy
import Derived.Test.YtnbfdncmlbegmaaSxArg
set_option linter.unusedVariables false
namespace Go.Proofs.Ytnbfdncmlbegmaa
open Go Go.SX Go.RowKit

/-! ### representations with a range -/
def such {α : Type} (A : Rp α) (p : α → Prop) : Rp α where
  sz := A.sz
  rd S w cs x := A.rd S w cs x ∧ p x
  len h := A.len h.1
  frame h hb := ⟨A.frame h.1 hb, h.2⟩
  mono h hb := ⟨A.mono h.1 hb, h.2⟩
theorem such_cov {P : Program} {t : TypeId} {k : IntKind} (ht : P.underlying t = some (.int k)) (hc : P.cellsOf t = 1) : Cov P t (such (Rp.int k) fun n => (Lit.int k n).wf = true) :=
  ⟨hc, fun H enc w base spare held fuel cs x h => by
    obtain ⟨n, rfl, h2⟩ := DataW.trod_int ht h
    exact ⟨n, rfl, h2.2⟩⟩
theorem such_slice {α : Type} {A : Rp α} {p : α → Prop} {S : Nat → Prop} {w : World} {cs : List Value} {l : List α} (h : (Rp.slice (such A p)).rd S w cs l) : (Rp.slice A).rd S w cs l ∧ ∀ x, x ∈ l → p x := by
  obtain ⟨q, n, c, h1, h2, h3, h4, h5⟩ := h
  rcases h5 with rfl | ⟨a, h6, h7, h8, h9⟩
  · exact ⟨⟨q, n, c, h1, h2, h3, h4, .inl rfl⟩, fun x hx => by cases hx⟩
  · refine ⟨⟨q, n, c, h1, h2, h3, h4, .inr ⟨a, h6, h7, h8, fun i y hy => ?_⟩⟩, fun x hx => ?_⟩
    · obtain ⟨ces, g1, g2⟩ := h9 i y hy
      exact ⟨ces, g1, g2.1⟩
    · obtain ⟨i, hi⟩ := List.getElem?_of_mem hx
      obtain ⟨ces, g1, g2⟩ := h9 i x hi
      exact g2.2
def isI (n : Int) : Prop := -9223372036854775808 ≤ n ∧ n ≤ 9223372036854775807
def isB (n : Int) : Prop := 0 ≤ n ∧ n ≤ 255
theorem wf_i64 {n : Int} (h : (Lit.int .i64 n).wf = true) : isI n := by
  simp [Lit.wf, IntKind.min, IntKind.max, IntKind.signed, IntKind.bits] at h; unfold isI; omega
theorem wf_u8 {n : Int} (h : (Lit.int .u8 n).wf = true) : isB n := by
  simp [Lit.wf, IntKind.min, IntKind.max, IntKind.signed, IntKind.bits] at h; unfold isB; omega
theorem wf_u16 {n : Int} (h : (Lit.int .u16 n).wf = true) : 0 ≤ n ∧ n ≤ 65535 := by
  simp [Lit.wf, IntKind.min, IntKind.max, IntKind.signed, IntKind.bits] at h; omega
abbrev rInt : Rp Int := Rp.int .i64
abbrev rInts : Rp (List Int) := Rp.slice rInt
abbrev rByte : Rp Int := Rp.int .u8
abbrev rBytes : Rp (List Int) := Rp.slice rByte
abbrev rLists : Rp (List (List Int)) := Rp.slice rInts
theorem rInt_open {S : Nat → Prop} {w : World} {ces : List Value} {x : Int} (h : rInt.rd S w ces x) : ces = [.int .i64 x] := h
theorem rByte_open {S : Nat → Prop} {w : World} {ces : List Value} {x : Int} (h : rByte.rd S w ces x) : ces = [.int .u8 x] := h

/-! ### bits -/
theorem u64_wrap (x : Int) : IntKind.u64.wrap x = x % 18446744073709551616 := by simp [IntKind.wrap, IntKind.signed, IntKind.bits]
theorem u8_wrap (x : Int) : IntKind.u8.wrap x = x % 256 := by simp [IntKind.wrap, IntKind.signed, IntKind.bits]
theorem i64_wrap (x : Int) : IntKind.i64.wrap x = if 9223372036854775808 ≤ x % 18446744073709551616 then x % 18446744073709551616 - 18446744073709551616 else x % 18446744073709551616 := by
  simp [IntKind.wrap, IntKind.signed, IntKind.bits]
theorem ofInt64 {x : Int} (h0 : 0 ≤ x) (h1 : x < 18446744073709551616) : (BitVec.ofInt 64 x).toNat = x.toNat := by
  rw [BitVec.toNat_ofInt, show ((2 ^ 64 : Nat) : Int) = 18446744073709551616 from rfl, Int.emod_eq_of_lt h0 h1]
theorem ofInt8 {x : Int} (h0 : 0 ≤ x) (h1 : x < 256) : (BitVec.ofInt 8 x).toNat = x.toNat := by
  rw [BitVec.toNat_ofInt, show ((2 ^ 8 : Nat) : Int) = 256 from rfl, Int.emod_eq_of_lt h0 h1]
theorem allOnes64 : BitVec.ofInt 64 18446744073709551615 = BitVec.allOnes 64 := by decide
theorem neg1_64 : BitVec.ofInt 64 (-1) = BitVec.allOnes 64 := by decide
theorem xor_ones {x : Int} (h0 : 0 ≤ x) (h1 : x < 18446744073709551616) : (BitVec.ofInt 64 x ^^^ BitVec.allOnes 64).toNat = (18446744073709551615 - x).toNat := by
  rw [BitVec.xor_allOnes, BitVec.toNat_not, ofInt64 h0 h1]; omega
theorem xor_zero (x : Int) : BitVec.ofInt 64 x ^^^ BitVec.ofInt 64 0 = BitVec.ofInt 64 x := by simp
/-- the number of an integer -/
def zig (n : Int) : Int := if 0 ≤ n then 2 * n else -2 * n - 1
theorem zig_range {n : Int} (h : isI n) : 0 ≤ zig n ∧ zig n < 18446744073709551616 := by unfold isI at h; unfold zig; split <;> omega
theorem zig_code {n : Int} (h : isI n) : IntKind.u64.wrap (((BitVec.ofInt 64 (IntKind.u64.wrap (IntKind.u64.wrap n * 2))) ^^^ BitVec.ofInt 64 (IntKind.u64.wrap (n.fdiv 9223372036854775808))).toNat) = zig n := by
  unfold isI at h
  unfold zig
  rw [Int.fdiv_eq_ediv_of_nonneg _ (by decide)]
  split
  · rename_i h0
    rw [show n / 9223372036854775808 = 0 by omega, show IntKind.u64.wrap 0 = 0 from rfl, xor_zero, u64_wrap n, u64_wrap (_ * 2), ofInt64 (by omega) (by omega), u64_wrap]; omega
  · rename_i h0
    rw [show n / 9223372036854775808 = -1 by omega, show IntKind.u64.wrap (-1) = 18446744073709551615 from rfl, allOnes64, u64_wrap n, u64_wrap (_ * 2), xor_ones (by omega) (by omega), u64_wrap]; omega
theorem or128 {v : Int} (h : isB v) : IntKind.u8.wrap ((BitVec.ofInt 8 v ||| BitVec.ofInt 8 128).toNat) = v % 128 + 128 := by
  unfold isB at h
  have key : ∀ x : BitVec 8, (x ||| BitVec.ofInt 8 128).toNat = x.toNat % 128 + 128 := by decide
  rw [key, ofInt8 h.1 (by omega), u8_wrap]; omega
theorem and127 {v : Int} (h : isB v) : IntKind.u8.wrap ((BitVec.ofInt 8 v &&& BitVec.ofInt 8 127).toNat) = v % 128 := by
  unfold isB at h
  have key : ∀ x : BitVec 8, (x &&& BitVec.ofInt 8 127).toNat = x.toNat % 128 := by decide
  rw [key, ofInt8 h.1 (by omega), u8_wrap]; omega
theorem and1 {v : Int} (h0 : 0 ≤ v) (h1 : v < 18446744073709551616) : IntKind.u64.wrap ((BitVec.ofInt 64 v &&& BitVec.ofInt 64 1).toNat) = v % 2 := by
  rw [BitVec.toNat_and, ofInt64 h0 h1, show (BitVec.ofInt 64 1).toNat = 2 ^ 1 - 1 from rfl, Nat.and_two_pow_sub_one_eq_mod, u64_wrap]; omega
/-- what is under a power of two, and a multiple of it, put together -/
theorem or_add {a c : Int} {j : Nat} (h0 : 0 ≤ a) (h1 : a < 2 ^ j) (h2 : 0 ≤ c) (h3 : a + c * 2 ^ j < 18446744073709551616) : IntKind.u64.wrap ((BitVec.ofInt 64 a ||| BitVec.ofInt 64 (c * 2 ^ j)).toNat) = a + c * 2 ^ j := by
  have hp : (0 : Int) < 2 ^ j := Int.pow_pos (by decide)
  have hc : 0 ≤ c * 2 ^ j := Int.mul_nonneg h2 (Int.le_of_lt hp)
  rw [BitVec.toNat_or, ofInt64 h0 (by omega), ofInt64 hc (by omega)]
  obtain ⟨m, rfl⟩ := Int.eq_ofNat_of_zero_le h0
  obtain ⟨d, rfl⟩ := Int.eq_ofNat_of_zero_le h2
  have hpj : ((2 : Int) ^ j) = ((2 ^ j : Nat) : Int) := by simp
  rw [hpj] at h1 h3 ⊢
  have hm : m < 2 ^ j := by exact_mod_cast h1
  rw [← Int.natCast_mul, Int.toNat_natCast, Int.toNat_natCast, Nat.or_comm, Nat.mul_comm, ← Nat.two_pow_add_eq_or_of_lt hm, u64_wrap]
  rw [← Int.natCast_mul, Nat.mul_comm] at h3
  rw [Int.natCast_add]
  omega
/-- the integer of a number -/
def unzig (u : Int) : Int := if u % 2 = 1 then -(u / 2) - 1 else u / 2
theorem unzig_code {u : Int} (h0 : 0 ≤ u) (h1 : u < 18446744073709551616) : IntKind.i64.wrap ((BitVec.ofInt 64 (IntKind.i64.wrap (u.fdiv 2)) ^^^ BitVec.ofInt 64 (IntKind.i64.wrap (0 - IntKind.i64.wrap (u % 2)))).toNat) = unzig u := by
  unfold unzig
  rw [Int.fdiv_eq_ediv_of_nonneg _ (by decide), wrap_id (x := u / 2) (by omega) (by omega), wrap_id (x := u % 2) (by omega) (by omega)]
  split
  · rename_i h
    rw [h, show IntKind.i64.wrap (0 - 1) = -1 from rfl, neg1_64, xor_ones (by omega) (by omega), i64_wrap]
    split <;> omega
  · rename_i h
    rw [show u % 2 = 0 by omega, show IntKind.i64.wrap (0 - 0) = 0 from rfl, xor_zero, ofInt64 (by omega) (by omega), wrap_id (by omega) (by omega)]; omega
theorem unzig_zig (n : Int) : unzig (zig n) = n := by unfold unzig zig; split <;> split <;> omega
theorem zig_unzig {u : Int} (h : 0 ≤ u) : zig (unzig u) = u := by unfold unzig zig; split <;> split <;> omega
theorem unzig_isI {u : Int} (h0 : 0 ≤ u) (h1 : u < 18446744073709551616) : isI (unzig u) := by unfold unzig isI; split <;> omega
end Go.Proofs.Ytnbfdncmlbegmaa
