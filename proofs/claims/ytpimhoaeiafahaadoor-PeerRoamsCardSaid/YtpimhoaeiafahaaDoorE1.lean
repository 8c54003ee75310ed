/- The reference's turning and assembling are the program's: plain facts on numbers. -/
import Derived.Test.YtpimhoaeiafahaaDoorM3
import Derived.Laws.BitsAllLaws
namespace Go.Proofs.YtpimhoaeiafahaaDoor.E1
open Go.RowKit Go.Proofs.YtpimhoaeiafahaaDoorW.PrintWords Go.Proofs.YtpimhoaeiafahaaDoorW.PrintLast Go.Proofs.YtpimhoaeiafahaaDoorW.PrintMore Go.Proofs.YtpimhoaeiafahaaDoor.A Go.Proofs.YtpimhoaeiafahaaDoor.M0 Go.Proofs.YtpimhoaeiafahaaDoor.M1 Go.Proofs.YtpimhoaeiafahaaDoor.M2 Go.Proofs.YtpimhoaeiafahaaDoor.M3
set_option linter.unusedVariables false
set_option linter.unusedSimpArgs false

theorem or32 (x y : Int) : Go.bits .or .u32 x y = Go.bits .or .u32 y x := by simp only [Go.bits, BitVec.or_comm]
theorem turn_of (x : Int) (n s : Int) (hn : 0 ≤ n) (h1 : Go.bits .and .u64 (IntKind.u64.wrap (wrap64 (-n))) 31 = s) (hs : 0 ≤ s) (h2 : IntKind.u64.wrap (32 - s) = n) (h3 : IntKind.u64.wrap (32 - n) = s) : tikref2_turn.f x n = some (rr x n) := by
  unfold tikref2_turn.f rr mac_right.f bits_RotateLeft32.f
  rw [h1, h2, h3]
  simp only [if_pos hn, if_pos hs, Option.bind_some, Option.getD_some]
  rw [or32]
theorem turn2 (x : Int) : tikref2_turn.f x 2 = some (rr x 2) := turn_of x 2 30 (by decide) (by kernel_rfl) (by decide) (by decide) (by decide)
theorem turn6 (x : Int) : tikref2_turn.f x 6 = some (rr x 6) := turn_of x 6 26 (by decide) (by kernel_rfl) (by decide) (by decide) (by decide)
theorem turn7 (x : Int) : tikref2_turn.f x 7 = some (rr x 7) := turn_of x 7 25 (by decide) (by kernel_rfl) (by decide) (by decide) (by decide)
theorem turn11 (x : Int) : tikref2_turn.f x 11 = some (rr x 11) := turn_of x 11 21 (by decide) (by kernel_rfl) (by decide) (by decide) (by decide)
theorem turn13 (x : Int) : tikref2_turn.f x 13 = some (rr x 13) := turn_of x 13 19 (by decide) (by kernel_rfl) (by decide) (by decide) (by decide)
theorem turn17 (x : Int) : tikref2_turn.f x 17 = some (rr x 17) := turn_of x 17 15 (by decide) (by kernel_rfl) (by decide) (by decide) (by decide)
theorem turn18 (x : Int) : tikref2_turn.f x 18 = some (rr x 18) := turn_of x 18 14 (by decide) (by kernel_rfl) (by decide) (by decide) (by decide)
theorem turn19 (x : Int) : tikref2_turn.f x 19 = some (rr x 19) := turn_of x 19 13 (by decide) (by kernel_rfl) (by decide) (by decide) (by decide)
theorem turn22 (x : Int) : tikref2_turn.f x 22 = some (rr x 22) := turn_of x 22 10 (by decide) (by kernel_rfl) (by decide) (by decide) (by decide)
theorem turn25 (x : Int) : tikref2_turn.f x 25 = some (rr x 25) := turn_of x 25 7 (by decide) (by kernel_rfl) (by decide) (by decide) (by decide)

theorem or64_byte (x b : Int) (hx : 0 ≤ x) (hx2 : x < 72057594037927936) (hb : 0 ≤ b) (hb2 : b < 256) : Go.bits .or .u64 (IntKind.u64.wrap (x * 256)) (IntKind.u64.wrap b) = x * 256 + b := by
  obtain ⟨n, rfl⟩ := Int.eq_ofNat_of_zero_le hx
  obtain ⟨c, rfl⟩ := Int.eq_ofNat_of_zero_le hb
  have e1 : IntKind.u64.wrap ((n : Int) * 256) = ((n * 256 : Nat) : Int) := by rw [IntKind.wrap_u64]; omega
  have e2 : IntKind.u64.wrap (c : Int) = ((c : Nat) : Int) := by rw [IntKind.wrap_u64]; omega
  rw [e1, e2, Go.bits_or_u64_nat _ _ (by omega) (by omega), Go.nat_join8 _ _ (by omega) (by omega)]
  omega
theorem or32_nat (a b : Nat) (ha : a < 4294967296) (hb : b < 4294967296) : Go.bits .or .u32 (a : Int) (b : Int) = ((a ||| b : Nat) : Int) := by
  have hx : a ||| b < 2 ^ 32 := Nat.or_lt_two_pow (by omega) (by omega)
  have h1 : (BitVec.ofInt 32 (a : Int)).toNat = a := by
    rw [BitVec.ofInt_natCast, BitVec.toNat_ofNat]; exact Nat.mod_eq_of_lt (by omega)
  have h2 : (BitVec.ofInt 32 (b : Int)).toNat = b := by
    rw [BitVec.ofInt_natCast, BitVec.toNat_ofNat]; exact Nat.mod_eq_of_lt (by omega)
  show IntKind.u32.wrap ((BitVec.ofInt 32 (a : Int) ||| BitVec.ofInt 32 (b : Int)).toNat : Int) = _
  rw [BitVec.toNat_or, h1, h2, IntKind.wrap_u32]
  omega
theorem or32_byte (x b : Int) (hx : 0 ≤ x) (hx2 : x < 16777216) (hb : 0 ≤ b) (hb2 : b < 256) : Go.bits .or .u32 (x * 256 % 4294967296) (b % 4294967296) = x * 256 + b := by
  obtain ⟨n, rfl⟩ := Int.eq_ofNat_of_zero_le hx
  obtain ⟨c, rfl⟩ := Int.eq_ofNat_of_zero_le hb
  have e1 : (n : Int) * 256 % 4294967296 = ((n * 256 : Nat) : Int) := by omega
  have e2 : (c : Int) % 4294967296 = ((c : Nat) : Int) := by omega
  rw [e1, e2, or32_nat _ _ (by omega) (by omega), Go.nat_join8 _ _ (by omega) (by omega)]
  omega
/-- All are bytes. -/
def By (l : List Int) : Prop := ∀ x ∈ l, 0 ≤ x ∧ x < 256
theorem By.rd {l : List Int} (h : By l) (i : Int) : 0 ≤ rd l i ∧ rd l i < 256 := by
  unfold Go.Proofs.YtpimhoaeiafahaaDoorW.PrintWords.rd
  rw [List.getD_eq_getElem?_getD]
  cases hx : l[i.toNat]? with
  | none => simp
  | some x => exact h x (List.mem_of_getElem? hx)
theorem By.take {l : List Int} (h : By l) (n : Nat) : By (l.take n) := fun x hx => h x (List.mem_of_mem_take hx)
theorem By.drop {l : List Int} (h : By l) (n : Nat) : By (l.drop n) := fun x hx => h x (List.mem_of_mem_drop hx)
theorem By.append {l m : List Int} (h : By l) (h2 : By m) : By (l ++ m) := fun x hx => (List.mem_append.1 hx).elim (h x) (h2 x)
/-- The word at 4 * j. -/
def word (l : List Int) (j : Nat) : Int := ((rd l (4 * j : Nat) * 256 + rd l (4 * j + 1 : Nat)) * 256 + rd l (4 * j + 2 : Nat)) * 256 + rd l (4 * j + 3 : Nat)
theorem big4 (k : Nat) (l : List Int) (hl : l.length = 4) (hb : By l) : tikref2_Big.f (k + 5) l = some (word l 0) := by
  have h0 := hb.rd 0
  have h1 := hb.rd 1
  have h2 := hb.rd 2
  have h3 := hb.rd 3
  have hl' : (l.length : Int) = 4 := by omega
  have e0 : Go.bits .or .u64 (IntKind.u64.wrap (0 * 256)) (IntKind.u64.wrap (rd l 0)) = 0 * 256 + rd l 0 := or64_byte 0 _ (by omega) (by omega) h0.1 h0.2
  have e1 : Go.bits .or .u64 (IntKind.u64.wrap ((0 * 256 + rd l 0) * 256)) (IntKind.u64.wrap (rd l 1)) = (0 * 256 + rd l 0) * 256 + rd l 1 := or64_byte _ _ (by omega) (by omega) h1.1 h1.2
  have e2 : Go.bits .or .u64 (IntKind.u64.wrap (((0 * 256 + rd l 0) * 256 + rd l 1) * 256)) (IntKind.u64.wrap (rd l 2)) = ((0 * 256 + rd l 0) * 256 + rd l 1) * 256 + rd l 2 := or64_byte _ _ (by omega) (by omega) h2.1 h2.2
  have e3 : Go.bits .or .u64 (IntKind.u64.wrap ((((0 * 256 + rd l 0) * 256 + rd l 1) * 256 + rd l 2) * 256)) (IntKind.u64.wrap (rd l 3)) = (((0 * 256 + rd l 0) * 256 + rd l 1) * 256 + rd l 2) * 256 + rd l 3 := or64_byte _ _ (by omega) (by omega) h3.1 h3.2
  have w1 : wrap64 (0 + 1) = 1 := by (unfold wrap64; omega)
  have w2 : wrap64 (1 + 1) = 2 := by (unfold wrap64; omega)
  have w3 : wrap64 (2 + 1) = 3 := by (unfold wrap64; omega)
  have w4 : wrap64 (3 + 1) = 4 := by (unfold wrap64; omega)
  unfold tikref2_Big.f
  simp only [tikref2_Big.l0, hl', e0, e1, e2, e3, w1, w2, w3, w4, show (0 : Int) < 4 by decide, show (1 : Int) < 4 by decide, show (2 : Int) < 4 by decide, show (3 : Int) < 4 by decide, show ¬ (4 : Int) < 4 by decide, show (0 : Int) ≤ 0 by decide, show (0 : Int) ≤ 1 by decide, show (0 : Int) ≤ 2 by decide, show (0 : Int) ≤ 3 by decide, if_true, if_false]
  unfold word
  simp
end Go.Proofs.YtpimhoaeiafahaaDoor.E1
