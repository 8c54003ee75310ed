/- The reference's sum is the program's, and both answer. -/
import Derived.Test.YtpimhoaeiafahaaDoorE2
namespace Go.Proofs.YtpimhoaeiafahaaDoor.E3
open Go.RowKit Go.Proofs.YtpimhoaeiafahaaDoorW.PrintWords Go.Proofs.YtpimhoaeiafahaaDoorW.PrintLast Go.Proofs.YtpimhoaeiafahaaDoorW.PrintMore Go.Proofs.YtpimhoaeiafahaaDoor.A Go.Proofs.YtpimhoaeiafahaaDoor.M0 Go.Proofs.YtpimhoaeiafahaaDoor.M1 Go.Proofs.YtpimhoaeiafahaaDoor.M2 Go.Proofs.YtpimhoaeiafahaaDoor.M3 Go.Proofs.YtpimhoaeiafahaaDoor.E1 Go.Proofs.YtpimhoaeiafahaaDoor.E2
set_option linter.unusedVariables false
set_option linter.unusedSimpArgs false

def len8 (v : Int) : List Int := [v / 72057594037927936 % 256, v / 281474976710656 % 256, v / 1099511627776 % 256, v / 4294967296 % 256, v / 16777216 % 256, v / 65536 % 256, v / 256 % 256, v % 256]
def full (l : List Int) : List Int := (l ++ [128] ++ List.replicate ((119 - l.length % 64) % 64) 0) ++ len8 (8 * (l.length : Int))
def sum (l : List Int) : List Int := outB (absorb (full l) ((full l).length / 64)) 8
theorem full_len (l : List Int) : (full l).length % 64 = 0 ∧ (full l).length ≤ l.length + 200 := by
  have : (full l).length = l.length + 1 + (119 - l.length % 64) % 64 + 8 := by simp [full, len8]; omega
  omega
theorem zeros_push (x : List Int) (d : Nat) : x ++ [0] ++ List.replicate d 0 = x ++ List.replicate (d + 1) 0 := by rw [List.replicate_succ, List.append_assoc]; rfl
theorem filled_l0 (n : Nat) (v : Int) : ∀ (d : Nat) (x : List Int), d < 64 → (x.length + d) % 64 = 56 → x.length + d < 100000000 → mac_filled.l0 (n + d + 1) x v = mac_filled.l1 n (x ++ List.replicate d 0) v 56
  | 0, x, _, h, _ => by
    have h1 : ((x.length : Int) % 64) = 56 := by omega
    rw [mac_filled.l0, if_pos h1]
    simp
  | d + 1, x, hd, h, hl => by
    have h1 : ¬ ((x.length : Int) % 64) = 56 := by omega
    have h2 : x.length < 140737488355328 := by omega
    rw [show n + (d + 1) + 1 = (n + d + 1) + 1 by omega, mac_filled.l0, if_neg h1, if_pos h2]
    rw [filled_l0 n v d (x ++ [0]) (by omega) (by rw [List.length_append]; simp; omega) (by rw [List.length_append]; simp; omega), zeros_push]
theorem filled_step (n : Nat) (x : List Int) (v : Int) (a : Int) (h0 : 0 ≤ a) (h1 : a ≤ 56) (hx : x.length < 140737488355328) : mac_filled.l1 (n + 1) x v a = mac_filled.l1 n (x ++ [(shr .u64 v a) % 256]) v (a - 8) := by
  have w : wrap64 (a - 8) = a - 8 := by unfold wrap64; omega
  have h2 : a ≥ 0 := h0
  rw [mac_filled.l1, if_pos h2, if_pos h0, if_pos hx, w]
theorem shr_of (v : Int) (a : Nat) (ha : a < 64) : shr .u64 v (a : Int) = v / 2 ^ a := by
  unfold shr
  rw [Int.toNat_natCast, show min a IntKind.u64.bits = a from Nat.min_eq_left (by show a ≤ 64; omega)]
theorem filled_l1 (n : Nat) (x : List Int) (v : Int) (hx : x.length < 100000000) : mac_filled.l1 (n + 9) x v 56 = some (x ++ len8 v) := by
  have s1 := filled_step (n + 8) x v 56 (by decide) (by decide) (by omega)
  have s2 := filled_step (n + 7) (x ++ [(shr .u64 v 56) % 256]) v 48 (by decide) (by decide) (by simp; omega)
  have s3 := filled_step (n + 6) (x ++ [(shr .u64 v 56) % 256] ++ [(shr .u64 v 48) % 256]) v 40 (by decide) (by decide) (by simp; omega)
  have s4 := filled_step (n + 5) (x ++ [(shr .u64 v 56) % 256] ++ [(shr .u64 v 48) % 256] ++ [(shr .u64 v 40) % 256]) v 32 (by decide) (by decide) (by simp; omega)
  have s5 := filled_step (n + 4) (x ++ [(shr .u64 v 56) % 256] ++ [(shr .u64 v 48) % 256] ++ [(shr .u64 v 40) % 256] ++ [(shr .u64 v 32) % 256]) v 24 (by decide) (by decide) (by simp; omega)
  have s6 := filled_step (n + 3) (x ++ [(shr .u64 v 56) % 256] ++ [(shr .u64 v 48) % 256] ++ [(shr .u64 v 40) % 256] ++ [(shr .u64 v 32) % 256] ++ [(shr .u64 v 24) % 256]) v 16 (by decide) (by decide) (by simp; omega)
  have s7 := filled_step (n + 2) (x ++ [(shr .u64 v 56) % 256] ++ [(shr .u64 v 48) % 256] ++ [(shr .u64 v 40) % 256] ++ [(shr .u64 v 32) % 256] ++ [(shr .u64 v 24) % 256] ++ [(shr .u64 v 16) % 256]) v 8 (by decide) (by decide) (by simp; omega)
  have s8 := filled_step (n + 1) (x ++ [(shr .u64 v 56) % 256] ++ [(shr .u64 v 48) % 256] ++ [(shr .u64 v 40) % 256] ++ [(shr .u64 v 32) % 256] ++ [(shr .u64 v 24) % 256] ++ [(shr .u64 v 16) % 256] ++ [(shr .u64 v 8) % 256]) v 0 (by decide) (by decide) (by simp; omega)
  refine s1.trans (s2.trans (s3.trans (s4.trans (s5.trans (s6.trans (s7.trans (s8.trans ?_)))))))
  rw [mac_filled.l1, if_neg (by decide)]
  rw [show shr .u64 v 56 = v / 72057594037927936 by simpa using shr_of v 56 (by decide), show shr .u64 v 48 = v / 281474976710656 by simpa using shr_of v 48 (by decide), show shr .u64 v 40 = v / 1099511627776 by simpa using shr_of v 40 (by decide), show shr .u64 v 32 = v / 4294967296 by simpa using shr_of v 32 (by decide), show shr .u64 v 24 = v / 16777216 by simpa using shr_of v 24 (by decide), show shr .u64 v 16 = v / 65536 by simpa using shr_of v 16 (by decide), show shr .u64 v 8 = v / 256 by simpa using shr_of v 8 (by decide), show shr .u64 v 0 = v by simpa using shr_of v 0 (by decide)]
  simp [len8]
theorem filled_eq (n : Nat) (l : List Int) (hl : l.length ≤ 1000000) : mac_filled.f (n + 73) l = some (full l) := by
  have w : IntKind.u64.wrap (IntKind.u64.wrap (l.length : Int) * 8) = 8 * (l.length : Int) := by rw [IntKind.wrap_u64, IntKind.wrap_u64]; omega
  have hlen : l.length < 140737488355328 := by omega
  unfold mac_filled.f bytes_Clone.f
  rw [if_pos hlen]
  simp only [Option.bind_some]
  rw [if_pos hlen, w]
  have hx : (l ++ [128]).length = l.length + 1 := by simp
  generalize hd : (119 - l.length % 64) % 64 = d
  have a := filled_l0 (n + 72 - d) (8 * (l.length : Int)) d (l ++ [128]) (by omega) (by rw [hx]; omega) (by rw [hx]; omega)
  rw [show n + 72 - d + d + 1 = n + 73 by omega] at a
  rw [a, show n + 72 - d = (n + 63 - d) + 9 by omega, filled_l1 _ _ _ (by rw [List.length_append, List.length_replicate, hx]; omega), ← hd]
  rfl
theorem mac_sum (n : Nat) (l : List Int) (hl : l.length ≤ 1000000) : mac_Sum.f (n + 73) l = some (sum l) := by
  have h := full_len l
  unfold mac_Sum.f
  rw [filled_eq n l hl]
  simp only [Option.bind_some]
  rw [if_pos h.1, if_pos (by omega)]
  rfl
end Go.Proofs.YtpimhoaeiafahaaDoor.E3
