/- The reference's sum is the program's. -/
import Derived.Test.YtpimhoaeiafahaaDoorE3
import Derived.Test.YtpimhoaeiafahaaDoorAx3
namespace Go.Proofs.YtpimhoaeiafahaaDoor.E4
open Go.RowKit Go.Proofs.YtpimhoaeiafahaaDoorW.PrintWords Go.Proofs.YtpimhoaeiafahaaDoorW.PrintLast Go.Proofs.YtpimhoaeiafahaaDoorW.PrintMore Go.Proofs.YtpimhoaeiafahaaDoor.A Go.Proofs.YtpimhoaeiafahaaDoor.M0 Go.Proofs.YtpimhoaeiafahaaDoor.M1 Go.Proofs.YtpimhoaeiafahaaDoor.M2 Go.Proofs.YtpimhoaeiafahaaDoor.M3 Go.Proofs.YtpimhoaeiafahaaDoor.E1 Go.Proofs.YtpimhoaeiafahaaDoor.E2 Go.Proofs.YtpimhoaeiafahaaDoor.E3
set_option linter.unusedVariables false
set_option linter.unusedSimpArgs false

theorem by_len8 (v : Int) : By (len8 v) := by
  intro x hx
  simp only [len8, List.mem_cons, List.not_mem_nil, or_false] at hx
  rcases hx with rfl | rfl | rfl | rfl | rfl | rfl | rfl | rfl <;> omega
theorem by_full (l : List Int) (h : By l) : By (full l) := by
  unfold full
  refine By.append (By.append (h.append ?_) ?_) (by_len8 _)
  · intro x hx
    have : x = 128 := by simpa using hx
    subst this
    decide
  · intro x hx
    have : x = 0 := (List.mem_replicate.1 hx).2
    subst this
    decide
theorem eight_of (v : Int) (h0 : 0 ≤ v) (h1 : v < 18446744073709551616) : tikref2_Eight.f v = some (len8 v) := by
  unfold tikref2_Eight.f tikref2_Four.f len8
  simp
  omega
theorem four_of (x : Int) : tikref2_Four.f x = some (four x) := by
  unfold tikref2_Four.f four
  rfl
theorem l2_step (n : Nat) (h x : List Int) (hh : h.length = 8) (j : Nat) (hj : j < 8) (hx : x.length ≤ 1000) : tikref2_Sum.l2 (n + 1) h x (j : Int) = tikref2_Sum.l2 n h (x ++ four (rd h j)) ((j + 1 : Nat) : Int) := by
  have w : wrap64 ((j : Int) + 1) = ((j + 1 : Nat) : Int) := wr _ _ (by omega) (by omega) (by omega)
  have h4 : (four (rd h (j : Int))).length = 4 := rfl
  rw [tikref2_Sum.l2, if_pos (by omega), if_pos (by omega), if_pos (by omega), four_of]
  simp only [Option.bind_some]
  rw [if_pos (by omega), w]
theorem l2_all (n : Nat) (h : List Int) (hh : h.length = 8) : ∀ (d j : Nat), j + d = 8 → tikref2_Sum.l2 (n + d + 1) h (outB h j) (j : Int) = some (outB h 8)
  | 0, j, e => by
    obtain rfl : j = 8 := by omega
    rw [tikref2_Sum.l2, if_neg (by decide)]
  | d + 1, j, e => by
    rw [show n + (d + 1) + 1 = n + d + 1 + 1 by omega, l2_step _ _ _ hh j (by omega) (by rw [outB_len]; omega)]
    exact l2_all n h hh d (j + 1) (by omega)
theorem l1_step (n : Nat) (m : List Int) (hm : By m) (hl : m.length ≤ 2000000) (j : Nat) (hj : 64 * j + 64 ≤ m.length) :
    tikref2_Sum.l1 (n + 160 + 1) K64 (absorb m j) m ((64 * j : Nat) : Int) = tikref2_Sum.l1 (n + 160) K64 (absorb m (j + 1)) m ((64 * (j + 1) : Nat) : Int) := by
  have w : wrap64 (((64 * j : Nat) : Int) + 64) = ((64 * (j + 1) : Nat) : Int) := by unfold wrap64; omega
  have e : (m.take (64 * (j + 1))).drop (64 * j) = (m.drop (64 * j)).take 64 := by rw [List.drop_take, show 64 * (j + 1) - 64 * j = 64 by omega]
  have hb := block_eq n (absorb m j) ((m.drop (64 * j)).take 64) (absorb_len m j) (by rw [List.length_take, List.length_drop]; omega) ((hm.drop _).take _)
  rw [tikref2_Sum.l1, w, Int.toNat_natCast, Int.toNat_natCast, e, hb, if_pos (by omega), if_pos (by omega), if_pos (by omega), if_pos (by omega)]
  rfl
theorem l1_all (n : Nat) (m : List Int) (hm : By m) (hl : m.length ≤ 2000000) (q : Nat) (hq : m.length = 64 * q) : ∀ (d j : Nat), j + d = q →
    tikref2_Sum.l1 (n + 160 + d + 1) K64 (absorb m j) m ((64 * j : Nat) : Int) = some (outB (absorb m q) 8)
  | 0, j, e => by
    obtain rfl : j = q := by omega
    rw [tikref2_Sum.l1, if_neg (by omega)]
    exact l2_all (n + 151) (absorb m j) (absorb_len m j) 8 0 rfl
  | d + 1, j, e => by
    rw [show n + 160 + (d + 1) + 1 = (n + d + 1) + 160 + 1 by omega, l1_step _ m hm hl j (by omega), show (n + d + 1) + 160 = n + 160 + d + 1 by omega]
    exact l1_all n m hm hl q hq d (j + 1) (by omega)
theorem l0_all (n : Nat) (l K h : List Int) (hl : l.length ≤ 1000000) : ∀ (d : Nat) (x : List Int), d < 64 → (x.length + d) % 64 = 56 → x.length + d < 100000000 → tikref2_Sum.l0 (n + d + 1) l K h x = tikref2_Sum.l1 n K h (x ++ List.replicate d 0 ++ len8 (8 * (l.length : Int))) 0
  | 0, x, _, e, _ => by
    have h1 : ((x.length : Int) % 64) = 56 := by omega
    have w : IntKind.u64.wrap (8 * IntKind.u64.wrap (l.length : Int)) = 8 * (l.length : Int) := by rw [IntKind.wrap_u64, IntKind.wrap_u64]; omega
    have h8 : (len8 (8 * (l.length : Int))).length = 8 := rfl
    rw [tikref2_Sum.l0, if_pos h1, w, eight_of _ (by omega) (by omega)]
    simp only [Option.bind_some]
    rw [if_pos (by omega)]
    simp
  | d + 1, x, hd, e, hx => by
    have h1 : ¬ ((x.length : Int) % 64) = 56 := by omega
    have h2 : x.length < 140737488355328 := by omega
    rw [show n + (d + 1) + 1 = (n + d + 1) + 1 by omega, tikref2_Sum.l0, if_neg h1, if_pos h2]
    rw [l0_all n l K h hl d (x ++ [0]) (by omega) (by rw [List.length_append]; simp; omega) (by rw [List.length_append]; simp; omega), zeros_push]
theorem ref_sum (l : List Int) (hb : By l) (hl : l.length ≤ 1000000) : ∀ n, tikref2_Sum.f (n + 1000000) l = some (sum l) := by
  intro n
  have hlen : l.length < 140737488355328 := by omega
  have hf := full_len l
  have hx : (l ++ [128]).length = l.length + 1 := by simp
  unfold tikref2_Sum.f tikref2_constants.f tikref_CopyBytes.f
  simp only [Option.bind_some, List.length_nil, List.nil_append]
  rw [if_pos (by omega)]
  simp only [Option.bind_some]
  rw [if_pos hlen]
  generalize hd : (119 - l.length % 64) % 64 = d
  have a := l0_all (n + 999999 - d) l K64 H0 hl d (l ++ [128]) (by omega) (by rw [hx]; omega) (by rw [hx]; omega)
  rw [show n + 999999 - d + d + 1 = n + 1000000 by omega] at a
  refine Eq.trans a ?_
  have hfull : l ++ [128] ++ List.replicate d 0 ++ len8 (8 * (l.length : Int)) = full l := by rw [← hd]; rfl
  rw [hfull]
  have q := l1_all (n + 999999 - d - 161 - (full l).length / 64) (full l) (by_full l hb) (by omega) ((full l).length / 64) (by omega) ((full l).length / 64) 0 (by omega)
  rw [show n + 999999 - d - 161 - (full l).length / 64 + 160 + (full l).length / 64 + 1 = n + 999999 - d by omega] at q
  exact q
end Go.Proofs.YtpimhoaeiafahaaDoor.E4
