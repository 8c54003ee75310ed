/- One block of the reference is one block of the program. -/
import Derived.Test.YtpimhoaeiafahaaDoorE1
namespace Go.Proofs.YtpimhoaeiafahaaDoor.E2
open Go.RowKit Go.Proofs.YtpimhoaeiafahaaDoorW.PrintWords Go.Proofs.YtpimhoaeiafahaaDoorW.PrintLast Go.Proofs.YtpimhoaeiafahaaDoorW.PrintMore Go.Proofs.YtpimhoaeiafahaaDoor.A Go.Proofs.YtpimhoaeiafahaaDoor.M0 Go.Proofs.YtpimhoaeiafahaaDoor.M1 Go.Proofs.YtpimhoaeiafahaaDoor.M2 Go.Proofs.YtpimhoaeiafahaaDoor.M3 Go.Proofs.YtpimhoaeiafahaaDoor.E1
set_option linter.unusedVariables false
set_option linter.unusedSimpArgs false

theorem rd_self (l : List Int) (n : Nat) (v : Int) (h : n < l.length) : rd (l.set n v) (n : Int) = v := by
  unfold rd
  rw [Int.toNat_natCast, List.getD_eq_getElem?_getD, List.getElem?_set_self h]
  rfl
theorem rd_ne (l : List Int) (n m : Nat) (v : Int) (h : n ≠ m) : rd (l.set n v) (m : Int) = rd l (m : Int) := by
  unfold rd
  rw [Int.toNat_natCast, List.getD_eq_getElem?_getD, List.getElem?_set_ne h, ← List.getD_eq_getElem?_getD]
theorem word_lt {l : List Int} (h : By l) (j : Nat) : 0 ≤ word l j ∧ word l j < 4294967296 := by
  have h0 := h.rd (4 * j : Nat)
  have h1 := h.rd (4 * j + 1 : Nat)
  have h2 := h.rd (4 * j + 2 : Nat)
  have h3 := h.rd (4 * j + 3 : Nat)
  unfold word
  omega
theorem spA_step (l : List Int) (hb : By l) (i : Nat) (hi : i < 16) (hz : rd (spA l (4 * i)) (i : Int) = 0) : spA l (4 * (i + 1)) = (spA l (4 * i)).set i (word l i) := by
  have hl := spA_len l (4 * i)
  generalize hs : spA l (4 * i) = s at *
  have h0 := hb.rd (4 * i : Nat)
  have h1 := hb.rd (4 * i + 1 : Nat)
  have h2 := hb.rd (4 * i + 2 : Nat)
  have h3 := hb.rd (4 * i + 3 : Nat)
  have d0 : (4 * i) / 4 = i := by omega
  have d1 : (4 * i + 1) / 4 = i := by omega
  have d2 : (4 * i + 1 + 1) / 4 = i := by omega
  have d3 : (4 * i + 1 + 1 + 1) / 4 = i := by omega
  have c0 : ((4 * i : Nat) : Int) / 4 = (i : Int) := by omega
  have c1 : ((4 * i + 1 : Nat) : Int) / 4 = (i : Int) := by omega
  have c2 : ((4 * i + 1 + 1 : Nat) : Int) / 4 = (i : Int) := by omega
  have c3 : ((4 * i + 1 + 1 + 1 : Nat) : Int) / 4 = (i : Int) := by omega
  have e1 : spA l (4 * i + 1) = s.set i (rd l (4 * i : Nat)) := by
    rw [spA, hs, d0, c0, hz, or32_byte 0 _ (by omega) (by omega) h0.1 h0.2, show 0 * 256 + rd l ((4 * i : Nat) : Int) = rd l ((4 * i : Nat) : Int) by omega]
  have e2 : spA l (4 * i + 1 + 1) = s.set i (rd l (4 * i : Nat) * 256 + rd l (4 * i + 1 : Nat)) := by
    rw [spA, e1, d1, c1, rd_self _ _ _ (by omega), or32_byte _ _ (by omega) (by omega) h1.1 h1.2, List.set_set]
  have e3 : spA l (4 * i + 1 + 1 + 1) = s.set i ((rd l (4 * i : Nat) * 256 + rd l (4 * i + 1 : Nat)) * 256 + rd l (4 * i + 2 : Nat)) := by
    rw [spA, e2, d2, c2, rd_self _ _ _ (by omega), or32_byte _ _ (by omega) (by omega) h2.1 h2.2, List.set_set]
  have e4 : spA l (4 * i + 1 + 1 + 1 + 1) = s.set i (word l i) := by
    rw [spA, e3, d3, c3, rd_self _ _ _ (by omega), or32_byte _ _ (by omega) (by omega) h3.1 h3.2, List.set_set]
    rfl
  exact e4
theorem spA_zero (l : List Int) (hb : By l) : ∀ (i : Nat), i ≤ 16 → ∀ j : Nat, i ≤ j → rd (spA l (4 * i)) (j : Int) = 0
  | 0, _, j, _ => by
    show rd (List.replicate 64 0) (j : Int) = 0
    unfold rd
    rw [Int.toNat_natCast, List.getD_eq_getElem?_getD, List.getElem?_replicate]
    by_cases h : j < 64
    · rw [if_pos h]; rfl
    · rw [if_neg h]; rfl
  | i + 1, hi, j, hj => by
    rw [spA_step l hb i (by omega) (spA_zero l hb i (by omega) i (Nat.le_refl _)), rd_ne _ _ _ _ (by omega)]
    exact spA_zero l hb i (by omega) j (by omega)
theorem word_part (l : List Int) (i : Nat) (hl : 4 * i + 4 ≤ l.length) : word ((l.take (4 * i + 4)).drop (4 * i)) 0 = word l i := by
  have h : ∀ r : Nat, r < 4 → rd ((l.take (4 * i + 4)).drop (4 * i)) (r : Int) = rd l ((4 * i + r : Nat) : Int) := fun r hr => by
    unfold rd
    rw [Int.toNat_natCast, Int.toNat_natCast, List.getD_eq_getElem?_getD, List.getD_eq_getElem?_getD, List.getElem?_drop, List.getElem?_take, if_pos (by omega)]
  have h0 := h 0 (by omega)
  have h1 := h 1 (by omega)
  have h2 := h 2 (by omega)
  have h3 := h 3 (by omega)
  unfold word
  simp only [Nat.mul_zero, Nat.zero_add, Nat.add_zero] at *
  rw [h0, h1, h2, h3]
theorem l0_step (n : Nat) (x0 x1 l : List Int) (hl : l.length = 64) (hb : By l) (i : Nat) (hi : i < 16) :
    tikref2_block.l0 (n + 5 + 1) x0 x1 l (spA l (4 * i)) (i : Int) = tikref2_block.l0 (n + 5) x0 x1 l (spA l (4 * (i + 1))) ((i + 1 : Nat) : Int) := by
  have w1 : wrap64 (4 * (i : Int)) = ((4 * i : Nat) : Int) := by unfold wrap64; omega
  have w2 : wrap64 (((4 * i : Nat) : Int) + 4) = ((4 * i + 4 : Nat) : Int) := by unfold wrap64; omega
  have w3 : wrap64 ((i : Int) + 1) = ((i + 1 : Nat) : Int) := by unfold wrap64; omega
  have hsl := spA_len l (4 * i)
  have hw := word_lt hb i
  have hbig : tikref2_Big.f (n + 5) ((l.take (4 * i + 4)).drop (4 * i)) = some (word l i) := by
    rw [big4 n _ (by rw [List.length_drop, List.length_take]; omega) ((hb.take _).drop _), word_part l i (by omega)]
  rw [tikref2_block.l0]
  simp only [w1, w2, w3, Int.toNat_natCast]
  rw [if_pos (by omega), if_pos (by omega), if_pos (by omega), if_pos (by omega), hbig]
  simp only [Option.bind_some]
  rw [if_pos (by omega), if_pos (by omega), show word l i % 4294967296 = word l i by omega, ← spA_step l hb i hi (spA_zero l hb i (by omega) i (Nat.le_refl _))]
theorem l0_all (n : Nat) (x0 x1 l : List Int) (hl : l.length = 64) (hb : By l) : ∀ (d i : Nat), i + d = 16 → tikref2_block.l0 (n + 5 + d + 1) x0 x1 l (spA l (4 * i)) (i : Int) = tikref2_block.l1 (n + 5) x0 x1 (spA l 64) 16
  | 0, i, h => by
    obtain rfl : i = 16 := by omega
    rw [tikref2_block.l0, if_neg (by decide)]
  | d + 1, i, h => by
    have := l0_step (n + d + 1) x0 x1 l hl hb i (by omega)
    rw [show n + 5 + (d + 1) + 1 = n + d + 1 + 5 + 1 by omega, this, show n + d + 1 + 5 = n + 5 + d + 1 by omega]
    exact l0_all n x0 x1 l hl hb d (i + 1) (by omega)
theorem wr (a b : Int) (h : a = b) (h1 : 0 ≤ b) (h2 : b < 1000) : wrap64 a = b := by subst h; unfold wrap64; omega
theorem l1_step (n : Nat) (x0 x1 v : List Int) (hv : v.length = 64) (i : Nat) (h16 : 16 ≤ i) (h64 : i < 64) :
    tikref2_block.l1 (n + 1) x0 x1 v (i : Int) = tikref2_block.l1 n x0 x1 (v.set i (nextW v i)) ((i + 1 : Nat) : Int) := by
  have hv' : (v.length : Int) = 64 := by omega
  have p1 : (i : Int) < 64 := by omega
  have p2 : (0 : Int) ≤ ((i - 15 : Nat) : Int) := by omega
  have p3 : ((i - 15 : Nat) : Int) < 64 := by omega
  have p4 : (0 : Int) ≤ ((i - 2 : Nat) : Int) := by omega
  have p5 : ((i - 2 : Nat) : Int) < 64 := by omega
  have p6 : (0 : Int) ≤ ((i - 16 : Nat) : Int) := by omega
  have p7 : ((i - 16 : Nat) : Int) < 64 := by omega
  have p8 : (0 : Int) ≤ ((i - 7 : Nat) : Int) := by omega
  have p9 : ((i - 7 : Nat) : Int) < 64 := by omega
  have p0 : (0 : Int) ≤ (i : Int) := by omega
  have w15 : wrap64 ((i : Int) - 15) = ((i - 15 : Nat) : Int) := wr _ _ (by omega) (by omega) (by omega)
  have w2 : wrap64 ((i : Int) - 2) = ((i - 2 : Nat) : Int) := wr _ _ (by omega) (by omega) (by omega)
  have w16 : wrap64 ((i : Int) - 16) = ((i - 16 : Nat) : Int) := wr _ _ (by omega) (by omega) (by omega)
  have w7 : wrap64 ((i : Int) - 7) = ((i - 7 : Nat) : Int) := wr _ _ (by omega) (by omega) (by omega)
  have w1 : wrap64 ((i : Int) + 1) = ((i + 1 : Nat) : Int) := wr _ _ (by omega) (by omega) (by omega)
  rw [tikref2_block.l1]
  simp only [w15, w2, w16, w7, w1, turn7, turn18, turn17, turn19, Option.bind_some, Int.toNat_natCast, hv', p1, p2, p3, p4, p5, p6, p7, p8, p9, p0, if_true]
  congr 2
  unfold nextW
  generalize Go.bits .xor .u32 (Go.bits .xor .u32 (rr (rd v ((i - 15 : Nat) : Int)) 7) (rr (rd v ((i - 15 : Nat) : Int)) 18)) (rd v ((i - 15 : Nat) : Int) / 8) = X
  generalize Go.bits .xor .u32 (Go.bits .xor .u32 (rr (rd v ((i - 2 : Nat) : Int)) 17) (rr (rd v ((i - 2 : Nat) : Int)) 19)) (rd v ((i - 2 : Nat) : Int) / 1024) = Y
  omega
theorem l1_all (n : Nat) (x0 x1 ws : List Int) (h0 : x0.length = 8) (hws : ws.length = 64) : ∀ (d i : Nat), i + d = 64 → 16 ≤ i → tikref2_block.l1 (n + d + 1) x0 x1 (spB ws i) (i : Int) = tikref2_block.l2 n x0 x1 (spB ws 64) x0 0
  | 0, i, h, h16 => by
    obtain rfl : i = 64 := by omega
    rw [tikref2_block.l1, if_neg (by decide)]
    simp only [Option.bind_some, List.nil_append, List.length_nil]
    rw [if_pos (by omega)]
  | d + 1, i, h, h16 => by
    rw [show n + (d + 1) + 1 = n + d + 1 + 1 by omega, l1_step _ _ _ _ (spB_len ws hws i) i h16 (by omega)]
    have e : spB ws (i + 1) = (spB ws i).set i (nextW (spB ws i) i) := by rw [spB, if_neg (by omega)]
    rw [← e]
    exact l1_all n x0 x1 ws h0 hws d (i + 1) (by omega) (by omega)
theorem l2_step (n : Nat) (x0 x1 x7 v : List Int) (h1 : x1.length = 64) (h7 : x7.length = 64) (hv : v.length = 8) (j : Nat) (hj : j < 64) :
    tikref2_block.l2 (n + 1) x0 x1 x7 v (j : Int) = tikref2_block.l2 n x0 x1 x7 (step8 v (rd x1 j) (rd x7 j)) ((j + 1 : Nat) : Int) := by
  have w1 : wrap64 ((j : Int) + 1) = ((j + 1 : Nat) : Int) := by unfold wrap64; omega
  have hv' : (v.length : Int) = 8 := by omega
  rw [tikref2_block.l2]
  simp only [w1, turn6, turn11, turn25, turn2, turn13, turn22, Option.bind_some, hv']
  simp only [show (7 : Int) < 8 by decide, show (4 : Int) < 8 by decide, show (5 : Int) < 8 by decide, show (6 : Int) < 8 by decide, show (0 : Int) < 8 by decide, show (1 : Int) < 8 by decide, show (2 : Int) < 8 by decide, show (3 : Int) < 8 by decide, if_true]
  rw [if_pos (by omega), if_pos (by omega), if_pos (by omega), if_pos (by omega)]
  congr 1
  unfold step8 one two
  rw [show IntKind.u32.max = 4294967295 from rfl]
  generalize Go.bits .xor .u32 (Go.bits .xor .u32 (rr (rd v 4) 6) (rr (rd v 4) 11)) (rr (rd v 4) 25) = X
  generalize Go.bits .xor .u32 (Go.bits .and .u32 (rd v 4) (rd v 5)) (Go.bits .and .u32 (Go.bits .xor .u32 4294967295 (rd v 4)) (rd v 6)) = Y
  generalize Go.bits .xor .u32 (Go.bits .xor .u32 (rr (rd v 0) 2) (rr (rd v 0) 13)) (rr (rd v 0) 22) = Z
  generalize Go.bits .xor .u32 (Go.bits .xor .u32 (Go.bits .and .u32 (rd v 0) (rd v 1)) (Go.bits .and .u32 (rd v 0) (rd v 2))) (Go.bits .and .u32 (rd v 1) (rd v 2)) = V
  have a1 : (((((rd v 7 + X) % 4294967296 + Y) % 4294967296 + rd x1 ↑j) % 4294967296 + rd x7 ↑j) % 4294967296 + (Z + V) % 4294967296) % 4294967296 = (rd v 7 + X + Y + rd x1 ↑j + rd x7 ↑j + (Z + V)) % 4294967296 := by omega
  have a2 : (rd v 3 + ((((rd v 7 + X) % 4294967296 + Y) % 4294967296 + rd x1 ↑j) % 4294967296 + rd x7 ↑j) % 4294967296) % 4294967296 = (rd v 3 + (rd v 7 + X + Y + rd x1 ↑j + rd x7 ↑j)) % 4294967296 := by omega
  rw [a1, a2]
theorem l2_all (n : Nat) (x0 x7 : List Int) (h0 : x0.length = 8) (h7 : x7.length = 64) : ∀ (d j : Nat), j + d = 64 → tikref2_block.l2 (n + d + 1) x0 K64 x7 (rnd x0 x7 j) (j : Int) = tikref2_block.l3 n x0 (rnd x0 x7 64) 0
  | 0, j, h => by
    obtain rfl : j = 64 := by omega
    rw [tikref2_block.l2, if_neg (by decide)]
  | d + 1, j, h => by
    rw [show n + (d + 1) + 1 = n + d + 1 + 1 by omega, l2_step _ _ _ _ _ rfl h7 (rnd_len _ _ h0 j) j (by omega)]
    exact l2_all n x0 x7 h0 h7 d (j + 1) (by omega)
theorem l3_all (n : Nat) (x0 u : List Int) (h0 : x0.length = 8) (hu : u.length = 8) : ∀ (d j : Nat), j + d = 8 → ∀ v : List Int, v.length = 8 → (∀ i : Nat, j ≤ i → rd v i = rd u i) → (∀ i : Nat, i < 8 → rd (addF x0 u j) i = if i < j then rd v i else rd x0 i) →
    tikref2_block.l3 (n + d + 1) x0 v (j : Int) = some (addF x0 u 8)
  | 0, j, h, v, hv, _, he => by
    obtain rfl : j = 8 := by omega
    rw [tikref2_block.l3, if_neg (by decide)]
    congr 1
    refine List.ext_getElem (by rw [hv, addF_len x0 u h0]) (fun i h1 h2 => ?_)
    have := he i (by omega)
    rw [if_pos (by omega)] at this
    unfold rd at this
    rw [Int.toNat_natCast, List.getD_eq_getElem?_getD, List.getD_eq_getElem?_getD, List.getElem?_eq_getElem h1, List.getElem?_eq_getElem h2] at this
    exact this.symm
  | d + 1, j, h, v, hv, hr, he => by
    have w1 : wrap64 ((j : Int) + 1) = ((j + 1 : Nat) : Int) := by unfold wrap64; omega
    have hx := he j (by omega)
    rw [if_neg (by omega)] at hx
    rw [show n + (d + 1) + 1 = n + d + 1 + 1 by omega, tikref2_block.l3]
    simp only [w1, Int.toNat_natCast]
    rw [if_pos (by omega), if_pos (by omega), if_pos (by omega), if_pos (by omega)]
    refine l3_all n x0 u h0 hu d (j + 1) (by omega) _ (by rw [List.length_set]; exact hv) (fun i hi => ?_) (fun i hi => ?_)
    · rw [rd_ne _ _ _ _ (by omega)]; exact hr i (by omega)
    · rw [addF]
      by_cases hij : j = i
      · subst hij
        rw [rd_self _ _ _ (by rw [addF_len x0 u h0]; omega), if_pos (by omega), rd_self _ _ _ (by omega), hx, hr j (Nat.le_refl _), Int.add_comm]
      · rw [rd_ne _ _ _ _ hij, he i hi]
        by_cases h3 : i < j
        · rw [if_pos h3, if_pos (by omega), rd_ne _ _ _ _ hij]
        · rw [if_neg h3, if_neg (by omega)]
theorem block_eq (n : Nat) (h l : List Int) (hh : h.length = 8) (hl : l.length = 64) (hb : By l) : tikref2_block.f (n + 160) h K64 l = some (mixed h l) := by
  unfold tikref2_block.f
  rw [if_pos (by decide)]
  have a0 := l0_all (n + 138) h K64 l hl hb 16 0 rfl
  rw [show n + 160 = n + 138 + 5 + 16 + 1 by omega]
  refine a0.trans ?_
  have e16 : spB (spA l 64) 16 = spA l 64 := by rw [spB]; rfl
  have a1 := l1_all (n + 94) h K64 (spA l 64) hh (spA_len l 64) 48 16 rfl (by omega)
  rw [e16] at a1
  rw [show n + 138 + 5 = n + 94 + 48 + 1 by omega]
  refine a1.trans ?_
  have a2 := l2_all (n + 29) h (spread l) hh (spread_len l) 64 0 rfl
  rw [show n + 94 = n + 29 + 64 + 1 by omega]
  refine a2.trans ?_
  rw [show n + 29 = n + 20 + 8 + 1 by omega]
  exact l3_all (n + 20) h (rnd h (spread l) 64) hh (rnd_len _ _ hh 64) 8 0 rfl _ (rnd_len _ _ hh 64) (fun _ _ => rfl) (fun i hi => by rw [if_neg (by omega)]; rfl)
end Go.Proofs.YtpimhoaeiafahaaDoor.E2
