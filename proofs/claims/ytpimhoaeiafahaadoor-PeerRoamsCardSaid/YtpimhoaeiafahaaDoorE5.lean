/- The two Hmacs are one. -/
import Derived.Test.YtpimhoaeiafahaaDoorE4
import Derived.Test.YtpimhoaeiafahaaDoorM7
namespace Go.Proofs.YtpimhoaeiafahaaDoor.E5
open Go.RowKit Go.Proofs.YtpimhoaeiafahaaDoorW.PrintWords Go.Proofs.YtpimhoaeiafahaaDoorW.PrintLast Go.Proofs.YtpimhoaeiafahaaDoorW.PrintMore Go.Proofs.YtpimhoaeiafahaaDoor.A Go.Proofs.YtpimhoaeiafahaaDoor.M0 Go.Proofs.YtpimhoaeiafahaaDoor.M1 Go.Proofs.YtpimhoaeiafahaaDoor.M2 Go.Proofs.YtpimhoaeiafahaaDoor.M3 Go.Proofs.YtpimhoaeiafahaaDoor.M5 Go.Proofs.YtpimhoaeiafahaaDoor.M6 Go.Proofs.YtpimhoaeiafahaaDoor.M7 Go.Proofs.YtpimhoaeiafahaaDoor.E1 Go.Proofs.YtpimhoaeiafahaaDoor.E2 Go.Proofs.YtpimhoaeiafahaaDoor.E3 Go.Proofs.YtpimhoaeiafahaaDoor.E4
set_option linter.unusedVariables false
set_option linter.unusedSimpArgs false

theorem xor8 (x y : Int) : Go.bits .xor .u8 x y = Go.bits .xor .u8 y x := by simp only [Go.bits, BitVec.xor_comm]
theorem xor8_by (x y : Int) : 0 ≤ Go.bits .xor .u8 x y ∧ Go.bits .xor .u8 x y < 256 := by
  unfold Go.bits
  simp only [IntKind.wrap_u8]
  omega
theorem rd_rep (x : Int) (j : Nat) (h : j < 64) : rd (List.replicate 64 x) (j : Int) = x := by
  unfold rd
  rw [Int.toNat_natCast, List.getD_eq_getElem?_getD, List.getElem?_replicate, if_pos h]
  rfl
theorem padF_ln (kk : List Int) (x : Int) : ∀ i, (padF kk x i).length = 64
  | 0 => by simp [padF]
  | i + 1 => by rw [padF, List.length_set]; exact padF_ln kk x i
theorem padR_ln (kk : List Int) (x : Int) : ∀ i, (padR kk x i).length = 64
  | 0 => by simp [padR]
  | i + 1 => by rw [padR, List.length_set]; exact padR_ln kk x i
theorem padF_rd (kk : List Int) (x : Int) (j : Nat) (hj : j < 64) : ∀ i : Nat, i ≤ 64 → rd (padF kk x i) (j : Int) = if j < i then Go.bits .xor .u8 x (rd kk j) else x
  | 0, _ => by rw [if_neg (by omega)]; exact rd_rep x j hj
  | i + 1, hi => by
    rw [padF]
    by_cases h : i = j
    · subst h
      rw [rd_self _ _ _ (by rw [padF_ln]; omega), if_pos (by omega), padF_rd kk x i hj i (by omega), if_neg (by omega)]
    · rw [rd_ne _ _ _ _ h, padF_rd kk x j hj i (by omega)]
      by_cases h2 : j < i
      · rw [if_pos h2, if_pos (by omega)]
      · rw [if_neg h2, if_neg (by omega)]
theorem padR_rd (kk : List Int) (x : Int) (j : Nat) (hj : j < 64) : ∀ i : Nat, i ≤ 64 → rd (padR kk x i) (j : Int) = if j < i then Go.bits .xor .u8 (if j < kk.length then rd kk j else 0) x else 0
  | 0, _ => by rw [if_neg (by omega)]; exact rd_rep 0 j hj
  | i + 1, hi => by
    rw [padR]
    by_cases h : i = j
    · subst h
      rw [rd_self _ _ _ (by rw [padR_ln]; omega), if_pos (show i < i + 1 by omega)]
    · rw [rd_ne _ _ _ _ h, padR_rd kk x j hj i (by omega)]
      by_cases h2 : j < i
      · rw [if_pos h2, if_pos (show j < i + 1 by omega)]
      · rw [if_neg h2, if_neg (by omega)]
theorem ext_rd {a b : List Int} (hl : a.length = b.length) (h : ∀ j : Nat, j < a.length → rd a (j : Int) = rd b (j : Int)) : a = b := by
  refine List.ext_getElem hl (fun i h1 h2 => ?_)
  have := h i h1
  unfold rd at this
  rw [Int.toNat_natCast, List.getD_eq_getElem?_getD, List.getD_eq_getElem?_getD, List.getElem?_eq_getElem h1, List.getElem?_eq_getElem h2] at this
  exact this
theorem pad_eq (kk : List Int) (x : Int) (hk : kk.length ≤ 64) (hx : Go.bits .xor .u8 0 x = x) : padF kk x kk.length = padR kk x 64 := by
  refine ext_rd (by rw [padF_ln, padR_ln]) (fun j hj => ?_)
  rw [padF_ln] at hj
  rw [padF_rd kk x j hj _ hk, padR_rd kk x j hj 64 (Nat.le_refl _), if_pos hj]
  by_cases h : j < kk.length
  · rw [if_pos h, if_pos h, xor8]
  · rw [if_neg h, if_neg h, hx]
theorem padR_by (kk : List Int) (x : Int) : ∀ i, By (padR kk x i)
  | 0 => fun y hy => by rw [(List.mem_replicate.1 hy).2]; decide
  | i + 1 => fun y hy => by
    rw [padR] at hy
    rcases List.mem_or_eq_of_mem_set hy with h | h
    · exact padR_by kk x i y h
    · rw [h]; exact xor8_by _ _
theorem outB_by (h : List Int) : ∀ i, By (outB h i)
  | 0 => fun y hy => by cases hy
  | i + 1 => by
    rw [outB]
    refine (outB_by h i).append (fun y hy => ?_)
    simp only [four, List.mem_cons, List.not_mem_nil, or_false] at hy
    rcases hy with rfl | rfl | rfl | rfl <;> omega
theorem sum_by (l : List Int) : By (sum l) := outB_by _ _
theorem sum_len (l : List Int) : (sum l).length = 32 := outB_len _ 8
/-- The key of one block. -/
def kOf (key : List Int) : List Int := if (key.length : Int) ≤ 64 then key else sum key
theorem kOf_len (key : List Int) : (kOf key).length ≤ 64 := by
  unfold kOf
  by_cases h : (key.length : Int) ≤ 64
  · rw [if_pos h]; omega
  · rw [if_neg h, sum_len]; omega
def hm (key msg : List Int) : List Int := sum (padR (kOf key) 92 64 ++ sum (padR (kOf key) 54 64 ++ msg))
theorem padded_eq (n : Nat) (key : List Int) (x : Int) (hl : key.length ≤ 1000000) (hx : Go.bits .xor .u8 0 x = x) : mac_padded.f (n + 73) key x = some (padR (kOf key) x 64) := by
  unfold mac_padded.f kOf
  by_cases h : (key.length : Int) ≤ 64
  · rw [if_pos h, if_pos h, pad_eq key x (by omega) hx]
  · rw [if_neg h, if_neg h, mac_sum n key hl]
    simp only [Option.bind_some]
    rw [if_pos (by rw [sum_len]; omega), pad_eq _ x (by rw [sum_len]; omega) hx]
theorem mac_hm (n : Nat) (key msg : List Int) (hk : key.length ≤ 1000000) (hm0 : msg.length ≠ 0) (hml : msg.length ≤ 900000) : mac_Hmac.f (n + 73) key [msg] = some (hm key msg) := by
  have x54 : Go.bits .xor .u8 0 54 = 54 := by kernel_rfl
  have x92 : Go.bits .xor .u8 0 92 = 92 := by kernel_rfl
  unfold mac_Hmac.f
  simp only []
  rw [if_neg hm0, if_pos (by omega), padded_eq n key 54 hk x54, padded_eq n key 92 hk x92]
  simp only [Option.bind_some]
  rw [mac_sum n _ (by rw [List.length_append, padR_ln]; omega)]
  simp only [Option.bind_some]
  rw [if_neg (by rw [sum_len]; omega), if_pos (by rw [sum_len]; omega), mac_sum n _ (by rw [List.length_append, padR_ln, sum_len]; omega)]
  rfl
theorem ref_hm' (k : Nat) (hs : ∀ l : List Int, By l → l.length ≤ 1000000 → tikref2_Sum.f k l = some (sum l)) (key msg : List Int) (hkb : By key) (hmb : By msg) (hk : key.length ≤ 1000000) (hm0 : msg.length ≠ 0) (hml : msg.length ≤ 900000) : tikref2_Hmac.f k key msg = some (hm key msg) := by
  have e : (if (key.length : Int) ≤ 64 then some key else tikref2_Sum.f k key) = some (kOf key) := by
    unfold kOf
    by_cases h : (key.length : Int) ≤ 64
    · rw [if_pos h, if_pos h]
    · rw [if_neg h, if_neg h, hs key hkb hk]
  have e1 := hs (padR (kOf key) 54 64 ++ msg) ((padR_by _ _ _).append hmb) (by rw [List.length_append, padR_ln]; omega)
  have e2 := hs (padR (kOf key) 92 64 ++ sum (padR (kOf key) 54 64 ++ msg)) ((padR_by _ _ _).append (sum_by _)) (by rw [List.length_append, padR_ln, sum_len]; omega)
  have h1 : msg.length ≤ 70368744177664 := Nat.le_trans hml (by decide)
  have h2 : ¬ (sum (padR (kOf key) 54 64 ++ msg)).length = 0 := by rw [sum_len]; decide
  have h3 : (sum (padR (kOf key) 54 64 ++ msg)).length ≤ 70368744177664 := by rw [sum_len]; decide
  unfold tikref2_Hmac.f
  rw [if_neg hm0, if_pos h1, e]
  simp only [Option.bind_some, e1]
  rw [if_neg h2, if_pos h3, e2]
  rfl
theorem ref_hm (n : Nat) (key msg : List Int) (hkb : By key) (hmb : By msg) (hk : key.length ≤ 1000000) (hm0 : msg.length ≠ 0) (hml : msg.length ≤ 900000) : tikref2_Hmac.f (n + 1000000) key msg = some (hm key msg) :=
  ref_hm' (n + 1000000) (fun l hb hl => ref_sum l hb hl n) key msg hkb hmb hk hm0 hml
end Go.Proofs.YtpimhoaeiafahaaDoor.E5
