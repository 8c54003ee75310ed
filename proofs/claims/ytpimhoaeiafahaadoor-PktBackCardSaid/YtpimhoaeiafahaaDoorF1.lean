/- PktBack: the plain law. -/
import Derived.Test.YtpimhoaeiafahaaDoorF0
import Derived.Test.YtpimhoaeiafahaaDoorUb
namespace Go.Proofs.YtpimhoaeiafahaaDoor.F1
open Go.RowKit Go.Proofs.YtpimhoaeiafahaaDoorW.PrintWords Go.Proofs.YtpimhoaeiafahaaDoorW.PrintLast Go.Proofs.YtpimhoaeiafahaaDoorW.PrintMore Go.Proofs.YtpimhoaeiafahaaDoor.A Go.Proofs.YtpimhoaeiafahaaDoor.B Go.Proofs.YtpimhoaeiafahaaDoor.M0 Go.Proofs.YtpimhoaeiafahaaDoor.M6 Go.Proofs.YtpimhoaeiafahaaDoor.M7 Go.Proofs.YtpimhoaeiafahaaDoor.M8 Go.Proofs.YtpimhoaeiafahaaDoor.E1 Go.Proofs.YtpimhoaeiafahaaDoor.E2 Go.Proofs.YtpimhoaeiafahaaDoor.E3 Go.Proofs.YtpimhoaeiafahaaDoor.E5 Go.Proofs.YtpimhoaeiafahaaDoor.E6 Go.Proofs.YtpimhoaeiafahaaDoor.E7 Go.Proofs.YtpimhoaeiafahaaDoor.F0
set_option linter.unusedVariables false
set_option linter.unusedSimpArgs false

theorem copy_val (b : List Int) (h : b.length ≤ 900000) : T.tikref_CopyBytes.f b = some b := by
  unfold T.tikref_CopyBytes.f
  simp (config := { implicitDefEqProofs := false }) only [Option.bind_some, List.length_nil, List.nil_append, Nat.zero_add]
  rw [if_pos (by omega)]
theorem first_at (k : Nat) (h : 200 ≤ k) : T.tiklaw25_first.f k = some true := by
  have := T.tiklaw25_first.up true (k - 200) 200 T.tiklaw25_first.val
  rwa [show 200 + (k - 200) = k by omega] at this
theorem open_not (key b : List Int) (h : ¬ b.length < 26) (e : eqv (tag key (b.take (b.length - 16))) (b.drop (b.length - 16)) = false) : openF key b = (0, 0, 0, [], 15) := by
  unfold openF
  rw [if_neg h, e, if_neg (by decide)]
theorem By.set {b : List Int} (hb : By b) (i : Nat) (x : Int) (hx : 0 ≤ x ∧ x < 256) : By (b.set i x) := by
  intro y hy
  rcases List.mem_or_eq_of_mem_set hy with h | h
  · exact hb y h
  · rw [h]; exact hx
theorem tag_at (k : Nat) (h : 1000000 ≤ k) (key msg : List Int) (hkb : By key) (hmb : By msg) (hk : key.length ≤ 1000000) (hm0 : msg.length ≠ 0) (hml : msg.length ≤ 900000) : T.tikref2_Tag.f k key msg = some (tag key msg) := by
  have := ref_tag (k - 1000000) key msg hkb hmb hk hm0 hml
  rwa [show k - 1000000 + 1000000 = k by omega] at this
theorem last (v1 v2 : Int × Int × Int × List Int × Int) (q1 q2 : Bool) (o1 : q1 = false → v1 = (0, 0, 0, [], 15)) (o2 : q2 = false → v2 = (0, 0, 0, [], 15)) :
    (if q1 = true then (if q2 = true then some true else some (v2.2.2.2.2 == 15)) else (if v1.2.2.2.2 = 15 then (if q2 = true then some true else some (v2.2.2.2.2 == 15)) else some false)) = some true := by
  cases q1 <;> cases q2 <;> simp_all
theorem j1_ok (k : Nat) (h : 1000000 ≤ k) (key other b : List Int) (bit : Int) (hkb : By key) (hob : By other) (hb : By b) (hk : key.length ≤ 1000) (ho : other.length ≤ 1000) (h26 : ¬ b.length < 26) (hbl : b.length ≤ 3000) (h0 : 0 ≤ bit) : T.tiklaw25_PktBack.j1 (k + 1) key other bit b false = some true := by
  have e8 : wrap64 (8 * (b.length : Int)) = 8 * (b.length : Int) := by unfold wrap64; omega
  have em : Int.tmod bit (8 * (b.length : Int)) = bit % (8 * (b.length : Int)) := Int.tmod_eq_emod_of_nonneg h0
  have m0 : 0 ≤ bit % (8 * (b.length : Int)) := Int.emod_nonneg _ (by omega)
  have m1 : bit % (8 * (b.length : Int)) < 8 * (b.length : Int) := Int.emod_lt_of_pos _ (by omega)
  generalize hmm : bit % (8 * (b.length : Int)) = m at *
  have ed : Int.tdiv m 8 = m / 8 := Int.tdiv_eq_ediv_of_nonneg m0
  have ew : wrap64 (m / 8) = m / 8 := by unfold wrap64; omega
  have er : Int.tmod m 8 = m % 8 := Int.tmod_eq_emod_of_nonneg m0
  have es : (0 : Int) ≤ IntKind.u64.wrap (m % 8) := by rw [IntKind.wrap_u64]; exact Int.emod_nonneg _ (by decide)
  have w : wrap64 ((b.length : Int) - 16) = ((b.length - 16 : Nat) : Int) := by unfold wrap64; omega
  rw [T.tiklaw25_PktBack.j1, if_neg (by decide), copy_val b (by omega)]
  simp (config := { implicitDefEqProofs := false }) only [Option.bind_some]
  rw [e8, if_neg (by omega), em, ed, ew, if_pos (by omega), if_pos (by omega), er, if_pos es]
  have hx := E5.xor8_by (rd b (m / 8)) (shl .u8 1 (IntKind.u64.wrap (m % 8)))
  generalize Go.bits .xor .u8 (rd b (m / 8)) (shl .u8 1 (IntKind.u64.wrap (m % 8))) = x at *
  have hy : By (b.set (m / 8).toNat x) := By.set hb _ _ hx
  have hyl : (b.set (m / 8).toNat x).length = b.length := List.length_set
  generalize b.set (m / 8).toNat x = y at *
  rw [open_val k key y (by omega) (by omega) (by omega), open_val k other b (by omega) (by omega) (by omega), w]
  simp (config := { implicitDefEqProofs := false }) only [Option.bind_some, Int.toNat_natCast]
  rw [if_pos (by omega), if_pos (by omega), tag_at k h key _ hkb (hy.take _) (by omega) (by rw [List.length_take]; omega) (by rw [List.length_take]; omega)]
  simp (config := { implicitDefEqProofs := false }) only [Option.bind_some, eqv_ref]
  rw [if_pos (by omega), tag_at k h other _ hob (hb.take _) (by omega) (by rw [List.length_take]; omega) (by rw [List.length_take]; omega)]
  simp (config := { implicitDefEqProofs := false }) only [Option.bind_some, eqv_ref, first_at k (by omega), if_true]
  have o1 := open_not key y (by omega)
  have o2 := open_not other b h26
  rw [hyl] at o1
  generalize eqv (tag key (y.take (b.length - 16))) (y.drop (b.length - 16)) = q1 at *
  generalize eqv (tag other (b.take (b.length - 16))) (b.drop (b.length - 16)) = q2 at *
  generalize openF key y = v1 at *
  generalize openF other b = v2 at *
  exact last v1 v2 q1 q2 o1 o2
theorem same_self (d v n : Int) (b : List Int) : T.pkt_Same.f d v n b d v n b = some true := by
  unfold T.pkt_Same.f
  simp [eqv_equal, eqv_self]
theorem j0_true (k : Nat) (h : 200 ≤ k) (key other : List Int) (bit d v n : Int) (b : List Int) : T.tiklaw25_PktBack.j0 (k + 1) key other bit true d v n b = some true := by
  rw [T.tiklaw25_PktBack.j0, if_pos rfl, first_at k h]
  rfl
theorem j0_false (k : Nat) (h : 1000000 ≤ k) (key other : List Int) (bit d v n : Int) (b : List Int) (hkb : By key) (hob : By other) (hb : By b) (hk : key.length ≤ 1000) (ho : other.length ≤ 1000) (h0 : 0 ≤ bit) (hm : mayB d v n b = true) : T.tiklaw25_PktBack.j0 (k + 1 + 1) key other bit false d v n b = some true := by
  obtain ⟨_, _, _, _, _, hbl⟩ := may_of hm
  have hl := sealB_len key d v n b
  have w : (wrap64 ((wrap64 (10 + (b.length : Int))) + 16)) = 26 + (b.length : Int) := by unfold wrap64; omega
  rw [T.tiklaw25_PktBack.j0, if_neg (by decide), seal_val _ key d v n b (by omega) (by omega), if_pos hm]
  simp (config := { implicitDefEqProofs := false }) only [Option.bind_some]
  rw [open_val _ key _ (by omega) (by omega) (by omega), open_sealed key d v n b hm]
  simp (config := { implicitDefEqProofs := false }) only [Option.bind_some, if_true, same_self, w]
  rw [hl, show (((26 + b.length : Nat) : Int) != 26 + (b.length : Int)) = false by simp]
  exact j1_ok k h key other _ bit hkb hob (sealB_by key d v n b hb) hk ho (by omega) (by omega) h0
theorem pure (key other : List Int) (d v n : Int) (b : List Int) (bit : Int) (hkb : By key) (hob : By other) (hb : By b) : ∃ k, T.tiklaw25_PktBack.f k key other d v n b bit = some true := by
  refine ⟨1000000 + 1 + 1, ?_⟩
  unfold T.tiklaw25_PktBack.f
  rw [first_at _ (by omega)]
  simp (config := { implicitDefEqProofs := false }) only [Option.bind_some, if_true]
  by_cases c1 : (key.length : Int) > 1000
  · rw [if_pos c1]; exact j0_true _ (by omega) _ _ _ _ _ _ _
  · rw [if_neg c1]
    by_cases c2 : (other.length : Int) > 1000
    · rw [if_pos c2]; exact j0_true _ (by omega) _ _ _ _ _ _ _
    · rw [if_neg c2, may_T, may_val]
      simp (config := { implicitDefEqProofs := false }) only [Option.bind_some]
      cases hm : mayB d v n b with
      | false => rw [if_neg (by decide)]; exact j0_true _ (by omega) _ _ _ _ _ _ _
      | true =>
        rw [if_pos rfl]
        by_cases c3 : bit < 0
        · rw [decide_eq_true c3]; exact j0_true _ (by omega) _ _ _ _ _ _ _
        · rw [decide_eq_false c3]; exact j0_false _ (by omega) _ _ _ _ _ _ _ hkb hob hb (by omega) (by omega) (by omega) hm
end Go.Proofs.YtpimhoaeiafahaaDoor.F1
