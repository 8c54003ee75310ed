/- PktTells: the plain law. -/
import Derived.Test.YtpimhoaeiafahaaDoorE8
import Derived.Test.YtpimhoaeiafahaaDoorTx7
namespace Go.Proofs.YtpimhoaeiafahaaDoor.E9
open Go.RowKit Go.Proofs.YtpimhoaeiafahaaDoorW.PrintWords Go.Proofs.YtpimhoaeiafahaaDoorW.PrintLast Go.Proofs.YtpimhoaeiafahaaDoorW.PrintMore Go.Proofs.YtpimhoaeiafahaaDoor.A Go.Proofs.YtpimhoaeiafahaaDoor.B Go.Proofs.YtpimhoaeiafahaaDoor.M0 Go.Proofs.YtpimhoaeiafahaaDoor.M6 Go.Proofs.YtpimhoaeiafahaaDoor.M7 Go.Proofs.YtpimhoaeiafahaaDoor.M8 Go.Proofs.YtpimhoaeiafahaaDoor.E1 Go.Proofs.YtpimhoaeiafahaaDoor.E2 Go.Proofs.YtpimhoaeiafahaaDoor.E3 Go.Proofs.YtpimhoaeiafahaaDoor.E5 Go.Proofs.YtpimhoaeiafahaaDoor.E6 Go.Proofs.YtpimhoaeiafahaaDoor.E7 Go.Proofs.YtpimhoaeiafahaaDoor.E8
set_option linter.unusedVariables false
set_option linter.unusedSimpArgs false

theorem bytes_self (x : List Int) : T.tikref_Bytes.f x x = some true := by
  unfold T.tikref_Bytes.f
  simp
theorem same_self (d v n : Int) (b : List Int) : T.tikref25_SamePacket.f d v n b d v n b = some true := by
  unfold T.tikref25_SamePacket.f
  simp [bytes_self]
theorem same_eq (d v n : Int) (b : List Int) (d' v' n' : Int) (b' : List Int) : ∃ r, T.pkt_Same.f d v n b d' v' n' b' = some r ∧ T.tikref25_SamePacket.f d v n b d' v' n' b' = some r := by
  obtain ⟨r, h1, h2⟩ := eq_bytes b b'
  have h1' : T.bytes_Equal.f b b' = some r := h1
  unfold T.pkt_Same.f T.tikref25_SamePacket.f
  by_cases c1 : d = d'
  · by_cases c2 : v = v'
    · by_cases c3 : n = n'
      · exact ⟨r, by simp [c1, c2, c3, h1'], by simp [c1, c2, c3, h2]⟩
      · exact ⟨false, by simp [c1, c2, c3], by simp [c1, c2, c3]⟩
    · exact ⟨false, by simp [c1, c2], by simp [c1, c2]⟩
  · exact ⟨false, by simp [c1], by simp [c1]⟩
theorem first_T (k : Nat) : T.tiklaw25_first.f (200 + k) = some true := T.tiklaw25_first.up true k 200 T.tiklaw25_first.val
theorem seal_eq (key : List Int) (d v n : Int) (b : List Int) (hkb : By key) (hbb : By b) (hk : key.length ≤ 3000) :
    ∃ x e, ∀ k, 1000000 ≤ k → M8.pkt_Seal.f k key d v n b = some (x, e) ∧ T.tikref25_Seal.f k key d v n b = some (x, e) := by
  obtain ⟨m, hm⟩ := may_some d v n b
  cases m with
  | true => exact ⟨_, _, fun k h => ⟨by have := seal_some (k - 73) key d v n b hm (by omega); rwa [show k - 73 + 73 = k by omega] at this, by have := ref_seal (k - 1000000) key d v n b hkb hbb hm (by omega); rwa [show k - 1000000 + 1000000 = k by omega] at this⟩⟩
  | false => exact ⟨_, _, fun k h => ⟨seal_none k key d v n b hm, ref_seal_none k key d v n b hm⟩⟩
theorem open_eq (key b : List Int) (hkb : By key) (hbb : By b) (hk : key.length ≤ 3000) (hb : b.length ≤ 3000) (k : Nat) (h : 1000000 ≤ k) : ∃ r, T.pkt_Open.f k key b = some r ∧ T.tikref25_Open.f k key b = some r := by
  by_cases h26 : b.length < 26
  · have w : wrap64 ((b.length : Int) - 16) = (b.length : Int) - 16 := by unfold wrap64; omega
    refine ⟨(0, 0, 0, [], 3), ?_, ?_⟩
    · unfold T.pkt_Open.f
      rw [w, if_pos (by omega)]
    · unfold T.tikref25_Open.f
      rw [if_pos (by omega)]
  · have hl : (b.take (b.length - 16)).length = b.length - 16 := by rw [List.length_take]; omega
    have t1 := mac_tag (k - 73) key (b.take (b.length - 16)) (by omega) (by omega) (by omega)
    rw [show k - 73 + 73 = k by omega] at t1
    have t2 := ref_tag (k - 1000000) key (b.take (b.length - 16)) hkb (hbb.take _) (by omega) (by omega) (by omega)
    rw [show k - 1000000 + 1000000 = k by omega] at t2
    exact open_eq' k key b _ hb h26 t1 t2 (by omega)
theorem first_at (k : Nat) (h : 1000000 ≤ k) : T.tiklaw25_first.f k = some true := by
  have := first_T (k - 200)
  rwa [show 200 + (k - 200) = k by omega] at this
theorem j0_true (k : Nat) (h : 1000000 ≤ k) (x0 x3 : List Int) (d v n : Int) (b : List Int) (d' v' n' : Int) (b' : List Int) : T.tiklaw25_PktTells.j0 (k + 1) x0 x3 true d v n b d' v' n' b' = some true := by
  rw [T.tiklaw25_PktTells.j0, if_pos rfl, first_at k h]
  rfl
theorem j0_false (k : Nat) (h : 1000000 ≤ k) (key x3 : List Int) (d v n : Int) (b : List Int) (d' v' n' : Int) (b' : List Int) (hkb : By key) (hbb : By b) (h3 : By x3) (hk : key.length ≤ 3000) (hl : x3.length ≤ 3000) : T.tiklaw25_PktTells.j0 (k + 1) key x3 false d v n b d' v' n' b' = some true := by
  obtain ⟨x, e, hs⟩ := seal_eq key d v n b hkb hbb hk
  obtain ⟨⟨u1, u2, u3, u4, u5⟩, ho1, ho2⟩ := open_eq key x3 hkb h3 hk hl k h
  obtain ⟨m, hm⟩ := may_some d v n b
  obtain ⟨r, hr1, hr2⟩ := same_eq d v n b d' v' n' b'
  have hm2 : T.pkt_May.f d v n b = some m := hm
  have hm3 : T.tikref25_MayPacket.f d v n b = some m := hm
  rw [T.tiklaw25_PktTells.j0, if_neg (by decide), (hs k h).1]
  simp only [Option.bind_some, T.tiklaw25_Plain.f, (hs k h).2, ho1, ho2, first_at k h, if_true, bytes_self, same_self, hm2, hm3, hr1, hr2, beq_self_eq_true]
theorem pure (key : List Int) (d v n : Int) (b : List Int) (d' v' n' : Int) (b' x3 : List Int) (hkb : By key) (hbb : By b) (h3 : By x3) : ∃ k, T.tiklaw25_PktTells.f k key d v n b d' v' n' b' x3 = some true := by
  refine ⟨1000000 + 1, ?_⟩
  unfold T.tiklaw25_PktTells.f
  rw [first_at _ (by omega)]
  simp only [Option.bind_some, if_true]
  by_cases c1 : (key.length : Int) > 3000
  · rw [if_pos c1]; exact j0_true _ (by omega) _ _ _ _ _ _ _ _ _ _
  · rw [if_neg c1]
    by_cases c2 : (b.length : Int) > 3000
    · rw [if_pos c2]; exact j0_true _ (by omega) _ _ _ _ _ _ _ _ _ _
    · rw [if_neg c2]
      by_cases c3 : (b'.length : Int) > 3000
      · rw [if_pos c3]; exact j0_true _ (by omega) _ _ _ _ _ _ _ _ _ _
      · rw [if_neg c3]
        by_cases c4 : (x3.length : Int) > 3000
        · rw [show decide ((x3.length : Int) > 3000) = true from decide_eq_true c4]; exact j0_true _ (by omega) _ _ _ _ _ _ _ _ _ _
        · rw [show decide ((x3.length : Int) > 3000) = false from decide_eq_false c4]
          exact j0_false _ (by omega) _ _ _ _ _ _ _ _ _ _ hkb hbb h3 (by omega) (by omega)
end Go.Proofs.YtpimhoaeiafahaaDoor.E9
