/- The reference's Seal is the program's. -/
import Derived.Test.YtpimhoaeiafahaaDoorE6
namespace Go.Proofs.YtpimhoaeiafahaaDoor.E7
open Go.RowKit Go.Proofs.YtpimhoaeiafahaaDoorW.PrintWords Go.Proofs.YtpimhoaeiafahaaDoorW.PrintLast Go.Proofs.YtpimhoaeiafahaaDoorW.PrintMore Go.Proofs.YtpimhoaeiafahaaDoor.A Go.Proofs.YtpimhoaeiafahaaDoor.B Go.Proofs.YtpimhoaeiafahaaDoor.M0 Go.Proofs.YtpimhoaeiafahaaDoor.M6 Go.Proofs.YtpimhoaeiafahaaDoor.M7 Go.Proofs.YtpimhoaeiafahaaDoor.M8 Go.Proofs.YtpimhoaeiafahaaDoor.E1 Go.Proofs.YtpimhoaeiafahaaDoor.E2 Go.Proofs.YtpimhoaeiafahaaDoor.E3 Go.Proofs.YtpimhoaeiafahaaDoor.E5 Go.Proofs.YtpimhoaeiafahaaDoor.E6
set_option linter.unusedVariables false
set_option linter.unusedSimpArgs false

theorem may_ref (d v n : Int) (b : List Int) : T.tikref25_MayPacket.f d v n b = B.pkt_May.f d v n b := rfl
theorem may_T (d v n : Int) (b : List Int) : T.pkt_May.f d v n b = B.pkt_May.f d v n b := rfl
theorem may_some (d v n : Int) (b : List Int) : ∃ r, B.pkt_May.f d v n b = some r := by
  unfold B.pkt_May.f
  repeat' split
  all_goals exact ⟨_, rfl⟩
theorem may_true (d v n : Int) (b : List Int) (h : B.pkt_May.f d v n b = some true) : (d = 1 ∨ d = 2) ∧ 0 ≤ v ∧ v < 8 ∧ 1 ≤ n ∧ n ≤ 4611686018427387904 ∧ b.length ≤ 1200 := by
  unfold B.pkt_May.f at h
  repeat' split at h
  all_goals first | (simp at h; done) | (simp at h; omega)
/-- What is sealed. -/
def body_ (d v n : Int) (b : List Int) : List Int := headB d v n 8 ++ b
theorem seal_some (k : Nat) (key : List Int) (d v n : Int) (b : List Int) (hm : B.pkt_May.f d v n b = some true) (hk : key.length ≤ 1000000) : pkt_Seal.f (k + 73) key d v n b = some (body_ d v n b ++ tag key (body_ d v n b), 0) := by
  have hb := (may_true d v n b hm).2.2.2.2.2
  have hl : (body_ d v n b).length = 10 + b.length := by unfold body_; rw [List.length_append, headB_len]
  unfold pkt_Seal.f
  rw [hm]
  simp only [Option.bind_some, if_true]
  rw [if_pos hb, show headB d v n 8 ++ b = body_ d v n b from rfl, mac_tag k key _ hk (by omega) (by omega)]
  simp only [Option.bind_some]
  rw [if_pos (by rw [tag_len]; decide)]
theorem seal_none (k : Nat) (key : List Int) (d v n : Int) (b : List Int) (hm : B.pkt_May.f d v n b = some false) : pkt_Seal.f k key d v n b = some ([], 1) := by
  unfold pkt_Seal.f
  rw [hm]
  rfl
theorem head_eq (d v n : Int) : headB d v n 8 = [d % 256, v % 256] ++ len8 n := by
  simp [headB, len8]
theorem eight_T (v : Int) : T.tikref2_Eight.f v = A.tikref2_Eight.f v := rfl
theorem by_body (d v n : Int) (b : List Int) (hb : By b) : By (body_ d v n b) := by
  unfold body_
  rw [head_eq]
  refine By.append (By.append ?_ (E4.by_len8 n)) hb
  intro x hx
  simp only [List.mem_cons, List.not_mem_nil, or_false] at hx
  rcases hx with rfl | rfl <;> omega
theorem ref_seal' (k : Nat) (key : List Int) (d v n : Int) (b : List Int) (hm : B.pkt_May.f d v n b = some true) (ht : T.tikref2_Tag.f k key (body_ d v n b) = some (tag key (body_ d v n b))) : T.tikref25_Seal.f k key d v n b = some (body_ d v n b ++ tag key (body_ d v n b), 0) := by
  obtain ⟨_, _, _, hn1, hn2, hb⟩ := may_true d v n b hm
  have e : [d % 256, v % 256] ++ len8 n ++ b = body_ d v n b := by unfold body_; rw [head_eq]
  have l8 : (len8 n).length = 8 := rfl
  have l2 : [d % 256, v % 256].length = 2 := rfl
  have l10 : ([d % 256, v % 256] ++ len8 n).length = 10 := by rw [List.length_append, l8, l2]
  have lb : (body_ d v n b).length = 10 + b.length := by rw [← e, List.length_append, l10]
  unfold T.tikref25_Seal.f
  rw [may_ref, hm]
  simp only [Option.bind_some, if_true]
  rw [eight_T, E4.eight_of n (by omega) (by omega)]
  simp only [Option.bind_some]
  rw [if_pos (by omega), if_pos (by omega), e, ht]
  simp only [Option.bind_some]
  rw [if_pos (by rw [tag_len]; omega)]
theorem ref_seal (k : Nat) (key : List Int) (d v n : Int) (b : List Int) (hkb : By key) (hbb : By b) (hm : B.pkt_May.f d v n b = some true) (hk : key.length ≤ 1000000) : T.tikref25_Seal.f (k + 1000000) key d v n b = some (body_ d v n b ++ tag key (body_ d v n b), 0) := by
  have hb := (may_true d v n b hm).2.2.2.2.2
  have hl : (body_ d v n b).length = 10 + b.length := by unfold body_; rw [List.length_append, headB_len]
  exact ref_seal' _ key d v n b hm (ref_tag k key _ hkb (by_body d v n b hbb) hk (by omega) (by omega))
theorem ref_seal_none (k : Nat) (key : List Int) (d v n : Int) (b : List Int) (hm : B.pkt_May.f d v n b = some false) : T.tikref25_Seal.f k key d v n b = some ([], 1) := by
  unfold T.tikref25_Seal.f
  rw [may_ref, hm]
  rfl
end Go.Proofs.YtpimhoaeiafahaaDoor.E7
