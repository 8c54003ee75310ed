/- The two tags are one (texts of print T). -/
import Derived.Test.YtpimhoaeiafahaaDoorE5
import Derived.Test.YtpimhoaeiafahaaDoorTx3
namespace Go.Proofs.YtpimhoaeiafahaaDoor.E6
open Go.RowKit Go.Proofs.YtpimhoaeiafahaaDoorW.PrintWords Go.Proofs.YtpimhoaeiafahaaDoorW.PrintLast Go.Proofs.YtpimhoaeiafahaaDoorW.PrintMore Go.Proofs.YtpimhoaeiafahaaDoor.A Go.Proofs.YtpimhoaeiafahaaDoor.B Go.Proofs.YtpimhoaeiafahaaDoor.M0 Go.Proofs.YtpimhoaeiafahaaDoor.M6 Go.Proofs.YtpimhoaeiafahaaDoor.M7 Go.Proofs.YtpimhoaeiafahaaDoor.E1 Go.Proofs.YtpimhoaeiafahaaDoor.E3 Go.Proofs.YtpimhoaeiafahaaDoor.E5
set_option linter.unusedVariables false
set_option linter.unusedSimpArgs false

def tag (key msg : List Int) : List Int := (hm key msg).take 16
theorem hm_len (key msg : List Int) : (hm key msg).length = 32 := sum_len _
theorem tag_len (key msg : List Int) : (tag key msg).length = 16 := by unfold tag; rw [List.length_take, hm_len]; rfl
theorem tag_by (key msg : List Int) : By (tag key msg) := (sum_by _).take _
theorem mac_tag (n : Nat) (key msg : List Int) (hk : key.length ≤ 1000000) (hm0 : msg.length ≠ 0) (hml : msg.length ≤ 900000) : mac_Tag.f (n + 73) key [msg] = some (tag key msg) := by
  have h1 : (16 : Int) ≤ ((hm key msg).length : Int) := by rw [hm_len]; decide
  have h2 : ((hm key msg).take 16).length < 140737488355328 := by rw [List.length_take, hm_len]; decide
  unfold mac_Tag.f bytes_Clone.f
  rw [mac_hm n key msg hk hm0 hml]
  simp only [Option.bind_some]
  rw [if_pos h1, if_pos h2]
  rfl
theorem ref_tag' (k : Nat) (key msg : List Int) (h : tikref2_Hmac.f k key msg = some (hm key msg)) : T.tikref2_Tag.f k key msg = some (tag key msg) := by
  have h1 : (16 : Int) ≤ ((hm key msg).length : Int) := by rw [hm_len]; decide
  unfold T.tikref2_Tag.f
  rw [h]
  simp only [Option.bind_some]
  rw [if_pos h1]
  rfl
theorem ref_tag (n : Nat) (key msg : List Int) (hkb : By key) (hmb : By msg) (hk : key.length ≤ 1000000) (hm0 : msg.length ≠ 0) (hml : msg.length ≤ 900000) : T.tikref2_Tag.f (n + 1000000) key msg = some (tag key msg) :=
  ref_tag' _ key msg (ref_hm n key msg hkb hmb hk hm0 hml)
end Go.Proofs.YtpimhoaeiafahaaDoor.E6
