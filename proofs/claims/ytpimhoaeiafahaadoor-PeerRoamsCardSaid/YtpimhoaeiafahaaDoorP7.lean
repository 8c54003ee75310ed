/- PeerRoams answers true, for every input whose key can be copied. -/
import Derived.Test.YtpimhoaeiafahaaDoorP5
import Derived.Test.YtpimhoaeiafahaaDoorP6
namespace Go.Proofs.YtpimhoaeiafahaaDoor.P7
open Go.RowKit Go.Proofs.YtpimhoaeiafahaaDoorW.PrintWords Go.Proofs.YtpimhoaeiafahaaDoorW.PrintLast Go.Proofs.YtpimhoaeiafahaaDoorW.PrintMore Go.Proofs.YtpimhoaeiafahaaDoor.M0
theorem roams (A0 : Option Addr) (c0 : Nat) (l0 : List Int) (A1 : Option Addr) (c1 : Nat) (l1 : List Int) (A2 : Option Addr) (c2 : Nat) (l2 : List Int) (w : World) (hr0 : Kd.C (Kd.int .u8) w A0 l0.length l0) (hc0 : l0.length ≤ c0) (hr1 : Kd.C (Kd.int .i64) w A1 l1.length l1) (hc1 : l1.length ≤ c1) (hr2 : Kd.C (Kd.int .i64) w A2 l2.length l2) (hc2 : l2.length ≤ c2) (hG : LaidG w) (kl : l0.length < 140737488355328) :
    Calls Tryd.prog 9 #[.slice A0 l0.length c0, .slice A1 l1.length c1, .slice A2 l2.length c2] w fun e w' => e = .returned (.bool true) ∧ Below w.heap.size w w' := by
  by_cases k1 : l0.length ≤ 1000
  · by_cases k2 : l1.length ≤ 100
    · by_cases k3 : l1.length ≤ l2.length
      · exact P5.roams A0 c0 l0 A1 c1 l1 A2 c2 l2 w hr0 hc0 hr1 hc1 hr2 hc2 hG k1 k2 k3
      · exact P6.roams_no3 A0 c0 l0 A1 c1 l1 A2 c2 l2 w hr0 hc0 hr1 hc1 hr2 hc2 hG kl k1 k2 (by omega)
    · exact P6.roams_no2 A0 c0 l0 A1 c1 l1 A2 c2 l2 w hr0 hc0 hr1 hc1 hr2 hc2 hG kl k1 (by omega)
  · exact P6.roams_no1 A0 c0 l0 A1 c1 l1 A2 c2 l2 w hr0 hc0 hr1 hc1 hr2 hc2 hG kl (by omega)
end Go.Proofs.YtpimhoaeiafahaaDoor.P7
