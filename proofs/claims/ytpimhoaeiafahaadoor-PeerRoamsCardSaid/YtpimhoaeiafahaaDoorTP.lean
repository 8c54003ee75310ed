/- pkt.Open's contract over bytes that are only read. -/
import Derived.Test.YtpimhoaeiafahaaDoorTx2
import Derived.Test.YtpimhoaeiafahaaDoorTx3
import Derived.Test.YtpimhoaeiafahaaDoorTx6
namespace Go.Proofs.YtpimhoaeiafahaaDoor.TP
open Go.RowKit Go.Proofs.YtpimhoaeiafahaaDoorW.PrintWords Go.Proofs.YtpimhoaeiafahaaDoorW.PrintLast Go.Proofs.YtpimhoaeiafahaaDoorW.PrintMore Go.Proofs.YtpimhoaeiafahaaDoor.M0
set_option linter.unusedVariables false
theorem open_plain (k : Nat) (A0 : Option Addr) (c0 : Nat) (l0 : List Int) (A1 : Option Addr) (c1 : Nat) (l1 : List Int) (r1 : Int) (r2 : Int) (r3 : Int) (r4 : List Int) (r5 : Int) (w : World) (hr0 : Kd.C (Kd.int .u8) w A0 l0.length l0) (hc0 : l0.length ≤ c0) (hr1 : Kd.C (Kd.int .u8) w A1 l1.length l1) (hc1 : l1.length ≤ c1) (hG : LaidG w) (h : T.pkt_Open.f k l0 l1 = some (r1, r2, r3, r4, r5)) :
    Calls Tryd.prog 18 #[.slice A0 l0.length c0, .slice A1 l1.length c1] w fun e w' => ∃ v3_ : Value, e = .returned (.tuple #[.agg #[.int .i64 r1, .int .i64 r2, .int .u64 r3, v3_], .int .i64 r5]) ∧ Kd.R (Kd.int .u8) 5 w' w.heap.size (fun _ => True) v3_ r4 ∧ Below w.heap.size w w' := by
  refine (T.pkt_Open.calls k A0 c0 l0 (fun k_ => k_ < w.heap.size) A1 c1 l1 r1 r2 r3 r4 r5 w hr0 hc0 (Kd.V_mk hc1 (Kd.C_F (Kd.heap_int .u8) hr1)) hG h).mono ?_
  rintro e w' ⟨v, rfl, hv, hb⟩
  exact ⟨v, rfl, Kd.R_mono hv (fun _ _ => trivial), hb⟩
end Go.Proofs.YtpimhoaeiafahaaDoor.TP
