/- PeerRoams walked where a bound is passed: it answers true. -/
import Derived.Test.YtpimhoaeiafahaaDoorP4
import Derived.Deep.RegionHeld3
import Derived.Deep.QuietTactic
import Derived.BigQuiet
namespace Go.Proofs.YtpimhoaeiafahaaDoor.P6
open Go.RowKit Go.Proofs.YtpimhoaeiafahaaDoorW.PrintWords Go.Proofs.YtpimhoaeiafahaaDoorW.PrintLast Go.Proofs.YtpimhoaeiafahaaDoorW.PrintMore Go.Proofs.YtpimhoaeiafahaaDoor.M0 Go.Proofs.YtpimhoaeiafahaaDoor.M8 Go.Proofs.YtpimhoaeiafahaaDoor.F0 Go.Proofs.YtpimhoaeiafahaaDoor.P0 Go.Proofs.YtpimhoaeiafahaaDoor.P1 Go.Proofs.YtpimhoaeiafahaaDoor.P2 Go.Proofs.YtpimhoaeiafahaaDoor.P3 Go.Proofs.YtpimhoaeiafahaaDoor.P4
set_option linter.unusedVariables false
set_option linter.unusedSimpArgs false
set_option maxHeartbeats 8000000 in
set_option maxRecDepth 100000 in
theorem roams_no1 (A0 : Option Addr) (c0 : Nat) (l0 : List Int) (A1 : Option Addr) (c1 : Nat) (l1 : List Int) (A2 : Option Addr) (c2 : Nat) (l2 : List Int) (w : World) (hr0 : Kd.C (Kd.int .u8) w A0 l0.length l0) (hc0 : l0.length ≤ c0) (hr1 : Kd.C (Kd.int .i64) w A1 l1.length l1) (hc1 : l1.length ≤ c1) (hr2 : Kd.C (Kd.int .i64) w A2 l2.length l2) (hc2 : l2.length ≤ c2) (hG : LaidG w)
    (kl : l0.length < 140737488355328) (k1 : 1000 < l0.length) :
    Calls Tryd.prog 9 #[.slice A0 l0.length c0, .slice A1 l1.length c1, .slice A2 l2.length c2] w fun e w' => e = .returned (.bool true) ∧ Below w.heap.size w w' := by
  have HR0 := Aside0.mk hr0
  have HR1 := Aside0.mk hr1
  have HR2 := Aside0.mk hr2
  have HC0 := Aside0.mk hc0
  have HC1 := Aside0.mk hc1
  have HC2 := Aside0.mk hc2
  have HG := Aside0.mk hG
  have HKL := Aside0.mk kl
  have e0 : decide ((l0.length : Int) > 1000) = true := decide_eq_true (by omega)
  have e1 : decide (1000 < l0.length) = true := decide_eq_true (by omega)
  clear hr0 hr1 hr2 hc0 hc1 hc2 hG kl k1
  go_enter Tryd.func9, Tryd.ntmps9
  go_upto_region 3 with (go_at_call 27; refine (first_ w HG.out).mono ?_; rintro e w1 ⟨rfl, hb⟩; have HB := Aside0.mk hb; clear hb)
  go_upto_region 4 with (go_at_call 29; refine (new_yes A0 c0 l0 2 3 0 w1 (Kd.C_below HR0.out HB.out) HC0.out (by kernel_rfl) (by decide) HKL.out).mono ?_; rintro e w2 ⟨ga, gia, Ka, kca, rfl, hpa, hb⟩; have HPA := Aside0.mk hpa; have HBA := Aside0.mk (below_size HB.out); have HB2 := Aside0.mk (below_step HB.out hb); clear HB hpa hb; have HB := HB2; clear HB2)
  go_upto_region 5 with (go_at_call 29; refine (new_yes A0 c0 l0 1 3 0 w2 (Kd.C_below HR0.out HB.out) HC0.out (by kernel_rfl) (by decide) HKL.out).mono ?_; rintro e w4 ⟨gb, gib, Kb, kcb, rfl, hpb, hb⟩; have HPB := Aside0.mk hpb; have HPA3 := Aside0.mk (HPA.out.below hb); have HBB := Aside0.mk (below_size HB.out); have HB2 := Aside0.mk (below_step HB.out hb); clear HB hpb hb HPA; have HB := HB2; have HPA := HPA3; clear HB2 HPA3)
  clear HPA HPB HBA HBB
  go_wp2_with (go_at_call 27; refine (first_ w4 (HG.out.below HB.out)).mono ?_; rintro e w8 ⟨rfl, hb⟩; have HB3 := Aside0.mk (below_step HB.out hb); clear hb HB; have HB := HB3; clear HB3)
  go_ret
  exact ⟨rfl, HB.out⟩
set_option maxHeartbeats 8000000 in
set_option maxRecDepth 100000 in
theorem roams_no2 (A0 : Option Addr) (c0 : Nat) (l0 : List Int) (A1 : Option Addr) (c1 : Nat) (l1 : List Int) (A2 : Option Addr) (c2 : Nat) (l2 : List Int) (w : World) (hr0 : Kd.C (Kd.int .u8) w A0 l0.length l0) (hc0 : l0.length ≤ c0) (hr1 : Kd.C (Kd.int .i64) w A1 l1.length l1) (hc1 : l1.length ≤ c1) (hr2 : Kd.C (Kd.int .i64) w A2 l2.length l2) (hc2 : l2.length ≤ c2) (hG : LaidG w)
    (kl : l0.length < 140737488355328) (k1 : l0.length ≤ 1000) (k2 : 100 < l1.length) :
    Calls Tryd.prog 9 #[.slice A0 l0.length c0, .slice A1 l1.length c1, .slice A2 l2.length c2] w fun e w' => e = .returned (.bool true) ∧ Below w.heap.size w w' := by
  have HR0 := Aside0.mk hr0
  have HR1 := Aside0.mk hr1
  have HR2 := Aside0.mk hr2
  have HC0 := Aside0.mk hc0
  have HC1 := Aside0.mk hc1
  have HC2 := Aside0.mk hc2
  have HG := Aside0.mk hG
  have HKL := Aside0.mk kl
  have e0 : decide ((l0.length : Int) > 1000) = false := decide_eq_false (by omega)
  have e1 : decide (1000 < l0.length) = false := decide_eq_false (by omega)
  have e2 : decide ((l1.length : Int) > 100) = true := decide_eq_true (by omega)
  have e3 : decide (100 < l1.length) = true := decide_eq_true (by omega)
  clear hr0 hr1 hr2 hc0 hc1 hc2 hG kl k1 k2
  go_enter Tryd.func9, Tryd.ntmps9
  go_upto_region 3 with (go_at_call 27; refine (first_ w HG.out).mono ?_; rintro e w1 ⟨rfl, hb⟩; have HB := Aside0.mk hb; clear hb)
  go_upto_region 4 with (go_at_call 29; refine (new_yes A0 c0 l0 2 3 0 w1 (Kd.C_below HR0.out HB.out) HC0.out (by kernel_rfl) (by decide) HKL.out).mono ?_; rintro e w2 ⟨ga, gia, Ka, kca, rfl, hpa, hb⟩; have HPA := Aside0.mk hpa; have HBA := Aside0.mk (below_size HB.out); have HB2 := Aside0.mk (below_step HB.out hb); clear HB hpa hb; have HB := HB2; clear HB2)
  go_upto_region 5 with (go_at_call 29; refine (new_yes A0 c0 l0 1 3 0 w2 (Kd.C_below HR0.out HB.out) HC0.out (by kernel_rfl) (by decide) HKL.out).mono ?_; rintro e w4 ⟨gb, gib, Kb, kcb, rfl, hpb, hb⟩; have HPB := Aside0.mk hpb; have HPA3 := Aside0.mk (HPA.out.below hb); have HBB := Aside0.mk (below_size HB.out); have HB2 := Aside0.mk (below_step HB.out hb); clear HB hpb hb HPA; have HB := HB2; have HPA := HPA3; clear HB2 HPA3)
  clear HPA HPB HBA HBB
  go_wp2_with (go_at_call 27; refine (first_ w4 (HG.out.below HB.out)).mono ?_; rintro e w8 ⟨rfl, hb⟩; have HB3 := Aside0.mk (below_step HB.out hb); clear hb HB; have HB := HB3; clear HB3)
  go_ret
  exact ⟨rfl, HB.out⟩
set_option maxHeartbeats 8000000 in
set_option maxRecDepth 100000 in
theorem roams_no3 (A0 : Option Addr) (c0 : Nat) (l0 : List Int) (A1 : Option Addr) (c1 : Nat) (l1 : List Int) (A2 : Option Addr) (c2 : Nat) (l2 : List Int) (w : World) (hr0 : Kd.C (Kd.int .u8) w A0 l0.length l0) (hc0 : l0.length ≤ c0) (hr1 : Kd.C (Kd.int .i64) w A1 l1.length l1) (hc1 : l1.length ≤ c1) (hr2 : Kd.C (Kd.int .i64) w A2 l2.length l2) (hc2 : l2.length ≤ c2) (hG : LaidG w)
    (kl : l0.length < 140737488355328) (k1 : l0.length ≤ 1000) (k2 : l1.length ≤ 100) (k3 : l2.length < l1.length) :
    Calls Tryd.prog 9 #[.slice A0 l0.length c0, .slice A1 l1.length c1, .slice A2 l2.length c2] w fun e w' => e = .returned (.bool true) ∧ Below w.heap.size w w' := by
  have HR0 := Aside0.mk hr0
  have HR1 := Aside0.mk hr1
  have HR2 := Aside0.mk hr2
  have HC0 := Aside0.mk hc0
  have HC1 := Aside0.mk hc1
  have HC2 := Aside0.mk hc2
  have HG := Aside0.mk hG
  have HKL := Aside0.mk kl
  have e0 : decide ((l0.length : Int) > 1000) = false := decide_eq_false (by omega)
  have e1 : decide (1000 < l0.length) = false := decide_eq_false (by omega)
  have e2 : decide ((l1.length : Int) > 100) = false := decide_eq_false (by omega)
  have e3 : decide (100 < l1.length) = false := decide_eq_false (by omega)
  have e4 : decide ((l2.length : Int) < (l1.length : Int)) = true := decide_eq_true (by omega)
  have e5 : decide (l2.length < l1.length) = true := decide_eq_true (by omega)
  clear hr0 hr1 hr2 hc0 hc1 hc2 hG kl k1 k2 k3
  go_enter Tryd.func9, Tryd.ntmps9
  go_upto_region 3 with (go_at_call 27; refine (first_ w HG.out).mono ?_; rintro e w1 ⟨rfl, hb⟩; have HB := Aside0.mk hb; clear hb)
  go_upto_region 4 with (go_at_call 29; refine (new_yes A0 c0 l0 2 3 0 w1 (Kd.C_below HR0.out HB.out) HC0.out (by kernel_rfl) (by decide) HKL.out).mono ?_; rintro e w2 ⟨ga, gia, Ka, kca, rfl, hpa, hb⟩; have HPA := Aside0.mk hpa; have HBA := Aside0.mk (below_size HB.out); have HB2 := Aside0.mk (below_step HB.out hb); clear HB hpa hb; have HB := HB2; clear HB2)
  go_upto_region 5 with (go_at_call 29; refine (new_yes A0 c0 l0 1 3 0 w2 (Kd.C_below HR0.out HB.out) HC0.out (by kernel_rfl) (by decide) HKL.out).mono ?_; rintro e w4 ⟨gb, gib, Kb, kcb, rfl, hpb, hb⟩; have HPB := Aside0.mk hpb; have HPA3 := Aside0.mk (HPA.out.below hb); have HBB := Aside0.mk (below_size HB.out); have HB2 := Aside0.mk (below_step HB.out hb); clear HB hpb hb HPA; have HB := HB2; have HPA := HPA3; clear HB2 HPA3)
  clear HPA HPB HBA HBB
  go_wp2_with (go_at_call 27; refine (first_ w4 (HG.out.below HB.out)).mono ?_; rintro e w8 ⟨rfl, hb⟩; have HB3 := Aside0.mk (below_step HB.out hb); clear hb HB; have HB := HB3; clear HB3)
  go_ret
  exact ⟨rfl, HB.out⟩
end Go.Proofs.YtpimhoaeiafahaaDoor.P6
