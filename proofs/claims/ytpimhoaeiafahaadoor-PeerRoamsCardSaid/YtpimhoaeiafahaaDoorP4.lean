/- tiklaw27.first answers true. -/
import Derived.Test.YtpimhoaeiafahaaDoorP3
import Derived.Test.YtpimhoaeiafahaaDoorL0
import Derived.Test.YtpimhoaeiafahaaDoorTx3
namespace Go.Proofs.YtpimhoaeiafahaaDoor.P4
open Go.RowKit Go.Proofs.YtpimhoaeiafahaaDoorW.PrintWords Go.Proofs.YtpimhoaeiafahaaDoorW.PrintLast Go.Proofs.YtpimhoaeiafahaaDoorW.PrintMore Go.Proofs.YtpimhoaeiafahaaDoor.M0 Go.Proofs.YtpimhoaeiafahaaDoor.M8 Go.Proofs.YtpimhoaeiafahaaDoor.F0 Go.Proofs.YtpimhoaeiafahaaDoor.P0 Go.Proofs.YtpimhoaeiafahaaDoor.P1 Go.Proofs.YtpimhoaeiafahaaDoor.P2 Go.Proofs.YtpimhoaeiafahaaDoor.P3
set_option linter.unusedVariables false
set_option linter.unusedSimpArgs false

theorem may1 (d v n : Int) (b : List Int) (hd : d = 1 ∨ d = 2) (h0 : 0 ≤ v) (h1 : v < 8) (h2 : 1 ≤ n) (h3 : n ≤ 4611686018427387904) (hb : b.length ≤ 1200) : mayB d v n b = true := by
  unfold mayB B.pkt_May.f
  have hv : decide (v < 8) = true := decide_eq_true h1
  have hb' : decide ((b.length : Int) ≤ 1200) = true := decide_eq_true (by omega)
  rcases hd with rfl | rfl <;> simp [h0, h1, h2, h3] <;> omega
theorem send1 (key : List Int) (dir viewer out : Int) (body : List Int) (hd : dir = 1 ∨ dir = 2) (hv0 : 0 ≤ viewer) (hv1 : viewer < 8) (h0 : 0 ≤ out) (h1 : out < 4611686018427387904) (hb : body.length ≤ 1200) :
    sendF key dir viewer out body = (sealB key dir viewer (out + 1) body, 0, out + 1) := by
  unfold sendF
  rw [if_neg (by omega), if_neg (by omega), if_pos (may1 _ _ _ _ hd hv0 hv1 (by omega) (by omega) hb)]
theorem take1 (key : List Int) (d dir viewer n last addr frm : Int) (body : List Int) (hm : mayB d viewer n body = true) (hd : d ≠ dir) :
    takeF key dir viewer last addr frm (sealB key d viewer n body) = if n > last then (body, 0, n, if frm ≥ 0 then frm else addr) else ([], 14, last, addr) := by
  unfold takeF
  rw [open_sealed key d viewer n body hm]
  simp [hd]

set_option maxHeartbeats 4000000 in
set_option maxRecDepth 100000 in
theorem first_ (w : World) (hG : LaidG w) :
    Calls Tryd.prog 27 #[] w fun e w' => e = .returned (.bool true) ∧ Below w.heap.size w w' := by
  have HG := Aside0.mk hG
  clear hG
  obtain ⟨ky, hky⟩ : ∃ ky : List Int, ky = [107] := ⟨_, rfl⟩
  obtain ⟨bd, hbd⟩ : ∃ bd : List Int, bd = [9] := ⟨_, rfl⟩
  obtain ⟨sx, hsx⟩ : ∃ sx : List Int, sx = sealB ky 1 0 1 bd := ⟨_, rfl⟩
  have hbl : bd.length = 1 := by rw [hbd]; rfl
  have HKL := Aside0.mk (show ky.length = 1 by rw [hky]; rfl)
  have HMB := Aside0.mk (may1 1 0 1 bd (.inl rfl) (by omega) (by omega) (by omega) (by omega) (by omega))
  have HS1 := Aside0.mk (show sendF ky 1 0 0 bd = (sx, 0, 1) by rw [hsx]; exact send1 ky 1 0 0 bd (.inl rfl) (by omega) (by omega) (by omega) (by omega) (by omega))
  have HT1 := Aside0.mk (show takeF ky 2 0 0 (-1) 4 sx = (bd, 0, 1, 4) by rw [hsx, take1 ky 1 2 0 1 0 (-1) 4 bd HMB.out (by decide)]; rfl)
  have HT2 := Aside0.mk (show takeF ky 2 0 1 4 5 sx = ([], 14, 1, 4) by rw [hsx, take1 ky 1 2 0 1 1 4 5 bd HMB.out (by decide)]; rfl)
  have HLX := Aside0.mk (show sx.length ≤ 900000 by rw [hsx, sealB_len]; omega)
  have HKY := Aside0.mk hky
  have HBD := Aside0.mk hbd
  clear hky hbd hsx hbl
  go_enter Tryd.func27, Tryd.ntmps27
  go_upto_region 2 with (first | ((with_reducible refine gate_dst (N := 12) rfl ?_); refine L0.L_lit (N := 12) (M := 13) 5 32 ?hg ?hg2 ?hd ?hd2 107 ?hr ?ho2 Tryd.underlying32 Tryd.underlying5 ?hn ?_; (case hg => rfl); (case hg2 => rfl); (case hd => rfl); (case hd2 => rfl); (case ho2 => rfl); (case hn => simp); (case hr => first | (go_simp; done) | (go_simp; rfl)); intro v1 w1 ho hb; rw [← HKY.out] at ho; obtain ⟨Al, cl, rfl⟩ := L0.L_slice ho; have HL := Aside0.mk (L0.L_reads' ho).2; have HB := Aside0.mk hb; clear ho hb) | (go_at_call 29; refine (new_yes Al cl ky 1 0 0 w1 HL.out.2 HL.out.1 (by kernel_rfl) (by decide) (by have := HKL.out; omega)).mono ?_; rintro e w2 ⟨ga, gia, Ka, kca, rfl, hpa, hb⟩; have HPA := Aside0.mk hpa; have HBA := Aside0.mk (below_size HB.out); have HB2 := Aside0.mk (below_step HB.out hb); clear HB hpa hb; have HB := HB2; clear HB2))
  go_upto_region 3 with (first | ((with_reducible refine gate_dst (N := 18) rfl ?_); refine L0.L_lit (N := 18) (M := 19) 5 32 ?hg ?hg2 ?hd ?hd2 107 ?hr ?ho2 Tryd.underlying32 Tryd.underlying5 ?hn ?_; (case hg => rfl); (case hg2 => rfl); (case hd => rfl); (case hd2 => rfl); (case ho2 => rfl); (case hn => simp); (case hr => first | (go_simp; done) | (go_simp; rfl)); intro v3 w3 ho hb; rw [← HKY.out] at ho; obtain ⟨Al2, cl2, rfl⟩ := L0.L_slice ho; have HL2 := Aside0.mk (L0.L_reads' ho).2; have HPA3 := Aside0.mk (HPA.out.below hb); have HTA := Aside0.mk hb.size; have HB3 := Aside0.mk (below_step HB.out hb); clear ho hb HB HPA HL; have HB := HB3; have HPA := HPA3; clear HB3 HPA3) | (go_at_call 29; refine (new_yes Al2 cl2 ky 2 0 0 w3 HL2.out.2 HL2.out.1 (by kernel_rfl) (by decide) (by have := HKL.out; omega)).mono ?_; rintro e w4 ⟨gb, gib, Kb, kcb, rfl, hpb, hb⟩; have HPB := Aside0.mk hpb; have HPA3 := Aside0.mk (HPA.out.below hb); have HBB := Aside0.mk (below_size HB.out); have HB2 := Aside0.mk (below_step HB.out hb); clear HB hpb hb HPA HL2; have HB := HB2; have HPA := HPA3; clear HB2 HPA3))
  generalize w2.heap.size = ta at HPA HTA
  generalize w1.heap.size = ba at HPA HBA
  generalize w3.heap.size = bb at HPB HTA HBB
  generalize w4.heap.size = tb at HPB
  go_upto_region 5 with (go_at_call 35; refine (address HPA.out).mono ?_; rintro e w' ⟨rfl, rfl⟩)
  go_upto_region 6 with (first | ((with_reducible refine gate_dst (N := 44) rfl ?_); refine Kd.R_lit (Kd.int .u8) _ 5 ?hg (N := 44) ?hd (xs := [9]) (inner := [.int .u8 9]) (ok := fun _ => True) (okp := fun _ => True) ?hr ?hp (fun _ hk => hk) trivial (Below.refl _ _) (Nat.le_refl _) (by simp) ?_; (case hd => rfl); (case hg => rfl); (case hr => first | (go_simp; done) | (go_simp; rfl)); (case hp => exact (Reps.one (show Kd.M (Kd.int .u8) _ _ _ (9 : Int) [.int .u8 9] from rfl) (Reps.none _ _))); intro v5 w5 ho hb hg_ hnew_; clear hg_ hnew_; rw [← HBD.out] at ho; obtain ⟨Ab, cb, rfl⟩ := Kd.R_slice ho; have HD := Aside0.mk (Kd.R_reads' ho).2; have HPA3 := Aside0.mk (HPA.out.below hb); have HPB3 := Aside0.mk (HPB.out.below hb); have HB3 := Aside0.mk (below_step HB.out hb); clear ho hb HB HPA HPB; have HB := HB3; have HPA := HPA3; have HPB := HPB3; clear HB3 HPA3 HPB3) | (go_at_call 31; refine (send_to Ab cb bd sx 0 1 HS1.out HPA.out HD.out.2 HD.out.1 (HG.out.below HB.out) (by decide) (by have := HKL.out; omega)).mono ?_; rintro e w6 ⟨v6, rfl, hv, hpa, hk, hf⟩; obtain ⟨Ax, cx, rfl⟩ := Kd.R_slice hv; have HX := Aside0.mk hv; have HPA3 := Aside0.mk hpa; have HPB3 := Aside0.mk (HPB.out.move (fun k h1 h2 h3 => hk.2 k h3 (by have := HPA.out.lt; have := HTA.out; omega) (by simp))); have HB3 := Aside0.mk (hf w HB.out HBA.out); have HSZ := Aside0.mk (show gb < w5.heap.size ∧ gib < w5.heap.size ∧ w5.heap.size ≤ w6.heap.size from ⟨blk_lt HPB.out.box, blk_lt HPB.out.win, hk.1⟩); clear hv hpa hk hf HB HPA HPB HD; have HB := HB3; have HPA := HPA3; have HPB := HPB3; clear HB3 HPA3 HPB3))
  generalize w5.heap.size = b5 at HX HSZ
  go_upto_region 7 with (go_at_call 33; refine (take_to 4 Ax cx sx bd 0 1 4 HT1.out HPB.out (Kd.R_reads' HX.out).2.2 (Kd.R_reads' HX.out).2.1 (HG.out.below HB.out) (by have := HKL.out; omega) HLX.out).mono ?_; rintro e w7 ⟨v7, rfl, hv, hpb, hk, hf⟩; obtain ⟨Ay, cy, rfl⟩ := Kd.R_slice hv; have HY := Aside0.mk hv; have HPB3 := Aside0.mk hpb; have HPA3 := Aside0.mk (HPA.out.move (fun k h1 h2 h3 => hk.2 k h3 (by have := HPB.out.ge; have := HPB.out.gei; have := HTA.out; omega))); have HX3 := Aside0.mk (Kd.V_step (Kd.R_V (base' := 0) (Kd.R_tight rfl HX.out)) (fun k hk' hlt => hk.2 k hlt (by have := Kd.R_base HX.out k hk'.symm; have := HSZ.out; omega))); have HB3 := Aside0.mk (hf w HB.out HBB.out); have HS7 := Aside0.mk (show gb < w6.heap.size ∧ gib < w6.heap.size from ⟨blk_lt HPB.out.box, blk_lt HPB.out.win⟩); clear hv hpb hk hf HB HPA HPB HX; have HB := HB3; have HPA := HPA3; have HPB := HPB3; have HX := HX3; clear HB3 HPA3 HPB3 HX3)
  generalize w6.heap.size = b6 at HY HS7
  go_upto_region 8 with (go_at_call 33; refine (take_to 5 Ax cx sx [] 14 1 4 HT2.out HPB.out (Kd.V_reads' HX.out).2.2 (Kd.V_reads' HX.out).2.1 (HG.out.below HB.out) (by have := HKL.out; omega) HLX.out).mono ?_; rintro e w8 ⟨v8, rfl, hv, hpb, hk, hf⟩; have HPB3 := Aside0.mk hpb; have HPA3 := Aside0.mk (HPA.out.move (fun k h1 h2 h3 => hk.2 k h3 (by have := HPB.out.ge; have := HPB.out.gei; have := HTA.out; omega))); have HY3 := Aside0.mk (Kd.V_step (Kd.R_V (base' := 0) (Kd.R_tight rfl HY.out)) (fun k hk' hlt => hk.2 k hlt (by have := Kd.R_base HY.out k hk'.symm; have := HS7.out; omega))); have HB3 := Aside0.mk (hf w HB.out HBB.out); clear hv hpb hk hf HB HPA HPB HX HY; have HB := HB3; have HPA := HPA3; have HPB := HPB3; have HY := HY3; clear HB3 HPA3 HPB3 HY3)
  go_wp2_with (first | (go_at_call 36; refine (out_ HPA.out).mono ?_; rintro e w' ⟨rfl, rfl⟩) | ((with_reducible refine gate_dst (N := 73) rfl ?_); (try (refine gate_guard (by rfl) ?_; dsimp only)); refine Kd.R_lit (Kd.int .u8) _ 5 ?hg (N := 73) ?hd (xs := [9]) (inner := [.int .u8 9]) (ok := fun _ => True) (okp := fun _ => True) ?hr ?hp (fun _ hk => hk) trivial (Below.refl _ _) (Nat.le_refl _) (by simp) ?_; (case hd => rfl); (case hg => rfl); (case hr => first | (go_simp; done) | (go_simp; rfl)); (case hp => exact (Reps.one (show Kd.M (Kd.int .u8) _ _ _ (9 : Int) [.int .u8 9] from rfl) (Reps.none _ _))); intro v9 w9 ho hb hg_ hnew_; clear hg_ hnew_; rw [← HBD.out] at ho; obtain ⟨Az, cz, rfl⟩ := Kd.R_slice ho; have HZ := Aside0.mk (Kd.R_reads' ho).2; have HY3 := Aside0.mk (Kd.V_below HY.out hb); have HPB3 := Aside0.mk (HPB.out.below hb); have HB3 := Aside0.mk (below_step HB.out hb); clear ho hb HB HPB HPA HY; have HB := HB3; have HPB := HPB3; have HY := HY3; clear HB3 HPB3 HY3) | (go_at_call 20; refine (T.tikref_Bytes.calls Ay cy bd Az cz bd true _ (Kd.V_reads' HY.out).2.2 (Kd.V_reads' HY.out).2.1 HZ.out.2 HZ.out.1 (by rw [eqv_ref, eqv_self])).mono ?_; rintro e w' ⟨rfl, nd, rfl⟩; have HPB3 := Aside0.mk (HPB.out.below (pw_below_drewN (Below.refl _ _) nd)); have HB3 := Aside0.mk (pw_below_drewN HB.out nd); clear HB HPB; have HB := HB3; have HPB := HPB3; clear HB3 HPB3) | (go_at_call 35; refine (address HPB.out).mono ?_; rintro e w' ⟨rfl, rfl⟩) | (go_at_call 37; refine (in_ HPB.out).mono ?_; rintro e w' ⟨rfl, rfl⟩))
  go_ret
  exact ⟨rfl, HB.out⟩
end Go.Proofs.YtpimhoaeiafahaaDoor.P4
