/- PeerRoams walked: it answers true. -/
import Derived.Test.YtpimhoaeiafahaaDoorP4
import Derived.Test.YtpimhoaeiafahaaDoorTx0
import Derived.Deep.RegionHeld3
import Derived.Deep.QuietTactic
import Derived.BigQuiet
namespace Go.Proofs.YtpimhoaeiafahaaDoor.P5
open Go.RowKit Go.Proofs.YtpimhoaeiafahaaDoorW.PrintWords Go.Proofs.YtpimhoaeiafahaaDoorW.PrintLast Go.Proofs.YtpimhoaeiafahaaDoorW.PrintMore Go.Proofs.YtpimhoaeiafahaaDoor.M0 Go.Proofs.YtpimhoaeiafahaaDoor.M8 Go.Proofs.YtpimhoaeiafahaaDoor.F0 Go.Proofs.YtpimhoaeiafahaaDoor.P0 Go.Proofs.YtpimhoaeiafahaaDoor.P1 Go.Proofs.YtpimhoaeiafahaaDoor.P2 Go.Proofs.YtpimhoaeiafahaaDoor.P3 Go.Proofs.YtpimhoaeiafahaaDoor.P4
set_option linter.unusedVariables false
set_option linter.unusedSimpArgs false
attribute [local go_sem] max2_int min2_int max_two min_two

theorem cell_same {W W' : World} {p : Addr} (h : W'.heap[p.block]? = W.heap[p.block]?) : W'.cell? p = W.cell? p := by unfold World.cell?; rw [h]
theorem take_short (key : List Int) (dir viewer last addr frm : Int) (b : List Int) (h : b.length < 26) : takeF key dir viewer last addr frm b = ([], 3, last, addr) := by
  unfold takeF openF
  rw [if_pos h]
  rfl

/-- What the one end has sent. -/
def sentL (key : List Int) : Nat → List (List Int)
  | 0 => []
  | k + 1 => sentL key k ++ [sealB key 2 3 ((k : Int) + 1) [(k : Int)]]
theorem sentL_len (key : List Int) : ∀ k, (sentL key k).length = k
  | 0 => rfl
  | k + 1 => by rw [sentL, List.length_append, sentL_len key k]; rfl
theorem sentL_get (key : List Int) : ∀ (k j : Nat), j < k → (sentL key k)[j]? = some (sealB key 2 3 ((j : Int) + 1) [(j : Int)])
  | k + 1, j, h => by
    rw [sentL]
    by_cases e : j = k
    · subst e
      rw [List.getElem?_append_right (by rw [sentL_len]; omega), sentL_len]
      simp
    · rw [List.getElem?_append_left (by rw [sentL_len]; omega)]
      exact sentL_get key k j (by omega)
theorem info32 : (Tryd.prog.info? 32).map (fun i => (i.zero, i.size, i.bytes)) = some (some (.slice none 0 0), 1, 24) := by kernel_rfl

set_option maxHeartbeats 8000000 in
set_option maxRecDepth 100000 in
theorem roams (A0 : Option Addr) (c0 : Nat) (l0 : List Int) (A1 : Option Addr) (c1 : Nat) (l1 : List Int) (A2 : Option Addr) (c2 : Nat) (l2 : List Int) (w : World) (hr0 : Kd.C (Kd.int .u8) w A0 l0.length l0) (hc0 : l0.length ≤ c0) (hr1 : Kd.C (Kd.int .i64) w A1 l1.length l1) (hc1 : l1.length ≤ c1) (hr2 : Kd.C (Kd.int .i64) w A2 l2.length l2) (hc2 : l2.length ≤ c2) (hG : LaidG w)
    (k1 : l0.length ≤ 1000) (k2 : l1.length ≤ 100) (k3 : l1.length ≤ l2.length) :
    Calls Tryd.prog 9 #[.slice A0 l0.length c0, .slice A1 l1.length c1, .slice A2 l2.length c2] w fun e w' => e = .returned (.bool true) ∧ Below w.heap.size w w' := by
  have HR0 := Aside0.mk hr0
  have HR1 := Aside0.mk hr1
  have HR2 := Aside0.mk hr2
  have HC0 := Aside0.mk hc0
  have HC1 := Aside0.mk hc1
  have HC2 := Aside0.mk hc2
  have HG := Aside0.mk hG
  have HK1 := Aside0.mk k1
  have HK2 := Aside0.mk k2
  have HK3 := Aside0.mk k3
  have d1 : decide ((l0.length : Int) > 1000) = false := decide_eq_false (by omega)
  have d1' : decide (1000 < l0.length) = false := decide_eq_false (by omega)
  have d2 : decide ((l1.length : Int) > 100) = false := decide_eq_false (by omega)
  have d2' : decide (100 < l1.length) = false := decide_eq_false (by omega)
  have d3 : decide ((l2.length : Int) < (l1.length : Int)) = false := decide_eq_false (by omega)
  have d3' : decide (l2.length < l1.length) = false := decide_eq_false (by omega)
  clear hr0 hr1 hr2 hc0 hc1 hc2 hG k1 k2 k3
  go_enter Tryd.func9, Tryd.ntmps9
  go_upto_region 3 with (go_at_call 27; refine (first_ w HG.out).mono ?_; rintro e w1 ⟨rfl, hb⟩; have HB := Aside0.mk hb; clear hb)
  go_upto_region 4 with (go_at_call 29; refine (new_yes A0 c0 l0 2 3 0 w1 (Kd.C_below HR0.out HB.out) HC0.out (by kernel_rfl) (by decide) (by have := HK1.out; omega)).mono ?_; rintro e w2 ⟨ga, gia, Ka, kca, rfl, hpa, hb⟩; have HPA := Aside0.mk hpa; have HBA := Aside0.mk (below_size HB.out); have HB2 := Aside0.mk (below_step HB.out hb); clear HB hpa hb; have HB := HB2; clear HB2)
  go_upto_region 5 with (go_at_call 29; refine (new_yes A0 c0 l0 1 3 0 w2 (Kd.C_below HR0.out HB.out) HC0.out (by kernel_rfl) (by decide) (by have := HK1.out; omega)).mono ?_; rintro e w4 ⟨gb, gib, Kb, kcb, rfl, hpb, hb⟩; have HPB := Aside0.mk hpb; have HPA3 := Aside0.mk (HPA.out.below hb); have HBB := Aside0.mk (below_size HB.out); have HB2 := Aside0.mk (below_step HB.out hb); clear HB hpb hb HPA; have HB := HB2; have HPA := HPA3; clear HB2 HPA3)
  generalize w1.heap.size = ba at HPA HBA
  obtain ⟨bb, hbb⟩ : ∃ bb, bb = w2.heap.size := ⟨_, rfl⟩
  rw [← hbb] at HPA HPB HBB
  clear hbb
  obtain ⟨tb, htb⟩ : ∃ tb, tb = w4.heap.size := ⟨_, rfl⟩
  rw [← htb] at HPB
  have HTB := Aside0.mk (Nat.le_of_eq htb)
  clear htb
  have HBT := Aside0.mk (show bb ≤ tb by have h1 := HPB.out.ge; have h2 := HPB.out.lt; omega)
  go_wp2
  go_loopw [11, 12] (fun u11 v12 W => ∃ k : Nat, k ≤ 10 ∧ v12 = .int .i64 k ∧ Aside0 (Kd.R (Kd.slice 5 (Kd.int .u8)) 32 W w.heap.size (fun q => tb ≤ q) u11 (sentL l0 k)) ∧ Aside0 (PeerAt W ba bb ga gia Ka kca l0 2 3 k 0 (-1)) ∧ Aside0 (PeerAt W bb tb gb gib Kb kcb l0 1 3 0 0 (-1)) ∧ Aside0 (Below w.heap.size w W) ∧ Aside0 (tb ≤ W.heap.size)) (fun _ v12 _ => 10 - (intOf v12).toNat)
  case atStart => exact ⟨0, by omega, rfl, ⟨Kd.R_nil _ _ _ _ _⟩, HPA, HPB, HB, HTB⟩
  case round =>
    clear HPA HPB HB HTB
    obtain ⟨k, hk, rfl, HU, HPA, HPB, HB, HTB⟩ := hrel
    by_cases hlt : k < 10
    · obtain ⟨bd, hbd⟩ : ∃ bd : List Int, bd = [(k : Int)] := ⟨_, rfl⟩
      obtain ⟨sx, hsx⟩ : ∃ sx : List Int, sx = sealB l0 2 3 ((k : Int) + 1) bd := ⟨_, rfl⟩
      have HS1 := Aside0.mk (show sendF l0 2 3 (k : Int) bd = (sx, 0, ((k + 1 : Nat) : Int)) by rw [hsx]; exact send1 l0 2 3 k bd (.inr rfl) (by omega) (by omega) (by omega) (by omega) (by rw [hbd]; simp))
      have HNX := Aside0.mk (show sentL l0 k ++ [sx] = sentL l0 (k + 1) by rw [sentL, hsx, hbd])
      have hl27 : sx.length = 27 := by rw [hsx, sealB_len, hbd]; rfl
      have q1 : ((sx.length : Int) != 27) = false := by rw [hl27]; rfl
      have q2 : ((sx.length : Int) == 27) = true := by rw [hl27]; rfl
      have HBD := Aside0.mk hbd
      clear hbd hsx hl27
      go_wp2_with (first | ((with_reducible refine gate_dst (N := 82) rfl ?_); refine Kd.R_lit (Kd.int .u8) _ 5 ?hg (N := 82) ?hd (xs := [(k : Int)]) (inner := [.int .u8 (k : Int)]) (ok := fun _ => True) (okp := fun _ => True) ?hr ?hp (fun _ hk => hk) trivial (Below.refl _ _) (Nat.le_refl _) (by simp) ?_; (case hd => rfl); (case hg => rfl); (case hr => first | (go_simp; done) | (go_simp; rfl)); (case hp => exact (Reps.one (show Kd.M (Kd.int .u8) _ _ _ (k : Int) [.int .u8 (k : Int)] from rfl) (Reps.none _ _))); intro v5 w5 ho hb hg_ hnew_; clear hg_ hnew_; rw [← HBD.out] at ho; obtain ⟨Ab, cb, rfl⟩ := Kd.R_slice ho; have HD := Aside0.mk (Kd.R_reads' ho).2; have HU3 := Aside0.mk (Kd.R_below HU.out hb); have HPA3 := Aside0.mk (HPA.out.below hb); have HPB3 := Aside0.mk (HPB.out.below hb); have HB3 := Aside0.mk (below_step HB.out hb); have HTB3 := Aside0.mk (Nat.le_trans HTB.out hb.size); clear ho hb HB HPA HPB HU HTB; have HB := HB3; have HPA := HPA3; have HPB := HPB3; have HU := HU3; have HTB := HTB3; clear HB3 HPA3 HPB3 HU3 HTB3) | (go_at_call 31; refine (send_to Ab cb bd sx 0 ((k + 1 : Nat) : Int) HS1.out HPA.out HD.out.2 HD.out.1 (HG.out.below HB.out) (Int.natCast_nonneg _) (by have := HK1.out; omega)).mono ?_; rintro e w6 ⟨v6, rfl, hv, hpa, hk', hf⟩; obtain ⟨Ax, cx, rfl⟩ := Kd.R_slice hv; have HLU := Aside0.mk (Kd.R_lt HU.out); have HU3 := Aside0.mk (Kd.R_keep HU.out hk' (fun q hq => by have := HPA.out.lt; have := HBT.out; omega)); have HX := Aside0.mk (Kd.R_mono (Kd.R_lower (Kd.R_tight rfl hv) (below_size HB.out)) (ok' := fun q => tb ≤ q ∧ some q ≠ u11.ownBlock) (fun q hq => ⟨by have := Kd.R_base hv q hq.symm; have := HTB.out; omega, fun hh => by have := Kd.R_base hv q hq.symm; have := HLU.out q hh.symm; omega⟩)); have HPA3 := Aside0.mk hpa; have HPB3 := Aside0.mk (HPB.out.move (fun q h1 h2 h3 => hk'.2 q h3 (by have := HPA.out.lt; omega) (by simp))); have HB3 := Aside0.mk (hf w HB.out HBA.out); have HTB3 := Aside0.mk (Nat.le_trans HTB.out hk'.1); clear hv hpa hk' hf HB HPA HPB HD HU HTB HLU; have HB := HB3; have HPA := HPA3; have HPB := HPB3; have HU := HU3; have HTB := HTB3; clear HB3 HPA3 HPB3 HU3 HTB3) | ((with_reducible refine gate_builtin (b := .append) (xs := #[.tmp 93, .tmp 95]) rfl ?_); at_builtin; refine Kd.R_append (Kd.slice 5 (Kd.int .u8)) (w0 := w) w.heap.size rfl (.tmp 93) (.tmp 95) 63 32 (.slice none 0 0) 24 rfl Tryd.underlying63 info32 rfl (by decide) (by omega) u11 (sentL l0 k) sx [.slice Ax sx.length cx] (fun q => tb ≤ q) (fun q => tb ≤ q ∧ some q ≠ u11.ownBlock) rfl rfl ?aP (fun _ hk => hk) ?aF ?aO ?aB ?aS ?aL ?_; (case aP => exact ⟨_, rfl, HX.out⟩); (case aB => exact HB.out); (case aF => exact (fun q hq => Nat.le_trans HTB.out hq)); (case aO => exact HU.out); (case aS => exact (below_size HB.out)); (case aL => rw [sentL_len]; omega); intro v9 w9 ho hb hg hat; rw [HNX.out] at ho; have hown := HU.out.1; have HPA3 := Aside0.mk (HPA.out.move (fun q h1 h2 h3 => hg.block q h3 (fun hh => by have := hown q hh.symm; have := HBT.out; omega))); have HPB3 := Aside0.mk (HPB.out.move (fun q h1 h2 h3 => hg.block q h3 (fun hh => by have := hown q hh.symm; omega))); have HTB3 := Aside0.mk (Nat.le_trans HTB.out hg.size); clear HU HB HPA HPB HTB HX hown; have HU := Aside0.mk ho; have HB := Aside0.mk hb; have HPA := HPA3; have HPB := HPB3; have HTB := HTB3; clear HPA3 HPB3 HTB3 ho hb hg hat))
      go_roundw
      case rel => exact ⟨k + 1, by omega, by go_num, HU, HPA, HPB, HB, HTB⟩
      case measure => simp [intOf]; omega
    · obtain rfl : k = 10 := by omega
      go_wp2
      have hul := sentL_len l0 10
      obtain ⟨Au, cu, rfl⟩ := Kd.R_slice HU.out
      obtain ⟨adu, _, _, hau, _⟩ := T.at_L1 (Kd.R_reads' HU.out).2.2 0 (by omega) (by omega)
      subst hau
      have HUG := Aside0.mk (show ∀ o : Int, 0 ≤ o → o < 10 → T.rd_L1 (sentL l0 10) o = sealB l0 2 3 (o + 1) [o] from fun o h0 h1 => by
        have := sentL_get l0 10 o.toNat (by omega)
        unfold T.rd_L1
        rw [List.getD_eq_getElem?_getD, this, Int.toNat_of_nonneg h0]
        rfl)
      have HUL := Aside0.mk hul
      clear hul
      generalize sentL l0 10 = ul at HU HUL HUG ⊢
      go_loopw [15, 16, 17] (fun v15 v16 v17 W => ∃ (k : Nat) (last want : Int), k ≤ l1.length ∧ -1 ≤ last ∧ last ≤ 9 ∧ v15 = .int .i64 want ∧ v16 = .int .i64 last ∧ v17 = .int .i64 k ∧ Aside0 (Kd.R (Kd.slice 5 (Kd.int .u8)) 32 W w.heap.size (fun q => tb ≤ q) (.slice (some adu) ul.length cu) ul) ∧ Aside0 (PeerAt W bb tb gb gib Kb kcb l0 1 3 0 (last + 1) want) ∧ Aside0 (Below w.heap.size w W)) (fun _ _ v17 _ => l1.length - (intOf v17).toNat)
      case atStart => exact ⟨0, -1, -1, by omega, by omega, by omega, rfl, rfl, rfl, HU, ⟨HPB.out⟩, HB⟩
      case round =>
        clear HPA HPB HB HTB HU
        obtain ⟨k, last, want, hk, hl0, hl1, rfl, rfl, rfl, HU, HPB, HB⟩ := hrel
        have hm1 := HK2.out
        have hm2 := HK3.out
        by_cases hlt : k < l1.length
        · obtain ⟨ad1, e1, hw1⟩ := Kd.at_int HR1.out (k : Int) (by omega) (by omega)
          obtain ⟨ad2, e2, hw2⟩ := Kd.at_int HR2.out (k : Int) (by omega) (by omega)
          rw [Int.toNat_natCast] at hw1 hw2
          subst e1
          subst e2
          generalize rd l1 (k : Int) = o at hw1
          generalize rd l2 (k : Int) = f at hw2
          have hx1 := (HB.out.cell (World.block_lt_of_cell? w _ hw1)).trans hw1
          have hx2 := (HB.out.cell (World.block_lt_of_cell? w _ hw2)).trans hw2
          have HW1 := Aside0.mk hw1
          have HW2 := Aside0.mk hw2
          clear hw1 hw2
          have hlt2 : k < l2.length := by omega
          by_cases ho0 : o < 0
          · have t1 : decide (o < 0) = true := decide_eq_true ho0
            clear ho0
            go_wp2
            go_roundw
            case rel => exact ⟨k + 1, last, want, by omega, by omega, by omega, rfl, rfl, by go_num, HU, HPB, HB⟩
            case measure => simp [intOf]; omega
          · by_cases ho9 : o > 9
            · have t1 : decide (o < 0) = false := decide_eq_false ho0
              have t2 : decide (o > 9) = true := decide_eq_true ho9
              clear ho0 ho9
              go_wp2
              go_roundw
              case rel => exact ⟨k + 1, last, want, by omega, by omega, by omega, rfl, rfl, by go_num, HU, HPB, HB⟩
              case measure => simp [intOf]; omega
            · have t1 : decide (o < 0) = false := decide_eq_false ho0
              have t2 : decide (o > 9) = false := decide_eq_false ho9
              have o0 : 0 ≤ o := by omega
              have o9 : o ≤ 9 := by omega
              clear ho0 ho9
              obtain ⟨adq, Ax, cx, eq_, hxl, hlx, hCx⟩ := T.at_L1 (Kd.R_reads' HU.out).2.2 o o0 (by rw [HUL.out]; omega)
              obtain rfl : adu = adq := by injection eq_
              rw [HUG.out o o0 (by omega)] at hxl hlx hCx
              obtain ⟨sx, hsx⟩ : ∃ sx : List Int, sx = sealB l0 2 3 (o + 1) [o] := ⟨_, rfl⟩
              rw [← hsx] at hxl hlx hCx
              have HCX := Aside0.mk hCx
              have HLX := Aside0.mk hlx
              have HSL := Aside0.mk (show sx.length ≤ 900000 by rw [hsx, sealB_len]; simp)
              have HTK := Aside0.mk (show takeF l0 1 3 (last + 1) want f sx = if o + 1 > last + 1 then ([o], 0, o + 1, if f ≥ 0 then f else want) else ([], 14, last + 1, want) by rw [hsx]; exact take1 l0 2 1 3 (o + 1) (last + 1) want f [o] (may1 _ _ _ _ (.inr rfl) (by omega) (by omega) (by omega) (by omega) (by simp)) (by decide))
              have hou : o < (ul.length : Int) := by rw [HUL.out]; omega
              have HAD := Aside0.mk (HU.out.1 adu.block rfl)
              clear hsx hCx hlx eq_
              by_cases hol : o > last
              · by_cases hf : f ≥ 0
                · have HT := Aside0.mk (show takeF l0 1 3 (last + 1) want f sx = ([o], 0, o + 1, f) by rw [HTK.out, if_pos (by omega), if_pos hf])
                  have t3 : decide (o > last) = true := decide_eq_true hol
                  have g1 : decide (f ≥ 0) = true := decide_eq_true hf
                  have g2 : (0 ≤ f) = True := eq_true hf
                  have g3 : decide (0 ≤ f) = true := decide_eq_true hf
                  have HOL := Aside0.mk (show last < o by omega)
                  clear hol hf
                  go_wp2
                  go_region_held3 (fun w' => w'.cell? (ad1.add k) = some (.int .i64 o) ∧ w'.cell? (ad2.add k) = some (.int .i64 f) ∧ w'.cell? (adu.add o.toNat) = some (.slice Ax sx.length cx)) (first | go_keep | exact ⟨by assumption, by assumption, by assumption⟩) (first | (go_at_call 33; refine (take_to f Ax cx sx [o] 0 (o + 1) f HT.out (by exact HPB.out.move (fun _ _ _ _ => rfl)) (Kd.C_below HCX.out (by repeat (first | exact Below.refl _ _ | apply below_drew))) HLX.out (HG.out.below (below_step HB.out (by repeat (first | exact Below.refl _ _ | apply below_drew)))) (by have := HK1.out; omega) HSL.out).mono ?_; rintro e w6 ⟨v6, rfl, hv, hpb, hk', hfr⟩; obtain ⟨Ay, cy, rfl⟩ := Kd.R_slice hv; obtain ⟨ady, ey, y0⟩ := Kd.at_int (Kd.R_reads' hv).2.2 0 (by omega) (by simp); obtain rfl := ey; rw [show ((0 : Int)).toNat = 0 from rfl, Addr.add_zero', show rd [o] 0 = o from rfl] at y0; have HB3 := Aside0.mk (hfr w (below_step HB.out (by repeat (first | exact Below.refl _ _ | apply below_drew))) HBB.out); have HPB3 := Aside0.mk hpb; have HU3 := Aside0.mk (Kd.R_step HU.out (fun q hq hlt => hk'.2 q hlt (by have := HPB.out.lt; have := HPB.out.lti; omega))); have hblk : w6.heap[adu.block]? = wr.heap[adu.block]? := hk'.2 adu.block (by have := World.block_lt_of_cell? wr _ hxl; rwa [add_block] at this) (by have := HPB.out.lt; have := HPB.out.lti; have := HAD.out; omega); have y1 := (HB3.out.cell (World.block_lt_of_cell? w _ HW1.out)).trans HW1.out; have y2 := (HB3.out.cell (World.block_lt_of_cell? w _ HW2.out)).trans HW2.out; have y3 : w6.cell? (adu.add o.toNat) = some (.slice Ax sx.length cx) := (cell_same (p := adu.add o.toNat) (by rw [add_block]; exact hblk)).trans hxl; clear hv hpb hk' hfr HB HPB HU hx1 hx2 hxl hblk HCX; have HB := HB3; have HPB := HPB3; have HU := HU3; clear HB3 HPB3 HU3))
                  go_wp2
                  go_quiet (fail)
                  generalize hW3 : World.drewN w6 _ = w7
                  have HB3 := Aside0.mk (show Below w.heap.size w w7 by rw [← hW3]; exact pw_below_drewN HB.out _)
                  have HPB3 := Aside0.mk (show PeerAt w7 bb tb gb gib Kb kcb l0 1 3 0 (o + 1) f by rw [← hW3]; exact HPB.out.move (fun _ _ _ _ => rfl))
                  have HU3 := Aside0.mk (show Kd.R (Kd.slice 5 (Kd.int .u8)) 32 w7 w.heap.size (fun q => tb ≤ q) (.slice (some adu) ul.length cu) ul by rw [← hW3]; exact Kd.R_drewN HU.out _)
                  have z1 : w7.cell? (ad1.add k) = some (.int .i64 o) := (HB3.out.cell (World.block_lt_of_cell? w _ HW1.out)).trans HW1.out
                  have z2 : w7.cell? (ad2.add k) = some (.int .i64 f) := (HB3.out.cell (World.block_lt_of_cell? w _ HW2.out)).trans HW2.out
                  clear hW3 HB HPB HU y0 y1 y2 y3
                  have HB := HB3
                  have HPB := HPB3
                  have HU := HU3
                  clear HB3 HPB3 HU3
                  have t4 : decide (last < o) = true := decide_eq_true (by have := HOL.out; omega)
                  have t5 : (last < o) = True := eq_true (by have := HOL.out; omega)
                  have w1 : IntKind.u64.wrap (o + 1) = o + 1 := by rw [IntKind.wrap_u64]; omega
                  have w2 : (o + 1) % 18446744073709551616 = o + 1 := by omega
                  go_wp2_with (first | (go_at_call 35; refine (address HPB.out).mono ?_; rintro e w' ⟨rfl, rfl⟩) | (go_at_call 37; refine (in_ HPB.out).mono ?_; rintro e w' ⟨rfl, rfl⟩))
                  go_roundw
                  case rel => (first | exact ⟨k + 1, o, f, by omega, by omega, by omega, rfl, rfl, by go_num, HU, HPB, HB⟩ | ((repeat apply Exists.intro); exact ⟨⟨k + 1, o, f, by omega, by omega, by omega, rfl, rfl, by go_num, HU, HPB, HB⟩, rfl⟩))
                  case measure => simp [intOf]; omega
                · have HT := Aside0.mk (show takeF l0 1 3 (last + 1) want f sx = ([o], 0, o + 1, want) by rw [HTK.out, if_pos (by omega), if_neg hf])
                  have t3 : decide (o > last) = true := decide_eq_true hol
                  have g1 : decide (f ≥ 0) = false := decide_eq_false hf
                  have g2 : (0 ≤ f) = False := eq_false hf
                  have g3 : decide (0 ≤ f) = false := decide_eq_false hf
                  have HOL := Aside0.mk (show last < o by omega)
                  clear hol hf
                  go_wp2
                  go_region_held3 (fun w' => w'.cell? (ad1.add k) = some (.int .i64 o) ∧ w'.cell? (ad2.add k) = some (.int .i64 f) ∧ w'.cell? (adu.add o.toNat) = some (.slice Ax sx.length cx)) (first | go_keep | exact ⟨by assumption, by assumption, by assumption⟩) (first | (go_at_call 33; refine (take_to f Ax cx sx [o] 0 (o + 1) want HT.out (by exact HPB.out.move (fun _ _ _ _ => rfl)) (Kd.C_below HCX.out (by repeat (first | exact Below.refl _ _ | apply below_drew))) HLX.out (HG.out.below (below_step HB.out (by repeat (first | exact Below.refl _ _ | apply below_drew)))) (by have := HK1.out; omega) HSL.out).mono ?_; rintro e w6 ⟨v6, rfl, hv, hpb, hk', hfr⟩; obtain ⟨Ay, cy, rfl⟩ := Kd.R_slice hv; obtain ⟨ady, ey, y0⟩ := Kd.at_int (Kd.R_reads' hv).2.2 0 (by omega) (by simp); obtain rfl := ey; rw [show ((0 : Int)).toNat = 0 from rfl, Addr.add_zero', show rd [o] 0 = o from rfl] at y0; have HB3 := Aside0.mk (hfr w (below_step HB.out (by repeat (first | exact Below.refl _ _ | apply below_drew))) HBB.out); have HPB3 := Aside0.mk hpb; have HU3 := Aside0.mk (Kd.R_step HU.out (fun q hq hlt => hk'.2 q hlt (by have := HPB.out.lt; have := HPB.out.lti; omega))); have hblk : w6.heap[adu.block]? = wr.heap[adu.block]? := hk'.2 adu.block (by have := World.block_lt_of_cell? wr _ hxl; rwa [add_block] at this) (by have := HPB.out.lt; have := HPB.out.lti; have := HAD.out; omega); have y1 := (HB3.out.cell (World.block_lt_of_cell? w _ HW1.out)).trans HW1.out; have y2 := (HB3.out.cell (World.block_lt_of_cell? w _ HW2.out)).trans HW2.out; have y3 : w6.cell? (adu.add o.toNat) = some (.slice Ax sx.length cx) := (cell_same (p := adu.add o.toNat) (by rw [add_block]; exact hblk)).trans hxl; clear hv hpb hk' hfr HB HPB HU hx1 hx2 hxl hblk HCX; have HB := HB3; have HPB := HPB3; have HU := HU3; clear HB3 HPB3 HU3))
                  go_wp2
                  go_quiet (fail)
                  generalize hW3 : World.drewN w6 _ = w7
                  have HB3 := Aside0.mk (show Below w.heap.size w w7 by rw [← hW3]; exact pw_below_drewN HB.out _)
                  have HPB3 := Aside0.mk (show PeerAt w7 bb tb gb gib Kb kcb l0 1 3 0 (o + 1) want by rw [← hW3]; exact HPB.out.move (fun _ _ _ _ => rfl))
                  have HU3 := Aside0.mk (show Kd.R (Kd.slice 5 (Kd.int .u8)) 32 w7 w.heap.size (fun q => tb ≤ q) (.slice (some adu) ul.length cu) ul by rw [← hW3]; exact Kd.R_drewN HU.out _)
                  have z1 : w7.cell? (ad1.add k) = some (.int .i64 o) := (HB3.out.cell (World.block_lt_of_cell? w _ HW1.out)).trans HW1.out
                  have z2 : w7.cell? (ad2.add k) = some (.int .i64 f) := (HB3.out.cell (World.block_lt_of_cell? w _ HW2.out)).trans HW2.out
                  clear hW3 HB HPB HU y0 y1 y2 y3
                  have HB := HB3
                  have HPB := HPB3
                  have HU := HU3
                  clear HB3 HPB3 HU3
                  have t4 : decide (last < o) = true := decide_eq_true (by have := HOL.out; omega)
                  have t5 : (last < o) = True := eq_true (by have := HOL.out; omega)
                  have w1 : IntKind.u64.wrap (o + 1) = o + 1 := by rw [IntKind.wrap_u64]; omega
                  have w2 : (o + 1) % 18446744073709551616 = o + 1 := by omega
                  go_wp2_with (first | (go_at_call 35; refine (address HPB.out).mono ?_; rintro e w' ⟨rfl, rfl⟩) | (go_at_call 37; refine (in_ HPB.out).mono ?_; rintro e w' ⟨rfl, rfl⟩))
                  go_roundw
                  case rel => (first | exact ⟨k + 1, o, want, by omega, by omega, by omega, rfl, rfl, by go_num, HU, HPB, HB⟩ | ((repeat apply Exists.intro); exact ⟨⟨k + 1, o, want, by omega, by omega, by omega, rfl, rfl, by go_num, HU, HPB, HB⟩, rfl⟩))
                  case measure => simp [intOf]; omega
              · have HT := Aside0.mk (show takeF l0 1 3 (last + 1) want f sx = ([], 14, last + 1, want) by rw [HTK.out, if_neg (by omega)])
                have t3 : decide (o > last) = false := decide_eq_false hol
                have HOL := Aside0.mk (show o ≤ last by omega)
                clear hol
                go_wp2
                go_region_held3 (fun w' => w'.cell? (ad1.add k) = some (.int .i64 o) ∧ w'.cell? (ad2.add k) = some (.int .i64 f) ∧ w'.cell? (adu.add o.toNat) = some (.slice Ax sx.length cx)) (first | go_keep | exact ⟨by assumption, by assumption, by assumption⟩) (first | (go_at_call 33; refine (take_to f Ax cx sx [] 14 (last + 1) want HT.out (by exact HPB.out.move (fun _ _ _ _ => rfl)) (Kd.C_below HCX.out (by repeat (first | exact Below.refl _ _ | apply below_drew))) HLX.out (HG.out.below (below_step HB.out (by repeat (first | exact Below.refl _ _ | apply below_drew)))) (by have := HK1.out; omega) HSL.out).mono ?_; rintro e w6 ⟨v6, rfl, hv, hpb, hk', hf⟩; have HB3 := Aside0.mk (hf w (below_step HB.out (by repeat (first | exact Below.refl _ _ | apply below_drew))) HBB.out); have HPB3 := Aside0.mk hpb; have HU3 := Aside0.mk (Kd.R_step HU.out (fun q hq hlt => hk'.2 q hlt (by have := HPB.out.lt; have := HPB.out.lti; omega))); have hblk : w6.heap[adu.block]? = wr.heap[adu.block]? := hk'.2 adu.block (by have := World.block_lt_of_cell? wr _ hxl; rwa [add_block] at this) (by have := HPB.out.lt; have := HPB.out.lti; have := HAD.out; omega); have y1 := (HB3.out.cell (World.block_lt_of_cell? w _ HW1.out)).trans HW1.out; have y2 := (HB3.out.cell (World.block_lt_of_cell? w _ HW2.out)).trans HW2.out; have y3 : w6.cell? (adu.add o.toNat) = some (.slice Ax sx.length cx) := (cell_same (p := adu.add o.toNat) (by rw [add_block]; exact hblk)).trans hxl; clear hv hpb hk' hf HB HPB HU hx1 hx2 hxl hblk HCX; have HB := HB3; have HPB := HPB3; have HU := HU3; clear HB3 HPB3 HU3))
                go_wp2
                go_quiet (fail)
                generalize hW3 : World.drewN w6 _ = w7
                have HB3 := Aside0.mk (show Below w.heap.size w w7 by rw [← hW3]; exact pw_below_drewN HB.out _)
                have HPB3 := Aside0.mk (show PeerAt w7 bb tb gb gib Kb kcb l0 1 3 0 (last + 1) want by rw [← hW3]; exact HPB.out.move (fun _ _ _ _ => rfl))
                have HU3 := Aside0.mk (show Kd.R (Kd.slice 5 (Kd.int .u8)) 32 w7 w.heap.size (fun q => tb ≤ q) (.slice (some adu) ul.length cu) ul by rw [← hW3]; exact Kd.R_drewN HU.out _)
                have z1 : w7.cell? (ad1.add k) = some (.int .i64 o) := (HB3.out.cell (World.block_lt_of_cell? w _ HW1.out)).trans HW1.out
                have z2 : w7.cell? (ad2.add k) = some (.int .i64 f) := (HB3.out.cell (World.block_lt_of_cell? w _ HW2.out)).trans HW2.out
                clear hW3 HB HPB HU y1 y2 y3
                have HB := HB3
                have HPB := HPB3
                have HU := HU3
                clear HB3 HPB3 HU3
                have t4 : decide (last < o) = false := decide_eq_false (by have := HOL.out; omega)
                have t5 : (last < o) = False := eq_false (by have := HOL.out; omega)
                have w1 : IntKind.u64.wrap (last + 1) = last + 1 := by rw [IntKind.wrap_u64]; omega
                have w2 : (last + 1) % 18446744073709551616 = last + 1 := by omega
                go_wp2_with (first | (go_at_call 35; refine (address HPB.out).mono ?_; rintro e w' ⟨rfl, rfl⟩) | (go_at_call 37; refine (in_ HPB.out).mono ?_; rintro e w' ⟨rfl, rfl⟩))
                go_roundw
                case rel => (first | exact ⟨k + 1, last, want, by omega, by omega, by omega, rfl, rfl, by go_num, HU, HPB, HB⟩ | ((repeat apply Exists.intro); exact ⟨⟨k + 1, last, want, by omega, by omega, by omega, rfl, rfl, by go_num, HU, HPB, HB⟩, rfl⟩))
                case measure => simp [intOf]; omega
        · obtain ⟨adq, Ax, cx, eq_, hxl, hlx, hCx⟩ := T.at_L1 (Kd.R_reads' HU.out).2.2 0 (by omega) (by rw [HUL.out]; omega)
          obtain rfl : adu = adq := by injection eq_
          rw [HUG.out 0 (by omega) (by omega)] at hxl hlx hCx
          obtain ⟨sx, hsx⟩ : ∃ sx : List Int, sx = sealB l0 2 3 (0 + 1) [0] := ⟨_, rfl⟩
          rw [← hsx] at hxl hlx hCx
          have hsl : sx.length = 27 := by rw [hsx, sealB_len]; rfl
          rw [show ((0 : Int)).toNat = 0 from rfl, Addr.add_zero'] at hxl
          obtain ⟨i0, hi0, _, hsz, _⟩ := info_parts info8
          have hcut := cut_to (P := Tryd.prog) 32 5 .i64 Tryd.underlying32 hi0 Ax sx.length cx 20 (by decide) (by omega) hlx
          obtain ⟨b20, hb20⟩ : ∃ b20 : List Int, b20 = sx.take 20 := ⟨_, rfl⟩
          have hbl : b20.length = 20 := by rw [hb20, List.length_take]; omega
          have HC20 := Aside0.mk (show Kd.C (Kd.int .u8) wr Ax b20.length b20 by rw [hb20]; exact Kd.C_take hCx (by omega))
          have HL20 := Aside0.mk (show b20.length ≤ cx by omega)
          rw [show ((20 : Int)).toNat = b20.length from hbl.symm] at hcut
          have HT := Aside0.mk (take_short l0 1 3 (last + 1) want 5 b20 (by omega))
          have HBL := Aside0.mk (show b20.length ≤ 900000 by omega)
          have hu0 : (0 : Int) < (ul.length : Int) := by rw [HUL.out]; decide
          have hu1 : (0 < ul.length) = True := eq_true (by rw [HUL.out]; decide)
          have hke : decide (k < l1.length) = false := decide_eq_false hlt
          clear hsx hsl hb20 hbl hlx hCx hi0 hsz eq_ hlt
          go_wp2_with (first | (go_at_call 33; refine (take_to 5 Ax cx b20 [] 3 (last + 1) want HT.out HPB.out HC20.out HL20.out (HG.out.below HB.out) (by have := HK1.out; omega) HBL.out).mono ?_; rintro e w6 ⟨v6, rfl, hv, hpb, hk', hf⟩; have HB3 := Aside0.mk (hf w HB.out HBB.out); have HPB3 := Aside0.mk hpb; clear hv hpb hk' hf HB HPB HC20; have HB := HB3; have HPB := HPB3; clear HB3 HPB3) | (go_at_call 27; refine (first_ w6 (HG.out.below HB.out)).mono ?_; rintro e w8 ⟨rfl, hb⟩; have HB3 := Aside0.mk (below_step HB.out hb); have HPB3 := Aside0.mk (HPB.out.below hb); clear hb HB HPB; have HB := HB3; have HPB := HPB3; clear HB3 HPB3) | (go_at_call 35; refine (address HPB.out).mono ?_; rintro e w' ⟨rfl, rfl⟩))
          go_ret
          exact ⟨rfl, HB.out⟩
end Go.Proofs.YtpimhoaeiafahaaDoor.P5
