/- The contract of mac.Sum: the sum of bytes, as a function of lists. -/
import Derived.Test.YtpimhoaeiafahaaDoorM2
namespace Go.Proofs.YtpimhoaeiafahaaDoor.M3
open Go.RowKit Go.Proofs.YtpimhoaeiafahaaDoorW.PrintWords Go.Proofs.YtpimhoaeiafahaaDoorW.PrintLast Go.Proofs.YtpimhoaeiafahaaDoorW.PrintMore Go.Proofs.YtpimhoaeiafahaaDoor.A Go.Proofs.YtpimhoaeiafahaaDoor.M0 Go.Proofs.YtpimhoaeiafahaaDoor.M1 Go.Proofs.YtpimhoaeiafahaaDoor.M2
set_option linter.unusedVariables false
set_option linter.unusedSimpArgs false

def H0 : List Int := [1779033703, 3144134277, 1013904242, 2773480762, 1359893119, 2600822924, 528734635, 1541459225]
def absorb (m : List Int) : Nat → List Int
  | 0 => H0
  | j + 1 => mixed (absorb m j) ((m.drop (64 * j)).take 64)
theorem absorb_len (m : List Int) : ∀ j, (absorb m j).length = 8
  | 0 => rfl
  | j + 1 => mixed_len _ _ (absorb_len m j)
def four (x : Int) : List Int := [x / 16777216 % 256, x / 65536 % 256, x / 256 % 256, x % 256]
def outB (hs : List Int) : Nat → List Int
  | 0 => []
  | j + 1 => outB hs j ++ four (rd hs j)
theorem outB_len (hs : List Int) : ∀ j, (outB hs j).length = 4 * j
  | 0 => rfl
  | j + 1 => by rw [outB, List.length_append, outB_len hs j]; simp [four]; omega
def mac_Sum.f (k : Nat) (l0 : List Int) : Option (List Int) := (mac_filled.f k l0).bind fun m => if m.length % 64 = 0 then (if m.length ≤ 140737488355328 then some (outB (absorb m (m.length / 64)) 8) else none) else none
theorem mac_Sum.mono : ∀ a0 k, LeO (mac_Sum.f k a0) (mac_Sum.f (k + 1) a0) := by
  intro a0 k
  unfold mac_Sum.f
  exact LeO.bind (mac_filled.mono _ _) (fun _ => LeO.refl _)

theorem still_load_row {P : Program} {o : Oper} {a : Act} {w : World} {K : Act → Prop} (ty : TypeId) (x : Operand) (ho : o.op = .load ty x)
    (g : Nat) (hx : a.eval x = .pointer (some ⟨g, 0, none⟩)) (t : TypeId) (cs : Array Value) (fr : Nat × Nat) (d : TypeDesc) (hg : w.heap[g]? = some (.cells cs t fr))
    (hu : P.underlying ty = some d) (hd : (match d with | .struct _ | .array _ _ => true | _ => false) = true) (hi : (P.info? ty).map (·.size) = some cs.size)
    (h : K (a.put o.dst (.agg cs))) : o.still P a w K := by
  unfold Oper.still execOp
  simp only [ho, hx, Instr.loadAt, Instr.sureAddr, Sem.run_bind, Sem.run_pure, Result.andThen_ok, run_loadVar_row w g t ty cs fr d hg hu hd hi]
  exact ⟨rfl, h⟩

theorem idx8 (ws : List Int) (h : ws.length = 8) (k : Nat) (W : World) (hk : k < 8) : (Instr.index 89 (.agg (nums .u32 ws).toArray) (.int .i64 (k : Int))).run Tryd.prog W = .ok (.int .u32 (rd ws k)) W := by
  have hz : (Tryd.prog.info? 83).map (·.size) = some 1 := by kernel_rfl
  cases hq : Tryd.prog.info? 83 with
  | none => simp [hq] at hz
  | some i =>
    have hs : i.size = 1 := by simpa [hq] using hz
    have hc : (nums .u32 ws)[k]? = some (.int .u32 (rd ws k)) := by
      have hk' : k < ws.length := by omega
      simp [nums, rd, List.getElem?_eq_getElem hk', List.getD_eq_getElem?_getD]
    have hag : (isAgg 83).run Tryd.prog W = .ok false W := by
      unfold isAgg
      rw [Sem.run_bind, run_underlying Tryd.underlying83 W]
      rfl
    simp [Instr.index, run_underlying Tryd.underlying89, asIntOf, go_sem, hk, sizeOf, typeInfo, hq, hs, part, hag, hc]
theorem C_row {W : World} {A : Option Addr} {n g : Nat} {xs : List Int} {cs : Array Value} (h : Kd.C (Kd.int .u8) W A n xs) (hf : ∀ ad, A = some ad → 0 < n → ad.block ≠ g) : Kd.C (Kd.int .u8) (W.setRow g cs) A n xs :=
  Kd.C_keep (0 : Int) h ⟨by simp, fun i _ hne _ => setRow_other W g i cs hne⟩ hf
theorem cut64 (wq : World) (Am : Option Addr) (cm : Nat) (m : List Int) (hC : Kd.C (Kd.int .u8) wq Am m.length m) (hc : m.length ≤ cm) (a : Int) (j : Nat) (hA : a = 64 * j) (h0 : 0 ≤ a) (h1 : a + 64 ≤ m.length) :
    ∃ A' c', (∀ W : World, (Instr.slice 32 (.slice Am m.length cm) (some (.int .i64 a)) (some (.int .i64 (a + 64))) none).run Tryd.prog W = .ok (.slice A' 64 c') W) ∧ Kd.C (Kd.int .u8) wq A' 64 ((m.drop (64 * j)).take 64) := by
  obtain ⟨i0, hi0, _, hsz, _⟩ := info_parts info8
  have hcut := cut_mid (P := Tryd.prog) 32 5 .i64 .i64 Tryd.underlying32 hi0 1 hsz Am m.length cm a (a + 64) h0 (by omega) h1 hc
  have hr := Kd.C_mid (lo := a.toNat) (hi := (a + 64).toNat) (c := cm) hC (by omega) (by omega) hc
  have hn : (a + 64).toNat - a.toNat = 64 := by omega
  have ha : a.toNat = 64 * j := by omega
  have hl : (m.take (a + 64).toNat).drop a.toNat = (m.drop (64 * j)).take 64 := by
    rw [List.drop_take, hn, ha]
  have hlen : ((m.drop (64 * j)).take 64).length = 64 := by rw [List.length_take, List.length_drop]; omega
  rw [hl, hlen] at hr
  rw [hn] at hcut
  exact ⟨_, _, hcut, hr⟩

set_option maxHeartbeats 2000000 in
set_option maxRecDepth 100000 in
theorem mac_Sum.calls (k : Nat) (A0 : Option Addr) (c0 : Nat) (l0 : List Int) (r : List Int) (w : World) (hr0 : Kd.C (Kd.int .u8) w A0 l0.length l0) (hc0 : l0.length ≤ c0) (hG : LaidG w) (h : mac_Sum.f k l0 = some r) :
    Calls Tryd.prog 48 #[.slice A0 l0.length c0] w fun e w' => ∃ v0_ : Value, e = .returned (v0_) ∧ Kd.R (Kd.int .u8) 5 w' w.heap.size (fun _ => True) v0_ r ∧ Below w.heap.size w w' := by
  have HR0 := Aside0.mk hr0
  have HC0 := Aside0.mk hc0
  have HG := Aside0.mk hG
  clear hr0 hc0 hG
  obtain ⟨m, hm, h⟩ := Option.bind_eq_some_iff.mp h
  split at h
  · rename_i h64
    split at h
    · rename_i hbig
      obtain rfl := Option.some.inj h
      have HM := Aside0.mk hm
      have H64 := Aside0.mk h64
      have HBIG := Aside0.mk hbig
      clear hm h64 hbig; try clear h
      go_enter Tryd.func48, Tryd.ntmps48
      go_wp2_with fail
      generalize hW : World.alloc w _ = W0
      have B3 := Aside0.mk (show Ar8 W0 w.heap.size H0 by rw [← hW]; exact Ar8.new w H0)
      have HB := Aside0.mk (show Below w.heap.size w W0 by rw [← hW]; exact below_alloc (Below.refl _ _) _)
      clear hW
      refine (mac_filled.calls k A0 c0 l0 m W0 (Kd.C_below HR0.out HB.out) HC0.out HM.out).mono ?_
      rintro e W1 ⟨v, rfl, ho, hb⟩
      have C3 := Aside0.mk (B3.out.below hb)
      have HB1 := Aside0.mk (below_step HB.out hb)
      obtain ⟨Am, cm, rfl⟩ := Kd.R_slice ho
      have HM1 := Aside0.mk (Kd.R_reads' ho).2.2
      have HMC := Aside0.mk (Kd.R_reads' ho).2.1
      have HNE := Aside0.mk (show ∀ ad, Am = some ad → 0 < m.length → ad.block ≠ w.heap.size by
        intro ad e _
        subst e
        have h1 := blk_lt B3.out
        have h2 := Kd.R_base ho ad.block rfl
        omega)
      clear hb ho B3 HB
      go_wp2_with fail
      go_loopw [5] (fun v5 W => ∃ (j : Nat) (a : Int), Aside0 (a = 64 * j) ∧ 0 ≤ a ∧ a ≤ m.length ∧ v5 = .int .i64 a ∧ Aside0 (Ar8 W w.heap.size (absorb m j)) ∧ Aside0 (Kd.C (Kd.int .u8) W Am m.length m) ∧ Aside0 (Below w.heap.size w W)) (fun v5 _ => m.length - (intOf v5).toNat)
      case atStart => exact ⟨0, 0, ⟨rfl⟩, by omega, by omega, rfl, C3, HM1, HB1⟩
      case round =>
        clear C3 HM1 HB1
        obtain ⟨j, a, HA, ha0, ha, rfl, C3, HM1, HB⟩ := hrel
        have hbb := HBIG.out
        by_cases hlt : a < m.length
        · have hlt' : a + 64 ≤ m.length := by have h1 := HA.out; have h2 := H64.out; omega
          go_wp2
          refine wp_region_still_tail 6 (by kernel_rfl) (by kernel_rfl) ?_
          have C3q : Aside0 (Ar8 (World.drew wr) w.heap.size (absorb m j)) := C3
          have HMq : Aside0 (Kd.C (Kd.int .u8) (World.drew wr) Am m.length m) := ⟨Kd.C_drew HM1.out⟩
          have HBq : Aside0 (Below w.heap.size w (World.drew wr)) := ⟨below_drew HB.out⟩
          change wpStill _ _ (World.drew wr) (fun a' => wpList _ _ _ _ a' (World.drew wr)) _ _
          clear C3 HM1 HB
          generalize World.drew wr = wq at *
          simp only [List.take_succ_cons, List.take_zero, List.drop_succ_cons, List.drop_zero]
          refine wpStill_step (fun K hK => ?_)
          simp only [Region.wanted, if_true]
          refine still_load_row 89 (.tmp 3) rfl w.heap.size rfl 89 _ (0, 0) _ C3q.out Tryd.underlying89 rfl ?si (hK _ ?_)
          case si => rw [sz8, arr_size, absorb_len]
          clear hK K
          obtain ⟨A', c', hcut, hr⟩ := cut64 wq Am cm m HMq.out HMC.out a j HA.out ha0 hlt'
          have HR := Aside0.mk hr
          clear hr
          have hw1 : IntKind.i64.wrap (a + 64) = a + 64 := IntWalk.i64_in _ (by omega)
          repeat still_step
          refine wpStill_nil ?_
          go_wp2_with fail
          refine (mixed_any (absorb m j) (absorb_len m j) A' c' _ wq HR.out (HG.out.below HBq.out)).mono ?_
          rintro e W2 ⟨rfl, hb⟩
          have C3r := Aside0.mk (C3q.out.below hb)
          have HMr := Aside0.mk (Kd.C_below HMq.out hb)
          have HBr := Aside0.mk (below_step HBq.out hb)
          clear hb C3q HMq HBq HR hcut hw1
          go_wp2_with (first | ((with_reducible refine gate_store (t := 89) (p := 3) (v := .tmp 24) rfl ?_); refine wpList_store_row rfl 89 (.tmp 3) (.tmp 24) rfl w.heap.size _ rfl rfl 89 _ C3r.out ?si ?so (arr_one _) ?_; (case si => rw [sz8, arr_size, mixed_len _ _ (absorb_len m j)]); (case so => rw [arr_size, arr_size, mixed_len _ _ (absorb_len m j), absorb_len])))
          go_roundw
          case rel => exact ⟨j + 1, a + 64, ⟨by have := HA.out; omega⟩, by omega, by omega, by go_num, ⟨C3r.out.row⟩, ⟨C_row HMr.out HNE.out⟩, ⟨below_row HBr.out (Nat.le_refl _)⟩⟩
          case measure => simp [intOf]; omega
        · have hj : j = m.length / 64 := by have h1 := HA.out; have h2 := H64.out; omega
          subst hj
          have hae : a = m.length := by omega
          subst hae
          have HL := Aside0.mk (absorb_len m (m.length / 64))
          generalize habs : absorb m (m.length / 64) = hs at *
          have HABS := Aside0.mk habs
          clear habs HA HM1
          go_wp2_with (first | ((with_reducible refine gate_dst (N := 25) rfl ?_); refine wpList_load_row rfl 89 (.tmp 3) rfl w.heap.size rfl 89 _ (0, 0) _ C3.out Tryd.underlying89 rfl ?si ?_; (case si => rw [sz8, arr_size, HL.out])) | fail)
          go_loopw [6, 26] (fun u6 v26 W => ∃ j : Nat, j ≤ 8 ∧ v26 = .int .i64 j ∧ Aside0 (Kd.R (Kd.int .u8) 5 W w.heap.size (fun _ => True) u6 (outB hs j)) ∧ Aside0 (Below w.heap.size w W)) (fun _ v26 _ => 8 - (intOf v26).toNat)
          case atStart => exact ⟨0, by omega, rfl, ⟨Kd.R_nil _ _ _ _ _⟩, HB⟩
          case round =>
            clear HB C3
            obtain ⟨j, hj, rfl, HO6, HB⟩ := hrel
            by_cases hlt2 : j < 8
            · have hx : ∀ W, (Instr.index 89 (.agg (nums .u32 hs).toArray) (.int .i64 (j : Int))).run Tryd.prog W = .ok (.int .u32 (rd hs j)) W := fun W => idx8 hs HL.out j W hlt2
              have HJL := Aside0.mk (outB_len hs j)
              generalize hx0 : rd hs j = x at *
              have HX := Aside0.mk hx0
              clear hx0
              go_wp2_with (first | ((with_reducible refine gate_dst (N := 41) rfl ?_); refine Kd.R_lit (Kd.int .u8) _ 5 ?hg (N := 41) ?hd (xs := four x) (inner := [.int .u8 (x / 16777216 % 256), .int .u8 (x / 65536 % 256), .int .u8 (x / 256 % 256), .int .u8 (x % 256)]) (ok := fun _ => True) (okp := fun _ => True) ?hr ?hp (fun _ hk => hk) trivial (Below.refl _ _) (Nat.le_refl _) (by simp [four]) ?_; (case hd => rfl); (case hg => rfl); (case hr => first | (go_simp; done) | (go_simp; rfl)); (case hp => exact (Reps.one (show Kd.M (Kd.int .u8) _ _ _ (x / 16777216 % 256) [.int .u8 (x / 16777216 % 256)] from rfl) (Reps.one (show Kd.M (Kd.int .u8) _ _ _ (x / 65536 % 256) [.int .u8 (x / 65536 % 256)] from rfl) (Reps.one (show Kd.M (Kd.int .u8) _ _ _ (x / 256 % 256) [.int .u8 (x / 256 % 256)] from rfl) (Reps.one (show Kd.M (Kd.int .u8) _ _ _ (x % 256) [.int .u8 (x % 256)] from rfl) (Reps.none _ _)))))); intro v41 w3 ho hb hg_ hnew_; clear hg_ hnew_; have n0_ := Aside0.mk (Kd.R_elder' HO6.out (Kd.R_base ho) hb); have n1_ := Aside0.mk (Kd.R_lower (Kd.R_new' ho (Kd.R_lt HO6.out)) (below_size HB.out)); have n2_ := Aside0.mk (below_step HB.out hb); clear HO6 HB; have HO6 := n0_; have HO41 := n1_; have HB := n2_; clear n0_ n1_ n2_; clear hb ho; obtain ⟨Ao, co, eo⟩ := Kd.R_slice HO41.out; subst eo) | ((with_reducible refine gate_builtin (b := .append) (xs := #[.tmp 29, .tmp 41]) rfl ?_); at_builtin; refine Kd.R_append_rows (Kd.int .u8) (w0 := w) w.heap.size rfl (.tmp 29) (.tmp 41) 32 5 (.int .u8 0) 1 rfl Tryd.underlying32 info8 rfl (by decide) (by omega) _ (outB hs j) (four x) _ _ _ (fun k_ => some k_ ≠ (.slice Ao (four x).length co : Value).ownBlock) (fun _ => False) rfl rfl ?aO ?aR (fun _ _ h => h) (fun _ h => h.elim) ?aF ?aB ?aS ?aL ?_; (case aR => exact (Kd.R_reads' HO41.out).2.2); (case aB => exact HB.out); (case aF => exact (fun k_ hk => Kd.fresh' (Kd.R_lt HO41.out) k_ hk)); (case aO => exact (Kd.R_mono HO6.out (fun _ hk => hk.2))); (case aS => exact (below_size HB.out)); (case aL => have := HJL.out; simp [four]; omega); intro v42 w5 ho hb hg hat; clear HO6 HO41 HB; have HB := Aside0.mk hb; have HO6 := Aside0.mk ho; clear ho hb hg hat) | fail)
              go_roundw
              case rel => exact ⟨j + 1, by omega, by go_num, ⟨by rw [outB, HX.out]; exact Kd.R_mono HO6.out (fun _ _ => trivial)⟩, HB⟩
              case measure => simp [intOf]; omega
            · obtain rfl : j = 8 := by omega
              go_wp2
              go_ret
              exact ⟨_, rfl, by rw [HABS.out]; exact HO6.out, HB.out⟩
    · cases h
  · cases h
end Go.Proofs.YtpimhoaeiafahaaDoor.M3
