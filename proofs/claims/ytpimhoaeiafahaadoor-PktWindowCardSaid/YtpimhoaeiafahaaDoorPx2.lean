/- Lean functions and contracts of Go functions, written by a program of this session out of the translation; Lean checks them. -/
import Derived.Test.YtpimhoaeiafahaaDoorPx0
import Derived.Test.YtpimhoaeiafahaaDoorPx1
namespace Go.Proofs.YtpimhoaeiafahaaDoor.P
open Go.Proofs.YtpimhoaeiafahaaDoor.M0 Go.Proofs.YtpimhoaeiafahaaDoor.M6 Go.Proofs.YtpimhoaeiafahaaDoor.M7 Go.Proofs.YtpimhoaeiafahaaDoor.M8 Go.Proofs.YtpimhoaeiafahaaDoor.B
open Go.RowKit Go.Proofs.YtpimhoaeiafahaaDoorW.PrintWords Go.Proofs.YtpimhoaeiafahaaDoorW.PrintLast Go.Proofs.YtpimhoaeiafahaaDoorW.PrintMore
attribute [local go_sem] max2_int min2_int max_two min_two max_three min_three max_four min_four   -- for this text's walks alone
set_option linter.unusedVariables false
set_option linter.unusedSimpArgs false

/-! ### pkt_Open: function 18 -/
def pkt_Open.l0 : Nat → List Int → Int → Int → Int → Int → Int → List Int → Option (Int × Int × Int × List Int × Int)
  | 0, _, _, _, _, _, _, _ => none
  | k + 1, x44, x45, x46, x135000, x135001, x135002, x135003 => if x46 < x45 then (if 0 ≤ x46 then (if x46 < (x44.length : Int) then (pkt_Open.l0 k x44 x45 (wrap64 (x46 + 1)) x135000 x135001 (Go.bits .or .u64 (IntKind.u64.wrap (x135002 * 256)) (IntKind.u64.wrap (rd x44 x46))) x135003) else (none)) else (none)) else ((pkt_May.f x135000 x135001 x135002 x135003).bind fun t141 => (if t141 = true then (some (x135000, x135001, x135002, x135003, 0)) else (some (0, 0, 0, ([] : List Int), 2))))
def pkt_Open.f (k : Nat) (l0 : List Int) (l1 : List Int) : Option (Int × Int × Int × List Int × Int) := if (wrap64 ((l1.length : Int) - 16)) < 10 then (some (0, 0, 0, ([] : List Int), 3)) else (if 0 ≤ (wrap64 ((l1.length : Int) - 16)) then (if (wrap64 ((l1.length : Int) - 16)) ≤ (l1.length : Int) then ((mac_Tag.f k l0 (([(l1.take ((wrap64 ((l1.length : Int) - 16)) : Int).toNat)] : List (List Int)))).bind fun t115 => ((mac_Equal.f t115 (l1.drop ((wrap64 ((l1.length : Int) - 16)) : Int).toNat)).bind fun t123 => (if t123 = true then (if 0 < (l1.length : Int) then (if 1 < (l1.length : Int) then (if 10 ≤ (wrap64 ((l1.length : Int) - 16)) then ((bytes_Clone.f ((l1.take ((wrap64 ((l1.length : Int) - 16)) : Int).toNat).drop 10)).bind fun t131 => (if 2 ≤ 10 then (if 10 ≤ (l1.length : Int) then ((some ((l1.take 10).drop 2 : List Int)).bind fun y135 => (pkt_Open.l0 k y135 (y135.length : Int) 0 (wrap64 (rd l1 0)) (wrap64 (rd l1 1)) 0 t131)) else (none)) else (none))) else (none)) else (none)) else (none)) else (some (0, 0, 0, ([] : List Int), 15))))) else (none)) else (none))
theorem pkt_Open.mono_l : ∀ k, (∀ y0 y1 y2 y3 y4 y5 y6, LeO (pkt_Open.l0 k y0 y1 y2 y3 y4 y5 y6) (pkt_Open.l0 (k + 1) y0 y1 y2 y3 y4 y5 y6))
  | 0 => fun _ _ _ _ _ _ _ r h => by simp [pkt_Open.l0] at h
  | k + 1 => by
    have ih0 := pkt_Open.mono_l k
    · intro y0 y1 y2 y3 y4 y5 y6
      unfold pkt_Open.l0
      repeat' first
      | (with_reducible exact ih0 _ _ _ _ _ _ _)
      | (with_reducible exact mac_Tag.mono _ _ _)
      | (with_reducible exact LeO.refl _)
      | (with_reducible exact LeO.none _)
      | (with_reducible refine LeO.ite ?_ ?_)
      | (with_reducible refine LeO.bind ?_ (fun _ => ?_))
      | exact ih0 _ _ _ _ _ _ _
      | exact mac_Tag.mono _ _ _
      | exact LeO.none _
      | refine LeO.ite ?_ ?_
      | refine LeO.bind ?_ (fun _ => ?_)
theorem pkt_Open.mono : ∀ a0 a1 k, LeO (pkt_Open.f k a0 a1) (pkt_Open.f (k + 1) a0 a1) := by
  intro a0 a1 k
  have ih0 := pkt_Open.mono_l k
  unfold pkt_Open.f
  repeat' first
      | (with_reducible exact ih0 _ _ _ _ _ _ _)
      | (with_reducible exact mac_Tag.mono _ _ _)
      | (with_reducible exact LeO.refl _)
      | (with_reducible exact LeO.none _)
      | (with_reducible refine LeO.ite ?_ ?_)
      | (with_reducible refine LeO.bind ?_ (fun _ => ?_))
      | exact ih0 _ _ _ _ _ _ _
      | exact mac_Tag.mono _ _ _
      | exact LeO.none _
      | refine LeO.ite ?_ ?_
      | refine LeO.bind ?_ (fun _ => ?_)
def pkt_Open.T4 : Bool × List (List Nat × List Nat) := (true, [([], []), ([], []), ([], []), ([1, 2], [1, 2]), ([3], [3]), ([0, 4], [0, 4]), ([], []), ([], []), ([6, 7], [6, 7]), ([5, 8, 5], [5, 8]), ([9], [9]), ([10, 9], [10])])
def pkt_Open.B4 : List Nat := [0, 0, 0, 6, 14, 31, 0, 0, 192, 511, 1023, 2047]
theorem pkt_Open.tab4 : rtab .any (opsOf Tryd.f18 4) = pkt_Open.T4 := by kernel_rfl
theorem pkt_Open.bits4 : waitsOk pkt_Open.T4.2 pkt_Open.B4 = true := by kernel_rfl
def pkt_Open.T6 : Bool × List (List Nat × List Nat) := (true, [([], []), ([0], [0]), ([1], [1]), ([2], [2]), ([], []), ([4], [4]), ([5], [5]), ([6], [6]), ([], []), ([], []), ([8, 9], [8, 9]), ([10], [10]), ([3, 7, 11], [3, 7, 11]), ([], []), ([13, 12, 11, 0, 1, 2, 3, 4, 5, 6, 7, 8, 9, 10, 11, 12, 13], [12, 13])])
def pkt_Open.B6 : List Nat := [0, 1, 3, 7, 0, 16, 48, 112, 0, 0, 768, 1792, 4095, 0, 16383]
theorem pkt_Open.tab6 : rtab .any (opsOf Tryd.f18 6) = pkt_Open.T6 := by kernel_rfl
theorem pkt_Open.bits6 : waitsOk pkt_Open.T6.2 pkt_Open.B6 = true := by kernel_rfl
set_option maxHeartbeats 8000000 in
set_option maxRecDepth 100000 in
theorem pkt_Open.calls (k : Nat) (A0 : Option Addr) (c0 : Nat) (l0 : List Int) (P1_ : Nat → Prop) (A1 : Option Addr) (c1 : Nat) (l1 : List Int) (r1 : Int) (r2 : Int) (r3 : Int) (r4 : List Int) (r5 : Int) (w : World) (hr0 : Kd.C (Kd.int .u8) w A0 l0.length l0) (hc0 : l0.length ≤ c0) (hs1 : Kd.V (Kd.int .u8) 5 w w.heap.size (fun k_ => P1_ k_) (.slice A1 l1.length c1) l1) (hG : LaidG w) (h : pkt_Open.f k l0 l1 = some (r1, r2, r3, r4, r5)) :
    Calls Tryd.prog 18 #[.slice A0 l0.length c0, .slice A1 l1.length c1] w fun e w' => ∃ v3_ : Value, e = .returned (.tuple #[.agg #[.int .i64 r1, .int .i64 r2, .int .u64 r3, v3_], .int .i64 r5]) ∧ Kd.R (Kd.int .u8) 5 w' w.heap.size (fun k_ => (w.heap.size ≤ k_)) v3_ r4 ∧ Below w.heap.size w w' := by
  have HG := Aside0.mk hG
  clear hG
  have hu34 := Tryd.underlying34
  have HR0 := Aside0.mk hr0
  have HC0 := Aside0.mk hc0
  clear hr0 hc0
  have HZ := Aside0.mk (show ∀ ad, A1 = some ad → 0 < l1.length → ad.block < w.heap.size from fun ad e hn => by subst e; exact Kd.C_lt (Kd.V_reads' hs1).2.2 hn (by decide))
  have HO1 := Aside0.mk (show Kd.V (Kd.int .u8) 5 w w.heap.size (fun k_ => (P1_ k_ ∨ w.heap.size ≤ k_)) (.slice A1 l1.length c1) l1 from Kd.V_mono hs1 (fun k_ hk => .inl hk))
  have HB := Aside0.mk (Below.refl w.heap.size w)
  have H : (if (wrap64 ((l1.length : Int) - 16)) < 10 then (some (0, 0, 0, ([] : List Int), 3)) else (if 0 ≤ (wrap64 ((l1.length : Int) - 16)) then (if (wrap64 ((l1.length : Int) - 16)) ≤ (l1.length : Int) then ((mac_Tag.f k l0 (([(l1.take ((wrap64 ((l1.length : Int) - 16)) : Int).toNat)] : List (List Int)))).bind fun t115 => ((mac_Equal.f t115 (l1.drop ((wrap64 ((l1.length : Int) - 16)) : Int).toNat)).bind fun t123 => (if t123 = true then (if 0 < (l1.length : Int) then (if 1 < (l1.length : Int) then (if 10 ≤ (wrap64 ((l1.length : Int) - 16)) then ((bytes_Clone.f ((l1.take ((wrap64 ((l1.length : Int) - 16)) : Int).toNat).drop 10)).bind fun t131 => (if 2 ≤ 10 then (if 10 ≤ (l1.length : Int) then ((some ((l1.take 10).drop 2 : List Int)).bind fun y135 => (pkt_Open.l0 k y135 (y135.length : Int) 0 (wrap64 (rd l1 0)) (wrap64 (rd l1 1)) 0 t131)) else (none)) else (none))) else (none)) else (none)) else (none)) else (some (0, 0, 0, ([] : List Int), 15))))) else (none)) else (none))) = some (r1, r2, r3, r4, r5) := h
  clear h
  by_cases c3 : (wrap64 ((l1.length : Int) - 16)) < 10
  · rw [if_pos c3] at H
    have c3b0 : decide ((wrap64 ((l1.length : Int) - 16)) < 10) = true := decide_eq_true c3
    clear c3
    simp only [Option.some.injEq, Prod.mk.injEq] at H
    obtain ⟨rfl, rfl, rfl, rfl, rfl⟩ := H
    go_enter Tryd.func18, Tryd.ntmps18
    go_wp2_with (first | ((with_reducible refine gate_dst (N := 4) rfl ?_); refine box_event ?hg (N := 4) ?hd (cs := #[.int .i64 0, .int .i64 0, .int .u64 0, .slice none 0 0]) (t := 34) ?hr ?_; (case hd => rfl); (case hg => rfl); (case hr => first | (go_simp; done) | (go_simp; rfl) | (go_simp; simp [IntKind.wrap_u32, show IntKind.u32.max = 4294967295 from rfl]; done)); intro gb106 hg w4 hbox hb; have n0_ := Aside0.mk (Kd.V_below (Kd.V_elderB (by (with_reducible repeat (first | apply Kd.V_alloc | apply Kd.V_drewN | apply Kd.V_drew)); exact HO1.out) gb106 (Nat.le_of_eq hg.symm)) hb); have n1_ := Aside0.mk (below_step (by repeat (first | (with_reducible first | exact HB.out | apply below_alloc | apply pw_below_drewN | apply below_drew1) | exact HB.out)) hb); have n2_ := Aside0.mk (hbox); have n3_ := Aside0.mk ((by rw [hg]; exact (below_size (by repeat (first | (with_reducible first | exact HB.out | apply below_alloc | apply pw_below_drewN | apply below_drew1) | exact HB.out))) : w.heap.size ≤ gb106)); have n4_ := Aside0.mk ((by rw [hg]; exact (below_size (by repeat (first | (with_reducible first | exact HB.out | apply below_alloc | apply pw_below_drewN | apply below_drew1) | exact HB.out))) : w.heap.size ≤ gb106)); clear HO1; clear HB; have HO1 := n0_; have HB := n1_; have BK106 := n2_; have GW106 := n3_; have GE106 := n4_; clear n0_ n1_ n2_ n3_ n4_; clear hb hbox hg; have hcz5_0 : w4.cell? ⟨gb106, 0, none⟩ = some (.int .i64 0) := (blk_cell BK106.out 0).trans rfl; have hcz5_1 : w4.cell? ⟨gb106, 1, none⟩ = some (.int .i64 0) := (blk_cell BK106.out 1).trans rfl; have hcz5_2 : w4.cell? ⟨gb106, 2, none⟩ = some (.int .u64 0) := (blk_cell BK106.out 2).trans rfl; have hcz5_3 : w4.cell? ⟨gb106, 3, none⟩ = some (.slice none 0 0) := (blk_cell BK106.out 3).trans rfl; have hfz5_0 := blk_frozen BK106.out 0; have hfz5_1 := blk_frozen BK106.out 1; have hfz5_2 := blk_frozen BK106.out 2; have hfz5_3 := blk_frozen BK106.out 3))
    refine bodyPost_ret (results_ct rfl _ _ gb106 34 #[.int .i64 0, .int .i64 0, .int .u64 0, .slice none 0 0] (0, 0) _ rfl (by (with_reducible repeat (first | refine blk_drewN ?_ _ | refine blk_drew ?_ | refine blk_alloc ?_ _)); refine blk_put (cs := #[.int .i64 0, .int .i64 0, .int .u64 0, .slice none 0 0]) ?_ 3 _ rfl; (with_reducible repeat (first | refine blk_drewN ?_ _ | refine blk_drew ?_ | refine blk_alloc ?_ _)); refine blk_put (cs := #[.int .i64 0, .int .i64 0, .int .u64 0, .slice none 0 0]) ?_ 2 _ rfl; (with_reducible repeat (first | refine blk_drewN ?_ _ | refine blk_drew ?_ | refine blk_alloc ?_ _)); refine blk_put (cs := #[.int .i64 0, .int .i64 0, .int .u64 0, .slice none 0 0]) ?_ 1 _ rfl; (with_reducible repeat (first | refine blk_drewN ?_ _ | refine blk_drew ?_ | refine blk_alloc ?_ _)); refine blk_put (cs := #[.int .i64 0, .int .i64 0, .int .u64 0, .slice none 0 0]) ?_ 0 _ rfl; (with_reducible repeat (first | refine blk_drewN ?_ _ | refine blk_drew ?_ | refine blk_alloc ?_ _)); exact BK106.out) Tryd.underlying34 rfl (by kernel_rfl)) rfl ?_
    exact ⟨_, by first | rfl | (simp [errW_none, errW_some] <;> rfl) | (simp [*, errW_none, errW_some] <;> rfl), by first | exact Kd.R_nil _ _ _ _ _ | exact Kd.N_nil _ _ _ _ _ | exact Kd.V_nil _ _ _ _ _ | exact Kd.Q_nil _ _ _ _ _ | exact Kd.S_nil _ _ _ _ _, by repeat (first | (with_reducible first | exact HB.out | apply below_alloc | apply pw_below_drewN | apply below_drew1 | refine below_set ?_ GE106.out) | exact HB.out)⟩
  · rw [if_neg c3] at H
    have c3b0 : decide ((wrap64 ((l1.length : Int) - 16)) < 10) = false := decide_eq_false c3
    clear c3
    obtain ⟨ji6, hji6⟩ : ∃ j_ : Int, (wrap64 ((l1.length : Int) - 16)) = j_ := ⟨_, rfl⟩
    replace H : (if 0 ≤ (ji6) then (if (ji6) ≤ (l1.length : Int) then ((mac_Tag.f k l0 (([(l1.take ((ji6) : Int).toNat)] : List (List Int)))).bind fun t115 => ((mac_Equal.f t115 (l1.drop ((ji6) : Int).toNat)).bind fun t123 => (if t123 = true then (if 0 < (l1.length : Int) then (if 1 < (l1.length : Int) then (if 10 ≤ (ji6) then ((bytes_Clone.f ((l1.take ((ji6) : Int).toNat).drop 10)).bind fun t131 => (if 2 ≤ 10 then (if 10 ≤ (l1.length : Int) then ((some ((l1.take 10).drop 2 : List Int)).bind fun y135 => (pkt_Open.l0 k y135 (y135.length : Int) 0 (wrap64 (rd l1 0)) (wrap64 (rd l1 1)) 0 t131)) else (none)) else (none))) else (none)) else (none)) else (none)) else (some (0, 0, 0, ([] : List Int), 15))))) else (none)) else (none)) = some (r1, r2, r3, r4, r5) := by first | (rw [hji6] at H; exact H) | (simp only [hji6] at H ⊢; exact H)
    (try rw [hji6] at c3b0)
    have hji6w : (IntKind.i64.wrap ((l1.length : Int) - 16)) = ji6 := (i64_w _).trans hji6
    by_cases c7 : 0 ≤ (ji6)
    · rw [if_pos c7] at H
      have c7b0 := eq_true c7
      have c7b1 : decide (0 ≤ (ji6)) = true := decide_eq_true c7
      clear c7
      by_cases c8 : (ji6) ≤ (l1.length : Int)
      · rw [if_pos c8] at H
        have c8b0 := eq_true c8
        have c8b1 : decide ((ji6) ≤ (l1.length : Int)) = true := decide_eq_true c8
        clear c8
        obtain ⟨y107, hy107⟩ : ∃ y_ : List Int, y_ = (l1.take ((ji6) : Int).toNat) := ⟨_, rfl⟩
        replace H : ((mac_Tag.f k l0 (([y107] : List (List Int)))).bind fun t115 => ((mac_Equal.f t115 (l1.drop ((ji6) : Int).toNat)).bind fun t123 => (if t123 = true then (if 0 < (l1.length : Int) then (if 1 < (l1.length : Int) then (if 10 ≤ (ji6) then ((bytes_Clone.f ((l1.take ((ji6) : Int).toNat).drop 10)).bind fun t131 => (if 2 ≤ 10 then (if 10 ≤ (l1.length : Int) then ((some ((l1.take 10).drop 2 : List Int)).bind fun y135 => (pkt_Open.l0 k y135 (y135.length : Int) 0 (wrap64 (rd l1 0)) (wrap64 (rd l1 1)) 0 t131)) else (none)) else (none))) else (none)) else (none)) else (none)) else (some (0, 0, 0, ([] : List Int), 15))))) = some (r1, r2, r3, r4, r5) := by first | (rw [hy107]; with_reducible exact H) | (have H2_ := (Option.bind_some _ _).symm.trans H; rw [hy107]; with_reducible exact H2_) | (have H2_ := (Option.bind_some _ _).symm.trans H; with_reducible exact H2_) | with_reducible exact H | (rw [hy107]; exact H) | exact H
        have Ny107 := Aside0.mk hy107
        clear hy107
        obtain ⟨y112, hy112⟩ : ∃ y_ : List (List Int), y_ = (([y107] : List (List Int))) := ⟨_, rfl⟩
        replace H : ((mac_Tag.f k l0 y112).bind fun t115 => ((mac_Equal.f t115 (l1.drop ((ji6) : Int).toNat)).bind fun t123 => (if t123 = true then (if 0 < (l1.length : Int) then (if 1 < (l1.length : Int) then (if 10 ≤ (ji6) then ((bytes_Clone.f ((l1.take ((ji6) : Int).toNat).drop 10)).bind fun t131 => (if 2 ≤ 10 then (if 10 ≤ (l1.length : Int) then ((some ((l1.take 10).drop 2 : List Int)).bind fun y135 => (pkt_Open.l0 k y135 (y135.length : Int) 0 (wrap64 (rd l1 0)) (wrap64 (rd l1 1)) 0 t131)) else (none)) else (none))) else (none)) else (none)) else (none)) else (some (0, 0, 0, ([] : List Int), 15))))) = some (r1, r2, r3, r4, r5) := by first | (rw [hy112]; with_reducible exact H) | (have H2_ := (Option.bind_some _ _).symm.trans H; rw [hy112]; with_reducible exact H2_) | (have H2_ := (Option.bind_some _ _).symm.trans H; with_reducible exact H2_) | with_reducible exact H | (rw [hy112]; exact H) | exact H
        have Ny112 := Aside0.mk hy112
        clear hy112
        replace H := Option.bind_eq_some_iff.mp H
        obtain ⟨t115, A90, H⟩ := H
        replace H : ((mac_Equal.f t115 (l1.drop ((ji6) : Int).toNat)).bind fun t123 => (if t123 = true then (if 0 < (l1.length : Int) then (if 1 < (l1.length : Int) then (if 10 ≤ (ji6) then ((bytes_Clone.f ((l1.take ((ji6) : Int).toNat).drop 10)).bind fun t131 => (if 2 ≤ 10 then (if 10 ≤ (l1.length : Int) then ((some ((l1.take 10).drop 2 : List Int)).bind fun y135 => (pkt_Open.l0 k y135 (y135.length : Int) 0 (wrap64 (rd l1 0)) (wrap64 (rd l1 1)) 0 t131)) else (none)) else (none))) else (none)) else (none)) else (none)) else (some (0, 0, 0, ([] : List Int), 15)))) = some (r1, r2, r3, r4, r5) := H
        have A9 := Aside0.mk A90
        clear A90
        have c10b0 := eq_true (of_decide_eq_true (by first | (with_reducible assumption) | assumption) : 0 ≤ (ji6))
        have c11b0 := eq_true (of_decide_eq_true (by first | (with_reducible assumption) | assumption) : (ji6) ≤ (l1.length : Int))
        obtain ⟨y118, hy118⟩ : ∃ y_ : List Int, y_ = (l1.drop ((ji6) : Int).toNat) := ⟨_, rfl⟩
        replace H : ((mac_Equal.f t115 y118).bind fun t123 => (if t123 = true then (if 0 < (l1.length : Int) then (if 1 < (l1.length : Int) then (if 10 ≤ (ji6) then ((bytes_Clone.f ((l1.take ((ji6) : Int).toNat).drop 10)).bind fun t131 => (if 2 ≤ 10 then (if 10 ≤ (l1.length : Int) then ((some ((l1.take 10).drop 2 : List Int)).bind fun y135 => (pkt_Open.l0 k y135 (y135.length : Int) 0 (wrap64 (rd l1 0)) (wrap64 (rd l1 1)) 0 t131)) else (none)) else (none))) else (none)) else (none)) else (none)) else (some (0, 0, 0, ([] : List Int), 15)))) = some (r1, r2, r3, r4, r5) := by first | (rw [hy118]; with_reducible exact H) | (have H2_ := (Option.bind_some _ _).symm.trans H; rw [hy118]; with_reducible exact H2_) | (have H2_ := (Option.bind_some _ _).symm.trans H; with_reducible exact H2_) | with_reducible exact H | (rw [hy118]; exact H) | exact H
        have Ny118 := Aside0.mk hy118
        clear hy118
        replace H := Option.bind_eq_some_iff.mp H
        obtain ⟨t123, A120, H⟩ := H
        replace H : (if t123 = true then (if 0 < (l1.length : Int) then (if 1 < (l1.length : Int) then (if 10 ≤ (ji6) then ((bytes_Clone.f ((l1.take ((ji6) : Int).toNat).drop 10)).bind fun t131 => (if 2 ≤ 10 then (if 10 ≤ (l1.length : Int) then ((some ((l1.take 10).drop 2 : List Int)).bind fun y135 => (pkt_Open.l0 k y135 (y135.length : Int) 0 (wrap64 (rd l1 0)) (wrap64 (rd l1 1)) 0 t131)) else (none)) else (none))) else (none)) else (none)) else (none)) else (some (0, 0, 0, ([] : List Int), 15))) = some (r1, r2, r3, r4, r5) := H
        have A12 := Aside0.mk A120
        clear A120
        by_cases c13 : t123 = true
        · subst c13
          have H1 : (if 0 < (l1.length : Int) then (if 1 < (l1.length : Int) then (if 10 ≤ (ji6) then ((bytes_Clone.f ((l1.take ((ji6) : Int).toNat).drop 10)).bind fun t131 => (if 2 ≤ 10 then (if 10 ≤ (l1.length : Int) then ((some ((l1.take 10).drop 2 : List Int)).bind fun y135 => (pkt_Open.l0 k y135 (y135.length : Int) 0 (wrap64 (rd l1 0)) (wrap64 (rd l1 1)) 0 t131)) else (none)) else (none))) else (none)) else (none)) else (none)) = some (r1, r2, r3, r4, r5) := by rw [if_pos rfl] at H; exact H
          clear H
          have H := H1
          clear H1
          by_cases c14 : 0 < (l1.length : Int)
          · rw [if_pos c14] at H
            have c14b0 : decide (0 < (l1.length : Int)) = true := decide_eq_true c14
            have c14b1 : decide (0 < l1.length) = true := decide_eq_true (by omega)
            clear c14
            by_cases c15 : 1 < (l1.length : Int)
            · rw [if_pos c15] at H
              have c15b0 : decide (1 < (l1.length : Int)) = true := decide_eq_true c15
              have c15b1 : decide (1 < l1.length) = true := decide_eq_true (by omega)
              clear c15
              by_cases c16 : 10 ≤ (ji6)
              · rw [if_pos c16] at H
                have c16b0 := eq_true c16
                have c16b1 : decide (10 ≤ (ji6)) = true := decide_eq_true c16
                clear c16
                have c17b0 := eq_true (of_decide_eq_true (by first | (with_reducible assumption) | assumption) : (ji6) ≤ (l1.length : Int))
                obtain ⟨y126, hy126⟩ : ∃ y_ : List Int, y_ = ((l1.take ((ji6) : Int).toNat).drop 10) := ⟨_, rfl⟩
                replace H : ((bytes_Clone.f y126).bind fun t131 => (if 2 ≤ 10 then (if 10 ≤ (l1.length : Int) then ((some ((l1.take 10).drop 2 : List Int)).bind fun y135 => (pkt_Open.l0 k y135 (y135.length : Int) 0 (wrap64 (rd l1 0)) (wrap64 (rd l1 1)) 0 t131)) else (none)) else (none))) = some (r1, r2, r3, r4, r5) := by first | (rw [hy126]; with_reducible exact H) | (have H2_ := (Option.bind_some _ _).symm.trans H; rw [hy126]; with_reducible exact H2_) | (have H2_ := (Option.bind_some _ _).symm.trans H; with_reducible exact H2_) | with_reducible exact H | (rw [hy126]; exact H) | exact H
                have Ny126 := Aside0.mk hy126
                clear hy126
                replace H := Option.bind_eq_some_iff.mp H
                obtain ⟨t131, A180, H⟩ := H
                replace H : (if 2 ≤ 10 then (if 10 ≤ (l1.length : Int) then ((some ((l1.take 10).drop 2 : List Int)).bind fun y135 => (pkt_Open.l0 k y135 (y135.length : Int) 0 (wrap64 (rd l1 0)) (wrap64 (rd l1 1)) 0 t131)) else (none)) else (none)) = some (r1, r2, r3, r4, r5) := H
                have A18 := Aside0.mk A180
                clear A180
                by_cases c19 : 2 ≤ 10
                · rw [if_pos c19] at H
                  have c19b0 := eq_true c19
                  have c19b1 : decide (2 ≤ 10) = true := decide_eq_true c19
                  clear c19
                  by_cases c20 : 10 ≤ (l1.length : Int)
                  · rw [if_pos c20] at H
                    have c20b0 := eq_true c20
                    have c20b1 : decide (10 ≤ (l1.length : Int)) = true := decide_eq_true c20
                    clear c20
                    obtain ⟨y135, hy135⟩ : ∃ y_ : List Int, y_ = ((l1.take 10).drop 2) := ⟨_, rfl⟩
                    replace H : (pkt_Open.l0 k y135 (y135.length : Int) 0 (wrap64 (rd l1 0)) (wrap64 (rd l1 1)) 0 t131) = some (r1, r2, r3, r4, r5) := by first | (rw [hy135]; with_reducible exact H) | (have H2_ := (Option.bind_some _ _).symm.trans H; rw [hy135]; with_reducible exact H2_) | (have H2_ := (Option.bind_some _ _).symm.trans H; with_reducible exact H2_) | with_reducible exact H | (rw [hy135]; exact H) | exact H
                    have Ny135 := Aside0.mk hy135
                    clear hy135
                    have H' := Aside0.mk H
                    clear H
                    go_enter Tryd.func18, Tryd.ntmps18
                    try go_wp2_with (first | ((with_reducible refine gate_dst (N := 4) rfl ?_); refine box_event ?hg (N := 4) ?hd (cs := #[.int .i64 0, .int .i64 0, .int .u64 0, .slice none 0 0]) (t := 34) ?hr ?_; (case hd => rfl); (case hg => rfl); (case hr => first | (go_simp; done) | (go_simp; rfl) | (go_simp; simp [IntKind.wrap_u32, show IntKind.u32.max = 4294967295 from rfl]; done)); intro gb106 hg w21 hbox hb; have n0_ := Aside0.mk (Kd.V_below (Kd.V_elderB (by (with_reducible repeat (first | apply Kd.V_alloc | apply Kd.V_drewN | apply Kd.V_drew)); exact HO1.out) gb106 (Nat.le_of_eq hg.symm)) hb); have n1_ := Aside0.mk (below_step (by repeat (first | (with_reducible first | exact HB.out | apply below_alloc | apply pw_below_drewN | apply below_drew1) | exact HB.out)) hb); have n2_ := Aside0.mk (hbox); have n3_ := Aside0.mk ((by rw [hg]; exact (below_size (by repeat (first | (with_reducible first | exact HB.out | apply below_alloc | apply pw_below_drewN | apply below_drew1) | exact HB.out))) : w.heap.size ≤ gb106)); have n4_ := Aside0.mk ((by rw [hg]; exact (below_size (by repeat (first | (with_reducible first | exact HB.out | apply below_alloc | apply pw_below_drewN | apply below_drew1) | exact HB.out))) : w.heap.size ≤ gb106)); clear HO1; clear HB; have HO1 := n0_; have HB := n1_; have BK106 := n2_; have GW106 := n3_; have GE106 := n4_; clear n0_ n1_ n2_ n3_ n4_; clear hb hbox hg))
                    have n0_ := Aside0.mk (Kd.V_drew HO1.out)
                    have n1_ := Aside0.mk (blk_drew BK106.out)
                    have n2_ := Aside0.mk (below_drew1 HB.out)
                    clear HO1
                    clear BK106
                    clear HB
                    have HO1 := n0_
                    have BK106 := n1_
                    have HB := n2_
                    clear n0_ n1_ n2_
                    have q23 : ((ji6) : Int) ≤ ((l1.length : Int) : Int) := of_decide_eq_true (by first | (with_reducible assumption) | assumption)
                    obtain ⟨i023, hi023, _, hsz23, _⟩ := info_parts info5
                    have hroom23 : l1.length ≤ c1 := (Kd.V_reads' HO1.out).2.1
                    have hC23 : Kd.F (Kd.int .u8) _ _ A1 l1.length l1 := (Kd.V_at (base := w.heap.size) HO1.out).2.2
                    have hcut23 := cut_to (P := Tryd.prog) 32 5 .i64 Tryd.underlying32 hi023 A1 l1.length c1 (ji6) (of_decide_eq_true (by first | (with_reducible assumption) | assumption)) q23 hroom23
                    have hr23 := Kd.F_take (m := ((ji6) : Int).toNat) hC23 (by omega)
                    have hy23 : y107.length = ((ji6) : Int).toNat := (by rw [Ny107.out, List.length_take]; omega)
                    rw [← Ny107.out] at hr23
                    rw [← hy23] at hcut23
                    have HO111 := Aside0.mk (show Kd.V (Kd.int .u8) 5 _ w.heap.size _ (.slice A1 y107.length c1) y107 from Kd.V_mk (by omega) hr23)
                    have HC111 := Aside0.mk (show y107.length ≤ c1 from by omega)
                    clear hr23 hC23 hroom23 hi023 hsz23
                    have KY23 := Aside0.mk hy23
                    clear hy23
                    replace q23 := eq_true q23
                    have q24 : ((ji6) : Int) ≤ ((l1.length : Int) : Int) := of_decide_eq_true (by first | (with_reducible assumption) | assumption)
                    obtain ⟨i024, hi024, _, hsz24, _⟩ := info_parts info5
                    have hroom24 : l1.length ≤ c1 := (Kd.V_reads' HO1.out).2.1
                    have hC24 : Kd.F (Kd.int .u8) _ _ A1 l1.length l1 := (Kd.V_at (base := w.heap.size) HO1.out).2.2
                    have q024 : (0 : Int) ≤ ((ji6) : Int) := of_decide_eq_true (by first | (with_reducible assumption) | assumption)
                    have hcut24 := cut_from (P := Tryd.prog) 32 5 .i64 Tryd.underlying32 hi024 1 hsz24 A1 l1.length c1 (ji6) q024 q24
                    have hr24 := Kd.F_cut (m := ((ji6) : Int).toNat) (c := c1) hC24 (by omega) hroom24
                    obtain ⟨A24, hA24⟩ : ∃ Az_, Az_ = (if c1 = ((ji6) : Int).toNat then A1 else (A1 : Option Addr).map (·.add (((ji6) : Int).toNat * 1))) := ⟨_, rfl⟩
                    obtain ⟨c24, hc24⟩ : ∃ cz_, cz_ = c1 - ((ji6) : Int).toNat := ⟨_, rfl⟩
                    have hy24 : y118.length = l1.length - ((ji6) : Int).toNat := (by rw [Ny118.out, List.length_drop] <;> omega)
                    rw [show (l1).drop ((ji6) : Int).toNat = y118 from Ny118.out.symm] at hr24
                    replace hr24 : Kd.F (Kd.int .u8) _ _ A24 y118.length y118 := (by rw [hA24]; exact hr24)
                    rw [← hy24, ← hA24, ← hc24] at hcut24
                    have HO122 := Aside0.mk (show Kd.V (Kd.int .u8) 5 _ w.heap.size _ (.slice A24 y118.length c24) y118 from Kd.V_mk (by rw [hy24, hc24]; exact Nat.sub_le_sub_right hroom24 _) hr24)
                    have HC122 := Aside0.mk (show y118.length ≤ c24 from by rw [hy24, hc24]; exact Nat.sub_le_sub_right hroom24 _)
                    clear hr24 hC24 hroom24 hi024 hsz24 hc24
                    have KY24 := Aside0.mk hy24
                    have KA24 := Aside0.mk hA24
                    clear hy24 hA24
                    replace q24 := eq_true q24
                    refine start_ (n := 12) (S := fun w' => True) (ds := []) #[false, false, false, false, false, false, false, false, false, false, false, false] (by kernel_rfl) rfl rfl trivial (fun hHeld => ?_); refine with_tabW pkt_Open.tab4 pkt_Open.bits4 (fun HT_ HW_ => ?_)
                    generalize w21.drew = w22 at HO1 BK106 HB HO111 HO122 hHeld ⊢
                    refine pure_ (i := 0) (N := some 18) (v := ?_) (a' := ?_) #[true, false, false, false, false, false, false, false, false, false, false, false] rfl rfl (any_of HT_.out (by kernel_rfl)) (fun _ _ _ h => h) (Or.inl ⟨by rfl, ?_⟩) ?_ ?_
                    rotate_left
                    · intro w'
                      go_simp
                      with_reducible rfl
                    rotate_left
                    · simp only [Act.put, List.setIfInBounds_toArray, List.set_cons_zero, List.set_cons_succ, i64_w, i32_w]
                      rfl
                    refine pure_ (i := 1) (N := some 19) (v := ?_) (a' := ?_) #[true, true, false, false, false, false, false, false, false, false, false, false] rfl rfl (any_of HT_.out (by kernel_rfl)) (fun _ _ _ h => h) (Or.inl ⟨by rfl, ?_⟩) ?_ ?_
                    rotate_left
                    · intro w'
                      go_simp
                      with_reducible rfl
                    rotate_left
                    · simp only [Act.put, List.setIfInBounds_toArray, List.set_cons_zero, List.set_cons_succ, i64_w, i32_w]
                      rfl
                    refine pure_ (i := 2) (N := some 20) (v := ?_) (a' := ?_) #[true, true, true, false, false, false, false, false, false, false, false, false] rfl rfl (any_of HT_.out (by kernel_rfl)) (fun _ _ _ h => h) (Or.inl ⟨by rfl, ?_⟩) ?_ ?_
                    rotate_left
                    · intro w'
                      go_simp
                      with_reducible rfl
                    rotate_left
                    · simp only [Act.put, List.setIfInBounds_toArray, List.set_cons_zero, List.set_cons_succ, i64_w, i32_w]
                      rfl
                    refine pure_ (i := 3) (N := some 21) (v := ?_) (a' := ?_) #[true, true, true, true, false, false, false, false, false, false, false, false] rfl rfl (any_of HT_.out (by kernel_rfl)) (fun _ _ _ h => h) (Or.inl ⟨by rfl, ?_⟩) ?_ ?_
                    rotate_left
                    · intro w'
                      go_simp
                      with_reducible rfl
                    rotate_left
                    · simp only [Act.put, List.setIfInBounds_toArray, List.set_cons_zero, List.set_cons_succ, i64_w, i32_w]
                      rfl
                    refine pure_ (i := 6) (N := some 24) (v := ?_) (a' := ?_) #[true, true, true, true, false, false, true, false, false, false, false, false] rfl rfl (any_of HT_.out (by kernel_rfl)) (fun _ _ _ h => h) (Or.inl ⟨by rfl, ?_⟩) ?_ ?_
                    rotate_left
                    · intro w'
                      go_simp
                      with_reducible rfl
                    rotate_left
                    · simp only [Act.put, List.setIfInBounds_toArray, List.set_cons_zero, List.set_cons_succ, i64_w, i32_w]
                      rfl
                    refine pure_ (i := 7) (N := some 25) (v := ?_) (a' := ?_) #[true, true, true, true, false, false, true, true, false, false, false, false] rfl rfl (any_of HT_.out (by kernel_rfl)) (fun _ _ _ h => h) (Or.inl ⟨by rfl, ?_⟩) ?_ ?_
                    rotate_left
                    · intro w'
                      go_simp
                      with_reducible rfl
                    rotate_left
                    · simp only [Act.put, List.setIfInBounds_toArray, List.set_cons_zero, List.set_cons_succ, i64_w, i32_w]
                      rfl
                    refine pure_ (i := 8) (N := some 26) (v := ?_) (a' := ?_) #[true, true, true, true, false, false, true, true, true, false, false, false] rfl rfl (any_of HT_.out (by kernel_rfl)) (fun _ _ _ h => h) (Or.inl ⟨by rfl, ?_⟩) ?_ ?_
                    rotate_left
                    · intro w'
                      go_simp
                      with_reducible rfl
                    rotate_left
                    · simp only [Act.put, List.setIfInBounds_toArray, List.set_cons_zero, List.set_cons_succ, i64_w, i32_w]
                      rfl
                    refine one_ (i := 4) (N := some 22) #[true, true, true, true, true, false, true, true, true, false, false, false] rfl rfl (one_of HT_.out (by kernel_rfl)) (by decide) (fun K hK => ?_)
                    refine Kd.N_lit_step (Kd.slice 5 (Kd.int .u8)) _ 32 ?hg (N' := 22) ?hd (xs := ([y107] : List (List Int))) (inner := [.slice A1 y107.length c1]) (ok := (fun k_ => (P1_ k_ ∨ w.heap.size ≤ k_) ∧ k_ ≠ gb106)) (okp := (fun k_ => (P1_ k_ ∨ w.heap.size ≤ k_) ∧ k_ ≠ gb106)) ?hr ?hp (fun _ hk => by first | exact hk | (simp only [hk, ne_eq, not_false_eq_true, and_self])) ((show ∀ k_, w22.heap.size ≤ k_ → (fun k_ => (P1_ k_ ∨ w.heap.size ≤ k_) ∧ k_ ≠ gb106) k_ from fun k_ hk => ⟨(.inr (Nat.le_trans (below_size (by repeat (first | (with_reducible first | exact HB.out | apply below_alloc | apply pw_below_drewN | apply below_drew1 | refine below_set ?_ GE106.out) | exact HB.out))) hk)), Kd.freshB (g := gb106) (o := .cells #[.int .i64 0, .int .i64 0, .int .u64 0, .slice none 0 0] 34 (0, 0)) (by (with_reducible repeat (first | refine blk_drewN ?_ _ | refine blk_drew ?_ | refine blk_alloc ?_ _)); exact BK106.out) k_ hk⟩) _ (Nat.le_refl _)) (Below.refl _ _) (Nat.le_refl _) (by simp) ?_; (case hd => rfl); (case hg => rfl); (case hr => first | (go_simp; done) | (go_simp; rfl) | (go_simp; simp [IntKind.wrap_u32, show IntKind.u32.max = 4294967295 from rfl]; done)); (case hp => exact (Reps.one (show Kd.FK (Kd.slice 5 (Kd.int .u8)) _ _ y107 [.slice A1 y107.length c1] from (Kd.FK_slice_mk (Kd.V_reads' (Kd.V_mono (ok' := (fun k_ => (P1_ k_ ∨ w.heap.size ≤ k_) ∧ k_ ≠ gb106)) (HO111.out) (fun k_ hk => ⟨hk.1, hk.2⟩))).2.1 (Kd.V_F (Kd.V_mono (ok' := (fun k_ => (P1_ k_ ∨ w.heap.size ≤ k_) ∧ k_ ≠ gb106)) (HO111.out) (fun k_ hk => ⟨hk.1, hk.2⟩))))) (Reps.none _ _)))
                    intro v113 w25 ho26 hb hg_ hnew_
                    clear hg_ hnew_
                    (first | rw [← Ny112.out] at ho26 | (simp only [Int.reduceToNat] at ho26; rw [← Ny112.out] at ho26))
                    have n0_ := Aside0.mk (Kd.V_elder' (by (with_reducible repeat (first | apply Kd.V_alloc | apply Kd.V_drewN | apply Kd.V_drew)); exact HO1.out) (Kd.N_base ho26) hb)
                    have n1_ := Aside0.mk (Kd.V_elder' (by (with_reducible repeat (first | apply Kd.V_alloc | apply Kd.V_drewN | apply Kd.V_drew)); exact HO111.out) (Kd.N_base ho26) hb)
                    have n2_ := Aside0.mk (Kd.V_elder' (by (with_reducible repeat (first | apply Kd.V_alloc | apply Kd.V_drewN | apply Kd.V_drew)); exact HO122.out) (Kd.N_base ho26) hb)
                    have n3_ := Aside0.mk (Kd.N_lower ho26 (below_size (by repeat (first | (with_reducible first | exact HB.out | apply below_alloc | apply pw_below_drewN | apply below_drew1 | refine below_set ?_ GE106.out) | exact HB.out))))
                    have n4_ := Aside0.mk (blk_below (g := gb106) (o := .cells #[.int .i64 0, .int .i64 0, .int .u64 0, .slice none 0 0] 34 (0, 0)) (by (with_reducible repeat (first | refine blk_drewN ?_ _ | refine blk_drew ?_ | refine blk_alloc ?_ _)); exact BK106.out) hb)
                    have n5_ := Aside0.mk (below_step (by repeat (first | (with_reducible first | exact HB.out | apply below_alloc | apply pw_below_drewN | apply below_drew1 | refine below_set ?_ GE106.out) | exact HB.out)) hb)
                    clear HO1
                    clear HO111
                    clear HO122
                    clear BK106
                    clear HB
                    have HO1 := n0_
                    have HO111 := n1_
                    have HO122 := n2_
                    have HO114 := n3_
                    have BK106 := n4_
                    have HB := n5_
                    clear n0_ n1_ n2_ n3_ n4_ n5_
                    clear hb ho26
                    obtain ⟨Ao27, co27, eo27⟩ := Kd.N_slice HO114.out
                    (first | subst eo27 | (injection eo27 with f1_ f2_ f3_; have f4_ := f1_.symm; have f5_ := f3_.symm; clear f1_ f2_ f3_; subst f4_; subst f5_))
                    refine hK.out _ _ trivial (fun hHeld => ?_)
                    clear hK K
                    refine norm_ (a' := ?_) ?_ ?_
                    rotate_left
                    · show Act.put _ (some 22) _ = _
                      simp only [Act.put, List.setIfInBounds_toArray, List.set_cons_zero, List.set_cons_succ, i64_w, i32_w]
                      rfl
                    refine one_ (i := 5) (N := some 23) #[true, true, true, true, true, true, true, true, true, false, false, false] rfl rfl (one_of HT_.out (by kernel_rfl)) (by decide) (fun K hK => ?_)
                    refine goes_ Tryd.func38 (by kernel_rfl) rfl #[.slice A0 l0.length c0, .slice Ao27 y112.length co27] (by rfl) rfl rfl (by (try simp only [List.map_toArray, List.map_cons, List.map_nil]); first | done | rfl | (simp only [List.length_drop, List.length_take]; rfl)) ?_
                    with_reducible refine (mac_Tag.calls k _ _ l0 _ _ y112 t115 _ ?side1 ?side2 ?side3 ?side4 ?side5 A9.out).mono ?_
                    (case side1 => repeat (first | exact (Kd.C_below HR0.out HB.out) | (with_reducible refine Kd.C_alloc ?_ _) | (with_reducible refine Kd.C_drewN ?_ _) | (with_reducible refine Kd.C_drew ?_)))
                    (case side2 => exact HC0.out)
                    (case side3 => repeat (first | exact (Kd.N_reads' HO114.out).2.2 | (with_reducible refine Kd.C_alloc ?_ _) | (with_reducible refine Kd.C_drewN ?_ _) | (with_reducible refine Kd.C_drew ?_)))
                    (case side4 => exact (Kd.N_reads' HO114.out).2.1)
                    (case side5 => first | exact HG.out | exact LaidG.below HG.out (by repeat (first | (with_reducible first | exact HB.out | apply below_alloc | apply pw_below_drewN | apply below_drew1) | exact HB.out)) | exact LaidG.at HG.out (by assumption))
                    rintro e w28 ⟨v116, rfl, ho0, hb⟩
                    refine ⟨_, rfl, ?_⟩
                    have n0_ := Aside0.mk (Kd.V_elder' (by (with_reducible repeat (first | apply Kd.V_alloc | apply Kd.V_drewN | apply Kd.V_drew)); exact HO1.out) (Kd.R_base ho0) hb)
                    have n1_ := Aside0.mk (Kd.V_elder' (by (with_reducible repeat (first | apply Kd.V_alloc | apply Kd.V_drewN | apply Kd.V_drew)); exact HO111.out) (Kd.R_base ho0) hb)
                    have n2_ := Aside0.mk (Kd.V_elder' (by (with_reducible repeat (first | apply Kd.V_alloc | apply Kd.V_drewN | apply Kd.V_drew)); exact HO122.out) (Kd.R_base ho0) hb)
                    have n3_ := Aside0.mk (Kd.N_elder' (by (with_reducible repeat (first | apply Kd.N_alloc | apply Kd.N_drewN | apply Kd.N_drew)); exact HO114.out) (Kd.R_base ho0) hb)
                    have n4_ := Aside0.mk (Kd.R_lower (Kd.R_newM (M := fun k_ => (w.heap.size ≤ k_)) ho0 (below_size (by repeat (first | (with_reducible first | exact HB.out | apply below_alloc | apply pw_below_drewN | apply below_drew1 | refine below_set ?_ GE106.out) | exact HB.out))) (fun k_ h_ => h_)) (below_size (by repeat (first | (with_reducible first | exact HB.out | apply below_alloc | apply pw_below_drewN | apply below_drew1 | refine below_set ?_ GE106.out) | exact HB.out))))
                    have n5_ := Aside0.mk (blk_below (g := gb106) (o := .cells #[.int .i64 0, .int .i64 0, .int .u64 0, .slice none 0 0] 34 (0, 0)) (by (with_reducible repeat (first | refine blk_drewN ?_ _ | refine blk_drew ?_ | refine blk_alloc ?_ _)); exact BK106.out) hb)
                    have n6_ := Aside0.mk (below_step (by repeat (first | (with_reducible first | exact HB.out | apply below_alloc | apply pw_below_drewN | apply below_drew1 | refine below_set ?_ GE106.out) | exact HB.out)) hb)
                    clear HO1
                    clear HO111
                    clear HO122
                    clear HO114
                    clear BK106
                    clear HB
                    have HO1 := n0_
                    have HO111 := n1_
                    have HO122 := n2_
                    have HO114 := n3_
                    have HO117 := n4_
                    have BK106 := n5_
                    have HB := n6_
                    clear n0_ n1_ n2_ n3_ n4_ n5_ n6_
                    (try clear hb)
                    (try clear hb2)
                    (try clear hk)
                    (try clear hi)
                    (try clear ho0)
                    obtain ⟨Ao29, co29, eo29⟩ := Kd.R_slice HO117.out
                    (first | subst eo29 | (injection eo29 with f1_ f2_ f3_; have f4_ := f1_.symm; have f5_ := f3_.symm; clear f1_ f2_ f3_; subst f4_; subst f5_))
                    refine hK.out _ _ trivial (fun hHeld => ?_)
                    clear hK K
                    refine norm_ (a' := ?_) ?_ ?_
                    rotate_left
                    · show Act.put _ (some 23) _ = _
                      simp only [Act.put, List.setIfInBounds_toArray, List.set_cons_zero, List.set_cons_succ, i64_w, i32_w]
                      rfl
                    refine one_ (i := 9) (N := some 27) #[true, true, true, true, true, true, true, true, true, true, false, false] rfl rfl (one_of HT_.out (by kernel_rfl)) (by decide) (fun K hK => ?_)
                    refine goes_ Tryd.func40 (by kernel_rfl) rfl #[.slice Ao29 t115.length co29, .slice A24 y118.length c24] (by rfl) rfl rfl (by (try simp only [List.map_toArray, List.map_cons, List.map_nil]); first | done | rfl | (simp only [List.length_drop, List.length_take]; rfl)) ?_
                    with_reducible refine (mac_Equal.calls _ _ t115 _ _ y118 true _ ?side1 ?side2 ?side3 ?side4 A12.out).mono ?_
                    (case side1 => repeat (first | exact (Kd.R_reads' HO117.out).2.2 | (with_reducible refine Kd.C_alloc ?_ _) | (with_reducible refine Kd.C_drewN ?_ _) | (with_reducible refine Kd.C_drew ?_)))
                    (case side2 => exact (Kd.R_reads' HO117.out).2.1)
                    (case side3 => repeat (first | exact (Kd.V_reads' HO122.out).2.2 | (with_reducible refine Kd.C_alloc ?_ _) | (with_reducible refine Kd.C_drewN ?_ _) | (with_reducible refine Kd.C_drew ?_)))
                    (case side4 => exact (Kd.V_reads' HO122.out).2.1)
                    rintro e w' ⟨rfl, ⟨nd, rfl⟩⟩
                    refine ⟨_, rfl, ?_⟩
                    refine hK.out _ _ trivial (fun hHeld => ?_)
                    clear hK K
                    refine norm_ (a' := ?_) ?_ ?_
                    rotate_left
                    · show Act.put _ (some 27) _ = _
                      simp only [Act.put, List.setIfInBounds_toArray, List.set_cons_zero, List.set_cons_succ, i64_w, i32_w]
                      rfl
                    refine pure_ (i := 10) (N := some 28) (v := ?_) (a' := ?_) #[true, true, true, true, true, true, true, true, true, true, true, false] rfl rfl (any_of HT_.out (by kernel_rfl)) (fun _ _ _ h => h) (Or.inl ⟨by rfl, ?_⟩) ?_ ?_
                    rotate_left
                    · intro w'
                      go_simp
                      with_reducible rfl
                    rotate_left
                    · simp only [Act.put, List.setIfInBounds_toArray, List.set_cons_zero, List.set_cons_succ, i64_w, i32_w]
                      rfl
                    refine pure_ (i := 11) (N := some 17) (v := ?_) (a' := ?_) #[true, true, true, true, true, true, true, true, true, true, true, true] rfl rfl (any_of HT_.out (by kernel_rfl)) (fun _ _ _ h => h) (Or.inl ⟨by rfl, ?_⟩) ?_ ?_
                    rotate_left
                    · intro w'
                      go_simp
                      with_reducible rfl
                    rotate_left
                    · simp only [Act.put, List.setIfInBounds_toArray, List.set_cons_zero, List.set_cons_succ, i64_w, i32_w]
                      rfl
                    refine done_ (done_of HT_.out (by kernel_rfl)) ?_
                    try go_wp2
                    (try (rw [drewN_self w28]; generalize hq_ : World.drewN w28 _ = w28; have n0_ : Aside0 (Kd.V (Kd.int .u8) 5 w28 w.heap.size (fun k_ => (P1_ k_ ∨ w.heap.size ≤ k_) ∧ some k_ ≠ (.slice Ao27 y112.length co27 : Value).ownBlock ∧ some k_ ≠ (.slice Ao29 t115.length co29 : Value).ownBlock ∧ k_ ≠ gb106) (.slice A1 l1.length c1) l1) := ⟨by rw [← hq_]; exact (by (with_reducible repeat (first | apply Kd.V_alloc | apply Kd.V_drewN | apply Kd.V_drew)); exact Kd.V_mono HO1.out (fun _ hk => by first | exact ⟨hk.1.1.1, ⟨hk.1.2, ⟨hk.2, hk.1.1.2⟩⟩⟩ | (simp only [hk, ne_eq, not_false_eq_true, and_self])))⟩; have n1_ : Aside0 (Kd.V (Kd.int .u8) 5 w28 w.heap.size (fun k_ => (P1_ k_ ∨ w.heap.size ≤ k_) ∧ some k_ ≠ (.slice Ao27 y112.length co27 : Value).ownBlock ∧ some k_ ≠ (.slice Ao29 t115.length co29 : Value).ownBlock ∧ k_ ≠ gb106) (.slice A1 y107.length c1) y107) := ⟨by rw [← hq_]; exact (by (with_reducible repeat (first | apply Kd.V_alloc | apply Kd.V_drewN | apply Kd.V_drew)); exact Kd.V_mono HO111.out (fun _ hk => by first | exact ⟨hk.1.1.1, ⟨hk.1.2, ⟨hk.2, hk.1.1.2⟩⟩⟩ | (simp only [hk, ne_eq, not_false_eq_true, and_self])))⟩; have n2_ : Aside0 (Kd.N (Kd.slice 5 (Kd.int .u8)) 32 w28 w.heap.size (fun k_ => (P1_ k_ ∨ w.heap.size ≤ k_) ∧ some k_ ≠ (.slice Ao29 t115.length co29 : Value).ownBlock ∧ k_ ≠ gb106) (.slice Ao27 y112.length co27) y112) := ⟨by rw [← hq_]; exact (by (with_reducible repeat (first | apply Kd.N_alloc | apply Kd.N_drewN | apply Kd.N_drew)); exact Kd.N_mono HO114.out (fun _ hk => by first | exact ⟨hk.1.1, ⟨hk.2, hk.1.2⟩⟩ | (simp only [hk, ne_eq, not_false_eq_true, and_self])))⟩; have n3_ : Aside0 (Kd.R (Kd.int .u8) 5 w28 w.heap.size (fun k_ => (w.heap.size ≤ k_)) (.slice Ao29 t115.length co29) t115) := ⟨by rw [← hq_]; exact (by (with_reducible repeat (first | apply Kd.R_alloc | apply Kd.R_drewN | apply Kd.R_drew)); exact Kd.R_mono HO117.out (fun _ hk => by first | exact hk.1 | (simp only [hk, ne_eq, not_false_eq_true, and_self])))⟩; have n4_ : Aside0 (Kd.V (Kd.int .u8) 5 w28 w.heap.size (fun k_ => (P1_ k_ ∨ w.heap.size ≤ k_) ∧ some k_ ≠ (.slice Ao27 y112.length co27 : Value).ownBlock ∧ some k_ ≠ (.slice Ao29 t115.length co29 : Value).ownBlock ∧ k_ ≠ gb106) (.slice A24 y118.length c24) y118) := ⟨by rw [← hq_]; exact (by (with_reducible repeat (first | apply Kd.V_alloc | apply Kd.V_drewN | apply Kd.V_drew)); exact Kd.V_mono HO122.out (fun _ hk => by first | exact ⟨hk.1.1.1, ⟨hk.1.2, ⟨hk.2, hk.1.1.2⟩⟩⟩ | (simp only [hk, ne_eq, not_false_eq_true, and_self])))⟩; have n5_ : Aside0 (w28.heap[gb106]? = some (.cells #[.int .i64 0, .int .i64 0, .int .u64 0, .slice none 0 0] 34 (0, 0))) := ⟨by rw [← hq_]; exact (by (with_reducible repeat (first | refine blk_drewN ?_ _ | refine blk_drew ?_ | refine blk_alloc ?_ _)); exact BK106.out)⟩; have n6_ : Aside0 (Below w.heap.size w w28) := ⟨by rw [← hq_]; exact (by repeat (first | (with_reducible first | exact HB.out | apply below_alloc | apply pw_below_drewN | apply below_drew1 | refine below_set ?_ GE106.out) | exact HB.out))⟩; clear HO1 HO111 HO114 HO117 HO122 BK106 HB hq_; have HO1 := n0_; have HO111 := n1_; have HO114 := n2_; have HO117 := n3_; have HO122 := n4_; have BK106 := n5_; have HB := n6_; clear n0_ n1_ n2_ n3_ n4_ n5_ n6_))
                    have n0_ := Aside0.mk (Kd.V_drew HO1.out)
                    have n1_ := Aside0.mk (Kd.V_drew HO111.out)
                    have n2_ := Aside0.mk (Kd.V_drew HO122.out)
                    have n3_ := Aside0.mk (Kd.N_drew HO114.out)
                    have n4_ := Aside0.mk (Kd.R_drew HO117.out)
                    have n5_ := Aside0.mk (blk_drew BK106.out)
                    have n6_ := Aside0.mk (below_drew1 HB.out)
                    clear HO1
                    clear HO111
                    clear HO122
                    clear HO114
                    clear HO117
                    clear BK106
                    clear HB
                    have HO1 := n0_
                    have HO111 := n1_
                    have HO122 := n2_
                    have HO114 := n3_
                    have HO117 := n4_
                    have BK106 := n5_
                    have HB := n6_
                    clear n0_ n1_ n2_ n3_ n4_ n5_ n6_
                    have p124 : 0 ≤ (0 : Int) := (by omega)
                    have q124 : 0 < (l1.length : Int) := of_decide_eq_true (by first | (with_reducible assumption) | assumption)
                    obtain ⟨ad124, e124, hx124_0⟩ := Kd.at_int (Kd.V_reads' HO1.out).2.2 0 p124 q124
                    cases e124
                    have qi124 : (0 < l1.length) = True := eq_true (by omega)
                    (try rw [show ((0 : Int)).toNat = 0 from rfl] at hx124_0)
                    (try rw [Addr.add_zero'] at hx124_0)
                    replace p124 := eq_true p124
                    replace q124 := eq_true q124
                    have p125 : 0 ≤ (1 : Int) := (by omega)
                    have q125 : 1 < (l1.length : Int) := of_decide_eq_true (by first | (with_reducible assumption) | assumption)
                    obtain ⟨ad125, e125, hx125_0⟩ := Kd.at_int (Kd.V_reads' HO1.out).2.2 1 p125 q125
                    obtain rfl : ad124 = ad125 := (by injection e125)
                    (try simp only [show (1 : Int).toNat = 1 from rfl, Nat.reduceMul, Nat.reduceEqDiff, Go.Addr.add, ↓reduceIte] at hx125_0)
                    have qi125 : (1 < l1.length) = True := eq_true (by omega)
                    (try rw [show ((1 : Int)).toNat = 1 from rfl] at hx125_0)
                    replace p125 := eq_true p125
                    replace q125 := eq_true q125
                    have q31 : ((ji6) : Int) ≤ ((l1.length : Int) : Int) := of_decide_eq_true (by first | (with_reducible assumption) | assumption)
                    obtain ⟨i031, hi031, _, hsz31, _⟩ := info_parts info5
                    have hroom31 : l1.length ≤ c1 := (Kd.V_reads' HO1.out).2.1
                    have hC31 : Kd.F (Kd.int .u8) _ _ (some ad124) l1.length l1 := (Kd.V_at (base := w.heap.size) HO1.out).2.2
                    have ql31 : (10 : Int) ≤ ((ji6) : Int) := of_decide_eq_true (by first | (with_reducible assumption) | assumption)
                    have hcut31 := cut_mid (P := Tryd.prog) 32 5 .i64 .i64 Tryd.underlying32 hi031 1 hsz31 (some ad124) l1.length c1 10 (ji6) (by omega) ql31 q31 hroom31
                    have hr31 := Kd.F_mid (lo := (10 : Int).toNat) (hi := ((ji6) : Int).toNat) (c := c1) hC31 (by omega) (by omega) hroom31
                    obtain ⟨A31, hA31⟩ : ∃ Az_, Az_ = (if c1 = (10 : Int).toNat then (some ad124) else ((some ad124) : Option Addr).map (·.add ((10 : Int).toNat * 1))) := ⟨_, rfl⟩
                    obtain ⟨c31, hc31⟩ : ∃ cz_, cz_ = c1 - (10 : Int).toNat := ⟨_, rfl⟩
                    have hy31 : y126.length = ((ji6) : Int).toNat - (10 : Int).toNat := (by rw [Ny126.out, List.length_drop, List.length_take] <;> omega)
                    rw [show ((l1).take ((ji6) : Int).toNat).drop (10 : Int).toNat = y126 from Ny126.out.symm] at hr31
                    replace hr31 : Kd.F (Kd.int .u8) _ _ A31 y126.length y126 := (by rw [hA31]; exact hr31)
                    rw [← hy31, ← hA31, ← hc31] at hcut31
                    have HO130 := Aside0.mk (show Kd.V (Kd.int .u8) 5 _ w.heap.size _ (.slice A31 y126.length c31) y126 from Kd.V_mk (by rw [hy31, hc31]; exact Nat.sub_le_sub_right (Nat.le_trans (by omega) hroom31) _) hr31)
                    have HC130 := Aside0.mk (show y126.length ≤ c31 from by rw [hy31, hc31]; exact Nat.sub_le_sub_right (Nat.le_trans (by omega) hroom31) _)
                    clear hr31 hC31 hroom31 hi031 hsz31 hc31
                    have KY31 := Aside0.mk hy31
                    have KA31 := Aside0.mk hA31
                    clear hy31 hA31
                    replace q31 := eq_true q31
                    refine start_ (n := 15) (S := fun w' => w'.cell? ad124 = some (.int .u8 (rd l1 0)) ∧ w'.cell? ⟨ad124.block, ad124.off + 1, none⟩ = some (.int .u8 (rd l1 1))) (ds := []) #[false, false, false, false, false, false, false, false, false, false, false, false, false, false, false] (by kernel_rfl) rfl rfl ⟨hx124_0, hx125_0⟩ (fun hHeld => ?_); refine with_tabW pkt_Open.tab6 pkt_Open.bits6 (fun HT_ HW_ => ?_)
                    generalize w28.drew = w30 at HO1 HO111 HO122 HO114 HO117 BK106 HB HO130 hx124_0 hx125_0 hHeld ⊢
                    refine pure_ (i := 0) (N := some 30) (v := ?_) (a' := ?_) #[true, false, false, false, false, false, false, false, false, false, false, false, false, false, false] rfl rfl (any_of HT_.out (by kernel_rfl)) (fun _ _ _ h => h) (Or.inl ⟨by rfl, ?_⟩) ?_ ?_
                    rotate_left
                    · intro w'
                      go_simp
                      with_reducible rfl
                    rotate_left
                    · simp only [Act.put, List.setIfInBounds_toArray, List.set_cons_zero, List.set_cons_succ, i64_w, i32_w]
                      rfl
                    refine pure_ (i := 1) (N := some 31) (v := ?_) (a' := ?_) #[true, true, false, false, false, false, false, false, false, false, false, false, false, false, false] rfl rfl (any_of HT_.out (by kernel_rfl)) (fun _ _ _ h => h) (Or.inl ⟨by rfl, ?_⟩) ?_ ?_
                    rotate_left
                    · intro w'
                      go_simp
                      with_reducible rfl
                    rotate_left
                    · simp only [Act.put, List.setIfInBounds_toArray, List.set_cons_zero, List.set_cons_succ, i64_w, i32_w]
                      rfl
                    refine pure_ (i := 4) (N := some 34) (v := ?_) (a' := ?_) #[true, true, false, false, true, false, false, false, false, false, false, false, false, false, false] rfl rfl (any_of HT_.out (by kernel_rfl)) (fun _ _ _ h => h) (Or.inl ⟨by rfl, ?_⟩) ?_ ?_
                    rotate_left
                    · intro w'
                      go_simp
                      with_reducible rfl
                    rotate_left
                    · simp only [Act.put, List.setIfInBounds_toArray, List.set_cons_zero, List.set_cons_succ, i64_w, i32_w]
                      rfl
                    refine pure_ (i := 5) (N := some 35) (v := ?_) (a' := ?_) #[true, true, false, false, true, true, false, false, false, false, false, false, false, false, false] rfl rfl (any_of HT_.out (by kernel_rfl)) (fun _ _ _ h => h) (Or.inl ⟨by rfl, ?_⟩) ?_ ?_
                    rotate_left
                    · intro w'
                      go_simp
                      with_reducible rfl
                    rotate_left
                    · simp only [Act.put, List.setIfInBounds_toArray, List.set_cons_zero, List.set_cons_succ, i64_w, i32_w]
                      rfl
                    refine pure_ (i := 8) (N := some 38) (v := ?_) (a' := ?_) #[true, true, false, false, true, true, false, false, true, false, false, false, false, false, false] rfl rfl (any_of HT_.out (by kernel_rfl)) (fun _ _ _ h => h) (Or.inl ⟨by rfl, ?_⟩) ?_ ?_
                    rotate_left
                    · intro w'
                      go_simp
                      with_reducible rfl
                    rotate_left
                    · simp only [Act.put, List.setIfInBounds_toArray, List.set_cons_zero, List.set_cons_succ, i64_w, i32_w]
                      rfl
                    refine pure_ (i := 9) (N := some 39) (v := ?_) (a' := ?_) #[true, true, false, false, true, true, false, false, true, true, false, false, false, false, false] rfl rfl (any_of HT_.out (by kernel_rfl)) (fun _ _ _ h => h) (Or.inl ⟨by rfl, ?_⟩) ?_ ?_
                    rotate_left
                    · intro w'
                      go_simp
                      with_reducible rfl
                    rotate_left
                    · simp only [Act.put, List.setIfInBounds_toArray, List.set_cons_zero, List.set_cons_succ, i64_w, i32_w]
                      rfl
                    refine pure_ (i := 10) (N := some 40) (v := ?_) (a' := ?_) #[true, true, false, false, true, true, false, false, true, true, true, false, false, false, false] rfl rfl (any_of HT_.out (by kernel_rfl)) (fun _ _ _ h => h) (Or.inl ⟨by rfl, ?_⟩) ?_ ?_
                    rotate_left
                    · intro w'
                      go_simp
                      with_reducible rfl
                    rotate_left
                    · simp only [Act.put, List.setIfInBounds_toArray, List.set_cons_zero, List.set_cons_succ, i64_w, i32_w]
                      rfl
                    refine take_ (i := 2) (N := some 32) (v := ?_) (a' := ?_) #[true, true, true, false, true, true, false, false, true, true, true, false, false, false, false] rfl rfl (take_ofW HT_.out HW_.out (by kernel_rfl)) (fun _ _ _ h => h) (Or.inl ⟨by rfl, ?_⟩) hHeld ?_ ?_
                    rotate_left
                    · rintro w' ⟨s0, s1⟩
                      go_simp
                      with_reducible rfl
                    rotate_left
                    · simp only [Act.put, List.setIfInBounds_toArray, List.set_cons_zero, List.set_cons_succ, i64_w, i32_w]
                      rfl
                    refine pure_ (i := 3) (N := some 33) (v := ?_) (a' := ?_) #[true, true, true, true, true, true, false, false, true, true, true, false, false, false, false] rfl rfl (any_of HT_.out (by kernel_rfl)) (fun _ _ _ h => h) (Or.inl ⟨by rfl, ?_⟩) ?_ ?_
                    rotate_left
                    · intro w'
                      go_simp
                      with_reducible rfl
                    rotate_left
                    · simp only [Act.put, List.setIfInBounds_toArray, List.set_cons_zero, List.set_cons_succ, i64_w, i32_w]
                      rfl
                    refine take_ (i := 6) (N := some 36) (v := ?_) (a' := ?_) #[true, true, true, true, true, true, true, false, true, true, true, false, false, false, false] rfl rfl (take_ofW HT_.out HW_.out (by kernel_rfl)) (fun _ _ _ h => h) (Or.inl ⟨by rfl, ?_⟩) hHeld ?_ ?_
                    rotate_left
                    · rintro w' ⟨s0, s1⟩
                      go_simp
                      with_reducible rfl
                    rotate_left
                    · simp only [Act.put, List.setIfInBounds_toArray, List.set_cons_zero, List.set_cons_succ, i64_w, i32_w]
                      rfl
                    refine pure_ (i := 7) (N := some 37) (v := ?_) (a' := ?_) #[true, true, true, true, true, true, true, true, true, true, true, false, false, false, false] rfl rfl (any_of HT_.out (by kernel_rfl)) (fun _ _ _ h => h) (Or.inl ⟨by rfl, ?_⟩) ?_ ?_
                    rotate_left
                    · intro w'
                      go_simp
                      with_reducible rfl
                    rotate_left
                    · simp only [Act.put, List.setIfInBounds_toArray, List.set_cons_zero, List.set_cons_succ, i64_w, i32_w]
                      rfl
                    refine join_ (σ := Value × Nat) 1 #[true, true, true, true, true, true, true, true, true, true, true, true, true, true, false] (fun s_ => [(41, s_.1), (7, .pointer (some ⟨s_.2, 0, none⟩)), (42, .agg #[.int .i64 (wrap64 (rd l1 0)), .int .i64 (wrap64 (rd l1 1)), .int .u64 0, s_.1])]) (fun s_ w' => (w'.cell? ad124 = some (.int .u8 (rd l1 0)) ∧ w'.cell? ⟨ad124.block, ad124.off + 1, none⟩ = some (.int .u8 (rd l1 1))) ∧ (Kd.V (Kd.int .u8) 5 w' w.heap.size (fun k_ => (P1_ k_ ∨ w.heap.size ≤ k_) ∧ some k_ ≠ (.slice Ao27 y112.length co27 : Value).ownBlock ∧ some k_ ≠ (.slice Ao29 t115.length co29 : Value).ownBlock ∧ some k_ ≠ (s_.1 : Value).ownBlock ∧ k_ ≠ gb106 ∧ k_ ≠ s_.2) (.slice (some ad124) l1.length c1) l1) ∧ (Kd.V (Kd.int .u8) 5 w' w.heap.size (fun k_ => (P1_ k_ ∨ w.heap.size ≤ k_) ∧ some k_ ≠ (.slice Ao27 y112.length co27 : Value).ownBlock ∧ some k_ ≠ (.slice Ao29 t115.length co29 : Value).ownBlock ∧ some k_ ≠ (s_.1 : Value).ownBlock ∧ k_ ≠ gb106 ∧ k_ ≠ s_.2) (.slice (some ad124) y107.length c1) y107) ∧ (Kd.N (Kd.slice 5 (Kd.int .u8)) 32 w' w.heap.size (fun k_ => (P1_ k_ ∨ w.heap.size ≤ k_) ∧ some k_ ≠ (.slice Ao29 t115.length co29 : Value).ownBlock ∧ some k_ ≠ (s_.1 : Value).ownBlock ∧ k_ ≠ gb106 ∧ k_ ≠ s_.2) (.slice Ao27 y112.length co27) y112) ∧ (Kd.R (Kd.int .u8) 5 w' w.heap.size (fun k_ => (w.heap.size ≤ k_) ∧ some k_ ≠ (s_.1 : Value).ownBlock) (.slice Ao29 t115.length co29) t115) ∧ (Kd.V (Kd.int .u8) 5 w' w.heap.size (fun k_ => (P1_ k_ ∨ w.heap.size ≤ k_) ∧ some k_ ≠ (.slice Ao27 y112.length co27 : Value).ownBlock ∧ some k_ ≠ (.slice Ao29 t115.length co29 : Value).ownBlock ∧ some k_ ≠ (s_.1 : Value).ownBlock ∧ k_ ≠ gb106 ∧ k_ ≠ s_.2) (.slice A24 y118.length c24) y118) ∧ (Kd.V (Kd.int .u8) 5 w' w.heap.size (fun k_ => (P1_ k_ ∨ w.heap.size ≤ k_) ∧ some k_ ≠ (.slice Ao27 y112.length co27 : Value).ownBlock ∧ some k_ ≠ (.slice Ao29 t115.length co29 : Value).ownBlock ∧ some k_ ≠ (s_.1 : Value).ownBlock ∧ k_ ≠ gb106 ∧ k_ ≠ s_.2) (.slice A31 y126.length c31) y126) ∧ (Kd.R (Kd.int .u8) 5 w' w.heap.size (fun k_ => (w.heap.size ≤ k_) ∧ some k_ ≠ (.slice Ao29 t115.length co29 : Value).ownBlock) s_.1 t131) ∧ (w'.heap[gb106]? = some (.cells #[.int .i64 0, .int .i64 0, .int .u64 0, .slice none 0 0] 34 (0, 0))) ∧ (w'.heap[s_.2]? = some (.cells #[.int .i64 0, .int .i64 0, .int .u64 0, .slice none 0 0] 34 (0, 0))) ∧ (w.heap.size ≤ s_.2) ∧ (w.heap.size ≤ s_.2) ∧ (gb106 ≠ s_.2) ∧ (s_.2 ≠ gb106) ∧ (Below w.heap.size w w')) ?_ ?_
                    rotate_left
                    · intro hCont
                      refine two_ (i := 11) (j := 13) (Ni := some 41) (Nj := some 7) #[true, true, true, true, true, true, true, true, true, true, true, true, false, false, false] #[true, true, true, true, true, true, true, true, true, true, true, false, false, true, false] rfl rfl rfl rfl (two_of HT_.out (by kernel_rfl)) (by decide) (by decide) (fun K hK => ?_) (fun K hK => ?_)
                      · skip
                        refine goes_ Tryd.func41 (by kernel_rfl) rfl #[.slice A31 y126.length c31] (by rfl) rfl rfl (by (try simp only [List.map_toArray, List.map_cons, List.map_nil]); first | done | rfl | (simp only [List.length_drop, List.length_take]; rfl)) ?_
                        with_reducible refine (bytes_Clone.calls _ _ y126 t131 _ ?side1 ?side2 A18.out).mono ?_
                        (case side1 => repeat (first | exact (Kd.V_reads' HO130.out).2.2 | (with_reducible refine Kd.C_alloc ?_ _) | (with_reducible refine Kd.C_drewN ?_ _) | (with_reducible refine Kd.C_drew ?_)))
                        (case side2 => exact (Kd.V_reads' HO130.out).2.1)
                        rintro e w32 ⟨v132, rfl, ho0, hb⟩
                        have HS0_ := (hb.cell (World.block_lt_of_cell? _ _ (hHeld.1))).trans (hHeld.1)
                        have HS1_ := (hb.cell (World.block_lt_of_cell? _ _ (hHeld.2))).trans (hHeld.2)
                        refine ⟨_, rfl, ?_⟩
                        have n0_ := Aside0.mk (Kd.V_elder' (by (with_reducible repeat (first | apply Kd.V_alloc | apply Kd.V_drewN | apply Kd.V_drew)); exact HO1.out) (Kd.R_base ho0) hb)
                        have n1_ := Aside0.mk (Kd.V_elder' (by (with_reducible repeat (first | apply Kd.V_alloc | apply Kd.V_drewN | apply Kd.V_drew)); exact HO111.out) (Kd.R_base ho0) hb)
                        have n2_ := Aside0.mk (Kd.V_elder' (by (with_reducible repeat (first | apply Kd.V_alloc | apply Kd.V_drewN | apply Kd.V_drew)); exact HO122.out) (Kd.R_base ho0) hb)
                        have n3_ := Aside0.mk (Kd.N_elder' (by (with_reducible repeat (first | apply Kd.N_alloc | apply Kd.N_drewN | apply Kd.N_drew)); exact HO114.out) (Kd.R_base ho0) hb)
                        have n4_ := Aside0.mk (Kd.R_elder' (by (with_reducible repeat (first | apply Kd.R_alloc | apply Kd.R_drewN | apply Kd.R_drew)); exact HO117.out) (Kd.R_base ho0) hb)
                        have n5_ := Aside0.mk (Kd.V_elder' (by (with_reducible repeat (first | apply Kd.V_alloc | apply Kd.V_drewN | apply Kd.V_drew)); exact HO130.out) (Kd.R_base ho0) hb)
                        have n6_ := Aside0.mk (Kd.R_lower (Kd.R_new' (Kd.R_newM (M := fun k_ => (w.heap.size ≤ k_)) ho0 (below_size (by repeat (first | (with_reducible first | exact HB.out | apply below_alloc | apply pw_below_drewN | apply below_drew1 | refine below_set ?_ GE106.out) | exact HB.out))) (fun k_ h_ => h_)) (Kd.R_lt (by (with_reducible repeat (first | apply Kd.R_alloc | apply Kd.R_drewN | apply Kd.R_drew)); exact HO117.out))) (below_size (by repeat (first | (with_reducible first | exact HB.out | apply below_alloc | apply pw_below_drewN | apply below_drew1 | refine below_set ?_ GE106.out) | exact HB.out))))
                        have n7_ := Aside0.mk (blk_below (g := gb106) (o := .cells #[.int .i64 0, .int .i64 0, .int .u64 0, .slice none 0 0] 34 (0, 0)) (by (with_reducible repeat (first | refine blk_drewN ?_ _ | refine blk_drew ?_ | refine blk_alloc ?_ _)); exact BK106.out) hb)
                        have n8_ := Aside0.mk (below_step (by repeat (first | (with_reducible first | exact HB.out | apply below_alloc | apply pw_below_drewN | apply below_drew1 | refine below_set ?_ GE106.out) | exact HB.out)) hb)
                        clear HO1
                        clear HO111
                        clear HO122
                        clear HO114
                        clear HO117
                        clear HO130
                        clear BK106
                        clear HB
                        have HO1 := n0_
                        have HO111 := n1_
                        have HO122 := n2_
                        have HO114 := n3_
                        have HO117 := n4_
                        have HO130 := n5_
                        have HO133 := n6_
                        have BK106 := n7_
                        have HB := n8_
                        clear n0_ n1_ n2_ n3_ n4_ n5_ n6_ n7_ n8_
                        (try clear hb)
                        (try clear hb2)
                        (try clear hk)
                        (try clear hi)
                        (try clear ho0)
                        obtain ⟨Ao33, co33, eo33⟩ := Kd.R_slice HO133.out
                        (first | subst eo33 | (injection eo33 with f1_ f2_ f3_; have f4_ := f1_.symm; have f5_ := f3_.symm; clear f1_ f2_ f3_; subst f4_; subst f5_))
                        refine hK.out _ _ ⟨HS0_, HS1_⟩ (fun hHeld => ?_)
                        clear hK K
                        refine norm_ (a' := ?_) ?_ ?_
                        rotate_left
                        · show Act.put _ (some 41) _ = _
                          simp only [Act.put, List.setIfInBounds_toArray, List.set_cons_zero, List.set_cons_succ, i64_w, i32_w]
                          rfl
                        refine pure_ (i := 12) (N := some 42) (v := ?_) (a' := ?_) #[true, true, true, true, true, true, true, true, true, true, true, true, true, false, false] rfl rfl (any_of HT_.out (by kernel_rfl)) (fun _ _ _ h => h) (Or.inl ⟨by rfl, ?_⟩) ?_ ?_
                        rotate_left
                        · intro w'
                          go_simp
                          with_reducible rfl
                        rotate_left
                        · simp only [Act.put, List.setIfInBounds_toArray, List.set_cons_zero, List.set_cons_succ, i64_w, i32_w]
                          rfl
                        refine one_ (i := 13) (N := some 7) #[true, true, true, true, true, true, true, true, true, true, true, true, true, true, false] rfl rfl (one_of HT_.out (by kernel_rfl)) (by decide) (fun K hK => ?_)
                        refine box_step ?hg (N := 7) ?hd (cs := #[.int .i64 0, .int .i64 0, .int .u64 0, .slice none 0 0]) (t := 34) ?hr ?_; (case hd => rfl); (case hg => rfl); (case hr => first | (go_simp; done) | (go_simp; rfl) | (go_simp; simp [IntKind.wrap_u32, show IntKind.u32.max = 4294967295 from rfl]; done))
                        intro gb134 hg w34 hbox hb
                        have HS0_ := (hb.cell (World.block_lt_of_cell? _ _ (hHeld.1))).trans (hHeld.1)
                        have HS1_ := (hb.cell (World.block_lt_of_cell? _ _ (hHeld.2))).trans (hHeld.2)
                        have n0_ := Aside0.mk (Kd.V_below (Kd.V_elderB (by (with_reducible repeat (first | apply Kd.V_alloc | apply Kd.V_drewN | apply Kd.V_drew)); exact HO1.out) gb134 (Nat.le_of_eq hg.symm)) hb)
                        have n1_ := Aside0.mk (Kd.V_below (Kd.V_elderB (by (with_reducible repeat (first | apply Kd.V_alloc | apply Kd.V_drewN | apply Kd.V_drew)); exact HO111.out) gb134 (Nat.le_of_eq hg.symm)) hb)
                        have n2_ := Aside0.mk (Kd.V_below (Kd.V_elderB (by (with_reducible repeat (first | apply Kd.V_alloc | apply Kd.V_drewN | apply Kd.V_drew)); exact HO122.out) gb134 (Nat.le_of_eq hg.symm)) hb)
                        have n3_ := Aside0.mk (Kd.N_below (Kd.N_elderB (by (with_reducible repeat (first | apply Kd.N_alloc | apply Kd.N_drewN | apply Kd.N_drew)); exact HO114.out) gb134 (Nat.le_of_eq hg.symm)) hb)
                        have n4_ := Aside0.mk (Kd.R_below (by (with_reducible repeat (first | apply Kd.R_alloc | apply Kd.R_drewN | apply Kd.R_drew)); exact HO117.out) hb)
                        have n5_ := Aside0.mk (Kd.V_below (Kd.V_elderB (by (with_reducible repeat (first | apply Kd.V_alloc | apply Kd.V_drewN | apply Kd.V_drew)); exact HO130.out) gb134 (Nat.le_of_eq hg.symm)) hb)
                        have n6_ := Aside0.mk (Kd.R_below (by (with_reducible repeat (first | apply Kd.R_alloc | apply Kd.R_drewN | apply Kd.R_drew)); exact HO133.out) hb)
                        have n7_ := Aside0.mk (blk_below (g := gb106) (o := .cells #[.int .i64 0, .int .i64 0, .int .u64 0, .slice none 0 0] 34 (0, 0)) (by (with_reducible repeat (first | refine blk_drewN ?_ _ | refine blk_drew ?_ | refine blk_alloc ?_ _)); exact BK106.out) hb)
                        have n8_ := Aside0.mk (below_step (by repeat (first | (with_reducible first | exact HB.out | apply below_alloc | apply pw_below_drewN | apply below_drew1 | refine below_set ?_ GE106.out) | exact HB.out)) hb)
                        have n9_ := Aside0.mk (hbox)
                        have n10_ := Aside0.mk ((by rw [hg]; exact (below_size (by repeat (first | (with_reducible first | exact HB.out | apply below_alloc | apply pw_below_drewN | apply below_drew1 | refine below_set ?_ GE106.out) | exact HB.out))) : w.heap.size ≤ gb134))
                        have n11_ := Aside0.mk ((by rw [hg]; exact (below_size (by repeat (first | (with_reducible first | exact HB.out | apply below_alloc | apply pw_below_drewN | apply below_drew1 | refine below_set ?_ GE106.out) | exact HB.out))) : w.heap.size ≤ gb134))
                        have n12_ := Aside0.mk ((by rw [hg]; exact Nat.ne_of_lt (blk_lt (g := gb106) (o := .cells #[.int .i64 0, .int .i64 0, .int .u64 0, .slice none 0 0] 34 (0, 0)) (by (with_reducible repeat (first | refine blk_drewN ?_ _ | refine blk_drew ?_ | refine blk_alloc ?_ _)); exact BK106.out)) : gb106 ≠ gb134))
                        have n13_ := Aside0.mk ((by rw [hg]; exact Nat.ne_of_gt (blk_lt (g := gb106) (o := .cells #[.int .i64 0, .int .i64 0, .int .u64 0, .slice none 0 0] 34 (0, 0)) (by (with_reducible repeat (first | refine blk_drewN ?_ _ | refine blk_drew ?_ | refine blk_alloc ?_ _)); exact BK106.out)) : gb134 ≠ gb106))
                        clear HO1
                        clear HO111
                        clear HO122
                        clear HO114
                        clear HO117
                        clear HO130
                        clear HO133
                        clear BK106
                        clear HB
                        have HO1 := n0_
                        have HO111 := n1_
                        have HO122 := n2_
                        have HO114 := n3_
                        have HO117 := n4_
                        have HO130 := n5_
                        have HO133 := n6_
                        have BK106 := n7_
                        have HB := n8_
                        have BK134 := n9_
                        have GW134 := n10_
                        have GE134 := n11_
                        have NB106_134 := n12_
                        have NB134_106 := n13_
                        clear n0_ n1_ n2_ n3_ n4_ n5_ n6_ n7_ n8_ n9_ n10_ n11_ n12_ n13_
                        clear hb hbox hg
                        refine hK.out _ _ ⟨HS0_, HS1_⟩ (fun hHeld => ?_)
                        clear hK K
                        refine norm_ (a' := ?_) ?_ ?_
                        rotate_left
                        · show Act.put _ (some 7) _ = _
                          simp only [Act.put, List.setIfInBounds_toArray, List.set_cons_zero, List.set_cons_succ, i64_w, i32_w]
                          rfl
                        exact norm_ (by simp only [putAll, Act.put, List.setIfInBounds_toArray, List.set_cons_zero, List.set_cons_succ]) (hCont (.slice Ao33 t131.length co33, gb134) _ ⟨hHeld, (by (with_reducible repeat (first | apply Kd.V_alloc | apply Kd.V_drewN | apply Kd.V_drew)); exact Kd.V_mono HO1.out (fun _ hk => by first | exact ⟨hk.1.1.1.1.1, ⟨hk.1.1.1.2, ⟨hk.1.1.2, ⟨hk.1.2, ⟨hk.1.1.1.1.2, hk.2⟩⟩⟩⟩⟩ | (simp only [hk, ne_eq, not_false_eq_true, and_self]))), (by (with_reducible repeat (first | apply Kd.V_alloc | apply Kd.V_drewN | apply Kd.V_drew)); exact Kd.V_mono HO111.out (fun _ hk => by first | exact ⟨hk.1.1.1.1.1, ⟨hk.1.1.1.2, ⟨hk.1.1.2, ⟨hk.1.2, ⟨hk.1.1.1.1.2, hk.2⟩⟩⟩⟩⟩ | (simp only [hk, ne_eq, not_false_eq_true, and_self]))), (by (with_reducible repeat (first | apply Kd.N_alloc | apply Kd.N_drewN | apply Kd.N_drew)); exact Kd.N_mono HO114.out (fun _ hk => by first | exact ⟨hk.1.1.1.1, ⟨hk.1.1.2, ⟨hk.1.2, ⟨hk.1.1.1.2, hk.2⟩⟩⟩⟩ | (simp only [hk, ne_eq, not_false_eq_true, and_self]))), (by (with_reducible repeat (first | apply Kd.R_alloc | apply Kd.R_drewN | apply Kd.R_drew)); exact Kd.R_mono HO117.out (fun _ hk => by first | exact ⟨hk.1.1, hk.2⟩ | (simp only [hk, ne_eq, not_false_eq_true, and_self]))), (by (with_reducible repeat (first | apply Kd.V_alloc | apply Kd.V_drewN | apply Kd.V_drew)); exact Kd.V_mono HO122.out (fun _ hk => by first | exact ⟨hk.1.1.1.1.1, ⟨hk.1.1.1.2, ⟨hk.1.1.2, ⟨hk.1.2, ⟨hk.1.1.1.1.2, hk.2⟩⟩⟩⟩⟩ | (simp only [hk, ne_eq, not_false_eq_true, and_self]))), (by (with_reducible repeat (first | apply Kd.V_alloc | apply Kd.V_drewN | apply Kd.V_drew)); exact Kd.V_mono HO130.out (fun _ hk => by first | exact ⟨hk.1.1.1.1.1, ⟨hk.1.1.1.2, ⟨hk.1.1.2, ⟨hk.1.2, ⟨hk.1.1.1.1.2, hk.2⟩⟩⟩⟩⟩ | (simp only [hk, ne_eq, not_false_eq_true, and_self]))), (by (with_reducible repeat (first | apply Kd.R_alloc | apply Kd.R_drewN | apply Kd.R_drew)); exact Kd.R_mono HO133.out (fun _ hk => by first | exact ⟨hk.1.1, hk.2⟩ | (simp only [hk, ne_eq, not_false_eq_true, and_self]))), (by (with_reducible repeat (first | refine blk_drewN ?_ _ | refine blk_drew ?_ | refine blk_alloc ?_ _)); exact BK106.out), (by (with_reducible repeat (first | refine blk_drewN ?_ _ | refine blk_drew ?_ | refine blk_alloc ?_ _)); exact BK134.out), GW134.out, GE134.out, NB106_134.out, NB134_106.out, (by repeat (first | (with_reducible first | exact HB.out | apply below_alloc | apply pw_below_drewN | apply below_drew1 | refine below_set ?_ GE106.out | refine below_set ?_ GE134.out) | exact HB.out))⟩)
                      · skip
                        refine box_step ?hg (N := 7) ?hd (cs := #[.int .i64 0, .int .i64 0, .int .u64 0, .slice none 0 0]) (t := 34) ?hr ?_; (case hd => rfl); (case hg => rfl); (case hr => first | (go_simp; done) | (go_simp; rfl) | (go_simp; simp [IntKind.wrap_u32, show IntKind.u32.max = 4294967295 from rfl]; done))
                        intro gb134 hg w32 hbox hb
                        have HS0_ := (hb.cell (World.block_lt_of_cell? _ _ (hHeld.1))).trans (hHeld.1)
                        have HS1_ := (hb.cell (World.block_lt_of_cell? _ _ (hHeld.2))).trans (hHeld.2)
                        have n0_ := Aside0.mk (Kd.V_below (Kd.V_elderB (by (with_reducible repeat (first | apply Kd.V_alloc | apply Kd.V_drewN | apply Kd.V_drew)); exact HO1.out) gb134 (Nat.le_of_eq hg.symm)) hb)
                        have n1_ := Aside0.mk (Kd.V_below (Kd.V_elderB (by (with_reducible repeat (first | apply Kd.V_alloc | apply Kd.V_drewN | apply Kd.V_drew)); exact HO111.out) gb134 (Nat.le_of_eq hg.symm)) hb)
                        have n2_ := Aside0.mk (Kd.V_below (Kd.V_elderB (by (with_reducible repeat (first | apply Kd.V_alloc | apply Kd.V_drewN | apply Kd.V_drew)); exact HO122.out) gb134 (Nat.le_of_eq hg.symm)) hb)
                        have n3_ := Aside0.mk (Kd.N_below (Kd.N_elderB (by (with_reducible repeat (first | apply Kd.N_alloc | apply Kd.N_drewN | apply Kd.N_drew)); exact HO114.out) gb134 (Nat.le_of_eq hg.symm)) hb)
                        have n4_ := Aside0.mk (Kd.R_below (by (with_reducible repeat (first | apply Kd.R_alloc | apply Kd.R_drewN | apply Kd.R_drew)); exact HO117.out) hb)
                        have n5_ := Aside0.mk (Kd.V_below (Kd.V_elderB (by (with_reducible repeat (first | apply Kd.V_alloc | apply Kd.V_drewN | apply Kd.V_drew)); exact HO130.out) gb134 (Nat.le_of_eq hg.symm)) hb)
                        have n6_ := Aside0.mk (blk_below (g := gb106) (o := .cells #[.int .i64 0, .int .i64 0, .int .u64 0, .slice none 0 0] 34 (0, 0)) (by (with_reducible repeat (first | refine blk_drewN ?_ _ | refine blk_drew ?_ | refine blk_alloc ?_ _)); exact BK106.out) hb)
                        have n7_ := Aside0.mk (below_step (by repeat (first | (with_reducible first | exact HB.out | apply below_alloc | apply pw_below_drewN | apply below_drew1 | refine below_set ?_ GE106.out) | exact HB.out)) hb)
                        have n8_ := Aside0.mk (hbox)
                        have n9_ := Aside0.mk ((by rw [hg]; exact (below_size (by repeat (first | (with_reducible first | exact HB.out | apply below_alloc | apply pw_below_drewN | apply below_drew1 | refine below_set ?_ GE106.out) | exact HB.out))) : w.heap.size ≤ gb134))
                        have n10_ := Aside0.mk ((by rw [hg]; exact (below_size (by repeat (first | (with_reducible first | exact HB.out | apply below_alloc | apply pw_below_drewN | apply below_drew1 | refine below_set ?_ GE106.out) | exact HB.out))) : w.heap.size ≤ gb134))
                        have n11_ := Aside0.mk ((by rw [hg]; exact Nat.ne_of_lt (blk_lt (g := gb106) (o := .cells #[.int .i64 0, .int .i64 0, .int .u64 0, .slice none 0 0] 34 (0, 0)) (by (with_reducible repeat (first | refine blk_drewN ?_ _ | refine blk_drew ?_ | refine blk_alloc ?_ _)); exact BK106.out)) : gb106 ≠ gb134))
                        have n12_ := Aside0.mk ((by rw [hg]; exact Nat.ne_of_gt (blk_lt (g := gb106) (o := .cells #[.int .i64 0, .int .i64 0, .int .u64 0, .slice none 0 0] 34 (0, 0)) (by (with_reducible repeat (first | refine blk_drewN ?_ _ | refine blk_drew ?_ | refine blk_alloc ?_ _)); exact BK106.out)) : gb134 ≠ gb106))
                        clear HO1
                        clear HO111
                        clear HO122
                        clear HO114
                        clear HO117
                        clear HO130
                        clear BK106
                        clear HB
                        have HO1 := n0_
                        have HO111 := n1_
                        have HO122 := n2_
                        have HO114 := n3_
                        have HO117 := n4_
                        have HO130 := n5_
                        have BK106 := n6_
                        have HB := n7_
                        have BK134 := n8_
                        have GW134 := n9_
                        have GE134 := n10_
                        have NB106_134 := n11_
                        have NB134_106 := n12_
                        clear n0_ n1_ n2_ n3_ n4_ n5_ n6_ n7_ n8_ n9_ n10_ n11_ n12_
                        clear hb hbox hg
                        refine hK.out _ _ ⟨HS0_, HS1_⟩ (fun hHeld => ?_)
                        clear hK K
                        refine norm_ (a' := ?_) ?_ ?_
                        rotate_left
                        · show Act.put _ (some 7) _ = _
                          simp only [Act.put, List.setIfInBounds_toArray, List.set_cons_zero, List.set_cons_succ, i64_w, i32_w]
                          rfl
                        refine one_ (i := 11) (N := some 41) #[true, true, true, true, true, true, true, true, true, true, true, true, false, true, false] rfl rfl (one_of HT_.out (by kernel_rfl)) (by decide) (fun K hK => ?_)
                        refine goes_ Tryd.func41 (by kernel_rfl) rfl #[.slice A31 y126.length c31] (by rfl) rfl rfl (by (try simp only [List.map_toArray, List.map_cons, List.map_nil]); first | done | rfl | (simp only [List.length_drop, List.length_take]; rfl)) ?_
                        with_reducible refine (bytes_Clone.calls _ _ y126 t131 _ ?side1 ?side2 A18.out).mono ?_
                        (case side1 => repeat (first | exact (Kd.V_reads' HO130.out).2.2 | (with_reducible refine Kd.C_alloc ?_ _) | (with_reducible refine Kd.C_drewN ?_ _) | (with_reducible refine Kd.C_drew ?_)))
                        (case side2 => exact (Kd.V_reads' HO130.out).2.1)
                        rintro e w33 ⟨v132, rfl, ho0, hb⟩
                        have HS0_ := (hb.cell (World.block_lt_of_cell? _ _ (hHeld.1))).trans (hHeld.1)
                        have HS1_ := (hb.cell (World.block_lt_of_cell? _ _ (hHeld.2))).trans (hHeld.2)
                        refine ⟨_, rfl, ?_⟩
                        have n0_ := Aside0.mk (Kd.V_elder' (by (with_reducible repeat (first | apply Kd.V_alloc | apply Kd.V_drewN | apply Kd.V_drew)); exact HO1.out) (Kd.R_base ho0) hb)
                        have n1_ := Aside0.mk (Kd.V_elder' (by (with_reducible repeat (first | apply Kd.V_alloc | apply Kd.V_drewN | apply Kd.V_drew)); exact HO111.out) (Kd.R_base ho0) hb)
                        have n2_ := Aside0.mk (Kd.V_elder' (by (with_reducible repeat (first | apply Kd.V_alloc | apply Kd.V_drewN | apply Kd.V_drew)); exact HO122.out) (Kd.R_base ho0) hb)
                        have n3_ := Aside0.mk (Kd.N_elder' (by (with_reducible repeat (first | apply Kd.N_alloc | apply Kd.N_drewN | apply Kd.N_drew)); exact HO114.out) (Kd.R_base ho0) hb)
                        have n4_ := Aside0.mk (Kd.R_elder' (by (with_reducible repeat (first | apply Kd.R_alloc | apply Kd.R_drewN | apply Kd.R_drew)); exact HO117.out) (Kd.R_base ho0) hb)
                        have n5_ := Aside0.mk (Kd.V_elder' (by (with_reducible repeat (first | apply Kd.V_alloc | apply Kd.V_drewN | apply Kd.V_drew)); exact HO130.out) (Kd.R_base ho0) hb)
                        have n6_ := Aside0.mk (Kd.R_lower (Kd.R_new' (Kd.R_newM (M := fun k_ => (w.heap.size ≤ k_)) ho0 (below_size (by repeat (first | (with_reducible first | exact HB.out | apply below_alloc | apply pw_below_drewN | apply below_drew1 | refine below_set ?_ GE106.out | refine below_set ?_ GE134.out) | exact HB.out))) (fun k_ h_ => h_)) (Kd.R_lt (by (with_reducible repeat (first | apply Kd.R_alloc | apply Kd.R_drewN | apply Kd.R_drew)); exact HO117.out))) (below_size (by repeat (first | (with_reducible first | exact HB.out | apply below_alloc | apply pw_below_drewN | apply below_drew1 | refine below_set ?_ GE106.out | refine below_set ?_ GE134.out) | exact HB.out))))
                        have n7_ := Aside0.mk (blk_below (g := gb106) (o := .cells #[.int .i64 0, .int .i64 0, .int .u64 0, .slice none 0 0] 34 (0, 0)) (by (with_reducible repeat (first | refine blk_drewN ?_ _ | refine blk_drew ?_ | refine blk_alloc ?_ _)); exact BK106.out) hb)
                        have n8_ := Aside0.mk (blk_below (g := gb134) (o := .cells #[.int .i64 0, .int .i64 0, .int .u64 0, .slice none 0 0] 34 (0, 0)) (by (with_reducible repeat (first | refine blk_drewN ?_ _ | refine blk_drew ?_ | refine blk_alloc ?_ _)); exact BK134.out) hb)
                        have n9_ := Aside0.mk (below_step (by repeat (first | (with_reducible first | exact HB.out | apply below_alloc | apply pw_below_drewN | apply below_drew1 | refine below_set ?_ GE106.out | refine below_set ?_ GE134.out) | exact HB.out)) hb)
                        clear HO1
                        clear HO111
                        clear HO122
                        clear HO114
                        clear HO117
                        clear HO130
                        clear BK106
                        clear BK134
                        clear HB
                        have HO1 := n0_
                        have HO111 := n1_
                        have HO122 := n2_
                        have HO114 := n3_
                        have HO117 := n4_
                        have HO130 := n5_
                        have HO133 := n6_
                        have BK106 := n7_
                        have BK134 := n8_
                        have HB := n9_
                        clear n0_ n1_ n2_ n3_ n4_ n5_ n6_ n7_ n8_ n9_
                        (try clear hb)
                        (try clear hb2)
                        (try clear hk)
                        (try clear hi)
                        (try clear ho0)
                        obtain ⟨Ao34, co34, eo34⟩ := Kd.R_slice HO133.out
                        (first | subst eo34 | (injection eo34 with f1_ f2_ f3_; have f4_ := f1_.symm; have f5_ := f3_.symm; clear f1_ f2_ f3_; subst f4_; subst f5_))
                        refine hK.out _ _ ⟨HS0_, HS1_⟩ (fun hHeld => ?_)
                        clear hK K
                        refine norm_ (a' := ?_) ?_ ?_
                        rotate_left
                        · show Act.put _ (some 41) _ = _
                          simp only [Act.put, List.setIfInBounds_toArray, List.set_cons_zero, List.set_cons_succ, i64_w, i32_w]
                          rfl
                        refine pure_ (i := 12) (N := some 42) (v := ?_) (a' := ?_) #[true, true, true, true, true, true, true, true, true, true, true, true, true, true, false] rfl rfl (any_of HT_.out (by kernel_rfl)) (fun _ _ _ h => h) (Or.inl ⟨by rfl, ?_⟩) ?_ ?_
                        rotate_left
                        · intro w'
                          go_simp
                          with_reducible rfl
                        rotate_left
                        · simp only [Act.put, List.setIfInBounds_toArray, List.set_cons_zero, List.set_cons_succ, i64_w, i32_w]
                          rfl
                        exact norm_ (by simp only [putAll, Act.put, List.setIfInBounds_toArray, List.set_cons_zero, List.set_cons_succ]) (hCont (.slice Ao34 t131.length co34, gb134) _ ⟨hHeld, (by (with_reducible repeat (first | apply Kd.V_alloc | apply Kd.V_drewN | apply Kd.V_drew)); exact Kd.V_mono HO1.out (fun _ hk => by first | exact ⟨hk.1.1.1.1.1, ⟨hk.1.1.1.2, ⟨hk.1.1.2, ⟨hk.2, ⟨hk.1.1.1.1.2, hk.1.2⟩⟩⟩⟩⟩ | (simp only [hk, ne_eq, not_false_eq_true, and_self]))), (by (with_reducible repeat (first | apply Kd.V_alloc | apply Kd.V_drewN | apply Kd.V_drew)); exact Kd.V_mono HO111.out (fun _ hk => by first | exact ⟨hk.1.1.1.1.1, ⟨hk.1.1.1.2, ⟨hk.1.1.2, ⟨hk.2, ⟨hk.1.1.1.1.2, hk.1.2⟩⟩⟩⟩⟩ | (simp only [hk, ne_eq, not_false_eq_true, and_self]))), (by (with_reducible repeat (first | apply Kd.N_alloc | apply Kd.N_drewN | apply Kd.N_drew)); exact Kd.N_mono HO114.out (fun _ hk => by first | exact ⟨hk.1.1.1.1, ⟨hk.1.1.2, ⟨hk.2, ⟨hk.1.1.1.2, hk.1.2⟩⟩⟩⟩ | (simp only [hk, ne_eq, not_false_eq_true, and_self]))), (by (with_reducible repeat (first | apply Kd.R_alloc | apply Kd.R_drewN | apply Kd.R_drew)); exact Kd.R_mono HO117.out (fun _ hk => by first | exact ⟨hk.1.1, hk.2⟩ | (simp only [hk, ne_eq, not_false_eq_true, and_self]))), (by (with_reducible repeat (first | apply Kd.V_alloc | apply Kd.V_drewN | apply Kd.V_drew)); exact Kd.V_mono HO122.out (fun _ hk => by first | exact ⟨hk.1.1.1.1.1, ⟨hk.1.1.1.2, ⟨hk.1.1.2, ⟨hk.2, ⟨hk.1.1.1.1.2, hk.1.2⟩⟩⟩⟩⟩ | (simp only [hk, ne_eq, not_false_eq_true, and_self]))), (by (with_reducible repeat (first | apply Kd.V_alloc | apply Kd.V_drewN | apply Kd.V_drew)); exact Kd.V_mono HO130.out (fun _ hk => by first | exact ⟨hk.1.1.1.1.1, ⟨hk.1.1.1.2, ⟨hk.1.1.2, ⟨hk.2, ⟨hk.1.1.1.1.2, hk.1.2⟩⟩⟩⟩⟩ | (simp only [hk, ne_eq, not_false_eq_true, and_self]))), (by (with_reducible repeat (first | apply Kd.R_alloc | apply Kd.R_drewN | apply Kd.R_drew)); exact Kd.R_mono HO133.out (fun _ hk => by first | exact ⟨hk.1.1, hk.2⟩ | (simp only [hk, ne_eq, not_false_eq_true, and_self]))), (by (with_reducible repeat (first | refine blk_drewN ?_ _ | refine blk_drew ?_ | refine blk_alloc ?_ _)); exact BK106.out), (by (with_reducible repeat (first | refine blk_drewN ?_ _ | refine blk_drew ?_ | refine blk_alloc ?_ _)); exact BK134.out), GW134.out, GE134.out, NB106_134.out, NB134_106.out, (by repeat (first | (with_reducible first | exact HB.out | apply below_alloc | apply pw_below_drewN | apply below_drew1 | refine below_set ?_ GE106.out | refine below_set ?_ GE134.out) | exact HB.out))⟩)
                    rintro ⟨v132, gb134⟩ w35 ⟨hS_, h0_, h1_, h2_, h3_, h4_, h5_, h6_, h7_, h8_, h9_, h10_, h11_, h12_, h13_⟩
                    have n0_ : Aside0 (Kd.V (Kd.int .u8) 5 w35 w.heap.size (fun k_ => (P1_ k_ ∨ w.heap.size ≤ k_) ∧ some k_ ≠ (.slice Ao27 y112.length co27 : Value).ownBlock ∧ some k_ ≠ (.slice Ao29 t115.length co29 : Value).ownBlock ∧ some k_ ≠ (v132 : Value).ownBlock ∧ k_ ≠ gb106 ∧ k_ ≠ gb134) (.slice (some ad124) l1.length c1) l1) := ⟨h0_⟩
                    have n1_ : Aside0 (Kd.V (Kd.int .u8) 5 w35 w.heap.size (fun k_ => (P1_ k_ ∨ w.heap.size ≤ k_) ∧ some k_ ≠ (.slice Ao27 y112.length co27 : Value).ownBlock ∧ some k_ ≠ (.slice Ao29 t115.length co29 : Value).ownBlock ∧ some k_ ≠ (v132 : Value).ownBlock ∧ k_ ≠ gb106 ∧ k_ ≠ gb134) (.slice (some ad124) y107.length c1) y107) := ⟨h1_⟩
                    have n2_ : Aside0 (Kd.N (Kd.slice 5 (Kd.int .u8)) 32 w35 w.heap.size (fun k_ => (P1_ k_ ∨ w.heap.size ≤ k_) ∧ some k_ ≠ (.slice Ao29 t115.length co29 : Value).ownBlock ∧ some k_ ≠ (v132 : Value).ownBlock ∧ k_ ≠ gb106 ∧ k_ ≠ gb134) (.slice Ao27 y112.length co27) y112) := ⟨h2_⟩
                    have n3_ : Aside0 (Kd.R (Kd.int .u8) 5 w35 w.heap.size (fun k_ => (w.heap.size ≤ k_) ∧ some k_ ≠ (v132 : Value).ownBlock) (.slice Ao29 t115.length co29) t115) := ⟨h3_⟩
                    have n4_ : Aside0 (Kd.V (Kd.int .u8) 5 w35 w.heap.size (fun k_ => (P1_ k_ ∨ w.heap.size ≤ k_) ∧ some k_ ≠ (.slice Ao27 y112.length co27 : Value).ownBlock ∧ some k_ ≠ (.slice Ao29 t115.length co29 : Value).ownBlock ∧ some k_ ≠ (v132 : Value).ownBlock ∧ k_ ≠ gb106 ∧ k_ ≠ gb134) (.slice A24 y118.length c24) y118) := ⟨h4_⟩
                    have n5_ : Aside0 (Kd.V (Kd.int .u8) 5 w35 w.heap.size (fun k_ => (P1_ k_ ∨ w.heap.size ≤ k_) ∧ some k_ ≠ (.slice Ao27 y112.length co27 : Value).ownBlock ∧ some k_ ≠ (.slice Ao29 t115.length co29 : Value).ownBlock ∧ some k_ ≠ (v132 : Value).ownBlock ∧ k_ ≠ gb106 ∧ k_ ≠ gb134) (.slice A31 y126.length c31) y126) := ⟨h5_⟩
                    have n6_ : Aside0 (Kd.R (Kd.int .u8) 5 w35 w.heap.size (fun k_ => (w.heap.size ≤ k_) ∧ some k_ ≠ (.slice Ao29 t115.length co29 : Value).ownBlock) v132 t131) := ⟨h6_⟩
                    have n7_ : Aside0 (w35.heap[gb106]? = some (.cells #[.int .i64 0, .int .i64 0, .int .u64 0, .slice none 0 0] 34 (0, 0))) := ⟨h7_⟩
                    have n8_ : Aside0 (w35.heap[gb134]? = some (.cells #[.int .i64 0, .int .i64 0, .int .u64 0, .slice none 0 0] 34 (0, 0))) := ⟨h8_⟩
                    have n9_ : Aside0 (w.heap.size ≤ gb134) := ⟨h9_⟩
                    have n10_ : Aside0 (w.heap.size ≤ gb134) := ⟨h10_⟩
                    have n11_ : Aside0 (gb106 ≠ gb134) := ⟨h11_⟩
                    have n12_ : Aside0 (gb134 ≠ gb106) := ⟨h12_⟩
                    have n13_ : Aside0 (Below w.heap.size w w35) := ⟨h13_⟩
                    clear HO1
                    clear HO111
                    clear HO122
                    clear HO114
                    clear HO117
                    clear BK106
                    clear HB
                    clear h0_ h1_ h2_ h3_ h4_ h5_ h6_ h7_ h8_ h9_ h10_ h11_ h12_ h13_
                    have HO1 := n0_
                    have HO111 := n1_
                    have HO114 := n2_
                    have HO117 := n3_
                    have HO122 := n4_
                    have HO130 := n5_
                    have HO133 := n6_
                    have BK106 := n7_
                    have BK134 := n8_
                    have GW134 := n9_
                    have GE134 := n10_
                    have NB106_134 := n11_
                    have NB134_106 := n12_
                    have HB := n13_
                    clear n0_ n1_ n2_ n3_ n4_ n5_ n6_ n7_ n8_ n9_ n10_ n11_ n12_ n13_
                    have hHeld : w35.cell? ad124 = some (.int .u8 (rd l1 0)) ∧ w35.cell? ⟨ad124.block, ad124.off + 1, none⟩ = some (.int .u8 (rd l1 1)) := hS_
                    obtain ⟨Ao36, co36, eo36⟩ := Kd.R_slice HO133.out
                    (first | subst eo36 | (injection eo36 with f1_ f2_ f3_; have f4_ := f1_.symm; have f5_ := f3_.symm; clear f1_ f2_ f3_; subst f4_; subst f5_))
                    refine norm_ (a' := ?_) ?_ ?_
                    rotate_left
                    · simp only [putAll, Act.put, List.setIfInBounds_toArray, List.set_cons_zero, List.set_cons_succ]
                      rfl
                    refine one_ (i := 14) (N := none) #[true, true, true, true, true, true, true, true, true, true, true, true, true, true, true] rfl rfl (one_of HT_.out (by kernel_rfl)) (by decide) (fun K hK => ?_)
                    have hs37 : w35.cell? ⟨gb134, 0, none⟩ = some (.int .i64 0) := (blk_cell BK134.out 0).trans rfl
                    have hfs37 := blk_frozen BK134.out 0
                    have hns37_0 := NB106_134.out
                    have hms37_0 := NB134_106.out
                    have hs38 : w35.cell? ⟨gb134, 1, none⟩ = some (.int .i64 0) := (blk_cell BK134.out 1).trans rfl
                    have hfs38 := blk_frozen BK134.out 1
                    have hns38_0 := NB106_134.out
                    have hms38_0 := NB134_106.out
                    have hs39 : w35.cell? ⟨gb134, 2, none⟩ = some (.int .u64 0) := (blk_cell BK134.out 2).trans rfl
                    have hfs39 := blk_frozen BK134.out 2
                    have hns39_0 := NB106_134.out
                    have hms39_0 := NB134_106.out
                    have hs40 : w35.cell? ⟨gb134, 3, none⟩ = some (.slice none 0 0) := (blk_cell BK134.out 3).trans rfl
                    have hfs40 := blk_frozen BK134.out 3
                    have hns40_0 := NB106_134.out
                    have hms40_0 := NB134_106.out
                    refine skip_ (w1 := ?_) (by rfl) rfl ?_ ?_
                    rotate_left
                    · go_simp
                      rfl
                    refine hK.out _ _ ⟨((cell_far (p := ⟨gb134, _, none⟩) (by first | exact Nat.ne_of_lt (Nat.lt_of_lt_of_le (HZ.out _ rfl (of_decide_eq_true c14b1)) GW134.out) | (rw [add_block]; exact Nat.ne_of_lt (Nat.lt_of_lt_of_le (HZ.out _ rfl (of_decide_eq_true c14b1)) GW134.out)) | (show (Addr.add _ _).block ≠ _; rw [add_block]; exact Nat.ne_of_lt (Nat.lt_of_lt_of_le (HZ.out _ rfl (of_decide_eq_true c14b1)) GW134.out)) | (dsimp only; exact Nat.ne_of_lt (Nat.lt_of_lt_of_le (HZ.out _ rfl (of_decide_eq_true c14b1)) GW134.out))) _).trans (((cell_far (p := ⟨gb134, _, none⟩) (by first | exact Nat.ne_of_lt (Nat.lt_of_lt_of_le (HZ.out _ rfl (of_decide_eq_true c14b1)) GW134.out) | (rw [add_block]; exact Nat.ne_of_lt (Nat.lt_of_lt_of_le (HZ.out _ rfl (of_decide_eq_true c14b1)) GW134.out)) | (show (Addr.add _ _).block ≠ _; rw [add_block]; exact Nat.ne_of_lt (Nat.lt_of_lt_of_le (HZ.out _ rfl (of_decide_eq_true c14b1)) GW134.out)) | (dsimp only; exact Nat.ne_of_lt (Nat.lt_of_lt_of_le (HZ.out _ rfl (of_decide_eq_true c14b1)) GW134.out))) _).trans (((cell_far (p := ⟨gb134, _, none⟩) (by first | exact Nat.ne_of_lt (Nat.lt_of_lt_of_le (HZ.out _ rfl (of_decide_eq_true c14b1)) GW134.out) | (rw [add_block]; exact Nat.ne_of_lt (Nat.lt_of_lt_of_le (HZ.out _ rfl (of_decide_eq_true c14b1)) GW134.out)) | (show (Addr.add _ _).block ≠ _; rw [add_block]; exact Nat.ne_of_lt (Nat.lt_of_lt_of_le (HZ.out _ rfl (of_decide_eq_true c14b1)) GW134.out)) | (dsimp only; exact Nat.ne_of_lt (Nat.lt_of_lt_of_le (HZ.out _ rfl (of_decide_eq_true c14b1)) GW134.out))) _).trans (((cell_far (p := ⟨gb134, _, none⟩) (by first | exact Nat.ne_of_lt (Nat.lt_of_lt_of_le (HZ.out _ rfl (of_decide_eq_true c14b1)) GW134.out) | (rw [add_block]; exact Nat.ne_of_lt (Nat.lt_of_lt_of_le (HZ.out _ rfl (of_decide_eq_true c14b1)) GW134.out)) | (show (Addr.add _ _).block ≠ _; rw [add_block]; exact Nat.ne_of_lt (Nat.lt_of_lt_of_le (HZ.out _ rfl (of_decide_eq_true c14b1)) GW134.out)) | (dsimp only; exact Nat.ne_of_lt (Nat.lt_of_lt_of_le (HZ.out _ rfl (of_decide_eq_true c14b1)) GW134.out))) _).trans (hHeld.1)))))))), ((cell_far (p := ⟨gb134, _, none⟩) (by first | exact Nat.ne_of_lt (Nat.lt_of_lt_of_le (HZ.out _ rfl (of_decide_eq_true c14b1)) GW134.out) | (rw [add_block]; exact Nat.ne_of_lt (Nat.lt_of_lt_of_le (HZ.out _ rfl (of_decide_eq_true c14b1)) GW134.out)) | (show (Addr.add _ _).block ≠ _; rw [add_block]; exact Nat.ne_of_lt (Nat.lt_of_lt_of_le (HZ.out _ rfl (of_decide_eq_true c14b1)) GW134.out)) | (dsimp only; exact Nat.ne_of_lt (Nat.lt_of_lt_of_le (HZ.out _ rfl (of_decide_eq_true c14b1)) GW134.out))) _).trans (((cell_far (p := ⟨gb134, _, none⟩) (by first | exact Nat.ne_of_lt (Nat.lt_of_lt_of_le (HZ.out _ rfl (of_decide_eq_true c14b1)) GW134.out) | (rw [add_block]; exact Nat.ne_of_lt (Nat.lt_of_lt_of_le (HZ.out _ rfl (of_decide_eq_true c14b1)) GW134.out)) | (show (Addr.add _ _).block ≠ _; rw [add_block]; exact Nat.ne_of_lt (Nat.lt_of_lt_of_le (HZ.out _ rfl (of_decide_eq_true c14b1)) GW134.out)) | (dsimp only; exact Nat.ne_of_lt (Nat.lt_of_lt_of_le (HZ.out _ rfl (of_decide_eq_true c14b1)) GW134.out))) _).trans (((cell_far (p := ⟨gb134, _, none⟩) (by first | exact Nat.ne_of_lt (Nat.lt_of_lt_of_le (HZ.out _ rfl (of_decide_eq_true c14b1)) GW134.out) | (rw [add_block]; exact Nat.ne_of_lt (Nat.lt_of_lt_of_le (HZ.out _ rfl (of_decide_eq_true c14b1)) GW134.out)) | (show (Addr.add _ _).block ≠ _; rw [add_block]; exact Nat.ne_of_lt (Nat.lt_of_lt_of_le (HZ.out _ rfl (of_decide_eq_true c14b1)) GW134.out)) | (dsimp only; exact Nat.ne_of_lt (Nat.lt_of_lt_of_le (HZ.out _ rfl (of_decide_eq_true c14b1)) GW134.out))) _).trans (((cell_far (p := ⟨gb134, _, none⟩) (by first | exact Nat.ne_of_lt (Nat.lt_of_lt_of_le (HZ.out _ rfl (of_decide_eq_true c14b1)) GW134.out) | (rw [add_block]; exact Nat.ne_of_lt (Nat.lt_of_lt_of_le (HZ.out _ rfl (of_decide_eq_true c14b1)) GW134.out)) | (show (Addr.add _ _).block ≠ _; rw [add_block]; exact Nat.ne_of_lt (Nat.lt_of_lt_of_le (HZ.out _ rfl (of_decide_eq_true c14b1)) GW134.out)) | (dsimp only; exact Nat.ne_of_lt (Nat.lt_of_lt_of_le (HZ.out _ rfl (of_decide_eq_true c14b1)) GW134.out))) _).trans (hHeld.2))))))))⟩ (fun hHeld => ?_)
                    clear hK K
                    refine done_ (done_of HT_.out (by kernel_rfl)) ?_
                    have n0_ : Aside0 (Kd.V (Kd.int .u8) 5 ((((w35.setCell ⟨gb134, 0, none⟩ (.int .i64 (wrap64 (rd l1 0)))).setCell ⟨gb134, 1, none⟩ (.int .i64 (wrap64 (rd l1 1)))).setCell ⟨gb134, 2, none⟩ (.int .u64 0)).setCell ⟨gb134, 3, none⟩ (.slice Ao36 t131.length co36)) w.heap.size (fun k_ => (P1_ k_ ∨ w.heap.size ≤ k_) ∧ some k_ ≠ (.slice Ao27 y112.length co27 : Value).ownBlock ∧ some k_ ≠ (.slice Ao29 t115.length co29 : Value).ownBlock ∧ some k_ ≠ (.slice Ao36 t131.length co36 : Value).ownBlock ∧ k_ ≠ gb106 ∧ k_ ≠ gb134) (.slice (some ad124) l1.length c1) l1) := ⟨by (with_reducible repeat (first | apply Kd.V_alloc | apply Kd.V_drewN | apply Kd.V_drew)); exact Kd.V_mono (Kd.V_far (p := ⟨gb134, 3, none⟩) (Kd.V_far (p := ⟨gb134, 2, none⟩) (Kd.V_far (p := ⟨gb134, 1, none⟩) (Kd.V_far (p := ⟨gb134, 0, none⟩) (Kd.V_mono HO1.out (fun k_ hk => (⟨hk, hk.2.2.2.2.2⟩ : _ ∧ k_ ≠ gb134))) (fun _ hk => by first | exact hk.2 | (simp only [hk, ne_eq, not_false_eq_true, and_self])) (.int .i64 (wrap64 (rd l1 0)))) (fun _ hk => by first | exact hk.2 | (simp only [hk, ne_eq, not_false_eq_true, and_self])) (.int .i64 (wrap64 (rd l1 1)))) (fun _ hk => by first | exact hk.2 | (simp only [hk, ne_eq, not_false_eq_true, and_self])) (.int .u64 0)) (fun _ hk => by first | exact hk.2 | (simp only [hk, ne_eq, not_false_eq_true, and_self])) (.slice Ao36 t131.length co36)) (fun _ hk => by first | exact ⟨hk.1.1, ⟨hk.1.2.1, ⟨hk.1.2.2.1, ⟨hk.1.2.2.2.1, ⟨hk.1.2.2.2.2.1, hk.1.2.2.2.2.2⟩⟩⟩⟩⟩ | (simp only [hk, ne_eq, not_false_eq_true, and_self]))⟩
                    have n1_ : Aside0 (Kd.V (Kd.int .u8) 5 ((((w35.setCell ⟨gb134, 0, none⟩ (.int .i64 (wrap64 (rd l1 0)))).setCell ⟨gb134, 1, none⟩ (.int .i64 (wrap64 (rd l1 1)))).setCell ⟨gb134, 2, none⟩ (.int .u64 0)).setCell ⟨gb134, 3, none⟩ (.slice Ao36 t131.length co36)) w.heap.size (fun k_ => (P1_ k_ ∨ w.heap.size ≤ k_) ∧ some k_ ≠ (.slice Ao27 y112.length co27 : Value).ownBlock ∧ some k_ ≠ (.slice Ao29 t115.length co29 : Value).ownBlock ∧ some k_ ≠ (.slice Ao36 t131.length co36 : Value).ownBlock ∧ k_ ≠ gb106 ∧ k_ ≠ gb134) (.slice (some ad124) y107.length c1) y107) := ⟨by (with_reducible repeat (first | apply Kd.V_alloc | apply Kd.V_drewN | apply Kd.V_drew)); exact Kd.V_mono (Kd.V_far (p := ⟨gb134, 3, none⟩) (Kd.V_far (p := ⟨gb134, 2, none⟩) (Kd.V_far (p := ⟨gb134, 1, none⟩) (Kd.V_far (p := ⟨gb134, 0, none⟩) (Kd.V_mono HO111.out (fun k_ hk => (⟨hk, hk.2.2.2.2.2⟩ : _ ∧ k_ ≠ gb134))) (fun _ hk => by first | exact hk.2 | (simp only [hk, ne_eq, not_false_eq_true, and_self])) (.int .i64 (wrap64 (rd l1 0)))) (fun _ hk => by first | exact hk.2 | (simp only [hk, ne_eq, not_false_eq_true, and_self])) (.int .i64 (wrap64 (rd l1 1)))) (fun _ hk => by first | exact hk.2 | (simp only [hk, ne_eq, not_false_eq_true, and_self])) (.int .u64 0)) (fun _ hk => by first | exact hk.2 | (simp only [hk, ne_eq, not_false_eq_true, and_self])) (.slice Ao36 t131.length co36)) (fun _ hk => by first | exact ⟨hk.1.1, ⟨hk.1.2.1, ⟨hk.1.2.2.1, ⟨hk.1.2.2.2.1, ⟨hk.1.2.2.2.2.1, hk.1.2.2.2.2.2⟩⟩⟩⟩⟩ | (simp only [hk, ne_eq, not_false_eq_true, and_self]))⟩
                    have n2_ : Aside0 (Kd.V (Kd.int .u8) 5 ((((w35.setCell ⟨gb134, 0, none⟩ (.int .i64 (wrap64 (rd l1 0)))).setCell ⟨gb134, 1, none⟩ (.int .i64 (wrap64 (rd l1 1)))).setCell ⟨gb134, 2, none⟩ (.int .u64 0)).setCell ⟨gb134, 3, none⟩ (.slice Ao36 t131.length co36)) w.heap.size (fun k_ => (P1_ k_ ∨ w.heap.size ≤ k_) ∧ some k_ ≠ (.slice Ao27 y112.length co27 : Value).ownBlock ∧ some k_ ≠ (.slice Ao29 t115.length co29 : Value).ownBlock ∧ some k_ ≠ (.slice Ao36 t131.length co36 : Value).ownBlock ∧ k_ ≠ gb106 ∧ k_ ≠ gb134) (.slice A24 y118.length c24) y118) := ⟨by (with_reducible repeat (first | apply Kd.V_alloc | apply Kd.V_drewN | apply Kd.V_drew)); exact Kd.V_mono (Kd.V_far (p := ⟨gb134, 3, none⟩) (Kd.V_far (p := ⟨gb134, 2, none⟩) (Kd.V_far (p := ⟨gb134, 1, none⟩) (Kd.V_far (p := ⟨gb134, 0, none⟩) (Kd.V_mono HO122.out (fun k_ hk => (⟨hk, hk.2.2.2.2.2⟩ : _ ∧ k_ ≠ gb134))) (fun _ hk => by first | exact hk.2 | (simp only [hk, ne_eq, not_false_eq_true, and_self])) (.int .i64 (wrap64 (rd l1 0)))) (fun _ hk => by first | exact hk.2 | (simp only [hk, ne_eq, not_false_eq_true, and_self])) (.int .i64 (wrap64 (rd l1 1)))) (fun _ hk => by first | exact hk.2 | (simp only [hk, ne_eq, not_false_eq_true, and_self])) (.int .u64 0)) (fun _ hk => by first | exact hk.2 | (simp only [hk, ne_eq, not_false_eq_true, and_self])) (.slice Ao36 t131.length co36)) (fun _ hk => by first | exact ⟨hk.1.1, ⟨hk.1.2.1, ⟨hk.1.2.2.1, ⟨hk.1.2.2.2.1, ⟨hk.1.2.2.2.2.1, hk.1.2.2.2.2.2⟩⟩⟩⟩⟩ | (simp only [hk, ne_eq, not_false_eq_true, and_self]))⟩
                    have n3_ : Aside0 (Kd.N (Kd.slice 5 (Kd.int .u8)) 32 ((((w35.setCell ⟨gb134, 0, none⟩ (.int .i64 (wrap64 (rd l1 0)))).setCell ⟨gb134, 1, none⟩ (.int .i64 (wrap64 (rd l1 1)))).setCell ⟨gb134, 2, none⟩ (.int .u64 0)).setCell ⟨gb134, 3, none⟩ (.slice Ao36 t131.length co36)) w.heap.size (fun k_ => (P1_ k_ ∨ w.heap.size ≤ k_) ∧ some k_ ≠ (.slice Ao29 t115.length co29 : Value).ownBlock ∧ some k_ ≠ (.slice Ao36 t131.length co36 : Value).ownBlock ∧ k_ ≠ gb106 ∧ k_ ≠ gb134) (.slice Ao27 y112.length co27) y112) := ⟨by (with_reducible repeat (first | apply Kd.N_alloc | apply Kd.N_drewN | apply Kd.N_drew)); exact Kd.N_mono (Kd.N_far (p := ⟨gb134, 3, none⟩) (Kd.N_far (p := ⟨gb134, 2, none⟩) (Kd.N_far (p := ⟨gb134, 1, none⟩) (Kd.N_far (p := ⟨gb134, 0, none⟩) (Kd.N_mono HO114.out (fun k_ hk => (⟨hk, hk.2.2.2.2⟩ : _ ∧ k_ ≠ gb134))) (fun _ hk => by first | exact hk.2 | (simp only [hk, ne_eq, not_false_eq_true, and_self])) (.int .i64 (wrap64 (rd l1 0)))) (fun _ hk => by first | exact hk.2 | (simp only [hk, ne_eq, not_false_eq_true, and_self])) (.int .i64 (wrap64 (rd l1 1)))) (fun _ hk => by first | exact hk.2 | (simp only [hk, ne_eq, not_false_eq_true, and_self])) (.int .u64 0)) (fun _ hk => by first | exact hk.2 | (simp only [hk, ne_eq, not_false_eq_true, and_self])) (.slice Ao36 t131.length co36)) (fun _ hk => by first | exact ⟨hk.1.1, ⟨hk.1.2.1, ⟨hk.1.2.2.1, ⟨hk.1.2.2.2.1, hk.1.2.2.2.2⟩⟩⟩⟩ | (simp only [hk, ne_eq, not_false_eq_true, and_self]))⟩
                    have n4_ : Aside0 (Kd.R (Kd.int .u8) 5 ((((w35.setCell ⟨gb134, 0, none⟩ (.int .i64 (wrap64 (rd l1 0)))).setCell ⟨gb134, 1, none⟩ (.int .i64 (wrap64 (rd l1 1)))).setCell ⟨gb134, 2, none⟩ (.int .u64 0)).setCell ⟨gb134, 3, none⟩ (.slice Ao36 t131.length co36)) w.heap.size (fun k_ => (w.heap.size ≤ k_) ∧ some k_ ≠ (.slice Ao36 t131.length co36 : Value).ownBlock) (.slice Ao29 t115.length co29) t115) := ⟨by (with_reducible repeat (first | apply Kd.R_alloc | apply Kd.R_drewN | apply Kd.R_drew)); exact Kd.R_mono (Kd.R_far (p := ⟨gb134, 3, none⟩) (Kd.R_far (p := ⟨gb134, 2, none⟩) (Kd.R_far (p := ⟨gb134, 1, none⟩) (Kd.R_far (p := ⟨gb134, 0, none⟩) (Kd.R_types HO117.out BK134.out (by decide)) (fun _ hk => by first | exact hk.2 | (simp only [hk, ne_eq, not_false_eq_true, and_self])) (.int .i64 (wrap64 (rd l1 0)))) (fun _ hk => by first | exact hk.2 | (simp only [hk, ne_eq, not_false_eq_true, and_self])) (.int .i64 (wrap64 (rd l1 1)))) (fun _ hk => by first | exact hk.2 | (simp only [hk, ne_eq, not_false_eq_true, and_self])) (.int .u64 0)) (fun _ hk => by first | exact hk.2 | (simp only [hk, ne_eq, not_false_eq_true, and_self])) (.slice Ao36 t131.length co36)) (fun _ hk => by first | exact ⟨hk.1.1, hk.1.2⟩ | (simp only [hk, ne_eq, not_false_eq_true, and_self]))⟩
                    have n5_ : Aside0 (Kd.V (Kd.int .u8) 5 ((((w35.setCell ⟨gb134, 0, none⟩ (.int .i64 (wrap64 (rd l1 0)))).setCell ⟨gb134, 1, none⟩ (.int .i64 (wrap64 (rd l1 1)))).setCell ⟨gb134, 2, none⟩ (.int .u64 0)).setCell ⟨gb134, 3, none⟩ (.slice Ao36 t131.length co36)) w.heap.size (fun k_ => (P1_ k_ ∨ w.heap.size ≤ k_) ∧ some k_ ≠ (.slice Ao27 y112.length co27 : Value).ownBlock ∧ some k_ ≠ (.slice Ao29 t115.length co29 : Value).ownBlock ∧ some k_ ≠ (.slice Ao36 t131.length co36 : Value).ownBlock ∧ k_ ≠ gb106 ∧ k_ ≠ gb134) (.slice A31 y126.length c31) y126) := ⟨by (with_reducible repeat (first | apply Kd.V_alloc | apply Kd.V_drewN | apply Kd.V_drew)); exact Kd.V_mono (Kd.V_far (p := ⟨gb134, 3, none⟩) (Kd.V_far (p := ⟨gb134, 2, none⟩) (Kd.V_far (p := ⟨gb134, 1, none⟩) (Kd.V_far (p := ⟨gb134, 0, none⟩) (Kd.V_mono HO130.out (fun k_ hk => (⟨hk, hk.2.2.2.2.2⟩ : _ ∧ k_ ≠ gb134))) (fun _ hk => by first | exact hk.2 | (simp only [hk, ne_eq, not_false_eq_true, and_self])) (.int .i64 (wrap64 (rd l1 0)))) (fun _ hk => by first | exact hk.2 | (simp only [hk, ne_eq, not_false_eq_true, and_self])) (.int .i64 (wrap64 (rd l1 1)))) (fun _ hk => by first | exact hk.2 | (simp only [hk, ne_eq, not_false_eq_true, and_self])) (.int .u64 0)) (fun _ hk => by first | exact hk.2 | (simp only [hk, ne_eq, not_false_eq_true, and_self])) (.slice Ao36 t131.length co36)) (fun _ hk => by first | exact ⟨hk.1.1, ⟨hk.1.2.1, ⟨hk.1.2.2.1, ⟨hk.1.2.2.2.1, ⟨hk.1.2.2.2.2.1, hk.1.2.2.2.2.2⟩⟩⟩⟩⟩ | (simp only [hk, ne_eq, not_false_eq_true, and_self]))⟩
                    have n6_ : Aside0 (Kd.R (Kd.int .u8) 5 ((((w35.setCell ⟨gb134, 0, none⟩ (.int .i64 (wrap64 (rd l1 0)))).setCell ⟨gb134, 1, none⟩ (.int .i64 (wrap64 (rd l1 1)))).setCell ⟨gb134, 2, none⟩ (.int .u64 0)).setCell ⟨gb134, 3, none⟩ (.slice Ao36 t131.length co36)) w.heap.size (fun k_ => (w.heap.size ≤ k_) ∧ some k_ ≠ (.slice Ao29 t115.length co29 : Value).ownBlock) (.slice Ao36 t131.length co36) t131) := ⟨by (with_reducible repeat (first | apply Kd.R_alloc | apply Kd.R_drewN | apply Kd.R_drew)); exact Kd.R_mono (Kd.R_far (p := ⟨gb134, 3, none⟩) (Kd.R_far (p := ⟨gb134, 2, none⟩) (Kd.R_far (p := ⟨gb134, 1, none⟩) (Kd.R_far (p := ⟨gb134, 0, none⟩) (Kd.R_types HO133.out BK134.out (by decide)) (fun _ hk => by first | exact hk.2 | (simp only [hk, ne_eq, not_false_eq_true, and_self])) (.int .i64 (wrap64 (rd l1 0)))) (fun _ hk => by first | exact hk.2 | (simp only [hk, ne_eq, not_false_eq_true, and_self])) (.int .i64 (wrap64 (rd l1 1)))) (fun _ hk => by first | exact hk.2 | (simp only [hk, ne_eq, not_false_eq_true, and_self])) (.int .u64 0)) (fun _ hk => by first | exact hk.2 | (simp only [hk, ne_eq, not_false_eq_true, and_self])) (.slice Ao36 t131.length co36)) (fun _ hk => by first | exact ⟨hk.1.1, hk.1.2⟩ | (simp only [hk, ne_eq, not_false_eq_true, and_self]))⟩
                    have n7_ : Aside0 (((((w35.setCell ⟨gb134, 0, none⟩ (.int .i64 (wrap64 (rd l1 0)))).setCell ⟨gb134, 1, none⟩ (.int .i64 (wrap64 (rd l1 1)))).setCell ⟨gb134, 2, none⟩ (.int .u64 0)).setCell ⟨gb134, 3, none⟩ (.slice Ao36 t131.length co36)).heap[gb106]? = some (.cells #[.int .i64 0, .int .i64 0, .int .u64 0, .slice none 0 0] 34 (0, 0))) := ⟨by (with_reducible repeat (first | refine blk_drewN ?_ _ | refine blk_drew ?_ | refine blk_alloc ?_ _)); refine blk_far ?_ NB106_134.out _; (with_reducible repeat (first | refine blk_drewN ?_ _ | refine blk_drew ?_ | refine blk_alloc ?_ _)); refine blk_far ?_ NB106_134.out _; (with_reducible repeat (first | refine blk_drewN ?_ _ | refine blk_drew ?_ | refine blk_alloc ?_ _)); refine blk_far ?_ NB106_134.out _; (with_reducible repeat (first | refine blk_drewN ?_ _ | refine blk_drew ?_ | refine blk_alloc ?_ _)); refine blk_far ?_ NB106_134.out _; (with_reducible repeat (first | refine blk_drewN ?_ _ | refine blk_drew ?_ | refine blk_alloc ?_ _)); exact BK106.out⟩
                    have n8_ : Aside0 (((((w35.setCell ⟨gb134, 0, none⟩ (.int .i64 (wrap64 (rd l1 0)))).setCell ⟨gb134, 1, none⟩ (.int .i64 (wrap64 (rd l1 1)))).setCell ⟨gb134, 2, none⟩ (.int .u64 0)).setCell ⟨gb134, 3, none⟩ (.slice Ao36 t131.length co36)).heap[gb134]? = some (.cells #[.int .i64 (wrap64 (rd l1 0)), .int .i64 (wrap64 (rd l1 1)), .int .u64 0, .slice Ao36 t131.length co36] 34 (0, 0))) := ⟨by (with_reducible repeat (first | refine blk_drewN ?_ _ | refine blk_drew ?_ | refine blk_alloc ?_ _)); refine blk_put (cs := #[.int .i64 (wrap64 (rd l1 0)), .int .i64 (wrap64 (rd l1 1)), .int .u64 0, .slice none 0 0]) ?_ 3 _ rfl; (with_reducible repeat (first | refine blk_drewN ?_ _ | refine blk_drew ?_ | refine blk_alloc ?_ _)); refine blk_put (cs := #[.int .i64 (wrap64 (rd l1 0)), .int .i64 (wrap64 (rd l1 1)), .int .u64 0, .slice none 0 0]) ?_ 2 _ rfl; (with_reducible repeat (first | refine blk_drewN ?_ _ | refine blk_drew ?_ | refine blk_alloc ?_ _)); refine blk_put (cs := #[.int .i64 (wrap64 (rd l1 0)), .int .i64 0, .int .u64 0, .slice none 0 0]) ?_ 1 _ rfl; (with_reducible repeat (first | refine blk_drewN ?_ _ | refine blk_drew ?_ | refine blk_alloc ?_ _)); refine blk_put (cs := #[.int .i64 0, .int .i64 0, .int .u64 0, .slice none 0 0]) ?_ 0 _ rfl; (with_reducible repeat (first | refine blk_drewN ?_ _ | refine blk_drew ?_ | refine blk_alloc ?_ _)); exact BK134.out⟩
                    have n9_ : Aside0 (Below w.heap.size w ((((w35.setCell ⟨gb134, 0, none⟩ (.int .i64 (wrap64 (rd l1 0)))).setCell ⟨gb134, 1, none⟩ (.int .i64 (wrap64 (rd l1 1)))).setCell ⟨gb134, 2, none⟩ (.int .u64 0)).setCell ⟨gb134, 3, none⟩ (.slice Ao36 t131.length co36))) := ⟨by repeat (first | (with_reducible first | exact HB.out | apply below_alloc | apply pw_below_drewN | apply below_drew1 | refine below_set ?_ GE106.out | refine below_set ?_ GE134.out) | exact HB.out)⟩
                    (try clear HO1)
                    (try clear HO111)
                    (try clear HO122)
                    (try clear HO114)
                    (try clear HO117)
                    (try clear HO130)
                    (try clear HO133)
                    (try clear BK106)
                    (try clear BK134)
                    (try clear HB)
                    generalize ((((w35.setCell ⟨gb134, 0, none⟩ (.int .i64 (wrap64 (rd l1 0)))).setCell ⟨gb134, 1, none⟩ (.int .i64 (wrap64 (rd l1 1)))).setCell ⟨gb134, 2, none⟩ (.int .u64 0)).setCell ⟨gb134, 3, none⟩ (.slice Ao36 t131.length co36)) = w41 at n0_ n1_ n2_ n3_ n4_ n5_ n6_ n7_ n8_ n9_ ⊢
                    have HO1 := n0_
                    have HO111 := n1_
                    have HO122 := n2_
                    have HO114 := n3_
                    have HO117 := n4_
                    have HO130 := n5_
                    have HO133 := n6_
                    have BK106 := n7_
                    have BK134 := n8_
                    have HB := n9_
                    clear n0_ n1_ n2_ n3_ n4_ n5_ n6_ n7_ n8_ n9_
                    have q42 : (10 : Int) ≤ ((l1.length : Int) : Int) := of_decide_eq_true (by first | (with_reducible assumption) | assumption)
                    obtain ⟨i042, hi042, _, hsz42, _⟩ := info_parts info5
                    have hroom42 : l1.length ≤ c1 := (Kd.V_reads' HO1.out).2.1
                    have hC42 : Kd.F (Kd.int .u8) _ _ (some ad124) l1.length l1 := (Kd.V_at (base := w.heap.size) HO1.out).2.2
                    have ql42 : (2 : Int) ≤ (10 : Int) := (by omega)
                    have hcut42 := cut_mid (P := Tryd.prog) 32 5 .i64 .i64 Tryd.underlying32 hi042 1 hsz42 (some ad124) l1.length c1 2 10 (by omega) ql42 q42 hroom42
                    have hr42 := Kd.F_mid (lo := (2 : Int).toNat) (hi := (10 : Int).toNat) (c := c1) hC42 (by omega) (by omega) hroom42
                    obtain ⟨A42, hA42⟩ : ∃ Az_, Az_ = (if c1 = (2 : Int).toNat then (some ad124) else ((some ad124) : Option Addr).map (·.add ((2 : Int).toNat * 1))) := ⟨_, rfl⟩
                    obtain ⟨c42, hc42⟩ : ∃ cz_, cz_ = c1 - (2 : Int).toNat := ⟨_, rfl⟩
                    have hy42 : y135.length = (10 : Int).toNat - (2 : Int).toNat := (by rw [Ny135.out, List.length_drop, List.length_take] <;> omega)
                    rw [show ((l1).take (10 : Int).toNat).drop (2 : Int).toNat = y135 from Ny135.out.symm] at hr42
                    replace hr42 : Kd.F (Kd.int .u8) _ _ A42 y135.length y135 := (by rw [hA42]; exact hr42)
                    rw [← hy42, ← hA42, ← hc42] at hcut42
                    have HO139 := Aside0.mk (show Kd.V (Kd.int .u8) 5 _ w.heap.size _ (.slice A42 y135.length c42) y135 from Kd.V_mk (by rw [hy42, hc42]; exact Nat.sub_le_sub_right (Nat.le_trans (by omega) hroom42) _) hr42)
                    have HC139 := Aside0.mk (show y135.length ≤ c42 from by rw [hy42, hc42]; exact Nat.sub_le_sub_right (Nat.le_trans (by omega) hroom42) _)
                    clear hr42 hC42 hroom42 hi042 hsz42 hc42
                    have KY42 := Aside0.mk hy42
                    have KA42 := Aside0.mk hA42
                    clear hy42 hA42
                    replace q42 := eq_true q42
                    try go_wp2
                    go_loopg [46] k (fun kq v46 w' => ∃ (x46_1 : Int) (x135002_1 : Int), v46 = .int .i64 x46_1 ∧ Aside0 (pkt_Open.l0 kq y135 (y135.length : Int) x46_1 (wrap64 (rd l1 0)) (wrap64 (rd l1 1)) x135002_1 t131 = some (r1, r2, r3, r4, r5)) ∧ Aside0 (kq ≤ k) ∧ Aside0 (Kd.V (Kd.int .u8) 5 w' w.heap.size (fun k_ => (P1_ k_ ∨ w.heap.size ≤ k_) ∧ some k_ ≠ ((.slice Ao36 t131.length co36) : Value).ownBlock ∧ k_ ≠ gb106 ∧ k_ ≠ gb134) (.slice A42 y135.length c42) y135) ∧ Aside0 (Kd.R (Kd.int .u8) 5 w' w.heap.size (fun k_ => (w.heap.size ≤ k_)) (.slice Ao36 t131.length co36) t131) ∧ Aside0 (w'.heap[gb106]? = some (.cells #[.int .i64 0, .int .i64 0, .int .u64 0, (.slice none 0 0)] 34 (0, 0))) ∧ Aside0 (w'.heap[gb134]? = some (.cells #[.int .i64 (wrap64 (rd l1 0)), .int .i64 (wrap64 (rd l1 1)), .int .u64 x135002_1, (.slice Ao36 t131.length co36)] 34 (0, 0))) ∧ Aside0 (Below w.heap.size w w'))
                    case atStart => exact ⟨(0), (0), (by first | rfl | (simp; done) | (simp [*]; done)), H', ⟨Nat.le_refl _⟩, ⟨by (with_reducible repeat (first | apply Kd.V_alloc | apply Kd.V_drewN | apply Kd.V_drew)); exact Kd.V_mono HO139.out (fun _ hk => by first | exact ⟨hk.1, ⟨hk.2.2.2.1, ⟨hk.2.2.2.2.1, hk.2.2.2.2.2⟩⟩⟩ | (simp only [hk, ne_eq, not_false_eq_true, and_self]))⟩, ⟨by (with_reducible repeat (first | apply Kd.R_alloc | apply Kd.R_drewN | apply Kd.R_drew)); exact Kd.R_mono HO133.out (fun _ hk => by first | exact hk.1 | (simp only [hk, ne_eq, not_false_eq_true, and_self]))⟩, ⟨by (with_reducible repeat (first | refine blk_drewN ?_ _ | refine blk_drew ?_ | refine blk_alloc ?_ _)); exact BK106.out⟩, ⟨by (with_reducible repeat (first | refine blk_drewN ?_ _ | refine blk_drew ?_ | refine blk_alloc ?_ _)); exact BK134.out⟩, ⟨by repeat (first | (with_reducible first | exact HB.out | apply below_alloc | apply pw_below_drewN | apply below_drew1 | refine below_set ?_ GE106.out | refine below_set ?_ GE134.out) | exact HB.out)⟩⟩
                    case round =>
                      clear H'
                      try clear c1
                      try clear p1
                      try clear q1
                      try clear hx1
                      try clear qi1
                      try clear c2
                      try clear p2
                      try clear c3
                      try clear q3
                      try clear c4
                      try clear q4
                      try clear p6
                      try clear p12
                      try clear q12
                      try clear hx12
                      try clear qi12
                      try clear c24
                      try clear c31
                      try clear q31
                      try clear c38
                      try clear c40
                      try clear c41
                      try clear c42
                      try clear q42
                      try clear hx124_0
                      try clear hx125_0
                      try clear p124
                      try clear p125
                      try clear q124
                      try clear q125
                      try clear q31
                      try clear q42
                      obtain ⟨x46_1, x135002_1, rfl, HA, HK1, HO_44, HO_135003, BK106, BK134, HB⟩ := hrel
                      cases gk with
                      | zero => exact absurd HA.out (by simp [pkt_Open.l0])
                      | succ k1 =>
                        have H := HA.out
                        clear HA
                        simp only [pkt_Open.l0] at H
                        by_cases c43 : x46_1 < (y135.length : Int)
                        · rw [if_pos c43] at H
                          have c43b0 : decide (x46_1 < (y135.length : Int)) = true := decide_eq_true c43
                          clear c43
                          by_cases c44 : 0 ≤ x46_1
                          · rw [if_pos c44] at H
                            have c44b0 : decide (0 ≤ x46_1) = true := decide_eq_true c44
                            clear c44
                            by_cases c45 : x46_1 < (y135.length : Int)
                            · rw [if_pos c45] at H
                              have c45b0 : decide (x46_1 < (y135.length : Int)) = true := decide_eq_true c45
                              clear c45
                              have H' := Aside0.mk H
                              clear H
                              have p140 : 0 ≤ (x46_1 : Int) := of_decide_eq_true (by first | (with_reducible assumption) | assumption)
                              have q140 : x46_1 < (y135.length : Int) := of_decide_eq_true (by first | (with_reducible assumption) | assumption)
                              obtain ⟨ad140, e140, hx140_0⟩ := Kd.at_int (Kd.V_reads' HO_44.out).2.2 x46_1 p140 q140
                              cases e140
                              replace p140 := eq_true p140
                              replace q140 := eq_true q140
                              have hnb46 := NB134_106.out
                              have hnc46 := NB106_134.out
                              have hcz47_0 : wr.cell? ⟨gb134, 0, none⟩ = some (.int .i64 (wrap64 (rd l1 0))) := (blk_cell BK134.out 0).trans rfl
                              have hcz47_1 : wr.cell? ⟨gb134, 1, none⟩ = some (.int .i64 (wrap64 (rd l1 1))) := (blk_cell BK134.out 1).trans rfl
                              have hcz47_2 : wr.cell? ⟨gb134, 2, none⟩ = some (.int .u64 x135002_1) := (blk_cell BK134.out 2).trans rfl
                              have hcz47_3 : wr.cell? ⟨gb134, 3, none⟩ = some (.slice Ao36 t131.length co36) := (blk_cell BK134.out 3).trans rfl
                              have hfz47_0 := blk_frozen BK134.out 0
                              have hfz47_1 := blk_frozen BK134.out 1
                              have hfz47_2 := blk_frozen BK134.out 2
                              have hfz47_3 := blk_frozen BK134.out 3
                              go_wp2
                              go_roundg k1
                              case measure => have := HK1.out; omega
                              case rel => exact ⟨(wrap64 (x46_1 + 1)), (Go.bits .or .u64 (IntKind.u64.wrap (x135002_1 * 256)) (IntKind.u64.wrap (rd y135 x46_1))), (by first | rfl | (simp; done) | (simp [*]; done)), H', ⟨by have := HK1.out; omega⟩, ⟨by (with_reducible repeat (first | apply Kd.V_alloc | apply Kd.V_drewN | apply Kd.V_drew)); exact Kd.V_mono (Kd.V_far (p := ⟨gb134, 2, none⟩) (Kd.V_mono HO_44.out (fun k_ hk => (⟨hk, hk.2.2.2⟩ : _ ∧ k_ ≠ gb134))) (fun _ hk => by first | exact hk.2 | (simp only [hk, ne_eq, not_false_eq_true, and_self])) (.int .u64 (Go.bits .or .u64 (IntKind.u64.wrap (x135002_1 * 256)) (IntKind.u64.wrap (rd y135 x46_1))))) (fun _ hk => by first | exact ⟨hk.1.1, ⟨hk.1.2.1, ⟨hk.1.2.2.1, hk.1.2.2.2⟩⟩⟩ | (simp only [hk, ne_eq, not_false_eq_true, and_self]))⟩, ⟨by (with_reducible repeat (first | apply Kd.R_alloc | apply Kd.R_drewN | apply Kd.R_drew)); exact Kd.R_mono (Kd.R_far (p := ⟨gb134, 2, none⟩) (Kd.R_types HO_135003.out BK134.out (by decide)) (fun _ hk => by first | exact hk.2 | (simp only [hk, ne_eq, not_false_eq_true, and_self])) (.int .u64 (Go.bits .or .u64 (IntKind.u64.wrap (x135002_1 * 256)) (IntKind.u64.wrap (rd y135 x46_1))))) (fun _ hk => by first | exact hk.1 | (simp only [hk, ne_eq, not_false_eq_true, and_self]))⟩, ⟨by (with_reducible repeat (first | refine blk_drewN ?_ _ | refine blk_drew ?_ | refine blk_alloc ?_ _)); refine blk_far ?_ NB106_134.out _; (with_reducible repeat (first | refine blk_drewN ?_ _ | refine blk_drew ?_ | refine blk_alloc ?_ _)); exact BK106.out⟩, ⟨by (with_reducible repeat (first | refine blk_drewN ?_ _ | refine blk_drew ?_ | refine blk_alloc ?_ _)); refine blk_put (cs := #[.int .i64 (wrap64 (rd l1 0)), .int .i64 (wrap64 (rd l1 1)), .int .u64 x135002_1, .slice Ao36 t131.length co36]) ?_ 2 _ rfl; (with_reducible repeat (first | refine blk_drewN ?_ _ | refine blk_drew ?_ | refine blk_alloc ?_ _)); exact BK134.out⟩, ⟨by repeat (first | (with_reducible first | exact HB.out | apply below_alloc | apply pw_below_drewN | apply below_drew1 | refine below_set ?_ GE106.out | refine below_set ?_ GE134.out) | exact HB.out)⟩⟩
                            · rw [if_neg c45] at H
                              exact absurd H (by simp)
                          · rw [if_neg c44] at H
                            exact absurd H (by simp)
                        · rw [if_neg c43] at H
                          have c43b0 : decide (x46_1 < (y135.length : Int)) = false := decide_eq_false c43
                          clear c43
                          replace H := Option.bind_eq_some_iff.mp H
                          obtain ⟨t141, A480, H⟩ := H
                          replace H : (if t141 = true then (some ((wrap64 (rd l1 0)), (wrap64 (rd l1 1)), x135002_1, t131, 0)) else (some (0, 0, 0, ([] : List Int), 2))) = some (r1, r2, r3, r4, r5) := H
                          have A48 := Aside0.mk A480
                          clear A480
                          by_cases c49 : t141 = true
                          · subst c49
                            have H1 : (some ((wrap64 (rd l1 0)), (wrap64 (rd l1 1)), x135002_1, t131, 0)) = some (r1, r2, r3, r4, r5) := by rw [if_pos rfl] at H; exact H
                            clear H
                            have H := H1
                            clear H1
                            simp only [Option.some.injEq, Prod.mk.injEq] at H
                            obtain ⟨rfl, rfl, rfl, rfl, rfl⟩ := H
                            have hnb50 := NB134_106.out
                            have hnc50 := NB106_134.out
                            have hcz51_0 : wr.cell? ⟨gb134, 0, none⟩ = some (.int .i64 (wrap64 (rd l1 0))) := (blk_cell BK134.out 0).trans rfl
                            have hcz51_1 : wr.cell? ⟨gb134, 1, none⟩ = some (.int .i64 (wrap64 (rd l1 1))) := (blk_cell BK134.out 1).trans rfl
                            have hcz51_2 : wr.cell? ⟨gb134, 2, none⟩ = some (.int .u64 x135002_1) := (blk_cell BK134.out 2).trans rfl
                            have hcz51_3 : wr.cell? ⟨gb134, 3, none⟩ = some (.slice Ao36 t131.length co36) := (blk_cell BK134.out 3).trans rfl
                            have hfz51_0 := blk_frozen BK134.out 0
                            have hfz51_1 := blk_frozen BK134.out 1
                            have hfz51_2 := blk_frozen BK134.out 2
                            have hfz51_3 := blk_frozen BK134.out 3
                            go_wp2_with (first | ((with_reducible refine gate_callee (f := 22) rfl ?_); refine goesL_ (some 59) rfl rfl Tryd.func22 (by kernel_rfl) rfl #[.agg #[.int .i64 (wrap64 (rd l1 0)), .int .i64 (wrap64 (rd l1 1)), .int .u64 x135002_1, .slice Ao36 t131.length co36]] rfl (by (try simp only [List.map_toArray, List.map_cons, List.map_nil]); first | done | rfl | (simp only [List.length_drop, List.length_take]; rfl)) ?_; (with_reducible refine (pkt_May.calls (wrap64 (rd l1 0)) (wrap64 (rd l1 1)) x135002_1 _ _ t131 true _ ?side1 ?side2 A48.out).mono ?_); (case side1 => repeat (first | exact (Kd.R_reads' HO_135003.out).2.2 | (with_reducible refine Kd.C_alloc ?_ _) | (with_reducible refine Kd.C_drewN ?_ _) | (with_reducible refine Kd.C_drew ?_))); (case side2 => exact (Kd.R_reads' HO_135003.out).2.1); rintro e w52 ⟨rfl, hb⟩; refine ⟨_, rfl, ?_⟩; have n0_ := Aside0.mk (Kd.V_below (by (with_reducible repeat (first | apply Kd.V_alloc | apply Kd.V_drewN | apply Kd.V_drew)); exact HO_44.out) hb); have n1_ := Aside0.mk (Kd.R_below (by (with_reducible repeat (first | apply Kd.R_alloc | apply Kd.R_drewN | apply Kd.R_drew)); exact HO_135003.out) hb); have n2_ := Aside0.mk (blk_below (g := gb106) (o := .cells #[.int .i64 0, .int .i64 0, .int .u64 0, .slice none 0 0] 34 (0, 0)) (by (with_reducible repeat (first | refine blk_drewN ?_ _ | refine blk_drew ?_ | refine blk_alloc ?_ _)); exact BK106.out) hb); have n3_ := Aside0.mk (blk_below (g := gb134) (o := .cells #[.int .i64 (wrap64 (rd l1 0)), .int .i64 (wrap64 (rd l1 1)), .int .u64 x135002_1, .slice Ao36 t131.length co36] 34 (0, 0)) (by (with_reducible repeat (first | refine blk_drewN ?_ _ | refine blk_drew ?_ | refine blk_alloc ?_ _)); exact BK134.out) hb); have n4_ := Aside0.mk (below_step (by repeat (first | (with_reducible first | exact HB.out | apply below_alloc | apply pw_below_drewN | apply below_drew1 | refine below_set ?_ GE106.out | refine below_set ?_ GE134.out) | exact HB.out)) hb); clear HO_44; clear HO_135003; clear BK106; clear BK134; clear HB; have HO_44 := n0_; have HO_135003 := n1_; have BK106 := n2_; have BK134 := n3_; have HB := n4_; clear n0_ n1_ n2_ n3_ n4_; (try clear hb); (try clear hb2); (try clear hk); (try clear hi); have hcz53_0 : w52.cell? ⟨gb134, 0, none⟩ = some (.int .i64 (wrap64 (rd l1 0))) := (blk_cell BK134.out 0).trans rfl; have hcz53_1 : w52.cell? ⟨gb134, 1, none⟩ = some (.int .i64 (wrap64 (rd l1 1))) := (blk_cell BK134.out 1).trans rfl; have hcz53_2 : w52.cell? ⟨gb134, 2, none⟩ = some (.int .u64 x135002_1) := (blk_cell BK134.out 2).trans rfl; have hcz53_3 : w52.cell? ⟨gb134, 3, none⟩ = some (.slice Ao36 t131.length co36) := (blk_cell BK134.out 3).trans rfl; have hfz53_0 := blk_frozen BK134.out 0; have hfz53_1 := blk_frozen BK134.out 1; have hfz53_2 := blk_frozen BK134.out 2; have hfz53_3 := blk_frozen BK134.out 3; have hcz54_0 : w52.cell? ⟨gb106, 0, none⟩ = some (.int .i64 0) := (blk_cell BK106.out 0).trans rfl; have hcz54_1 : w52.cell? ⟨gb106, 1, none⟩ = some (.int .i64 0) := (blk_cell BK106.out 1).trans rfl; have hcz54_2 : w52.cell? ⟨gb106, 2, none⟩ = some (.int .u64 0) := (blk_cell BK106.out 2).trans rfl; have hcz54_3 : w52.cell? ⟨gb106, 3, none⟩ = some (.slice none 0 0) := (blk_cell BK106.out 3).trans rfl; have hfz54_0 := blk_frozen BK106.out 0; have hfz54_1 := blk_frozen BK106.out 1; have hfz54_2 := blk_frozen BK106.out 2; have hfz54_3 := blk_frozen BK106.out 3))
                            refine bodyPost_ret (results_ct rfl _ _ gb106 34 #[.int .i64 (wrap64 (rd l1 0)), .int .i64 (wrap64 (rd l1 1)), .int .u64 x135002_1, .slice Ao36 t131.length co36] (0, 0) _ rfl (by (with_reducible repeat (first | refine blk_drewN ?_ _ | refine blk_drew ?_ | refine blk_alloc ?_ _)); refine blk_put (cs := #[.int .i64 (wrap64 (rd l1 0)), .int .i64 (wrap64 (rd l1 1)), .int .u64 x135002_1, .slice none 0 0]) ?_ 3 _ rfl; (with_reducible repeat (first | refine blk_drewN ?_ _ | refine blk_drew ?_ | refine blk_alloc ?_ _)); refine blk_put (cs := #[.int .i64 (wrap64 (rd l1 0)), .int .i64 (wrap64 (rd l1 1)), .int .u64 0, .slice none 0 0]) ?_ 2 _ rfl; (with_reducible repeat (first | refine blk_drewN ?_ _ | refine blk_drew ?_ | refine blk_alloc ?_ _)); refine blk_put (cs := #[.int .i64 (wrap64 (rd l1 0)), .int .i64 0, .int .u64 0, .slice none 0 0]) ?_ 1 _ rfl; (with_reducible repeat (first | refine blk_drewN ?_ _ | refine blk_drew ?_ | refine blk_alloc ?_ _)); refine blk_put (cs := #[.int .i64 0, .int .i64 0, .int .u64 0, .slice none 0 0]) ?_ 0 _ rfl; (with_reducible repeat (first | refine blk_drewN ?_ _ | refine blk_drew ?_ | refine blk_alloc ?_ _)); exact BK106.out) Tryd.underlying34 rfl (by kernel_rfl)) rfl ?_
                            exact ⟨_, by first | rfl | (simp [errW_none, errW_some] <;> rfl) | (simp only [← hji6]; first | rfl | (simp [errW_none, errW_some] <;> rfl)) | (simp [*, errW_none, errW_some] <;> rfl), by (with_reducible repeat (first | apply Kd.R_alloc | apply Kd.R_drewN | apply Kd.R_drew)); exact Kd.R_mono (Kd.R_far (p := ⟨gb106, 3, none⟩) (Kd.R_far (p := ⟨gb106, 2, none⟩) (Kd.R_far (p := ⟨gb106, 1, none⟩) (Kd.R_far (p := ⟨gb106, 0, none⟩) (Kd.R_types HO_135003.out BK106.out (by decide)) (fun _ hk => by first | exact hk.2 | (simp only [hk, ne_eq, not_false_eq_true, and_self])) (.int .i64 (wrap64 (rd l1 0)))) (fun _ hk => by first | exact hk.2 | (simp only [hk, ne_eq, not_false_eq_true, and_self])) (.int .i64 (wrap64 (rd l1 1)))) (fun _ hk => by first | exact hk.2 | (simp only [hk, ne_eq, not_false_eq_true, and_self])) (.int .u64 x135002_1)) (fun _ hk => by first | exact hk.2 | (simp only [hk, ne_eq, not_false_eq_true, and_self])) (.slice Ao36 t131.length co36)) (fun _ hk => by first | exact hk.1 | (simp only [hk, ne_eq, not_false_eq_true, and_self])), by repeat (first | (with_reducible first | exact HB.out | apply below_alloc | apply pw_below_drewN | apply below_drew1 | refine below_set ?_ GE106.out | refine below_set ?_ GE134.out) | exact HB.out)⟩
                          · replace c49 := Bool.eq_false_iff.mpr c49
                            subst c49
                            have H1 : (some (0, 0, 0, ([] : List Int), 2)) = some (r1, r2, r3, r4, r5) := by rw [if_neg (show ¬ (false = true) by decide)] at H; exact H
                            clear H
                            have H := H1
                            clear H1
                            simp only [Option.some.injEq, Prod.mk.injEq] at H
                            obtain ⟨rfl, rfl, rfl, rfl, rfl⟩ := H
                            have hnb55 := NB134_106.out
                            have hnc55 := NB106_134.out
                            have hcz56_0 : wr.cell? ⟨gb134, 0, none⟩ = some (.int .i64 (wrap64 (rd l1 0))) := (blk_cell BK134.out 0).trans rfl
                            have hcz56_1 : wr.cell? ⟨gb134, 1, none⟩ = some (.int .i64 (wrap64 (rd l1 1))) := (blk_cell BK134.out 1).trans rfl
                            have hcz56_2 : wr.cell? ⟨gb134, 2, none⟩ = some (.int .u64 x135002_1) := (blk_cell BK134.out 2).trans rfl
                            have hcz56_3 : wr.cell? ⟨gb134, 3, none⟩ = some (.slice Ao36 t131.length co36) := (blk_cell BK134.out 3).trans rfl
                            have hfz56_0 := blk_frozen BK134.out 0
                            have hfz56_1 := blk_frozen BK134.out 1
                            have hfz56_2 := blk_frozen BK134.out 2
                            have hfz56_3 := blk_frozen BK134.out 3
                            go_wp2_with (first | ((with_reducible refine gate_callee (f := 22) rfl ?_); refine goesL_ (some 59) rfl rfl Tryd.func22 (by kernel_rfl) rfl #[.agg #[.int .i64 (wrap64 (rd l1 0)), .int .i64 (wrap64 (rd l1 1)), .int .u64 x135002_1, .slice Ao36 t131.length co36]] rfl (by (try simp only [List.map_toArray, List.map_cons, List.map_nil]); first | done | rfl | (simp only [List.length_drop, List.length_take]; rfl)) ?_; (with_reducible refine (pkt_May.calls (wrap64 (rd l1 0)) (wrap64 (rd l1 1)) x135002_1 _ _ t131 false _ ?side1 ?side2 A48.out).mono ?_); (case side1 => repeat (first | exact (Kd.R_reads' HO_135003.out).2.2 | (with_reducible refine Kd.C_alloc ?_ _) | (with_reducible refine Kd.C_drewN ?_ _) | (with_reducible refine Kd.C_drew ?_))); (case side2 => exact (Kd.R_reads' HO_135003.out).2.1); rintro e w57 ⟨rfl, hb⟩; refine ⟨_, rfl, ?_⟩; have n0_ := Aside0.mk (Kd.V_below (by (with_reducible repeat (first | apply Kd.V_alloc | apply Kd.V_drewN | apply Kd.V_drew)); exact HO_44.out) hb); have n1_ := Aside0.mk (Kd.R_below (by (with_reducible repeat (first | apply Kd.R_alloc | apply Kd.R_drewN | apply Kd.R_drew)); exact HO_135003.out) hb); have n2_ := Aside0.mk (blk_below (g := gb106) (o := .cells #[.int .i64 0, .int .i64 0, .int .u64 0, .slice none 0 0] 34 (0, 0)) (by (with_reducible repeat (first | refine blk_drewN ?_ _ | refine blk_drew ?_ | refine blk_alloc ?_ _)); exact BK106.out) hb); have n3_ := Aside0.mk (blk_below (g := gb134) (o := .cells #[.int .i64 (wrap64 (rd l1 0)), .int .i64 (wrap64 (rd l1 1)), .int .u64 x135002_1, .slice Ao36 t131.length co36] 34 (0, 0)) (by (with_reducible repeat (first | refine blk_drewN ?_ _ | refine blk_drew ?_ | refine blk_alloc ?_ _)); exact BK134.out) hb); have n4_ := Aside0.mk (below_step (by repeat (first | (with_reducible first | exact HB.out | apply below_alloc | apply pw_below_drewN | apply below_drew1 | refine below_set ?_ GE106.out | refine below_set ?_ GE134.out) | exact HB.out)) hb); clear HO_44; clear HO_135003; clear BK106; clear BK134; clear HB; have HO_44 := n0_; have HO_135003 := n1_; have BK106 := n2_; have BK134 := n3_; have HB := n4_; clear n0_ n1_ n2_ n3_ n4_; (try clear hb); (try clear hb2); (try clear hk); (try clear hi); have hcz58_0 : w57.cell? ⟨gb106, 0, none⟩ = some (.int .i64 0) := (blk_cell BK106.out 0).trans rfl; have hcz58_1 : w57.cell? ⟨gb106, 1, none⟩ = some (.int .i64 0) := (blk_cell BK106.out 1).trans rfl; have hcz58_2 : w57.cell? ⟨gb106, 2, none⟩ = some (.int .u64 0) := (blk_cell BK106.out 2).trans rfl; have hcz58_3 : w57.cell? ⟨gb106, 3, none⟩ = some (.slice none 0 0) := (blk_cell BK106.out 3).trans rfl; have hfz58_0 := blk_frozen BK106.out 0; have hfz58_1 := blk_frozen BK106.out 1; have hfz58_2 := blk_frozen BK106.out 2; have hfz58_3 := blk_frozen BK106.out 3))
                            refine bodyPost_ret (results_ct rfl _ _ gb106 34 #[.int .i64 0, .int .i64 0, .int .u64 0, .slice none 0 0] (0, 0) _ rfl (by (with_reducible repeat (first | refine blk_drewN ?_ _ | refine blk_drew ?_ | refine blk_alloc ?_ _)); refine blk_put (cs := #[.int .i64 0, .int .i64 0, .int .u64 0, .slice none 0 0]) ?_ 3 _ rfl; (with_reducible repeat (first | refine blk_drewN ?_ _ | refine blk_drew ?_ | refine blk_alloc ?_ _)); refine blk_put (cs := #[.int .i64 0, .int .i64 0, .int .u64 0, .slice none 0 0]) ?_ 2 _ rfl; (with_reducible repeat (first | refine blk_drewN ?_ _ | refine blk_drew ?_ | refine blk_alloc ?_ _)); refine blk_put (cs := #[.int .i64 0, .int .i64 0, .int .u64 0, .slice none 0 0]) ?_ 1 _ rfl; (with_reducible repeat (first | refine blk_drewN ?_ _ | refine blk_drew ?_ | refine blk_alloc ?_ _)); refine blk_put (cs := #[.int .i64 0, .int .i64 0, .int .u64 0, .slice none 0 0]) ?_ 0 _ rfl; (with_reducible repeat (first | refine blk_drewN ?_ _ | refine blk_drew ?_ | refine blk_alloc ?_ _)); exact BK106.out) Tryd.underlying34 rfl (by kernel_rfl)) rfl ?_
                            exact ⟨_, by first | rfl | (simp [errW_none, errW_some] <;> rfl) | (simp only [← hji6]; first | rfl | (simp [errW_none, errW_some] <;> rfl)) | (simp [*, errW_none, errW_some] <;> rfl), by first | exact Kd.R_nil _ _ _ _ _ | exact Kd.N_nil _ _ _ _ _ | exact Kd.V_nil _ _ _ _ _ | exact Kd.Q_nil _ _ _ _ _ | exact Kd.S_nil _ _ _ _ _, by repeat (first | (with_reducible first | exact HB.out | apply below_alloc | apply pw_below_drewN | apply below_drew1 | refine below_set ?_ GE106.out | refine below_set ?_ GE134.out) | exact HB.out)⟩
                  · rw [if_neg c20] at H
                    exact absurd H (by simp)
                · rw [if_neg c19] at H
                  exact absurd H (by simp)
              · rw [if_neg c16] at H
                exact absurd H (by simp)
            · rw [if_neg c15] at H
              exact absurd H (by simp)
          · rw [if_neg c14] at H
            exact absurd H (by simp)
        · replace c13 := Bool.eq_false_iff.mpr c13
          subst c13
          have H1 : (some (0, 0, 0, ([] : List Int), 15)) = some (r1, r2, r3, r4, r5) := by rw [if_neg (show ¬ (false = true) by decide)] at H; exact H
          clear H
          have H := H1
          clear H1
          simp only [Option.some.injEq, Prod.mk.injEq] at H
          obtain ⟨rfl, rfl, rfl, rfl, rfl⟩ := H
          go_enter Tryd.func18, Tryd.ntmps18
          try go_wp2_with (first | ((with_reducible refine gate_dst (N := 4) rfl ?_); refine box_event ?hg (N := 4) ?hd (cs := #[.int .i64 0, .int .i64 0, .int .u64 0, .slice none 0 0]) (t := 34) ?hr ?_; (case hd => rfl); (case hg => rfl); (case hr => first | (go_simp; done) | (go_simp; rfl) | (go_simp; simp [IntKind.wrap_u32, show IntKind.u32.max = 4294967295 from rfl]; done)); intro gb106 hg w59 hbox hb; have n0_ := Aside0.mk (Kd.V_below (Kd.V_elderB (by (with_reducible repeat (first | apply Kd.V_alloc | apply Kd.V_drewN | apply Kd.V_drew)); exact HO1.out) gb106 (Nat.le_of_eq hg.symm)) hb); have n1_ := Aside0.mk (below_step (by repeat (first | (with_reducible first | exact HB.out | apply below_alloc | apply pw_below_drewN | apply below_drew1) | exact HB.out)) hb); have n2_ := Aside0.mk (hbox); have n3_ := Aside0.mk ((by rw [hg]; exact (below_size (by repeat (first | (with_reducible first | exact HB.out | apply below_alloc | apply pw_below_drewN | apply below_drew1) | exact HB.out))) : w.heap.size ≤ gb106)); have n4_ := Aside0.mk ((by rw [hg]; exact (below_size (by repeat (first | (with_reducible first | exact HB.out | apply below_alloc | apply pw_below_drewN | apply below_drew1) | exact HB.out))) : w.heap.size ≤ gb106)); clear HO1; clear HB; have HO1 := n0_; have HB := n1_; have BK106 := n2_; have GW106 := n3_; have GE106 := n4_; clear n0_ n1_ n2_ n3_ n4_; clear hb hbox hg))
          have n0_ := Aside0.mk (Kd.V_drew HO1.out)
          have n1_ := Aside0.mk (blk_drew BK106.out)
          have n2_ := Aside0.mk (below_drew1 HB.out)
          clear HO1
          clear BK106
          clear HB
          have HO1 := n0_
          have BK106 := n1_
          have HB := n2_
          clear n0_ n1_ n2_
          have q61 : ((ji6) : Int) ≤ ((l1.length : Int) : Int) := of_decide_eq_true (by first | (with_reducible assumption) | assumption)
          obtain ⟨i061, hi061, _, hsz61, _⟩ := info_parts info5
          have hroom61 : l1.length ≤ c1 := (Kd.V_reads' HO1.out).2.1
          have hC61 : Kd.F (Kd.int .u8) _ _ A1 l1.length l1 := (Kd.V_at (base := w.heap.size) HO1.out).2.2
          have hcut61 := cut_to (P := Tryd.prog) 32 5 .i64 Tryd.underlying32 hi061 A1 l1.length c1 (ji6) (of_decide_eq_true (by first | (with_reducible assumption) | assumption)) q61 hroom61
          have hr61 := Kd.F_take (m := ((ji6) : Int).toNat) hC61 (by omega)
          have hy61 : y107.length = ((ji6) : Int).toNat := (by rw [Ny107.out, List.length_take]; omega)
          rw [← Ny107.out] at hr61
          rw [← hy61] at hcut61
          have HO111 := Aside0.mk (show Kd.V (Kd.int .u8) 5 _ w.heap.size _ (.slice A1 y107.length c1) y107 from Kd.V_mk (by omega) hr61)
          have HC111 := Aside0.mk (show y107.length ≤ c1 from by omega)
          clear hr61 hC61 hroom61 hi061 hsz61
          have KY61 := Aside0.mk hy61
          clear hy61
          replace q61 := eq_true q61
          have q62 : ((ji6) : Int) ≤ ((l1.length : Int) : Int) := of_decide_eq_true (by first | (with_reducible assumption) | assumption)
          obtain ⟨i062, hi062, _, hsz62, _⟩ := info_parts info5
          have hroom62 : l1.length ≤ c1 := (Kd.V_reads' HO1.out).2.1
          have hC62 : Kd.F (Kd.int .u8) _ _ A1 l1.length l1 := (Kd.V_at (base := w.heap.size) HO1.out).2.2
          have q062 : (0 : Int) ≤ ((ji6) : Int) := of_decide_eq_true (by first | (with_reducible assumption) | assumption)
          have hcut62 := cut_from (P := Tryd.prog) 32 5 .i64 Tryd.underlying32 hi062 1 hsz62 A1 l1.length c1 (ji6) q062 q62
          have hr62 := Kd.F_cut (m := ((ji6) : Int).toNat) (c := c1) hC62 (by omega) hroom62
          obtain ⟨A62, hA62⟩ : ∃ Az_, Az_ = (if c1 = ((ji6) : Int).toNat then A1 else (A1 : Option Addr).map (·.add (((ji6) : Int).toNat * 1))) := ⟨_, rfl⟩
          obtain ⟨c62, hc62⟩ : ∃ cz_, cz_ = c1 - ((ji6) : Int).toNat := ⟨_, rfl⟩
          have hy62 : y118.length = l1.length - ((ji6) : Int).toNat := (by rw [Ny118.out, List.length_drop] <;> omega)
          rw [show (l1).drop ((ji6) : Int).toNat = y118 from Ny118.out.symm] at hr62
          replace hr62 : Kd.F (Kd.int .u8) _ _ A62 y118.length y118 := (by rw [hA62]; exact hr62)
          rw [← hy62, ← hA62, ← hc62] at hcut62
          have HO122 := Aside0.mk (show Kd.V (Kd.int .u8) 5 _ w.heap.size _ (.slice A62 y118.length c62) y118 from Kd.V_mk (by rw [hy62, hc62]; exact Nat.sub_le_sub_right hroom62 _) hr62)
          have HC122 := Aside0.mk (show y118.length ≤ c62 from by rw [hy62, hc62]; exact Nat.sub_le_sub_right hroom62 _)
          clear hr62 hC62 hroom62 hi062 hsz62 hc62
          have KY62 := Aside0.mk hy62
          have KA62 := Aside0.mk hA62
          clear hy62 hA62
          replace q62 := eq_true q62
          refine start_ (n := 12) (S := fun w' => True) (ds := []) #[false, false, false, false, false, false, false, false, false, false, false, false] (by kernel_rfl) rfl rfl trivial (fun hHeld => ?_); refine with_tabW pkt_Open.tab4 pkt_Open.bits4 (fun HT_ HW_ => ?_)
          generalize w59.drew = w60 at HO1 BK106 HB HO111 HO122 hHeld ⊢
          refine pure_ (i := 0) (N := some 18) (v := ?_) (a' := ?_) #[true, false, false, false, false, false, false, false, false, false, false, false] rfl rfl (any_of HT_.out (by kernel_rfl)) (fun _ _ _ h => h) (Or.inl ⟨by rfl, ?_⟩) ?_ ?_
          rotate_left
          · intro w'
            go_simp
            with_reducible rfl
          rotate_left
          · simp only [Act.put, List.setIfInBounds_toArray, List.set_cons_zero, List.set_cons_succ, i64_w, i32_w]
            rfl
          refine pure_ (i := 1) (N := some 19) (v := ?_) (a' := ?_) #[true, true, false, false, false, false, false, false, false, false, false, false] rfl rfl (any_of HT_.out (by kernel_rfl)) (fun _ _ _ h => h) (Or.inl ⟨by rfl, ?_⟩) ?_ ?_
          rotate_left
          · intro w'
            go_simp
            with_reducible rfl
          rotate_left
          · simp only [Act.put, List.setIfInBounds_toArray, List.set_cons_zero, List.set_cons_succ, i64_w, i32_w]
            rfl
          refine pure_ (i := 2) (N := some 20) (v := ?_) (a' := ?_) #[true, true, true, false, false, false, false, false, false, false, false, false] rfl rfl (any_of HT_.out (by kernel_rfl)) (fun _ _ _ h => h) (Or.inl ⟨by rfl, ?_⟩) ?_ ?_
          rotate_left
          · intro w'
            go_simp
            with_reducible rfl
          rotate_left
          · simp only [Act.put, List.setIfInBounds_toArray, List.set_cons_zero, List.set_cons_succ, i64_w, i32_w]
            rfl
          refine pure_ (i := 3) (N := some 21) (v := ?_) (a' := ?_) #[true, true, true, true, false, false, false, false, false, false, false, false] rfl rfl (any_of HT_.out (by kernel_rfl)) (fun _ _ _ h => h) (Or.inl ⟨by rfl, ?_⟩) ?_ ?_
          rotate_left
          · intro w'
            go_simp
            with_reducible rfl
          rotate_left
          · simp only [Act.put, List.setIfInBounds_toArray, List.set_cons_zero, List.set_cons_succ, i64_w, i32_w]
            rfl
          refine pure_ (i := 6) (N := some 24) (v := ?_) (a' := ?_) #[true, true, true, true, false, false, true, false, false, false, false, false] rfl rfl (any_of HT_.out (by kernel_rfl)) (fun _ _ _ h => h) (Or.inl ⟨by rfl, ?_⟩) ?_ ?_
          rotate_left
          · intro w'
            go_simp
            with_reducible rfl
          rotate_left
          · simp only [Act.put, List.setIfInBounds_toArray, List.set_cons_zero, List.set_cons_succ, i64_w, i32_w]
            rfl
          refine pure_ (i := 7) (N := some 25) (v := ?_) (a' := ?_) #[true, true, true, true, false, false, true, true, false, false, false, false] rfl rfl (any_of HT_.out (by kernel_rfl)) (fun _ _ _ h => h) (Or.inl ⟨by rfl, ?_⟩) ?_ ?_
          rotate_left
          · intro w'
            go_simp
            with_reducible rfl
          rotate_left
          · simp only [Act.put, List.setIfInBounds_toArray, List.set_cons_zero, List.set_cons_succ, i64_w, i32_w]
            rfl
          refine pure_ (i := 8) (N := some 26) (v := ?_) (a' := ?_) #[true, true, true, true, false, false, true, true, true, false, false, false] rfl rfl (any_of HT_.out (by kernel_rfl)) (fun _ _ _ h => h) (Or.inl ⟨by rfl, ?_⟩) ?_ ?_
          rotate_left
          · intro w'
            go_simp
            with_reducible rfl
          rotate_left
          · simp only [Act.put, List.setIfInBounds_toArray, List.set_cons_zero, List.set_cons_succ, i64_w, i32_w]
            rfl
          refine one_ (i := 4) (N := some 22) #[true, true, true, true, true, false, true, true, true, false, false, false] rfl rfl (one_of HT_.out (by kernel_rfl)) (by decide) (fun K hK => ?_)
          refine Kd.N_lit_step (Kd.slice 5 (Kd.int .u8)) _ 32 ?hg (N' := 22) ?hd (xs := ([y107] : List (List Int))) (inner := [.slice A1 y107.length c1]) (ok := (fun k_ => (P1_ k_ ∨ w.heap.size ≤ k_) ∧ k_ ≠ gb106)) (okp := (fun k_ => (P1_ k_ ∨ w.heap.size ≤ k_) ∧ k_ ≠ gb106)) ?hr ?hp (fun _ hk => by first | exact hk | (simp only [hk, ne_eq, not_false_eq_true, and_self])) ((show ∀ k_, w60.heap.size ≤ k_ → (fun k_ => (P1_ k_ ∨ w.heap.size ≤ k_) ∧ k_ ≠ gb106) k_ from fun k_ hk => ⟨(.inr (Nat.le_trans (below_size (by repeat (first | (with_reducible first | exact HB.out | apply below_alloc | apply pw_below_drewN | apply below_drew1 | refine below_set ?_ GE106.out) | exact HB.out))) hk)), Kd.freshB (g := gb106) (o := .cells #[.int .i64 0, .int .i64 0, .int .u64 0, .slice none 0 0] 34 (0, 0)) (by (with_reducible repeat (first | refine blk_drewN ?_ _ | refine blk_drew ?_ | refine blk_alloc ?_ _)); exact BK106.out) k_ hk⟩) _ (Nat.le_refl _)) (Below.refl _ _) (Nat.le_refl _) (by simp) ?_; (case hd => rfl); (case hg => rfl); (case hr => first | (go_simp; done) | (go_simp; rfl) | (go_simp; simp [IntKind.wrap_u32, show IntKind.u32.max = 4294967295 from rfl]; done)); (case hp => exact (Reps.one (show Kd.FK (Kd.slice 5 (Kd.int .u8)) _ _ y107 [.slice A1 y107.length c1] from (Kd.FK_slice_mk (Kd.V_reads' (Kd.V_mono (ok' := (fun k_ => (P1_ k_ ∨ w.heap.size ≤ k_) ∧ k_ ≠ gb106)) (HO111.out) (fun k_ hk => ⟨hk.1, hk.2⟩))).2.1 (Kd.V_F (Kd.V_mono (ok' := (fun k_ => (P1_ k_ ∨ w.heap.size ≤ k_) ∧ k_ ≠ gb106)) (HO111.out) (fun k_ hk => ⟨hk.1, hk.2⟩))))) (Reps.none _ _)))
          intro v113 w63 ho64 hb hg_ hnew_
          clear hg_ hnew_
          (first | rw [← Ny112.out] at ho64 | (simp only [Int.reduceToNat] at ho64; rw [← Ny112.out] at ho64))
          have n0_ := Aside0.mk (Kd.V_elder' (by (with_reducible repeat (first | apply Kd.V_alloc | apply Kd.V_drewN | apply Kd.V_drew)); exact HO1.out) (Kd.N_base ho64) hb)
          have n1_ := Aside0.mk (Kd.V_elder' (by (with_reducible repeat (first | apply Kd.V_alloc | apply Kd.V_drewN | apply Kd.V_drew)); exact HO111.out) (Kd.N_base ho64) hb)
          have n2_ := Aside0.mk (Kd.V_elder' (by (with_reducible repeat (first | apply Kd.V_alloc | apply Kd.V_drewN | apply Kd.V_drew)); exact HO122.out) (Kd.N_base ho64) hb)
          have n3_ := Aside0.mk (Kd.N_lower ho64 (below_size (by repeat (first | (with_reducible first | exact HB.out | apply below_alloc | apply pw_below_drewN | apply below_drew1 | refine below_set ?_ GE106.out) | exact HB.out))))
          have n4_ := Aside0.mk (blk_below (g := gb106) (o := .cells #[.int .i64 0, .int .i64 0, .int .u64 0, .slice none 0 0] 34 (0, 0)) (by (with_reducible repeat (first | refine blk_drewN ?_ _ | refine blk_drew ?_ | refine blk_alloc ?_ _)); exact BK106.out) hb)
          have n5_ := Aside0.mk (below_step (by repeat (first | (with_reducible first | exact HB.out | apply below_alloc | apply pw_below_drewN | apply below_drew1 | refine below_set ?_ GE106.out) | exact HB.out)) hb)
          clear HO1
          clear HO111
          clear HO122
          clear BK106
          clear HB
          have HO1 := n0_
          have HO111 := n1_
          have HO122 := n2_
          have HO114 := n3_
          have BK106 := n4_
          have HB := n5_
          clear n0_ n1_ n2_ n3_ n4_ n5_
          clear hb ho64
          obtain ⟨Ao65, co65, eo65⟩ := Kd.N_slice HO114.out
          (first | subst eo65 | (injection eo65 with f1_ f2_ f3_; have f4_ := f1_.symm; have f5_ := f3_.symm; clear f1_ f2_ f3_; subst f4_; subst f5_))
          refine hK.out _ _ trivial (fun hHeld => ?_)
          clear hK K
          refine norm_ (a' := ?_) ?_ ?_
          rotate_left
          · show Act.put _ (some 22) _ = _
            simp only [Act.put, List.setIfInBounds_toArray, List.set_cons_zero, List.set_cons_succ, i64_w, i32_w]
            rfl
          refine one_ (i := 5) (N := some 23) #[true, true, true, true, true, true, true, true, true, false, false, false] rfl rfl (one_of HT_.out (by kernel_rfl)) (by decide) (fun K hK => ?_)
          refine goes_ Tryd.func38 (by kernel_rfl) rfl #[.slice A0 l0.length c0, .slice Ao65 y112.length co65] (by rfl) rfl rfl (by (try simp only [List.map_toArray, List.map_cons, List.map_nil]); first | done | rfl | (simp only [List.length_drop, List.length_take]; rfl)) ?_
          with_reducible refine (mac_Tag.calls k _ _ l0 _ _ y112 t115 _ ?side1 ?side2 ?side3 ?side4 ?side5 A9.out).mono ?_
          (case side1 => repeat (first | exact (Kd.C_below HR0.out HB.out) | (with_reducible refine Kd.C_alloc ?_ _) | (with_reducible refine Kd.C_drewN ?_ _) | (with_reducible refine Kd.C_drew ?_)))
          (case side2 => exact HC0.out)
          (case side3 => repeat (first | exact (Kd.N_reads' HO114.out).2.2 | (with_reducible refine Kd.C_alloc ?_ _) | (with_reducible refine Kd.C_drewN ?_ _) | (with_reducible refine Kd.C_drew ?_)))
          (case side4 => exact (Kd.N_reads' HO114.out).2.1)
          (case side5 => first | exact HG.out | exact LaidG.below HG.out (by repeat (first | (with_reducible first | exact HB.out | apply below_alloc | apply pw_below_drewN | apply below_drew1) | exact HB.out)) | exact LaidG.at HG.out (by assumption))
          rintro e w66 ⟨v116, rfl, ho0, hb⟩
          refine ⟨_, rfl, ?_⟩
          have n0_ := Aside0.mk (Kd.V_elder' (by (with_reducible repeat (first | apply Kd.V_alloc | apply Kd.V_drewN | apply Kd.V_drew)); exact HO1.out) (Kd.R_base ho0) hb)
          have n1_ := Aside0.mk (Kd.V_elder' (by (with_reducible repeat (first | apply Kd.V_alloc | apply Kd.V_drewN | apply Kd.V_drew)); exact HO111.out) (Kd.R_base ho0) hb)
          have n2_ := Aside0.mk (Kd.V_elder' (by (with_reducible repeat (first | apply Kd.V_alloc | apply Kd.V_drewN | apply Kd.V_drew)); exact HO122.out) (Kd.R_base ho0) hb)
          have n3_ := Aside0.mk (Kd.N_elder' (by (with_reducible repeat (first | apply Kd.N_alloc | apply Kd.N_drewN | apply Kd.N_drew)); exact HO114.out) (Kd.R_base ho0) hb)
          have n4_ := Aside0.mk (Kd.R_lower (Kd.R_newM (M := fun k_ => (w.heap.size ≤ k_)) ho0 (below_size (by repeat (first | (with_reducible first | exact HB.out | apply below_alloc | apply pw_below_drewN | apply below_drew1 | refine below_set ?_ GE106.out) | exact HB.out))) (fun k_ h_ => h_)) (below_size (by repeat (first | (with_reducible first | exact HB.out | apply below_alloc | apply pw_below_drewN | apply below_drew1 | refine below_set ?_ GE106.out) | exact HB.out))))
          have n5_ := Aside0.mk (blk_below (g := gb106) (o := .cells #[.int .i64 0, .int .i64 0, .int .u64 0, .slice none 0 0] 34 (0, 0)) (by (with_reducible repeat (first | refine blk_drewN ?_ _ | refine blk_drew ?_ | refine blk_alloc ?_ _)); exact BK106.out) hb)
          have n6_ := Aside0.mk (below_step (by repeat (first | (with_reducible first | exact HB.out | apply below_alloc | apply pw_below_drewN | apply below_drew1 | refine below_set ?_ GE106.out) | exact HB.out)) hb)
          clear HO1
          clear HO111
          clear HO122
          clear HO114
          clear BK106
          clear HB
          have HO1 := n0_
          have HO111 := n1_
          have HO122 := n2_
          have HO114 := n3_
          have HO117 := n4_
          have BK106 := n5_
          have HB := n6_
          clear n0_ n1_ n2_ n3_ n4_ n5_ n6_
          (try clear hb)
          (try clear hb2)
          (try clear hk)
          (try clear hi)
          (try clear ho0)
          obtain ⟨Ao67, co67, eo67⟩ := Kd.R_slice HO117.out
          (first | subst eo67 | (injection eo67 with f1_ f2_ f3_; have f4_ := f1_.symm; have f5_ := f3_.symm; clear f1_ f2_ f3_; subst f4_; subst f5_))
          refine hK.out _ _ trivial (fun hHeld => ?_)
          clear hK K
          refine norm_ (a' := ?_) ?_ ?_
          rotate_left
          · show Act.put _ (some 23) _ = _
            simp only [Act.put, List.setIfInBounds_toArray, List.set_cons_zero, List.set_cons_succ, i64_w, i32_w]
            rfl
          refine one_ (i := 9) (N := some 27) #[true, true, true, true, true, true, true, true, true, true, false, false] rfl rfl (one_of HT_.out (by kernel_rfl)) (by decide) (fun K hK => ?_)
          refine goes_ Tryd.func40 (by kernel_rfl) rfl #[.slice Ao67 t115.length co67, .slice A62 y118.length c62] (by rfl) rfl rfl (by (try simp only [List.map_toArray, List.map_cons, List.map_nil]); first | done | rfl | (simp only [List.length_drop, List.length_take]; rfl)) ?_
          with_reducible refine (mac_Equal.calls _ _ t115 _ _ y118 false _ ?side1 ?side2 ?side3 ?side4 A12.out).mono ?_
          (case side1 => repeat (first | exact (Kd.R_reads' HO117.out).2.2 | (with_reducible refine Kd.C_alloc ?_ _) | (with_reducible refine Kd.C_drewN ?_ _) | (with_reducible refine Kd.C_drew ?_)))
          (case side2 => exact (Kd.R_reads' HO117.out).2.1)
          (case side3 => repeat (first | exact (Kd.V_reads' HO122.out).2.2 | (with_reducible refine Kd.C_alloc ?_ _) | (with_reducible refine Kd.C_drewN ?_ _) | (with_reducible refine Kd.C_drew ?_)))
          (case side4 => exact (Kd.V_reads' HO122.out).2.1)
          rintro e w' ⟨rfl, ⟨nd, rfl⟩⟩
          refine ⟨_, rfl, ?_⟩
          refine hK.out _ _ trivial (fun hHeld => ?_)
          clear hK K
          refine norm_ (a' := ?_) ?_ ?_
          rotate_left
          · show Act.put _ (some 27) _ = _
            simp only [Act.put, List.setIfInBounds_toArray, List.set_cons_zero, List.set_cons_succ, i64_w, i32_w]
            rfl
          refine pure_ (i := 10) (N := some 28) (v := ?_) (a' := ?_) #[true, true, true, true, true, true, true, true, true, true, true, false] rfl rfl (any_of HT_.out (by kernel_rfl)) (fun _ _ _ h => h) (Or.inl ⟨by rfl, ?_⟩) ?_ ?_
          rotate_left
          · intro w'
            go_simp
            with_reducible rfl
          rotate_left
          · simp only [Act.put, List.setIfInBounds_toArray, List.set_cons_zero, List.set_cons_succ, i64_w, i32_w]
            rfl
          refine pure_ (i := 11) (N := some 17) (v := ?_) (a' := ?_) #[true, true, true, true, true, true, true, true, true, true, true, true] rfl rfl (any_of HT_.out (by kernel_rfl)) (fun _ _ _ h => h) (Or.inl ⟨by rfl, ?_⟩) ?_ ?_
          rotate_left
          · intro w'
            go_simp
            with_reducible rfl
          rotate_left
          · simp only [Act.put, List.setIfInBounds_toArray, List.set_cons_zero, List.set_cons_succ, i64_w, i32_w]
            rfl
          refine done_ (done_of HT_.out (by kernel_rfl)) ?_
          have hcz68_0 : w66.cell? ⟨gb106, 0, none⟩ = some (.int .i64 0) := (blk_cell BK106.out 0).trans rfl
          have hcz68_1 : w66.cell? ⟨gb106, 1, none⟩ = some (.int .i64 0) := (blk_cell BK106.out 1).trans rfl
          have hcz68_2 : w66.cell? ⟨gb106, 2, none⟩ = some (.int .u64 0) := (blk_cell BK106.out 2).trans rfl
          have hcz68_3 : w66.cell? ⟨gb106, 3, none⟩ = some (.slice none 0 0) := (blk_cell BK106.out 3).trans rfl
          have hfz68_0 := blk_frozen BK106.out 0
          have hfz68_1 := blk_frozen BK106.out 1
          have hfz68_2 := blk_frozen BK106.out 2
          have hfz68_3 := blk_frozen BK106.out 3
          try go_wp2
          refine bodyPost_ret (results_ct rfl _ _ gb106 34 #[.int .i64 0, .int .i64 0, .int .u64 0, .slice none 0 0] (0, 0) _ rfl (by (with_reducible repeat (first | refine blk_drewN ?_ _ | refine blk_drew ?_ | refine blk_alloc ?_ _)); refine blk_put (cs := #[.int .i64 0, .int .i64 0, .int .u64 0, .slice none 0 0]) ?_ 3 _ rfl; (with_reducible repeat (first | refine blk_drewN ?_ _ | refine blk_drew ?_ | refine blk_alloc ?_ _)); refine blk_put (cs := #[.int .i64 0, .int .i64 0, .int .u64 0, .slice none 0 0]) ?_ 2 _ rfl; (with_reducible repeat (first | refine blk_drewN ?_ _ | refine blk_drew ?_ | refine blk_alloc ?_ _)); refine blk_put (cs := #[.int .i64 0, .int .i64 0, .int .u64 0, .slice none 0 0]) ?_ 1 _ rfl; (with_reducible repeat (first | refine blk_drewN ?_ _ | refine blk_drew ?_ | refine blk_alloc ?_ _)); refine blk_put (cs := #[.int .i64 0, .int .i64 0, .int .u64 0, .slice none 0 0]) ?_ 0 _ rfl; (with_reducible repeat (first | refine blk_drewN ?_ _ | refine blk_drew ?_ | refine blk_alloc ?_ _)); exact BK106.out) Tryd.underlying34 rfl (by kernel_rfl)) rfl ?_
          exact ⟨_, by first | rfl | (simp [errW_none, errW_some] <;> rfl) | (simp only [← hji6]; first | rfl | (simp [errW_none, errW_some] <;> rfl)) | (simp [*, errW_none, errW_some] <;> rfl), by first | exact Kd.R_nil _ _ _ _ _ | exact Kd.N_nil _ _ _ _ _ | exact Kd.V_nil _ _ _ _ _ | exact Kd.Q_nil _ _ _ _ _ | exact Kd.S_nil _ _ _ _ _, by repeat (first | (with_reducible first | exact HB.out | apply below_alloc | apply pw_below_drewN | apply below_drew1 | refine below_set ?_ GE106.out) | exact HB.out)⟩
      · rw [if_neg c8] at H
        exact absurd H (by simp)
    · rw [if_neg c7] at H
      exact absurd H (by simp)

end Go.Proofs.YtpimhoaeiafahaaDoor.P
