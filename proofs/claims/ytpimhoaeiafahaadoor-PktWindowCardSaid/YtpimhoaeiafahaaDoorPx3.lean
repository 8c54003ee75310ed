/- Lean functions and contracts of Go functions, written by a program of this session out of the translation; Lean checks them. -/
import Derived.Test.YtpimhoaeiafahaaDoorPx0
import Derived.Test.YtpimhoaeiafahaaDoorPx1
import Derived.Test.YtpimhoaeiafahaaDoorPx2
import Derived.Test.YtpimhoaeiafahaaDoorL0
namespace Go.Proofs.YtpimhoaeiafahaaDoor.P
open Go.Proofs.YtpimhoaeiafahaaDoor.M0 Go.Proofs.YtpimhoaeiafahaaDoor.M6 Go.Proofs.YtpimhoaeiafahaaDoor.M7 Go.Proofs.YtpimhoaeiafahaaDoor.M8 Go.Proofs.YtpimhoaeiafahaaDoor.B
open Go.Proofs.YtpimhoaeiafahaaDoor.L0
open Go.RowKit Go.Proofs.YtpimhoaeiafahaaDoorW.PrintWords Go.Proofs.YtpimhoaeiafahaaDoorW.PrintLast Go.Proofs.YtpimhoaeiafahaaDoorW.PrintMore
attribute [local go_sem] max2_int min2_int max_two min_two max_three min_three max_four min_four   -- for this text's walks alone
set_option linter.unusedVariables false
set_option linter.unusedSimpArgs false

/-! ### tikref_Bytes: function 20 -/
def tikref_Bytes.f (l0 : List Int) (l1 : List Int) : Option (Bool) := some ((strOfNums l0).toList == (strOfNums l1).toList)
set_option maxHeartbeats 8000000 in
set_option maxRecDepth 100000 in
theorem tikref_Bytes.calls (A0 : Option Addr) (c0 : Nat) (l0 : List Int) (A1 : Option Addr) (c1 : Nat) (l1 : List Int) (r : Bool) (w : World) (hr0 : Kd.C (Kd.int .u8) w A0 l0.length l0) (hc0 : l0.length ≤ c0) (hr1 : Kd.C (Kd.int .u8) w A1 l1.length l1) (hc1 : l1.length ≤ c1) (h : tikref_Bytes.f l0 l1 = some r) :
    Calls Tryd.prog 20 #[.slice A0 l0.length c0, .slice A1 l1.length c1] w fun e w' => e = .returned (.bool r) ∧ Drawn0 w w' := by
  have HR0 := Aside0.mk hr0
  have HC0 := Aside0.mk hc0
  clear hr0 hc0
  have HR1 := Aside0.mk hr1
  have HC1 := Aside0.mk hc1
  clear hr1 hc1
  have H : (some ((strOfNums l0).toList == (strOfNums l1).toList)) = some r := h
  clear h
  obtain rfl := Option.some.inj H
  have hcv3 := Kd.C_string (P := Tryd.prog) (A := A0) (c := c0) Tryd.underlying32 Tryd.underlying5 Tryd.underlying9 HR0.out
  have hcv4 := Kd.C_string (P := Tryd.prog) (A := A1) (c := c1) Tryd.underlying32 Tryd.underlying5 Tryd.underlying9 HR1.out
  go_enter Tryd.func20, Tryd.ntmps20
  go_wp2
  go_ret
  exact ⟨by first | rfl | (simp; done) | (simp [*]; done), by repeat (first | exact Drawn0.refl _ | apply Drawn0.step)⟩

/-! ### tiklaw25_first: function 10 -/
def tiklaw25_first.f (k : Nat)  : Option (Bool) := (some (([107] : List Int) : List Int)).bind fun y142 => ((pkt_Seal.f k y142 1 0 7 (([5] : List Int))).bind fun bt148 => ((pkt_Open.f k y142 bt148.1).bind fun bt152 => ((pkt_Open.f k (([108] : List Int)) bt148.1).bind fun bt163 => ((pkt_NewWindow.f 2).bind fun t171 => (if bt148.2 = 0 then (if (bt148.1.length : Int) = 27 then (if bt152.2.2.2.2 = 0 then (if bt152.2.2.1 = 7 then ((tikref_Bytes.f bt152.2.2.2.1 (([5] : List Int))).bind fun t176 => (if t176 = true then (if bt163.2.2.2.2 = 15 then ((pkt_Window_Take.f t171 3).bind fun bt177 => (if bt177.1 = 0 then ((pkt_Window_Take.f bt177.2 3).bind fun bt179 => (some (bt179.1 == 14))) else (some false))) else (some false)) else (some false))) else (some false)) else (some false)) else (some false)) else (some false))))))
theorem tiklaw25_first.mono : ∀ k, LeO (tiklaw25_first.f k ) (tiklaw25_first.f (k + 1) ) := by
  intro  k
  unfold tiklaw25_first.f
  repeat' first
      | (with_reducible exact pkt_Open.mono _ _ _)
      | (with_reducible exact pkt_Seal.mono _ _ _ _ _ _)
      | (with_reducible exact LeO.refl _)
      | (with_reducible exact LeO.none _)
      | (with_reducible refine LeO.ite ?_ ?_)
      | (with_reducible refine LeO.bind ?_ (fun _ => ?_))
      | exact pkt_Open.mono _ _ _
      | exact pkt_Seal.mono _ _ _ _ _ _
      | exact LeO.none _
      | refine LeO.ite ?_ ?_
      | refine LeO.bind ?_ (fun _ => ?_)
set_option maxHeartbeats 8000000 in
set_option maxRecDepth 100000 in
theorem IsS76.apartL {w0 W : World} {g : Nat} {f0 : Int} {α : Type} {d : Kd α} {e : Nat} {base : Nat} {ok : Nat → Prop} {v : Value} {xs : List α} (h : IsS76 w0 W g f0) (ho : L d e W base ok v xs) (ht : ∀ q, q ∈ e :: d.E → q ≠ 76) : L d e W base (fun k => ok k ∧ k ≠ g) v xs := L_types ho h.1 ht
theorem tiklaw25_first.calls1 (k : Nat)  (r : Bool) (w : World) (hG : LaidG w) (hrt : r = true) (h : tiklaw25_first.f k  = some r) :
    Calls Tryd.prog 10 #[] w fun e w' => e = .returned (.bool r) ∧ Below w.heap.size w w' := by
  have HG := Aside0.mk hG
  clear hG
  have hu34 := Tryd.underlying34
  have HB := Aside0.mk (Below.refl w.heap.size w)
  have H : ((some (([107] : List Int) : List Int)).bind fun y142 => ((pkt_Seal.f k y142 1 0 7 (([5] : List Int))).bind fun bt148 => ((pkt_Open.f k y142 bt148.1).bind fun bt152 => ((pkt_Open.f k (([108] : List Int)) bt148.1).bind fun bt163 => ((pkt_NewWindow.f 2).bind fun t171 => (if bt148.2 = 0 then (if (bt148.1.length : Int) = 27 then (if bt152.2.2.2.2 = 0 then (if bt152.2.2.1 = 7 then ((tikref_Bytes.f bt152.2.2.2.1 (([5] : List Int))).bind fun t176 => (if t176 = true then (if bt163.2.2.2.2 = 15 then ((pkt_Window_Take.f t171 3).bind fun bt177 => (if bt177.1 = 0 then ((pkt_Window_Take.f bt177.2 3).bind fun bt179 => (some (bt179.1 == 14))) else (some false))) else (some false)) else (some false))) else (some false)) else (some false)) else (some false)) else (some false))))))) = some r := h
  clear h
  obtain ⟨y142, hy142⟩ : ∃ y_ : List Int, y_ = (([107] : List Int)) := ⟨_, rfl⟩
  replace H : ((pkt_Seal.f k y142 1 0 7 (([5] : List Int))).bind fun bt148 => ((pkt_Open.f k y142 bt148.1).bind fun bt152 => ((pkt_Open.f k (([108] : List Int)) bt148.1).bind fun bt163 => ((pkt_NewWindow.f 2).bind fun t171 => (if bt148.2 = 0 then (if (bt148.1.length : Int) = 27 then (if bt152.2.2.2.2 = 0 then (if bt152.2.2.1 = 7 then ((tikref_Bytes.f bt152.2.2.2.1 (([5] : List Int))).bind fun t176 => (if t176 = true then (if bt163.2.2.2.2 = 15 then ((pkt_Window_Take.f t171 3).bind fun bt177 => (if bt177.1 = 0 then ((pkt_Window_Take.f bt177.2 3).bind fun bt179 => (some (bt179.1 == 14))) else (some false))) else (some false)) else (some false))) else (some false)) else (some false)) else (some false)) else (some false)))))) = some r := by first | (rw [hy142]; with_reducible exact H) | (have H2_ := (Option.bind_some _ _).symm.trans H; rw [hy142]; with_reducible exact H2_) | (have H2_ := (Option.bind_some _ _).symm.trans H; with_reducible exact H2_) | with_reducible exact H | (rw [hy142]; exact H) | exact H
  have Ny142 := Aside0.mk hy142
  clear hy142
  obtain ⟨y145, hy145⟩ : ∃ y_ : List Int, y_ = (([5] : List Int)) := ⟨_, rfl⟩
  replace H : ((pkt_Seal.f k y142 1 0 7 y145).bind fun bt148 => ((pkt_Open.f k y142 bt148.1).bind fun bt152 => ((pkt_Open.f k (([108] : List Int)) bt148.1).bind fun bt163 => ((pkt_NewWindow.f 2).bind fun t171 => (if bt148.2 = 0 then (if (bt148.1.length : Int) = 27 then (if bt152.2.2.2.2 = 0 then (if bt152.2.2.1 = 7 then ((tikref_Bytes.f bt152.2.2.2.1 (([5] : List Int))).bind fun t176 => (if t176 = true then (if bt163.2.2.2.2 = 15 then ((pkt_Window_Take.f t171 3).bind fun bt177 => (if bt177.1 = 0 then ((pkt_Window_Take.f bt177.2 3).bind fun bt179 => (some (bt179.1 == 14))) else (some false))) else (some false)) else (some false))) else (some false)) else (some false)) else (some false)) else (some false)))))) = some r := by first | (rw [hy145]; with_reducible exact H) | (have H2_ := (Option.bind_some _ _).symm.trans H; rw [hy145]; with_reducible exact H2_) | (have H2_ := (Option.bind_some _ _).symm.trans H; with_reducible exact H2_) | with_reducible exact H | (rw [hy145]; exact H) | exact H
  have Ny145 := Aside0.mk hy145
  clear hy145
  replace H := Option.bind_eq_some_iff.mp H
  obtain ⟨⟨t148, t151⟩, A10, H⟩ := H
  replace H : ((pkt_Open.f k y142 t148).bind fun bt152 => ((pkt_Open.f k (([108] : List Int)) t148).bind fun bt163 => ((pkt_NewWindow.f 2).bind fun t171 => (if t151 = 0 then (if (t148.length : Int) = 27 then (if bt152.2.2.2.2 = 0 then (if bt152.2.2.1 = 7 then ((tikref_Bytes.f bt152.2.2.2.1 (([5] : List Int))).bind fun t176 => (if t176 = true then (if bt163.2.2.2.2 = 15 then ((pkt_Window_Take.f t171 3).bind fun bt177 => (if bt177.1 = 0 then ((pkt_Window_Take.f bt177.2 3).bind fun bt179 => (some (bt179.1 == 14))) else (some false))) else (some false)) else (some false))) else (some false)) else (some false)) else (some false)) else (some false))))) = some r := H
  have A1 := Aside0.mk A10
  clear A10
  replace H := Option.bind_eq_some_iff.mp H
  obtain ⟨⟨t152, t153, t154, t155, t158⟩, A20, H⟩ := H
  replace H : ((pkt_Open.f k (([108] : List Int)) t148).bind fun bt163 => ((pkt_NewWindow.f 2).bind fun t171 => (if t151 = 0 then (if (t148.length : Int) = 27 then (if t158 = 0 then (if t154 = 7 then ((tikref_Bytes.f t155 (([5] : List Int))).bind fun t176 => (if t176 = true then (if bt163.2.2.2.2 = 15 then ((pkt_Window_Take.f t171 3).bind fun bt177 => (if bt177.1 = 0 then ((pkt_Window_Take.f bt177.2 3).bind fun bt179 => (some (bt179.1 == 14))) else (some false))) else (some false)) else (some false))) else (some false)) else (some false)) else (some false)) else (some false)))) = some r := H
  have A2 := Aside0.mk A20
  clear A20
  obtain ⟨y160, hy160⟩ : ∃ y_ : List Int, y_ = (([108] : List Int)) := ⟨_, rfl⟩
  replace H : ((pkt_Open.f k y160 t148).bind fun bt163 => ((pkt_NewWindow.f 2).bind fun t171 => (if t151 = 0 then (if (t148.length : Int) = 27 then (if t158 = 0 then (if t154 = 7 then ((tikref_Bytes.f t155 (([5] : List Int))).bind fun t176 => (if t176 = true then (if bt163.2.2.2.2 = 15 then ((pkt_Window_Take.f t171 3).bind fun bt177 => (if bt177.1 = 0 then ((pkt_Window_Take.f bt177.2 3).bind fun bt179 => (some (bt179.1 == 14))) else (some false))) else (some false)) else (some false))) else (some false)) else (some false)) else (some false)) else (some false)))) = some r := by first | (rw [hy160]; with_reducible exact H) | (have H2_ := (Option.bind_some _ _).symm.trans H; rw [hy160]; with_reducible exact H2_) | (have H2_ := (Option.bind_some _ _).symm.trans H; with_reducible exact H2_) | with_reducible exact H | (rw [hy160]; exact H) | exact H
  have Ny160 := Aside0.mk hy160
  clear hy160
  replace H := Option.bind_eq_some_iff.mp H
  obtain ⟨⟨t163, t164, t165, t166, t169⟩, A30, H⟩ := H
  replace H : ((pkt_NewWindow.f 2).bind fun t171 => (if t151 = 0 then (if (t148.length : Int) = 27 then (if t158 = 0 then (if t154 = 7 then ((tikref_Bytes.f t155 (([5] : List Int))).bind fun t176 => (if t176 = true then (if t169 = 15 then ((pkt_Window_Take.f t171 3).bind fun bt177 => (if bt177.1 = 0 then ((pkt_Window_Take.f bt177.2 3).bind fun bt179 => (some (bt179.1 == 14))) else (some false))) else (some false)) else (some false))) else (some false)) else (some false)) else (some false)) else (some false))) = some r := H
  have A3 := Aside0.mk A30
  clear A30
  replace H := Option.bind_eq_some_iff.mp H
  obtain ⟨t171, A40, H⟩ := H
  replace H : (if t151 = 0 then (if (t148.length : Int) = 27 then (if t158 = 0 then (if t154 = 7 then ((tikref_Bytes.f t155 (([5] : List Int))).bind fun t176 => (if t176 = true then (if t169 = 15 then ((pkt_Window_Take.f t171 3).bind fun bt177 => (if bt177.1 = 0 then ((pkt_Window_Take.f bt177.2 3).bind fun bt179 => (some (bt179.1 == 14))) else (some false))) else (some false)) else (some false))) else (some false)) else (some false)) else (some false)) else (some false)) = some r := H
  have A4 := Aside0.mk A40
  clear A40
  by_cases c5 : t151 = 0
  · rw [if_pos c5] at H
    have c5b0 : (t151 == 0) = true := beq_iff_eq.mpr c5
    have c5b1 : (t151 != 0) = false := bne_eq_false_iff_eq.mpr c5
    clear c5
    by_cases c6 : (t148.length : Int) = 27
    · rw [if_pos c6] at H
      have c6b0 : ((t148.length : Int) == 27) = true := beq_iff_eq.mpr c6
      have c6b1 : ((t148.length : Int) != 27) = false := bne_eq_false_iff_eq.mpr c6
      clear c6
      by_cases c7 : t158 = 0
      · rw [if_pos c7] at H
        have c7b0 : (t158 == 0) = true := beq_iff_eq.mpr c7
        have c7b1 : (t158 != 0) = false := bne_eq_false_iff_eq.mpr c7
        clear c7
        by_cases c8 : t154 = 7
        · rw [if_pos c8] at H
          have c8b0 : (t154 == 7) = true := beq_iff_eq.mpr c8
          have c8b1 : (t154 != 7) = false := bne_eq_false_iff_eq.mpr c8
          clear c8
          obtain ⟨y173, hy173⟩ : ∃ y_ : List Int, y_ = (([5] : List Int)) := ⟨_, rfl⟩
          replace H : ((tikref_Bytes.f t155 y173).bind fun t176 => (if t176 = true then (if t169 = 15 then ((pkt_Window_Take.f t171 3).bind fun bt177 => (if bt177.1 = 0 then ((pkt_Window_Take.f bt177.2 3).bind fun bt179 => (some (bt179.1 == 14))) else (some false))) else (some false)) else (some false))) = some r := by first | (rw [hy173]; with_reducible exact H) | (have H2_ := (Option.bind_some _ _).symm.trans H; rw [hy173]; with_reducible exact H2_) | (have H2_ := (Option.bind_some _ _).symm.trans H; with_reducible exact H2_) | with_reducible exact H | (rw [hy173]; exact H) | exact H
          have Ny173 := Aside0.mk hy173
          clear hy173
          replace H := Option.bind_eq_some_iff.mp H
          obtain ⟨t176, A90, H⟩ := H
          replace H : (if t176 = true then (if t169 = 15 then ((pkt_Window_Take.f t171 3).bind fun bt177 => (if bt177.1 = 0 then ((pkt_Window_Take.f bt177.2 3).bind fun bt179 => (some (bt179.1 == 14))) else (some false))) else (some false)) else (some false)) = some r := H
          have A9 := Aside0.mk A90
          clear A90
          by_cases c10 : t176 = true
          · subst c10
            have H1 : (if t169 = 15 then ((pkt_Window_Take.f t171 3).bind fun bt177 => (if bt177.1 = 0 then ((pkt_Window_Take.f bt177.2 3).bind fun bt179 => (some (bt179.1 == 14))) else (some false))) else (some false)) = some r := by rw [if_pos rfl] at H; exact H
            clear H
            have H := H1
            clear H1
            by_cases c11 : t169 = 15
            · rw [if_pos c11] at H
              have c11b0 : (t169 == 15) = true := beq_iff_eq.mpr c11
              have c11b1 : (t169 != 15) = false := bne_eq_false_iff_eq.mpr c11
              clear c11
              replace H := Option.bind_eq_some_iff.mp H
              obtain ⟨⟨t177, t178⟩, A120, H⟩ := H
              replace H : (if t177 = 0 then ((pkt_Window_Take.f t178 3).bind fun bt179 => (some (bt179.1 == 14))) else (some false)) = some r := H
              have A12 := Aside0.mk A120
              clear A120
              by_cases c13 : t177 = 0
              · rw [if_pos c13] at H
                have c13b0 : (t177 == 0) = true := beq_iff_eq.mpr c13
                have c13b1 : (t177 != 0) = false := bne_eq_false_iff_eq.mpr c13
                clear c13
                replace H := Option.bind_eq_some_iff.mp H
                obtain ⟨⟨t179, t180⟩, A140, H⟩ := H
                replace H : (some (t179 == 14)) = some r := H
                have A14 := Aside0.mk A140
                clear A140
                obtain rfl := Option.some.inj H
                go_enter Tryd.func10, Tryd.ntmps10
                go_wp2_with (first | ((with_reducible refine gate_dst (N := 9) rfl ?_); (try (refine gate_guard (by rfl) ?_; dsimp only)); refine L_lit (N := 9) (M := 10) 5 32 ?hg ?hg2 ?hd ?hd2 107 ?hr ?ho2 Tryd.underlying32 Tryd.underlying5 ?hn ?_; (case hg => rfl); (case hg2 => rfl); (case hd => rfl); (case hd2 => rfl); (case ho2 => rfl); (case hn => simp); (case hr => first | (go_simp; done) | (go_simp; rfl) | (go_simp; simp [IntKind.wrap_u32, show IntKind.u32.max = 4294967295 from rfl]; done)); intro v143 w15 ho16 hb; (first | rw [← Ny142.out] at ho16 | (simp only [Int.reduceToNat] at ho16; rw [← Ny142.out] at ho16)); have n0_ := Aside0.mk (L_lower ho16 (below_size (by repeat (first | (with_reducible first | exact HB.out | apply below_alloc | apply pw_below_drewN | apply below_drew1) | exact HB.out)))); have n1_ := Aside0.mk (below_step (by repeat (first | (with_reducible first | exact HB.out | apply below_alloc | apply pw_below_drewN | apply below_drew1) | exact HB.out)) hb); clear HB; have HO144 := n0_; have HB := n1_; clear n0_ n1_; clear hb ho16; obtain ⟨Ao20, co20, eo20⟩ := L_slice HO144.out; subst eo20) | ((with_reducible refine gate_dst (N := 13) rfl ?_); (try (refine gate_guard (by rfl) ?_; dsimp only)); refine Kd.R_lit (Kd.int .u8) _ 5 ?hg (N := 13) ?hd (xs := ([5] : List Int)) (inner := [.int .u8 5]) (ok := fun _ => True) (okp := fun _ => True) ?hr ?hp (fun _ hk => hk) trivial (Below.refl _ _) (Nat.le_refl _) (by simp) ?_; (case hd => rfl); (case hg => rfl); (case hr => first | (go_simp; done) | (go_simp; rfl) | (go_simp; simp [IntKind.wrap_u32, show IntKind.u32.max = 4294967295 from rfl]; done)); (case hp => exact (Reps.one (show Kd.M (Kd.int .u8) _ _ _ 5 [.int .u8 5] from rfl) (Reps.none _ _))); intro v146 w17 ho18 hb hg_ hnew_; clear hg_ hnew_; (first | rw [← Ny145.out] at ho18 | (simp only [Int.reduceToNat] at ho18; rw [← Ny145.out] at ho18)); have n0_ := Aside0.mk (L_elder' (by (with_reducible repeat (first | apply L_alloc | apply L_drewN | apply L_drew)); exact HO144.out) (Kd.R_base ho18) hb); have n1_ := Aside0.mk (Kd.R_lower (Kd.R_new' ho18 (L_lt (by (with_reducible repeat (first | apply L_alloc | apply L_drewN | apply L_drew)); exact HO144.out))) (below_size (by repeat (first | (with_reducible first | exact HB.out | apply below_alloc | apply pw_below_drewN | apply below_drew1) | exact HB.out)))); have n2_ := Aside0.mk (below_step (by repeat (first | (with_reducible first | exact HB.out | apply below_alloc | apply pw_below_drewN | apply below_drew1) | exact HB.out)) hb); clear HO144; clear HB; have HO144 := n0_; have HO147 := n1_; have HB := n2_; clear n0_ n1_ n2_; clear hb ho18; obtain ⟨Ao19, co19, eo19⟩ := Kd.R_slice HO147.out; subst eo19) | ((with_reducible refine gate_callee (f := 15) rfl ?_); refine goesL_ (some 15) rfl rfl Tryd.func15 (by kernel_rfl) rfl #[.slice Ao20 y142.length co20, .agg #[.int .i64 1, .int .i64 0, .int .u64 7, .slice Ao19 y145.length co19]] rfl (by (try simp only [List.map_toArray, List.map_cons, List.map_nil]); first | done | rfl | (simp only [List.length_drop, List.length_take]; rfl)) ?_; (with_reducible refine (pkt_Seal.calls k _ _ y142 1 0 7 _ _ y145 t148 t151 _ ?side1 ?side2 ?side3 ?side4 ?side5 A1.out).mono ?_); (case side1 => repeat (first | exact (L_reads' HO144.out).2.2 | (with_reducible refine Kd.C_alloc ?_ _) | (with_reducible refine Kd.C_drewN ?_ _) | (with_reducible refine Kd.C_drew ?_))); (case side2 => exact (L_reads' HO144.out).2.1); (case side3 => repeat (first | exact (Kd.R_reads' HO147.out).2.2 | (with_reducible refine Kd.C_alloc ?_ _) | (with_reducible refine Kd.C_drewN ?_ _) | (with_reducible refine Kd.C_drew ?_))); (case side4 => exact (Kd.R_reads' HO147.out).2.1); (case side5 => first | exact HG.out | exact LaidG.below HG.out (by repeat (first | (with_reducible first | exact HB.out | apply below_alloc | apply pw_below_drewN | apply below_drew1) | exact HB.out)) | exact LaidG.at HG.out (by assumption)); rintro e w21 ⟨v149, rfl, ho0, hb⟩; refine ⟨_, rfl, ?_⟩; have n0_ := Aside0.mk (L_elder' (by (with_reducible repeat (first | apply L_alloc | apply L_drewN | apply L_drew)); exact HO144.out) (Kd.R_base ho0) hb); have n1_ := Aside0.mk (Kd.R_elder' (by (with_reducible repeat (first | apply Kd.R_alloc | apply Kd.R_drewN | apply Kd.R_drew)); exact HO147.out) (Kd.R_base ho0) hb); have n2_ := Aside0.mk (Kd.R_lower (Kd.R_new' (Kd.R_new' ho0 (L_lt (by (with_reducible repeat (first | apply L_alloc | apply L_drewN | apply L_drew)); exact HO144.out))) (Kd.R_lt (by (with_reducible repeat (first | apply Kd.R_alloc | apply Kd.R_drewN | apply Kd.R_drew)); exact HO147.out))) (below_size (by repeat (first | (with_reducible first | exact HB.out | apply below_alloc | apply pw_below_drewN | apply below_drew1) | exact HB.out)))); have n3_ := Aside0.mk (below_step (by repeat (first | (with_reducible first | exact HB.out | apply below_alloc | apply pw_below_drewN | apply below_drew1) | exact HB.out)) hb); clear HO144; clear HO147; clear HB; have HO144 := n0_; have HO147 := n1_; have HO150 := n2_; have HB := n3_; clear n0_ n1_ n2_ n3_; (try clear hb); (try clear hb2); (try clear hk); (try clear hi); (try clear ho0); obtain ⟨Ao22, co22, eo22⟩ := Kd.R_slice HO150.out; subst eo22) | ((with_reducible refine gate_callee (f := 18) rfl ?_); refine goesL_ (some 21) rfl rfl Tryd.func18 (by kernel_rfl) rfl #[.slice Ao20 y142.length co20, .slice Ao22 t148.length co22] rfl (by (try simp only [List.map_toArray, List.map_cons, List.map_nil]); first | done | rfl | (simp only [List.length_drop, List.length_take]; rfl)) ?_; (with_reducible refine (pkt_Open.calls k _ _ y142 (fun k_ => some k_ = (.slice Ao22 t148.length co22 : Value).ownBlock) _ _ t148 t152 t153 t154 t155 t158 _ ?side1 ?side2 ?side3 ?side4 A2.out).mono ?_); (case side1 => repeat (first | exact (L_reads' HO144.out).2.2 | (with_reducible refine Kd.C_alloc ?_ _) | (with_reducible refine Kd.C_drewN ?_ _) | (with_reducible refine Kd.C_drew ?_))); (case side2 => exact (L_reads' HO144.out).2.1); (case side3 => exact Kd.R_V (Kd.R_tight rfl (HO150.out))); (case side4 => first | exact HG.out | exact LaidG.below HG.out (by repeat (first | (with_reducible first | exact HB.out | apply below_alloc | apply pw_below_drewN | apply below_drew1) | exact HB.out)) | exact LaidG.at HG.out (by assumption)); rintro e w23 ⟨v156, rfl, ho0, hb⟩; refine ⟨_, rfl, ?_⟩; have n0_ := Aside0.mk (L_elder' (by (with_reducible repeat (first | apply L_alloc | apply L_drewN | apply L_drew)); exact HO144.out) (Kd.R_base ho0) hb); have n1_ := Aside0.mk (Kd.R_elder' (by (with_reducible repeat (first | apply Kd.R_alloc | apply Kd.R_drewN | apply Kd.R_drew)); exact HO147.out) (Kd.R_base ho0) hb); have n2_ := Aside0.mk (Kd.R_elder' (by (with_reducible repeat (first | apply Kd.R_alloc | apply Kd.R_drewN | apply Kd.R_drew)); exact HO150.out) (Kd.R_base ho0) hb); have n3_ := Aside0.mk (Kd.R_lower (Kd.R_new' (Kd.R_new' (Kd.R_new' (Kd.R_mono (ok' := fun k_ => True) ho0 (fun _ hk_ => trivial)) (L_lt (by (with_reducible repeat (first | apply L_alloc | apply L_drewN | apply L_drew)); exact HO144.out))) (Kd.R_lt (by (with_reducible repeat (first | apply Kd.R_alloc | apply Kd.R_drewN | apply Kd.R_drew)); exact HO147.out))) (Kd.R_lt (by (with_reducible repeat (first | apply Kd.R_alloc | apply Kd.R_drewN | apply Kd.R_drew)); exact HO150.out))) (below_size (by repeat (first | (with_reducible first | exact HB.out | apply below_alloc | apply pw_below_drewN | apply below_drew1) | exact HB.out)))); have n4_ := Aside0.mk (below_step (by repeat (first | (with_reducible first | exact HB.out | apply below_alloc | apply pw_below_drewN | apply below_drew1) | exact HB.out)) hb); clear HO144; clear HO147; clear HO150; clear HB; have HO144 := n0_; have HO147 := n1_; have HO150 := n2_; have HO157 := n3_; have HB := n4_; clear n0_ n1_ n2_ n3_ n4_; (try clear hb); (try clear hb2); (try clear hk); (try clear hi); (try clear ho0)) | ((with_reducible refine gate_dst (N := 4) rfl ?_); (try (refine gate_guard (by rfl) ?_; dsimp only)); refine box_event ?hg (N := 4) ?hd (cs := #[.int .i64 0, .int .i64 0, .int .u64 0, .slice none 0 0]) (t := 34) ?hr ?_; (case hd => rfl); (case hg => rfl); (case hr => first | (go_simp; done) | (go_simp; rfl) | (go_simp; simp [IntKind.wrap_u32, show IntKind.u32.max = 4294967295 from rfl]; done)); intro gb159 hg w24 hbox hb; have n0_ := Aside0.mk (L_below (by (with_reducible repeat (first | apply L_alloc | apply L_drewN | apply L_drew)); exact HO144.out) hb); have n1_ := Aside0.mk (Kd.R_below (by (with_reducible repeat (first | apply Kd.R_alloc | apply Kd.R_drewN | apply Kd.R_drew)); exact HO147.out) hb); have n2_ := Aside0.mk (Kd.R_below (by (with_reducible repeat (first | apply Kd.R_alloc | apply Kd.R_drewN | apply Kd.R_drew)); exact HO150.out) hb); have n3_ := Aside0.mk (Kd.R_below (by (with_reducible repeat (first | apply Kd.R_alloc | apply Kd.R_drewN | apply Kd.R_drew)); exact HO157.out) hb); have n4_ := Aside0.mk (below_step (by repeat (first | (with_reducible first | exact HB.out | apply below_alloc | apply pw_below_drewN | apply below_drew1) | exact HB.out)) hb); have n5_ := Aside0.mk (hbox); have n6_ := Aside0.mk ((by rw [hg]; exact (below_size (by repeat (first | (with_reducible first | exact HB.out | apply below_alloc | apply pw_below_drewN | apply below_drew1) | exact HB.out))) : w.heap.size ≤ gb159)); have n7_ := Aside0.mk ((by rw [hg]; exact (below_size (by repeat (first | (with_reducible first | exact HB.out | apply below_alloc | apply pw_below_drewN | apply below_drew1) | exact HB.out))) : w.heap.size ≤ gb159)); clear HO144; clear HO147; clear HO150; clear HO157; clear HB; have HO144 := n0_; have HO147 := n1_; have HO150 := n2_; have HO157 := n3_; have HB := n4_; have BK159 := n5_; have GW159 := n6_; have GE159 := n7_; clear n0_ n1_ n2_ n3_ n4_ n5_ n6_ n7_; clear hb hbox hg; have hcz25_0 : w24.cell? ⟨gb159, 0, none⟩ = some (.int .i64 0) := (blk_cell BK159.out 0).trans rfl; have hcz25_1 : w24.cell? ⟨gb159, 1, none⟩ = some (.int .i64 0) := (blk_cell BK159.out 1).trans rfl; have hcz25_2 : w24.cell? ⟨gb159, 2, none⟩ = some (.int .u64 0) := (blk_cell BK159.out 2).trans rfl; have hcz25_3 : w24.cell? ⟨gb159, 3, none⟩ = some (.slice none 0 0) := (blk_cell BK159.out 3).trans rfl; have hfz25_0 := blk_frozen BK159.out 0; have hfz25_1 := blk_frozen BK159.out 1; have hfz25_2 := blk_frozen BK159.out 2; have hfz25_3 := blk_frozen BK159.out 3; obtain ⟨Ao26, co26, eo26⟩ := Kd.R_slice HO157.out; subst eo26) | ((with_reducible refine gate_dst (N := 25) rfl ?_); (try (refine gate_guard (by rfl) ?_; dsimp only)); refine L_lit (N := 25) (M := 26) 5 32 ?hg ?hg2 ?hd ?hd2 108 ?hr ?ho2 Tryd.underlying32 Tryd.underlying5 ?hn ?_; (case hg => rfl); (case hg2 => rfl); (case hd => rfl); (case hd2 => rfl); (case ho2 => rfl); (case hn => simp); (case hr => first | (go_simp; done) | (go_simp; rfl) | (go_simp; simp [IntKind.wrap_u32, show IntKind.u32.max = 4294967295 from rfl]; done)); intro v161 w27 ho28 hb; (first | rw [← Ny160.out] at ho28 | (simp only [Int.reduceToNat] at ho28; rw [← Ny160.out] at ho28)); have n0_ := Aside0.mk (L_elder' (by (with_reducible repeat (first | apply L_alloc | apply L_drewN | apply L_drew)); exact (L_mono (L_far (p := ⟨gb159, 3, none⟩) (L_far (p := ⟨gb159, 2, none⟩) (L_far (p := ⟨gb159, 1, none⟩) (L_far (p := ⟨gb159, 0, none⟩) (L_types HO144.out BK159.out (by decide)) (fun _ hk => hk.2) (.int .i64 t152)) (fun _ hk => hk.2) (.int .i64 t153)) (fun _ hk => hk.2) (.int .u64 t154)) (fun _ hk => hk.2) (.slice Ao26 t155.length co26)) (fun _ h_ => h_.1))) (L_base ho28) hb); have n1_ := Aside0.mk (Kd.R_elder' (by (with_reducible repeat (first | apply Kd.R_alloc | apply Kd.R_drewN | apply Kd.R_drew)); exact (Kd.R_mono (Kd.R_far (p := ⟨gb159, 3, none⟩) (Kd.R_far (p := ⟨gb159, 2, none⟩) (Kd.R_far (p := ⟨gb159, 1, none⟩) (Kd.R_far (p := ⟨gb159, 0, none⟩) (Kd.R_types HO147.out BK159.out (by decide)) (fun _ hk => hk.2) (.int .i64 t152)) (fun _ hk => hk.2) (.int .i64 t153)) (fun _ hk => hk.2) (.int .u64 t154)) (fun _ hk => hk.2) (.slice Ao26 t155.length co26)) (fun _ h_ => h_.1))) (L_base ho28) hb); have n2_ := Aside0.mk (Kd.R_elder' (by (with_reducible repeat (first | apply Kd.R_alloc | apply Kd.R_drewN | apply Kd.R_drew)); exact (Kd.R_mono (Kd.R_far (p := ⟨gb159, 3, none⟩) (Kd.R_far (p := ⟨gb159, 2, none⟩) (Kd.R_far (p := ⟨gb159, 1, none⟩) (Kd.R_far (p := ⟨gb159, 0, none⟩) (Kd.R_types HO150.out BK159.out (by decide)) (fun _ hk => hk.2) (.int .i64 t152)) (fun _ hk => hk.2) (.int .i64 t153)) (fun _ hk => hk.2) (.int .u64 t154)) (fun _ hk => hk.2) (.slice Ao26 t155.length co26)) (fun _ h_ => h_.1))) (L_base ho28) hb); have n3_ := Aside0.mk (Kd.R_elder' (by (with_reducible repeat (first | apply Kd.R_alloc | apply Kd.R_drewN | apply Kd.R_drew)); exact (Kd.R_mono (Kd.R_far (p := ⟨gb159, 3, none⟩) (Kd.R_far (p := ⟨gb159, 2, none⟩) (Kd.R_far (p := ⟨gb159, 1, none⟩) (Kd.R_far (p := ⟨gb159, 0, none⟩) (Kd.R_types HO157.out BK159.out (by decide)) (fun _ hk => hk.2) (.int .i64 t152)) (fun _ hk => hk.2) (.int .i64 t153)) (fun _ hk => hk.2) (.int .u64 t154)) (fun _ hk => hk.2) (.slice Ao26 t155.length co26)) (fun _ h_ => h_.1))) (L_base ho28) hb); have n4_ := Aside0.mk (L_lower (L_new' (L_new' (L_new' (L_new' ho28 (L_lt (by (with_reducible repeat (first | apply L_alloc | apply L_drewN | apply L_drew)); exact (L_mono (L_far (p := ⟨gb159, 3, none⟩) (L_far (p := ⟨gb159, 2, none⟩) (L_far (p := ⟨gb159, 1, none⟩) (L_far (p := ⟨gb159, 0, none⟩) (L_types HO144.out BK159.out (by decide)) (fun _ hk => hk.2) (.int .i64 t152)) (fun _ hk => hk.2) (.int .i64 t153)) (fun _ hk => hk.2) (.int .u64 t154)) (fun _ hk => hk.2) (.slice Ao26 t155.length co26)) (fun _ h_ => h_.1))))) (Kd.R_lt (by (with_reducible repeat (first | apply Kd.R_alloc | apply Kd.R_drewN | apply Kd.R_drew)); exact (Kd.R_mono (Kd.R_far (p := ⟨gb159, 3, none⟩) (Kd.R_far (p := ⟨gb159, 2, none⟩) (Kd.R_far (p := ⟨gb159, 1, none⟩) (Kd.R_far (p := ⟨gb159, 0, none⟩) (Kd.R_types HO147.out BK159.out (by decide)) (fun _ hk => hk.2) (.int .i64 t152)) (fun _ hk => hk.2) (.int .i64 t153)) (fun _ hk => hk.2) (.int .u64 t154)) (fun _ hk => hk.2) (.slice Ao26 t155.length co26)) (fun _ h_ => h_.1))))) (Kd.R_lt (by (with_reducible repeat (first | apply Kd.R_alloc | apply Kd.R_drewN | apply Kd.R_drew)); exact (Kd.R_mono (Kd.R_far (p := ⟨gb159, 3, none⟩) (Kd.R_far (p := ⟨gb159, 2, none⟩) (Kd.R_far (p := ⟨gb159, 1, none⟩) (Kd.R_far (p := ⟨gb159, 0, none⟩) (Kd.R_types HO150.out BK159.out (by decide)) (fun _ hk => hk.2) (.int .i64 t152)) (fun _ hk => hk.2) (.int .i64 t153)) (fun _ hk => hk.2) (.int .u64 t154)) (fun _ hk => hk.2) (.slice Ao26 t155.length co26)) (fun _ h_ => h_.1))))) (Kd.R_lt (by (with_reducible repeat (first | apply Kd.R_alloc | apply Kd.R_drewN | apply Kd.R_drew)); exact (Kd.R_mono (Kd.R_far (p := ⟨gb159, 3, none⟩) (Kd.R_far (p := ⟨gb159, 2, none⟩) (Kd.R_far (p := ⟨gb159, 1, none⟩) (Kd.R_far (p := ⟨gb159, 0, none⟩) (Kd.R_types HO157.out BK159.out (by decide)) (fun _ hk => hk.2) (.int .i64 t152)) (fun _ hk => hk.2) (.int .i64 t153)) (fun _ hk => hk.2) (.int .u64 t154)) (fun _ hk => hk.2) (.slice Ao26 t155.length co26)) (fun _ h_ => h_.1))))) (below_size (by repeat (first | (with_reducible first | exact HB.out | apply below_alloc | apply pw_below_drewN | apply below_drew1 | refine below_set ?_ GE159.out) | exact HB.out)))); have n5_ := Aside0.mk (blk_below (g := gb159) (o := .cells #[.int .i64 t152, .int .i64 t153, .int .u64 t154, .slice Ao26 t155.length co26] 34 (0, 0)) (by (with_reducible repeat (first | refine blk_drewN ?_ _ | refine blk_drew ?_ | refine blk_alloc ?_ _)); refine blk_put (cs := #[.int .i64 t152, .int .i64 t153, .int .u64 t154, .slice none 0 0]) ?_ 3 _ rfl; (with_reducible repeat (first | refine blk_drewN ?_ _ | refine blk_drew ?_ | refine blk_alloc ?_ _)); refine blk_put (cs := #[.int .i64 t152, .int .i64 t153, .int .u64 0, .slice none 0 0]) ?_ 2 _ rfl; (with_reducible repeat (first | refine blk_drewN ?_ _ | refine blk_drew ?_ | refine blk_alloc ?_ _)); refine blk_put (cs := #[.int .i64 t152, .int .i64 0, .int .u64 0, .slice none 0 0]) ?_ 1 _ rfl; (with_reducible repeat (first | refine blk_drewN ?_ _ | refine blk_drew ?_ | refine blk_alloc ?_ _)); refine blk_put (cs := #[.int .i64 0, .int .i64 0, .int .u64 0, .slice none 0 0]) ?_ 0 _ rfl; (with_reducible repeat (first | refine blk_drewN ?_ _ | refine blk_drew ?_ | refine blk_alloc ?_ _)); exact BK159.out) hb); have n6_ := Aside0.mk (below_step (by repeat (first | (with_reducible first | exact HB.out | apply below_alloc | apply pw_below_drewN | apply below_drew1 | refine below_set ?_ GE159.out) | exact HB.out)) hb); clear HO144; clear HO147; clear HO150; clear HO157; clear BK159; clear HB; have HO144 := n0_; have HO147 := n1_; have HO150 := n2_; have HO157 := n3_; have HO162 := n4_; have BK159 := n5_; have HB := n6_; clear n0_ n1_ n2_ n3_ n4_ n5_ n6_; clear hb ho28; obtain ⟨Ao29, co29, eo29⟩ := L_slice HO162.out; subst eo29) | ((with_reducible refine gate_callee (f := 18) rfl ?_); refine goesL_ (some 28) rfl rfl Tryd.func18 (by kernel_rfl) rfl #[.slice Ao29 y160.length co29, .slice Ao22 t148.length co22] rfl (by (try simp only [List.map_toArray, List.map_cons, List.map_nil]); first | done | rfl | (simp only [List.length_drop, List.length_take]; rfl)) ?_; (with_reducible refine (pkt_Open.calls k _ _ y160 (fun k_ => some k_ = (.slice Ao22 t148.length co22 : Value).ownBlock) _ _ t148 t163 t164 t165 t166 t169 _ ?side1 ?side2 ?side3 ?side4 A3.out).mono ?_); (case side1 => repeat (first | exact (L_reads' HO162.out).2.2 | (with_reducible refine Kd.C_alloc ?_ _) | (with_reducible refine Kd.C_drewN ?_ _) | (with_reducible refine Kd.C_drew ?_))); (case side2 => exact (L_reads' HO162.out).2.1); (case side3 => exact Kd.R_V (Kd.R_tight rfl (Kd.R_types (HO150.out) BK159.out (by decide)))); (case side4 => first | exact HG.out | exact LaidG.below HG.out (by repeat (first | (with_reducible first | exact HB.out | apply below_alloc | apply pw_below_drewN | apply below_drew1) | exact HB.out)) | exact LaidG.at HG.out (by assumption)); rintro e w30 ⟨v167, rfl, ho0, hb⟩; refine ⟨_, rfl, ?_⟩; have n0_ := Aside0.mk (L_elder' (by (with_reducible repeat (first | apply L_alloc | apply L_drewN | apply L_drew)); exact HO144.out) (Kd.R_base ho0) hb); have n1_ := Aside0.mk (Kd.R_elder' (by (with_reducible repeat (first | apply Kd.R_alloc | apply Kd.R_drewN | apply Kd.R_drew)); exact HO147.out) (Kd.R_base ho0) hb); have n2_ := Aside0.mk (Kd.R_elder' (by (with_reducible repeat (first | apply Kd.R_alloc | apply Kd.R_drewN | apply Kd.R_drew)); exact HO150.out) (Kd.R_base ho0) hb); have n3_ := Aside0.mk (Kd.R_elder' (by (with_reducible repeat (first | apply Kd.R_alloc | apply Kd.R_drewN | apply Kd.R_drew)); exact HO157.out) (Kd.R_base ho0) hb); have n4_ := Aside0.mk (L_elder' (by (with_reducible repeat (first | apply L_alloc | apply L_drewN | apply L_drew)); exact HO162.out) (Kd.R_base ho0) hb); have n5_ := Aside0.mk (Kd.R_lower (Kd.R_new' (Kd.R_new' (Kd.R_new' (Kd.R_new' (Kd.R_new' (Kd.R_mono (ok' := fun k_ => True) ho0 (fun _ hk_ => trivial)) (L_lt (by (with_reducible repeat (first | apply L_alloc | apply L_drewN | apply L_drew)); exact HO144.out))) (Kd.R_lt (by (with_reducible repeat (first | apply Kd.R_alloc | apply Kd.R_drewN | apply Kd.R_drew)); exact HO147.out))) (Kd.R_lt (by (with_reducible repeat (first | apply Kd.R_alloc | apply Kd.R_drewN | apply Kd.R_drew)); exact HO150.out))) (Kd.R_lt (by (with_reducible repeat (first | apply Kd.R_alloc | apply Kd.R_drewN | apply Kd.R_drew)); exact HO157.out))) (L_lt (by (with_reducible repeat (first | apply L_alloc | apply L_drewN | apply L_drew)); exact HO162.out))) (below_size (by repeat (first | (with_reducible first | exact HB.out | apply below_alloc | apply pw_below_drewN | apply below_drew1 | refine below_set ?_ GE159.out) | exact HB.out)))); have n6_ := Aside0.mk (blk_below (g := gb159) (o := .cells #[.int .i64 t152, .int .i64 t153, .int .u64 t154, .slice Ao26 t155.length co26] 34 (0, 0)) (by (with_reducible repeat (first | refine blk_drewN ?_ _ | refine blk_drew ?_ | refine blk_alloc ?_ _)); exact BK159.out) hb); have n7_ := Aside0.mk (below_step (by repeat (first | (with_reducible first | exact HB.out | apply below_alloc | apply pw_below_drewN | apply below_drew1 | refine below_set ?_ GE159.out) | exact HB.out)) hb); clear HO144; clear HO147; clear HO150; clear HO157; clear HO162; clear BK159; clear HB; have HO144 := n0_; have HO147 := n1_; have HO150 := n2_; have HO157 := n3_; have HO162 := n4_; have HO168 := n5_; have BK159 := n6_; have HB := n7_; clear n0_ n1_ n2_ n3_ n4_ n5_ n6_ n7_; (try clear hb); (try clear hb2); (try clear hk); (try clear hi); (try clear ho0)) | ((with_reducible refine gate_dst (N := 6) rfl ?_); (try (refine gate_guard (by rfl) ?_; dsimp only)); refine box_event ?hg (N := 6) ?hd (cs := #[.int .i64 0, .int .i64 0, .int .u64 0, .slice none 0 0]) (t := 34) ?hr ?_; (case hd => rfl); (case hg => rfl); (case hr => first | (go_simp; done) | (go_simp; rfl) | (go_simp; simp [IntKind.wrap_u32, show IntKind.u32.max = 4294967295 from rfl]; done)); intro gb170 hg w31 hbox hb; have n0_ := Aside0.mk (L_below (by (with_reducible repeat (first | apply L_alloc | apply L_drewN | apply L_drew)); exact HO144.out) hb); have n1_ := Aside0.mk (Kd.R_below (by (with_reducible repeat (first | apply Kd.R_alloc | apply Kd.R_drewN | apply Kd.R_drew)); exact HO147.out) hb); have n2_ := Aside0.mk (Kd.R_below (by (with_reducible repeat (first | apply Kd.R_alloc | apply Kd.R_drewN | apply Kd.R_drew)); exact HO150.out) hb); have n3_ := Aside0.mk (Kd.R_below (by (with_reducible repeat (first | apply Kd.R_alloc | apply Kd.R_drewN | apply Kd.R_drew)); exact HO157.out) hb); have n4_ := Aside0.mk (L_below (by (with_reducible repeat (first | apply L_alloc | apply L_drewN | apply L_drew)); exact HO162.out) hb); have n5_ := Aside0.mk (Kd.R_below (by (with_reducible repeat (first | apply Kd.R_alloc | apply Kd.R_drewN | apply Kd.R_drew)); exact HO168.out) hb); have n6_ := Aside0.mk (blk_below (g := gb159) (o := .cells #[.int .i64 t152, .int .i64 t153, .int .u64 t154, .slice Ao26 t155.length co26] 34 (0, 0)) (by (with_reducible repeat (first | refine blk_drewN ?_ _ | refine blk_drew ?_ | refine blk_alloc ?_ _)); exact BK159.out) hb); have n7_ := Aside0.mk (below_step (by repeat (first | (with_reducible first | exact HB.out | apply below_alloc | apply pw_below_drewN | apply below_drew1 | refine below_set ?_ GE159.out) | exact HB.out)) hb); have n8_ := Aside0.mk (hbox); have n9_ := Aside0.mk ((by rw [hg]; exact (below_size (by repeat (first | (with_reducible first | exact HB.out | apply below_alloc | apply pw_below_drewN | apply below_drew1 | refine below_set ?_ GE159.out) | exact HB.out))) : w.heap.size ≤ gb170)); have n10_ := Aside0.mk ((by rw [hg]; exact (below_size (by repeat (first | (with_reducible first | exact HB.out | apply below_alloc | apply pw_below_drewN | apply below_drew1 | refine below_set ?_ GE159.out) | exact HB.out))) : w.heap.size ≤ gb170)); have n11_ := Aside0.mk ((by rw [hg]; exact Nat.ne_of_lt (blk_lt (g := gb159) (o := .cells #[.int .i64 t152, .int .i64 t153, .int .u64 t154, .slice Ao26 t155.length co26] 34 (0, 0)) (by (with_reducible repeat (first | refine blk_drewN ?_ _ | refine blk_drew ?_ | refine blk_alloc ?_ _)); exact BK159.out)) : gb159 ≠ gb170)); have n12_ := Aside0.mk ((by rw [hg]; exact Nat.ne_of_gt (blk_lt (g := gb159) (o := .cells #[.int .i64 t152, .int .i64 t153, .int .u64 t154, .slice Ao26 t155.length co26] 34 (0, 0)) (by (with_reducible repeat (first | refine blk_drewN ?_ _ | refine blk_drew ?_ | refine blk_alloc ?_ _)); exact BK159.out)) : gb170 ≠ gb159)); clear HO144; clear HO147; clear HO150; clear HO157; clear HO162; clear HO168; clear BK159; clear HB; have HO144 := n0_; have HO147 := n1_; have HO150 := n2_; have HO157 := n3_; have HO162 := n4_; have HO168 := n5_; have BK159 := n6_; have HB := n7_; have BK170 := n8_; have GW170 := n9_; have GE170 := n10_; have NB159_170 := n11_; have NB170_159 := n12_; clear n0_ n1_ n2_ n3_ n4_ n5_ n6_ n7_ n8_ n9_ n10_ n11_ n12_; clear hb hbox hg; have hnb32 := NB170_159.out; have hnc32 := NB159_170.out; have hcz33_0 : w31.cell? ⟨gb170, 0, none⟩ = some (.int .i64 0) := (blk_cell BK170.out 0).trans rfl; have hcz33_1 : w31.cell? ⟨gb170, 1, none⟩ = some (.int .i64 0) := (blk_cell BK170.out 1).trans rfl; have hcz33_2 : w31.cell? ⟨gb170, 2, none⟩ = some (.int .u64 0) := (blk_cell BK170.out 2).trans rfl; have hcz33_3 : w31.cell? ⟨gb170, 3, none⟩ = some (.slice none 0 0) := (blk_cell BK170.out 3).trans rfl; have hfz33_0 := blk_frozen BK170.out 0; have hfz33_1 := blk_frozen BK170.out 1; have hfz33_2 := blk_frozen BK170.out 2; have hfz33_3 := blk_frozen BK170.out 3; obtain ⟨Ao34, co34, eo34⟩ := Kd.R_slice HO168.out; subst eo34) | ((with_reducible refine gate_callee (f := 11) rfl ?_); refine goesL_ (some 31) rfl rfl Tryd.func11 (by kernel_rfl) rfl #[.int .u64 2] rfl (by (try simp only [List.map_toArray, List.map_cons, List.map_nil]); first | done | rfl | (simp only [List.length_drop, List.length_take]; rfl)) ?_; (with_reducible refine (pkt_NewWindow.calls 2 t171 w _ ?side1 A4.out).mono ?_); (case side1 => repeat (first | (with_reducible first | exact HB.out | apply below_alloc | apply pw_below_drewN | apply below_drew1 | refine below_set ?_ GE159.out | refine below_set ?_ GE170.out) | exact HB.out)); rintro e w35 ⟨g172, rfl, hi, hb, hb2⟩; refine ⟨_, rfl, ?_⟩; have n0_ := Aside0.mk (L_below (by (with_reducible repeat (first | apply L_alloc | apply L_drewN | apply L_drew)); exact (L_mono (L_far (p := ⟨gb170, 3, none⟩) (L_far (p := ⟨gb170, 2, none⟩) (L_far (p := ⟨gb170, 1, none⟩) (L_far (p := ⟨gb170, 0, none⟩) (L_types HO144.out BK170.out (by decide)) (fun _ hk => hk.2) (.int .i64 t163)) (fun _ hk => hk.2) (.int .i64 t164)) (fun _ hk => hk.2) (.int .u64 t165)) (fun _ hk => hk.2) (.slice Ao34 t166.length co34)) (fun _ h_ => h_.1))) hb2); have n1_ := Aside0.mk (Kd.R_below (by (with_reducible repeat (first | apply Kd.R_alloc | apply Kd.R_drewN | apply Kd.R_drew)); exact (Kd.R_mono (Kd.R_far (p := ⟨gb170, 3, none⟩) (Kd.R_far (p := ⟨gb170, 2, none⟩) (Kd.R_far (p := ⟨gb170, 1, none⟩) (Kd.R_far (p := ⟨gb170, 0, none⟩) (Kd.R_types HO147.out BK170.out (by decide)) (fun _ hk => hk.2) (.int .i64 t163)) (fun _ hk => hk.2) (.int .i64 t164)) (fun _ hk => hk.2) (.int .u64 t165)) (fun _ hk => hk.2) (.slice Ao34 t166.length co34)) (fun _ h_ => h_.1))) hb2); have n2_ := Aside0.mk (Kd.R_below (by (with_reducible repeat (first | apply Kd.R_alloc | apply Kd.R_drewN | apply Kd.R_drew)); exact (Kd.R_mono (Kd.R_far (p := ⟨gb170, 3, none⟩) (Kd.R_far (p := ⟨gb170, 2, none⟩) (Kd.R_far (p := ⟨gb170, 1, none⟩) (Kd.R_far (p := ⟨gb170, 0, none⟩) (Kd.R_types HO150.out BK170.out (by decide)) (fun _ hk => hk.2) (.int .i64 t163)) (fun _ hk => hk.2) (.int .i64 t164)) (fun _ hk => hk.2) (.int .u64 t165)) (fun _ hk => hk.2) (.slice Ao34 t166.length co34)) (fun _ h_ => h_.1))) hb2); have n3_ := Aside0.mk (Kd.R_below (by (with_reducible repeat (first | apply Kd.R_alloc | apply Kd.R_drewN | apply Kd.R_drew)); exact (Kd.R_mono (Kd.R_far (p := ⟨gb170, 3, none⟩) (Kd.R_far (p := ⟨gb170, 2, none⟩) (Kd.R_far (p := ⟨gb170, 1, none⟩) (Kd.R_far (p := ⟨gb170, 0, none⟩) (Kd.R_types HO157.out BK170.out (by decide)) (fun _ hk => hk.2) (.int .i64 t163)) (fun _ hk => hk.2) (.int .i64 t164)) (fun _ hk => hk.2) (.int .u64 t165)) (fun _ hk => hk.2) (.slice Ao34 t166.length co34)) (fun _ h_ => h_.1))) hb2); have n4_ := Aside0.mk (L_below (by (with_reducible repeat (first | apply L_alloc | apply L_drewN | apply L_drew)); exact (L_mono (L_far (p := ⟨gb170, 3, none⟩) (L_far (p := ⟨gb170, 2, none⟩) (L_far (p := ⟨gb170, 1, none⟩) (L_far (p := ⟨gb170, 0, none⟩) (L_types HO162.out BK170.out (by decide)) (fun _ hk => hk.2) (.int .i64 t163)) (fun _ hk => hk.2) (.int .i64 t164)) (fun _ hk => hk.2) (.int .u64 t165)) (fun _ hk => hk.2) (.slice Ao34 t166.length co34)) (fun _ h_ => h_.1))) hb2); have n5_ := Aside0.mk (Kd.R_below (by (with_reducible repeat (first | apply Kd.R_alloc | apply Kd.R_drewN | apply Kd.R_drew)); exact (Kd.R_mono (Kd.R_far (p := ⟨gb170, 3, none⟩) (Kd.R_far (p := ⟨gb170, 2, none⟩) (Kd.R_far (p := ⟨gb170, 1, none⟩) (Kd.R_far (p := ⟨gb170, 0, none⟩) (Kd.R_types HO168.out BK170.out (by decide)) (fun _ hk => hk.2) (.int .i64 t163)) (fun _ hk => hk.2) (.int .i64 t164)) (fun _ hk => hk.2) (.int .u64 t165)) (fun _ hk => hk.2) (.slice Ao34 t166.length co34)) (fun _ h_ => h_.1))) hb2); have n6_ := Aside0.mk (blk_below (g := gb159) (o := .cells #[.int .i64 t152, .int .i64 t153, .int .u64 t154, .slice Ao26 t155.length co26] 34 (0, 0)) (by (with_reducible repeat (first | refine blk_drewN ?_ _ | refine blk_drew ?_ | refine blk_alloc ?_ _)); refine blk_far ?_ NB159_170.out _; (with_reducible repeat (first | refine blk_drewN ?_ _ | refine blk_drew ?_ | refine blk_alloc ?_ _)); refine blk_far ?_ NB159_170.out _; (with_reducible repeat (first | refine blk_drewN ?_ _ | refine blk_drew ?_ | refine blk_alloc ?_ _)); refine blk_far ?_ NB159_170.out _; (with_reducible repeat (first | refine blk_drewN ?_ _ | refine blk_drew ?_ | refine blk_alloc ?_ _)); refine blk_far ?_ NB159_170.out _; (with_reducible repeat (first | refine blk_drewN ?_ _ | refine blk_drew ?_ | refine blk_alloc ?_ _)); exact BK159.out) hb2); have n7_ := Aside0.mk (blk_below (g := gb170) (o := .cells #[.int .i64 t163, .int .i64 t164, .int .u64 t165, .slice Ao34 t166.length co34] 34 (0, 0)) (by (with_reducible repeat (first | refine blk_drewN ?_ _ | refine blk_drew ?_ | refine blk_alloc ?_ _)); refine blk_put (cs := #[.int .i64 t163, .int .i64 t164, .int .u64 t165, .slice none 0 0]) ?_ 3 _ rfl; (with_reducible repeat (first | refine blk_drewN ?_ _ | refine blk_drew ?_ | refine blk_alloc ?_ _)); refine blk_put (cs := #[.int .i64 t163, .int .i64 t164, .int .u64 0, .slice none 0 0]) ?_ 2 _ rfl; (with_reducible repeat (first | refine blk_drewN ?_ _ | refine blk_drew ?_ | refine blk_alloc ?_ _)); refine blk_put (cs := #[.int .i64 t163, .int .i64 0, .int .u64 0, .slice none 0 0]) ?_ 1 _ rfl; (with_reducible repeat (first | refine blk_drewN ?_ _ | refine blk_drew ?_ | refine blk_alloc ?_ _)); refine blk_put (cs := #[.int .i64 0, .int .i64 0, .int .u64 0, .slice none 0 0]) ?_ 0 _ rfl; (with_reducible repeat (first | refine blk_drewN ?_ _ | refine blk_drew ?_ | refine blk_alloc ?_ _)); exact BK170.out) hb2); have n8_ := Aside0.mk (hb); have n9_ := Aside0.mk (hi); have n10_ := Aside0.mk (IsS76.ne_blk hi (blk_below (g := gb159) (o := .cells #[.int .i64 t152, .int .i64 t153, .int .u64 t154, .slice Ao26 t155.length co26] 34 (0, 0)) (by (with_reducible repeat (first | refine blk_drewN ?_ _ | refine blk_drew ?_ | refine blk_alloc ?_ _)); refine blk_far ?_ NB159_170.out _; (with_reducible repeat (first | refine blk_drewN ?_ _ | refine blk_drew ?_ | refine blk_alloc ?_ _)); refine blk_far ?_ NB159_170.out _; (with_reducible repeat (first | refine blk_drewN ?_ _ | refine blk_drew ?_ | refine blk_alloc ?_ _)); refine blk_far ?_ NB159_170.out _; (with_reducible repeat (first | refine blk_drewN ?_ _ | refine blk_drew ?_ | refine blk_alloc ?_ _)); refine blk_far ?_ NB159_170.out _; (with_reducible repeat (first | refine blk_drewN ?_ _ | refine blk_drew ?_ | refine blk_alloc ?_ _)); exact BK159.out) hb2) (by decide)); have n11_ := Aside0.mk (Ne.symm (IsS76.ne_blk hi (blk_below (g := gb159) (o := .cells #[.int .i64 t152, .int .i64 t153, .int .u64 t154, .slice Ao26 t155.length co26] 34 (0, 0)) (by (with_reducible repeat (first | refine blk_drewN ?_ _ | refine blk_drew ?_ | refine blk_alloc ?_ _)); refine blk_far ?_ NB159_170.out _; (with_reducible repeat (first | refine blk_drewN ?_ _ | refine blk_drew ?_ | refine blk_alloc ?_ _)); refine blk_far ?_ NB159_170.out _; (with_reducible repeat (first | refine blk_drewN ?_ _ | refine blk_drew ?_ | refine blk_alloc ?_ _)); refine blk_far ?_ NB159_170.out _; (with_reducible repeat (first | refine blk_drewN ?_ _ | refine blk_drew ?_ | refine blk_alloc ?_ _)); refine blk_far ?_ NB159_170.out _; (with_reducible repeat (first | refine blk_drewN ?_ _ | refine blk_drew ?_ | refine blk_alloc ?_ _)); exact BK159.out) hb2) (by decide))); have n12_ := Aside0.mk (IsS76.ne_blk hi (blk_below (g := gb170) (o := .cells #[.int .i64 t163, .int .i64 t164, .int .u64 t165, .slice Ao34 t166.length co34] 34 (0, 0)) (by (with_reducible repeat (first | refine blk_drewN ?_ _ | refine blk_drew ?_ | refine blk_alloc ?_ _)); refine blk_put (cs := #[.int .i64 t163, .int .i64 t164, .int .u64 t165, .slice none 0 0]) ?_ 3 _ rfl; (with_reducible repeat (first | refine blk_drewN ?_ _ | refine blk_drew ?_ | refine blk_alloc ?_ _)); refine blk_put (cs := #[.int .i64 t163, .int .i64 t164, .int .u64 0, .slice none 0 0]) ?_ 2 _ rfl; (with_reducible repeat (first | refine blk_drewN ?_ _ | refine blk_drew ?_ | refine blk_alloc ?_ _)); refine blk_put (cs := #[.int .i64 t163, .int .i64 0, .int .u64 0, .slice none 0 0]) ?_ 1 _ rfl; (with_reducible repeat (first | refine blk_drewN ?_ _ | refine blk_drew ?_ | refine blk_alloc ?_ _)); refine blk_put (cs := #[.int .i64 0, .int .i64 0, .int .u64 0, .slice none 0 0]) ?_ 0 _ rfl; (with_reducible repeat (first | refine blk_drewN ?_ _ | refine blk_drew ?_ | refine blk_alloc ?_ _)); exact BK170.out) hb2) (by decide)); have n13_ := Aside0.mk (Ne.symm (IsS76.ne_blk hi (blk_below (g := gb170) (o := .cells #[.int .i64 t163, .int .i64 t164, .int .u64 t165, .slice Ao34 t166.length co34] 34 (0, 0)) (by (with_reducible repeat (first | refine blk_drewN ?_ _ | refine blk_drew ?_ | refine blk_alloc ?_ _)); refine blk_put (cs := #[.int .i64 t163, .int .i64 t164, .int .u64 t165, .slice none 0 0]) ?_ 3 _ rfl; (with_reducible repeat (first | refine blk_drewN ?_ _ | refine blk_drew ?_ | refine blk_alloc ?_ _)); refine blk_put (cs := #[.int .i64 t163, .int .i64 t164, .int .u64 0, .slice none 0 0]) ?_ 2 _ rfl; (with_reducible repeat (first | refine blk_drewN ?_ _ | refine blk_drew ?_ | refine blk_alloc ?_ _)); refine blk_put (cs := #[.int .i64 t163, .int .i64 0, .int .u64 0, .slice none 0 0]) ?_ 1 _ rfl; (with_reducible repeat (first | refine blk_drewN ?_ _ | refine blk_drew ?_ | refine blk_alloc ?_ _)); refine blk_put (cs := #[.int .i64 0, .int .i64 0, .int .u64 0, .slice none 0 0]) ?_ 0 _ rfl; (with_reducible repeat (first | refine blk_drewN ?_ _ | refine blk_drew ?_ | refine blk_alloc ?_ _)); exact BK170.out) hb2) (by decide))); clear HO144; clear HO147; clear HO150; clear HO157; clear HO162; clear HO168; clear BK159; clear BK170; clear HB; have HO144 := n0_; have HO147 := n1_; have HO150 := n2_; have HO157 := n3_; have HO162 := n4_; have HO168 := n5_; have BK159 := n6_; have BK170 := n7_; have HB := n8_; have HI172 := n9_; have NB172_159 := n10_; have NB159_172 := n11_; have NB172_170 := n12_; have NB170_172 := n13_; clear n0_ n1_ n2_ n3_ n4_ n5_ n6_ n7_ n8_ n9_ n10_ n11_ n12_ n13_; (try clear hb); (try clear hb2); (try clear hk); (try clear hi); have hnb36 := NB159_172.out; have hnc36 := NB172_159.out; have hcz37_0 : w35.cell? ⟨gb159, 0, none⟩ = some (.int .i64 t152) := (blk_cell BK159.out 0).trans rfl; have hcz37_1 : w35.cell? ⟨gb159, 1, none⟩ = some (.int .i64 t153) := (blk_cell BK159.out 1).trans rfl; have hcz37_2 : w35.cell? ⟨gb159, 2, none⟩ = some (.int .u64 t154) := (blk_cell BK159.out 2).trans rfl; have hcz37_3 : w35.cell? ⟨gb159, 3, none⟩ = some (.slice Ao26 t155.length co26) := (blk_cell BK159.out 3).trans rfl; have hfz37_0 := blk_frozen BK159.out 0; have hfz37_1 := blk_frozen BK159.out 1; have hfz37_2 := blk_frozen BK159.out 2; have hfz37_3 := blk_frozen BK159.out 3) | ((with_reducible refine gate_dst (N := 51) rfl ?_); (try (refine gate_guard (by rfl) ?_; dsimp only)); refine Kd.R_lit (Kd.int .u8) _ 5 ?hg (N := 51) ?hd (xs := ([5] : List Int)) (inner := [.int .u8 5]) (ok := fun _ => True) (okp := fun _ => True) ?hr ?hp (fun _ hk => hk) trivial (Below.refl _ _) (Nat.le_refl _) (by simp) ?_; (case hd => rfl); (case hg => rfl); (case hr => first | (go_simp; done) | (go_simp; rfl) | (go_simp; simp [IntKind.wrap_u32, show IntKind.u32.max = 4294967295 from rfl]; done)); (case hp => exact (Reps.one (show Kd.M (Kd.int .u8) _ _ _ 5 [.int .u8 5] from rfl) (Reps.none _ _))); intro v174 w38 ho39 hb hg_ hnew_; clear hg_ hnew_; (first | rw [← Ny173.out] at ho39 | (simp only [Int.reduceToNat] at ho39; rw [← Ny173.out] at ho39)); have n0_ := Aside0.mk (L_elder' (by (with_reducible repeat (first | apply L_alloc | apply L_drewN | apply L_drew)); exact HO144.out) (Kd.R_base ho39) hb); have n1_ := Aside0.mk (Kd.R_elder' (by (with_reducible repeat (first | apply Kd.R_alloc | apply Kd.R_drewN | apply Kd.R_drew)); exact HO147.out) (Kd.R_base ho39) hb); have n2_ := Aside0.mk (Kd.R_elder' (by (with_reducible repeat (first | apply Kd.R_alloc | apply Kd.R_drewN | apply Kd.R_drew)); exact HO150.out) (Kd.R_base ho39) hb); have n3_ := Aside0.mk (Kd.R_elder' (by (with_reducible repeat (first | apply Kd.R_alloc | apply Kd.R_drewN | apply Kd.R_drew)); exact HO157.out) (Kd.R_base ho39) hb); have n4_ := Aside0.mk (L_elder' (by (with_reducible repeat (first | apply L_alloc | apply L_drewN | apply L_drew)); exact HO162.out) (Kd.R_base ho39) hb); have n5_ := Aside0.mk (Kd.R_elder' (by (with_reducible repeat (first | apply Kd.R_alloc | apply Kd.R_drewN | apply Kd.R_drew)); exact HO168.out) (Kd.R_base ho39) hb); have n6_ := Aside0.mk (Kd.R_lower (Kd.R_new' (Kd.R_new' (Kd.R_new' (Kd.R_new' (Kd.R_new' (Kd.R_new' ho39 (L_lt (by (with_reducible repeat (first | apply L_alloc | apply L_drewN | apply L_drew)); exact HO144.out))) (Kd.R_lt (by (with_reducible repeat (first | apply Kd.R_alloc | apply Kd.R_drewN | apply Kd.R_drew)); exact HO147.out))) (Kd.R_lt (by (with_reducible repeat (first | apply Kd.R_alloc | apply Kd.R_drewN | apply Kd.R_drew)); exact HO150.out))) (Kd.R_lt (by (with_reducible repeat (first | apply Kd.R_alloc | apply Kd.R_drewN | apply Kd.R_drew)); exact HO157.out))) (L_lt (by (with_reducible repeat (first | apply L_alloc | apply L_drewN | apply L_drew)); exact HO162.out))) (Kd.R_lt (by (with_reducible repeat (first | apply Kd.R_alloc | apply Kd.R_drewN | apply Kd.R_drew)); exact HO168.out))) (below_size (by repeat (first | (with_reducible first | exact HB.out | apply below_alloc | apply pw_below_drewN | apply below_drew1 | refine below_set ?_ (IsS76.ge HI172.out) | refine below_set ?_ GE159.out | refine below_set ?_ GE170.out) | exact HB.out)))); have n7_ := Aside0.mk (blk_below (g := gb159) (o := .cells #[.int .i64 t152, .int .i64 t153, .int .u64 t154, .slice Ao26 t155.length co26] 34 (0, 0)) (by (with_reducible repeat (first | refine blk_drewN ?_ _ | refine blk_drew ?_ | refine blk_alloc ?_ _)); exact BK159.out) hb); have n8_ := Aside0.mk (blk_below (g := gb170) (o := .cells #[.int .i64 t163, .int .i64 t164, .int .u64 t165, .slice Ao34 t166.length co34] 34 (0, 0)) (by (with_reducible repeat (first | refine blk_drewN ?_ _ | refine blk_drew ?_ | refine blk_alloc ?_ _)); exact BK170.out) hb); have n9_ := Aside0.mk (IsS76.below (by repeat (first | (with_reducible first | exact HI172.out | apply IsS76.alloc | apply IsS76.drewN | apply IsS76.drew | apply IsS76.set_0 | refine IsS76.far ?_ NB172_159.out _ | refine IsS76.far ?_ NB172_170.out _) | exact HI172.out)) hb); have n10_ := Aside0.mk (below_step (by repeat (first | (with_reducible first | exact HB.out | apply below_alloc | apply pw_below_drewN | apply below_drew1 | refine below_set ?_ (IsS76.ge HI172.out) | refine below_set ?_ GE159.out | refine below_set ?_ GE170.out) | exact HB.out)) hb); clear HO144; clear HO147; clear HO150; clear HO157; clear HO162; clear HO168; clear BK159; clear BK170; clear HI172; clear HB; have HO144 := n0_; have HO147 := n1_; have HO150 := n2_; have HO157 := n3_; have HO162 := n4_; have HO168 := n5_; have HO175 := n6_; have BK159 := n7_; have BK170 := n8_; have HI172 := n9_; have HB := n10_; clear n0_ n1_ n2_ n3_ n4_ n5_ n6_ n7_ n8_ n9_ n10_; clear hb ho39; obtain ⟨Ao40, co40, eo40⟩ := Kd.R_slice HO175.out; subst eo40) | (go_at_call 20; (with_reducible refine (tikref_Bytes.calls _ _ t155 _ _ y173 true _ ?side1 ?side2 ?side3 ?side4 A9.out).mono ?_); (case side1 => repeat (first | exact (Kd.R_reads' HO157.out).2.2 | (with_reducible refine Kd.C_alloc ?_ _) | (with_reducible refine Kd.C_drewN ?_ _) | (with_reducible refine Kd.C_drew ?_))); (case side2 => exact (Kd.R_reads' HO157.out).2.1); (case side3 => repeat (first | exact (Kd.R_reads' HO175.out).2.2 | (with_reducible refine Kd.C_alloc ?_ _) | (with_reducible refine Kd.C_drewN ?_ _) | (with_reducible refine Kd.C_drew ?_))); (case side4 => exact (Kd.R_reads' HO175.out).2.1); rintro e w' ⟨rfl, ⟨nd, rfl⟩⟩) | (go_at_call 13; (with_reducible refine (pkt_Window_Take.calls g172 t171 3 t177 t178 w _ ?side1 ?side2 A12.out).mono ?_); (case side1 => repeat (first | (with_reducible first | exact HI172.out | apply IsS76.alloc | apply IsS76.drewN | apply IsS76.drew | apply IsS76.set_0 | refine IsS76.far ?_ NB172_159.out _ | refine IsS76.far ?_ NB172_170.out _) | exact HI172.out)); (case side2 => repeat (first | (with_reducible first | exact HB.out | apply below_alloc | apply pw_below_drewN | apply below_drew1 | refine below_set ?_ (IsS76.ge HI172.out) | refine below_set ?_ GE159.out | refine below_set ?_ GE170.out) | exact HB.out)); rintro e w41 ⟨rfl, hi, hb, hk⟩; have n0_ := Aside0.mk (L_mono (L_keep (IsS76.apartL (show IsS76 w _ g172 t171 from by repeat (first | (with_reducible first | exact HI172.out | apply IsS76.alloc | apply IsS76.drewN | apply IsS76.drew | apply IsS76.set_0 | refine IsS76.far ?_ NB172_159.out _ | refine IsS76.far ?_ NB172_170.out _) | exact HI172.out)) (by (with_reducible repeat (first | apply L_alloc | apply L_drewN | apply L_drew)); exact HO144.out) (by decide)) hk (fun _ h => h.2)) (fun _ h => h.1)); have n1_ := Aside0.mk (Kd.R_mono (Kd.R_keep (IsS76.apart (show IsS76 w _ g172 t171 from by repeat (first | (with_reducible first | exact HI172.out | apply IsS76.alloc | apply IsS76.drewN | apply IsS76.drew | apply IsS76.set_0 | refine IsS76.far ?_ NB172_159.out _ | refine IsS76.far ?_ NB172_170.out _) | exact HI172.out)) (by (with_reducible repeat (first | apply Kd.R_alloc | apply Kd.R_drewN | apply Kd.R_drew)); exact HO147.out) (by decide)) hk (fun _ h => h.2)) (fun _ h => h.1)); have n2_ := Aside0.mk (Kd.R_mono (Kd.R_keep (IsS76.apart (show IsS76 w _ g172 t171 from by repeat (first | (with_reducible first | exact HI172.out | apply IsS76.alloc | apply IsS76.drewN | apply IsS76.drew | apply IsS76.set_0 | refine IsS76.far ?_ NB172_159.out _ | refine IsS76.far ?_ NB172_170.out _) | exact HI172.out)) (by (with_reducible repeat (first | apply Kd.R_alloc | apply Kd.R_drewN | apply Kd.R_drew)); exact HO150.out) (by decide)) hk (fun _ h => h.2)) (fun _ h => h.1)); have n3_ := Aside0.mk (Kd.R_mono (Kd.R_keep (IsS76.apart (show IsS76 w _ g172 t171 from by repeat (first | (with_reducible first | exact HI172.out | apply IsS76.alloc | apply IsS76.drewN | apply IsS76.drew | apply IsS76.set_0 | refine IsS76.far ?_ NB172_159.out _ | refine IsS76.far ?_ NB172_170.out _) | exact HI172.out)) (by (with_reducible repeat (first | apply Kd.R_alloc | apply Kd.R_drewN | apply Kd.R_drew)); exact HO157.out) (by decide)) hk (fun _ h => h.2)) (fun _ h => h.1)); have n4_ := Aside0.mk (KeepBut.blk hk (g' := gb159) (o := .cells #[.int .i64 t152, .int .i64 t153, .int .u64 t154, .slice Ao26 t155.length co26] 34 (0, 0)) (by (with_reducible repeat (first | refine blk_drewN ?_ _ | refine blk_drew ?_ | refine blk_alloc ?_ _)); exact BK159.out) NB159_172.out (by simp)); have n5_ := Aside0.mk (L_mono (L_keep (IsS76.apartL (show IsS76 w _ g172 t171 from by repeat (first | (with_reducible first | exact HI172.out | apply IsS76.alloc | apply IsS76.drewN | apply IsS76.drew | apply IsS76.set_0 | refine IsS76.far ?_ NB172_159.out _ | refine IsS76.far ?_ NB172_170.out _) | exact HI172.out)) (by (with_reducible repeat (first | apply L_alloc | apply L_drewN | apply L_drew)); exact HO162.out) (by decide)) hk (fun _ h => h.2)) (fun _ h => h.1)); have n6_ := Aside0.mk (Kd.R_mono (Kd.R_keep (IsS76.apart (show IsS76 w _ g172 t171 from by repeat (first | (with_reducible first | exact HI172.out | apply IsS76.alloc | apply IsS76.drewN | apply IsS76.drew | apply IsS76.set_0 | refine IsS76.far ?_ NB172_159.out _ | refine IsS76.far ?_ NB172_170.out _) | exact HI172.out)) (by (with_reducible repeat (first | apply Kd.R_alloc | apply Kd.R_drewN | apply Kd.R_drew)); exact HO168.out) (by decide)) hk (fun _ h => h.2)) (fun _ h => h.1)); have n7_ := Aside0.mk (KeepBut.blk hk (g' := gb170) (o := .cells #[.int .i64 t163, .int .i64 t164, .int .u64 t165, .slice Ao34 t166.length co34] 34 (0, 0)) (by (with_reducible repeat (first | refine blk_drewN ?_ _ | refine blk_drew ?_ | refine blk_alloc ?_ _)); exact BK170.out) NB170_172.out (by simp)); have n8_ := Aside0.mk (Kd.R_mono (Kd.R_keep (IsS76.apart (show IsS76 w _ g172 t171 from by repeat (first | (with_reducible first | exact HI172.out | apply IsS76.alloc | apply IsS76.drewN | apply IsS76.drew | apply IsS76.set_0 | refine IsS76.far ?_ NB172_159.out _ | refine IsS76.far ?_ NB172_170.out _) | exact HI172.out)) (by (with_reducible repeat (first | apply Kd.R_alloc | apply Kd.R_drewN | apply Kd.R_drew)); exact HO175.out) (by decide)) hk (fun _ h => h.2)) (fun _ h => h.1)); have n9_ := Aside0.mk (hb); have n10_ := Aside0.mk (hi); clear HO144; clear HO147; clear HO150; clear HO157; clear BK159; clear HO162; clear HO168; clear BK170; clear HO175; clear HB; clear HI172; have HO144 := n0_; have HO147 := n1_; have HO150 := n2_; have HO157 := n3_; have BK159 := n4_; have HO162 := n5_; have HO168 := n6_; have BK170 := n7_; have HO175 := n8_; have HB := n9_; have HI172 := n10_; clear n0_ n1_ n2_ n3_ n4_ n5_ n6_ n7_ n8_ n9_ n10_; (try clear hb); (try clear hb2); (try clear hk); (try clear hi)) | (go_at_call 13; (with_reducible refine (pkt_Window_Take.calls g172 t178 3 t179 t180 w _ ?side1 ?side2 A14.out).mono ?_); (case side1 => repeat (first | (with_reducible first | exact HI172.out | apply IsS76.alloc | apply IsS76.drewN | apply IsS76.drew | apply IsS76.set_0 | refine IsS76.far ?_ NB172_159.out _ | refine IsS76.far ?_ NB172_170.out _) | exact HI172.out)); (case side2 => repeat (first | (with_reducible first | exact HB.out | apply below_alloc | apply pw_below_drewN | apply below_drew1 | refine below_set ?_ (IsS76.ge HI172.out) | refine below_set ?_ GE159.out | refine below_set ?_ GE170.out) | exact HB.out)); rintro e w42 ⟨rfl, hi, hb, hk⟩; have n0_ := Aside0.mk (L_mono (L_keep (IsS76.apartL (show IsS76 w _ g172 t178 from by repeat (first | (with_reducible first | exact HI172.out | apply IsS76.alloc | apply IsS76.drewN | apply IsS76.drew | apply IsS76.set_0 | refine IsS76.far ?_ NB172_159.out _ | refine IsS76.far ?_ NB172_170.out _) | exact HI172.out)) (by (with_reducible repeat (first | apply L_alloc | apply L_drewN | apply L_drew)); exact HO144.out) (by decide)) hk (fun _ h => h.2)) (fun _ h => h.1)); have n1_ := Aside0.mk (Kd.R_mono (Kd.R_keep (IsS76.apart (show IsS76 w _ g172 t178 from by repeat (first | (with_reducible first | exact HI172.out | apply IsS76.alloc | apply IsS76.drewN | apply IsS76.drew | apply IsS76.set_0 | refine IsS76.far ?_ NB172_159.out _ | refine IsS76.far ?_ NB172_170.out _) | exact HI172.out)) (by (with_reducible repeat (first | apply Kd.R_alloc | apply Kd.R_drewN | apply Kd.R_drew)); exact HO147.out) (by decide)) hk (fun _ h => h.2)) (fun _ h => h.1)); have n2_ := Aside0.mk (Kd.R_mono (Kd.R_keep (IsS76.apart (show IsS76 w _ g172 t178 from by repeat (first | (with_reducible first | exact HI172.out | apply IsS76.alloc | apply IsS76.drewN | apply IsS76.drew | apply IsS76.set_0 | refine IsS76.far ?_ NB172_159.out _ | refine IsS76.far ?_ NB172_170.out _) | exact HI172.out)) (by (with_reducible repeat (first | apply Kd.R_alloc | apply Kd.R_drewN | apply Kd.R_drew)); exact HO150.out) (by decide)) hk (fun _ h => h.2)) (fun _ h => h.1)); have n3_ := Aside0.mk (Kd.R_mono (Kd.R_keep (IsS76.apart (show IsS76 w _ g172 t178 from by repeat (first | (with_reducible first | exact HI172.out | apply IsS76.alloc | apply IsS76.drewN | apply IsS76.drew | apply IsS76.set_0 | refine IsS76.far ?_ NB172_159.out _ | refine IsS76.far ?_ NB172_170.out _) | exact HI172.out)) (by (with_reducible repeat (first | apply Kd.R_alloc | apply Kd.R_drewN | apply Kd.R_drew)); exact HO157.out) (by decide)) hk (fun _ h => h.2)) (fun _ h => h.1)); have n4_ := Aside0.mk (KeepBut.blk hk (g' := gb159) (o := .cells #[.int .i64 t152, .int .i64 t153, .int .u64 t154, .slice Ao26 t155.length co26] 34 (0, 0)) (by (with_reducible repeat (first | refine blk_drewN ?_ _ | refine blk_drew ?_ | refine blk_alloc ?_ _)); exact BK159.out) NB159_172.out (by simp)); have n5_ := Aside0.mk (L_mono (L_keep (IsS76.apartL (show IsS76 w _ g172 t178 from by repeat (first | (with_reducible first | exact HI172.out | apply IsS76.alloc | apply IsS76.drewN | apply IsS76.drew | apply IsS76.set_0 | refine IsS76.far ?_ NB172_159.out _ | refine IsS76.far ?_ NB172_170.out _) | exact HI172.out)) (by (with_reducible repeat (first | apply L_alloc | apply L_drewN | apply L_drew)); exact HO162.out) (by decide)) hk (fun _ h => h.2)) (fun _ h => h.1)); have n6_ := Aside0.mk (Kd.R_mono (Kd.R_keep (IsS76.apart (show IsS76 w _ g172 t178 from by repeat (first | (with_reducible first | exact HI172.out | apply IsS76.alloc | apply IsS76.drewN | apply IsS76.drew | apply IsS76.set_0 | refine IsS76.far ?_ NB172_159.out _ | refine IsS76.far ?_ NB172_170.out _) | exact HI172.out)) (by (with_reducible repeat (first | apply Kd.R_alloc | apply Kd.R_drewN | apply Kd.R_drew)); exact HO168.out) (by decide)) hk (fun _ h => h.2)) (fun _ h => h.1)); have n7_ := Aside0.mk (KeepBut.blk hk (g' := gb170) (o := .cells #[.int .i64 t163, .int .i64 t164, .int .u64 t165, .slice Ao34 t166.length co34] 34 (0, 0)) (by (with_reducible repeat (first | refine blk_drewN ?_ _ | refine blk_drew ?_ | refine blk_alloc ?_ _)); exact BK170.out) NB170_172.out (by simp)); have n8_ := Aside0.mk (Kd.R_mono (Kd.R_keep (IsS76.apart (show IsS76 w _ g172 t178 from by repeat (first | (with_reducible first | exact HI172.out | apply IsS76.alloc | apply IsS76.drewN | apply IsS76.drew | apply IsS76.set_0 | refine IsS76.far ?_ NB172_159.out _ | refine IsS76.far ?_ NB172_170.out _) | exact HI172.out)) (by (with_reducible repeat (first | apply Kd.R_alloc | apply Kd.R_drewN | apply Kd.R_drew)); exact HO175.out) (by decide)) hk (fun _ h => h.2)) (fun _ h => h.1)); have n9_ := Aside0.mk (hb); have n10_ := Aside0.mk (hi); clear HO144; clear HO147; clear HO150; clear HO157; clear BK159; clear HO162; clear HO168; clear BK170; clear HO175; clear HB; clear HI172; have HO144 := n0_; have HO147 := n1_; have HO150 := n2_; have HO157 := n3_; have BK159 := n4_; have HO162 := n5_; have HO168 := n6_; have BK170 := n7_; have HO175 := n8_; have HB := n9_; have HI172 := n10_; clear n0_ n1_ n2_ n3_ n4_ n5_ n6_ n7_ n8_ n9_ n10_; (try clear hb); (try clear hb2); (try clear hk); (try clear hi)))
                go_ret
                exact ⟨by first | rfl | (simp [errW_none, errW_some] <;> rfl) | (simp [*, errW_none, errW_some] <;> rfl), by repeat (first | (with_reducible first | exact HB.out | apply below_alloc | apply pw_below_drewN | apply below_drew1 | refine below_set ?_ (IsS76.ge HI172.out) | refine below_set ?_ GE159.out | refine below_set ?_ GE170.out) | exact HB.out)⟩
              · rw [if_neg c13] at H
                have c13b0 : (t177 == 0) = false := beq_eq_false_iff_ne.mpr c13
                have c13b1 : (t177 != 0) = true := bne_iff_ne.mpr c13
                obtain rfl := Option.some.inj H
                exact absurd hrt (by decide)
            · rw [if_neg c11] at H
              have c11b0 : (t169 == 15) = false := beq_eq_false_iff_ne.mpr c11
              have c11b1 : (t169 != 15) = true := bne_iff_ne.mpr c11
              obtain rfl := Option.some.inj H
              exact absurd hrt (by decide)
          · replace c10 := Bool.eq_false_iff.mpr c10
            subst c10
            have H1 : (some false) = some r := by rw [if_neg (show ¬ (false = true) by decide)] at H; exact H
            clear H
            have H := H1
            clear H1
            obtain rfl := Option.some.inj H
            exact absurd hrt (by decide)
        · rw [if_neg c8] at H
          have c8b0 : (t154 == 7) = false := beq_eq_false_iff_ne.mpr c8
          have c8b1 : (t154 != 7) = true := bne_iff_ne.mpr c8
          obtain rfl := Option.some.inj H
          exact absurd hrt (by decide)
      · rw [if_neg c7] at H
        have c7b0 : (t158 == 0) = false := beq_eq_false_iff_ne.mpr c7
        have c7b1 : (t158 != 0) = true := bne_iff_ne.mpr c7
        obtain rfl := Option.some.inj H
        exact absurd hrt (by decide)
    · rw [if_neg c6] at H
      have c6b0 : ((t148.length : Int) == 27) = false := beq_eq_false_iff_ne.mpr c6
      have c6b1 : ((t148.length : Int) != 27) = true := bne_iff_ne.mpr c6
      obtain rfl := Option.some.inj H
      exact absurd hrt (by decide)
  · rw [if_neg c5] at H
    have c5b0 : (t151 == 0) = false := beq_eq_false_iff_ne.mpr c5
    have c5b1 : (t151 != 0) = true := bne_iff_ne.mpr c5
    obtain rfl := Option.some.inj H
    exact absurd hrt (by decide)
theorem tiklaw25_first.val : tiklaw25_first.f 200 = some true := by kernel_rfl
theorem tiklaw25_first.up (r : Bool) : ∀ (n k : Nat), tiklaw25_first.f k = some r → tiklaw25_first.f (k + n) = some r
  | 0, _, h => h
  | n + 1, k, h => tiklaw25_first.mono (k + n) r (tiklaw25_first.up r n k h)
theorem tiklaw25_first.true_ (k : Nat) (r : Bool) (h : tiklaw25_first.f k = some r) : r = true := by
  have h1 := tiklaw25_first.up r 200 k h
  have h2 := tiklaw25_first.up true k 200 tiklaw25_first.val
  rw [Nat.add_comm] at h2
  exact Option.some.inj (h1.symm.trans h2)
theorem tiklaw25_first.calls (k : Nat)  (r : Bool) (w : World) (hG : LaidG w) (h : tiklaw25_first.f k  = some r) :
    Calls Tryd.prog 10 #[] w fun e w' => e = .returned (.bool r) ∧ Below w.heap.size w w' :=
  tiklaw25_first.calls1 k r w hG (tiklaw25_first.true_ k r h) h

/-! ### pkt_Window_Last: function 14 -/
def pkt_Window_Last.f (s0_0 : Int) : Option (Int × Int) := some (s0_0, s0_0)
set_option maxHeartbeats 8000000 in
set_option maxRecDepth 100000 in
theorem pkt_Window_Last.calls (g : Nat) (s0_0 : Int) (r1 : Int) (r2 : Int) (w0 w : World) (hI : IsS76 w0 w g s0_0) (hB : Below w0.heap.size w0 w) (h : pkt_Window_Last.f s0_0 = some (r1, r2)) :
    Calls Tryd.prog 14 #[.pointer (some ⟨g, 0, none⟩)] w fun e w' => e = .returned (.int .u64 r1) ∧ IsS76 w0 w' g r2 ∧ Below w0.heap.size w0 w' ∧ KeepBut w w' g none := by
  have HI0 := Aside0.mk hI
  have HK := Aside0.mk (KeepBut.refl w g none)
  have HL := Aside0.mk hB.size
  clear hI
  have HW0 := Aside0.mk hB.size
  have HB := Aside0.mk hB
  clear hB
  have H : (some (s0_0, s0_0)) = some (r1, r2) := h
  clear h
  simp only [Option.some.injEq, Prod.mk.injEq] at H
  obtain ⟨rfl, rfl⟩ := H
  obtain ⟨HGz2, hgz2⟩ := HI0.out
  have hcz2_0 := cellS76_0 HGz2
  have hfz2_0 := blk_frozen HGz2 0
  clear HGz2 hgz2
  go_enter Tryd.func14, Tryd.ntmps14
  go_wp2
  go_ret
  exact ⟨by first | rfl | (simp [errW_none, errW_some] <;> rfl) | (simp [*, errW_none, errW_some] <;> rfl), by repeat (first | (with_reducible first | exact HI0.out | apply IsS76.alloc | apply IsS76.drewN | apply IsS76.drew | apply IsS76.set_0) | exact HI0.out), by repeat (first | (with_reducible first | exact HB.out | apply below_alloc | apply pw_below_drewN | apply below_drew1 | refine below_set ?_ (IsS76.ge HI0.out)) | exact HB.out), by repeat (first | (with_reducible first | exact HK.out | apply KeepBut.set_ | apply keep_drewN | apply keep_drew | apply keep_alloc) | exact HK.out)⟩

/-! ### tiklaw25_PktWindow: function 3 -/
mutual
def tiklaw25_PktWindow.l0 : Nat → Int → List Int → Int → Int → Option (Bool)
  | 0, _, _, _, _ => none
  | k + 1, x0, x1, x6, x184000 => if x6 < (x1.length : Int) then (if 0 ≤ x6 then ((pkt_Window_Fresh.f x184000 (rd x1 x6)).bind fun bt187 => ((pkt_Window_Take.f bt187.2 (rd x1 x6)).bind fun bt190 => (if (bt187.1 != (decide ((rd x1 x6) > x0))) = true then (tiklaw25_PktWindow.j1 k x0 x1 x6 true bt190.2) else (if ((bt190.1 == 0) != bt187.1) = true then (tiklaw25_PktWindow.j1 k x0 x1 x6 true bt190.2) else (if bt187.1 = true then (tiklaw25_PktWindow.j1 k x0 x1 x6 false bt190.2) else (tiklaw25_PktWindow.j1 k x0 x1 x6 (bt190.1 != 14) bt190.2)))))) else (none)) else ((tiklaw25_first.f k).bind fun t185 => (some t185))
def tiklaw25_PktWindow.j1 : Nat → Int → List Int → Int → Bool → Int → Option (Bool)
  | 0, _, _, _, _, _ => none
  | k + 1, x0, x1, x6, x64, x184000 => if x64 = true then (some false) else (if 0 ≤ x6 then (if x6 < (x1.length : Int) then ((pkt_Window_Last.f x184000).bind fun bt194 => (if bt194.1 = (mx x0 (rd x1 x6)) then (tiklaw25_PktWindow.l0 k (mx x0 (rd x1 x6)) x1 (wrap64 (x6 + 1)) bt194.2) else (some false))) else (none)) else (none))
end
def tiklaw25_PktWindow.f (k : Nat) (a0 : Int) (l1 : List Int) : Option (Bool) := (tiklaw25_first.f k).bind fun t181 => (if t181 = true then ((pkt_NewWindow.f a0).bind fun t182 => (if (l1.length : Int) > 300 then ((tiklaw25_first.f k).bind fun t184 => (some t184)) else (tiklaw25_PktWindow.l0 k a0 l1 0 t182))) else (some false))
theorem tiklaw25_PktWindow.mono_l : ∀ k, (∀ y0 y1 y2 y3, LeO (tiklaw25_PktWindow.l0 k y0 y1 y2 y3) (tiklaw25_PktWindow.l0 (k + 1) y0 y1 y2 y3)) ∧ (∀ y0 y1 y2 y3 y4, LeO (tiklaw25_PktWindow.j1 k y0 y1 y2 y3 y4) (tiklaw25_PktWindow.j1 (k + 1) y0 y1 y2 y3 y4))
  | 0 => ⟨fun _ _ _ _ r h => by simp [tiklaw25_PktWindow.l0] at h, fun _ _ _ _ _ r h => by simp [tiklaw25_PktWindow.j1] at h⟩
  | k + 1 => by
    obtain ⟨ih0, ih1⟩ := tiklaw25_PktWindow.mono_l k
    refine ⟨?_, ?_⟩
    · intro y0 y1 y2 y3
      unfold tiklaw25_PktWindow.l0
      repeat' first
      | (with_reducible exact ih0 _ _ _ _)
      | (with_reducible exact ih1 _ _ _ _ _)
      | (with_reducible exact tiklaw25_first.mono _)
      | (with_reducible exact LeO.refl _)
      | (with_reducible exact LeO.none _)
      | (with_reducible refine LeO.ite ?_ ?_)
      | (with_reducible refine LeO.bind ?_ (fun _ => ?_))
      | exact ih0 _ _ _ _
      | exact ih1 _ _ _ _ _
      | exact tiklaw25_first.mono _
      | exact LeO.none _
      | refine LeO.ite ?_ ?_
      | refine LeO.bind ?_ (fun _ => ?_)
    · intro y0 y1 y2 y3 y4
      unfold tiklaw25_PktWindow.j1
      repeat' first
      | (with_reducible exact ih0 _ _ _ _)
      | (with_reducible exact ih1 _ _ _ _ _)
      | (with_reducible exact tiklaw25_first.mono _)
      | (with_reducible exact LeO.refl _)
      | (with_reducible exact LeO.none _)
      | (with_reducible refine LeO.ite ?_ ?_)
      | (with_reducible refine LeO.bind ?_ (fun _ => ?_))
      | exact ih0 _ _ _ _
      | exact ih1 _ _ _ _ _
      | exact tiklaw25_first.mono _
      | exact LeO.none _
      | refine LeO.ite ?_ ?_
      | refine LeO.bind ?_ (fun _ => ?_)
theorem tiklaw25_PktWindow.mono : ∀ a0 a1 k, LeO (tiklaw25_PktWindow.f k a0 a1) (tiklaw25_PktWindow.f (k + 1) a0 a1) := by
  intro a0 a1 k
  obtain ⟨ih0, ih1⟩ := tiklaw25_PktWindow.mono_l k
  unfold tiklaw25_PktWindow.f
  repeat' first
      | (with_reducible exact ih0 _ _ _ _)
      | (with_reducible exact ih1 _ _ _ _ _)
      | (with_reducible exact tiklaw25_first.mono _)
      | (with_reducible exact LeO.refl _)
      | (with_reducible exact LeO.none _)
      | (with_reducible refine LeO.ite ?_ ?_)
      | (with_reducible refine LeO.bind ?_ (fun _ => ?_))
      | exact ih0 _ _ _ _
      | exact ih1 _ _ _ _ _
      | exact tiklaw25_first.mono _
      | exact LeO.none _
      | refine LeO.ite ?_ ?_
      | refine LeO.bind ?_ (fun _ => ?_)
set_option maxHeartbeats 8000000 in
set_option maxRecDepth 100000 in
theorem tiklaw25_PktWindow.calls (k : Nat) (a0 : Int) (A1 : Option Addr) (c1 : Nat) (l1 : List Int) (r : Bool) (w : World) (hr1 : Kd.C (Kd.int .u64) w A1 l1.length l1) (hc1 : l1.length ≤ c1) (hG : LaidG w) (h : tiklaw25_PktWindow.f k a0 l1 = some r) :
    Calls Tryd.prog 3 #[.int .u64 a0, .slice A1 l1.length c1] w fun e w' => e = .returned (.bool r) ∧ Below w.heap.size w w' := by
  have HG := Aside0.mk hG
  clear hG
  have HR1 := Aside0.mk hr1
  have HC1 := Aside0.mk hc1
  clear hr1 hc1
  have HB := Aside0.mk (Below.refl w.heap.size w)
  have H : ((tiklaw25_first.f k).bind fun t181 => (if t181 = true then ((pkt_NewWindow.f a0).bind fun t182 => (if (l1.length : Int) > 300 then ((tiklaw25_first.f k).bind fun t184 => (some t184)) else (tiklaw25_PktWindow.l0 k a0 l1 0 t182))) else (some false))) = some r := h
  clear h
  replace H := Option.bind_eq_some_iff.mp H
  obtain ⟨t181, A30, H⟩ := H
  replace H : (if t181 = true then ((pkt_NewWindow.f a0).bind fun t182 => (if (l1.length : Int) > 300 then ((tiklaw25_first.f k).bind fun t184 => (some t184)) else (tiklaw25_PktWindow.l0 k a0 l1 0 t182))) else (some false)) = some r := H
  have A3 := Aside0.mk A30
  clear A30
  by_cases c4 : t181 = true
  · subst c4
    have H1 : ((pkt_NewWindow.f a0).bind fun t182 => (if (l1.length : Int) > 300 then ((tiklaw25_first.f k).bind fun t184 => (some t184)) else (tiklaw25_PktWindow.l0 k a0 l1 0 t182))) = some r := by rw [if_pos rfl] at H; exact H
    clear H
    have H := H1
    clear H1
    replace H := Option.bind_eq_some_iff.mp H
    obtain ⟨t182, A50, H⟩ := H
    replace H : (if (l1.length : Int) > 300 then ((tiklaw25_first.f k).bind fun t184 => (some t184)) else (tiklaw25_PktWindow.l0 k a0 l1 0 t182)) = some r := H
    have A5 := Aside0.mk A50
    clear A50
    by_cases c6 : (l1.length : Int) > 300
    · rw [if_pos c6] at H
      have c6b0 : decide (300 < (l1.length : Int)) = true := decide_eq_true c6
      have c6b1 : decide (300 < l1.length) = true := decide_eq_true (by omega)
      clear c6
      replace H := Option.bind_eq_some_iff.mp H
      obtain ⟨t184, A70, H⟩ := H
      replace H : (some t184) = some r := H
      have A7 := Aside0.mk A70
      clear A70
      obtain rfl := Option.some.inj H
      go_enter Tryd.func3, Tryd.ntmps3
      go_wp2_with (first | ((with_reducible refine gate_callee (f := 10) rfl ?_); refine goesL_ (some 9) rfl rfl Tryd.func10 (by kernel_rfl) rfl #[] rfl (by (try simp only [List.map_toArray, List.map_cons, List.map_nil]); first | done | rfl | (simp only [List.length_drop, List.length_take]; rfl)) ?_; (with_reducible refine (tiklaw25_first.calls k  true _ ?side1 A3.out).mono ?_); (case side1 => first | exact HG.out | exact LaidG.below HG.out (by repeat (first | (with_reducible first | exact HB.out | apply below_alloc | apply pw_below_drewN | apply below_drew1) | exact HB.out)) | exact LaidG.at HG.out (by assumption)); rintro e w8 ⟨rfl, hb⟩; refine ⟨_, rfl, ?_⟩; have n0_ := Aside0.mk (below_step (by repeat (first | (with_reducible first | exact HB.out | apply below_alloc | apply pw_below_drewN | apply below_drew1) | exact HB.out)) hb); clear HB; have HB := n0_; clear n0_; (try clear hb); (try clear hb2); (try clear hk); (try clear hi)) | ((with_reducible refine gate_callee (f := 11) rfl ?_); refine goesL_ (some 12) rfl rfl Tryd.func11 (by kernel_rfl) rfl #[.int .u64 a0] rfl (by (try simp only [List.map_toArray, List.map_cons, List.map_nil]); first | done | rfl | (simp only [List.length_drop, List.length_take]; rfl)) ?_; (with_reducible refine (pkt_NewWindow.calls a0 t182 w _ ?side1 A5.out).mono ?_); (case side1 => repeat (first | (with_reducible first | exact HB.out | apply below_alloc | apply pw_below_drewN | apply below_drew1) | exact HB.out)); rintro e w9 ⟨g183, rfl, hi, hb, hb2⟩; refine ⟨_, rfl, ?_⟩; have n0_ := Aside0.mk (hb); have n1_ := Aside0.mk (hi); clear HB; have HB := n0_; have HI183 := n1_; clear n0_ n1_; (try clear hb); (try clear hb2); (try clear hk); (try clear hi)) | (go_at_call 10; (with_reducible refine (tiklaw25_first.calls k  t184 _ ?side1 A7.out).mono ?_); (case side1 => first | exact HG.out | exact LaidG.below HG.out (by repeat (first | (with_reducible first | exact HB.out | apply below_alloc | apply pw_below_drewN | apply below_drew1) | exact HB.out)) | exact LaidG.at HG.out (by assumption)); rintro e w10 ⟨rfl, hb⟩; have n0_ := Aside0.mk (IsS76.below (by repeat (first | (with_reducible first | exact HI183.out | apply IsS76.alloc | apply IsS76.drewN | apply IsS76.drew | apply IsS76.set_0) | exact HI183.out)) hb); have n1_ := Aside0.mk (below_step (by repeat (first | (with_reducible first | exact HB.out | apply below_alloc | apply pw_below_drewN | apply below_drew1 | refine below_set ?_ (IsS76.ge HI183.out)) | exact HB.out)) hb); clear HI183; clear HB; have HI183 := n0_; have HB := n1_; clear n0_ n1_; (try clear hb); (try clear hb2); (try clear hk); (try clear hi)))
      go_ret
      exact ⟨by first | rfl | (simp [errW_none, errW_some] <;> rfl) | (simp [*, errW_none, errW_some] <;> rfl), by repeat (first | (with_reducible first | exact HB.out | apply below_alloc | apply pw_below_drewN | apply below_drew1 | refine below_set ?_ (IsS76.ge HI183.out)) | exact HB.out)⟩
    · rw [if_neg c6] at H
      have c6b0 : decide (300 < (l1.length : Int)) = false := decide_eq_false c6
      have c6b1 : decide (300 < l1.length) = false := decide_eq_false (by omega)
      clear c6
      have H' := Aside0.mk H
      clear H
      go_enter Tryd.func3, Tryd.ntmps3
      go_wp2_with (first | ((with_reducible refine gate_callee (f := 10) rfl ?_); refine goesL_ (some 9) rfl rfl Tryd.func10 (by kernel_rfl) rfl #[] rfl (by (try simp only [List.map_toArray, List.map_cons, List.map_nil]); first | done | rfl | (simp only [List.length_drop, List.length_take]; rfl)) ?_; (with_reducible refine (tiklaw25_first.calls k  true _ ?side1 A3.out).mono ?_); (case side1 => first | exact HG.out | exact LaidG.below HG.out (by repeat (first | (with_reducible first | exact HB.out | apply below_alloc | apply pw_below_drewN | apply below_drew1) | exact HB.out)) | exact LaidG.at HG.out (by assumption)); rintro e w11 ⟨rfl, hb⟩; refine ⟨_, rfl, ?_⟩; have n0_ := Aside0.mk (below_step (by repeat (first | (with_reducible first | exact HB.out | apply below_alloc | apply pw_below_drewN | apply below_drew1) | exact HB.out)) hb); clear HB; have HB := n0_; clear n0_; (try clear hb); (try clear hb2); (try clear hk); (try clear hi)) | ((with_reducible refine gate_callee (f := 11) rfl ?_); refine goesL_ (some 12) rfl rfl Tryd.func11 (by kernel_rfl) rfl #[.int .u64 a0] rfl (by (try simp only [List.map_toArray, List.map_cons, List.map_nil]); first | done | rfl | (simp only [List.length_drop, List.length_take]; rfl)) ?_; (with_reducible refine (pkt_NewWindow.calls a0 t182 w _ ?side1 A5.out).mono ?_); (case side1 => repeat (first | (with_reducible first | exact HB.out | apply below_alloc | apply pw_below_drewN | apply below_drew1) | exact HB.out)); rintro e w12 ⟨g183, rfl, hi, hb, hb2⟩; refine ⟨_, rfl, ?_⟩; have n0_ := Aside0.mk (hb); have n1_ := Aside0.mk (hi); clear HB; have HB := n0_; have HI183 := n1_; clear n0_ n1_; (try clear hb); (try clear hb2); (try clear hk); (try clear hi)))
      go_loopg [0, 6] k (fun kq v0 v6 w' => ∃ (x0_1 : Int) (x6_1 : Int) (x184000_1 : Int), v0 = .int .u64 x0_1 ∧ v6 = .int .i64 x6_1 ∧ Aside0 (tiklaw25_PktWindow.l0 kq x0_1 l1 x6_1 x184000_1 = some r) ∧ Aside0 (kq ≤ k) ∧ Aside0 (IsS76 w w' g183 x184000_1) ∧ Aside0 (Below w.heap.size w w'))
      case atStart => exact ⟨(a0), (0), (t182), (by first | rfl | (simp; done) | (simp [*]; done)), (by first | rfl | (simp; done) | (simp [*]; done)), H', ⟨Nat.le_refl _⟩, ⟨by repeat (first | (with_reducible first | exact HI183.out | apply IsS76.alloc | apply IsS76.drewN | apply IsS76.drew | apply IsS76.set_0) | exact HI183.out)⟩, ⟨by repeat (first | (with_reducible first | exact HB.out | apply below_alloc | apply pw_below_drewN | apply below_drew1 | refine below_set ?_ (IsS76.ge HI183.out)) | exact HB.out)⟩⟩
      case round =>
        clear H'
        try clear c1
        try clear p2
        try clear c3
        try clear c4
        try clear c6
        try clear c6b0
        try clear c6b1
        try clear c10
        try clear c11
        obtain ⟨x0_1, x6_1, x184000_1, rfl, rfl, HA, HK1, HI183, HB⟩ := hrel
        cases gk with
        | zero => exact absurd HA.out (by simp [tiklaw25_PktWindow.l0])
        | succ k1 =>
          have H := HA.out
          clear HA
          simp only [tiklaw25_PktWindow.l0] at H
          by_cases c13 : x6_1 < (l1.length : Int)
          · rw [if_pos c13] at H
            have c13b0 : decide (x6_1 < (l1.length : Int)) = true := decide_eq_true c13
            clear c13
            by_cases c14 : 0 ≤ x6_1
            · rw [if_pos c14] at H
              have c14b0 : decide (0 ≤ x6_1) = true := decide_eq_true c14
              clear c14
              replace H := Option.bind_eq_some_iff.mp H
              obtain ⟨⟨t187, t188⟩, A150, H⟩ := H
              replace H : ((pkt_Window_Take.f t188 (rd l1 x6_1)).bind fun bt190 => (if (t187 != (decide ((rd l1 x6_1) > x0_1))) = true then (tiklaw25_PktWindow.j1 k1 x0_1 l1 x6_1 true bt190.2) else (if ((bt190.1 == 0) != t187) = true then (tiklaw25_PktWindow.j1 k1 x0_1 l1 x6_1 true bt190.2) else (if t187 = true then (tiklaw25_PktWindow.j1 k1 x0_1 l1 x6_1 false bt190.2) else (tiklaw25_PktWindow.j1 k1 x0_1 l1 x6_1 (bt190.1 != 14) bt190.2))))) = some r := H
              have A15 := Aside0.mk A150
              clear A150
              replace H := Option.bind_eq_some_iff.mp H
              obtain ⟨⟨t190, t191⟩, A160, H⟩ := H
              replace H : (if (t187 != (decide ((rd l1 x6_1) > x0_1))) = true then (tiklaw25_PktWindow.j1 k1 x0_1 l1 x6_1 true t191) else (if ((t190 == 0) != t187) = true then (tiklaw25_PktWindow.j1 k1 x0_1 l1 x6_1 true t191) else (if t187 = true then (tiklaw25_PktWindow.j1 k1 x0_1 l1 x6_1 false t191) else (tiklaw25_PktWindow.j1 k1 x0_1 l1 x6_1 (t190 != 14) t191)))) = some r := H
              have A16 := Aside0.mk A160
              clear A160
              have HC17 := Aside0.mk H
              clear H
              have p186 : 0 ≤ (x6_1 : Int) := of_decide_eq_true (by first | (with_reducible assumption) | assumption)
              have q186 : x6_1 < (l1.length : Int) := of_decide_eq_true (by first | (with_reducible assumption) | assumption)
              obtain ⟨ad186, e186, hx186_0⟩ := Kd.at_int HR1.out x6_1 p186 q186
              cases e186
              replace hx186_0 := (HB.out.cell (World.block_lt_of_cell? w _ hx186_0)).trans hx186_0
              replace p186 := eq_true p186
              replace q186 := eq_true q186
              go_upto_region 11 with (first | ((with_reducible refine gate_callee (f := 12) rfl ?_); refine goesL_ (some 36) rfl rfl Tryd.func12 (by kernel_rfl) rfl #[.pointer (some ⟨g183, 0, none⟩), .int .u64 (rd l1 x6_1)] rfl (by (try simp only [List.map_toArray, List.map_cons, List.map_nil]); first | done | rfl | (simp only [List.length_drop, List.length_take]; rfl)) ?_; (with_reducible refine (pkt_Window_Fresh.calls g183 x184000_1 (rd l1 x6_1) t187 t188 w _ ?side1 ?side2 A15.out).mono ?_); (case side1 => repeat (first | (with_reducible first | exact HI183.out | apply IsS76.alloc | apply IsS76.drewN | apply IsS76.drew | apply IsS76.set_0) | exact HI183.out)); (case side2 => repeat (first | (with_reducible first | exact HB.out | apply below_alloc | apply pw_below_drewN | apply below_drew1 | refine below_set ?_ (IsS76.ge HI183.out)) | exact HB.out)); rintro e w18 ⟨rfl, hi, hb, hk⟩; refine ⟨_, rfl, ?_⟩; have n0_ := Aside0.mk (hb); have n1_ := Aside0.mk (hi); clear HB; clear HI183; have HB := n0_; have HI183 := n1_; clear n0_ n1_; (try clear hb); (try clear hb2); (try clear hk); (try clear hi); have p189 : 0 ≤ (x6_1 : Int) := of_decide_eq_true (by first | (with_reducible assumption) | assumption); have q189 : x6_1 < (l1.length : Int) := of_decide_eq_true (by first | (with_reducible assumption) | assumption); obtain ⟨ad189, e189, hx189_0⟩ := Kd.at_int HR1.out x6_1 p189 q189; obtain rfl : ad186 = ad189 := (by injection e189); replace hx189_0 := (HB.out.cell (World.block_lt_of_cell? w _ hx189_0)).trans hx189_0; replace p189 := eq_true p189; replace q189 := eq_true q189) | ((with_reducible refine gate_callee (f := 13) rfl ?_); refine goesL_ (some 42) rfl rfl Tryd.func13 (by kernel_rfl) rfl #[.pointer (some ⟨g183, 0, none⟩), .int .u64 (rd l1 x6_1)] rfl (by (try simp only [List.map_toArray, List.map_cons, List.map_nil]); first | done | rfl | (simp only [List.length_drop, List.length_take]; rfl)) ?_; (with_reducible refine (pkt_Window_Take.calls g183 t188 (rd l1 x6_1) t190 t191 w _ ?side1 ?side2 A16.out).mono ?_); (case side1 => repeat (first | (with_reducible first | exact HI183.out | apply IsS76.alloc | apply IsS76.drewN | apply IsS76.drew | apply IsS76.set_0) | exact HI183.out)); (case side2 => repeat (first | (with_reducible first | exact HB.out | apply below_alloc | apply pw_below_drewN | apply below_drew1 | refine below_set ?_ (IsS76.ge HI183.out)) | exact HB.out)); rintro e w19 ⟨rfl, hi, hb, hk⟩; refine ⟨_, rfl, ?_⟩; have n0_ := Aside0.mk (hb); have n1_ := Aside0.mk (hi); clear HB; clear HI183; have HB := n0_; have HI183 := n1_; clear n0_ n1_; (try clear hb); (try clear hb2); (try clear hk); (try clear hi)))
              (try simp only [Act.put, List.setIfInBounds_toArray, List.set_cons_zero, List.set_cons_succ])
              go_cut [64] (fun v64 wc => ∃ (kq : Nat) (x64_16 : Bool), v64 = .bool x64_16 ∧ Aside0 (tiklaw25_PktWindow.j1 kq x0_1 l1 x6_1 x64_16 t191 = some r) ∧ Aside0 (kq ≤ k1) ∧ Aside0 (IsS76 w wc g183 t191) ∧ Aside0 (Below w.heap.size w wc))
              case first =>
                have H := HC17.out
                clear HC17
                by_cases c20 : (t187 != (decide ((rd l1 x6_1) > x0_1))) = true
                · rw [if_pos c20] at H
                  have c20b0 : (t187 != (decide ((rd l1 x6_1) > x0_1))) = true := c20
                  (try (have c20b1 : decide (t187 = (decide ((rd l1 x6_1) > x0_1))) = false := by simpa using c20))
                  (try (have c20b2 : (t187 == (decide ((rd l1 x6_1) > x0_1))) = false := by simpa using c20))
                  (try (have c20b3 : ¬ (t187 = (decide ((rd l1 x6_1) > x0_1))) := by simpa using c20))
                  clear c20
                  (first | rw [c20b0] | (simp only [i64_w, i32_w]; rw [c20b0]) | skip)
                  have H' := Aside0.mk H
                  clear H
                  have p192 : 0 ≤ (x6_1 : Int) := of_decide_eq_true (by first | (with_reducible assumption) | assumption)
                  have q192 : x6_1 < (l1.length : Int) := of_decide_eq_true (by first | (with_reducible assumption) | assumption)
                  obtain ⟨ad192, e192, hx192_0⟩ := Kd.at_int HR1.out x6_1 p192 q192
                  obtain rfl : ad186 = ad192 := (by injection e192)
                  replace hx192_0 := (HB.out.cell (World.block_lt_of_cell? w _ hx192_0)).trans hx192_0
                  replace p192 := eq_true p192
                  replace q192 := eq_true q192
                  go_wp2
                  go_meet
                  case rel => exact ⟨_, (true), (by first | rfl | (simp; done) | (simp [*]; done)), H', ⟨by have := HK1.out; first | omega | exact Nat.le_refl _⟩, ⟨by repeat (first | (with_reducible first | exact HI183.out | apply IsS76.alloc | apply IsS76.drewN | apply IsS76.drew | apply IsS76.set_0) | exact HI183.out)⟩, ⟨by repeat (first | (with_reducible first | exact HB.out | apply below_alloc | apply pw_below_drewN | apply below_drew1 | refine below_set ?_ (IsS76.ge HI183.out)) | exact HB.out)⟩⟩
                · rw [if_neg c20] at H
                  have c20b0 : (t187 != (decide ((rd l1 x6_1) > x0_1))) = false := by simpa using c20
                  (try (have c20b1 : decide (t187 = (decide ((rd l1 x6_1) > x0_1))) = true := by simpa using c20))
                  (try (have c20b2 : (t187 == (decide ((rd l1 x6_1) > x0_1))) = true := by simpa using c20))
                  clear c20
                  (first | rw [c20b0] | (simp only [i64_w, i32_w]; rw [c20b0]) | skip)
                  by_cases c21 : ((t190 == 0) != t187) = true
                  · rw [if_pos c21] at H
                    have c21b0 : ((t190 == 0) != t187) = true := c21
                    (try (have c21b1 : decide ((t190 == 0) = t187) = false := by simpa using c21))
                    (try (have c21b2 : ((t190 == 0) == t187) = false := by simpa using c21))
                    (try (have c21b3 : ¬ ((t190 == 0) = t187) := by simpa using c21))
                    clear c21
                    have H' := Aside0.mk H
                    clear H
                    have p192 : 0 ≤ (x6_1 : Int) := of_decide_eq_true (by first | (with_reducible assumption) | assumption)
                    have q192 : x6_1 < (l1.length : Int) := of_decide_eq_true (by first | (with_reducible assumption) | assumption)
                    obtain ⟨ad192, e192, hx192_0⟩ := Kd.at_int HR1.out x6_1 p192 q192
                    obtain rfl : ad186 = ad192 := (by injection e192)
                    replace hx192_0 := (HB.out.cell (World.block_lt_of_cell? w _ hx192_0)).trans hx192_0
                    replace p192 := eq_true p192
                    replace q192 := eq_true q192
                    go_wp2
                    go_meet
                    case rel => exact ⟨_, (true), (by first | rfl | (simp; done) | (simp [*]; done)), H', ⟨by have := HK1.out; first | omega | exact Nat.le_refl _⟩, ⟨by repeat (first | (with_reducible first | exact HI183.out | apply IsS76.alloc | apply IsS76.drewN | apply IsS76.drew | apply IsS76.set_0) | exact HI183.out)⟩, ⟨by repeat (first | (with_reducible first | exact HB.out | apply below_alloc | apply pw_below_drewN | apply below_drew1 | refine below_set ?_ (IsS76.ge HI183.out)) | exact HB.out)⟩⟩
                  · rw [if_neg c21] at H
                    have c21b0 : ((t190 == 0) != t187) = false := by simpa using c21
                    (try (have c21b1 : decide ((t190 == 0) = t187) = true := by simpa using c21))
                    (try (have c21b2 : ((t190 == 0) == t187) = true := by simpa using c21))
                    clear c21
                    by_cases c22 : t187 = true
                    · subst c22
                      have H1 : (tiklaw25_PktWindow.j1 k1 x0_1 l1 x6_1 false t191) = some r := by rw [if_pos rfl] at H; exact H
                      clear H
                      have H := H1
                      clear H1
                      have H' := Aside0.mk H
                      clear H
                      have p192 : 0 ≤ (x6_1 : Int) := of_decide_eq_true (by first | (with_reducible assumption) | assumption)
                      have q192 : x6_1 < (l1.length : Int) := of_decide_eq_true (by first | (with_reducible assumption) | assumption)
                      obtain ⟨ad192, e192, hx192_0⟩ := Kd.at_int HR1.out x6_1 p192 q192
                      obtain rfl : ad186 = ad192 := (by injection e192)
                      replace hx192_0 := (HB.out.cell (World.block_lt_of_cell? w _ hx192_0)).trans hx192_0
                      replace p192 := eq_true p192
                      replace q192 := eq_true q192
                      go_wp2
                      go_meet
                      case rel => exact ⟨_, (false), (by first | rfl | (simp; done) | (simp [*]; done)), H', ⟨by have := HK1.out; first | omega | exact Nat.le_refl _⟩, ⟨by repeat (first | (with_reducible first | exact HI183.out | apply IsS76.alloc | apply IsS76.drewN | apply IsS76.drew | apply IsS76.set_0) | exact HI183.out)⟩, ⟨by repeat (first | (with_reducible first | exact HB.out | apply below_alloc | apply pw_below_drewN | apply below_drew1 | refine below_set ?_ (IsS76.ge HI183.out)) | exact HB.out)⟩⟩
                    · replace c22 := Bool.eq_false_iff.mpr c22
                      subst c22
                      have H1 : (tiklaw25_PktWindow.j1 k1 x0_1 l1 x6_1 (t190 != 14) t191) = some r := by rw [if_neg (show ¬ (false = true) by decide)] at H; exact H
                      clear H
                      have H := H1
                      clear H1
                      have H' := Aside0.mk H
                      clear H
                      have p192 : 0 ≤ (x6_1 : Int) := of_decide_eq_true (by first | (with_reducible assumption) | assumption)
                      have q192 : x6_1 < (l1.length : Int) := of_decide_eq_true (by first | (with_reducible assumption) | assumption)
                      obtain ⟨ad192, e192, hx192_0⟩ := Kd.at_int HR1.out x6_1 p192 q192
                      obtain rfl : ad186 = ad192 := (by injection e192)
                      replace hx192_0 := (HB.out.cell (World.block_lt_of_cell? w _ hx192_0)).trans hx192_0
                      replace p192 := eq_true p192
                      replace q192 := eq_true q192
                      go_wp2
                      go_meet
                      case rel => exact ⟨_, ((t190 != 14)), (by first | rfl | (simp; done) | (simp [*]; done)), H', ⟨by have := HK1.out; first | omega | exact Nat.le_refl _⟩, ⟨by repeat (first | (with_reducible first | exact HI183.out | apply IsS76.alloc | apply IsS76.drewN | apply IsS76.drew | apply IsS76.set_0) | exact HI183.out)⟩, ⟨by repeat (first | (with_reducible first | exact HB.out | apply below_alloc | apply pw_below_drewN | apply below_drew1 | refine below_set ?_ (IsS76.ge HI183.out)) | exact HB.out)⟩⟩
              case rest =>
                clear HC17
                try clear c1
                try clear p1
                try clear q1
                try clear hx1
                try clear c2
                try clear p2
                try clear c3
                try clear c4
                try clear c6
                try clear c6b0
                try clear c6b1
                try clear c10
                try clear c11
                try clear c12
                try clear c13
                try clear c13b0
                try clear c14
                try clear c14b0
                try clear p18
                try clear q18
                try clear hx18
                try clear p19
                try clear q19
                try clear hx19
                try clear c20
                try clear c20b0
                try clear c20b1
                try clear c20b2
                try clear c21
                try clear c21b0
                try clear c21b1
                try clear c21b2
                try clear c22
                try clear hx186_0
                try clear hx189_0
                try clear hx192_0
                try clear p186
                try clear p189
                try clear p192
                try clear p2
                try clear q186
                try clear q189
                try clear q192
                obtain ⟨kq, x64_16, rfl, HA, HJ16, HI183, HB⟩ := hcut
                cases kq with
                | zero => exact absurd HA.out (by simp [tiklaw25_PktWindow.j1])
                | succ kj16 =>
                  have H := HA.out
                  clear HA
                  simp only [tiklaw25_PktWindow.j1] at H
                  by_cases c23 : x64_16 = true
                  · subst c23
                    have H1 : (some false) = some r := by rw [if_pos rfl] at H; exact H
                    clear H
                    have H := H1
                    clear H1
                    obtain rfl := Option.some.inj H
                    go_wp2
                    go_ret
                    exact ⟨by first | rfl | (simp [errW_none, errW_some] <;> rfl) | (simp [*, errW_none, errW_some] <;> rfl), by repeat (first | (with_reducible first | exact HB.out | apply below_alloc | apply pw_below_drewN | apply below_drew1 | refine below_set ?_ (IsS76.ge HI183.out)) | exact HB.out)⟩
                  · replace c23 := Bool.eq_false_iff.mpr c23
                    subst c23
                    have H1 : (if 0 ≤ x6_1 then (if x6_1 < (l1.length : Int) then ((pkt_Window_Last.f t191).bind fun bt194 => (if bt194.1 = (mx x0_1 (rd l1 x6_1)) then (tiklaw25_PktWindow.l0 kj16 (mx x0_1 (rd l1 x6_1)) l1 (wrap64 (x6_1 + 1)) bt194.2) else (some false))) else (none)) else (none)) = some r := by rw [if_neg (show ¬ (false = true) by decide)] at H; exact H
                    clear H
                    have H := H1
                    clear H1
                    by_cases c24 : 0 ≤ x6_1
                    · rw [if_pos c24] at H
                      have c24b0 : decide (0 ≤ x6_1) = true := decide_eq_true c24
                      clear c24
                      by_cases c25 : x6_1 < (l1.length : Int)
                      · rw [if_pos c25] at H
                        have c25b0 : decide (x6_1 < (l1.length : Int)) = true := decide_eq_true c25
                        clear c25
                        obtain ⟨ji26, hji26⟩ : ∃ j_ : Int, (mx x0_1 (rd l1 x6_1)) = j_ := ⟨_, rfl⟩
                        replace H : ((pkt_Window_Last.f t191).bind fun bt194 => (if bt194.1 = (ji26) then (tiklaw25_PktWindow.l0 kj16 ji26 l1 (wrap64 (x6_1 + 1)) bt194.2) else (some false))) = some r := by first | (rw [hji26] at H; exact H) | (simp only [hji26] at H ⊢; exact H)
                        have hji26_ : (if x0_1 < (rd l1 x6_1) then (rd l1 x6_1) else x0_1) = ji26 := hji26
                        replace H := Option.bind_eq_some_iff.mp H
                        obtain ⟨⟨t194, t195⟩, A270, H⟩ := H
                        replace H : (if t194 = (ji26) then (tiklaw25_PktWindow.l0 kj16 ji26 l1 (wrap64 (x6_1 + 1)) t195) else (some false)) = some r := H
                        have A27 := Aside0.mk A270
                        clear A270
                        by_cases c28 : t194 = (ji26)
                        · rw [if_pos c28] at H
                          have c28b0 : (t194 == (ji26)) = true := beq_iff_eq.mpr c28
                          have c28b1 : (t194 != (ji26)) = false := bne_eq_false_iff_eq.mpr c28
                          clear c28
                          have H' := Aside0.mk H
                          clear H
                          have p193 : 0 ≤ (x6_1 : Int) := of_decide_eq_true (by first | (with_reducible assumption) | assumption)
                          have q193 : x6_1 < (l1.length : Int) := of_decide_eq_true (by first | (with_reducible assumption) | assumption)
                          obtain ⟨ad193, e193, hx193_0⟩ := Kd.at_int HR1.out x6_1 p193 q193
                          obtain rfl : ad186 = ad193 := (by injection e193)
                          replace hx193_0 := (HB.out.cell (World.block_lt_of_cell? w _ hx193_0)).trans hx193_0
                          replace p193 := eq_true p193
                          replace q193 := eq_true q193
                          go_wp2_with (first | ((with_reducible refine gate_callee (f := 14) rfl ?_); refine goesL_ (some 72) rfl rfl Tryd.func14 (by kernel_rfl) rfl #[.pointer (some ⟨g183, 0, none⟩)] rfl (by (try simp only [List.map_toArray, List.map_cons, List.map_nil]); first | done | rfl | (simp only [List.length_drop, List.length_take]; rfl)) ?_; (with_reducible refine (pkt_Window_Last.calls g183 t191 t194 t195 w _ ?side1 ?side2 A27.out).mono ?_); (case side1 => repeat (first | (with_reducible first | exact HI183.out | apply IsS76.alloc | apply IsS76.drewN | apply IsS76.drew | apply IsS76.set_0) | exact HI183.out)); (case side2 => repeat (first | (with_reducible first | exact HB.out | apply below_alloc | apply pw_below_drewN | apply below_drew1 | refine below_set ?_ (IsS76.ge HI183.out)) | exact HB.out)); rintro e w29 ⟨rfl, hi, hb, hk⟩; refine ⟨_, rfl, ?_⟩; have n0_ := Aside0.mk (hb); have n1_ := Aside0.mk (hi); clear HB; clear HI183; have HB := n0_; have HI183 := n1_; clear n0_ n1_; (try clear hb); (try clear hb2); (try clear hk); (try clear hi)))
                          go_roundg kj16
                          case measure => have := HK1.out; have := HJ16.out; omega
                          case rel => exact ⟨(ji26), (wrap64 (x6_1 + 1)), (t195), (by first | rfl | (simp; done) | (simp only [← hji26] <;> (first | rfl | simp)) | (simp [*]; done)), (by first | rfl | (simp; done) | (simp [*]; done)), H', ⟨by have := HK1.out; have := HJ16.out; omega⟩, ⟨by repeat (first | (with_reducible first | exact HI183.out | apply IsS76.alloc | apply IsS76.drewN | apply IsS76.drew | apply IsS76.set_0) | exact HI183.out)⟩, ⟨by repeat (first | (with_reducible first | exact HB.out | apply below_alloc | apply pw_below_drewN | apply below_drew1 | refine below_set ?_ (IsS76.ge HI183.out)) | exact HB.out)⟩⟩
                        · rw [if_neg c28] at H
                          have c28b0 : (t194 == (ji26)) = false := beq_eq_false_iff_ne.mpr c28
                          have c28b1 : (t194 != (ji26)) = true := bne_iff_ne.mpr c28
                          obtain rfl := Option.some.inj H
                          have p193 : 0 ≤ (x6_1 : Int) := of_decide_eq_true (by first | (with_reducible assumption) | assumption)
                          have q193 : x6_1 < (l1.length : Int) := of_decide_eq_true (by first | (with_reducible assumption) | assumption)
                          obtain ⟨ad193, e193, hx193_0⟩ := Kd.at_int HR1.out x6_1 p193 q193
                          obtain rfl : ad186 = ad193 := (by injection e193)
                          replace hx193_0 := (HB.out.cell (World.block_lt_of_cell? w _ hx193_0)).trans hx193_0
                          replace p193 := eq_true p193
                          replace q193 := eq_true q193
                          go_wp2_with (first | ((with_reducible refine gate_callee (f := 14) rfl ?_); refine goesL_ (some 72) rfl rfl Tryd.func14 (by kernel_rfl) rfl #[.pointer (some ⟨g183, 0, none⟩)] rfl (by (try simp only [List.map_toArray, List.map_cons, List.map_nil]); first | done | rfl | (simp only [List.length_drop, List.length_take]; rfl)) ?_; (with_reducible refine (pkt_Window_Last.calls g183 t191 t194 t195 w _ ?side1 ?side2 A27.out).mono ?_); (case side1 => repeat (first | (with_reducible first | exact HI183.out | apply IsS76.alloc | apply IsS76.drewN | apply IsS76.drew | apply IsS76.set_0) | exact HI183.out)); (case side2 => repeat (first | (with_reducible first | exact HB.out | apply below_alloc | apply pw_below_drewN | apply below_drew1 | refine below_set ?_ (IsS76.ge HI183.out)) | exact HB.out)); rintro e w30 ⟨rfl, hi, hb, hk⟩; refine ⟨_, rfl, ?_⟩; have n0_ := Aside0.mk (hb); have n1_ := Aside0.mk (hi); clear HB; clear HI183; have HB := n0_; have HI183 := n1_; clear n0_ n1_; (try clear hb); (try clear hb2); (try clear hk); (try clear hi)))
                          go_ret
                          exact ⟨by first | rfl | (simp [errW_none, errW_some] <;> rfl) | (simp only [← hji26]; first | rfl | (simp [errW_none, errW_some] <;> rfl)) | (simp [*, errW_none, errW_some] <;> rfl), by repeat (first | (with_reducible first | exact HB.out | apply below_alloc | apply pw_below_drewN | apply below_drew1 | refine below_set ?_ (IsS76.ge HI183.out)) | exact HB.out)⟩
                      · rw [if_neg c25] at H
                        exact absurd H (by simp)
                    · rw [if_neg c24] at H
                      exact absurd H (by simp)
            · rw [if_neg c14] at H
              exact absurd H (by simp)
          · rw [if_neg c13] at H
            have c13b0 : decide (x6_1 < (l1.length : Int)) = false := decide_eq_false c13
            clear c13
            replace H := Option.bind_eq_some_iff.mp H
            obtain ⟨t185, A310, H⟩ := H
            replace H : (some t185) = some r := H
            have A31 := Aside0.mk A310
            clear A310
            obtain rfl := Option.some.inj H
            go_wp2_with (first | ((with_reducible refine gate_callee (f := 10) rfl ?_); refine goesL_ (some 75) rfl rfl Tryd.func10 (by kernel_rfl) rfl #[] rfl (by (try simp only [List.map_toArray, List.map_cons, List.map_nil]); first | done | rfl | (simp only [List.length_drop, List.length_take]; rfl)) ?_; (with_reducible refine (tiklaw25_first.calls k1  t185 _ ?side1 A31.out).mono ?_); (case side1 => first | exact HG.out | exact LaidG.below HG.out (by repeat (first | (with_reducible first | exact HB.out | apply below_alloc | apply pw_below_drewN | apply below_drew1) | exact HB.out)) | exact LaidG.at HG.out (by assumption)); rintro e w32 ⟨rfl, hb⟩; refine ⟨_, rfl, ?_⟩; have n0_ := Aside0.mk (IsS76.below (by repeat (first | (with_reducible first | exact HI183.out | apply IsS76.alloc | apply IsS76.drewN | apply IsS76.drew | apply IsS76.set_0) | exact HI183.out)) hb); have n1_ := Aside0.mk (below_step (by repeat (first | (with_reducible first | exact HB.out | apply below_alloc | apply pw_below_drewN | apply below_drew1 | refine below_set ?_ (IsS76.ge HI183.out)) | exact HB.out)) hb); clear HI183; clear HB; have HI183 := n0_; have HB := n1_; clear n0_ n1_; (try clear hb); (try clear hb2); (try clear hk); (try clear hi)))
            go_ret
            exact ⟨by first | rfl | (simp [errW_none, errW_some] <;> rfl) | (simp [*, errW_none, errW_some] <;> rfl), by repeat (first | (with_reducible first | exact HB.out | apply below_alloc | apply pw_below_drewN | apply below_drew1 | refine below_set ?_ (IsS76.ge HI183.out)) | exact HB.out)⟩
  · replace c4 := Bool.eq_false_iff.mpr c4
    subst c4
    have H1 : (some false) = some r := by rw [if_neg (show ¬ (false = true) by decide)] at H; exact H
    clear H
    have H := H1
    clear H1
    obtain rfl := Option.some.inj H
    go_enter Tryd.func3, Tryd.ntmps3
    go_wp2_with (first | ((with_reducible refine gate_callee (f := 10) rfl ?_); refine goesL_ (some 9) rfl rfl Tryd.func10 (by kernel_rfl) rfl #[] rfl (by (try simp only [List.map_toArray, List.map_cons, List.map_nil]); first | done | rfl | (simp only [List.length_drop, List.length_take]; rfl)) ?_; (with_reducible refine (tiklaw25_first.calls k  false _ ?side1 A3.out).mono ?_); (case side1 => first | exact HG.out | exact LaidG.below HG.out (by repeat (first | (with_reducible first | exact HB.out | apply below_alloc | apply pw_below_drewN | apply below_drew1) | exact HB.out)) | exact LaidG.at HG.out (by assumption)); rintro e w33 ⟨rfl, hb⟩; refine ⟨_, rfl, ?_⟩; have n0_ := Aside0.mk (below_step (by repeat (first | (with_reducible first | exact HB.out | apply below_alloc | apply pw_below_drewN | apply below_drew1) | exact HB.out)) hb); clear HB; have HB := n0_; clear n0_; (try clear hb); (try clear hb2); (try clear hk); (try clear hi)))
    go_ret
    exact ⟨by first | rfl | (simp [errW_none, errW_some] <;> rfl) | (simp [*, errW_none, errW_some] <;> rfl), by repeat (first | (with_reducible first | exact HB.out | apply below_alloc | apply pw_below_drewN | apply below_drew1) | exact HB.out)⟩

end Go.Proofs.YtpimhoaeiafahaaDoor.P
