/- The row and the tied card of PeerRoams: for every input the law answers true. Conditions: none beyond the row's own (the package variable tickertape/mac.rounds, tied to the program's text). -/
import Derived.Test.YtpimhoaeiafahaaDoorRows
import Derived.Test.YtpimhoaeiafahaaDoorTie
import Derived.Test.YtpimhoaeiafahaaDoorCards
import Derived.Test.YtpimhoaeiafahaaDoorWSized
import Derived.Test.YtpimhoaeiafahaaDoorRK
import Derived.Test.YtpimhoaeiafahaaDoorP7
namespace Go.Proofs.YtpimhoaeiafahaaDoor.peerRoams
open Go.ChangeShapes Go.WideShapes Go.ChangeAt Go.RowKit Go.Proofs.YtpimhoaeiafahaaDoorW Go.Proofs.YtpimhoaeiafahaaDoorW.PrintWords Go.Proofs.YtpimhoaeiafahaaDoor.M0 Go.Proofs.YtpimhoaeiafahaaDoor.RK
set_option linter.unusedVariables false
set_option maxRecDepth 100000 in
theorem lifted (os : Os) (started : os.Started) (H : Type) (enc : TypeId × Value → H) :
    ReturnsInHanded {} Tryd.checked os 9 .any (fun w args => (Rows.peerRoamsSpec.pre enc Tryd.prog Tryd.f9 [] false w args ∧ laidMetH Tryd.prog laid w) ∧ sizedMet enc Tryd.prog Tryd.f9 (OpenSpec.ofChange Rows.peerRoamsSpec) false w args)
      (Rows.peerRoamsSpec.post enc Tryd.prog Tryd.f9 false true false false) := by
  refine returnsInHanded_of_change_and (C := Tryd.checked) (X := fun w _ => laidMetH Tryd.prog laid w) (fun _ _ _ hh h => h.of_heap hh) own started (by kernel_rfl) Tryd.func9
    (ChangeSpec.witness_shaped (enc := enc) (C := Tryd.checked) (os := os) (X := fun w _ => laidMetH Tryd.prog laid w) false (World.doorLaid Tryd.prog 400 os) #[.slice none 0 0, .slice none 0 0, .slice none 0 0] 8 rfl (World.shaped_of_RefB (by kernel_rfl) (by kernel_rfl)) (by kernel_rfl) (by kernel_rfl) (by kernel_rfl) (door_met os _)) ?_
  intro W base args ds gs before hval0 hW _ hsz0 hL _
  have hval : ∀ (j : Nat) t v, Tryd.f9.params[j]? = some t → args[j]? = some v → Value.okWide Tryd.prog W .any base t v := hval0
  have hW' := hW
  obtain ⟨p, q, hA0, hV, rfl, hfz, hnd⟩ := hW
  have hA : DataW.TrodAll enc Tryd.prog W 0 (fun _ => true) true Tryd.f9.params.toList args.toList ds p := hA0
  have hsz : (DataW.weightsEach Tryd.prog (Tryd.f9.params.toList ++ Rows.peerRoamsSpec.plain.varTypes Tryd.prog) (ds ++ gs)).all (· ≤ reachBytes) = true := hsz0
  rw [Tryd.params9] at hA hval hsz
  obtain ⟨v0, vs0, d0, ds0, p0, q0, hargs, rfl, rfl, h0, r0⟩ := trodAll_cons hA
  obtain ⟨v1, vs1, d1, ds1, p1, q1, rfl, rfl, rfl, h1, r1⟩ := trodAll_cons r0
  obtain ⟨v2, vs2, d2, ds2, p2, q2, rfl, rfl, rfl, h2, r2⟩ := trodAll_cons r1
  obtain ⟨rfl, rfl, rfl⟩ := trodAll_nil r2
  obtain rfl : args = #[v0, v1, v2] := by cases args; simp_all
  obtain ⟨rfl, rfl⟩ := trodVars_none hV
  have k0 := h0
  have lt0 : ∀ x ∈ p0, x.block < W.heap.size := by obtain ⟨m, hm⟩ := k0; exact DataW.trod_lt m _ _ _ hm
  have ow0 := hval 0 32 v0 rfl rfl
  have k1 := h1
  have lt1 : ∀ x ∈ p1, x.block < W.heap.size := by obtain ⟨m, hm⟩ := k1; exact DataW.trod_lt m _ _ _ hm
  have ow1 := hval 1 72 v1 rfl rfl
  have k2 := h2
  have lt2 : ∀ x ∈ p2, x.block < W.heap.size := by obtain ⟨m, hm⟩ := k2; exact DataW.trod_lt m _ _ _ hm
  have ow2 := hval 2 72 v2 rfl rfl
  obtain ⟨A0, c0, l0, rfl, hr0, hc0, hb0⟩ := arg_row ow0 h0
  obtain ⟨A1, c1, l1, rfl, hr1, hc1, hb1⟩ := arg_ints ow1 h1
  obtain ⟨A2, c2, l2, rfl, hr2, hc2, hb2⟩ := arg_ints ow2 h2
  have hG := of_laid hL
  clear hA0 hval0 hsz0
  have y0 : l0.length * 1 ≤ 140737488351232 := sized_ints hsz (j := 0) (t := 32) rfl rfl Tryd.underlying32 Tryd.underlying5 (by kernel_rfl) (by kernel_rfl) k0
  refine (P7.roams A0 c0 l0 A1 c1 l1 A2 c2 l2 W hr0 hc0 hr1 hc1 hr2 hc2 hG (by omega)).mono fun e W' ⟨he, bel⟩ => ?_
  subst he
  exact ⟨_, rfl, _, _, _, [], _, [], hW', trodAll_mk1 (shut_bool Tryd.underlying4 _), (trodAll_cons_mk (Below.trod laidOut (by kernel_rfl) (of_decide_eq_true (by kernel_rfl)) k0 bel lt0) (trodAll_cons_mk (Below.trod laidOut (by kernel_rfl) (of_decide_eq_true (by kernel_rfl)) k1 bel lt1) (trodAll_cons_mk (Below.trod laidOut (by kernel_rfl) (of_decide_eq_true (by kernel_rfl)) k2 bel lt2) trodAll_mk0))), rfl, bel.frame _, fun h => by cases h⟩
theorem over : Rows.peerRoamsRow.holds Tryd.pinned (OpenSpec.ofChange Rows.peerRoamsSpec) :=
  OpenClaim.holds_of_wide 9 Tryd.f9 rfl rfl rfl rfl rfl rfl rfl ⟨rfl, rfl, rfl, rfl, rfl⟩ rfl rfl rfl rfl rfl (by kernel_rfl) Tryd.func9 (by kernel_rfl)
    (of_decide_eq_true (by kernel_rfl)) (by unfold Func.isWrapper; first | (rw [if_pos (by decide +kernel)]; kernel_rfl) | (rw [if_neg (by decide +kernel)]; exact ⟨rfl, rfl⟩))
    (fun os started H enc _ => lifted os started H enc)
end Go.Proofs.YtpimhoaeiafahaaDoor.peerRoams
namespace Go.Proofs.YtpimhoaeiafahaaDoor
open Go
theorem peerRoams_row_holds : Rows.PeerRoamsSaid := peerRoams.over
theorem peerRoams_card_holds : Rows.PeerRoamsCardSaid :=
  Claim7.holds_tied_plain_at .later [] [.data] true (true, "d3c6e9a060d2c09ccf3f736e4e7418f55afb2562e8cc5583d81c9fac66c251d6") false
    peerRoams_row_holds (fun _ h => by cases h) (by kernel_rfl) (fun _ h => by cases h) peerRoams_row_tie rfl ⟨rfl, rfl⟩ (by kernel_rfl) rfl
    (fun f fn hf hfn => by
      obtain rfl : f = 9 := Option.some.inj ((show Tryd.prog.funcNamed "tickertape/tiklaw27.PeerRoams" = some 9 by kernel_rfl).symm.trans hf) |>.symm
      obtain rfl : fn = Tryd.f9 := (Option.some.inj (Tryd.func9.symm.trans hfn)).symm
      exact ⟨by kernel_rfl, fun j t ht => by
        rw [Tryd.params9] at ht
        have hm : t ∈ [32, 72] := by have h_ := Array.mem_of_getElem? ht; simp at h_; first | (rcases h_ with h_ | h_ | h_ <;> simp [h_]; done) | (simp [h_]; done)
        have hall : ([32, 72].all fun u => !Tryd.prog.wantsStandIn u) = true := by kernel_rfl
        exact (show Tryd.prog.wantsStandIn t = false by simpa using List.all_eq_true.1 hall t hm)⟩)
    (by kernel_rfl)
#print axioms peerRoams_card_holds
end Go.Proofs.YtpimhoaeiafahaaDoor
