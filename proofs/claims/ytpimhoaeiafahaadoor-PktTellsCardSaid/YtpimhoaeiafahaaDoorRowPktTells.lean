/- The row and the tied card of PktTells. (UNBUILT DRAFT) -/
import Derived.Test.YtpimhoaeiafahaaDoorRows
import Derived.Test.YtpimhoaeiafahaaDoorTie
import Derived.Test.YtpimhoaeiafahaaDoorCards
import Derived.Test.YtpimhoaeiafahaaDoorE9
import Derived.Lib.SmallJoins
import Derived.Test.YtpimhoaeiafahaaDoorWSized
import Derived.WalkKit
import Derived.ProofKit
import Derived.OpenShut
import Derived.ShutString
import Derived.ChangeOld
import Derived.Below
import Derived.SizedLaws
import Derived.LaidMore
import Derived.Stop.Joined
import Derived.SevenTiedAt
namespace Go.Proofs.YtpimhoaeiafahaaDoor.pktTells
open Go.ChangeShapes Go.WideShapes Go.ChangeAt Go.RowKit
open Go.Proofs.YtpimhoaeiafahaaDoorW Go.Proofs.YtpimhoaeiafahaaDoorW.PrintWords
open Go.Proofs.YtpimhoaeiafahaaDoor.M0
set_option linter.unusedVariables false
theorem own : ownKnob Tryd.prog.godebug = none := by kernel_rfl
theorem laidOut : laidOutB Tryd.prog = true := by kernel_rfl
theorem gR : Tryd.prog.globalNamed "tickertape/mac.rounds" = some 0 := by kernel_rfl
theorem tR : (Tryd.prog.globals[0]?).map (·.type) = some 94 := by kernel_rfl
def laid : List (String × DataW Unit) := [("tickertape/mac.rounds", Rows.laid_tickertape_mac_rounds)]
theorem door_met (os : Os) (args : Array Value) : laidMetH Tryd.prog laid ((World.doorLaid Tryd.prog 400 os).forCall (fun _ _ => 0) ⟨#[], args, []⟩).memory :=
  laidMetH_of_parts3 (fuel := 8) (laidMet_of_run' 8 (by kernel_rfl) (by kernel_rfl)) (by kernel_rfl) (by kernel_rfl)
set_option maxRecDepth 100000 in
theorem laid_K : (Rows.laid_tickertape_mac_rounds : DataW Unit) = .agg (K64.map fun n => .lit (.int .u32 n)) := rfl
theorem of_laid {W : World} (h : laidMetH Tryd.prog laid W) : LaidG W := by
  rw [MakeChecks.laidMetH_plain _ _ _ (by kernel_rfl)] at h
  obtain ⟨ps, ⟨g0, t0, cs0, f0, p0, q0, hg0, ht0, hv0, hd0, _⟩, _, _⟩ := h
  obtain rfl := Option.some.inj (gR.symm.trans hg0)
  obtain rfl := Option.some.inj (tR.symm.trans ht0)
  obtain ⟨xs, m1, hm, hx1, hlen, hn, hel⟩ := DataW.trod_array Tryd.underlying94 hd0
  have c1 : Tryd.prog.cellsOf 83 = 1 := by kernel_rfl
  rw [laid_K] at hx1
  simp only [Prod.mk.injEq, DataW.agg.injEq] at hx1
  intro i hi
  have h0 := hel i hi
  obtain ⟨x, hx⟩ : ∃ x, xs[i]? = some x := ⟨_, List.getElem?_eq_getElem (by omega)⟩
  rw [hx, c1, Nat.mul_one] at h0
  obtain ⟨k, e1, e2, _⟩ := DataW.trod_int Tryd.underlying83 h0
  have hk : K64.getD i 0 = k := by
    have h2 : (K64.map fun n => (DataW.lit (.int .u32 n) : DataW Unit))[i]? = (xs.map (·.1))[i]? := by rw [hx1.1]
    rw [List.getElem?_map, List.getElem?_map, hx, e2] at h2
    rw [List.getD_eq_getElem?_getD]
    cases h3 : K64[i]? with
    | none => rw [h3] at h2; simp at h2
    | some n => rw [h3] at h2; simpa using h2
  have h4 := World.var?_cell hg0 hv0 i
  have h5 : cs0[i]? = some (.int .u32 k) := by
    have h6 : ((cs0.toList.drop i).take 1)[0]? = some (.int .u32 k) := by rw [e1]; rfl
    simpa using h6
  rw [h5] at h4
  rw [h4]
  show _ = some (Value.int .u32 (K64.getD ((i : Int).toNat) 0))
  rw [Int.toNat_natCast, hk]
def IsRow (k : IntKind) (w : World) (a : Option Addr) (len cap : Nat) (zs : List Int) : Prop :=
  (a = none ∧ len = 0 ∧ cap = 0 ∧ zs = []) ∨
  ∃ x, a = some x ∧ len ≤ cap ∧ cap ≤ maxLen ∧ zs.length = cap ∧ (∀ i, i < zs.length → w.cell? (x.add i) = some (.int k (zs.getD i 0))) ∧ ∀ n ∈ zs, (Lit.int k n).wf = true
def IsRow8 (W : World) (A : Option Addr) (len cap : Nat) : Prop := ∃ l : List Int, len = l.length ∧ Kd.C (Kd.int .u8) W A l.length l ∧ l.length ≤ cap ∧ E1.By l
theorem row_C {w : World} {a : Option Addr} {len cap : Nat} {zs : List Int} (h : IsRow .u8 w a len cap zs) : ∃ l : List Int, len = l.length ∧ Kd.C (Kd.int .u8) w a l.length l ∧ l.length ≤ cap ∧ E1.By l := by
  obtain ⟨l1, e, hr1, hm1, hw1, hc1⟩ := ReadsInt.ofRowC h
  subst e
  exact ⟨l1, rfl, Kd.C_of_reads (d := (0 : Int)) (h1 := fun _ => rfl) hr1, hc1, fun x hx => by have h_ : IntKind.u8.min ≤ x ∧ x ≤ IntKind.u8.max := (by simpa [Lit.wf] using hw1 x hx); rw [show IntKind.u8.min = 0 from rfl, show IntKind.u8.max = 255 from rfl] at h_; omega⟩
theorem cells_pkt : Tryd.prog.cellsOf 34 = 4 := by kernel_rfl
theorem row_of {H : Type} {enc : TypeId × Value → H} {W : World} {fuel : Nat} {A : Option Addr} {len cap : Nat} {x : DataW H × List MemPlace} (hf : DataW.trod enc Tryd.prog W 0 (fun _ => true) true fuel 32 [.slice A len cap] = some x) : IsRow8 W A len cap := by
  rcases open_ints Tryd.underlying32 Tryd.underlying5 (by kernel_rfl) hf with ⟨hcs, _⟩ | ⟨x, l, c, zs, hcs, _, hl, hm, hz, _, hcell, hwz⟩
  · simp at hcs
    obtain ⟨rfl, rfl, rfl⟩ := hcs
    exact row_C (.inl ⟨rfl, rfl, rfl, rfl⟩ : IsRow .u8 W none 0 0 [])
  · simp at hcs
    obtain ⟨rfl, rfl, rfl⟩ := hcs
    exact row_C (zs := zs) (.inr ⟨_, rfl, hl, hm, by simpa using hz, hcell, hwz⟩)
theorem open_row {H : Type} {enc : TypeId × Value → H} {W : World} {b0 : Nat} {v : Value} {d : DataW H} {p : List MemPlace} (hv : Value.okWide Tryd.prog W .any b0 32 v) (h : DataW.Trod enc Tryd.prog W 0 (fun _ => true) true 32 v d p) :
    ∃ A c, ∃ l : List Int, v = .slice A l.length c ∧ Kd.C (Kd.int .u8) W A l.length l ∧ l.length ≤ c ∧ E1.By l := by
  obtain ⟨A, len, c, rfl⟩ := okWide_slice Tryd.underlying32 hv
  obtain ⟨fuel, hf⟩ := h
  obtain ⟨l, rfl, hr, hc, hb⟩ := row_of hf
  exact ⟨A, c, l, rfl, hr, hc, hb⟩
theorem open_pkt {H : Type} {enc : TypeId × Value → H} {W : World} {b0 : Nat} {v : Value} {d : DataW H} {p : List MemPlace} (hv : Value.okWide Tryd.prog W .any b0 34 v) (h : DataW.Trod enc Tryd.prog W 0 (fun _ => true) true 34 v d p) :
    ∃ x0 x1 x2 A c, ∃ l : List Int, v = .agg #[.int .i64 x0, .int .i64 x1, .int .u64 x2, .slice A l.length c] ∧ Kd.C (Kd.int .u8) W A l.length l ∧ l.length ≤ c ∧ E1.By l := by
  obtain ⟨c0, c1, c2, c3, y0, y1, y2, y3, m, rfl, rfl, rfl, hy0, hy1, hy2, hy3⟩ := Go.Joins.open_agg4 Tryd.underlying34 (by kernel_rfl) cells_pkt hv h
  obtain ⟨x0, e0, _, _⟩ := DataW.trod_int Tryd.underlying3 hy0
  obtain ⟨x1, e1, _, _⟩ := DataW.trod_int Tryd.underlying3 hy1
  obtain ⟨x2, e2, _, _⟩ := DataW.trod_int Tryd.underlying22 hy2
  obtain ⟨A, len, c, e3⟩ := Go.Joins.slice_form Tryd.underlying32 hy3
  simp at e0 e1 e2 e3
  subst e0 e1 e2 e3
  obtain ⟨l, rfl, hr, hc, hb⟩ := row_of hy3
  exact ⟨x0, x1, x2, A, c, l, rfl, hr, hc, hb⟩
set_option maxRecDepth 100000 in
theorem lifted (os : Os) (started : os.Started) (H : Type) (enc : TypeId × Value → H) :
    ReturnsInHanded {} Tryd.checked os 4 .any (fun w args => (Rows.pktTellsSpec.pre enc Tryd.prog Tryd.f4 [] false w args ∧ laidMetH Tryd.prog laid w) ∧ sizedMet enc Tryd.prog Tryd.f4 (OpenSpec.ofChange Rows.pktTellsSpec) false w args)
      (Rows.pktTellsSpec.post enc Tryd.prog Tryd.f4 false true false false) := by
  refine returnsInHanded_of_change_and (C := Tryd.checked) (X := fun w _ => laidMetH Tryd.prog laid w) (fun _ _ _ hh h => h.of_heap hh) own started (by kernel_rfl) Tryd.func4
    (ChangeSpec.witness_shaped (enc := enc) (C := Tryd.checked) (os := os) (X := fun w _ => laidMetH Tryd.prog laid w) false (World.doorLaid Tryd.prog 400 os) #[.slice none 0 0, .agg #[.int .i64 0, .int .i64 0, .int .u64 0, .slice none 0 0], .agg #[.int .i64 0, .int .i64 0, .int .u64 0, .slice none 0 0], .slice none 0 0] 8 rfl (World.shaped_of_RefB (by kernel_rfl) (by kernel_rfl)) (by kernel_rfl) (by kernel_rfl) (by kernel_rfl) (door_met os _)) ?_
  intro W base args ds gs before hval0 hW _ hsz0 hL _
  have hval : ∀ (j : Nat) t v, Tryd.f4.params[j]? = some t → args[j]? = some v → Value.okWide Tryd.prog W .any base t v := hval0
  have hW' := hW
  obtain ⟨p, q, hA0, hV, rfl, hfz, hnd⟩ := hW
  have hA : DataW.TrodAll enc Tryd.prog W 0 (fun _ => true) true Tryd.f4.params.toList args.toList ds p := hA0
  rw [Tryd.params4] at hA hval
  obtain ⟨v0, vs0, d0, ds0, p0, q0, hargs, rfl, rfl, h0, r0⟩ := trodAll_cons hA
  obtain ⟨v1, vs1, d1, ds1, p1, q1, rfl, rfl, rfl, h1, r1⟩ := trodAll_cons r0
  obtain ⟨v2, vs2, d2, ds2, p2, q2, rfl, rfl, rfl, h2, r2⟩ := trodAll_cons r1
  obtain ⟨v3, vs3, d3, ds3, p3, q3, rfl, rfl, rfl, h3, r3⟩ := trodAll_cons r2
  obtain ⟨rfl, rfl, rfl⟩ := trodAll_nil r3
  obtain rfl : args = #[v0, v1, v2, v3] := by cases args; simp_all
  obtain ⟨rfl, rfl⟩ := trodVars_none hV
  have k0 := h0
  have k1 := h1
  have k2 := h2
  have k3 := h3
  have lt0 : ∀ x ∈ p0, x.block < W.heap.size := by obtain ⟨m, hm⟩ := k0; exact DataW.trod_lt m _ _ _ hm
  have lt1 : ∀ x ∈ p1, x.block < W.heap.size := by obtain ⟨m, hm⟩ := k1; exact DataW.trod_lt m _ _ _ hm
  have lt2 : ∀ x ∈ p2, x.block < W.heap.size := by obtain ⟨m, hm⟩ := k2; exact DataW.trod_lt m _ _ _ hm
  have lt3 : ∀ x ∈ p3, x.block < W.heap.size := by obtain ⟨m, hm⟩ := k3; exact DataW.trod_lt m _ _ _ hm
  have ow0 := hval 0 32 v0 rfl rfl
  have ow1 := hval 1 34 v1 rfl rfl
  have ow2 := hval 2 34 v2 rfl rfl
  have ow3 := hval 3 32 v3 rfl rfl
  obtain ⟨A0, c0, l0, rfl, hr0, hc0, hb0⟩ := open_row ow0 h0
  obtain ⟨A3, c3, l3, rfl, hr3, hc3, hb3⟩ := open_row ow3 h3
  obtain ⟨x0, x1, x2, A1, c1, l1, rfl, hr1, hc1, hb1⟩ := open_pkt ow1 h1
  obtain ⟨y0, y1, y2, A2, c2, l2, rfl, hr2, hc2, hb2⟩ := open_pkt ow2 h2
  have hG := of_laid hL
  clear hA0 hval0 hsz0
  obtain ⟨k, hp⟩ := E9.pure l0 x0 x1 x2 l1 y0 y1 y2 l2 l3 hb0 hb1 hb3
  refine (T.tiklaw25_PktTells.calls k A0 c0 l0 x0 x1 x2 A1 c1 l1 y0 y1 y2 A2 c2 l2 A3 c3 l3 true W hr0 hc0 hr1 hc1 hr2 hc2 hr3 hc3 hG rfl hp).mono fun e W' ⟨he, bel⟩ => ?_
  subst he
  exact ⟨_, rfl, _, _, _, [], _, [], hW', trodAll_mk1 (shut_bool Tryd.underlying4 _), (trodAll_cons_mk (Below.trod laidOut (by kernel_rfl) (of_decide_eq_true (by kernel_rfl)) k0 bel lt0) (trodAll_cons_mk (Below.trod laidOut (by kernel_rfl) (of_decide_eq_true (by kernel_rfl)) k1 bel lt1) (trodAll_cons_mk (Below.trod laidOut (by kernel_rfl) (of_decide_eq_true (by kernel_rfl)) k2 bel lt2) (trodAll_cons_mk (Below.trod laidOut (by kernel_rfl) (of_decide_eq_true (by kernel_rfl)) k3 bel lt3) trodAll_mk0)))), rfl, bel.frame _, fun h => by cases h⟩
theorem over : Rows.pktTellsRow.holds Tryd.pinned (OpenSpec.ofChange Rows.pktTellsSpec) :=
  OpenClaim.holds_of_wide 4 Tryd.f4 rfl rfl rfl rfl rfl rfl rfl ⟨rfl, rfl, rfl, rfl, rfl⟩ rfl rfl rfl rfl rfl (by kernel_rfl) Tryd.func4 (by kernel_rfl)
    (of_decide_eq_true (by kernel_rfl)) (by unfold Func.isWrapper; first | (rw [if_pos (by decide +kernel)]; kernel_rfl) | (rw [if_neg (by decide +kernel)]; exact ⟨rfl, rfl⟩))
    (fun os started H enc _ => lifted os started H enc)
end Go.Proofs.YtpimhoaeiafahaaDoor.pktTells
namespace Go.Proofs.YtpimhoaeiafahaaDoor
open Go
theorem pktTells_row_holds : Rows.PktTellsSaid := pktTells.over
theorem pktTells_card_holds : Rows.PktTellsCardSaid :=
  Claim7.holds_tied_plain_at .later [] [.data] true (true, "d3c6e9a060d2c09ccf3f736e4e7418f55afb2562e8cc5583d81c9fac66c251d6") false
    pktTells_row_holds (fun _ h => by cases h) (by kernel_rfl) (fun _ h => by cases h) pktTells_row_tie rfl ⟨rfl, rfl⟩ (by kernel_rfl) rfl
    (fun f fn hf hfn => by
      obtain rfl : f = 4 := Option.some.inj ((show Tryd.prog.funcNamed "tickertape/tiklaw25.PktTells" = some 4 by kernel_rfl).symm.trans hf) |>.symm
      obtain rfl : fn = Tryd.f4 := (Option.some.inj (Tryd.func4.symm.trans hfn)).symm
      exact ⟨by kernel_rfl, fun j t ht => by
        rw [Tryd.params4] at ht
        have hm : t ∈ [32, 34] := by have h_ := Array.mem_of_getElem? ht; simp at h_; rcases h_ with h_ | h_ | h_ <;> simp [h_]
        have hall : ([32, 34].all fun u => !Tryd.prog.wantsStandIn u) = true := by kernel_rfl
        exact (show Tryd.prog.wantsStandIn t = false by simpa using List.all_eq_true.1 hall t hm)⟩)
    (by kernel_rfl)
#print axioms pktTells_card_holds
end Go.Proofs.YtpimhoaeiafahaaDoor
