/- The program's peer in memory, and the contract of peer.New. -/
import Derived.Test.YtpimhoaeiafahaaDoorTP
import Derived.Test.YtpimhoaeiafahaaDoorF0
import Derived.IntWalk
namespace Go.Proofs.YtpimhoaeiafahaaDoor.P0
open Go.RowKit Go.Proofs.YtpimhoaeiafahaaDoorW.PrintWords Go.Proofs.YtpimhoaeiafahaaDoorW.PrintLast Go.Proofs.YtpimhoaeiafahaaDoorW.PrintMore Go.Proofs.YtpimhoaeiafahaaDoor.M0 Go.Proofs.YtpimhoaeiafahaaDoor.F0
set_option linter.unusedVariables false
set_option linter.unusedSimpArgs false

theorem LaidG.kept {w W : World} {S : Nat → Prop} {b : Nat} (h : LaidG w) (hk : Kept w W S) (hS : ∀ k, S k → b ≤ k) (hb : ∀ i : Nat, i < 64 → ∃ o, w.heap[0]? = some o) (hg : 0 < b) : LaidG W := by
  intro i hi
  obtain ⟨o, ho⟩ := hb i hi
  have e := hk.2 0 (blk_lt ho) (fun hs => by have := hS _ hs; omega)
  have := h i hi
  simp only [World.cell?, e] at this ⊢
  exact this

/-- The program's peer: its block, its window's block, and the row of its key, all the call's own. -/
structure PeerAt (W : World) (base top g gi : Nat) (K : Option Addr) (kc : Nat) (key : List Int) (dir viewer out last addr : Int) : Prop where
  box : W.heap[g]? = some (.cells #[.slice K key.length kc, .int .i64 dir, .int .i64 viewer, .int .u64 out, .pointer (some ⟨gi, 0, none⟩), .int .i64 addr] 81 (0, 0))
  win : W.heap[gi]? = some (.cells #[.int .u64 last] 76 (0, 0))
  ne : g ≠ gi
  ge : base ≤ g
  gei : base ≤ gi
  lt : g < top
  lti : gi < top
  row : Kd.V (Kd.int .u8) 5 W base (fun k => base ≤ k ∧ k < top ∧ k ≠ g ∧ k ≠ gi) (.slice K key.length kc) key
section
variable {W W' : World} {base top g gi : Nat} {K : Option Addr} {kc : Nat} {key : List Int} {dir viewer out last addr : Int}
theorem PeerAt.move (h : PeerAt W base top g gi K kc key dir viewer out last addr) (hm : ∀ k, base ≤ k → k < top → k < W.heap.size → W'.heap[k]? = W.heap[k]?) : PeerAt W' base top g gi K kc key dir viewer out last addr :=
  ⟨(hm g h.ge h.lt (blk_lt h.box)).trans h.box, (hm gi h.gei h.lti (blk_lt h.win)).trans h.win, h.ne, h.ge, h.gei, h.lt, h.lti, Kd.V_step h.row (fun k hk hlt => hm k hk.1 hk.2.1 hlt)⟩
theorem PeerAt.below (h : PeerAt W base top g gi K kc key dir viewer out last addr) (hb : Below W.heap.size W W') : PeerAt W' base top g gi K kc key dir viewer out last addr := h.move (fun k _ _ hk => hb.block k hk)
theorem PeerAt.C (h : PeerAt W base top g gi K kc key dir viewer out last addr) : Kd.C (Kd.int .u8) W K key.length key := (Kd.V_reads' h.row).2.2
theorem PeerAt.le (h : PeerAt W base top g gi K kc key dir viewer out last addr) : key.length ≤ kc := (Kd.V_reads' h.row).2.1
theorem PeerAt.c0 (h : PeerAt W base top g gi K kc key dir viewer out last addr) : W.cell? ⟨g, 0, none⟩ = some (.slice K key.length kc) := (blk_cell h.box 0).trans rfl
theorem PeerAt.c1 (h : PeerAt W base top g gi K kc key dir viewer out last addr) : W.cell? ⟨g, 1, none⟩ = some (.int .i64 dir) := (blk_cell h.box 1).trans rfl
theorem PeerAt.c2 (h : PeerAt W base top g gi K kc key dir viewer out last addr) : W.cell? ⟨g, 2, none⟩ = some (.int .i64 viewer) := (blk_cell h.box 2).trans rfl
theorem PeerAt.c3 (h : PeerAt W base top g gi K kc key dir viewer out last addr) : W.cell? ⟨g, 3, none⟩ = some (.int .u64 out) := (blk_cell h.box 3).trans rfl
theorem PeerAt.c4 (h : PeerAt W base top g gi K kc key dir viewer out last addr) : W.cell? ⟨g, 4, none⟩ = some (.pointer (some ⟨gi, 0, none⟩)) := (blk_cell h.box 4).trans rfl
theorem PeerAt.c5 (h : PeerAt W base top g gi K kc key dir viewer out last addr) : W.cell? ⟨g, 5, none⟩ = some (.int .i64 addr) := (blk_cell h.box 5).trans rfl
theorem PeerAt.setOut (h : PeerAt W base top g gi K kc key dir viewer out last addr) (x : Int) : PeerAt (W.setCell ⟨g, 3, none⟩ (.int .u64 x)) base top g gi K kc key dir viewer x last addr :=
  ⟨by simpa using blk_set h.box 3 (.int .u64 x), (Below.heap_setCell W ⟨g, 3, none⟩ _ gi (fun e => h.ne e.symm)).trans h.win, h.ne, h.ge, h.gei, h.lt, h.lti, Kd.V_step h.row (fun k hk _ => Below.heap_setCell W ⟨g, 3, none⟩ _ k hk.2.2.1)⟩
theorem PeerAt.setAddr (h : PeerAt W base top g gi K kc key dir viewer out last addr) (x : Int) : PeerAt (W.setCell ⟨g, 5, none⟩ (.int .i64 x)) base top g gi K kc key dir viewer out last x :=
  ⟨by simpa using blk_set h.box 5 (.int .i64 x), (Below.heap_setCell W ⟨g, 5, none⟩ _ gi (fun e => h.ne e.symm)).trans h.win, h.ne, h.ge, h.gei, h.lt, h.lti, Kd.V_step h.row (fun k hk _ => Below.heap_setCell W ⟨g, 5, none⟩ _ k hk.2.2.1)⟩
theorem PeerAt.window (h : PeerAt W base top g gi K kc key dir viewer out last addr) {x : Int} {w0 : World} (hI : T.IsS76 w0 W' gi x) (hk : KeepBut W W' gi none) : PeerAt W' base top g gi K kc key dir viewer out x addr :=
  ⟨(hk.2 g (blk_lt h.box) h.ne (by simp)).trans h.box, hI.1, h.ne, h.ge, h.gei, h.lt, h.lti, Kd.V_step h.row (fun k hk' hlt => hk.2 k hlt hk'.2.2.2 (by simp))⟩
end

set_option maxHeartbeats 2000000 in
set_option maxRecDepth 100000 in
theorem new_yes (A0 : Option Addr) (c0 : Nat) (l0 : List Int) (dir viewer out : Int) (w : World) (hr0 : Kd.C (Kd.int .u8) w A0 l0.length l0) (hc0 : l0.length ≤ c0) (hm : B.pkt_May.f dir viewer 1 [] = some true) (ho : ¬ out > 4611686018427387904) (hl : l0.length < 140737488355328) :
    Calls Tryd.prog 29 #[.slice A0 l0.length c0, .int .i64 dir, .int .i64 viewer, .int .u64 out] w fun e w' => ∃ (g gi : Nat) (K : Option Addr) (kc : Nat), e = .returned (.tuple #[.pointer (some ⟨g, 0, none⟩), .int .i64 0]) ∧ PeerAt w' w.heap.size w'.heap.size g gi K kc l0 dir viewer out 0 (-1) ∧ Below w.heap.size w w' := by
  have HR0 := Aside0.mk hr0
  have HC0 := Aside0.mk hc0
  have HM := Aside0.mk hm
  have HL := Aside0.mk (show bytes_Clone.f l0 = some l0 by unfold bytes_Clone.f; rw [if_pos hl])
  have o1 : decide (out > 4611686018427387904) = false := decide_eq_false ho
  clear hr0 hc0 hm hl ho
  go_enter Tryd.func29, Tryd.ntmps29
  go_wp2_with (first | (go_at_call 22; refine (B.pkt_May.calls dir viewer 1 none 0 [] true _ (Kd.C_nil _ _) (Nat.le_refl _) HM.out).mono ?_; rintro e W1 ⟨rfl, hd⟩; have HB := Aside0.mk hd; clear hd HM) | (go_at_call 41; refine (bytes_Clone.calls A0 c0 l0 l0 _ (Kd.C_below HR0.out HB.out) HC0.out HL.out).mono ?_; rintro e W2 ⟨v, rfl, hv, hb⟩; obtain ⟨K, kc, rfl⟩ := Kd.R_slice hv; have HV := Aside0.mk (Kd.R_lower hv (below_size HB.out)); have HB2 := Aside0.mk (below_step HB.out hb); have HLT := Aside0.mk (Kd.R_lt hv); clear hv hb HB HR0 HC0 HL) | (go_at_call 11; refine (T.pkt_NewWindow.calls 0 0 W2 W2 (Below.refl _ _) rfl).mono ?_; rintro e W3 ⟨gi, rfl, hI, hb0, hb⟩; have HI := Aside0.mk hI; have HV3 := Aside0.mk (Kd.R_below HV.out hb); have HB3 := Aside0.mk (below_step HB2.out hb); have HS := Aside0.mk hb.size; have HS2 := Aside0.mk (below_size HB2.out); clear hI hb0 hb HV HB2))
  go_ret2
  have hw := heap_alloc_new W3 (.cells #[.slice K l0.length kc, .int .i64 dir, .int .i64 viewer, .int .u64 out, .pointer (some ⟨gi, 0, none⟩), .int .i64 (-1)] 81)
  have hlt := HI.out.lt
  have hge := HI.out.2
  have hs1 := below_size HB3.out
  have hs := HS.out
  refine ⟨_, gi, K, kc, rfl, ⟨hw, blk_below HI.out.1 (below_alloc (Below.refl _ _) _), by omega, hs1, ?_, blk_lt hw, by have := blk_lt hw; omega, ?_⟩, below_alloc HB3.out _⟩
  · have hs2 := HS2.out
    omega
  · exact Kd.V_mono (Kd.R_V (Kd.R_tight rfl (Kd.R_alloc HV3.out _))) (fun k hk => ⟨Kd.R_base HV3.out k hk.symm, by have h1 := Kd.R_lt HV3.out k hk.symm; have h2 := blk_lt hw; omega, by have := Kd.R_lt HV3.out k hk.symm; omega, by have := HLT.out k hk.symm; omega⟩)
set_option maxHeartbeats 2000000 in
set_option maxRecDepth 100000 in
theorem new_no (A0 : Option Addr) (c0 : Nat) (l0 : List Int) (dir viewer out : Int) (w : World) (t : Bool) (hm : B.pkt_May.f dir viewer 1 [] = some t) (ho : t = false ∨ out > 4611686018427387904) :
    Calls Tryd.prog 29 #[.slice A0 l0.length c0, .int .i64 dir, .int .i64 viewer, .int .u64 out] w fun e w' => e = .returned (.tuple #[.pointer none, .int .i64 1]) ∧ Below w.heap.size w w' := by
  have HM := Aside0.mk hm
  clear hm
  by_cases ht : t = false
  · subst ht
    clear ho
    go_enter Tryd.func29, Tryd.ntmps29
    go_wp2_with (first | (go_at_call 22; refine (B.pkt_May.calls dir viewer 1 none 0 [] false _ (Kd.C_nil _ _) (Nat.le_refl _) HM.out).mono ?_; rintro e W1 ⟨rfl, hd⟩; have HB := Aside0.mk hd; clear hd HM))
    go_ret2
    exact ⟨rfl, HB.out⟩
  · have o1 : decide (out > 4611686018427387904) = true := decide_eq_true (ho.resolve_left ht)
    obtain rfl : t = true := by simpa using ht
    clear ho ht
    go_enter Tryd.func29, Tryd.ntmps29
    go_wp2_with (first | (go_at_call 22; refine (B.pkt_May.calls dir viewer 1 none 0 [] true _ (Kd.C_nil _ _) (Nat.le_refl _) HM.out).mono ?_; rintro e W1 ⟨rfl, hd⟩; have HB := Aside0.mk hd; clear hd HM))
    go_ret2
    exact ⟨rfl, HB.out⟩
end Go.Proofs.YtpimhoaeiafahaaDoor.P0
