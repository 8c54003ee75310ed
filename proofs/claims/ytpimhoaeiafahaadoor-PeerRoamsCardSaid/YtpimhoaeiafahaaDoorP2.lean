/- The contract of the program's peer: Take. -/
import Derived.Test.YtpimhoaeiafahaaDoorP1
import Derived.Deep.RegionHeld3
import Derived.Outline
import Derived.Deep.QuietTactic
import Derived.BigQuiet
namespace Go.Proofs.YtpimhoaeiafahaaDoor.P2
open Go.RowKit Go.Proofs.YtpimhoaeiafahaaDoorW.PrintWords Go.Proofs.YtpimhoaeiafahaaDoorW.PrintLast Go.Proofs.YtpimhoaeiafahaaDoorW.PrintMore Go.Proofs.YtpimhoaeiafahaaDoor.M0 Go.Proofs.YtpimhoaeiafahaaDoor.M8 Go.Proofs.YtpimhoaeiafahaaDoor.F0 Go.Proofs.YtpimhoaeiafahaaDoor.P0 Go.Proofs.YtpimhoaeiafahaaDoor.P1
set_option linter.unusedVariables false
set_option linter.unusedSimpArgs false

section
variable {w : World} {base top g gi : Nat} {K : Option Addr} {kc : Nat} {key : List Int} {dir viewer out last addr : Int}
theorem _root_.Go.Proofs.YtpimhoaeiafahaaDoor.P0.PeerAt.setLast (h : PeerAt w base top g gi K kc key dir viewer out last addr) (x : Int) : PeerAt (w.setCell ⟨gi, 0, none⟩ (.int .u64 x)) base top g gi K kc key dir viewer out x addr :=
  ⟨(Below.heap_setCell w ⟨gi, 0, none⟩ _ g h.ne).trans h.box, by simpa using blk_set h.win 0 (.int .u64 x), h.ne, h.ge, h.gei, h.lt, h.lti, Kd.V_step h.row (fun k hk _ => Below.heap_setCell w ⟨gi, 0, none⟩ _ k hk.2.2.2)⟩
theorem fresh (n : Int) (h : w.heap[gi]? = some (.cells #[.int .u64 last] 76 (0, 0))) :
    Calls Tryd.prog 12 #[.pointer (some ⟨gi, 0, none⟩), .int .u64 n] w fun e w' => e = .returned (.bool (decide (n > last))) ∧ w' = w := by
  have p0 : w.cell? ⟨gi, 0, none⟩ = some (.int .u64 last) := (blk_cell h 0).trans rfl
  go_enter Tryd.func12, Tryd.ntmps12
  go_wp2
  go_ret
  exact ⟨rfl, rfl⟩
theorem win_no {n : Int} (h : w.heap[gi]? = some (.cells #[.int .u64 last] 76 (0, 0))) (hn : ¬ n > last) :
    Calls Tryd.prog 13 #[.pointer (some ⟨gi, 0, none⟩), .int .u64 n] w fun e w' => e = .returned (.int .i64 14) ∧ w' = w := by
  have H := Aside0.mk h
  have hd := decide_eq_false hn
  clear h hn
  go_enter Tryd.func13, Tryd.ntmps13
  go_wp2_with (go_at_call 12; refine (fresh n H.out).mono ?_; rw [hd]; rintro e w' ⟨rfl, rfl⟩)
  go_ret
  exact ⟨rfl, rfl⟩
theorem win_yes {n : Int} (h : w.heap[gi]? = some (.cells #[.int .u64 last] 76 (0, 0))) (hn : n > last) :
    Calls Tryd.prog 13 #[.pointer (some ⟨gi, 0, none⟩), .int .u64 n] w fun e w' => e = .returned (.int .i64 0) ∧ w' = w.setCell ⟨gi, 0, none⟩ (.int .u64 n) := by
  have H := Aside0.mk h
  have hd := decide_eq_true hn
  have p0 : w.cell? ⟨gi, 0, none⟩ = some (.int .u64 last) := (blk_cell h 0).trans rfl
  have fz := blk_frozen h 0
  clear h hn
  go_enter Tryd.func13, Tryd.ntmps13
  go_wp2_with (go_at_call 12; refine (fresh n H.out).mono ?_; rw [hd]; rintro e w' ⟨rfl, rfl⟩)
  go_ret
  exact ⟨rfl, rfl⟩
set_option maxHeartbeats 2000000 in
set_option maxRecDepth 100000 in
theorem take_bad (k : Nat) (frm : Int) (A1 : Option Addr) (c1 : Nat) (b : List Int) (r1 r2 r3 : Int) (r4 : List Int) (er : Int) (h : PeerAt w base top g gi K kc key dir viewer out last addr) (hr1 : Kd.C (Kd.int .u8) w A1 b.length b) (hc1 : b.length ≤ c1) (hG : LaidG w) (hs : T.pkt_Open.f k key b = some (r1, r2, r3, r4, er)) (he : er ≠ 0) :
    Calls Tryd.prog 33 #[.pointer (some ⟨g, 0, none⟩), .int .i64 frm, .slice A1 b.length c1] w fun e w' => e = .returned (.tuple #[.slice none 0 0, .int .i64 er]) ∧ Below w.heap.size w w' := by
  have p0 := h.c0
  have p1 := h.c1
  have p2 := h.c2
  have HP := Aside0.mk h
  have HR := Aside0.mk hr1
  have HC := Aside0.mk hc1
  have HG := Aside0.mk hG
  have HS := Aside0.mk hs
  have e1 : (er == 0) = false := beq_eq_false_iff_ne.mpr he
  have e2 : (er != 0) = true := bne_iff_ne.mpr he
  clear h hr1 hc1 hG hs he
  go_enter Tryd.func33, Tryd.ntmps33
  go_wp2_with (go_at_call 18; refine (TP.open_plain k K kc key A1 c1 b r1 r2 r3 r4 er w HP.out.C HP.out.le HR.out HC.out HG.out HS.out).mono ?_; rintro e w1 ⟨v, rfl, hv, hb⟩; obtain ⟨Av, cv, rfl⟩ := Kd.R_slice hv; have HB := Aside0.mk hb; have HV := Aside0.mk hv; have HP1 := Aside0.mk (HP.out.below hb); clear hb hv p0 p1 p2)
  go_ret2
  exact ⟨rfl, by repeat (first | exact HB.out | apply below_alloc | refine below_set ?_ (below_size HB.out) | apply below_drew | apply pw_below_drewN)⟩
set_option maxHeartbeats 2000000 in
set_option maxRecDepth 100000 in
theorem take_form1 (k : Nat) (frm : Int) (A1 : Option Addr) (c1 : Nat) (b : List Int) (r1 r2 r3 : Int) (r4 : List Int) (h : PeerAt w base top g gi K kc key dir viewer out last addr) (hr1 : Kd.C (Kd.int .u8) w A1 b.length b) (hc1 : b.length ≤ c1) (hG : LaidG w) (hs : T.pkt_Open.f k key b = some (r1, r2, r3, r4, 0)) (he : (r1 == dir) = true) :
    Calls Tryd.prog 33 #[.pointer (some ⟨g, 0, none⟩), .int .i64 frm, .slice A1 b.length c1] w fun e w' => e = .returned (.tuple #[.slice none 0 0, .int .i64 2]) ∧ Below w.heap.size w w' := by
  have p0 := h.c0
  have HP := Aside0.mk h
  have HR := Aside0.mk hr1
  have HC := Aside0.mk hc1
  have HG := Aside0.mk hG
  have HS := Aside0.mk hs
  clear h hr1 hc1 hG hs
  go_enter Tryd.func33, Tryd.ntmps33
  go_upto_region 2 with (go_at_call 18; refine (TP.open_plain k K kc key A1 c1 b r1 r2 r3 r4 0 w HP.out.C HP.out.le HR.out HC.out HG.out HS.out).mono ?_; rintro e w1 ⟨v, rfl, hv, hb⟩; obtain ⟨Av, cv, rfl⟩ := Kd.R_slice hv; have HB := Aside0.mk hb; have HV := Aside0.mk hv; clear hb hv p0)
  generalize hW : World.alloc w1 _ = W2
  have HX := Aside0.mk (show PBox W2 w1.heap.size r1 r2 r3 Av r4.length cv by rw [← hW]; exact heap_alloc_new w1 _)
  have HB2 := Aside0.mk (show Below w.heap.size w W2 by rw [← hW]; exact below_alloc HB.out _)
  have HV2 := Aside0.mk (show Kd.R (Kd.int .u8) 5 W2 w.heap.size (fun k => k ≠ w1.heap.size) (.slice Av r4.length cv) r4 by rw [← hW]; exact Kd.R_mono (Kd.R_alloc (Kd.R_tight rfl HV.out) _) (fun k hk => by have := Kd.R_lt HV.out k hk.symm; omega))
  have HGX := Aside0.mk (below_size HB.out)
  clear hW HV HB
  generalize w1.heap.size = gx at HX HV2 HGX ⊢
  have HP2 := Aside0.mk (HP.out.below HB2.out)
  have x0 := HX.out.c0
  have x1 := HX.out.c1
  have x2 := HX.out.c2
  have x3 := HX.out.c3
  have p1 := HP2.out.c1
  have p2 := HP2.out.c2
  have p4 := HP2.out.c4
  go_wp2
  go_quiet (fail)
  go_wp2
  go_ret2
  exact ⟨rfl, pw_below_drewN HB2.out _⟩
set_option maxHeartbeats 2000000 in
set_option maxRecDepth 100000 in
theorem take_form2 (k : Nat) (frm : Int) (A1 : Option Addr) (c1 : Nat) (b : List Int) (r1 r2 r3 : Int) (r4 : List Int) (h : PeerAt w base top g gi K kc key dir viewer out last addr) (hr1 : Kd.C (Kd.int .u8) w A1 b.length b) (hc1 : b.length ≤ c1) (hG : LaidG w) (hs : T.pkt_Open.f k key b = some (r1, r2, r3, r4, 0)) (he : (r1 == dir) = false) (hv : (r2 != viewer) = true) :
    Calls Tryd.prog 33 #[.pointer (some ⟨g, 0, none⟩), .int .i64 frm, .slice A1 b.length c1] w fun e w' => e = .returned (.tuple #[.slice none 0 0, .int .i64 2]) ∧ Below w.heap.size w w' := by
  have p0 := h.c0
  have HP := Aside0.mk h
  have HR := Aside0.mk hr1
  have HC := Aside0.mk hc1
  have HG := Aside0.mk hG
  have HS := Aside0.mk hs
  clear h hr1 hc1 hG hs
  go_enter Tryd.func33, Tryd.ntmps33
  go_upto_region 2 with (go_at_call 18; refine (TP.open_plain k K kc key A1 c1 b r1 r2 r3 r4 0 w HP.out.C HP.out.le HR.out HC.out HG.out HS.out).mono ?_; rintro e w1 ⟨v, rfl, hv, hb⟩; obtain ⟨Av, cv, rfl⟩ := Kd.R_slice hv; have HB := Aside0.mk hb; have HV := Aside0.mk hv; clear hb hv p0)
  generalize hW : World.alloc w1 _ = W2
  have HX := Aside0.mk (show PBox W2 w1.heap.size r1 r2 r3 Av r4.length cv by rw [← hW]; exact heap_alloc_new w1 _)
  have HB2 := Aside0.mk (show Below w.heap.size w W2 by rw [← hW]; exact below_alloc HB.out _)
  have HV2 := Aside0.mk (show Kd.R (Kd.int .u8) 5 W2 w.heap.size (fun k => k ≠ w1.heap.size) (.slice Av r4.length cv) r4 by rw [← hW]; exact Kd.R_mono (Kd.R_alloc (Kd.R_tight rfl HV.out) _) (fun k hk => by have := Kd.R_lt HV.out k hk.symm; omega))
  have HGX := Aside0.mk (below_size HB.out)
  clear hW HV HB
  generalize w1.heap.size = gx at HX HV2 HGX ⊢
  have HP2 := Aside0.mk (HP.out.below HB2.out)
  have x0 := HX.out.c0
  have x1 := HX.out.c1
  have x2 := HX.out.c2
  have x3 := HX.out.c3
  have p1 := HP2.out.c1
  have p2 := HP2.out.c2
  have p4 := HP2.out.c4
  go_wp2
  go_quiet (fail)
  go_wp2
  go_ret2
  exact ⟨rfl, pw_below_drewN HB2.out _⟩
set_option maxHeartbeats 2000000 in
set_option maxRecDepth 100000 in
theorem take_replay (k : Nat) (frm : Int) (A1 : Option Addr) (c1 : Nat) (b : List Int) (r1 r2 r3 : Int) (r4 : List Int) (h : PeerAt w base top g gi K kc key dir viewer out last addr) (hr1 : Kd.C (Kd.int .u8) w A1 b.length b) (hc1 : b.length ≤ c1) (hG : LaidG w) (hs : T.pkt_Open.f k key b = some (r1, r2, r3, r4, 0)) (he : (r1 == dir) = false) (hv : (r2 != viewer) = false) (hn : ¬ r3 > last) :
    Calls Tryd.prog 33 #[.pointer (some ⟨g, 0, none⟩), .int .i64 frm, .slice A1 b.length c1] w fun e w' => e = .returned (.tuple #[.slice none 0 0, .int .i64 14]) ∧ Below w.heap.size w w' := by
  have p0 := h.c0
  have HP := Aside0.mk h
  have HR := Aside0.mk hr1
  have HC := Aside0.mk hc1
  have HG := Aside0.mk hG
  have HS := Aside0.mk hs
  clear h hr1 hc1 hG hs
  go_enter Tryd.func33, Tryd.ntmps33
  go_upto_region 2 with (go_at_call 18; refine (TP.open_plain k K kc key A1 c1 b r1 r2 r3 r4 0 w HP.out.C HP.out.le HR.out HC.out HG.out HS.out).mono ?_; rintro e w1 ⟨v, rfl, hv, hb⟩; obtain ⟨Av, cv, rfl⟩ := Kd.R_slice hv; have HB := Aside0.mk hb; have HV := Aside0.mk hv; clear hb hv p0)
  generalize hW : World.alloc w1 _ = W2
  have HX := Aside0.mk (show PBox W2 w1.heap.size r1 r2 r3 Av r4.length cv by rw [← hW]; exact heap_alloc_new w1 _)
  have HB2 := Aside0.mk (show Below w.heap.size w W2 by rw [← hW]; exact below_alloc HB.out _)
  have HV2 := Aside0.mk (show Kd.R (Kd.int .u8) 5 W2 w.heap.size (fun k => k ≠ w1.heap.size) (.slice Av r4.length cv) r4 by rw [← hW]; exact Kd.R_mono (Kd.R_alloc (Kd.R_tight rfl HV.out) _) (fun k hk => by have := Kd.R_lt HV.out k hk.symm; omega))
  have HGX := Aside0.mk (below_size HB.out)
  clear hW HV HB
  generalize w1.heap.size = gx at HX HV2 HGX ⊢
  have HP2 := Aside0.mk (HP.out.below HB2.out)
  have x0 := HX.out.c0
  have x1 := HX.out.c1
  have x2 := HX.out.c2
  have x3 := HX.out.c3
  have p1 := HP2.out.c1
  have p2 := HP2.out.c2
  have p4 := HP2.out.c4
  have HN := Aside0.mk (show r3 ≤ last by omega)
  have lg := blk_lt HP.out.box
  have lgi := blk_lt HP.out.win
  have hgx := HGX.out
  have HNX := Aside0.mk (show gx ≠ gi by omega)
  have HLG := Aside0.mk (show g < w.heap.size ∧ gi < w.heap.size from ⟨lg, lgi⟩)
  clear hn lg lgi hgx
  go_wp2
  go_quiet (fail)
  generalize hW3 : World.drewN W2 _ = W3
  have HB3 := Aside0.mk (show Below w.heap.size w W3 by rw [← hW3]; exact pw_below_drewN HB2.out _)
  have HX3 := Aside0.mk (show PBox W3 gx r1 r2 r3 Av r4.length cv by rw [← hW3]; exact HX.out)
  have HV3 := Aside0.mk (show Kd.R (Kd.int .u8) 5 W3 w.heap.size (fun k => w.heap.size ≤ k) (.slice Av r4.length cv) r4 by rw [← hW3]; exact Kd.R_mono (Kd.R_tight rfl (Kd.R_drewN HV2.out _)) (fun k hk => Kd.R_base HV2.out k hk.symm))
  have HP3 := Aside0.mk (HP.out.below HB3.out)
  clear hW3 x0 x1 x2 x3 p1 p2 p4 HX HB2 HV2 HP2
  have x2 := HX3.out.c2
  have p4 := HP3.out.c4
  go_wp2
  go_region_held3 (fun w' => w'.cell? ⟨g, 4, none⟩ = some (.pointer (some ⟨gi, 0, none⟩)) ∧ w'.cell? ⟨gx, 2, none⟩ = some (.int .u64 r3)) (first | go_keep | exact ⟨by assumption, by assumption⟩) (first | (go_at_call 13; refine (win_no (by exact HP3.out.win) (Int.not_lt.mpr HN.out)).mono ?_; rintro e w' ⟨rfl, rfl⟩))
  go_wp2
  go_ret2
  exact ⟨rfl, by repeat (first | exact HB3.out | apply below_drew | apply pw_below_drewN)⟩
set_option maxHeartbeats 2000000 in
set_option maxRecDepth 100000 in
theorem take_ok (k : Nat) (frm : Int) (A1 : Option Addr) (c1 : Nat) (b : List Int) (r1 r2 r3 : Int) (r4 : List Int) (h : PeerAt w base top g gi K kc key dir viewer out last addr) (hr1 : Kd.C (Kd.int .u8) w A1 b.length b) (hc1 : b.length ≤ c1) (hG : LaidG w) (hs : T.pkt_Open.f k key b = some (r1, r2, r3, r4, 0)) (he : (r1 == dir) = false) (hv : (r2 != viewer) = false) (hn : r3 > last) (addr' : Int) (had : addr' = if frm ≥ 0 then frm else addr) :
    Calls Tryd.prog 33 #[.pointer (some ⟨g, 0, none⟩), .int .i64 frm, .slice A1 b.length c1] w fun e w' => ∃ v : Value, e = .returned (.tuple #[v, .int .i64 0]) ∧ Kd.R (Kd.int .u8) 5 w' w.heap.size (fun _ => True) v r4 ∧ PeerAt w' base top g gi K kc key dir viewer out r3 addr' ∧ Kept w w' (fun k => k = g ∨ k = gi) ∧ ∀ w0 : World, Below w0.heap.size w0 w → w0.heap.size ≤ base → Below w0.heap.size w0 w' := by
  have p0 := h.c0
  have HP := Aside0.mk h
  have HR := Aside0.mk hr1
  have HC := Aside0.mk hc1
  have HG := Aside0.mk hG
  have HS := Aside0.mk hs
  clear h hr1 hc1 hG hs
  go_enter Tryd.func33, Tryd.ntmps33
  go_upto_region 2 with (go_at_call 18; refine (TP.open_plain k K kc key A1 c1 b r1 r2 r3 r4 0 w HP.out.C HP.out.le HR.out HC.out HG.out HS.out).mono ?_; rintro e w1 ⟨v, rfl, hv, hb⟩; obtain ⟨Av, cv, rfl⟩ := Kd.R_slice hv; have HB := Aside0.mk hb; have HV := Aside0.mk hv; clear hb hv p0)
  generalize hW : World.alloc w1 _ = W2
  have HX := Aside0.mk (show PBox W2 w1.heap.size r1 r2 r3 Av r4.length cv by rw [← hW]; exact heap_alloc_new w1 _)
  have HB2 := Aside0.mk (show Below w.heap.size w W2 by rw [← hW]; exact below_alloc HB.out _)
  have HV2 := Aside0.mk (show Kd.R (Kd.int .u8) 5 W2 w.heap.size (fun k => k ≠ w1.heap.size) (.slice Av r4.length cv) r4 by rw [← hW]; exact Kd.R_mono (Kd.R_alloc (Kd.R_tight rfl HV.out) _) (fun k hk => by have := Kd.R_lt HV.out k hk.symm; omega))
  have HGX := Aside0.mk (below_size HB.out)
  clear hW HV HB
  generalize w1.heap.size = gx at HX HV2 HGX ⊢
  have HP2 := Aside0.mk (HP.out.below HB2.out)
  have x0 := HX.out.c0
  have x1 := HX.out.c1
  have x2 := HX.out.c2
  have x3 := HX.out.c3
  have p1 := HP2.out.c1
  have p2 := HP2.out.c2
  have p4 := HP2.out.c4
  have HN := Aside0.mk (show r3 > last by omega)
  have HAD := Aside0.mk had
  clear had
  have lg := blk_lt HP.out.box
  have lgi := blk_lt HP.out.win
  have hgx := HGX.out
  have HNX := Aside0.mk (show gx ≠ gi by omega)
  have HLG := Aside0.mk (show g < w.heap.size ∧ gi < w.heap.size from ⟨lg, lgi⟩)
  clear hn lg lgi hgx
  go_wp2
  go_quiet (fail)
  generalize hW3 : World.drewN W2 _ = W3
  have HB3 := Aside0.mk (show Below w.heap.size w W3 by rw [← hW3]; exact pw_below_drewN HB2.out _)
  have HX3 := Aside0.mk (show PBox W3 gx r1 r2 r3 Av r4.length cv by rw [← hW3]; exact HX.out)
  have HV3 := Aside0.mk (show Kd.R (Kd.int .u8) 5 W3 w.heap.size (fun k => w.heap.size ≤ k) (.slice Av r4.length cv) r4 by rw [← hW3]; exact Kd.R_mono (Kd.R_tight rfl (Kd.R_drewN HV2.out _)) (fun k hk => Kd.R_base HV2.out k hk.symm))
  have HP3 := Aside0.mk (HP.out.below HB3.out)
  clear hW3 x0 x1 x2 x3 p1 p2 p4 HX HB2 HV2 HP2
  have x2 := HX3.out.c2
  have p4 := HP3.out.c4
  go_wp2
  go_region_held3 (fun w' => w'.cell? ⟨g, 4, none⟩ = some (.pointer (some ⟨gi, 0, none⟩)) ∧ w'.cell? ⟨gx, 2, none⟩ = some (.int .u64 r3)) (first | go_keep | exact ⟨by assumption, by assumption⟩) (first | (go_at_call 13; refine (win_yes (by exact HP3.out.win) HN.out).mono ?_; rintro e w4 ⟨rfl, hw4⟩; have HB4 := Aside0.mk (show Kept w w4 (fun k => k = g ∨ k = gi) by rw [hw4]; exact (Kept.of_below (by repeat (first | exact HB3.out | apply below_drew | apply pw_below_drewN)) _).setCell (.inl (.inr rfl)) _); have HF4 := Aside0.mk (show ∀ w0 : World, Below w0.heap.size w0 w → w0.heap.size ≤ base → Below w0.heap.size w0 w4 by rw [hw4]; exact fun w0 h0 hl => below_set (by repeat (first | exact below_step h0 HB3.out | apply below_drew | apply pw_below_drewN)) (Nat.le_trans hl HP.out.gei)); have HP4 := Aside0.mk (show PeerAt w4 base top g gi K kc key dir viewer out r3 addr by rw [hw4]; exact PeerAt.setLast (last := last) (by exact HP3.out.move (fun _ _ _ _ => rfl)) r3); have HX4 := Aside0.mk (show PBox w4 gx r1 r2 r3 Av r4.length cv by rw [hw4]; exact (Below.heap_setCell _ ⟨gi, 0, none⟩ _ gx HNX.out).trans HX3.out); have HV4 := Aside0.mk (show Kd.R (Kd.int .u8) 5 w4 w.heap.size (fun k => w.heap.size ≤ k) (.slice Av r4.length cv) r4 by rw [hw4]; exact Kd.R_far (p := ⟨gi, 0, none⟩) (by repeat (first | exact HV3.out | apply Kd.R_drew | apply Kd.R_drewN)) (fun k hk => by have := HLG.out; show k ≠ gi; omega) _); clear hw4 x2 p4; have x2 := HX4.out.c2; have p4 := HP4.out.c4; have x3 := HX4.out.c3; have p5 := HP4.out.c5; have fz := blk_frozen HP4.out.box 5))
  by_cases hf : frm ≥ 0
  · have f1 : decide (frm ≥ 0) = true := decide_eq_true hf
    have f2 : decide (0 ≤ frm) = true := decide_eq_true hf
    have f3 : (0 ≤ frm) = True := eq_true hf
    have HA := Aside0.mk (show addr' = frm by rw [HAD.out, if_pos hf])
    have ne5 : (g == gx) = false := by have := HLG.out; have := HGX.out; simp; omega
    have HSA := Aside0.mk (HP4.out.setAddr frm)
    have HXA := Aside0.mk (show PBox (w4.setCell ⟨g, 5, none⟩ (.int .i64 frm)) gx r1 r2 r3 Av r4.length cv from (Below.heap_setCell w4 ⟨g, 5, none⟩ _ gx (by have := HLG.out; have := HGX.out; show gx ≠ g; omega)).trans HX4.out)
    have y3 := HXA.out.c3
    clear hf
    go_wp2
    go_ret2
    exact ⟨_, rfl, Kd.R_mono (Kd.R_far (p := ⟨g, 5, none⟩) HV4.out (fun k hk => by have := HLG.out; show k ≠ g; omega) _) (fun _ _ => trivial), by rw [HA.out]; exact HSA.out, HB4.out.setCell (.inl (.inl rfl)) _, fun w0 h0 hl => below_set (HF4.out w0 h0 hl) (Nat.le_trans hl HP.out.ge)⟩
  · have f1 : decide (frm ≥ 0) = false := decide_eq_false hf
    have f2 : decide (0 ≤ frm) = false := decide_eq_false hf
    have f3 : (0 ≤ frm) = False := eq_false hf
    have HA := Aside0.mk (show addr' = addr by rw [HAD.out, if_neg hf])
    clear hf
    go_wp2
    go_ret2
    exact ⟨_, rfl, Kd.R_mono HV4.out (fun _ _ => trivial), by rw [HA.out]; exact HP4.out, HB4.out, HF4.out⟩
end
end Go.Proofs.YtpimhoaeiafahaaDoor.P2
