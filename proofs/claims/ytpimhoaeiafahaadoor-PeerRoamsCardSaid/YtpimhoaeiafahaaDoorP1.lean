/- Contracts of the program's peer: Send, Address, Out, In. -/
import Derived.Test.YtpimhoaeiafahaaDoorP0
import Derived.Deep.RegionHeld3
import Derived.Outline
namespace Go.Proofs.YtpimhoaeiafahaaDoor.P1
open Go.RowKit Go.Proofs.YtpimhoaeiafahaaDoorW.PrintWords Go.Proofs.YtpimhoaeiafahaaDoorW.PrintLast Go.Proofs.YtpimhoaeiafahaaDoorW.PrintMore Go.Proofs.YtpimhoaeiafahaaDoor.M0 Go.Proofs.YtpimhoaeiafahaaDoor.M8 Go.Proofs.YtpimhoaeiafahaaDoor.F0 Go.Proofs.YtpimhoaeiafahaaDoor.P0
set_option linter.unusedVariables false
set_option linter.unusedSimpArgs false

section
variable {w : World} {base top g gi : Nat} {K : Option Addr} {kc : Nat} {key : List Int} {dir viewer out last addr : Int}
theorem address (h : PeerAt w base top g gi K kc key dir viewer out last addr) :
    Calls Tryd.prog 35 #[.pointer (some ⟨g, 0, none⟩)] w fun e w' => e = .returned (.int .i64 addr) ∧ w' = w := by
  have p5 := h.c5
  go_enter Tryd.func35, Tryd.ntmps35
  go_wp2
  go_ret
  exact ⟨rfl, rfl⟩
theorem out_ (h : PeerAt w base top g gi K kc key dir viewer out last addr) :
    Calls Tryd.prog 36 #[.pointer (some ⟨g, 0, none⟩)] w fun e w' => e = .returned (.int .u64 out) ∧ w' = w := by
  have p3 := h.c3
  go_enter Tryd.func36, Tryd.ntmps36
  go_wp2
  go_ret
  exact ⟨rfl, rfl⟩
theorem last_ (h : w.heap[gi]? = some (.cells #[.int .u64 last] 76 (0, 0))) :
    Calls Tryd.prog 14 #[.pointer (some ⟨gi, 0, none⟩)] w fun e w' => e = .returned (.int .u64 last) ∧ w' = w := by
  have p0 : w.cell? ⟨gi, 0, none⟩ = some (.int .u64 last) := (blk_cell h 0).trans rfl
  go_enter Tryd.func14, Tryd.ntmps14
  go_wp2
  go_ret
  exact ⟨rfl, rfl⟩
theorem in_ (h : PeerAt w base top g gi K kc key dir viewer out last addr) :
    Calls Tryd.prog 37 #[.pointer (some ⟨g, 0, none⟩)] w fun e w' => e = .returned (.int .u64 last) ∧ w' = w := by
  have p4 := h.c4
  have HW := Aside0.mk h.win
  clear h
  go_enter Tryd.func37, Tryd.ntmps37
  go_wp2_with (go_at_call 14; refine (last_ HW.out).mono ?_; rintro e w' ⟨rfl, rfl⟩)
  go_ret
  exact ⟨rfl, rfl⟩

set_option maxHeartbeats 2000000 in
set_option maxRecDepth 100000 in
theorem send_full (A1 : Option Addr) (c1 : Nat) (body : List Int) (h : PeerAt w base top g gi K kc key dir viewer out last addr) (ho : out ≥ 4611686018427387904) :
    Calls Tryd.prog 31 #[.pointer (some ⟨g, 0, none⟩), .slice A1 body.length c1] w fun e w' => e = .returned (.tuple #[.slice none 0 0, .int .i64 17]) ∧ w' = w := by
  have p3 := h.c3
  have o1 : decide (out ≥ 4611686018427387904) = true := decide_eq_true ho
  clear h ho
  go_enter Tryd.func31, Tryd.ntmps31
  go_wp2
  go_ret2
  exact ⟨rfl, rfl⟩
set_option maxHeartbeats 2000000 in
set_option maxRecDepth 100000 in
theorem send_long (A1 : Option Addr) (c1 : Nat) (body : List Int) (h : PeerAt w base top g gi K kc key dir viewer out last addr) (ho : ¬ out ≥ 4611686018427387904) (hb : (body.length : Int) > 1200) :
    Calls Tryd.prog 31 #[.pointer (some ⟨g, 0, none⟩), .slice A1 body.length c1] w fun e w' => e = .returned (.tuple #[.slice none 0 0, .int .i64 4]) ∧ w' = w := by
  have p3 := h.c3
  have o1 : decide (out ≥ 4611686018427387904) = false := decide_eq_false ho
  have o2 : decide ((body.length : Int) > 1200) = true := decide_eq_true hb
  have o3 : decide (1200 < body.length) = true := decide_eq_true (by omega)
  clear h ho hb
  go_enter Tryd.func31, Tryd.ntmps31
  go_wp2
  go_ret2
  exact ⟨rfl, rfl⟩
set_option maxHeartbeats 2000000 in
set_option maxRecDepth 100000 in
theorem send_bad (k : Nat) (A1 : Option Addr) (c1 : Nat) (body x : List Int) (er : Int) (h : PeerAt w base top g gi K kc key dir viewer out last addr) (hr1 : Kd.C (Kd.int .u8) w A1 body.length body) (hc1 : body.length ≤ c1) (hG : LaidG w) (h0 : 0 ≤ out) (ho : ¬ out ≥ 4611686018427387904) (hb : ¬ (body.length : Int) > 1200) (hs : pkt_Seal.f k key dir viewer (out + 1) body = some (x, er)) (he : er ≠ 0) :
    Calls Tryd.prog 31 #[.pointer (some ⟨g, 0, none⟩), .slice A1 body.length c1] w fun e w' => e = .returned (.tuple #[.slice none 0 0, .int .i64 er]) ∧ Below w.heap.size w w' := by
  have p0 := h.c0
  have p1 := h.c1
  have p2 := h.c2
  have p3 := h.c3
  have HP := Aside0.mk h
  have HR := Aside0.mk hr1
  have HC := Aside0.mk hc1
  have HG := Aside0.mk hG
  have HS := Aside0.mk hs
  have o1 : decide (out ≥ 4611686018427387904) = false := decide_eq_false ho
  have o2 : decide ((body.length : Int) > 1200) = false := decide_eq_false hb
  have o3 : decide (1200 < body.length) = false := decide_eq_false (by omega)
  have hw : IntKind.u64.wrap (out + 1) = out + 1 := by rw [IntKind.wrap_u64]; omega
  have e1 : (er == 0) = false := beq_eq_false_iff_ne.mpr he
  have e2 : (er != 0) = true := bne_iff_ne.mpr he
  clear h ho hb hr1 hc1 hG hs he
  go_enter Tryd.func31, Tryd.ntmps31
  go_wp2
  go_region_held3 (fun w' => w'.cell? ⟨g, 0, none⟩ = some (.slice K key.length kc) ∧ w'.cell? ⟨g, 1, none⟩ = some (.int .i64 dir) ∧ w'.cell? ⟨g, 2, none⟩ = some (.int .i64 viewer) ∧ w'.cell? ⟨g, 3, none⟩ = some (.int .u64 out)) (first | go_keep | exact ⟨by assumption, by assumption, by assumption, by assumption⟩) (first | (go_at_call 15; refine (pkt_Seal.calls k K kc key dir viewer (out + 1) A1 c1 body x er _ (Kd.C_below HP.out.C (by repeat (first | exact Below.refl _ _ | apply below_drew))) HP.out.le (Kd.C_below HR.out (by repeat (first | exact Below.refl _ _ | apply below_drew))) HC.out (HG.out.below (by repeat (first | exact Below.refl _ _ | apply below_drew))) HS.out).mono ?_; rintro e w1 ⟨v, rfl, hv, hb⟩; have HB := Aside0.mk (below_step (show Below w.heap.size w _ by repeat (first | exact Below.refl _ _ | apply below_drew)) hb); have HV := Aside0.mk (Kd.R_lower hv (below_size (show Below w.heap.size w _ by repeat (first | exact Below.refl _ _ | apply below_drew)))); have HP1 := Aside0.mk (HP.out.below HB.out); have q0 := HP1.out.c0; have q1 := HP1.out.c1; have q2 := HP1.out.c2; have q3 := HP1.out.c3; clear hb hv p0 p1 p2 p3))
  go_wp2
  go_ret2
  exact ⟨rfl, HB.out⟩
set_option maxHeartbeats 2000000 in
set_option maxRecDepth 100000 in
theorem send_ok (k : Nat) (A1 : Option Addr) (c1 : Nat) (body x : List Int) (h : PeerAt w base top g gi K kc key dir viewer out last addr) (hr1 : Kd.C (Kd.int .u8) w A1 body.length body) (hc1 : body.length ≤ c1) (hG : LaidG w) (h0 : 0 ≤ out) (ho : ¬ out ≥ 4611686018427387904) (hb : ¬ (body.length : Int) > 1200) (hs : pkt_Seal.f k key dir viewer (out + 1) body = some (x, 0)) :
    Calls Tryd.prog 31 #[.pointer (some ⟨g, 0, none⟩), .slice A1 body.length c1] w fun e w' => ∃ v : Value, e = .returned (.tuple #[v, .int .i64 0]) ∧ Kd.R (Kd.int .u8) 5 w' w.heap.size (fun _ => True) v x ∧ PeerAt w' base top g gi K kc key dir viewer (out + 1) last addr ∧ KeepBut w w' g none ∧ ∀ w0 : World, Below w0.heap.size w0 w → w0.heap.size ≤ base → Below w0.heap.size w0 w' := by
  have p0 := h.c0
  have p1 := h.c1
  have p2 := h.c2
  have p3 := h.c3
  have HP := Aside0.mk h
  have HR := Aside0.mk hr1
  have HC := Aside0.mk hc1
  have HG := Aside0.mk hG
  have HS := Aside0.mk hs
  have o1 : decide (out ≥ 4611686018427387904) = false := decide_eq_false ho
  have o2 : decide ((body.length : Int) > 1200) = false := decide_eq_false hb
  have o3 : decide (1200 < body.length) = false := decide_eq_false (by omega)
  have hw : IntKind.u64.wrap (out + 1) = out + 1 := by rw [IntKind.wrap_u64]; omega
  clear h ho hb hr1 hc1 hG hs
  go_enter Tryd.func31, Tryd.ntmps31
  go_wp2
  go_region_held3 (fun w' => w'.cell? ⟨g, 0, none⟩ = some (.slice K key.length kc) ∧ w'.cell? ⟨g, 1, none⟩ = some (.int .i64 dir) ∧ w'.cell? ⟨g, 2, none⟩ = some (.int .i64 viewer) ∧ w'.cell? ⟨g, 3, none⟩ = some (.int .u64 out)) (first | go_keep | exact ⟨by assumption, by assumption, by assumption, by assumption⟩) (first | (go_at_call 15; refine (pkt_Seal.calls k K kc key dir viewer (out + 1) A1 c1 body x 0 _ (Kd.C_below HP.out.C (by repeat (first | exact Below.refl _ _ | apply below_drew))) HP.out.le (Kd.C_below HR.out (by repeat (first | exact Below.refl _ _ | apply below_drew))) HC.out (HG.out.below (by repeat (first | exact Below.refl _ _ | apply below_drew))) HS.out).mono ?_; rintro e w1 ⟨v, rfl, hv, hb⟩; have HB := Aside0.mk (below_step (show Below w.heap.size w _ by repeat (first | exact Below.refl _ _ | apply below_drew)) hb); have HV := Aside0.mk (Kd.R_lower hv (below_size (show Below w.heap.size w _ by repeat (first | exact Below.refl _ _ | apply below_drew)))); have HP1 := Aside0.mk (HP.out.below HB.out); have q0 := HP1.out.c0; have q1 := HP1.out.c1; have q2 := HP1.out.c2; have q3 := HP1.out.c3; have fz := blk_frozen HP1.out.box 3; clear hb hv p0 p1 p2 p3))
  go_wp2
  go_ret2
  refine ⟨_, rfl, Kd.R_mono (Kd.R_far (p := ⟨g, 3, none⟩) (Kd.R_tight rfl HV.out) (fun k hk => by have h1 := Kd.R_base HV.out k hk.symm; have h2 := blk_lt HP.out.box; show k ≠ g; omega) _) (fun _ _ => trivial), HP1.out.setOut (out + 1), (KeepBut.of_below HB.out g none).set_ 3 _, fun w0 h0 hl => below_set (below_step h0 HB.out) (Nat.le_trans hl HP.out.ge)⟩
end
end Go.Proofs.YtpimhoaeiafahaaDoor.P1
