/- The contract of mac.padded: a key of 64 bytes at the most, each byte turned by another one. -/
import Derived.Test.YtpimhoaeiafahaaDoorM4
namespace Go.Proofs.YtpimhoaeiafahaaDoor.M5
open Go.RowKit Go.Proofs.YtpimhoaeiafahaaDoorW.PrintWords Go.Proofs.YtpimhoaeiafahaaDoorW.PrintLast Go.Proofs.YtpimhoaeiafahaaDoorW.PrintMore Go.Proofs.YtpimhoaeiafahaaDoor.A Go.Proofs.YtpimhoaeiafahaaDoor.M0 Go.Proofs.YtpimhoaeiafahaaDoor.M1 Go.Proofs.YtpimhoaeiafahaaDoor.M2 Go.Proofs.YtpimhoaeiafahaaDoor.M3 Go.Proofs.YtpimhoaeiafahaaDoor.M4
set_option linter.unusedVariables false
set_option linter.unusedSimpArgs false

/-- 64 bytes at the head of a block, as numbers. -/
structure B64 (W : World) (g : Nat) (xs : List Int) : Prop where
  len : xs.length = 64
  cell : ∀ j, j < 64 → W.cell? ⟨g, j, none⟩ = some (.int .u8 (rd xs j))
  free : ∀ j, j < 64 → W.frozen? ⟨g, j, none⟩ = false
theorem B64.of_buf {w0 W : World} {g : Nat} {x : UInt8} (h : Lib.Buf w0 W g 64 (List.replicate 64 x)) : B64 W g (List.replicate 64 (x.toNat : Int)) where
  len := by simp
  cell := fun j hj => by
    rw [h.holds j x (by rw [List.getElem?_replicate]; simp [hj])]
    unfold rd; rw [List.getD_eq_getElem?_getD, Int.toNat_natCast, List.getElem?_replicate, if_pos hj]; rfl
  free := fun j hj => h.free j hj
theorem B64.set {W : World} {g : Nat} {xs : List Int} (h : B64 W g xs) (i : Nat) (hi : i < 64) (v : Int) : B64 (W.setCell ⟨g, i, none⟩ (.int .u8 v)) g (xs.set i v) where
  len := by rw [List.length_set]; exact h.len
  cell := fun j hj => by
    have hl := h.len
    by_cases e : i = j
    · subst e
      rw [World.cell?_setCell_same _ _ _ (h.cell i hi)]
      simp [rd, List.getD_eq_getElem?_getD, hl, hi]
    · rw [World.cell?_setCell_other _ _ _ _ (by intro e2; cases e2; exact e rfl), h.cell j hj]
      simp [rd, List.getD_eq_getElem?_getD, List.getElem?_set_ne e]
  free := fun j hj => by rw [World.frozen?_setCell]; exact h.free j hj
theorem B64.below {w W : World} {g : Nat} {xs : List Int} (h : B64 w g xs) (hb : Below w.heap.size w W) : B64 W g xs where
  len := h.len
  cell := fun j hj => pw_cell_below hb (h.cell j hj)
  free := fun j hj => by
    have hlt : g < w.heap.size := World.block_lt_of_cell? w ⟨g, j, none⟩ (h.cell j hj)
    rw [← h.free j hj]
    exact hb.frozen (p := ⟨g, j, none⟩) hlt
theorem B64.reads {W : World} {g : Nat} {xs : List Int} (h : B64 W g xs) : Kd.C (Kd.int .u8) W (some ⟨g, 0, none⟩) 64 xs := by
  refine Kd.C_of_reads (d := (0 : Int)) (h1 := fun _ => rfl) ⟨h.len, by omega, fun _ => ⟨_, rfl, fun j hj => ?_⟩⟩
  rw [add_plain]
  have := h.cell j hj
  simpa [rd] using this

def padF (kk : List Int) (x : Int) : Nat → List Int
  | 0 => List.replicate 64 x
  | i + 1 => (padF kk x i).set i (Go.bits .xor .u8 (rd (padF kk x i) i) (rd kk i))
def mac_padded.f (k : Nat) (l0 : List Int) (a1 : Int) : Option (List Int) := if (l0.length : Int) ≤ 64 then some (padF l0 a1 l0.length) else (mac_Sum.f k l0).bind fun kk => if kk.length ≤ 64 then some (padF kk a1 kk.length) else none
theorem mac_padded.mono : ∀ a0 a1 k, LeO (mac_padded.f k a0 a1) (mac_padded.f (k + 1) a0 a1) := by
  intro a0 a1 k
  unfold mac_padded.f
  exact LeO.ite (LeO.refl _) (LeO.bind (mac_Sum.mono _ _) (fun _ => LeO.refl _))
def PadPost (w : World) (r : List Int) (e : Ending) (w' : World) : Prop := ∃ g, e = .returned (.slice (some ⟨g, 0, none⟩) 64 64) ∧ w.heap.size ≤ g ∧ B64 w' g r ∧ Below w.heap.size w w'


set_option maxHeartbeats 2000000 in
set_option maxRecDepth 100000 in
theorem padded_short (A0 : Option Addr) (c0 : Nat) (l0 : List Int) (x : UInt8) (w : World) (hr0 : Kd.C (Kd.int .u8) w A0 l0.length l0) (h : l0.length ≤ 64) :
    Calls Tryd.prog 49 #[.slice A0 l0.length c0, .int .u8 (x.toNat : Int)] w (PadPost w (padF l0 (x.toNat : Int) l0.length)) := by
    have HC := Aside0.mk hr0
    have HB := Aside0.mk (Below.refl w.heap.size w)
    have HX := Aside0.mk (Below.refl w.heap.size w)
    have HK64 := Aside0.mk h
    have h0 : ¬ (64 : Int) < (l0.length : Int) := by omega
    clear hr0 h
    go_enter Tryd.func49, Tryd.ntmps49
    go_wp2_with (first | ((with_reducible refine gate_dst (N := 14) rfl ?_); refine Kd.R_lit (Kd.int .u8) _ 5 ?hg (N := 14) ?hd (xs := [(x.toNat : Int)]) (inner := [.int .u8 (x.toNat : Int)]) (ok := fun _ => True) (okp := fun _ => True) ?hr ?hp (fun _ hk => hk) trivial (Below.refl _ _) (Nat.le_refl _) (by simp) ?_; (case hd => rfl); (case hg => rfl); (case hr => first | (go_simp; done) | (go_simp; rfl)); (case hp => exact (Reps.one (show Kd.M (Kd.int .u8) _ _ _ (x.toNat : Int) [.int .u8 (x.toNat : Int)] from rfl) (Reps.none _ _))); intro v14 w3 ho hb hg_ hnew_; clear hg_ hnew_; obtain ⟨Ao, co, eo⟩ := Kd.R_slice ho; subst eo; have HRD := Aside0.mk (Kd.R_reads' ho).2.2; have HB3 := Aside0.mk (below_step HB.out hb); have HX3 := Aside0.mk (below_step HX.out hb); clear ho hb HB HX) | (go_at_call 55; refine (repeat64 Ao co x _ HRD.out).mono ?_; rintro e w4 ⟨hbuf, rfl⟩; have HX4 := Aside0.mk (below_step HX3.out (show Below w3.heap.size w3 w4 from hbuf.below)); have HGX := Aside0.mk (below_size HX3.out); have HB4 := Aside0.mk (below_step HB3.out (show Below w3.heap.size w3 w4 from hbuf.below)); have HD := Aside0.mk (B64.of_buf hbuf); have HGE := Aside0.mk (below_size HB3.out); clear hbuf HX3 HB3 HRD) | fail)
    go_loopw [18] (fun v18 W => ∃ i : Nat, i ≤ l0.length ∧ v18 = .int .i64 i ∧ Aside0 (B64 W w3.heap.size (padF l0 (x.toNat : Int) i)) ∧ Aside0 (Below w.heap.size w W) ∧ Aside0 (Below w.heap.size w W)) (fun v18 _ => l0.length - (intOf v18).toNat)
    case atStart => exact ⟨0, by omega, rfl, HD, HX4, HB4⟩
    case round =>
      clear HD HX4 HB4
      obtain ⟨i, hi, rfl, HD, HX, HB⟩ := hrel
      have h64 := HK64.out
      by_cases hlt : i < l0.length
      · obtain ⟨ad, e, hc⟩ := Kd.at_int (Kd.C_below HC.out HX.out) i (by omega) (by omega)
        cases e
        rw [Int.toNat_natCast] at hc
        have c1 := HD.out.cell i (by omega)
        have f1 := HD.out.free i (by omega)
        go_wp2
        go_roundw
        case rel => exact ⟨i + 1, by omega, by go_num, ⟨HD.out.set i (by omega) _⟩, ⟨below_set HX.out HGX.out⟩, ⟨below_set HB.out HGE.out⟩⟩
        case measure => simp [intOf]; omega
      · obtain rfl : l0.length = i := by omega
        go_wp2
        go_ret
        exact ⟨_, rfl, HGE.out, HD.out, HB.out⟩

set_option maxHeartbeats 2000000 in
set_option maxRecDepth 100000 in
theorem padded_long (k : Nat) (A0 : Option Addr) (c0 : Nat) (l0 : List Int) (x : UInt8) (w : World) (hr0 : Kd.C (Kd.int .u8) w A0 l0.length l0) (hc0 : l0.length ≤ c0) (hG : LaidG w) (h : 64 < l0.length) (kk : List Int) (hk : mac_Sum.f k l0 = some kk) (h64 : kk.length ≤ 64) :
    Calls Tryd.prog 49 #[.slice A0 l0.length c0, .int .u8 (x.toNat : Int)] w (PadPost w (padF kk (x.toNat : Int) kk.length)) := by
    have HS := Aside0.mk (mac_Sum.calls k A0 c0 l0 kk w hr0 hc0 hG hk)
    have HK64 := Aside0.mk h64
    have h0 : (64 : Int) < (l0.length : Int) := by omega
    clear hr0 h hG hc0 hk h64
    go_enter Tryd.func49, Tryd.ntmps49
    go_wp2_with (first | (go_at_call 48; refine (HS.out).mono ?_; rintro e W1 ⟨v, rfl, ho, hb⟩; obtain ⟨A1, c1, e1⟩ := Kd.R_slice ho; subst e1; have HC := Aside0.mk (Kd.R_reads' ho).2.2; have HB := Aside0.mk hb; have HX := Aside0.mk (Below.refl W1.heap.size W1); clear ho hb HS) | ((with_reducible refine gate_dst (N := 14) rfl ?_); refine Kd.R_lit (Kd.int .u8) _ 5 ?hg (N := 14) ?hd (xs := [(x.toNat : Int)]) (inner := [.int .u8 (x.toNat : Int)]) (ok := fun _ => True) (okp := fun _ => True) ?hr ?hp (fun _ hk => hk) trivial (Below.refl _ _) (Nat.le_refl _) (by simp) ?_; (case hd => rfl); (case hg => rfl); (case hr => first | (go_simp; done) | (go_simp; rfl)); (case hp => exact (Reps.one (show Kd.M (Kd.int .u8) _ _ _ (x.toNat : Int) [.int .u8 (x.toNat : Int)] from rfl) (Reps.none _ _))); intro v14 w3 ho hb hg_ hnew_; clear hg_ hnew_; obtain ⟨Ao, co, eo⟩ := Kd.R_slice ho; subst eo; have HRD := Aside0.mk (Kd.R_reads' ho).2.2; have HB3 := Aside0.mk (below_step HB.out hb); have HX3 := Aside0.mk (below_step HX.out hb); clear ho hb HB HX) | (go_at_call 55; refine (repeat64 Ao co x _ HRD.out).mono ?_; rintro e w4 ⟨hbuf, rfl⟩; have HX4 := Aside0.mk (below_step HX3.out (show Below w3.heap.size w3 w4 from hbuf.below)); have HGX := Aside0.mk (below_size HX3.out); have HB4 := Aside0.mk (below_step HB3.out (show Below w3.heap.size w3 w4 from hbuf.below)); have HD := Aside0.mk (B64.of_buf hbuf); have HGE := Aside0.mk (below_size HB3.out); clear hbuf HX3 HB3 HRD) | fail)
    go_loopw [18] (fun v18 W => ∃ i : Nat, i ≤ kk.length ∧ v18 = .int .i64 i ∧ Aside0 (B64 W w3.heap.size (padF kk (x.toNat : Int) i)) ∧ Aside0 (Below W1.heap.size W1 W) ∧ Aside0 (Below w.heap.size w W)) (fun v18 _ => kk.length - (intOf v18).toNat)
    case atStart => exact ⟨0, by omega, rfl, HD, HX4, HB4⟩
    case round =>
      clear HD HX4 HB4
      obtain ⟨i, hi, rfl, HD, HX, HB⟩ := hrel
      have h64 := HK64.out
      by_cases hlt : i < kk.length
      · obtain ⟨ad, e, hc⟩ := Kd.at_int (Kd.C_below HC.out HX.out) i (by omega) (by omega)
        cases e
        rw [Int.toNat_natCast] at hc
        have c1 := HD.out.cell i (by omega)
        have f1 := HD.out.free i (by omega)
        go_wp2
        go_roundw
        case rel => exact ⟨i + 1, by omega, by go_num, ⟨HD.out.set i (by omega) _⟩, ⟨below_set HX.out HGX.out⟩, ⟨below_set HB.out HGE.out⟩⟩
        case measure => simp [intOf]; omega
      · obtain rfl : kk.length = i := by omega
        go_wp2
        go_ret
        exact ⟨_, rfl, HGE.out, HD.out, HB.out⟩

theorem padded_any (k : Nat) (A0 : Option Addr) (c0 : Nat) (l0 : List Int) (x : UInt8) (r : List Int) (w : World) (hr0 : Kd.C (Kd.int .u8) w A0 l0.length l0) (hc0 : l0.length ≤ c0) (hG : LaidG w) (h : mac_padded.f k l0 (x.toNat : Int) = some r) :
    Calls Tryd.prog 49 #[.slice A0 l0.length c0, .int .u8 (x.toNat : Int)] w (PadPost w r) := by
  unfold mac_padded.f at h
  split at h
  · rename_i hl
    obtain rfl := Option.some.inj h
    exact padded_short A0 c0 l0 x w hr0 (by omega)
  · rename_i hl
    obtain ⟨kk, hk, h⟩ := Option.bind_eq_some_iff.mp h
    split at h
    · rename_i h64
      obtain rfl := Option.some.inj h
      exact padded_long k A0 c0 l0 x w hr0 hc0 hG (by omega) kk hk h64
    · cases h
end Go.Proofs.YtpimhoaeiafahaaDoor.M5
