/- The contract of tikref2.Hmac, the document's sum under a key. -/
import Derived.Test.YtpimhoaeiafahaaDoorM6
import Derived.RegionTactic
namespace Go.Proofs.YtpimhoaeiafahaaDoor.M7
open Go.RowKit Go.Proofs.YtpimhoaeiafahaaDoorW.PrintWords Go.Proofs.YtpimhoaeiafahaaDoorW.PrintLast Go.Proofs.YtpimhoaeiafahaaDoorW.PrintMore Go.Proofs.YtpimhoaeiafahaaDoor.A Go.Proofs.YtpimhoaeiafahaaDoor.M0 Go.Proofs.YtpimhoaeiafahaaDoor.M1 Go.Proofs.YtpimhoaeiafahaaDoor.M2 Go.Proofs.YtpimhoaeiafahaaDoor.M3 Go.Proofs.YtpimhoaeiafahaaDoor.M4 Go.Proofs.YtpimhoaeiafahaaDoor.M5 Go.Proofs.YtpimhoaeiafahaaDoor.M6
set_option linter.unusedVariables false
set_option linter.unusedSimpArgs false

def padR (kk : List Int) (x : Int) : Nat → List Int
  | 0 => List.replicate 64 0
  | i + 1 => (padR kk x i).set i (Go.bits .xor .u8 (if i < kk.length then rd kk i else 0) x)
theorem make64 : ∀ W : World, (Instr.makeSlice 32 (.int .i64 64) (.int .i64 64)).run Tryd.prog W = .ok (.slice (some ⟨W.heap.size, 0, none⟩) 64 64) (W.alloc (.cells (madeCells #[.int .u8 0] 64) 5)) := print_make 32 5 .u8 1 Tryd.underlying32 info8 (by omega) 64 (by omega)
theorem made64 : madeCells #[.int .u8 0] 64 = (nums .u8 (List.replicate 64 0)).toArray := by kernel_rfl
theorem zero64 (W : World) (cs : Array Value) (h : cs = (nums .u8 (List.replicate 64 0)).toArray) : B64 (W.alloc (.cells cs 5)) W.heap.size (List.replicate 64 0) := by
  subst h
  have hb := heap_alloc_new W (.cells (nums .u8 (List.replicate 64 0)).toArray 5)
  refine ⟨by simp, fun j hj => ?_, fun j hj => blk_frozen hb j⟩
  rw [blk_cell hb]
  simp only [nums, rd, List.map_replicate, List.getElem?_toArray, List.getD_eq_getElem?_getD, Int.toNat_natCast, List.getElem?_replicate, if_pos hj]
  rfl
theorem two64 (w : World) (cs ds : Array Value) (h : cs = (nums .u8 (List.replicate 64 0)).toArray) (h' : ds = (nums .u8 (List.replicate 64 0)).toArray) (W : World) (hW : (w.alloc (.cells cs 5)).alloc (.cells ds 5) = W) : Aside0 (B64 W w.heap.size (List.replicate 64 0)) ∧ Aside0 (B64 W (w.heap.size + 1) (List.replicate 64 0)) ∧ Aside0 (Below w.heap.size w W) := by
  subst hW
  refine ⟨⟨(zero64 w cs h).below (below_alloc (Below.refl _ _) _)⟩, ⟨?_⟩, ⟨below_alloc (below_alloc (Below.refl _ _) _) _⟩⟩
  have := zero64 (w.alloc (.cells cs 5)) ds h'
  rw [show (w.alloc (.cells cs 5)).heap.size = w.heap.size + 1 by simp] at this
  exact this
theorem B64_other {W : World} {g : Nat} {xs : List Int} (h : B64 W g xs) {p : Addr} (hne : g ≠ p.block) (v : Value) : B64 (W.setCell p v) g xs where
  len := h.len
  cell := fun j hj => by rw [World.cell?_setCell_other _ _ _ _ (by intro e; subst e; exact hne rfl)]; exact h.cell j hj
  free := fun j hj => by rw [World.frozen?_setCell]; exact h.free j hj

def tikref2_Hmac.f (k : Nat) (l0 l1 : List Int) : Option (List Int) := if l1.length = 0 then none else if l1.length ≤ 70368744177664 then (if (l0.length : Int) ≤ 64 then some l0 else tikref2_Sum.f k l0).bind fun kk => (tikref2_Sum.f k (padR kk 54 64 ++ l1)).bind fun inner => if inner.length = 0 then none else if inner.length ≤ 70368744177664 then tikref2_Sum.f k (padR kk 92 64 ++ inner) else none else none
theorem tikref2_Hmac.mono : ∀ a0 a1 k, LeO (tikref2_Hmac.f k a0 a1) (tikref2_Hmac.f (k + 1) a0 a1) := by
  intro a0 a1 k
  unfold tikref2_Hmac.f
  exact LeO.ite (LeO.refl _) (LeO.ite (LeO.bind (LeO.ite (LeO.refl _) (tikref2_Sum.mono _ _)) (fun _ => LeO.bind (tikref2_Sum.mono _ _) (fun _ => LeO.ite (LeO.refl _) (LeO.ite (tikref2_Sum.mono _ _) (LeO.refl _))))) (LeO.refl _))

set_option maxHeartbeats 4000000 in
set_option maxRecDepth 100000 in
theorem hmac_short (k : Nat) (A0 : Option Addr) (c0 : Nat) (l0 : List Int) (A1 : Option Addr) (c1 : Nat) (l1 : List Int) (h0 : (l0.length : Int) ≤ 64) (inner m1 m2 r : List Int) (w : World) (hr0 : Kd.C (Kd.int .u8) w A0 l0.length l0) (hr1 : Kd.C (Kd.int .u8) w A1 l1.length l1)
    (hm0 : 0 < l1.length) (hml : l1.length ≤ 70368744177664) (e1 : padR l0 54 64 ++ l1 = m1) (e2 : padR l0 92 64 ++ inner = m2) (h2 : tikref2_Sum.f k m1 = some inner) (hi0 : 0 < inner.length) (hil : inner.length ≤ 70368744177664) (h4 : tikref2_Sum.f k m2 = some r) :
    Calls Tryd.prog 44 #[.slice A0 l0.length c0, .slice A1 l1.length c1] w fun e w' => ∃ v0_ : Value, e = .returned (v0_) ∧ Kd.R (Kd.int .u8) 5 w' w.heap.size (fun _ => True) v0_ r ∧ Below w.heap.size w w' := by
  have HR1 := Aside0.mk hr1
  have HM0 := Aside0.mk hm0
  have HML := Aside0.mk hml
  have H2 := Aside0.mk h2
  have HI0 := Aside0.mk hi0
  have HIL := Aside0.mk hil
  have H4 := Aside0.mk h4
  have E1 := Aside0.mk e1
  have E2 := Aside0.mk e2
  have HC := Aside0.mk hr0
  have HB := Aside0.mk (Below.refl w.heap.size w)
  have HX := Aside0.mk (Below.refl w.heap.size w)
  have HK64 := Aside0.mk h0
  clear hr0 hr1 hm0 hml e1 e2 h2 hi0 hil h4 
  have hmk := make64
  go_enter Tryd.func44, Tryd.ntmps44
  go_wp2_with (first | fail)
  go_region
  · generalize hW2 : World.alloc (World.alloc _ _) _ = W2
    obtain ⟨D0, D1, HB2⟩ := two64 _ _ _ made64 made64 W2 hW2
    clear hW2 hmk
    have HX2 := Aside0.mk (below_step HX.out HB2.out)
    have HW2 := Aside0.mk (below_step HB.out HB2.out)
    have HGB := Aside0.mk (below_size HX.out)
    have HGW := Aside0.mk (below_size HB.out)
    clear HB2 HB HX
    replace D0 := Aside0.mk (D0.out.below (below_drew (Below.refl _ _)))
    replace D1 := Aside0.mk (D1.out.below (below_drew (Below.refl _ _)))
    replace HX2 := Aside0.mk (below_drew HX2.out)
    replace HW2 := Aside0.mk (below_drew HW2.out)
    go_wp2_with fail
    go_loopw [7] (fun v7 W => ∃ i : Nat, i ≤ 64 ∧ v7 = .int .i64 i ∧ Aside0 (B64 W w.heap.size (padR l0 54 i)) ∧ Aside0 (B64 W (w.heap.size + 1) (padR l0 92 i)) ∧ Aside0 (Below w.heap.size w W) ∧ Aside0 (Below w.heap.size w W)) (fun v7 _ => 64 - (intOf v7).toNat)
    case atStart => exact ⟨0, by omega, rfl, D0, D1, HX2, HW2⟩
    case round =>
      clear D0 D1 HX2 HW2
      obtain ⟨i, hi, rfl, DI, DO, HX, HB⟩ := hrel
      by_cases hlt : i < 64
      · have cI := DI.out.cell i hlt
        have fI := DI.out.free i hlt
        have cO := DO.out.cell i hlt
        have fO := DO.out.free i hlt
        have hkl := HK64.out
        by_cases hk : i < l0.length
        · obtain ⟨ad, e, hc⟩ := Kd.at_int (Kd.C_below HC.out HX.out) i (by omega) (by omega)
          cases e
          rw [Int.toNat_natCast] at hc
          go_wp2
          go_roundw
          case rel => exact ⟨i + 1, by omega, by go_num, ⟨by rw [padR, if_pos hk]; exact B64_other (DI.out.set i hlt _) (by simp) _⟩, ⟨by rw [padR, if_pos hk]; exact (B64_other DO.out (by simp) _).set i hlt _⟩, ⟨below_set (below_set HX.out (by omega)) (by omega)⟩, ⟨below_set (below_set HB.out (by have := HGW.out; omega)) (by have := HGW.out; omega)⟩⟩
          case measure => simp [intOf]; omega
        · go_wp2
          go_roundw
          case rel => exact ⟨i + 1, by omega, by go_num, ⟨by rw [padR, if_neg hk]; exact B64_other (DI.out.set i hlt _) (by simp) _⟩, ⟨by rw [padR, if_neg hk]; exact (B64_other DO.out (by simp) _).set i hlt _⟩, ⟨below_set (below_set HX.out (by omega)) (by omega)⟩, ⟨below_set (below_set HB.out (by have := HGW.out; omega)) (by have := HGW.out; omega)⟩⟩
          case measure => simp [intOf]; omega
      · obtain rfl : i = 64 := by omega
        go_wp2_with (first | ((with_reducible refine gate_dst (N := 41) rfl ?_); refine append64 _ rfl (.tmp 39) (.tmp 40) rfl w.heap.size (padR l0 54 64) rfl DI.out A1 c1 l1 rfl (Kd.C_below HR1.out HB.out) HM0.out HML.out m1 E1.out ?_; intro A3 c3 W3 hC3 hc3 hb; have HC3 := Aside0.mk hC3; have Hc3 := Aside0.mk hc3; have DO3 := Aside0.mk (DO.out.below hb); have HB3 := Aside0.mk (below_step HB.out hb); clear hC3 hc3 hb DI DO HB HX) | fail)
        refine (tikref2_Sum.calls k A3 c3 m1 inner W3 HC3.out Hc3.out H2.out).mono ?_
        rintro e W4 ⟨v, rfl, ho, hb⟩
        obtain ⟨A4, c4, rfl⟩ := Kd.R_slice ho
        have HIN := Aside0.mk (Kd.R_reads' ho).2.2
        have HB4 := Aside0.mk (below_step HB3.out hb)
        have DO4 := Aside0.mk (DO3.out.below hb)
        clear ho hb HC3 Hc3 HB3 DO3
        go_wp2_with (first | ((with_reducible refine gate_dst (N := 43) rfl ?_); refine append64 _ rfl (.tmp 38) (.tmp 42) rfl (w.heap.size + 1) (padR l0 92 64) rfl DO4.out A4 c4 inner rfl HIN.out HI0.out HIL.out m2 E2.out ?_; intro A6 c6 W6 hC6 hc6 hb; have HC6 := Aside0.mk hC6; have Hc6 := Aside0.mk hc6; have HB6 := Aside0.mk (below_step HB4.out hb); clear hC6 hc6 hb DO4 HIN HB4) | fail)
        refine (tikref2_Sum.calls k A6 c6 m2 r W6 HC6.out Hc6.out H4.out).mono ?_
        rintro e W7 ⟨v, rfl, ho, hb⟩
        have HO := Aside0.mk (Kd.R_lower ho (below_size HB6.out))
        have HB7 := Aside0.mk (below_step HB6.out hb)
        clear ho hb
        go_wp2
        go_ret
        exact ⟨_, rfl, HO.out, HB7.out⟩
  · generalize hW2 : World.alloc (World.alloc _ _) _ = W2
    obtain ⟨D0, D1, HB2⟩ := two64 _ _ _ made64 made64 W2 hW2
    clear hW2 hmk
    have HX2 := Aside0.mk (below_step HX.out HB2.out)
    have HW2 := Aside0.mk (below_step HB.out HB2.out)
    have HGB := Aside0.mk (below_size HX.out)
    have HGW := Aside0.mk (below_size HB.out)
    clear HB2 HB HX
    replace D0 := Aside0.mk (D0.out.below (below_drew (Below.refl _ _)))
    replace D1 := Aside0.mk (D1.out.below (below_drew (Below.refl _ _)))
    replace HX2 := Aside0.mk (below_drew HX2.out)
    replace HW2 := Aside0.mk (below_drew HW2.out)
    go_wp2_with fail
    go_loopw [7] (fun v7 W => ∃ i : Nat, i ≤ 64 ∧ v7 = .int .i64 i ∧ Aside0 (B64 W (w.heap.size + 1) (padR l0 54 i)) ∧ Aside0 (B64 W w.heap.size (padR l0 92 i)) ∧ Aside0 (Below w.heap.size w W) ∧ Aside0 (Below w.heap.size w W)) (fun v7 _ => 64 - (intOf v7).toNat)
    case atStart => exact ⟨0, by omega, rfl, D1, D0, HX2, HW2⟩
    case round =>
      clear D0 D1 HX2 HW2
      obtain ⟨i, hi, rfl, DI, DO, HX, HB⟩ := hrel
      by_cases hlt : i < 64
      · have cI := DI.out.cell i hlt
        have fI := DI.out.free i hlt
        have cO := DO.out.cell i hlt
        have fO := DO.out.free i hlt
        have hkl := HK64.out
        by_cases hk : i < l0.length
        · obtain ⟨ad, e, hc⟩ := Kd.at_int (Kd.C_below HC.out HX.out) i (by omega) (by omega)
          cases e
          rw [Int.toNat_natCast] at hc
          go_wp2
          go_roundw
          case rel => exact ⟨i + 1, by omega, by go_num, ⟨by rw [padR, if_pos hk]; exact B64_other (DI.out.set i hlt _) (by simp) _⟩, ⟨by rw [padR, if_pos hk]; exact (B64_other DO.out (by simp) _).set i hlt _⟩, ⟨below_set (below_set HX.out (by omega)) (by omega)⟩, ⟨below_set (below_set HB.out (by have := HGW.out; omega)) (by have := HGW.out; omega)⟩⟩
          case measure => simp [intOf]; omega
        · go_wp2
          go_roundw
          case rel => exact ⟨i + 1, by omega, by go_num, ⟨by rw [padR, if_neg hk]; exact B64_other (DI.out.set i hlt _) (by simp) _⟩, ⟨by rw [padR, if_neg hk]; exact (B64_other DO.out (by simp) _).set i hlt _⟩, ⟨below_set (below_set HX.out (by omega)) (by omega)⟩, ⟨below_set (below_set HB.out (by have := HGW.out; omega)) (by have := HGW.out; omega)⟩⟩
          case measure => simp [intOf]; omega
      · obtain rfl : i = 64 := by omega
        go_wp2_with (first | ((with_reducible refine gate_dst (N := 41) rfl ?_); refine append64 _ rfl (.tmp 39) (.tmp 40) rfl (w.heap.size + 1) (padR l0 54 64) rfl DI.out A1 c1 l1 rfl (Kd.C_below HR1.out HB.out) HM0.out HML.out m1 E1.out ?_; intro A3 c3 W3 hC3 hc3 hb; have HC3 := Aside0.mk hC3; have Hc3 := Aside0.mk hc3; have DO3 := Aside0.mk (DO.out.below hb); have HB3 := Aside0.mk (below_step HB.out hb); clear hC3 hc3 hb DI DO HB HX) | fail)
        refine (tikref2_Sum.calls k A3 c3 m1 inner W3 HC3.out Hc3.out H2.out).mono ?_
        rintro e W4 ⟨v, rfl, ho, hb⟩
        obtain ⟨A4, c4, rfl⟩ := Kd.R_slice ho
        have HIN := Aside0.mk (Kd.R_reads' ho).2.2
        have HB4 := Aside0.mk (below_step HB3.out hb)
        have DO4 := Aside0.mk (DO3.out.below hb)
        clear ho hb HC3 Hc3 HB3 DO3
        go_wp2_with (first | ((with_reducible refine gate_dst (N := 43) rfl ?_); refine append64 _ rfl (.tmp 38) (.tmp 42) rfl w.heap.size (padR l0 92 64) rfl DO4.out A4 c4 inner rfl HIN.out HI0.out HIL.out m2 E2.out ?_; intro A6 c6 W6 hC6 hc6 hb; have HC6 := Aside0.mk hC6; have Hc6 := Aside0.mk hc6; have HB6 := Aside0.mk (below_step HB4.out hb); clear hC6 hc6 hb DO4 HIN HB4) | fail)
        refine (tikref2_Sum.calls k A6 c6 m2 r W6 HC6.out Hc6.out H4.out).mono ?_
        rintro e W7 ⟨v, rfl, ho, hb⟩
        have HO := Aside0.mk (Kd.R_lower ho (below_size HB6.out))
        have HB7 := Aside0.mk (below_step HB6.out hb)
        clear ho hb
        go_wp2
        go_ret
        exact ⟨_, rfl, HO.out, HB7.out⟩

set_option maxHeartbeats 4000000 in
set_option maxRecDepth 100000 in
theorem hmac_long (k : Nat) (A0 : Option Addr) (c0 : Nat) (l0 : List Int) (A1 : Option Addr) (c1 : Nat) (l1 : List Int) (kk : List Int) (c0h : l0.length ≤ c0) (h0 : 64 < (l0.length : Int)) (hk : tikref2_Sum.f k l0 = some kk) (inner m1 m2 r : List Int) (w : World) (hr0 : Kd.C (Kd.int .u8) w A0 l0.length l0) (hr1 : Kd.C (Kd.int .u8) w A1 l1.length l1)
    (hm0 : 0 < l1.length) (hml : l1.length ≤ 70368744177664) (e1 : padR kk 54 64 ++ l1 = m1) (e2 : padR kk 92 64 ++ inner = m2) (h2 : tikref2_Sum.f k m1 = some inner) (hi0 : 0 < inner.length) (hil : inner.length ≤ 70368744177664) (h4 : tikref2_Sum.f k m2 = some r) :
    Calls Tryd.prog 44 #[.slice A0 l0.length c0, .slice A1 l1.length c1] w fun e w' => ∃ v0_ : Value, e = .returned (v0_) ∧ Kd.R (Kd.int .u8) 5 w' w.heap.size (fun _ => True) v0_ r ∧ Below w.heap.size w w' := by
  have HR1 := Aside0.mk hr1
  have HM0 := Aside0.mk hm0
  have HML := Aside0.mk hml
  have H2 := Aside0.mk h2
  have HI0 := Aside0.mk hi0
  have HIL := Aside0.mk hil
  have H4 := Aside0.mk h4
  have E1 := Aside0.mk e1
  have E2 := Aside0.mk e2
  have HS := Aside0.mk (tikref2_Sum.calls k A0 c0 l0 kk w hr0 c0h hk)
  have HK64 := Aside0.mk h0
  clear hr0 hr1 hm0 hml e1 e2 h2 hi0 hil h4 c0h hk
  have hmk := make64
  go_enter Tryd.func44, Tryd.ntmps44
  go_wp2_with (first | (go_at_call 47; refine (HS.out).mono ?_; rintro e W1 ⟨v, rfl, ho, hb⟩; obtain ⟨Ak, ck, e1⟩ := Kd.R_slice ho; subst e1; have HC := Aside0.mk (Kd.R_reads' ho).2.2; have HB := Aside0.mk hb; have HX := Aside0.mk (Below.refl W1.heap.size W1); clear ho hb HS) | fail)
  go_region
  · generalize hW2 : World.alloc (World.alloc _ _) _ = W2
    obtain ⟨D0, D1, HB2⟩ := two64 _ _ _ made64 made64 W2 hW2
    clear hW2 hmk
    have HX2 := Aside0.mk (below_step HX.out HB2.out)
    have HW2 := Aside0.mk (below_step HB.out HB2.out)
    have HGB := Aside0.mk (below_size HX.out)
    have HGW := Aside0.mk (below_size HB.out)
    clear HB2 HB HX
    replace D0 := Aside0.mk (D0.out.below (below_drew (Below.refl _ _)))
    replace D1 := Aside0.mk (D1.out.below (below_drew (Below.refl _ _)))
    replace HX2 := Aside0.mk (below_drew HX2.out)
    replace HW2 := Aside0.mk (below_drew HW2.out)
    go_wp2_with fail
    go_loopw [7] (fun v7 W => ∃ i : Nat, i ≤ 64 ∧ v7 = .int .i64 i ∧ Aside0 (B64 W W1.heap.size (padR kk 54 i)) ∧ Aside0 (B64 W (W1.heap.size + 1) (padR kk 92 i)) ∧ Aside0 (Below W1.heap.size W1 W) ∧ Aside0 (Below w.heap.size w W)) (fun v7 _ => 64 - (intOf v7).toNat)
    case atStart => exact ⟨0, by omega, rfl, D0, D1, HX2, HW2⟩
    case round =>
      clear D0 D1 HX2 HW2
      obtain ⟨i, hi, rfl, DI, DO, HX, HB⟩ := hrel
      by_cases hlt : i < 64
      · have cI := DI.out.cell i hlt
        have fI := DI.out.free i hlt
        have cO := DO.out.cell i hlt
        have fO := DO.out.free i hlt
        have hkl := HK64.out
        by_cases hk : i < kk.length
        · obtain ⟨ad, e, hc⟩ := Kd.at_int (Kd.C_below HC.out HX.out) i (by omega) (by omega)
          cases e
          rw [Int.toNat_natCast] at hc
          go_wp2
          go_roundw
          case rel => exact ⟨i + 1, by omega, by go_num, ⟨by rw [padR, if_pos hk]; exact B64_other (DI.out.set i hlt _) (by simp) _⟩, ⟨by rw [padR, if_pos hk]; exact (B64_other DO.out (by simp) _).set i hlt _⟩, ⟨below_set (below_set HX.out (by omega)) (by omega)⟩, ⟨below_set (below_set HB.out (by have := HGW.out; omega)) (by have := HGW.out; omega)⟩⟩
          case measure => simp [intOf]; omega
        · go_wp2
          go_roundw
          case rel => exact ⟨i + 1, by omega, by go_num, ⟨by rw [padR, if_neg hk]; exact B64_other (DI.out.set i hlt _) (by simp) _⟩, ⟨by rw [padR, if_neg hk]; exact (B64_other DO.out (by simp) _).set i hlt _⟩, ⟨below_set (below_set HX.out (by omega)) (by omega)⟩, ⟨below_set (below_set HB.out (by have := HGW.out; omega)) (by have := HGW.out; omega)⟩⟩
          case measure => simp [intOf]; omega
      · obtain rfl : i = 64 := by omega
        go_wp2_with (first | ((with_reducible refine gate_dst (N := 41) rfl ?_); refine append64 _ rfl (.tmp 39) (.tmp 40) rfl W1.heap.size (padR kk 54 64) rfl DI.out A1 c1 l1 rfl (Kd.C_below HR1.out HB.out) HM0.out HML.out m1 E1.out ?_; intro A3 c3 W3 hC3 hc3 hb; have HC3 := Aside0.mk hC3; have Hc3 := Aside0.mk hc3; have DO3 := Aside0.mk (DO.out.below hb); have HB3 := Aside0.mk (below_step HB.out hb); clear hC3 hc3 hb DI DO HB HX) | fail)
        refine (tikref2_Sum.calls k A3 c3 m1 inner W3 HC3.out Hc3.out H2.out).mono ?_
        rintro e W4 ⟨v, rfl, ho, hb⟩
        obtain ⟨A4, c4, rfl⟩ := Kd.R_slice ho
        have HIN := Aside0.mk (Kd.R_reads' ho).2.2
        have HB4 := Aside0.mk (below_step HB3.out hb)
        have DO4 := Aside0.mk (DO3.out.below hb)
        clear ho hb HC3 Hc3 HB3 DO3
        go_wp2_with (first | ((with_reducible refine gate_dst (N := 43) rfl ?_); refine append64 _ rfl (.tmp 38) (.tmp 42) rfl (W1.heap.size + 1) (padR kk 92 64) rfl DO4.out A4 c4 inner rfl HIN.out HI0.out HIL.out m2 E2.out ?_; intro A6 c6 W6 hC6 hc6 hb; have HC6 := Aside0.mk hC6; have Hc6 := Aside0.mk hc6; have HB6 := Aside0.mk (below_step HB4.out hb); clear hC6 hc6 hb DO4 HIN HB4) | fail)
        refine (tikref2_Sum.calls k A6 c6 m2 r W6 HC6.out Hc6.out H4.out).mono ?_
        rintro e W7 ⟨v, rfl, ho, hb⟩
        have HO := Aside0.mk (Kd.R_lower ho (below_size HB6.out))
        have HB7 := Aside0.mk (below_step HB6.out hb)
        clear ho hb
        go_wp2
        go_ret
        exact ⟨_, rfl, HO.out, HB7.out⟩
  · generalize hW2 : World.alloc (World.alloc _ _) _ = W2
    obtain ⟨D0, D1, HB2⟩ := two64 _ _ _ made64 made64 W2 hW2
    clear hW2 hmk
    have HX2 := Aside0.mk (below_step HX.out HB2.out)
    have HW2 := Aside0.mk (below_step HB.out HB2.out)
    have HGB := Aside0.mk (below_size HX.out)
    have HGW := Aside0.mk (below_size HB.out)
    clear HB2 HB HX
    replace D0 := Aside0.mk (D0.out.below (below_drew (Below.refl _ _)))
    replace D1 := Aside0.mk (D1.out.below (below_drew (Below.refl _ _)))
    replace HX2 := Aside0.mk (below_drew HX2.out)
    replace HW2 := Aside0.mk (below_drew HW2.out)
    go_wp2_with fail
    go_loopw [7] (fun v7 W => ∃ i : Nat, i ≤ 64 ∧ v7 = .int .i64 i ∧ Aside0 (B64 W (W1.heap.size + 1) (padR kk 54 i)) ∧ Aside0 (B64 W W1.heap.size (padR kk 92 i)) ∧ Aside0 (Below W1.heap.size W1 W) ∧ Aside0 (Below w.heap.size w W)) (fun v7 _ => 64 - (intOf v7).toNat)
    case atStart => exact ⟨0, by omega, rfl, D1, D0, HX2, HW2⟩
    case round =>
      clear D0 D1 HX2 HW2
      obtain ⟨i, hi, rfl, DI, DO, HX, HB⟩ := hrel
      by_cases hlt : i < 64
      · have cI := DI.out.cell i hlt
        have fI := DI.out.free i hlt
        have cO := DO.out.cell i hlt
        have fO := DO.out.free i hlt
        have hkl := HK64.out
        by_cases hk : i < kk.length
        · obtain ⟨ad, e, hc⟩ := Kd.at_int (Kd.C_below HC.out HX.out) i (by omega) (by omega)
          cases e
          rw [Int.toNat_natCast] at hc
          go_wp2
          go_roundw
          case rel => exact ⟨i + 1, by omega, by go_num, ⟨by rw [padR, if_pos hk]; exact B64_other (DI.out.set i hlt _) (by simp) _⟩, ⟨by rw [padR, if_pos hk]; exact (B64_other DO.out (by simp) _).set i hlt _⟩, ⟨below_set (below_set HX.out (by omega)) (by omega)⟩, ⟨below_set (below_set HB.out (by have := HGW.out; omega)) (by have := HGW.out; omega)⟩⟩
          case measure => simp [intOf]; omega
        · go_wp2
          go_roundw
          case rel => exact ⟨i + 1, by omega, by go_num, ⟨by rw [padR, if_neg hk]; exact B64_other (DI.out.set i hlt _) (by simp) _⟩, ⟨by rw [padR, if_neg hk]; exact (B64_other DO.out (by simp) _).set i hlt _⟩, ⟨below_set (below_set HX.out (by omega)) (by omega)⟩, ⟨below_set (below_set HB.out (by have := HGW.out; omega)) (by have := HGW.out; omega)⟩⟩
          case measure => simp [intOf]; omega
      · obtain rfl : i = 64 := by omega
        go_wp2_with (first | ((with_reducible refine gate_dst (N := 41) rfl ?_); refine append64 _ rfl (.tmp 39) (.tmp 40) rfl (W1.heap.size + 1) (padR kk 54 64) rfl DI.out A1 c1 l1 rfl (Kd.C_below HR1.out HB.out) HM0.out HML.out m1 E1.out ?_; intro A3 c3 W3 hC3 hc3 hb; have HC3 := Aside0.mk hC3; have Hc3 := Aside0.mk hc3; have DO3 := Aside0.mk (DO.out.below hb); have HB3 := Aside0.mk (below_step HB.out hb); clear hC3 hc3 hb DI DO HB HX) | fail)
        refine (tikref2_Sum.calls k A3 c3 m1 inner W3 HC3.out Hc3.out H2.out).mono ?_
        rintro e W4 ⟨v, rfl, ho, hb⟩
        obtain ⟨A4, c4, rfl⟩ := Kd.R_slice ho
        have HIN := Aside0.mk (Kd.R_reads' ho).2.2
        have HB4 := Aside0.mk (below_step HB3.out hb)
        have DO4 := Aside0.mk (DO3.out.below hb)
        clear ho hb HC3 Hc3 HB3 DO3
        go_wp2_with (first | ((with_reducible refine gate_dst (N := 43) rfl ?_); refine append64 _ rfl (.tmp 38) (.tmp 42) rfl W1.heap.size (padR kk 92 64) rfl DO4.out A4 c4 inner rfl HIN.out HI0.out HIL.out m2 E2.out ?_; intro A6 c6 W6 hC6 hc6 hb; have HC6 := Aside0.mk hC6; have Hc6 := Aside0.mk hc6; have HB6 := Aside0.mk (below_step HB4.out hb); clear hC6 hc6 hb DO4 HIN HB4) | fail)
        refine (tikref2_Sum.calls k A6 c6 m2 r W6 HC6.out Hc6.out H4.out).mono ?_
        rintro e W7 ⟨v, rfl, ho, hb⟩
        have HO := Aside0.mk (Kd.R_lower ho (below_size HB6.out))
        have HB7 := Aside0.mk (below_step HB6.out hb)
        clear ho hb
        go_wp2
        go_ret
        exact ⟨_, rfl, HO.out, HB7.out⟩

theorem tikref2_Hmac.calls (k : Nat) (A0 : Option Addr) (c0 : Nat) (l0 : List Int) (A1 : Option Addr) (c1 : Nat) (l1 : List Int) (r : List Int) (w : World) (hr0 : Kd.C (Kd.int .u8) w A0 l0.length l0) (hc0 : l0.length ≤ c0) (hr1 : Kd.C (Kd.int .u8) w A1 l1.length l1) (hc1 : l1.length ≤ c1) (h : tikref2_Hmac.f k l0 l1 = some r) :
    Calls Tryd.prog 44 #[.slice A0 l0.length c0, .slice A1 l1.length c1] w fun e w' => ∃ v0_ : Value, e = .returned (v0_) ∧ Kd.R (Kd.int .u8) 5 w' w.heap.size (fun _ => True) v0_ r ∧ Below w.heap.size w w' := by
  unfold tikref2_Hmac.f at h
  split at h
  · cases h
  · rename_i hm0
    split at h
    · rename_i hml
      obtain ⟨kk, h1, h⟩ := Option.bind_eq_some_iff.mp h
      obtain ⟨inner, h2, h⟩ := Option.bind_eq_some_iff.mp h
      split at h
      · cases h
      · rename_i hi0
        split at h
        · rename_i hil
          split at h1
          · rename_i hs
            obtain rfl := Option.some.inj h1
            exact hmac_short k A0 c0 l0 A1 c1 l1 hs inner _ _ r w hr0 hr1 (by omega) hml rfl rfl h2 (by omega) hil h
          · rename_i hs
            exact hmac_long k A0 c0 l0 A1 c1 l1 kk hc0 (by omega) h1 inner _ _ r w hr0 hr1 (by omega) hml rfl rfl h2 (by omega) hil h
        · cases h
    · cases h
end Go.Proofs.YtpimhoaeiafahaaDoor.M7
