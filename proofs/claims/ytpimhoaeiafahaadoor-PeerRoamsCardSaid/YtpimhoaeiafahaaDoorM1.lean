/- Contracts of mac.spread: the words of all rounds of a block of 64 bytes. -/
import Derived.Test.YtpimhoaeiafahaaDoorAx3
import Derived.StillTailTactics
import Derived.IntWalk
namespace Go.Proofs.YtpimhoaeiafahaaDoor.M1
open Go.RowKit Go.Proofs.YtpimhoaeiafahaaDoorW.PrintWords Go.Proofs.YtpimhoaeiafahaaDoorW.PrintLast Go.Proofs.YtpimhoaeiafahaaDoorW.PrintMore Go.Proofs.YtpimhoaeiafahaaDoor.A Go.Proofs.YtpimhoaeiafahaaDoor.M0
set_option linter.unusedVariables false
set_option linter.unusedSimpArgs false

def spA (l : List Int) : Nat → List Int
  | 0 => List.replicate 64 0
  | k + 1 => (spA l k).set (k / 4) (Go.bits .or .u32 (rd (spA l k) ((k : Int) / 4) * 256 % 4294967296) (rd l k % 4294967296))
theorem spA_len (l : List Int) : ∀ k, (spA l k).length = 64
  | 0 => by simp [spA]
  | k + 1 => by simp [spA, spA_len l k]
def rr (x k : Int) : Int := (mac_right.f x k).getD 0
set_option maxHeartbeats 8000000 in
set_option maxRecDepth 100000 in
theorem rot_same (a0 : Int) (a1 : Int) (r : Int) (w : World) (h : bits_RotateLeft32.f a0 a1 = some r) :
    Calls Tryd.prog 61 #[.int .u32 a0, .int .i64 a1] w fun e w' => e = .returned (.int .u32 r) ∧ w' = w := by
  have H : (if 0 ≤ (Go.bits .and .u64 (IntKind.u64.wrap (a1)) 31) then (if 0 ≤ (IntKind.u64.wrap (32 - (Go.bits .and .u64 (IntKind.u64.wrap (a1)) 31))) then (some (Go.bits .or .u32 (shl .u32 a0 (Go.bits .and .u64 (IntKind.u64.wrap (a1)) 31)) (shr .u32 a0 (IntKind.u64.wrap (32 - (Go.bits .and .u64 (IntKind.u64.wrap (a1)) 31)))))) else (none)) else (none)) = some r := h
  clear h
  obtain ⟨ji3, hji3⟩ : ∃ j_ : Int, (Go.bits .and .u64 (IntKind.u64.wrap (a1)) 31) = j_ := ⟨_, rfl⟩
  replace H : (if 0 ≤ (ji3) then (if 0 ≤ (IntKind.u64.wrap (32 - (ji3))) then (some (Go.bits .or .u32 (shl .u32 a0 (ji3)) (shr .u32 a0 (IntKind.u64.wrap (32 - (ji3)))))) else (none)) else (none)) = some r := by first | (rw [hji3] at H; exact H) | (simp only [hji3] at H ⊢; exact H)
  by_cases c4 : 0 ≤ (ji3)
  · rw [if_pos c4] at H
    have c4b0 := eq_true c4
    have c4b1 : decide (0 ≤ (ji3)) = true := decide_eq_true c4
    clear c4
    obtain ⟨ji5, hji5⟩ : ∃ j_ : Int, (shl .u32 a0 (ji3)) = j_ := ⟨_, rfl⟩
    replace H : (if 0 ≤ (IntKind.u64.wrap (32 - (ji3))) then (some (Go.bits .or .u32 (ji5) (shr .u32 a0 (IntKind.u64.wrap (32 - (ji3)))))) else (none)) = some r := by first | (rw [hji5] at H; exact H) | (simp only [hji5] at H ⊢; exact H)
    have hji5_ : (IntKind.u32.wrap (a0 * 2 ^ min (ji3).toNat 32)) = ji5 := hji5
    have hji5z : (ji3) ≤ 32 → (IntKind.u32.wrap (a0 * 2 ^ (ji3).toNat)) = ji5 := shl_small hji5
    obtain ⟨ji6, hji6⟩ : ∃ j_ : Int, (IntKind.u64.wrap (32 - (ji3))) = j_ := ⟨_, rfl⟩
    replace H : (if 0 ≤ (ji6) then (some (Go.bits .or .u32 (ji5) (shr .u32 a0 (ji6)))) else (none)) = some r := by first | (rw [hji6] at H; exact H) | (simp only [hji6] at H ⊢; exact H)
    by_cases c7 : 0 ≤ (ji6)
    · rw [if_pos c7] at H
      have c7b0 := eq_true c7
      have c7b1 : decide (0 ≤ (ji6)) = true := decide_eq_true c7
      clear c7
      obtain ⟨ji8, hji8⟩ : ∃ j_ : Int, (shr .u32 a0 (ji6)) = j_ := ⟨_, rfl⟩
      replace H : (some (Go.bits .or .u32 (ji5) (ji8))) = some r := by first | (rw [hji8] at H; exact H) | (simp only [hji8] at H ⊢; exact H)
      have hji8_ : (a0 / 2 ^ min (ji6).toNat 32) = ji8 := hji8
      have hji8z : (ji6) ≤ 32 → (a0 / 2 ^ (ji6).toNat) = ji8 := shr_small hji8
      obtain rfl := Option.some.inj H
      go_enter Tryd.func61, Tryd.ntmps61
      go_wp2
      go_ret
      exact ⟨by first | rfl | (simp; done) | (simp only [← hji3, ← hji5, ← hji6, ← hji8] <;> (first | rfl | simp)) | (simp [*]; done), rfl⟩
    · rw [if_neg c7] at H
      exact absurd H (by simp)
  · rw [if_neg c4] at H
    exact absurd H (by simp)
set_option maxHeartbeats 8000000 in
set_option maxRecDepth 100000 in
theorem right_same (a0 : Int) (a1 : Int) (r : Int) (w : World) (h : mac_right.f a0 a1 = some r) :
    Calls Tryd.prog 59 #[.int .u32 a0, .int .i64 a1] w fun e w' => e = .returned (.int .u32 r) ∧ w' = w := by
  have H : ((bits_RotateLeft32.f a0 (wrap64 (-a1))).bind fun t113 => (some t113)) = some r := h
  clear h
  replace H := Option.bind_eq_some_iff.mp H
  obtain ⟨t113, A30, H⟩ := H
  replace H : (some t113) = some r := H
  have A3 := Aside0.mk A30
  clear A30
  obtain rfl := Option.some.inj H
  go_enter Tryd.func59, Tryd.ntmps59
  go_wp2_with (first | ((with_reducible refine gate_callee (f := 61) rfl ?_); refine goesL_ (some 8) rfl rfl Tryd.func61 (by kernel_rfl) rfl #[.int .u32 a0, .int .i64 (wrap64 (-a1))] rfl (by (try simp only [List.map_toArray, List.map_cons, List.map_nil]); first | done | rfl | (simp only [List.length_drop, List.length_take]; rfl)) ?_; (with_reducible refine (rot_same a0 (wrap64 (-a1)) t113 _ A3.out).mono ?_); rintro e w' ⟨rfl, rfl⟩; refine ⟨_, rfl, ?_⟩))
  go_ret
  exact ⟨by first | rfl | (simp; done) | (simp [*]; done), rfl⟩
theorem rs7 (x : Int) : mac_right.f x 7 = some (rr x 7) := by
  unfold rr mac_right.f bits_RotateLeft32.f
  rw [if_pos (by decide +kernel), if_pos (by decide +kernel)]
  rfl
theorem right7 (x : Int) (w : World) : Calls Tryd.prog 59 #[.int .u32 x, .int .i64 7] w fun e w' => e = .returned (.int .u32 (rr x 7)) ∧ w' = w := right_same x 7 _ w (rs7 x)
theorem rs18 (x : Int) : mac_right.f x 18 = some (rr x 18) := by
  unfold rr mac_right.f bits_RotateLeft32.f
  rw [if_pos (by decide +kernel), if_pos (by decide +kernel)]
  rfl
theorem right18 (x : Int) (w : World) : Calls Tryd.prog 59 #[.int .u32 x, .int .i64 18] w fun e w' => e = .returned (.int .u32 (rr x 18)) ∧ w' = w := right_same x 18 _ w (rs18 x)
theorem rs17 (x : Int) : mac_right.f x 17 = some (rr x 17) := by
  unfold rr mac_right.f bits_RotateLeft32.f
  rw [if_pos (by decide +kernel), if_pos (by decide +kernel)]
  rfl
theorem right17 (x : Int) (w : World) : Calls Tryd.prog 59 #[.int .u32 x, .int .i64 17] w fun e w' => e = .returned (.int .u32 (rr x 17)) ∧ w' = w := right_same x 17 _ w (rs17 x)
theorem rs19 (x : Int) : mac_right.f x 19 = some (rr x 19) := by
  unfold rr mac_right.f bits_RotateLeft32.f
  rw [if_pos (by decide +kernel), if_pos (by decide +kernel)]
  rfl
theorem right19 (x : Int) (w : World) : Calls Tryd.prog 59 #[.int .u32 x, .int .i64 19] w fun e w' => e = .returned (.int .u32 (rr x 19)) ∧ w' = w := right_same x 19 _ w (rs19 x)
theorem rs6 (x : Int) : mac_right.f x 6 = some (rr x 6) := by
  unfold rr mac_right.f bits_RotateLeft32.f
  rw [if_pos (by decide +kernel), if_pos (by decide +kernel)]
  rfl
theorem right6 (x : Int) (w : World) : Calls Tryd.prog 59 #[.int .u32 x, .int .i64 6] w fun e w' => e = .returned (.int .u32 (rr x 6)) ∧ w' = w := right_same x 6 _ w (rs6 x)
theorem rs11 (x : Int) : mac_right.f x 11 = some (rr x 11) := by
  unfold rr mac_right.f bits_RotateLeft32.f
  rw [if_pos (by decide +kernel), if_pos (by decide +kernel)]
  rfl
theorem right11 (x : Int) (w : World) : Calls Tryd.prog 59 #[.int .u32 x, .int .i64 11] w fun e w' => e = .returned (.int .u32 (rr x 11)) ∧ w' = w := right_same x 11 _ w (rs11 x)
theorem rs25 (x : Int) : mac_right.f x 25 = some (rr x 25) := by
  unfold rr mac_right.f bits_RotateLeft32.f
  rw [if_pos (by decide +kernel), if_pos (by decide +kernel)]
  rfl
theorem right25 (x : Int) (w : World) : Calls Tryd.prog 59 #[.int .u32 x, .int .i64 25] w fun e w' => e = .returned (.int .u32 (rr x 25)) ∧ w' = w := right_same x 25 _ w (rs25 x)
theorem rs2 (x : Int) : mac_right.f x 2 = some (rr x 2) := by
  unfold rr mac_right.f bits_RotateLeft32.f
  rw [if_pos (by decide +kernel), if_pos (by decide +kernel)]
  rfl
theorem right2 (x : Int) (w : World) : Calls Tryd.prog 59 #[.int .u32 x, .int .i64 2] w fun e w' => e = .returned (.int .u32 (rr x 2)) ∧ w' = w := right_same x 2 _ w (rs2 x)
theorem rs13 (x : Int) : mac_right.f x 13 = some (rr x 13) := by
  unfold rr mac_right.f bits_RotateLeft32.f
  rw [if_pos (by decide +kernel), if_pos (by decide +kernel)]
  rfl
theorem right13 (x : Int) (w : World) : Calls Tryd.prog 59 #[.int .u32 x, .int .i64 13] w fun e w' => e = .returned (.int .u32 (rr x 13)) ∧ w' = w := right_same x 13 _ w (rs13 x)
theorem rs22 (x : Int) : mac_right.f x 22 = some (rr x 22) := by
  unfold rr mac_right.f bits_RotateLeft32.f
  rw [if_pos (by decide +kernel), if_pos (by decide +kernel)]
  rfl
theorem right22 (x : Int) (w : World) : Calls Tryd.prog 59 #[.int .u32 x, .int .i64 22] w fun e w' => e = .returned (.int .u32 (rr x 22)) ∧ w' = w := right_same x 22 _ w (rs22 x)
def nextW (v : List Int) (i : Nat) : Int := (rd v (i - 16 : Nat) + Go.bits .xor .u32 (Go.bits .xor .u32 (rr (rd v (i - 15 : Nat)) 7) (rr (rd v (i - 15 : Nat)) 18)) (rd v (i - 15 : Nat) / 8) + rd v (i - 7 : Nat) + Go.bits .xor .u32 (Go.bits .xor .u32 (rr (rd v (i - 2 : Nat)) 17) (rr (rd v (i - 2 : Nat)) 19)) (rd v (i - 2 : Nat) / 1024)) % 4294967296
def spB (ws : List Int) : Nat → List Int
  | 0 => ws
  | i + 1 => if i < 16 then ws else (spB ws i).set i (nextW (spB ws i) i)
theorem spB_16 (ws : List Int) : spB ws 16 = ws := rfl
theorem spB_len (ws : List Int) (h : ws.length = 64) : ∀ i, (spB ws i).length = 64
  | 0 => h
  | i + 1 => by
    unfold spB
    split
    · exact h
    · rw [List.length_set]; exact spB_len ws h i
/-- A row of words in a block. -/
def Arr (W : World) (g : Nat) (xs : List Int) : Prop := W.heap[g]? = some (.cells (nums .u32 xs).toArray 94 (0, 0))
theorem Arr.cell {W : World} {g : Nat} {xs : List Int} (h : Arr W g xs) (i : Nat) (hi : i < xs.length) : W.cell? ⟨g, i, none⟩ = some (.int .u32 (rd xs i)) := by
  rw [blk_cell h]
  simp [nums, rd, List.getElem?_eq_getElem hi, List.getD_eq_getElem?_getD]
theorem Arr.frozen {W : World} {g : Nat} {xs : List Int} (h : Arr W g xs) (i : Nat) : W.frozen? ⟨g, i, none⟩ = false := blk_frozen h i
theorem Arr.set {W : World} {g : Nat} {xs : List Int} (h : Arr W g xs) (i : Nat) (v : Int) : Arr (W.setCell ⟨g, i, none⟩ (.int .u32 v)) g (xs.set i v) := by
  have := blk_set h i (.int .u32 v)
  unfold Arr
  rw [this]
  simp [nums, List.map_set]

theorem sz64 : (Tryd.prog.info? 94).map (·.size) = some 64 := by kernel_rfl
theorem arr_size (xs : List Int) : (nums .u32 xs).toArray.size = xs.length := by simp [nums]
theorem arr_one (xs : List Int) : (nums .u32 xs).toArray.all (·.oneCell') = true := by simp [nums, Value.oneCell']
def spread (l : List Int) : List Int := spB (spA l 64) 64
theorem below_setRow {w W : World} {g : Nat} {cs : Array Value} (h : Below w.heap.size w W) (hg : w.heap.size ≤ g) : Below w.heap.size w (W.setRow g cs) :=
  ⟨h.os, h.tape, h.output, by simpa using h.size, fun i hi => (setRow_other W g i cs (by omega)).trans (h.block i hi)⟩
theorem two0 (w : World) (cs ds : Array Value) (xs : List Int) (h : cs = (nums .u32 xs).toArray) : Arr ((w.alloc (.cells cs 94)).alloc (.cells ds 94)) w.heap.size xs := by
  subst h; exact blk_alloc (by simpa using heap_alloc_new w _) _
theorem two1 (w : World) (cs ds : Array Value) (xs : List Int) (h : ds = (nums .u32 xs).toArray) : Arr ((w.alloc (.cells cs 94)).alloc (.cells ds 94)) (w.heap.size + 1) xs := by
  subst h
  have := heap_alloc_new (w.alloc (.cells cs 94)) (.cells (nums .u32 xs).toArray 94)
  unfold Arr
  rw [show (w.alloc (.cells cs 94)).heap.size = w.heap.size + 1 by simp] at this
  exact this

set_option maxHeartbeats 1000000 in
set_option maxRecDepth 100000 in
theorem spread_any (A0 : Option Addr) (c0 : Nat) (l0 : List Int) (w : World) (hr0 : Kd.C (Kd.int .u8) w A0 64 l0) :
    Calls Tryd.prog 58 #[.slice A0 64 c0] w fun e w' => e = .returned (.agg (nums .u32 (spread l0)).toArray) ∧ Below w.heap.size w w' := by
  have HR0 := Aside0.mk hr0
  clear hr0
  go_enter Tryd.func58, Tryd.ntmps58
  go_wp2_with fail
  generalize hW0 : World.alloc (w.alloc _) _ = W0
  have H0 : Arr W0 w.heap.size (List.replicate 64 0) := by rw [← hW0]; exact two0 w _ _ _ rfl
  have H1 : Arr W0 (w.heap.size + 1) (List.replicate 64 0) := by rw [← hW0]; exact two1 w _ _ _ rfl
  have HB : Below w.heap.size w W0 := by rw [← hW0]; exact below_alloc (below_alloc (Below.refl _ _) _) _
  clear hW0
  go_loopw [11] (fun v11 W => ∃ k : Nat, k ≤ 64 ∧ v11 = .int .i64 k ∧ Aside0 (Arr W (w.heap.size + 1) (spA l0 k)) ∧ Aside0 (Arr W w.heap.size (List.replicate 64 0)) ∧ Aside0 (Below w.heap.size w W)) (fun v11 _ => 64 - (intOf v11).toNat)
  case atStart => exact ⟨0, by omega, rfl, ⟨H1⟩, ⟨H0⟩, ⟨HB⟩⟩
  case round =>
    clear H0 H1 HB
    obtain ⟨k, hk, rfl, H1, H0, HB⟩ := hrel
    by_cases hlt : k < 64
    · obtain ⟨ad, e, hc⟩ := Kd.at_int (Kd.C_below HR0.out HB.out) k (by omega) (by omega)
      cases e
      rw [Int.toNat_natCast] at hc
      have hq : k / 4 < (spA l0 k).length := by rw [spA_len]; omega
      have c1 := H1.out.cell (k / 4) hq
      have f1 := H1.out.frozen (k / 4)
      clear hq
      go_wp2
      go_roundw
      case rel => exact ⟨k + 1, by omega, by go_num, ⟨H1.out.set _ _⟩, ⟨blk_far H0.out (by simp) _⟩, ⟨below_set HB.out (by omega)⟩⟩
      case measure => simp [intOf]; omega
    · obtain rfl : k = 64 := by omega
      rw [show ((64 : Nat) : Int) = 64 from rfl]
      have HS := Aside0.mk (spA_len l0 64)
      have H1' : Aside0 (Arr wr (w.heap.size + 1) (spB (spA l0 64) 16)) := by rw [spB_16]; exact H1
      clear H1
      generalize hws : spA l0 64 = ws at *
      have HWS := Aside0.mk hws
      clear hws
      go_wp2_with fail
      go_loopw [6] (fun v6 W => ∃ k : Nat, 16 ≤ k ∧ k ≤ 64 ∧ v6 = .int .i64 k ∧ Aside0 (Arr W (w.heap.size + 1) (spB ws k)) ∧ Aside0 (Arr W w.heap.size (List.replicate 64 0)) ∧ Aside0 (Below w.heap.size w W)) (fun v6 _ => 64 - (intOf v6).toNat)
      case atStart => exact ⟨16, by omega, by omega, rfl, H1', H0, HB⟩
      case round =>
        clear H1' H0 HB
        obtain ⟨k, hk0, hk, rfl, H1, H0, HB⟩ := hrel
        by_cases hlt : k < 64
        · have hl := spB_len ws HS.out k
          have c15 := H1.out.cell (k - 15) (by omega)
          have c2 := H1.out.cell (k - 2) (by omega)
          have c16 := H1.out.cell (k - 16) (by omega)
          have c7 := H1.out.cell (k - 7) (by omega)
          have f1 := H1.out.frozen k
          have c0' := H1.out.cell k (by omega)
          clear hl
          go_wp2
          have s15 : IntKind.i64.wrap ((k : Int) - 15) = (k : Int) - 15 := IntWalk.i64_in _ (by omega)
          have s2 : IntKind.i64.wrap ((k : Int) - 2) = (k : Int) - 2 := IntWalk.i64_in _ (by omega)
          have s16 : IntKind.i64.wrap ((k : Int) - 16) = (k : Int) - 16 := IntWalk.i64_in _ (by omega)
          have s7 : IntKind.i64.wrap ((k : Int) - 7) = (k : Int) - 7 := IntWalk.i64_in _ (by omega)
          have n15 : ((k : Int) - 15).toNat = k - 15 := by omega
          have n2 : ((k : Int) - 2).toNat = k - 2 := by omega
          have n16 : ((k : Int) - 16).toNat = k - 16 := by omega
          have n7 : ((k : Int) - 7).toNat = k - 7 := by omega
          have p15' : (15 : Int) ≤ (k : Int) := by omega
          have p2' : (2 : Int) ≤ (k : Int) := by omega
          have p16' : (16 : Int) ≤ (k : Int) := by omega
          have p7' : (7 : Int) ≤ (k : Int) := by omega
          have p15 : (0 : Int) ≤ (k : Int) - 15 := by omega
          have q15 : (k : Int) - 15 < 64 := by omega
          have p2 : (0 : Int) ≤ (k : Int) - 2 := by omega
          have q2 : (k : Int) - 2 < 64 := by omega
          have p16 : (0 : Int) ≤ (k : Int) - 16 := by omega
          have q16 : (k : Int) - 16 < 64 := by omega
          have p7 : (0 : Int) ≤ (k : Int) - 7 := by omega
          have q7 : (k : Int) - 7 < 64 := by omega
          go_quiet (fail)
          go_wp2
          refine wp_region_still_tail 29 (by kernel_rfl) (by kernel_rfl) ?_
          have H1q : Aside0 (Arr (World.drew (World.drewN wr nq)) (w.heap.size + 1) (spB ws k)) := H1
          have H0q : Aside0 (Arr (World.drew (World.drewN wr nq)) w.heap.size (List.replicate 64 0)) := H0
          have HBq : Aside0 (Below w.heap.size w (World.drew (World.drewN wr nq))) := ⟨below_drew (pw_below_drewN HB.out _)⟩
          change wpStill _ _ (World.drew (World.drewN wr nq)) (fun a' => wpList _ _ _ _ a' (World.drew (World.drewN wr nq))) _ _
          clear c15 c2 c16 c7 f1 c0' H1 H0 HB
          generalize World.drew (World.drewN wr nq) = wq at *
          have hl := spB_len ws HS.out k
          have c16 := H1q.out.cell (k - 16) (by omega)
          have c7 := H1q.out.cell (k - 7) (by omega)
          have f1 := H1q.out.frozen k
          have c0' := H1q.out.cell k (by omega)
          clear hl
          simp only [List.take_succ_cons, List.take_zero, List.drop_succ_cons, List.drop_zero]
          repeat still_step
          still_call (right7 _ _)
          repeat still_step
          still_call (right18 _ _)
          repeat still_step
          still_call (right17 _ _)
          repeat still_step
          still_call (right19 _ _)
          repeat still_step
          refine wpStill_nil ?_
          go_wp2
          go_roundw
          case rel =>
            have e : spB ws (k + 1) = (spB ws k).set k (nextW (spB ws k) k) := by rw [spB, if_neg (by omega)]
            exact ⟨k + 1, by omega, by omega, by go_num, ⟨by rw [e]; exact H1q.out.set k _⟩, ⟨blk_far H0q.out (by simp) _⟩, ⟨below_set HBq.out (by omega)⟩⟩
          case measure => simp [intOf]; omega
        · obtain rfl : k = 64 := by omega
          have HL := Aside0.mk (spB_len ws HS.out 64)
          generalize hus : spB ws 64 = us at *
          have HUS := Aside0.mk hus
          clear hus
          go_wp2_with (first | ((with_reducible refine gate_dst (N := 69) rfl ?_); refine wpList_load_row rfl 94 (.tmp 3) rfl (w.heap.size + 1) rfl 94 _ (0, 0) _ H1.out Tryd.underlying94 rfl (by rw [sz64, arr_size, HL.out]) ?_) | ((with_reducible refine gate_store (t := 94) (p := 2) (v := .tmp 69) rfl ?_); refine wpList_store_row rfl 94 (.tmp 2) (.tmp 69) rfl w.heap.size _ rfl rfl 94 _ H0.out (by rw [sz64, arr_size, HL.out]) (by rw [arr_size, arr_size, HL.out]; rfl) (arr_one _) ?_))
          (try simp only [Exit.inBlock, Exit.then])
          refine bodyPost_ret (v := .agg (nums .u32 us).toArray) (results_cell_row rfl _ _ w.heap.size 94 _ (0, 0) _ rfl (setRow_heap _ _ _ _ _ _ H0.out) Tryd.underlying94 rfl (by rw [sz64, arr_size, HL.out])) rfl ⟨?_, ?_⟩
          · unfold spread; rw [HWS.out, HUS.out]
          · exact below_setRow HB.out (Nat.le_refl _)
end Go.Proofs.YtpimhoaeiafahaaDoor.M1
