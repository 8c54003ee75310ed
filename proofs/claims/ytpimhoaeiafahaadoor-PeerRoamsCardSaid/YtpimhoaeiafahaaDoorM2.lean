/- The contract of mac.mixed: a state of eight words into which a block of 64 bytes was mixed. -/
import Derived.Test.YtpimhoaeiafahaaDoorM1
namespace Go.Proofs.YtpimhoaeiafahaaDoor.M2
open Go.RowKit Go.Proofs.YtpimhoaeiafahaaDoorW.PrintWords Go.Proofs.YtpimhoaeiafahaaDoorW.PrintLast Go.Proofs.YtpimhoaeiafahaaDoorW.PrintMore Go.Proofs.YtpimhoaeiafahaaDoor.A Go.Proofs.YtpimhoaeiafahaaDoor.M0 Go.Proofs.YtpimhoaeiafahaaDoor.M1
set_option linter.unusedVariables false
set_option linter.unusedSimpArgs false

/-- Eight words in a block. -/
def Ar8 (W : World) (g : Nat) (xs : List Int) : Prop := W.heap[g]? = some (.cells (nums .u32 xs).toArray 89 (0, 0))
theorem Ar8.cell {W : World} {g : Nat} {xs : List Int} (h : Ar8 W g xs) (i : Nat) (hi : i < xs.length) : W.cell? ⟨g, i, none⟩ = some (.int .u32 (rd xs i)) := by
  rw [blk_cell h]
  simp [nums, rd, List.getElem?_eq_getElem hi, List.getD_eq_getElem?_getD]
theorem Ar8.frozen {W : World} {g : Nat} {xs : List Int} (h : Ar8 W g xs) (i : Nat) : W.frozen? ⟨g, i, none⟩ = false := blk_frozen h i
theorem Ar8.set {W : World} {g : Nat} {xs : List Int} (h : Ar8 W g xs) (i : Nat) (v : Int) : Ar8 (W.setCell ⟨g, i, none⟩ (.int .u32 v)) g (xs.set i v) := by
  have := blk_set h i (.int .u32 v)
  unfold Ar8
  rw [this]
  simp [nums, List.map_set]
theorem sz8 : (Tryd.prog.info? 89).map (·.size) = some 8 := by kernel_rfl
theorem below_row {w W : World} {g : Nat} {cs : Array Value} (h : Below w.heap.size w W) (hg : w.heap.size ≤ g) : Below w.heap.size w (W.setRow g cs) := below_setRow h hg
theorem Ar8.row {W : World} {g : Nat} {xs ys : List Int} (h : Ar8 W g xs) : Ar8 (W.setRow g (nums .u32 ys).toArray) g ys := setRow_heap _ _ _ _ _ _ h
theorem Ar8.row_far {W : World} {g g' : Nat} {xs : List Int} {cs : Array Value} (h : Ar8 W g xs) (hne : g ≠ g') : Ar8 (W.setRow g' cs) g xs := by unfold Ar8; rw [setRow_other W g' g cs hne]; exact h
theorem Ar8.far {W : World} {g : Nat} {xs : List Int} (h : Ar8 W g xs) {p : Addr} (hne : g ≠ p.block) (u : Value) : Ar8 (W.setCell p u) g xs := blk_far h hne u
theorem Ar8.below {w W : World} {g : Nat} {xs : List Int} (h : Ar8 w g xs) (hb : Below w.heap.size w W) : Ar8 W g xs := blk_below h hb
theorem Ar8.alloc {w : World} {g : Nat} {xs : List Int} (h : Ar8 w g xs) (o : Obj) : Ar8 (w.alloc o) g xs := blk_alloc h o
theorem Ar8.new (w : World) (xs : List Int) : Ar8 (w.alloc (.cells (nums .u32 xs).toArray 89)) w.heap.size xs := heap_alloc_new w _

theorem right_of (x k : Int) (w : World) (h : mac_right.f x k = some (rr x k)) : Calls Tryd.prog 59 #[.int .u32 x, .int .i64 k] w fun e w' => e = .returned (.int .u32 (rr x k)) ∧ w' = w := right_same x k _ w h
def one (v : List Int) (kk ww : Int) : Int := rd v 7 + Go.bits .xor .u32 (Go.bits .xor .u32 (rr (rd v 4) 6) (rr (rd v 4) 11)) (rr (rd v 4) 25) + Go.bits .xor .u32 (Go.bits .and .u32 (rd v 4) (rd v 5)) (Go.bits .and .u32 (Go.bits .xor .u32 IntKind.u32.max (rd v 4)) (rd v 6)) + kk + ww
def two (v : List Int) : Int := Go.bits .xor .u32 (Go.bits .xor .u32 (rr (rd v 0) 2) (rr (rd v 0) 13)) (rr (rd v 0) 22) + Go.bits .xor .u32 (Go.bits .xor .u32 (Go.bits .and .u32 (rd v 0) (rd v 1)) (Go.bits .and .u32 (rd v 0) (rd v 2))) (Go.bits .and .u32 (rd v 1) (rd v 2))
def step8 (v : List Int) (kk ww : Int) : List Int := [(one v kk ww + two v) % 4294967296, rd v 0, rd v 1, rd v 2, (rd v 3 + one v kk ww) % 4294967296, rd v 4, rd v 5, rd v 6]
def rnd (hs ws : List Int) : Nat → List Int
  | 0 => hs
  | k + 1 => step8 (rnd hs ws k) (rd K64 k) (rd ws k)
theorem rnd_len (hs ws : List Int) (h : hs.length = 8) : ∀ k, (rnd hs ws k).length = 8
  | 0 => h
  | k + 1 => rfl
def addF (hs us : List Int) : Nat → List Int
  | 0 => hs
  | j + 1 => (addF hs us j).set j ((rd (addF hs us j) j + rd us j) % 4294967296)
theorem addF_len (hs us : List Int) (h : hs.length = 8) : ∀ k, (addF hs us k).length = 8
  | 0 => h
  | k + 1 => by rw [addF, List.length_set]; exact addF_len hs us h k
def mixed (hs l : List Int) : List Int := addF hs (rnd hs (spread l) 64) 8
theorem mixed_len (hs l : List Int) (h : hs.length = 8) : (mixed hs l).length = 8 := addF_len _ _ h _
theorem spread_len (l : List Int) : (spread l).length = 64 := spB_len _ (spA_len _ _) _
theorem idx64 (ws : List Int) (h : ws.length = 64) (k : Nat) (W : World) (hk : k < 64) : (Instr.index 94 (.agg (nums .u32 ws).toArray) (.int .i64 (k : Int))).run Tryd.prog W = .ok (.int .u32 (rd ws k)) W := by
  have hz : (Tryd.prog.info? 83).map (·.size) = some 1 := by kernel_rfl
  cases hq : Tryd.prog.info? 83 with
  | none => simp [hq] at hz
  | some i =>
    have hs : i.size = 1 := by simpa [hq] using hz
    have hc : (nums .u32 ws)[k]? = some (.int .u32 (rd ws k)) := by
      have hk' : k < ws.length := by omega
      simp [nums, rd, List.getElem?_eq_getElem hk', List.getD_eq_getElem?_getD]
    have hag : (isAgg 83).run Tryd.prog W = .ok false W := by
      unfold isAgg
      rw [Sem.run_bind, run_underlying Tryd.underlying83 W]
      rfl
    simp [Instr.index, run_underlying Tryd.underlying94, asIntOf, go_sem, hk, sizeOf, typeInfo, hq, hs, part, hag, hc]
theorem size2 (w : World) (o p : Obj) (W : World) (h : (w.alloc o).alloc p = W) : W.heap.size = w.heap.size + 2 := by subst h; simp
theorem below2 (w : World) (o p : Obj) (W : World) (h : (w.alloc o).alloc p = W) : Below w.heap.size w W := by subst h; exact below_alloc (below_alloc (Below.refl _ _) _) _
theorem box8 (w : World) (cs ds : Array Value) (hs : List Int) (e : (nums .u32 hs).toArray = cs) (W : World) (h : (w.alloc (.cells (Value.agg cs).cells 89)).alloc (.cells ds 89) = W) : Ar8 W w.heap.size hs := by
  subst h; subst e; exact (Ar8.new w hs).alloc _
theorem new8 (w : World) (o : Obj) (W : World) (h : (w.alloc o).alloc (.cells #[.int .u32 0, .int .u32 0, .int .u32 0, .int .u32 0, .int .u32 0, .int .u32 0, .int .u32 0, .int .u32 0] 89) = W) : Ar8 W (w.heap.size + 1) (List.replicate 8 0) := by
  subst h
  have := Ar8.new (w.alloc o) (List.replicate 8 0)
  rw [show (w.alloc o).heap.size = w.heap.size + 1 by simp] at this
  exact this
theorem stored8 (w W1 : World) (hs : List Int) (W2 : World) {o : Obj} (h : ((W1.alloc o).setRow W1.heap.size (nums .u32 hs).toArray) = W2) (ho : o = .cells #[.int .u32 0, .int .u32 0, .int .u32 0, .int .u32 0, .int .u32 0, .int .u32 0, .int .u32 0, .int .u32 0] 89) (a2 : Ar8 W1 w.heap.size hs) (a4 : Ar8 W1 (w.heap.size + 1) (List.replicate 8 0)) (hb : Below w.heap.size w W1) (hz : W1.heap.size = w.heap.size + 2) :
    ∃ g5, W1.heap.size = g5 ∧ g5 = w.heap.size + 2 ∧ Aside0 (Ar8 W2 w.heap.size hs) ∧ Aside0 (Ar8 W2 (w.heap.size + 1) (List.replicate 8 0)) ∧ Aside0 (Ar8 W2 g5 hs) ∧ Aside0 (Below w.heap.size w W2) := by
  subst h; subst ho
  refine ⟨_, rfl, hz, ⟨?_⟩, ⟨?_⟩, ⟨?_⟩, ⟨?_⟩⟩
  · exact (a2.alloc _).row_far (by omega)
  · exact (a4.alloc _).row_far (by omega)
  · exact (Ar8.new W1 (List.replicate 8 0)).row
  · exact below_row (below_alloc hb _) (by omega)
set_option maxHeartbeats 2000000 in
set_option maxRecDepth 100000 in
theorem mixed_any (hs : List Int) (hl : hs.length = 8) (A0 : Option Addr) (c0 : Nat) (l0 : List Int) (w : World) (hr0 : Kd.C (Kd.int .u8) w A0 64 l0) (hG : LaidG w) :
    Calls Tryd.prog 54 #[.agg (nums .u32 hs).toArray, .slice A0 64 c0] w fun e w' => e = .returned (.agg (nums .u32 (mixed hs l0)).toArray) ∧ Below w.heap.size w w' := by
  have HR0 := Aside0.mk hr0
  have HG := Aside0.mk hG
  have HL := Aside0.mk hl
  clear hr0 hG hl
  generalize hcs : (nums .u32 hs).toArray = cs at *
  have HCS := Aside0.mk hcs
  clear hcs
  go_enter Tryd.func54, Tryd.ntmps54
  go_wp2_with (first | ((with_reducible refine gate_dst (N := 13) rfl ?_); generalize hW1 : World.alloc (World.alloc w _) _ = W1; have A2 := Aside0.mk (box8 w cs _ hs HCS.out W1 hW1); have A4 := Aside0.mk (new8 w _ W1 hW1); have HB := Aside0.mk (below2 w _ _ W1 hW1); have HZ := Aside0.mk (size2 w _ _ W1 hW1); clear hW1; refine wpList_load_row rfl 89 (.tmp 2) rfl w.heap.size rfl 89 (nums .u32 hs).toArray (0, 0) _ A2.out Tryd.underlying89 rfl (by rw [sz8]; simp [nums, HL.out]) ?_) | ((with_reducible refine gate_store (t := 89) (p := 5) (v := .tmp 13) rfl ?_); refine wpList_store_row rfl 89 (.tmp 5) (.tmp 13) rfl _ (nums .u32 hs).toArray rfl rfl 89 _ (heap_alloc_new _ _) (by rw [sz8]; simp [nums, HL.out]) (by simp [nums, HL.out]) (arr_one _) ?_; generalize hW2 : World.setRow (World.alloc _ _) _ _ = W2; obtain ⟨g5, h5, h5n, B2, B4, B5, HB2⟩ := stored8 w _ hs W2 hW2 rfl A2.out A4.out HB.out HZ.out; have H5N := Aside0.mk h5n; clear h5n; rw [h5]; clear hW2 h5 A2 A4 HB HZ) | fail)
  refine (spread_any A0 c0 l0 W2 (Kd.C_below HR0.out HB2.out)).mono ?_
  rintro e W3 ⟨rfl, hb3⟩
  have C2 := Aside0.mk (B2.out.below hb3)
  have C4 := Aside0.mk (B4.out.below hb3)
  have C5 := Aside0.mk (B5.out.below hb3)
  have HB3 := Aside0.mk (below_step HB2.out hb3)
  clear hb3 B2 B4 B5 HB2
  have HW := Aside0.mk (spread_len l0)
  generalize hws : spread l0 = ws at *
  have HWS := Aside0.mk hws
  clear hws
  have hix : ∀ (k : Nat) (W : World), k < 64 → (Instr.index 94 (.agg (nums .u32 ws).toArray) (.int .i64 (k : Int))).run Tryd.prog W = .ok (.int .u32 (rd ws k)) W := by
    intro k W hk
    exact idx64 ws HW.out k W hk
  have HIX := Aside0.mk hix
  clear hix
  go_wp2_with fail
  go_loopw [16] (fun v16 W => ∃ k : Nat, k ≤ 64 ∧ v16 = .int .i64 k ∧ Aside0 (Ar8 W w.heap.size hs) ∧ Aside0 (Ar8 W (w.heap.size + 1) (List.replicate 8 0)) ∧ Aside0 (Ar8 W g5 (rnd hs ws k)) ∧ Aside0 (Below w.heap.size w W)) (fun v16 _ => 64 - (intOf v16).toNat)
  case atStart => exact ⟨0, by omega, rfl, C2, C4, C5, HB3⟩
  case round =>
    clear C2 C4 C5 HB3
    obtain ⟨k, hk, rfl, C2, C4, C5, HB⟩ := hrel
    by_cases hlt : k < 64
    · have hx : ∀ W, (Instr.index 94 (.agg (nums .u32 ws).toArray) (.int .i64 (k : Int))).run Tryd.prog W = .ok (.int .u32 (rd ws k)) W := fun W => HIX.out k W hlt
      have hl8 := rnd_len hs ws HL.out k
      have c0' := C5.out.cell 0 (by omega)
      have c1 := C5.out.cell 1 (by omega)
      have c2 := C5.out.cell 2 (by omega)
      have c3 := C5.out.cell 3 (by omega)
      have c4 := C5.out.cell 4 (by omega)
      have c5 := C5.out.cell 5 (by omega)
      have c6 := C5.out.cell 6 (by omega)
      have c7 := C5.out.cell 7 (by omega)
      have cg := HG.out.below HB.out k hlt
      have HLK := Aside0.mk hl8
      clear hl8
      go_wp2
      go_quiet (fail)
      have C2q : Aside0 (Ar8 (World.drewN wr nq) w.heap.size hs) := C2
      have C4q : Aside0 (Ar8 (World.drewN wr nq) (w.heap.size + 1) (List.replicate 8 0)) := C4
      have C5q : Aside0 (Ar8 (World.drewN wr nq) g5 (rnd hs ws k)) := C5
      have HBq : Aside0 (Below w.heap.size w (World.drewN wr nq)) := ⟨pw_below_drewN HB.out _⟩
      clear c0' c1 c2 c3 c4 c5 c6 c7 cg C2 C4 C5 HB
      generalize World.drewN wr nq = wr1 at *
      clear nq
      have C2 := C2q
      have C4 := C4q
      have C5 := C5q
      have HB := HBq
      clear C2q C4q C5q HBq
      have hl8 := HLK.out
      have c0' := C5.out.cell 0 (by omega)
      have c1 := C5.out.cell 1 (by omega)
      have c2 := C5.out.cell 2 (by omega)
      have c3 := C5.out.cell 3 (by omega)
      have c4 := C5.out.cell 4 (by omega)
      have c5 := C5.out.cell 5 (by omega)
      have c6 := C5.out.cell 6 (by omega)
      have c7 := C5.out.cell 7 (by omega)
      have cg := HG.out.below HB.out k hlt
      clear hl8
      go_wp2
      go_quiet ((go_at_call 59; refine Calls.quiet_of_same (right_of _ _ _ ?_); first | with_reducible exact rs6 _ | with_reducible exact rs11 _ | with_reducible exact rs25 _))
      have C2q : Aside0 (Ar8 (World.drewN wr1 nq) w.heap.size hs) := C2
      have C4q : Aside0 (Ar8 (World.drewN wr1 nq) (w.heap.size + 1) (List.replicate 8 0)) := C4
      have C5q : Aside0 (Ar8 (World.drewN wr1 nq) g5 (rnd hs ws k)) := C5
      have HBq : Aside0 (Below w.heap.size w (World.drewN wr1 nq)) := ⟨pw_below_drewN HB.out _⟩
      clear c0' c1 c2 c3 c4 c5 c6 c7 cg C2 C4 C5 HB
      generalize World.drewN wr1 nq = wr2 at *
      clear nq
      have C2 := C2q
      have C4 := C4q
      have C5 := C5q
      have HB := HBq
      clear C2q C4q C5q HBq
      have hl8 := HLK.out
      have c0' := C5.out.cell 0 (by omega)
      have c1 := C5.out.cell 1 (by omega)
      have c2 := C5.out.cell 2 (by omega)
      have c3 := C5.out.cell 3 (by omega)
      have c4 := C5.out.cell 4 (by omega)
      have c5 := C5.out.cell 5 (by omega)
      have c6 := C5.out.cell 6 (by omega)
      have c7 := C5.out.cell 7 (by omega)
      have cg := HG.out.below HB.out k hlt
      clear hl8
      go_wp2
      go_quiet ((go_at_call 59; refine Calls.quiet_of_same (right_of _ _ _ ?_); first | with_reducible exact rs2 _ | with_reducible exact rs13 _ | with_reducible exact rs22 _))
      have C2q : Aside0 (Ar8 (World.drewN wr2 nq) w.heap.size hs) := C2
      have C4q : Aside0 (Ar8 (World.drewN wr2 nq) (w.heap.size + 1) (List.replicate 8 0)) := C4
      have C5q : Aside0 (Ar8 (World.drewN wr2 nq) g5 (rnd hs ws k)) := C5
      have HBq : Aside0 (Below w.heap.size w (World.drewN wr2 nq)) := ⟨pw_below_drewN HB.out _⟩
      clear c0' c1 c2 c3 c4 c5 c6 c7 cg C2 C4 C5 HB
      generalize World.drewN wr2 nq = wr3 at *
      clear nq
      have C2 := C2q
      have C4 := C4q
      have C5 := C5q
      have HB := HBq
      clear C2q C4q C5q HBq
      have hl8 := HLK.out
      have c0' := C5.out.cell 0 (by omega)
      have c1 := C5.out.cell 1 (by omega)
      have c2 := C5.out.cell 2 (by omega)
      have c3 := C5.out.cell 3 (by omega)
      have c4 := C5.out.cell 4 (by omega)
      have c5 := C5.out.cell 5 (by omega)
      have c6 := C5.out.cell 6 (by omega)
      have c7 := C5.out.cell 7 (by omega)
      have cg := HG.out.below HB.out k hlt
      clear hl8
      go_wp2_with (first | ((with_reducible refine gate_store (t := 89) (p := 5) (v := .tmp 95) rfl ?_); go_loud (refine wpList_store_row rfl 89 (.tmp 5) (.tmp 95) rfl g5 _ rfl rfl 89 _ C5.out ?si ?so ?s1 ?_); (case si => exact sz8.trans rfl); (case so => exact (arr_size _).trans HLK.out); (case s1 => first | rfl | (simp [Value.oneCell']; done))))
      go_roundw
      case rel => exact ⟨k + 1, by omega, by go_num, ⟨C2.out.row_far (by have := H5N.out; omega)⟩, ⟨C4.out.row_far (by have := H5N.out; omega)⟩, ⟨C5.out.row (ys := step8 (rnd hs ws k) (rd K64 k) (rd ws k))⟩, ⟨below_row HB.out (by have := H5N.out; omega)⟩⟩
      case measure => simp [intOf]; omega
    · obtain rfl : k = 64 := by omega
      rw [show ((64 : Nat) : Int) = 64 from rfl]
      have HU := Aside0.mk (rnd_len hs ws HL.out 64)
      generalize hus : rnd hs ws 64 = us at *
      have HUS := Aside0.mk hus
      clear hus HIX
      go_wp2_with fail
      go_loopw [97] (fun v97 W => ∃ j : Nat, j ≤ 8 ∧ v97 = .int .i64 j ∧ Aside0 (Ar8 W w.heap.size (addF hs us j)) ∧ Aside0 (Ar8 W (w.heap.size + 1) (List.replicate 8 0)) ∧ Aside0 (Ar8 W g5 us) ∧ Aside0 (Below w.heap.size w W)) (fun v97 _ => 8 - (intOf v97).toNat)
      case atStart => exact ⟨0, by omega, rfl, C2, C4, C5, HB⟩
      case round =>
        clear C2 C4 C5 HB
        obtain ⟨j, hj, rfl, C2, C4, C5, HB⟩ := hrel
        by_cases hlt : j < 8
        · go_wp2
          refine wp_region_still_tail 8 (by kernel_rfl) (by kernel_rfl) ?_
          have C2q : Aside0 (Ar8 (World.drew wr) w.heap.size (addF hs us j)) := C2
          have C4q : Aside0 (Ar8 (World.drew wr) (w.heap.size + 1) (List.replicate 8 0)) := C4
          have C5q : Aside0 (Ar8 (World.drew wr) g5 us) := C5
          have HBq : Aside0 (Below w.heap.size w (World.drew wr)) := ⟨below_drew HB.out⟩
          change wpStill _ _ (World.drew wr) (fun a' => wpList _ _ _ _ a' (World.drew wr)) _ _
          clear C2 C4 C5 HB
          generalize World.drew wr = wq at *
          have hl1 := addF_len hs us HL.out j
          have hl2 := HU.out
          have c2 := C2q.out.cell j (by omega)
          have f2 := C2q.out.frozen j
          have c5 := C5q.out.cell j (by omega)
          clear hl1 hl2
          simp only [List.take_succ_cons, List.take_zero, List.drop_succ_cons, List.drop_zero]
          repeat still_step
          refine wpStill_nil ?_
          go_wp2
          go_roundw
          case rel => exact ⟨j + 1, by omega, by go_num, ⟨C2q.out.set j _⟩, ⟨C4q.out.far (by simp) _⟩, ⟨C5q.out.far (by have := H5N.out; simp; omega) _⟩, ⟨below_set HBq.out (by omega)⟩⟩
          case measure => simp [intOf]; omega
        · obtain rfl : j = 8 := by omega
          have HL8 := Aside0.mk (addF_len hs us HL.out 8)
          generalize hout : addF hs us 8 = out at *
          have HO := Aside0.mk hout
          clear hout
          go_wp2_with (first | ((with_reducible refine gate_dst (N := 109) rfl ?_); refine wpList_load_row rfl 89 (.tmp 2) rfl w.heap.size rfl 89 _ (0, 0) _ C2.out Tryd.underlying89 rfl ?si ?_; (case si => rw [sz8, arr_size, HL8.out])) | ((with_reducible refine gate_store (t := 89) (p := 4) (v := .tmp 109) rfl ?_); refine wpList_store_row rfl 89 (.tmp 4) (.tmp 109) rfl (w.heap.size + 1) _ rfl rfl 89 _ C4.out ?si ?so (arr_one _) ?_; (case si => rw [sz8, arr_size, HL8.out]); (case so => rw [arr_size, arr_size, HL8.out]; rfl)))
          (try simp only [Exit.inBlock, Exit.then])
          refine bodyPost_ret (v := .agg (nums .u32 out).toArray) (results_cell_row rfl _ _ (w.heap.size + 1) 89 _ (0, 0) _ rfl (setRow_heap _ _ _ _ _ _ C4.out) Tryd.underlying89 rfl (by rw [sz8, arr_size, HL8.out])) rfl ⟨?_, ?_⟩
          · unfold mixed; rw [HWS.out, HUS.out, HO.out]
          · exact below_row HB.out (by omega)
end Go.Proofs.YtpimhoaeiafahaaDoor.M2
