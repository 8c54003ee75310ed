/- The contract of bytes.Repeat at one byte and the count 64. -/
import Derived.Test.YtpimhoaeiafahaaDoorM3
import Derived.Lib.MakeNoZero
import Derived.Lib.SlBuf
import Derived.Deep.RegionLaw
import Derived.Laws.Externs
import Derived.WalkLawsBesides
namespace Go.Proofs.YtpimhoaeiafahaaDoor.M4
open Go.RowKit Go.Proofs.YtpimhoaeiafahaaDoorW.PrintWords Go.Proofs.YtpimhoaeiafahaaDoorW.PrintLast Go.Proofs.YtpimhoaeiafahaaDoorW.PrintMore Go.Proofs.YtpimhoaeiafahaaDoor.A Go.Proofs.YtpimhoaeiafahaaDoor.M0 Go.Proofs.YtpimhoaeiafahaaDoor.M1 Go.Proofs.YtpimhoaeiafahaaDoor.M2 Go.Proofs.YtpimhoaeiafahaaDoor.M3
set_option linter.unusedVariables false
set_option linter.unusedSimpArgs false

attribute [local go_sem] max2_int min2_int max_two min_two max_three min_three max_four min_four
theorem step_copy_run {P : Program} {ops : Array Oper} {o : Oper} {a : Act} {w : World} {K : Act → World → Prop} {Q : Exit → Act → World → Prop} {E : Prop} (hgd : o.guard = none) (d s : Operand) (t t' : TypeId)
    (ho : o.op = .call { callee := .builtin .copy, args := #[d, s], argTypes := #[t, t'] }) (v u : Value) (hd : a.eval d = v) (hs : a.eval s = u) {v' : Value} {w' : World}
    (hr : (Builtin.copy_ #[t, t'] o.type #[v, u]).run P w = .ok v' w') (h : K (a.put o.dst v') w') : if Region.wanted o (yielded ops a.tmps) = true then Oper.wp P o a w K Q else E := by
  have hw : Region.wanted o (yielded ops a.tmps) = true := by simp [Region.wanted, hgd]
  rw [if_pos hw]
  exact Lib.wp_copy_run w d s t t' ho v u hd hs hr h

/-- copy(nb[n:], nb[:n]) in a buffer that is filled up to n by one byte. -/
theorem copy_self {P : Program} (w0 wr : World) (h n : Nat) (x : UInt8) (t ty e : TypeId) (hu : P.underlying t = some (.slice e)) (hs : (P.info? e).map (·.size) = some 1)
    (hb : Lib.Buf w0 wr h 64 (List.replicate n x)) (hn1 : 1 ≤ n) (hn : n < 64) :
    ∃ wr', (Builtin.copy_ #[t, t] ty #[Lib.tailV h 64 n, .slice (some ⟨h, 0, none⟩) n 64]).run P wr = .ok (.int .i64 ((min n (64 - n) : Nat) : Int)) wr' ∧ Lib.Buf w0 wr' h 64 (List.replicate (n + min n (64 - n)) x) := by
  have hne : ¬ 64 = n := by omega
  obtain ⟨l, hl⟩ : ∃ l, l = List.replicate (min n (64 - n)) x := ⟨_, rfl⟩
  have hll : l.length = min n (64 - n) := by rw [hl, List.length_replicate]
  have hlx : ∀ j y, l[j]? = some y → y = x ∧ j < n := by
    intro j y hj
    have h1 := (List.getElem?_eq_some_iff.1 hj).1
    have h2 := (List.getElem?_eq_some_iff.1 hj).2
    subst hl
    rw [List.getElem_replicate] at h2
    exact ⟨h2.symm, by omega⟩
  have hr := run_copy_cells (P := P) wr t t ty e h n (64 - n) (64 - n) ⟨h, 0, none⟩ n 64 (l.map fun x => Value.int .u8 (x.toNat : Int)) hu hs (by rw [List.length_map, hll])
    (fun j u hj => by
      rw [List.getElem?_map] at hj
      obtain ⟨y, hy, rfl⟩ := Option.map_eq_some_iff.1 hj
      obtain ⟨rfl, hjn⟩ := hlx j y hy
      rw [add_plain]
      exact hb.holds j y (by rw [List.getElem?_replicate]; simp [hjn]))
    (fun j hj => by rw [List.length_map] at hj; exact hb.there _ (by omega)) (fun j hj => by rw [List.length_map] at hj; exact hb.free _ (by omega))
    (fun u hu' => by obtain ⟨x, _, rfl⟩ := List.mem_map.1 hu'; rfl)
  rw [List.length_map] at hr
  rw [show (goInt (l.length : Int)) = .int .i64 ((min n (64 - n) : Nat) : Int) by rw [hll]; rfl] at hr
  refine ⟨_, by unfold Lib.tailV; rw [if_neg hne]; exact hr, ?_⟩
  have hin := World.cell?_setCells_in h (l.map fun x => Value.int .u8 (x.toNat : Int)) n wr (fun j hj => by rw [List.length_map] at hj; exact hb.there _ (by omega))
  have hout := World.cell?_setCells_out h (l.map fun x => Value.int .u8 (x.toNat : Int)) n wr
  refine ⟨?_, ?_, ?_, ?_, by rw [List.length_replicate]; omega⟩
  · exact Lib.below_setCells h (Nat.le_refl _) _ _ hb.below
  · intro j hj
    by_cases h1 : n ≤ j ∧ j < n + l.length
    · obtain ⟨d, rfl⟩ : ∃ d, j = n + d := ⟨j - n, by omega⟩
      rw [hin d (by rw [List.length_map]; omega)]
      rfl
    · rw [hout ⟨h, j, none⟩ (fun _ _ => by rw [List.length_map]; show j < _ ∨ _ ≤ j; omega)]
      exact hb.there j hj
  · intro j hj
    rw [World.frozen?_setCells]
    exact hb.free j hj
  · intro j y hx
    have hjlt : j < n + min n (64 - n) := by have := (List.getElem?_eq_some_iff.1 hx).1; rwa [List.length_replicate] at this
    have hyx : y = x := by have := (List.getElem?_eq_some_iff.1 hx).2; rw [List.getElem_replicate] at this; exact this.symm
    subst hyx
    by_cases h1 : j < n
    · rw [hout ⟨h, j, none⟩ (fun _ _ => Or.inl h1)]
      exact hb.holds j y (by rw [List.getElem?_replicate]; simp [h1])
    · obtain ⟨d, rfl⟩ : ∃ d, j = n + d := ⟨j - n, by omega⟩
      have hd : d < l.length := by omega
      rw [hin d (by rw [List.length_map]; exact hd)]
      have := (hlx d l[d] (List.getElem?_eq_getElem hd)).1
      simp [List.getElem_map, this]

theorem size8 : ∀ w : World, (Go.sizeOf 5).run Tryd.prog w = .ok 1 w := fun w => by kernel_rfl
theorem Buf_drew {w W : World} {h N : Nat} {acc : List UInt8} (hb : Lib.Buf w W h N acc) : Lib.Buf w W.drew h N acc := ⟨hb.below.drew, hb.there, hb.free, hb.holds, hb.fits⟩

set_option maxHeartbeats 500000 in
theorem mul_1_64 (w : World) : Calls Tryd.prog 60 #[.int .u64 1, .int .u64 64] w fun e w' => e = .returned (.tuple #[.int .u64 0, .int .u64 64]) ∧ w = w' := by
  go_enter Tryd.func60, Tryd.ntmps60
  go_wp2
  go_ret2
  exact ⟨by kernel_rfl, rfl⟩
set_option maxHeartbeats 500000 in
set_option maxRecDepth 100000 in
theorem repeat64 (A0 : Option Addr) (c0 : Nat) (x : UInt8) (w : World) (hr0 : Kd.C (Kd.int .u8) w A0 1 [(x.toNat : Int)]) :
    Calls Tryd.prog 55 #[.slice A0 1 c0, .int .i64 64] w fun e w' => Lib.Buf w w' w.heap.size 64 (List.replicate 64 x) ∧ e = .returned (.slice (some ⟨w.heap.size, 0, none⟩) 64 64) := by
  have HR0 := Aside0.mk hr0
  clear hr0
  obtain ⟨cs, hrunM, hle, _⟩ := Lib.run_makeNoZero (P := Tryd.prog) w #[3] 32 5 Tryd.underlying32 64 (by omega)
  have hcall : (callFunc 56 #[.int .i64 64]).run Tryd.prog w = .ok (.value (.slice (some ⟨w.heap.size, 0, none⟩) 64 cs.size)) ((w.alloc (.cells cs 5)).drewN 2) := by
    rw [run_callFunc_extern Tryd.func56 (by kernel_rfl) (by kernel_rfl) (by kernel_rfl) (e := Extern.BytealgMakeNoZero.makeNoZero #[3] #[32]) (by kernel_rfl)]
    have h64 : ((64 : Nat) : Int) = 64 := rfl
    rw [h64] at hrunM
    rw [hrunM]
    rfl
  clear hrunM
  have B0 := Lib.Buf.start w cs 5 64 2 hle
  have HH : Lib.HoldsBytes w (.slice A0 1 c0) [x] := by
    obtain ⟨ad, e, hc⟩ := Kd.at_int HR0.out 0 (by omega) (by omega)
    subst e
    refine ⟨some ad, c0, rfl, fun e => (by cases e), fun a ea j y hj => ?_⟩
    cases ea
    cases j with
    | zero => simp at hj; subst hj; exact hc
    | succ j => simp at hj
  obtain ⟨w1, hr1, B1⟩ := Lib.copy_part (P := Tryd.prog) w _ w.heap.size 64 [] [x] (.slice A0 1 c0) 32 3 5 Tryd.underlying32 (by kernel_rfl) (Nat.le_refl _) B0 HH (by simp)
  rw [List.length_nil, Lib.tailV_zero] at hr1
  rw [List.nil_append] at B1
  have HB1 := Aside0.mk B1
  clear B0 B1 HH
  go_enter Tryd.func55, Tryd.ntmps55
  go_wp2_with (first | ((with_reducible refine gate_builtin (b := .copy) (xs := #[.tmp 58, .tmp 59]) rfl ?_); refine Lib.wpList_copy_run _ rfl _ _ 32 32 rfl _ _ rfl rfl hr1 ?_) | (go_at_call 60; refine (mul_1_64 _).mono ?_; rintro e w' ⟨rfl, rfl⟩) | go_in)
  clear hr1 hcall
  go_loopw [10] (fun v10 W => ∃ n : Nat, 1 ≤ n ∧ n ≤ 64 ∧ v10 = .int .i64 n ∧ Aside0 (Lib.Buf w W w.heap.size 64 (List.replicate n x))) (fun v10 _ => 64 - (intOf v10).toNat)
  case atStart => exact ⟨1, by omega, by omega, rfl, HB1⟩
  case round =>
    clear HB1
    obtain ⟨n, hn1, hn, rfl, HB⟩ := hrel
    by_cases hlt : n < 64
    · go_wp2
      have B1 := Buf_drew HB.out
      obtain ⟨w2, hr2, B2⟩ := copy_self (P := Tryd.prog) w wr.drew w.heap.size n x 32 3 5 Tryd.underlying32 (by kernel_rfl) B1 hn1 hlt
      have HB2 := Aside0.mk B2
      have hs1 : ∀ W : World, (Instr.slice 32 (.slice (some ⟨w.heap.size, 0, none⟩) 64 64) (some (.int .i64 (n : Int))) none none).run Tryd.prog W = .ok (Lib.tailV w.heap.size 64 n) W := fun W => Lib.run_slice_tailV W 32 5 Tryd.underlying32 size8 w.heap.size 64 n hn
      obtain ⟨i0, hi0, _, hsz, _⟩ := info_parts info8
      have hs2 := cut_to (P := Tryd.prog) 32 5 .i64 Tryd.underlying32 hi0 (some ⟨w.heap.size, 0, none⟩) 64 64 (n : Int) (by omega) (by omega) (by omega)
      clear B1 B2 HB hi0 hsz
      generalize htv : Lib.tailV w.heap.size 64 n = tv at *
      clear htv
      rw [Int.toNat_natCast] at hs2
      have hwr : IntKind.i64.wrap ((n : Int) + ((min n (64 - n) : Nat) : Int)) = ((n + min n (64 - n) : Nat) : Int) := (IntWalk.i64_in _ (by omega)).trans (by omega)
      go_region_law (refine step_copy_run rfl (.tmp 70) (.tmp 73) 32 32 rfl tv (.slice (some ⟨w.heap.size, 0, none⟩) n 64) (by go_simp) (by go_simp) hr2 ?_)
      clear hr2 hs1 hs2 hwr
      go_simp
      go_roundw
      case rel => exact ⟨_, _, _, _, _, _, _, _, _, _, _, _, _, _, _, _, _, ⟨n + min n (64 - n), by omega, by omega, by go_num, HB2⟩, rfl⟩
      case measure => simp [intOf]; omega
    · obtain rfl : n = 64 := by omega
      go_wp2
      go_ret
      exact ⟨HB.out, rfl⟩
end Go.Proofs.YtpimhoaeiafahaaDoor.M4
