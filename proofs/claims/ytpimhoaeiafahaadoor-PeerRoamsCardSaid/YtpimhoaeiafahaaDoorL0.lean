/- A row of bytes out of a string constant: the call's own, marked by the run-time, only read. -/
import Derived.Test.YtpimhoaeiafahaaDoorM8
import Derived.Lib.SmallJoins
namespace Go.Proofs.YtpimhoaeiafahaaDoor.L0
open Go.RowKit Go.Proofs.YtpimhoaeiafahaaDoorW.PrintWords Go.Proofs.YtpimhoaeiafahaaDoorW.PrintLast Go.Proofs.YtpimhoaeiafahaaDoorW.PrintMore
set_option linter.unusedVariables false
set_option linter.unusedSimpArgs false

theorem convert_at {P : Program} (w : World) (t e : TypeId) (C : Array Value) (n c g : Nat) (hg : g = w.heap.size) (ht : P.underlying t = some (.slice e)) (he : P.underlying e = some (.int .u8)) :
    (convert t t (.slice (some ⟨g, 0, none⟩) n c)).run P (w.alloc (.cells C e)) = .ok (.slice (some ⟨g, 0, none⟩) n c) (w.alloc (.cells C e (C.size, C.size + 1))) := by
  subst hg; exact Lib.run_convert_bytes_const w t e C n c ht he

/-- A row that is only read: what it hangs on is its own block. -/
def L {α : Type} (d : Kd α) (e : Nat) (w : World) (base : Nat) (ok : Nat → Prop) (v : Value) (xs : List α) : Prop :=
  Kd.V d e w base (fun k => some k = v.ownBlock) v xs ∧ ∀ k, v.ownBlock = some k → ok k ∧ base ≤ k ∧ ∃ cells fr, w.heap[k]? = some (.cells cells e fr)
section
variable {α : Type} {d : Kd α} {e base base' : Nat} {ok ok' : Nat → Prop} {w W w1 : World} {u v : Value} {xs : List α}
theorem L_mono (h : L d e w base ok v xs) (hok : ∀ k, ok k → ok' k) : L d e w base ok' v xs := ⟨h.1, fun k hk => ⟨hok k (h.2 k hk).1, (h.2 k hk).2⟩⟩
theorem L_lt (h : L d e w base ok v xs) : ∀ k, v.ownBlock = some k → k < w.heap.size := fun k hk => by
  obtain ⟨_, _, cells, fr, hc⟩ := h.2 k hk
  exact blk_lt hc
theorem L_base (h : L d e w base ok v xs) : ∀ k, v.ownBlock = some k → base ≤ k := fun k hk => (h.2 k hk).2.1
theorem L_step (h : L d e w base ok v xs) (hm : ∀ k, ok k → k < w.heap.size → w1.heap[k]? = w.heap[k]?) : L d e w1 base ok v xs :=
  ⟨Kd.V_step h.1 (fun k hk hlt => hm k (h.2 k hk.symm).1 hlt), fun k hk => ⟨(h.2 k hk).1, (h.2 k hk).2.1, by
    obtain ⟨cells, fr, hc⟩ := (h.2 k hk).2.2
    exact ⟨cells, fr, (hm k (h.2 k hk).1 (blk_lt hc)).trans hc⟩⟩⟩
theorem L_below (h : L d e w base ok v xs) (hb : Below w.heap.size w w1) : L d e w1 base ok v xs := L_step h (fun k _ hk => hb.block k hk)
theorem L_alloc (h : L d e w base ok v xs) (o : Obj) : L d e (w.alloc o) base ok v xs := L_below h (below_alloc (Below.refl _ _) o)
theorem L_drew (h : L d e w base ok v xs) : L d e w.drew base ok v xs := L_below h (below_drew (Below.refl _ _))
theorem L_drewN (h : L d e w base ok v xs) (m : Nat) : L d e (w.drewN m) base ok v xs := L_below h (pw_below_drewN (Below.refl _ _) m)
theorem L_far (h : L d e w base ok v xs) {p : Addr} (hok : ∀ k, ok k → k ≠ p.block) (u : Value) : L d e (w.setCell p u) base ok v xs := L_step h (fun k ho _ => Below.heap_setCell w p u k (hok k ho))
theorem L_keep (h : L d e w base ok v xs) {g : Nat} (hk : KeepBut w w1 g none) (hok : ∀ k, ok k → k ≠ g) : L d e w1 base ok v xs := L_step h (fun k ho hlt => hk.2 k hlt (hok k ho) (by simp))
theorem L_types (h : L d e w base ok v xs) {g t : Nat} {cells : Array Value} (hb : w.heap[g]? = some (.cells cells t (0, 0))) (ht : ∀ q, q ∈ e :: d.E → q ≠ t) : L d e w base (fun k => ok k ∧ k ≠ g) v xs :=
  ⟨h.1, fun k hk => ⟨⟨(h.2 k hk).1, by
    rintro rfl
    obtain ⟨cells', fr, hc⟩ := (h.2 k hk).2.2
    rw [hb] at hc
    injection hc with hc
    injection hc with h1 h2 h3
    exact ht e (by simp) h2.symm⟩, (h.2 k hk).2⟩⟩
theorem L_tight (hE : d.E = []) (h : L d e w base ok v xs) : L d e w base (fun k => some k = v.ownBlock) v xs := ⟨h.1, fun k hk => ⟨hk.symm, (h.2 k hk).2⟩⟩
theorem L_lower (h : L d e w base ok v xs) (hb : base' ≤ base) : L d e w base' ok v xs := ⟨Kd.V_lower h.1 hb, fun k hk => ⟨(h.2 k hk).1, Nat.le_trans hb (h.2 k hk).2.1, (h.2 k hk).2.2⟩⟩
theorem L_elder' (hu : L d e W base ok u xs) (hbase : ∀ k, v.ownBlock = some k → W.heap.size ≤ k) (hb : Below W.heap.size W w1) : L d e w1 base (fun k => ok k ∧ some k ≠ v.ownBlock) u xs :=
  L_step (ok := fun k => ok k ∧ some k ≠ v.ownBlock) ⟨hu.1, fun k hk => ⟨⟨(hu.2 k hk).1, fun he => by have := hbase k he.symm; have := L_lt hu k hk; omega⟩, (hu.2 k hk).2⟩⟩ (fun k _ hk => hb.block k hk)
theorem L_new' (h : L d e w1 W.heap.size ok v xs) (hlt : ∀ k, u.ownBlock = some k → k < W.heap.size) : L d e w1 W.heap.size (fun k => ok k ∧ some k ≠ u.ownBlock) v xs :=
  ⟨h.1, fun k hk => ⟨⟨(h.2 k hk).1, fun he => by have := hlt k he.symm; have := (h.2 k hk).2.1; omega⟩, (h.2 k hk).2⟩⟩
theorem L_reads' {A : Option Addr} {n c : Nat} (h : L d e w base ok (.slice A n c) xs) : n = xs.length ∧ n ≤ c ∧ d.C w A xs.length xs := Kd.V_reads' h.1
theorem L_slice (h : L d e w base ok v xs) : ∃ A c, v = .slice A xs.length c := Kd.V_slice h.1
end
theorem one_byte (w : World) (g : Nat) (c : Int) (e : Nat) (fr : Nat × Nat) (h : w.heap[g]? = some (.cells #[.int .u8 c] e fr)) : Kd.C (Kd.int .u8) w (some ⟨g, 0, none⟩) 1 [c] := by
  refine ⟨rfl, by decide, fun _ => ⟨_, rfl, fun j p hj => ?_⟩⟩
  match j, hj with
  | 0, hj =>
    obtain rfl : c = p := by simpa using hj
    refine ⟨[.int .u8 c], rfl, rfl, fun i x hi => ?_⟩
    match i, hi with
    | 0, hi =>
      obtain rfl : Value.int .u8 c = x := by simpa using hi
      show w.cell? ⟨g, 0, none⟩ = _
      simp [World.cell?, h]
    | i + 1, hi => simp at hi
  | j + 1, hj => simp at hj
/-- The literal of one byte and its conversion. -/
theorem L_lit {P : Program} {ops : Array Oper} {o1 o2 : Oper} {rest : List Oper} {a : Act} {Q : Exit → Act → World → Prop} {W : World} (e t : Nat) (hg1 : o1.guard = none) (hg2 : o2.guard = none) {N M : Tmp} (hd1 : o1.dst = some N) (hd2 : o2.dst = some M) (c : Int)
    (hrun : (execOp a.eval o1).run P W = .ok (.value (.slice (some ⟨W.heap.size, 0, none⟩) 1 1)) (W.alloc (.cells #[.int .u8 c] e)))
    (ho2 : o2.op = .convert t t (.tmp N)) (ht : P.underlying t = some (.slice e)) (he : P.underlying e = some (.int .u8)) (hN : N < a.tmps.size)
    (h : ∀ v1 w1, L (Kd.int .u8) e w1 W.heap.size (fun _ => True) v1 [c] → Below W.heap.size W w1 → wpList P ops Q rest ((a.put (some N) v1).put (some M) v1) w1) : wpList P ops Q (o1 :: o2 :: rest) a W := by
  refine Kd.event_run hg1 hrun ?_
  rw [hd1]
  refine Kd.event_run (v := .slice (some ⟨W.heap.size, 0, none⟩) 1 1) (W := W.alloc (.cells #[.int .u8 c] e)) (w1 := W.alloc (.cells #[.int .u8 c] e (1, 2))) hg2 ?_ ?_
  · have h1 := convert_at (P := P) W t e #[.int .u8 c] 1 1 W.heap.size rfl ht he
    simp [execOp, ho2, hN, go_sem, h1]
  · rw [hd2]
    have hblk : (W.alloc (.cells #[.int .u8 c] e (1, 2))).heap[W.heap.size]? = some (.cells #[.int .u8 c] e (1, 2)) := heap_alloc_new W _
    refine h (.slice (some ⟨W.heap.size, 0, none⟩) 1 1) (W.alloc (.cells #[.int .u8 c] e (1, 2))) ⟨⟨_, _, rfl, Nat.le_refl _, fun W' hW => ?_⟩, fun k hk => ?_⟩ (below_alloc (Below.refl _ _) _)
    · exact one_byte W' W.heap.size c e (1, 2) ((hW W.heap.size rfl (blk_lt hblk)).trans hblk)
    · have : W.heap.size = k := by simpa [Value.ownBlock] using hk
      subst this
      exact ⟨trivial, Nat.le_refl _, _, _, hblk⟩
end Go.Proofs.YtpimhoaeiafahaaDoor.L0
