/- PktWindow: the plain law, and the walk as the row asks for it. -/
import Derived.Test.YtpimhoaeiafahaaDoorPx3
namespace Go.Proofs.YtpimhoaeiafahaaDoor.PW
open Go.RowKit Go.Proofs.YtpimhoaeiafahaaDoorW.PrintWords Go.Proofs.YtpimhoaeiafahaaDoorW.PrintLast Go.Proofs.YtpimhoaeiafahaaDoorW.PrintMore Go.Proofs.YtpimhoaeiafahaaDoor.M0 Go.Proofs.YtpimhoaeiafahaaDoor.P
set_option linter.unusedVariables false
set_option linter.unusedSimpArgs false

theorem first_more (k : Nat) : tiklaw25_first.f (200 + k) = some true := tiklaw25_first.up true k 200 tiklaw25_first.val
theorem step (k : Nat) (x0 : Int) (l : List Int) (i : Nat) (hi : i < l.length) (hl : l.length ≤ 300) :
    ∃ y, tiklaw25_PktWindow.l0 (k + 2) x0 l (i : Int) x0 = tiklaw25_PktWindow.l0 k y l ((i + 1 : Nat) : Int) y := by
  have h1 : (i : Int) < (l.length : Int) := by omega
  have h2 : (0 : Int) ≤ (i : Int) := by omega
  have hw : wrap64 ((i : Int) + 1) = ((i + 1 : Nat) : Int) := by unfold wrap64; omega
  generalize hn : rd l (i : Int) = n
  by_cases h : x0 < n
  · refine ⟨n, ?_⟩
    have hm : mx x0 n = n := if_pos h
    simp [tiklaw25_PktWindow.l0, tiklaw25_PktWindow.j1, pkt_Window_Fresh.f, pkt_Window_Take.f, pkt_Window_Last.f, h1, h2, hn, h, hm, hw]
  · refine ⟨x0, ?_⟩
    have hm : mx x0 n = x0 := if_neg h
    simp [tiklaw25_PktWindow.l0, tiklaw25_PktWindow.j1, pkt_Window_Fresh.f, pkt_Window_Take.f, pkt_Window_Last.f, h1, h2, hn, h, hm, hw]
theorem loop (l : List Int) (hl : l.length ≤ 300) : ∀ (m i : Nat) (x0 : Int), i + m = l.length → tiklaw25_PktWindow.l0 (201 + 2 * m) x0 l (i : Int) x0 = some true
  | 0, i, x0, h => by
    have h1 : ¬ (i : Int) < (l.length : Int) := by omega
    show tiklaw25_PktWindow.l0 (200 + 1) x0 l (i : Int) x0 = some true
    simp only [tiklaw25_PktWindow.l0, if_neg h1]
    rw [show tiklaw25_first.f 200 = some true from first_more 0]
    rfl
  | m + 1, i, x0, h => by
    obtain ⟨y, e⟩ := step (201 + 2 * m) x0 l i (by omega) hl
    rw [show 201 + 2 * (m + 1) = 201 + 2 * m + 2 by omega, e]
    exact loop l hl m (i + 1) y (by omega)
theorem pure (a0 : Int) (l : List Int) : ∃ k, tiklaw25_PktWindow.f k a0 l = some true := by
  refine ⟨201 + 2 * l.length, ?_⟩
  have hf : tiklaw25_first.f (201 + 2 * l.length) = some true := by rw [show 201 + 2 * l.length = 200 + (1 + 2 * l.length) by omega]; exact first_more _
  unfold tiklaw25_PktWindow.f
  rw [hf]
  by_cases h : (l.length : Int) > 300
  · simp [pkt_NewWindow.f, h]
  · simp only [Option.bind_some, if_true, pkt_NewWindow.f, if_neg h]
    exact loop l (by omega) l.length 0 a0 (by omega)
theorem walk (a0 : Int) (a1 : Option Addr) (len1 cap1 : Nat) (z1 : List Int) (w : World) (w1 : (a1 = none ∧ len1 = 0 ∧ cap1 = 0 ∧ z1 = []) ∨ ∃ x, a1 = some x ∧ len1 ≤ cap1 ∧ cap1 ≤ maxLen ∧ z1.length = cap1 ∧ (∀ i, i < z1.length → w.cell? (x.add i) = some (.int .u64 (z1.getD i 0))) ∧ ∀ n ∈ z1, (Lit.int .u64 n).wf = true) (hG : LaidG w) :
    Calls Tryd.prog 3 #[.int .u64 a0, .slice a1 len1 cap1] w fun e w' => e = .returned (.bool true) ∧ Below w.heap.size w w' := by
  obtain ⟨l1, rfl, hr1, hm1, hw1, hc1⟩ := ReadsInt.ofRowC w1
  obtain ⟨k, h⟩ := pure a0 l1
  refine (tiklaw25_PktWindow.calls k a0 _ _ l1 true w (Kd.C_of_reads (d := (0 : Int)) (h1 := fun _ => rfl) hr1) hc1 hG h).mono ?_
  rintro e w' ⟨rfl, hd⟩
  exact ⟨rfl, hd⟩
end Go.Proofs.YtpimhoaeiafahaaDoor.PW
