/- What the rows of this seat share: the table of the rounds' numbers, and how arguments open. -/
import Derived.Test.YtpimhoaeiafahaaDoorRows
import Derived.Test.YtpimhoaeiafahaaDoorE1
import Derived.Test.YtpimhoaeiafahaaDoorWSized
import Derived.Lib.SmallJoins
import Derived.WalkKit
import Derived.ProofKit
import Derived.OpenShut
import Derived.ShutString
import Derived.ChangeOld
import Derived.Below
import Derived.SizedLaws
import Derived.LaidMore
import Derived.Stop.Joined
import Derived.SevenTiedAt
namespace Go.Proofs.YtpimhoaeiafahaaDoor.RK
open Go.ChangeShapes Go.WideShapes Go.ChangeAt Go.RowKit
open Go.Proofs.YtpimhoaeiafahaaDoorW Go.Proofs.YtpimhoaeiafahaaDoorW.PrintWords
open Go.Proofs.YtpimhoaeiafahaaDoor.M0
set_option linter.unusedVariables false
theorem own : ownKnob Tryd.prog.godebug = none := by kernel_rfl
theorem laidOut : laidOutB Tryd.prog = true := by kernel_rfl
theorem gR : Tryd.prog.globalNamed "tickertape/mac.rounds" = some 0 := by kernel_rfl
theorem tR : (Tryd.prog.globals[0]?).map (·.type) = some 94 := by kernel_rfl
def laid : List (String × DataW Unit) := [("tickertape/mac.rounds", Rows.laid_tickertape_mac_rounds)]
theorem door_met (os : Os) (args : Array Value) : laidMetH Tryd.prog laid ((World.doorLaid Tryd.prog 400 os).forCall (fun _ _ => 0) ⟨#[], args, []⟩).memory :=
  laidMetH_of_parts3 (fuel := 8) (laidMet_of_run' 8 (by kernel_rfl) (by kernel_rfl)) (by kernel_rfl) (by kernel_rfl)
set_option maxRecDepth 100000 in
theorem laid_K : (Rows.laid_tickertape_mac_rounds : DataW Unit) = .agg (K64.map fun n => .lit (.int .u32 n)) := rfl
theorem of_laid {W : World} (h : laidMetH Tryd.prog laid W) : LaidG W := by
  rw [MakeChecks.laidMetH_plain _ _ _ (by kernel_rfl)] at h
  obtain ⟨ps, ⟨g0, t0, cs0, f0, p0, q0, hg0, ht0, hv0, hd0, _⟩, _, _⟩ := h
  obtain rfl := Option.some.inj (gR.symm.trans hg0)
  obtain rfl := Option.some.inj (tR.symm.trans ht0)
  obtain ⟨xs, m1, hm, hx1, hlen, hn, hel⟩ := DataW.trod_array Tryd.underlying94 hd0
  have c1 : Tryd.prog.cellsOf 83 = 1 := by kernel_rfl
  rw [laid_K] at hx1
  simp only [Prod.mk.injEq, DataW.agg.injEq] at hx1
  intro i hi
  have h0 := hel i hi
  obtain ⟨x, hx⟩ : ∃ x, xs[i]? = some x := ⟨_, List.getElem?_eq_getElem (by omega)⟩
  rw [hx, c1, Nat.mul_one] at h0
  obtain ⟨k, e1, e2, _⟩ := DataW.trod_int Tryd.underlying83 h0
  have hk : K64.getD i 0 = k := by
    have h2 : (K64.map fun n => (DataW.lit (.int .u32 n) : DataW Unit))[i]? = (xs.map (·.1))[i]? := by rw [hx1.1]
    rw [List.getElem?_map, List.getElem?_map, hx, e2] at h2
    rw [List.getD_eq_getElem?_getD]
    cases h3 : K64[i]? with
    | none => rw [h3] at h2; simp at h2
    | some n => rw [h3] at h2; simpa using h2
  have h4 := World.var?_cell hg0 hv0 i
  have h5 : cs0[i]? = some (.int .u32 k) := by
    have h6 : ((cs0.toList.drop i).take 1)[0]? = some (.int .u32 k) := by rw [e1]; rfl
    simpa using h6
  rw [h5] at h4
  rw [h4]
  show _ = some (Value.int .u32 (K64.getD ((i : Int).toNat) 0))
  rw [Int.toNat_natCast, hk]
def IsRow (k : IntKind) (w : World) (a : Option Addr) (len cap : Nat) (zs : List Int) : Prop :=
  (a = none ∧ len = 0 ∧ cap = 0 ∧ zs = []) ∨
  ∃ x, a = some x ∧ len ≤ cap ∧ cap ≤ maxLen ∧ zs.length = cap ∧ (∀ i, i < zs.length → w.cell? (x.add i) = some (.int k (zs.getD i 0))) ∧ ∀ n ∈ zs, (Lit.int k n).wf = true
def IsRow8 (W : World) (A : Option Addr) (len cap : Nat) : Prop := ∃ l : List Int, len = l.length ∧ Kd.C (Kd.int .u8) W A l.length l ∧ l.length ≤ cap ∧ E1.By l
theorem row_C {w : World} {a : Option Addr} {len cap : Nat} {zs : List Int} (h : IsRow .u8 w a len cap zs) : ∃ l : List Int, len = l.length ∧ Kd.C (Kd.int .u8) w a l.length l ∧ l.length ≤ cap ∧ E1.By l := by
  obtain ⟨l1, e, hr1, hm1, hw1, hc1⟩ := ReadsInt.ofRowC h
  subst e
  exact ⟨l1, rfl, Kd.C_of_reads (d := (0 : Int)) (h1 := fun _ => rfl) hr1, hc1, fun x hx => by have h_ : IntKind.u8.min ≤ x ∧ x ≤ IntKind.u8.max := (by simpa [Lit.wf] using hw1 x hx); rw [show IntKind.u8.min = 0 from rfl, show IntKind.u8.max = 255 from rfl] at h_; omega⟩
theorem cells_pkt : Tryd.prog.cellsOf 34 = 4 := by kernel_rfl
theorem row_of {H : Type} {enc : TypeId × Value → H} {W : World} {fuel : Nat} {A : Option Addr} {len cap : Nat} {x : DataW H × List MemPlace} (hf : DataW.trod enc Tryd.prog W 0 (fun _ => true) true fuel 32 [.slice A len cap] = some x) : IsRow8 W A len cap := by
  rcases open_ints Tryd.underlying32 Tryd.underlying5 (by kernel_rfl) hf with ⟨hcs, _⟩ | ⟨x, l, c, zs, hcs, _, hl, hm, hz, _, hcell, hwz⟩
  · simp at hcs
    obtain ⟨rfl, rfl, rfl⟩ := hcs
    exact row_C (.inl ⟨rfl, rfl, rfl, rfl⟩ : IsRow .u8 W none 0 0 [])
  · simp at hcs
    obtain ⟨rfl, rfl, rfl⟩ := hcs
    exact row_C (zs := zs) (.inr ⟨_, rfl, hl, hm, by simpa using hz, hcell, hwz⟩)
theorem arg_row {H : Type} {enc : TypeId × Value → H} {W : World} {b0 : Nat} {v : Value} {d : DataW H} {p : List MemPlace} (hv : Value.okWide Tryd.prog W .any b0 32 v) (h : DataW.Trod enc Tryd.prog W 0 (fun _ => true) true 32 v d p) :
    ∃ A c, ∃ l : List Int, v = .slice A l.length c ∧ Kd.C (Kd.int .u8) W A l.length l ∧ l.length ≤ c ∧ E1.By l := by
  obtain ⟨A, len, c, rfl⟩ := okWide_slice Tryd.underlying32 hv
  obtain ⟨fuel, hf⟩ := h
  obtain ⟨l, rfl, hr, hc, hb⟩ := row_of hf
  exact ⟨A, c, l, rfl, hr, hc, hb⟩
theorem arg_pkt {H : Type} {enc : TypeId × Value → H} {W : World} {b0 : Nat} {v : Value} {d : DataW H} {p : List MemPlace} (hv : Value.okWide Tryd.prog W .any b0 34 v) (h : DataW.Trod enc Tryd.prog W 0 (fun _ => true) true 34 v d p) :
    ∃ x0 x1 x2 A c, ∃ l : List Int, v = .agg #[.int .i64 x0, .int .i64 x1, .int .u64 x2, .slice A l.length c] ∧ Kd.C (Kd.int .u8) W A l.length l ∧ l.length ≤ c ∧ E1.By l := by
  obtain ⟨c0, c1, c2, c3, y0, y1, y2, y3, m, rfl, rfl, rfl, hy0, hy1, hy2, hy3⟩ := Go.Joins.open_agg4 Tryd.underlying34 (by kernel_rfl) cells_pkt hv h
  obtain ⟨x0, e0, _, _⟩ := DataW.trod_int Tryd.underlying3 hy0
  obtain ⟨x1, e1, _, _⟩ := DataW.trod_int Tryd.underlying3 hy1
  obtain ⟨x2, e2, _, _⟩ := DataW.trod_int Tryd.underlying22 hy2
  obtain ⟨A, len, c, e3⟩ := Go.Joins.slice_form Tryd.underlying32 hy3
  simp at e0 e1 e2 e3
  subst e0 e1 e2 e3
  obtain ⟨l, rfl, hr, hc, hb⟩ := row_of hy3
  exact ⟨x0, x1, x2, A, c, l, rfl, hr, hc, hb⟩
theorem ints_of {H : Type} {enc : TypeId × Value → H} {W : World} {fuel : Nat} {A : Option Addr} {len cap : Nat} {x : DataW H × List MemPlace} (hf : DataW.trod enc Tryd.prog W 0 (fun _ => true) true fuel 72 [.slice A len cap] = some x) : ∃ l : List Int, len = l.length ∧ Kd.C (Kd.int .i64) W A l.length l ∧ l.length ≤ cap := by
  have go : ∀ zs, IsRow .i64 W A len cap zs → ∃ l : List Int, len = l.length ∧ Kd.C (Kd.int .i64) W A l.length l ∧ l.length ≤ cap := fun zs h => by
    obtain ⟨l1, e, hr1, hm1, hw1, hc1⟩ := ReadsInt.ofRowC h
    subst e
    exact ⟨l1, rfl, Kd.C_of_reads (d := (0 : Int)) (h1 := fun _ => rfl) hr1, hc1⟩
  rcases open_ints Tryd.underlying72 Tryd.underlying3 (by kernel_rfl) hf with ⟨hcs, _⟩ | ⟨x, l, c, zs, hcs, _, hl, hm, hz, _, hcell, hwz⟩
  · simp at hcs
    obtain ⟨rfl, rfl, rfl⟩ := hcs
    exact go [] (.inl ⟨rfl, rfl, rfl, rfl⟩)
  · simp at hcs
    obtain ⟨rfl, rfl, rfl⟩ := hcs
    exact go zs (.inr ⟨_, rfl, hl, hm, by simpa using hz, hcell, hwz⟩)
theorem arg_ints {H : Type} {enc : TypeId × Value → H} {W : World} {b0 : Nat} {v : Value} {d : DataW H} {p : List MemPlace} (hv : Value.okWide Tryd.prog W .any b0 72 v) (h : DataW.Trod enc Tryd.prog W 0 (fun _ => true) true 72 v d p) :
    ∃ A c, ∃ l : List Int, v = .slice A l.length c ∧ Kd.C (Kd.int .i64) W A l.length l ∧ l.length ≤ c ∧ True := by
  obtain ⟨A, len, c, rfl⟩ := okWide_slice Tryd.underlying72 hv
  obtain ⟨fuel, hf⟩ := h
  obtain ⟨l, rfl, hr, hc⟩ := ints_of hf
  exact ⟨A, c, l, rfl, hr, hc, trivial⟩
end Go.Proofs.YtpimhoaeiafahaaDoor.RK
