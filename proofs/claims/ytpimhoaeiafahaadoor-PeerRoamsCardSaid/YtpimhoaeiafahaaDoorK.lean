/- Theorems whose premise is settled by a tactic where they are used: for texts in fewer bytes. -/
import Derived.Test.YtpimhoaeiafahaaDoorWAll
namespace Go.Proofs.YtpimhoaeiafahaaDoor.Sq
open Go Go.RowKit Go.Proofs.YtpimhoaeiafahaaDoorW.PrintWords Go.Proofs.YtpimhoaeiafahaaDoorW.PrintLast Go.Proofs.YtpimhoaeiafahaaDoorW.PrintMore
theorem kR {q p : Prop} (h : q) (t : q → p := by intro h_; (with_reducible repeat (first | apply Kd.R_alloc | apply Kd.R_drewN | apply Kd.R_drew)); exact h_) : p := t h
theorem kV {q p : Prop} (h : q) (t : q → p := by intro h_; (with_reducible repeat (first | apply Kd.V_alloc | apply Kd.V_drewN | apply Kd.V_drew)); exact h_) : p := t h
theorem kN {q p : Prop} (h : q) (t : q → p := by intro h_; (with_reducible repeat (first | apply Kd.N_alloc | apply Kd.N_drewN | apply Kd.N_drew)); exact h_) : p := t h
theorem kQ {q p : Prop} (h : q) (t : q → p := by intro h_; (with_reducible repeat (first | apply Kd.Q_alloc | apply Kd.Q_drewN | apply Kd.Q_drew)); exact h_) : p := t h
theorem kB {q p : Prop} (h : q) (t : q → p := by intro h_; (with_reducible repeat (first | refine blk_drewN ?_ _ | refine blk_drew ?_ | refine blk_alloc ?_ _)); exact h_) : p := t h
theorem kH {p : Prop} (t : p := by repeat (first | (with_reducible first | exact HB.out | apply below_alloc | apply pw_below_drewN | apply below_drew1) | exact HB.out)) : p := t
theorem kH1 {a p : Prop} (g : a) (t : a → p := by intro g_; repeat (first | (with_reducible first | exact HB.out | apply below_alloc | apply pw_below_drewN | apply below_drew1 | refine below_set ?_ g_) | exact HB.out)) : p := t g
theorem kH2 {a b p : Prop} (g : a) (g' : b) (t : a → b → p := by intro g_ g1_; repeat (first | (with_reducible first | exact HB.out | apply below_alloc | apply pw_below_drewN | apply below_drew1 | refine below_set ?_ g_ | refine below_set ?_ g1_) | exact HB.out)) : p := t g g'
theorem kH3 {a b c p : Prop} (g : a) (g' : b) (g'' : c) (t : a → b → c → p := by intro g_ g1_ g2_; repeat (first | (with_reducible first | exact HB.out | apply below_alloc | apply pw_below_drewN | apply below_drew1 | refine below_set ?_ g_ | refine below_set ?_ g1_ | refine below_set ?_ g2_) | exact HB.out)) : p := t g g' g''
theorem kH4 {a b c d p : Prop} (g : a) (g' : b) (g'' : c) (g3 : d) (t : a → b → c → d → p := by intro g_ g1_ g2_ g3_; repeat (first | (with_reducible first | exact HB.out | apply below_alloc | apply pw_below_drewN | apply below_drew1 | refine below_set ?_ g_ | refine below_set ?_ g1_ | refine below_set ?_ g2_ | refine below_set ?_ g3_) | exact HB.out)) : p := t g g' g'' g3
theorem kr {p : Prop} (t : p := by first | (go_simp; done) | (go_simp; rfl) | (go_simp; simp [IntKind.wrap_u32, show IntKind.u32.max = 4294967295 from rfl]; done)) : p := t
theorem ka {p : Prop} (t : p := by (try simp only [List.map_toArray, List.map_cons, List.map_nil]); first | done | rfl | (simp only [List.length_drop, List.length_take]; rfl)) : p := t
theorem kw {p : Prop} (t : p := by first | (with_reducible assumption) | assumption) : p := t
theorem kp {p : Prop} (t : p := by simp only [Act.put, List.setIfInBounds_toArray, List.set_cons_zero, List.set_cons_succ, i64_w, i32_w]; rfl) : p := t
theorem kv {p : Prop} (t : p := by intro w'; go_simp; with_reducible rfl) : p := t
end Go.Proofs.YtpimhoaeiafahaaDoor.Sq
