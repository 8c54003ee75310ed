/- The contract of pkt.Seal. -/
import Derived.Test.YtpimhoaeiafahaaDoorBx1
namespace Go.Proofs.YtpimhoaeiafahaaDoor.M8
open Go.RowKit Go.Proofs.YtpimhoaeiafahaaDoorW.PrintWords Go.Proofs.YtpimhoaeiafahaaDoorW.PrintLast Go.Proofs.YtpimhoaeiafahaaDoorW.PrintMore Go.Proofs.YtpimhoaeiafahaaDoor.M0 Go.Proofs.YtpimhoaeiafahaaDoor.M6 Go.Proofs.YtpimhoaeiafahaaDoor.M7 Go.Proofs.YtpimhoaeiafahaaDoor.B
set_option linter.unusedVariables false
set_option linter.unusedSimpArgs false

/-- The packet as the call's own variable. -/
def PBox (W : World) (g : Nat) (d v n : Int) (A : Option Addr) (m c : Nat) : Prop := W.heap[g]? = some (.cells #[.int .i64 d, .int .i64 v, .int .u64 n, .slice A m c] 34 (0, 0))
theorem PBox.below {w W : World} {g : Nat} {d v n : Int} {A : Option Addr} {m c : Nat} (h : PBox w g d v n A m c) (hb : Below w.heap.size w W) : PBox W g d v n A m c := blk_below h hb
theorem PBox.c0 {W : World} {g : Nat} {d v n : Int} {A : Option Addr} {m c : Nat} (h : PBox W g d v n A m c) : W.cell? ⟨g, 0, none⟩ = some (.int .i64 d) := (blk_cell h 0).trans rfl
theorem PBox.c1 {W : World} {g : Nat} {d v n : Int} {A : Option Addr} {m c : Nat} (h : PBox W g d v n A m c) : W.cell? ⟨g, 1, none⟩ = some (.int .i64 v) := (blk_cell h 1).trans rfl
theorem PBox.c2 {W : World} {g : Nat} {d v n : Int} {A : Option Addr} {m c : Nat} (h : PBox W g d v n A m c) : W.cell? ⟨g, 2, none⟩ = some (.int .u64 n) := (blk_cell h 2).trans rfl
theorem PBox.c3 {W : World} {g : Nat} {d v n : Int} {A : Option Addr} {m c : Nat} (h : PBox W g d v n A m c) : W.cell? ⟨g, 3, none⟩ = some (.slice A m c) := (blk_cell h 3).trans rfl
def headB (d v n : Int) : Nat → List Int
  | 0 => [d % 256, v % 256]
  | j + 1 => headB d v n j ++ [n / 2 ^ (56 - 8 * j) % 256]
theorem headB_len (d v n : Int) : ∀ j, (headB d v n j).length = 2 + j
  | 0 => rfl
  | j + 1 => by rw [headB, List.length_append, headB_len d v n j]; simp; omega

theorem lit1 (W : World) (xs : List Int) (A : Option Addr) (c : Nat) (h : Kd.C (Kd.int .u8) W A xs.length xs) (hc : xs.length ≤ c) : Kd.C (Kd.slice 5 (Kd.int .u8)) (W.alloc (.cells #[.slice A xs.length c] 32)) (some ⟨W.heap.size, 0, none⟩) 1 [xs] := by
  refine ⟨rfl, by omega, fun _ => ⟨_, rfl, fun j p hj => ?_⟩⟩
  have hj0 : j = 0 := by
    have := (List.getElem?_eq_some_iff.1 hj).1
    simp at this
    exact this
  subst hj0
  have hp : p = xs := by simpa using hj.symm
  subst hp
  refine ⟨[.slice A p.length c], rfl, ⟨A, c, rfl, hc, Kd.C_alloc h _⟩, fun i u hi => ?_⟩
  have hb := heap_alloc_new W (.cells #[.slice A p.length c] 32)
  rw [add_plain, blk_cell hb]
  simpa using hi
theorem PBox.grown {w W : World} {g : Nat} {d v n : Int} {A : Option Addr} {m c : Nat} {row : Option Nat} (h : PBox w g d v n A m c) (hg : w.grownBy W row) (hne : some g ≠ row) : PBox W g d v n A m c := blk_grown h hg hne

def pkt_Seal.f (k : Nat) (l0 : List Int) (a1_0 a1_1 a1_2 : Int) (l1_3 : List Int) : Option (List Int × Int) := (pkt_May.f a1_0 a1_1 a1_2 l1_3).bind fun ok => if ok = true then (if l1_3.length ≤ 1200 then (mac_Tag.f k l0 [headB a1_0 a1_1 a1_2 8 ++ l1_3]).bind fun t => (if t.length ≤ 1200 then some (headB a1_0 a1_1 a1_2 8 ++ l1_3 ++ t, 0) else none) else none) else some ([], 1)
theorem pkt_Seal.mono : ∀ a0 a1 a2 a3 a4 k, LeO (pkt_Seal.f k a0 a1 a2 a3 a4) (pkt_Seal.f (k + 1) a0 a1 a2 a3 a4) := by
  intro a0 a1 a2 a3 a4 k
  unfold pkt_Seal.f
  exact LeO.bind (LeO.refl _) (fun _ => LeO.ite (LeO.ite (LeO.bind (mac_Tag.mono _ _ _) (fun _ => LeO.refl _)) (LeO.refl _)) (LeO.refl _))

set_option maxHeartbeats 2000000 in
set_option maxRecDepth 100000 in
theorem seal_yes (k : Nat) (A0 : Option Addr) (c0 : Nat) (l0 : List Int) (d v n : Int) (A1 : Option Addr) (c1 : Nat) (body t : List Int) (w : World) (hr0 : Kd.C (Kd.int .u8) w A0 l0.length l0) (hc0 : l0.length ≤ c0) (hr1 : Kd.C (Kd.int .u8) w A1 body.length body) (hc1 : body.length ≤ c1) (hG : LaidG w)
    (hm : pkt_May.f d v n body = some true) (hbl : body.length ≤ 1200) (b1 b2 : List Int) (e1 : headB d v n 8 ++ body = b1) (ht : mac_Tag.f k l0 [b1] = some t) (htl : t.length ≤ 1200) (e2 : b1 ++ t = b2) :
    Calls Tryd.prog 15 #[.slice A0 l0.length c0, .agg #[.int .i64 d, .int .i64 v, .int .u64 n, .slice A1 body.length c1]] w fun e w' => ∃ v0_ : Value, e = .returned (.tuple #[v0_, .int .i64 0]) ∧ Kd.R (Kd.int .u8) 5 w' w.heap.size (fun _ => True) v0_ b2 ∧ Below w.heap.size w w' := by
  have HR0 := Aside0.mk hr0
  have HC0 := Aside0.mk hc0
  have HR1 := Aside0.mk hr1
  have HC1 := Aside0.mk hc1
  have HG := Aside0.mk hG
  have HMY := Aside0.mk hm
  have HBL := Aside0.mk hbl
  have E1 := Aside0.mk e1
  have E2 := Aside0.mk e2
  have HT := Aside0.mk ht
  have HTL := Aside0.mk htl
  have HB1L := Aside0.mk (show b1.length = 10 + body.length by rw [← e1, List.length_append, headB_len])
  clear hr0 hc0 hr1 hc1 hG hm hbl e1 e2 ht htl
  go_enter Tryd.func15, Tryd.ntmps15
  go_wp2_with fail
  generalize hW1 : World.alloc w _ = W1
  have HP := Aside0.mk (show PBox W1 w.heap.size d v n A1 body.length c1 by rw [← hW1]; exact heap_alloc_new w _)
  have HB := Aside0.mk (show Below w.heap.size w W1 by rw [← hW1]; exact below_alloc (Below.refl _ _) _)
  clear hW1
  refine (pkt_May.calls d v n A1 c1 body true W1 (Kd.C_below HR1.out HB.out) HC1.out HMY.out).mono ?_
  rintro e W2 ⟨rfl, hd⟩
  have HP2 := Aside0.mk (HP.out.below hd)
  have HB2 := Aside0.mk (below_step HB.out hd)
  clear hd HP HB HMY
  have p0 := HP2.out.c0
  have p1 := HP2.out.c1
  have p2 := HP2.out.c2
  have p3 := HP2.out.c3
  go_wp2_with (first | ((with_reducible refine gate_dst (N := 17) rfl ?_); refine Kd.R_lit (Kd.int .u8) _ 5 ?hg (N := 17) ?hd (xs := headB d v n 0) (inner := [.int .u8 (d % 256), .int .u8 (v % 256)]) (ok := fun _ => True) (okp := fun _ => True) ?hr ?hp (fun _ hk => hk) trivial (Below.refl _ _) (Nat.le_refl _) (by simp [headB]) ?_; (case hd => rfl); (case hg => rfl); (case hr => first | (go_simp; done) | (go_simp; rfl)); (case hp => exact (Reps.one (show Kd.M (Kd.int .u8) _ _ _ (d % 256) [.int .u8 (d % 256)] from rfl) (Reps.one (show Kd.M (Kd.int .u8) _ _ _ (v % 256) [.int .u8 (v % 256)] from rfl) (Reps.none _ _)))); intro v17 w3 ho hb hg_ hnew_; clear hg_ hnew_ p0 p1 p2 p3; have HP3 := Aside0.mk (HP2.out.below hb); have HO := Aside0.mk (Kd.R_lower ho (below_size HB2.out)); have HB3 := Aside0.mk (below_step HB2.out hb); clear ho hb HP2 HB2) | fail)
  go_loopw [6, 7] (fun u6 v7 W => ∃ (j : Nat) (a : Int), j ≤ 8 ∧ Aside0 (a = 56 - 8 * (j : Int)) ∧ -8 ≤ a ∧ a ≤ 56 ∧ v7 = .int .i64 a ∧ Aside0 (Kd.R (Kd.int .u8) 5 W w.heap.size (fun _ => True) u6 (headB d v n j)) ∧ Aside0 (PBox W w.heap.size d v n A1 body.length c1) ∧ Aside0 (Below w.heap.size w W)) (fun _ v7 _ => (intOf v7 + 8).toNat)
  case atStart => exact ⟨0, 56, by omega, ⟨by omega⟩, by omega, by omega, rfl, HO, HP3, HB3⟩
  case round =>
    clear HO HP3 HB3
    obtain ⟨j, a, hj, HA, ha0, ha1, rfl, HO, HP, HB⟩ := hrel
    by_cases hlt : 0 ≤ a
    · have p2 := HP.out.c2
      have ha2 : a < 64 := by omega
      have HJL := Aside0.mk (headB_len d v n j)
      go_wp2_with (first | ((with_reducible refine gate_builtin (b := .append) (xs := #[.tmp 22, .tmp 28]) rfl ?_); at_builtin; refine Kd.R_append (Kd.int .u8) (w0 := w) w.heap.size rfl (.tmp 22) (.tmp 28) 32 5 (.int .u8 0) 1 rfl Tryd.underlying32 info8 rfl (by decide) (by omega) u6 (headB d v n j) (n / 2 ^ a.toNat % 256) [.int .u8 (n / 2 ^ a.toNat % 256)] (fun _ => True) (fun _ => False) rfl rfl ?aP (fun _ hk => hk.elim) ?aF ?aO ?aB ?aS ?aL ?_; (case aP => exact rfl); (case aB => exact HB.out); (case aF => exact (fun _ _ => trivial)); (case aO => exact HO.out); (case aS => exact (below_size HB.out)); (case aL => have := HJL.out; omega); intro v29 w5 ho hb hg hat; clear p2; have HP5 := Aside0.mk (HP.out.grown hg (Kd.R_ne HO.out HP.out (by decide))); clear HO HB HP; have HO := Aside0.mk ho; have HB := Aside0.mk hb; clear ho hb hg hat) | fail)
      go_roundw
      case rel => exact ⟨j + 1, a - 8, by have := HA.out; omega, ⟨by have := HA.out; omega⟩, by omega, by omega, by go_num, ⟨by rw [headB, show 56 - 8 * j = a.toNat by have := HA.out; omega]; exact HO.out⟩, HP5, HB⟩
      case measure => simp [intOf]; omega
    · have hj8 : j = 8 := by have := HA.out; omega
      subst hj8
      have HJL := Aside0.mk (headB_len d v n 8)
      have p3 := HP.out.c3
      clear HA
      generalize hhd : headB d v n 8 = hd at *
      have HHD := Aside0.mk hhd
      clear hhd
      go_wp2_with (first | ((with_reducible refine gate_builtin (b := .append) (xs := #[.tmp 30, .tmp 32]) rfl ?_); at_builtin; refine Kd.R_append_rows (Kd.int .u8) (w0 := w) w.heap.size rfl (.tmp 30) (.tmp 32) 32 5 (.int .u8 0) 1 rfl Tryd.underlying32 info8 rfl (by decide) (by omega) u6 hd body _ _ _ (fun _ => True) (fun _ => False) rfl rfl ?aO ?aR (fun _ _ h => h) (fun _ h => h.elim) ?aF ?aB ?aS ?aL ?_; (case aR => exact (Kd.C_below HR1.out HB.out)); (case aB => exact HB.out); (case aF => exact (fun _ _ => trivial)); (case aO => exact HO.out); (case aS => exact (below_size HB.out)); (case aL => have h1 := HJL.out; have h2 := HBL.out; omega); intro v33 w5 ho hb hg hat; clear p3; rw [E1.out] at ho; clear HO HB HP; have HO := Aside0.mk ho; have HB := Aside0.mk hb; clear ho hb hg hat; obtain ⟨Ab, cb, eb⟩ := Kd.R_slice HO.out; subst eb) | ((with_reducible refine gate_dst (N := 39) rfl ?_); at_builtin; refine Kd.R_append_rows (Kd.int .u8) (w0 := w) w.heap.size rfl (.tmp 34) (.tmp 38) 32 5 (.int .u8 0) 1 rfl Tryd.underlying32 info8 rfl (by decide) (by omega) _ b1 t _ _ _ (fun k_ => some k_ ≠ (.slice At t.length ct : Value).ownBlock) (fun _ => False) rfl rfl ?aO ?aR (fun _ _ h => h) (fun _ h => h.elim) ?aF ?aB ?aS ?aL ?_; (case aR => exact (Kd.R_reads' HOt.out).2.2); (case aB => exact HB.out); (case aF => exact (fun k_ hk => Kd.fresh' (Kd.R_lt HOt.out) k_ hk)); (case aO => exact (Kd.R_mono HO.out (fun _ hk => hk.2))); (case aS => exact (below_size HB.out)); (case aL => have h1 := HB1L.out; have h2 := HBL.out; have h3 := HTL.out; omega); intro v39 w9 ho hb hg hat; rw [E2.out] at ho; clear HO HB HOt; have HO := Aside0.mk ho; have HB := Aside0.mk hb; clear ho hb hg hat) | (go_at_call 38; refine (mac_Tag.calls k A0 c0 l0 (some ⟨w5.heap.size, 0, none⟩) 1 [b1] t _ (Kd.C_below HR0.out (below_alloc HB.out _)) HC0.out (lit1 w5 b1 Ab cb (Kd.R_reads' HO.out).2.2 (Kd.R_reads' HO.out).2.1) (Nat.le_refl _) (HG.out.below (below_alloc HB.out _)) HT.out).mono ?_; rintro e w8 ⟨vt, rfl, hot, hbt⟩; have HO8 := Aside0.mk (Kd.R_elder' (Kd.R_alloc HO.out _) (Kd.R_base hot) hbt); have HOt := Aside0.mk (Kd.R_lower (Kd.R_new' hot (Kd.R_lt (Kd.R_alloc HO.out _))) (below_size (below_alloc HB.out _))); have HB8 := Aside0.mk (below_step (below_alloc HB.out _) hbt); clear HO HB hot hbt; have HO := HO8; have HB := HB8; clear HO8 HB8; obtain ⟨At, ct, et⟩ := Kd.R_slice HOt.out; subst et) | fail)
      go_ret2
      exact ⟨_, rfl, Kd.R_mono HO.out (fun _ _ => trivial), HB.out⟩

set_option maxHeartbeats 2000000 in
set_option maxRecDepth 100000 in
theorem seal_no (A0 : Option Addr) (c0 : Nat) (l0 : List Int) (d v n : Int) (A1 : Option Addr) (c1 : Nat) (body : List Int) (w : World) (hr1 : Kd.C (Kd.int .u8) w A1 body.length body) (hc1 : body.length ≤ c1) (hm : pkt_May.f d v n body = some false) :
    Calls Tryd.prog 15 #[.slice A0 l0.length c0, .agg #[.int .i64 d, .int .i64 v, .int .u64 n, .slice A1 body.length c1]] w fun e w' => ∃ v0_ : Value, e = .returned (.tuple #[v0_, .int .i64 1]) ∧ Kd.R (Kd.int .u8) 5 w' w.heap.size (fun _ => True) v0_ [] ∧ Below w.heap.size w w' := by
  have HR1 := Aside0.mk hr1
  have HC1 := Aside0.mk hc1
  have HMY := Aside0.mk hm
  clear hr1 hc1 hm
  go_enter Tryd.func15, Tryd.ntmps15
  go_wp2_with fail
  generalize hW1 : World.alloc w _ = W1
  have HB := Aside0.mk (show Below w.heap.size w W1 by rw [← hW1]; exact below_alloc (Below.refl _ _) _)
  clear hW1
  refine (pkt_May.calls d v n A1 c1 body false W1 (Kd.C_below HR1.out HB.out) HC1.out HMY.out).mono ?_
  rintro e W2 ⟨rfl, hd⟩
  have HB2 := Aside0.mk (below_step HB.out hd)
  clear hd HB HMY
  go_wp2
  go_ret2
  exact ⟨_, rfl, Kd.R_nil _ _ _ _ _, HB2.out⟩

theorem pkt_Seal.calls (k : Nat) (A0 : Option Addr) (c0 : Nat) (l0 : List Int) (a1_0 : Int) (a1_1 : Int) (a1_2 : Int) (A1_3 : Option Addr) (c1_3 : Nat) (l1_3 : List Int) (r1 : List Int) (r2 : Int) (w : World) (hr0 : Kd.C (Kd.int .u8) w A0 l0.length l0) (hc0 : l0.length ≤ c0) (hr1_3 : Kd.C (Kd.int .u8) w A1_3 l1_3.length l1_3) (hc1_3 : l1_3.length ≤ c1_3) (hG : LaidG w) (h : pkt_Seal.f k l0 a1_0 a1_1 a1_2 l1_3 = some (r1, r2)) :
    Calls Tryd.prog 15 #[.slice A0 l0.length c0, .agg #[.int .i64 a1_0, .int .i64 a1_1, .int .u64 a1_2, .slice A1_3 l1_3.length c1_3]] w fun e w' => ∃ v0_ : Value, e = .returned (.tuple #[v0_, .int .i64 r2]) ∧ Kd.R (Kd.int .u8) 5 w' w.heap.size (fun _ => True) v0_ r1 ∧ Below w.heap.size w w' := by
  unfold pkt_Seal.f at h
  obtain ⟨ok, hm, h⟩ := Option.bind_eq_some_iff.mp h
  split at h
  · rename_i hok
    subst hok
    split at h
    · rename_i hbl
      obtain ⟨t, ht, h⟩ := Option.bind_eq_some_iff.mp h
      split at h
      · rename_i htl
        have h' := Option.some.inj h
        rw [Prod.mk.injEq] at h'
        obtain ⟨rfl, rfl⟩ := h'
        exact seal_yes k A0 c0 l0 a1_0 a1_1 a1_2 A1_3 c1_3 l1_3 t w hr0 hc0 hr1_3 hc1_3 hG hm hbl _ _ rfl ht htl rfl
      · cases h
    · cases h
  · rename_i hok
    have hok' : ok = false := by simpa using hok
    subst hok'
    have h' := Option.some.inj h
    rw [Prod.mk.injEq] at h'
    obtain ⟨rfl, rfl⟩ := h'
    exact seal_no A0 c0 l0 a1_0 a1_1 a1_2 A1_3 c1_3 l1_3 w hr1_3 hc1_3 hm
end Go.Proofs.YtpimhoaeiafahaaDoor.M8
