/- The contracts of bytes.Join (one part), mac.Hmac (one part) and mac.Tag. -/
import Derived.Test.YtpimhoaeiafahaaDoorM5
namespace Go.Proofs.YtpimhoaeiafahaaDoor.M6
open Go.RowKit Go.Proofs.YtpimhoaeiafahaaDoorW.PrintWords Go.Proofs.YtpimhoaeiafahaaDoorW.PrintLast Go.Proofs.YtpimhoaeiafahaaDoorW.PrintMore Go.Proofs.YtpimhoaeiafahaaDoor.A Go.Proofs.YtpimhoaeiafahaaDoor.M0 Go.Proofs.YtpimhoaeiafahaaDoor.M1 Go.Proofs.YtpimhoaeiafahaaDoor.M2 Go.Proofs.YtpimhoaeiafahaaDoor.M3 Go.Proofs.YtpimhoaeiafahaaDoor.M4 Go.Proofs.YtpimhoaeiafahaaDoor.M5
set_option linter.unusedVariables false
set_option linter.unusedSimpArgs false

theorem addr_zero (ad : Addr) : ad.add 0 = ad := by
  unfold Addr.add
  cases ad
  simp
def rd_B (xs : List (List Int)) (i : Int) : (List Int) := xs.getD i.toNat ([] : List Int)
theorem at_B {w : World} {A : Option Addr} {n : Nat} {xs : List (List Int)} (h : Kd.C (Kd.slice 5 (Kd.int .u8)) w A n xs) (i : Int) (h0 : 0 ≤ i) (h1 : i < n) : ∃ ad A0 c0, A = some ad ∧ w.cell? (ad.add i.toNat) = some (.slice A0 (rd_B xs i).length c0) ∧ (rd_B xs i).length ≤ c0 ∧ (Kd.int .u8).C w A0 (rd_B xs i).length (rd_B xs i) := by
  obtain ⟨ad, c, e, _, hK, hc0⟩ := Kd.C_get h ([] : List Int) i h0 h1
  have hc : ∀ j u, c[j]? = some u → w.cell? (ad.add (i.toNat * 1 + j)) = some u := hc0
  obtain ⟨A0, c0, rfl, l0, g0⟩ := hK
  exact ⟨ad, A0, c0, e, by have hq := hc 0 _ rfl; rwa [Nat.mul_one, Nat.add_zero] at hq, l0, g0⟩

set_option maxHeartbeats 1000000 in
set_option maxRecDepth 100000 in
theorem join_one (A0 : Option Addr) (c0 : Nat) (msg : List Int) (w : World) (hr0 : Kd.C (Kd.slice 5 (Kd.int .u8)) w A0 1 [msg]) (hl : msg.length < 140737488355328) :
    Calls Tryd.prog 50 #[.slice A0 1 c0, .slice none 0 0] w fun e w' => ∃ v0_ : Value, e = .returned (v0_) ∧ Kd.R (Kd.int .u8) 5 w' w.heap.size (fun _ => True) v0_ msg ∧ Below w.heap.size w w' := by
  obtain ⟨ad, A1, c1, e, hc, hle, hC⟩ := at_B hr0 0 (by omega) (by omega)
  subst e
  have hrd : rd_B [msg] 0 = msg := rfl
  rw [hrd] at hc hle hC
  rw [show ((0 : Int)).toNat = 0 from rfl, addr_zero] at hc
  have HC := Aside0.mk hC
  have HB := Aside0.mk (Below.refl w.heap.size w)
  have HL := Aside0.mk hl
  clear hr0 hrd hle hC hl
  go_enter Tryd.func50, Tryd.ntmps50
  go_wp2_with (first | ((with_reducible refine gate_dst (N := 22) rfl ?_); at_builtin; go_loud (refine Kd.R_append_rows (Kd.int .u8) (w0 := w) w.heap.size rfl (.const (.slice none 0 0)) (.tmp 21) 32 5 (.int .u8 0) 1 rfl Tryd.underlying32 info8 rfl (by decide) (by omega) _ [] msg _ _ _ (fun _ => True) (fun _ => False) rfl rfl ?aO ?aR (fun _ _ h => h) (fun _ h => h.elim) ?aF ?aB ?aS ?aL ?_); (case aR => exact HC.out); (case aB => exact HB.out); (case aF => exact (fun _ _ => trivial)); (case aO => exact (Kd.R_nil _ _ _ _ _)); (case aS => exact (below_size HB.out)); (case aL => have := HL.out; simp; omega); intro v22 w5 ho hb hg hat; rw [List.nil_append] at ho; clear HB; have HB := Aside0.mk hb; have HO := Aside0.mk ho; clear ho hb hg hat) | fail)
  go_ret
  exact ⟨_, rfl, HO.out, HB.out⟩

def mac_Hmac.f (k : Nat) (l0 : List Int) (l1 : List (List Int)) : Option (List Int) := match l1 with
  | [msg] => if msg.length = 0 then none else if msg.length ≤ 70368744177664 then (mac_padded.f k l0 54).bind fun p1 => (mac_Sum.f k (p1 ++ msg)).bind fun inner => if inner.length = 0 then none else if inner.length ≤ 70368744177664 then (mac_padded.f k l0 92).bind fun p2 => mac_Sum.f k (p2 ++ inner) else none else none
  | _ => none
theorem mac_Hmac.mono : ∀ a0 a1 k, LeO (mac_Hmac.f k a0 a1) (mac_Hmac.f (k + 1) a0 a1) := by
  intro a0 a1 k
  unfold mac_Hmac.f
  split
  · exact LeO.ite (LeO.refl _) (LeO.ite (LeO.bind (mac_padded.mono _ _ _) (fun _ => LeO.bind (mac_Sum.mono _ _) (fun _ => LeO.ite (LeO.refl _) (LeO.ite (LeO.bind (mac_padded.mono _ _ _) (fun _ => mac_Sum.mono _ _)) (LeO.refl _))))) (LeO.refl _))
  · exact LeO.refl _

/-- append(p, v...) of a row of 64 bytes that has no room: a new row. -/
theorem append64 {ops : Array Oper} {rest : List Oper} {o : Oper} {a : Act} {Q : Exit → Act → World → Prop} (W : World) (hg : o.guard = none) (s x : Operand) (hop : o.op = Op.call { callee := Callee.builtin Builtin.append, args := #[s, x], argTypes := #[32, 32] })
    (g : Nat) (p : List Int) (hs : a.eval s = .slice (some ⟨g, 0, none⟩) 64 64) (hp : B64 W g p) (A : Option Addr) (c : Nat) (q : List Int) (hx : a.eval x = .slice A q.length c) (hq : Kd.C (Kd.int .u8) W A q.length q) (h0 : 0 < q.length) (hl : q.length ≤ 70368744177664) (pq : List Int) (hpq : p ++ q = pq)
    (hK : ∀ A' c' w', Kd.C (Kd.int .u8) w' A' pq.length pq → pq.length ≤ c' → Below W.heap.size W w' → wpList Tryd.prog ops Q rest (a.put o.dst (.slice A' pq.length c')) w') :
    wpList Tryd.prog ops Q (o :: rest) a W := by
  subst hpq
  obtain ⟨i0, hi0, hz0, hz1, hz2⟩ := info_parts info8
  obtain ⟨ad, e, _⟩ := Kd.at_int hq 0 (by omega) (by omega)
  subst e
  have hall : ∀ j, j < q.length → W.cell? (ad.add j) = some (.int .u8 (rd q j)) := fun j hj => by
    obtain ⟨ad', e, h⟩ := Kd.at_int hq j (by omega) (by omega)
    cases e
    rwa [Int.toNat_natCast] at h
  refine wpList_append_grows W hg s x 32 hop 5 i0 (.int .u8 0) 1 1 Tryd.underlying32 hi0 hz0 hz1 hz2 rfl (by omega) (some ⟨g, 0, none⟩) 64 64 (nums .u8 p) hs (fun e => by cases e) (by rw [nums_length, hp.len]) ?_ ad q.length c (nums .u8 q) hx (by rw [nums_length, Nat.mul_one]) ?_ ?_ (by omega) (by unfold maxLen; omega) (by omega) ?_
  · intro b e j u hj
    cases e
    have hj' : j < 64 := by have := (List.getElem?_eq_some_iff.1 hj).1; rw [nums_length, hp.len] at this; exact this
    rw [add_plain, hp.cell j hj', ← hj]
    simp [nums, rd, List.getD_eq_getElem?_getD, List.getElem?_eq_getElem (show j < p.length by have := hp.len; omega)]
  · intro j u hj
    have hj' : j < q.length := by have := (List.getElem?_eq_some_iff.1 hj).1; rwa [nums_length] at this
    rw [hall j hj', ← hj]
    simp [nums, rd, List.getD_eq_getElem?_getD, List.getElem?_eq_getElem hj']
  · intro u hu
    simp only [nums, List.mem_map] at hu
    obtain ⟨y, _, rfl⟩ := hu
    rfl
  · intro v' w' ho hgr
    have hlen : (p ++ q).length = 64 + q.length := by rw [List.length_append, hp.len]
    rw [← nums_append, ← hlen] at ho
    obtain ⟨A', c', rfl, hr⟩ := own_reads ho
    have hR := Kd.R_of_own (h1 := fun _ => rfl) (ok := fun _ => True) (enc := Value.int .u8) (show w'.ownsRow W.heap.size 5 1 (.slice A' (p ++ q).length c') (p ++ q).length (encs (Value.int .u8) (p ++ q)) from ho) (fun _ _ => trivial)
    exact hK A' c' w' (Kd.R_reads' hR).2.2 (Kd.R_reads' hR).2.1 (pw_below_grown (Below.refl _ _) none (Nat.le_refl _) hgr (fun k e => by cases e))

theorem padded54 (k : Nat) (A0 : Option Addr) (c0 : Nat) (l0 : List Int) (r : List Int) (w : World) (hr0 : Kd.C (Kd.int .u8) w A0 l0.length l0) (hc0 : l0.length ≤ c0) (hG : LaidG w) (h : mac_padded.f k l0 54 = some r) :
    Calls Tryd.prog 49 #[.slice A0 l0.length c0, .int .u8 54] w (PadPost w r) := by
  have e : ((54 : UInt8).toNat : Int) = 54 := by decide
  have := padded_any k A0 c0 l0 54 r w hr0 hc0 hG (by rw [e]; exact h)
  rw [e] at this
  exact this
theorem padded92 (k : Nat) (A0 : Option Addr) (c0 : Nat) (l0 : List Int) (r : List Int) (w : World) (hr0 : Kd.C (Kd.int .u8) w A0 l0.length l0) (hc0 : l0.length ≤ c0) (hG : LaidG w) (h : mac_padded.f k l0 92 = some r) :
    Calls Tryd.prog 49 #[.slice A0 l0.length c0, .int .u8 92] w (PadPost w r) := by
  have e : ((92 : UInt8).toNat : Int) = 92 := by decide
  have := padded_any k A0 c0 l0 92 r w hr0 hc0 hG (by rw [e]; exact h)
  rw [e] at this
  exact this

set_option maxHeartbeats 1000000 in
set_option maxRecDepth 100000 in
theorem hmac_one (k : Nat) (A0 : Option Addr) (c0 : Nat) (l0 : List Int) (A1 : Option Addr) (c1 : Nat) (msg p1 inner p2 m1 m2 r : List Int) (w : World) (hr0 : Kd.C (Kd.int .u8) w A0 l0.length l0) (hc0 : l0.length ≤ c0) (hr1 : Kd.C (Kd.slice 5 (Kd.int .u8)) w A1 1 [msg]) (hG : LaidG w)
    (hm0 : 0 < msg.length) (hml : msg.length ≤ 70368744177664) (h1 : mac_padded.f k l0 54 = some p1) (e1 : p1 ++ msg = m1) (e2 : p2 ++ inner = m2) (h2 : mac_Sum.f k m1 = some inner) (hi0 : 0 < inner.length) (hil : inner.length ≤ 70368744177664) (h3 : mac_padded.f k l0 92 = some p2) (h4 : mac_Sum.f k m2 = some r) :
    Calls Tryd.prog 45 #[.slice A0 l0.length c0, .slice A1 1 c1] w fun e w' => ∃ v0_ : Value, e = .returned (v0_) ∧ Kd.R (Kd.int .u8) 5 w' w.heap.size (fun _ => True) v0_ r ∧ Below w.heap.size w w' := by
  have HR0 := Aside0.mk hr0
  have HC0 := Aside0.mk hc0
  have HR1 := Aside0.mk hr1
  have HG := Aside0.mk hG
  have HM0 := Aside0.mk hm0
  have HML := Aside0.mk hml
  have H1 := Aside0.mk h1
  have H2 := Aside0.mk h2
  have HI0 := Aside0.mk hi0
  have HIL := Aside0.mk hil
  have H3 := Aside0.mk h3
  have H4 := Aside0.mk h4
  have E1 := Aside0.mk e1
  have E2 := Aside0.mk e2
  clear e1 e2
  clear hr0 hc0 hr1 hG hm0 hml h1 h2 hi0 hil h3 h4
  go_enter Tryd.func45, Tryd.ntmps45
  go_wp2_with fail
  refine (padded54 k A0 c0 l0 p1 w HR0.out HC0.out HG.out H1.out).mono ?_
  rintro e W1 ⟨g1, rfl, hge1, hb64, hb⟩
  have HP1 := Aside0.mk hb64
  have HB := Aside0.mk hb
  clear hge1 hb64 hb
  go_wp2_with fail
  refine (join_one A1 c1 msg W1 (Kd.C_below HR1.out HB.out) (by have := HML.out; omega)).mono ?_
  rintro e W2 ⟨v, rfl, ho, hb⟩
  obtain ⟨A2, c2, rfl⟩ := Kd.R_slice ho
  have HMS := Aside0.mk (Kd.R_reads' ho).2.2
  have HP2 := Aside0.mk (HP1.out.below hb)
  have HB2 := Aside0.mk (below_step HB.out hb)
  clear ho hb HP1 HB
  go_wp2_with (first | ((with_reducible refine gate_dst (N := 10) rfl ?_); refine append64 _ rfl (.tmp 7) (.tmp 9) rfl g1 p1 rfl HP2.out A2 c2 msg rfl HMS.out HM0.out HML.out m1 E1.out ?_; intro A3 c3 W3 hC3 hc3 hb; have HC3 := Aside0.mk hC3; have Hc3 := Aside0.mk hc3; have HB3 := Aside0.mk (below_step HB2.out hb); clear hC3 hc3 hb HP2 HMS HB2) | fail)
  refine (mac_Sum.calls k A3 c3 m1 inner W3 HC3.out Hc3.out (HG.out.below HB3.out) H2.out).mono ?_
  rintro e W4 ⟨v, rfl, ho, hb⟩
  obtain ⟨A4, c4, rfl⟩ := Kd.R_slice ho
  have HIN := Aside0.mk (Kd.R_reads' ho).2.2
  have HB4 := Aside0.mk (below_step HB3.out hb)
  clear ho hb HC3 Hc3 HB3
  go_wp2_with fail
  refine (padded92 k A0 c0 l0 p2 W4 (Kd.C_below HR0.out HB4.out) HC0.out (HG.out.below HB4.out) H3.out).mono ?_
  rintro e W5 ⟨g5, rfl, hge5, hb64, hb⟩
  have HP5 := Aside0.mk hb64
  have HIN5 := Aside0.mk (Kd.C_below HIN.out hb)
  have HB5 := Aside0.mk (below_step HB4.out hb)
  clear hge5 hb64 hb HIN HB4
  go_wp2_with (first | ((with_reducible refine gate_dst (N := 15) rfl ?_); refine append64 _ rfl (.tmp 13) (.tmp 14) rfl g5 p2 rfl HP5.out A4 c4 inner rfl HIN5.out HI0.out HIL.out m2 E2.out ?_; intro A6 c6 W6 hC6 hc6 hb; have HC6 := Aside0.mk hC6; have Hc6 := Aside0.mk hc6; have HB6 := Aside0.mk (below_step HB5.out hb); clear hC6 hc6 hb HP5 HIN5 HB5) | fail)
  refine (mac_Sum.calls k A6 c6 m2 r W6 HC6.out Hc6.out (HG.out.below HB6.out) H4.out).mono ?_
  rintro e W7 ⟨v, rfl, ho, hb⟩
  have HO := Aside0.mk (Kd.R_lower ho (below_size HB6.out))
  have HB7 := Aside0.mk (below_step HB6.out hb)
  clear ho hb
  go_wp2
  go_ret
  exact ⟨_, rfl, HO.out, HB7.out⟩

theorem mac_Hmac.calls (k : Nat) (A0 : Option Addr) (c0 : Nat) (l0 : List Int) (A1 : Option Addr) (c1 : Nat) (l1 : List (List Int)) (r : List Int) (w : World) (hr0 : Kd.C (Kd.int .u8) w A0 l0.length l0) (hc0 : l0.length ≤ c0) (hr1 : Kd.C (Kd.slice 5 (Kd.int .u8)) w A1 l1.length l1) (hc1 : l1.length ≤ c1) (hG : LaidG w) (h : mac_Hmac.f k l0 l1 = some r) :
    Calls Tryd.prog 45 #[.slice A0 l0.length c0, .slice A1 l1.length c1] w fun e w' => ∃ v0_ : Value, e = .returned (v0_) ∧ Kd.R (Kd.int .u8) 5 w' w.heap.size (fun _ => True) v0_ r ∧ Below w.heap.size w w' := by
  unfold mac_Hmac.f at h
  split at h
  · rename_i msg
    split at h
    · cases h
    · rename_i hm0
      split at h
      · rename_i hml
        obtain ⟨p1, h1, h⟩ := Option.bind_eq_some_iff.mp h
        obtain ⟨inner, h2, h⟩ := Option.bind_eq_some_iff.mp h
        split at h
        · cases h
        · rename_i hi0
          split at h
          · rename_i hil
            obtain ⟨p2, h3, h⟩ := Option.bind_eq_some_iff.mp h
            exact hmac_one k A0 c0 l0 A1 c1 msg p1 inner p2 _ _ r w hr0 hc0 hr1 hG (by omega) hml h1 rfl rfl h2 (by omega) hil h3 h
          · cases h
      · cases h
  · cases h
end Go.Proofs.YtpimhoaeiafahaaDoor.M6
