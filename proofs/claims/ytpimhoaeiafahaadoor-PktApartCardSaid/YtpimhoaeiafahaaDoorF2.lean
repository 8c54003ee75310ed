/- PktApart: the plain law. -/
import Derived.Test.YtpimhoaeiafahaaDoorF0
import Derived.Test.YtpimhoaeiafahaaDoorVx2
namespace Go.Proofs.YtpimhoaeiafahaaDoor.F2
open Go.RowKit Go.Proofs.YtpimhoaeiafahaaDoorW.PrintWords Go.Proofs.YtpimhoaeiafahaaDoorW.PrintLast Go.Proofs.YtpimhoaeiafahaaDoorW.PrintMore Go.Proofs.YtpimhoaeiafahaaDoor.A Go.Proofs.YtpimhoaeiafahaaDoor.B Go.Proofs.YtpimhoaeiafahaaDoor.M0 Go.Proofs.YtpimhoaeiafahaaDoor.M6 Go.Proofs.YtpimhoaeiafahaaDoor.M7 Go.Proofs.YtpimhoaeiafahaaDoor.M8 Go.Proofs.YtpimhoaeiafahaaDoor.E1 Go.Proofs.YtpimhoaeiafahaaDoor.E2 Go.Proofs.YtpimhoaeiafahaaDoor.E3 Go.Proofs.YtpimhoaeiafahaaDoor.E5 Go.Proofs.YtpimhoaeiafahaaDoor.E6 Go.Proofs.YtpimhoaeiafahaaDoor.E7 Go.Proofs.YtpimhoaeiafahaaDoor.F0
set_option linter.unusedVariables false
set_option linter.unusedSimpArgs false

theorem first_at (k : Nat) (h : 200 ≤ k) : T.tiklaw25_first.f k = some true := by
  have := T.tiklaw25_first.up true (k - 200) 200 T.tiklaw25_first.val
  rwa [show 200 + (k - 200) = k by omega] at this
theorem tag_at (k : Nat) (h : 1000000 ≤ k) (key msg : List Int) (hkb : By key) (hmb : By msg) (hk : key.length ≤ 1000000) (hm0 : msg.length ≠ 0) (hml : msg.length ≤ 900000) : T.tikref2_Tag.f k key msg = some (tag key msg) := by
  have := ref_tag (k - 1000000) key msg hkb hmb hk hm0 hml
  rwa [show k - 1000000 + 1000000 = k by omega] at this
theorem seal_inj {key : List Int} {d v n d' v' n' : Int} {b b' : List Int} (h1 : mayB d v n b = true) (h2 : mayB d' v' n' b' = true) (h : sealB key d v n b = sealB key d' v' n' b') : d = d' ∧ v = v' ∧ n = n' ∧ b = b' := by
  obtain ⟨hd, hv0, hv1, hn0, hn1, hb⟩ := may_of h1
  obtain ⟨hd', hv0', hv1', hn0', hn1', hb'⟩ := may_of h2
  have e : body_ d v n b = body_ d' v' n' b' := by rw [← take_body key d v n b, ← take_body key d' v' n' b', h]
  rw [body_eq, body_eq] at e
  simp only [List.cons.injEq] at e
  obtain ⟨e1, e2, e3⟩ := e
  have e4 : len8 n = len8 n' := by
    have := congrArg (List.take 8) e3
    rwa [List.take_append_of_le_length (by rw [len8_len]; omega), List.take_of_length_le (by rw [len8_len]; omega), List.take_append_of_le_length (by rw [len8_len]; omega), List.take_of_length_le (by rw [len8_len]; omega)] at this
  have e5 : n = n' := by rw [← acc8 n (by omega) (by omega), ← acc8 n' (by omega) (by omega), e4]
  rw [e4] at e3
  exact ⟨by omega, by omega, e5, List.append_cancel_left e3⟩
theorem same_val (key : List Int) (d v n d' v' n' : Int) (b b' : List Int) (hb : By b) (hb' : By b') (h1 : mayB d v n b = true) (h2 : mayB d' v' n' b' = true) : T.pkt_Same.f d v n b d' v' n' b' = some (eqv (sealB key d v n b) (sealB key d' v' n' b')) := by
  rw [eqv_iff (sealB_by key d v n b hb) (sealB_by key d' v' n' b' hb')]
  unfold T.pkt_Same.f
  by_cases c1 : d = d'
  · by_cases c2 : v = v'
    · by_cases c3 : n = n'
      · rw [if_pos c1, if_pos c2, if_pos c3, eqv_equal, eqv_iff hb hb']
        subst c1 c2 c3
        simp only [Option.bind_some, Option.some.injEq]
        by_cases c4 : b = b'
        · subst c4; simp
        · rw [decide_eq_false c4, decide_eq_false (fun h => c4 (seal_inj h1 h2 h).2.2.2)]
      · rw [if_pos c1, if_pos c2, if_neg c3, decide_eq_false (fun h => c3 (seal_inj h1 h2 h).2.2.1)]
    · rw [if_pos c1, if_neg c2, decide_eq_false (fun h => c2 (seal_inj h1 h2 h).2.1)]
  · rw [if_neg c1, decide_eq_false (fun h => c1 (seal_inj h1 h2 h).1)]
theorem last (v : Int × Int × Int × List Int × Int) (big ok q : Bool) (hok : ok = true) (o : (v.2.2.2.2 = 3) ∨ (v.2.2.2.2 = 15) ∨ (big = true ∧ q = true)) :
    (if v.2.2.2.2 = 3 then some ok else if v.2.2.2.2 = 15 then some ok else if big = true then (if q = true then some ok else some false) else some false) = some true := by
  subst hok
  by_cases h1 : v.2.2.2.2 = 3
  · rw [if_pos h1]
  · by_cases h2 : v.2.2.2.2 = 15
    · rw [if_neg h1, if_pos h2]
    · obtain ⟨rfl, rfl⟩ := (o.resolve_left h1).resolve_left h2
      rw [if_neg h1, if_neg h2, if_pos rfl, if_pos rfl]
theorem j2_false (k : Nat) (h : 1000000 ≤ k) (key : List Int) (d v n d' v' n' : Int) (b b' : List Int) (hkb : By key) (hb : By b) (hb' : By b') (hk : key.length ≤ 1000) (h1 : mayB d v n b = true) (h2 : mayB d' v' n' b' = true) :
    V.tiklaw25_PktApart.j2 (k + 1) key (sealB key d v n b) (sealB key d' v' n' b') false d v n b d' v' n' b' = some true := by
  obtain ⟨_, _, _, _, _, hbl⟩ := may_of h1
  have hx := sealB_len key d v n b
  have hsame := same_val key d v n d' v' n' b b' hb hb' h1 h2
  have hxb := sealB_by key d v n b hb
  generalize sealB key d v n b = x at *
  generalize sealB key d' v' n' b' = y at *
  have w1 : wrap64 ((x.length : Int) - 17) = ((x.length - 17 : Nat) : Int) := by unfold wrap64; omega
  rw [V.tiklaw25_PktApart.j2, if_neg (by decide), if_neg (by omega), w1, if_pos (by omega), if_pos (by omega), Int.toNat_natCast]
  have hz : (x.take (x.length - 17)).length = x.length - 17 := by rw [List.length_take]; omega
  rw [open_val k key _ (by omega) (by omega) (by omega)]
  simp (config := { implicitDefEqProofs := false }) only [Option.bind_some, first_at k (by omega), if_true, eqv_ref, hsame, beq_self_eq_true]
  have g26 : decide ((x.length : Int) ≥ 26) = true := decide_eq_true (by omega)
  by_cases c : x.length < 43
  · have : (openF key (x.take (x.length - 17))).2.2.2.2 = 3 := by
      unfold openF
      rw [if_pos (by omega)]
    rw [if_pos this, g26]
  · have w2 : wrap64 ((x.length : Int) - 33) = ((x.length - 33 : Nat) : Int) := by unfold wrap64; omega
    rw [if_pos (show (x.length : Int) ≥ 43 by omega), w2, if_pos (show (0 : Int) ≤ ((x.length - 33 : Nat) : Int) by omega), if_pos (show ((x.length - 33 : Nat) : Int) ≤ (x.length : Int) by omega), Int.toNat_natCast, tag_at k h key _ hkb (hxb.take _) (by omega) (by rw [List.length_take]; omega) (by rw [List.length_take]; omega)]
    simp (config := { implicitDefEqProofs := false }) only [Option.bind_some]
    rw [if_pos (show ((x.length - 33 : Nat) : Int) ≤ ((x.length - 17 : Nat) : Int) by omega)]
    have ho : openF key (x.take (x.length - 17)) = if eqv (tag key (x.take (x.length - 33))) ((x.take (x.length - 17)).drop (x.length - 33)) = true then after (wrap64 (rd (x.take (x.length - 17)) 0)) (wrap64 (rd (x.take (x.length - 17)) 1)) (acc (((x.take (x.length - 17)).take 10).drop 2) 8) (((x.take (x.length - 17)).take (x.length - 33)).drop 10) else (0, 0, 0, [], 15) := by
      have e1 : (x.take (x.length - 17)).length - 16 = x.length - 33 := by omega
      have e2 : (x.take (x.length - 17)).take (x.length - 33) = x.take (x.length - 33) := by rw [List.take_take, Nat.min_eq_left (by omega)]
      unfold openF
      rw [if_neg (by omega), e1, e2]
    have hl := last (openF key (x.take (x.length - 17))) true (decide ((x.length : Int) ≥ 26)) (eqv (tag key (x.take (x.length - 33))) ((x.take (x.length - 17)).drop (x.length - 33))) g26 (by
      rw [ho]
      generalize eqv (tag key (x.take (x.length - 33))) ((x.take (x.length - 17)).drop (x.length - 33)) = q
      cases q with
      | true => exact .inr (.inr ⟨rfl, rfl⟩)
      | false => rw [if_neg (by decide)]; exact .inr (.inl rfl))
    rw [if_pos rfl] at hl
    exact hl
theorem j2_true (k : Nat) (h : 200 ≤ k) (key x y : List Int) (d v n d' v' n' : Int) (b b' : List Int) : V.tiklaw25_PktApart.j2 (k + 1) key x y true d v n b d' v' n' b' = some true := by
  rw [V.tiklaw25_PktApart.j2, if_pos rfl, first_at k h]
  rfl
theorem j0_true (k : Nat) (h : 200 ≤ k) (key : List Int) (d v n : Int) (b : List Int) (d' v' n' : Int) (b' : List Int) : V.tiklaw25_PktApart.j0 (k + 1) key true d v n b d' v' n' b' = some true := by
  rw [V.tiklaw25_PktApart.j0, if_pos rfl, first_at k h]
  rfl
theorem j0_false (k : Nat) (h : 1000000 ≤ k) (key : List Int) (d v n d' v' n' : Int) (b b' : List Int) (hkb : By key) (hb : By b) (hb' : By b') (hk : key.length ≤ 1000) :
    V.tiklaw25_PktApart.j0 (k + 1 + 1 + 1) key false d v n b d' v' n' b' = some true := by
  have hm : T.pkt_May.f d v n b = some (mayB d v n b) := may_val d v n b
  rw [V.tiklaw25_PktApart.j0, if_neg (by decide), seal_val _ key d v n b (by omega) (by omega), seal_val _ key d' v' n' b' (by omega) (by omega), hm]
  simp (config := { implicitDefEqProofs := false }) only [Option.bind_some]
  cases h1 : mayB d v n b with
  | false =>
    rw [if_neg (show ¬ (false = true) by decide)]
    dsimp only
    rw [if_neg (by decide), if_neg (by decide), if_pos rfl, show ((([] : List Int).length : Int) != 0) = false from rfl, V.tiklaw25_PktApart.j1, if_neg (by decide), if_neg (by decide)]
    exact j2_true _ (by omega) _ _ _ _ _ _ _ _ _ _ _
  | true =>
    rw [if_pos (show true = true from rfl)]
    dsimp only
    rw [if_neg (by decide), if_pos rfl, V.tiklaw25_PktApart.j1, if_neg (by decide), if_pos rfl]
    cases h2 : mayB d' v' n' b' with
    | false => rw [if_neg (show ¬ (false = true) by decide)]; exact j2_true _ (by omega) _ _ _ _ _ _ _ _ _ _ _
    | true => rw [if_pos (show true = true from rfl)]; exact j2_false _ h key d v n d' v' n' b b' hkb hb hb' hk h1 h2
theorem pure (key : List Int) (d v n : Int) (b : List Int) (d' v' n' : Int) (b' : List Int) (hkb : By key) (hb : By b) (hb' : By b') : ∃ k, V.tiklaw25_PktApart.f k key d v n b d' v' n' b' = some true := by
  refine ⟨1000000 + 1 + 1 + 1, ?_⟩
  unfold V.tiklaw25_PktApart.f
  rw [first_at _ (by omega)]
  simp (config := { implicitDefEqProofs := false }) only [Option.bind_some, if_true]
  by_cases c1 : (key.length : Int) > 1000
  · rw [if_pos c1]; exact j0_true _ (by omega) _ _ _ _ _ _ _ _ _
  · rw [if_neg c1]
    by_cases c2 : (b.length : Int) > 3000
    · rw [if_pos c2]; exact j0_true _ (by omega) _ _ _ _ _ _ _ _ _
    · rw [if_neg c2]
      by_cases c3 : (b'.length : Int) > 3000
      · rw [decide_eq_true c3]; exact j0_true _ (by omega) _ _ _ _ _ _ _ _ _
      · rw [decide_eq_false c3]; exact j0_false _ (by omega) _ _ _ _ _ _ _ _ _ hkb hb hb' (by omega)
end Go.Proofs.YtpimhoaeiafahaaDoor.F2
