/- The reference's Open is the program's. -/
import Derived.Test.YtpimhoaeiafahaaDoorE7
import Derived.Test.YtpimhoaeiafahaaDoorTx5
namespace Go.Proofs.YtpimhoaeiafahaaDoor.E8
open Go.RowKit Go.Proofs.YtpimhoaeiafahaaDoorW.PrintWords Go.Proofs.YtpimhoaeiafahaaDoorW.PrintLast Go.Proofs.YtpimhoaeiafahaaDoorW.PrintMore Go.Proofs.YtpimhoaeiafahaaDoor.A Go.Proofs.YtpimhoaeiafahaaDoor.B Go.Proofs.YtpimhoaeiafahaaDoor.M0 Go.Proofs.YtpimhoaeiafahaaDoor.M6 Go.Proofs.YtpimhoaeiafahaaDoor.M7 Go.Proofs.YtpimhoaeiafahaaDoor.M8 Go.Proofs.YtpimhoaeiafahaaDoor.E1 Go.Proofs.YtpimhoaeiafahaaDoor.E2 Go.Proofs.YtpimhoaeiafahaaDoor.E3 Go.Proofs.YtpimhoaeiafahaaDoor.E5 Go.Proofs.YtpimhoaeiafahaaDoor.E6 Go.Proofs.YtpimhoaeiafahaaDoor.E7
set_option linter.unusedVariables false
set_option linter.unusedSimpArgs false

/-- The number that eight bytes tell, as both loops reckon it. -/
def acc (y : List Int) : Nat → Int
  | 0 => 0
  | i + 1 => Go.bits .or .u64 (IntKind.u64.wrap (acc y i * 256)) (IntKind.u64.wrap (rd y i))
def after (d v n : Int) (b : List Int) : Option (Int × Int × Int × List Int × Int) := (B.pkt_May.f d v n b).bind fun t => if t = true then some (d, v, n, b, 0) else some (0, 0, 0, [], 2)
theorem open_l0 (n : Nat) (y : List Int) (hy : y.length = 8) (d v : Int) (b : List Int) : ∀ (m i : Nat), i + m = 8 → T.pkt_Open.l0 (n + m + 1) y (y.length : Int) (i : Int) d v (acc y i) b = after d v (acc y 8) b
  | 0, i, h => by
    obtain rfl : i = 8 := by omega
    rw [T.pkt_Open.l0, if_neg (by omega)]
    rfl
  | m + 1, i, h => by
    have w : wrap64 ((i : Int) + 1) = ((i + 1 : Nat) : Int) := wr _ _ (by omega) (by omega) (by omega)
    rw [show n + (m + 1) + 1 = n + m + 1 + 1 by omega, T.pkt_Open.l0, if_pos (by omega), if_pos (by omega), if_pos (by omega), w]
    exact open_l0 n y hy d v b m (i + 1) (by omega)
theorem big_l0 (n : Nat) (y : List Int) (hy : y.length = 8) : ∀ (m i : Nat), i + m = 8 → T.tikref2_Big.l0 (n + m + 1) y (acc y i) (i : Int) = some (acc y 8)
  | 0, i, h => by
    obtain rfl : i = 8 := by omega
    rw [T.tikref2_Big.l0, if_neg (by omega)]
  | m + 1, i, h => by
    have w : wrap64 ((i : Int) + 1) = ((i + 1 : Nat) : Int) := wr _ _ (by omega) (by omega) (by omega)
    rw [show n + (m + 1) + 1 = n + m + 1 + 1 by omega, T.tikref2_Big.l0, if_pos (by omega), if_pos (by omega), w]
    exact big_l0 n y hy m (i + 1) (by omega)
theorem eq_bytes (x y : List Int) : ∃ r, T.mac_Equal.f x y = some r ∧ T.tikref_Bytes.f x y = some r := ⟨_, rfl, rfl⟩
theorem open_eq' (k : Nat) (key b t : List Int) (hl : b.length ≤ 3000) (h26 : ¬ b.length < 26) (hT : B.mac_Tag.f k key [b.take (b.length - 16)] = some t) (hR : T.tikref2_Tag.f k key (b.take (b.length - 16)) = some t) (hk : 20 ≤ k) :
    ∃ r, T.pkt_Open.f k key b = some r ∧ T.tikref25_Open.f k key b = some r := by
  have w : wrap64 ((b.length : Int) - 16) = ((b.length - 16 : Nat) : Int) := by unfold wrap64; omega
  have p1 : ¬ ((b.length - 16 : Nat) : Int) < 10 := by omega
  have p2 : (0 : Int) ≤ ((b.length - 16 : Nat) : Int) := by omega
  have p3 : ((b.length - 16 : Nat) : Int) ≤ (b.length : Int) := by omega
  have p4 : ¬ (b.length : Int) < 26 := by omega
  have p5 : (0 : Int) < (b.length : Int) := by omega
  have p6 : (1 : Int) < (b.length : Int) := by omega
  have p7 : (10 : Int) ≤ ((b.length - 16 : Nat) : Int) := by omega
  have p8 : (10 : Int) ≤ (b.length : Int) := by omega
  obtain ⟨r, hE, hB⟩ := eq_bytes t (b.drop (b.length - 16))
  have hy : ((b.take 10).drop 2).length = 8 := by rw [List.length_drop, List.length_take]; omega
  have hc : ((b.take (b.length - 16)).drop 10).length < 140737488355328 := by rw [List.length_drop, List.length_take]; omega
  generalize hb : (b.take (b.length - 16)).drop 10 = body at *
  have o := open_l0 (k - 9) _ hy (wrap64 (rd b 0)) (wrap64 (rd b 1)) body 8 0 rfl
  have g := big_l0 (k - 9) _ hy 8 0 rfl
  rw [show k - 9 + 8 + 1 = k by omega] at o g
  cases r with
  | false =>
    refine ⟨(0, 0, 0, [], 15), ?_, ?_⟩
    · unfold T.pkt_Open.f
      simp [w, p1, p2, p3, hT, hE]
    · unfold T.tikref25_Open.f
      simp [w, p4, p2, p3, hR, hB]
  | true =>
    obtain ⟨m, hm⟩ := may_some (wrap64 (rd b 0)) (wrap64 (rd b 1)) (acc ((b.take 10).drop 2) 8) body
    have o' : T.pkt_Open.l0 k ((b.take 10).drop 2) (((b.take 10).drop 2).length : Int) 0 (wrap64 (rd b 0)) (wrap64 (rd b 1)) 0 body = after (wrap64 (rd b 0)) (wrap64 (rd b 1)) (acc ((b.take 10).drop 2) 8) body := o
    have g' : T.tikref2_Big.f k ((b.take 10).drop 2) = some (acc ((b.take 10).drop 2) 8) := g
    have hC : bytes_Clone.f body = some body := by unfold bytes_Clone.f; rw [if_pos hc]
    have hD : T.tikref_CopyBytes.f body = some body := by
      unfold T.tikref_CopyBytes.f
      simp only [Option.bind_some, List.length_nil, List.nil_append, Nat.zero_add]
      rw [if_pos hc]
    refine ⟨if m = true then (wrap64 (rd b 0), wrap64 (rd b 1), acc ((b.take 10).drop 2) 8, body, 0) else (0, 0, 0, [], 2), ?_, ?_⟩
    · unfold T.pkt_Open.f
      simp only [w, Int.toNat_natCast, if_neg p1, if_pos p2, if_pos p3, hT, hE, Option.bind_some, if_true, if_pos p5, if_pos p6, if_pos p7, hb, hC, if_pos p8, show (2 : Nat) ≤ 10 by decide, show (2 : Int) ≤ 10 by decide, o', after, hm]
      cases m <;> rfl
    · unfold T.tikref25_Open.f
      simp only [w, Int.toNat_natCast, if_neg p4, if_pos p2, if_pos p3, hR, hB, Option.bind_some, if_true, if_pos p5, if_pos p6, if_pos p7, hb, hD, if_pos p8, show (2 : Nat) ≤ 10 by decide, show (2 : Int) ≤ 10 by decide, g', may_ref, hm]
      cases m <;> rfl
end Go.Proofs.YtpimhoaeiafahaaDoor.E8
