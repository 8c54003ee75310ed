/- What is opened, as one Lean function; two rows of bytes are the same text just if they are the same row. -/
import Derived.Test.YtpimhoaeiafahaaDoorE7
namespace Go.Proofs.YtpimhoaeiafahaaDoor.F0
open Go.RowKit Go.Proofs.YtpimhoaeiafahaaDoorW.PrintWords Go.Proofs.YtpimhoaeiafahaaDoorW.PrintLast Go.Proofs.YtpimhoaeiafahaaDoorW.PrintMore Go.Proofs.YtpimhoaeiafahaaDoor.A Go.Proofs.YtpimhoaeiafahaaDoor.B Go.Proofs.YtpimhoaeiafahaaDoor.M0 Go.Proofs.YtpimhoaeiafahaaDoor.M6 Go.Proofs.YtpimhoaeiafahaaDoor.M7 Go.Proofs.YtpimhoaeiafahaaDoor.M8 Go.Proofs.YtpimhoaeiafahaaDoor.E1 Go.Proofs.YtpimhoaeiafahaaDoor.E2 Go.Proofs.YtpimhoaeiafahaaDoor.E3 Go.Proofs.YtpimhoaeiafahaaDoor.E5 Go.Proofs.YtpimhoaeiafahaaDoor.E6 Go.Proofs.YtpimhoaeiafahaaDoor.E7
set_option linter.unusedVariables false
set_option linter.unusedSimpArgs false

def eqv (x y : List Int) : Bool := (strOfNums x).toList == (strOfNums y).toList
theorem eqv_self (x : List Int) : eqv x x = true := by unfold eqv; simp
theorem eqv_mac (x y : List Int) : T.mac_Equal.f x y = some (eqv x y) := rfl
theorem eqv_ref (x y : List Int) : T.tikref_Bytes.f x y = some (eqv x y) := rfl
theorem eqv_equal (x y : List Int) : T.bytes_Equal.f x y = some (eqv x y) := rfl
theorem map_inj : ∀ (x y : List Int), By x → By y → x.map (fun n => UInt8.ofNat n.toNat) = y.map (fun n => UInt8.ofNat n.toNat) → x = y
  | [], [], _, _, _ => rfl
  | [], _ :: _, _, _, h => by simp at h
  | _ :: _, [], _, _, h => by simp at h
  | a :: x, b :: y, hx, hy, h => by
    simp only [List.map_cons, List.cons.injEq] at h
    have ha := hx a (by simp)
    have hb := hy b (by simp)
    have e := congrArg UInt8.toNat h.1
    simp only [UInt8.toNat_ofNat'] at e
    have e2 : a = b := by omega
    rw [e2, map_inj x y (fun z hz => hx z (by simp [hz])) (fun z hz => hy z (by simp [hz])) h.2]
theorem eqv_eq {x y : List Int} (hx : By x) (hy : By y) (h : eqv x y = true) : x = y := by
  unfold eqv strOfNums at h
  rw [Go.ByteArray.toList_mk, Go.ByteArray.toList_mk] at h
  exact map_inj x y hx hy (by simpa using h)
theorem eqv_iff {x y : List Int} (hx : By x) (hy : By y) : eqv x y = decide (x = y) := by
  by_cases h : x = y
  · subst h; rw [eqv_self]; simp
  · rw [decide_eq_false h]
    cases h2 : eqv x y with
    | false => rfl
    | true => exact absurd (eqv_eq hx hy h2) h

/-- The number that eight bytes tell. -/
def acc (y : List Int) : Nat → Int
  | 0 => 0
  | i + 1 => Go.bits .or .u64 (IntKind.u64.wrap (acc y i * 256)) (IntKind.u64.wrap (rd y i))
theorem acc_step (y : List Int) (i : Nat) (x b : Int) (h : acc y i = x) (hb : rd y (i : Int) = b) (h0 : 0 ≤ x) (h1 : x < 72057594037927936) (h2 : 0 ≤ b) (h3 : b < 256) : acc y (i + 1) = x * 256 + b := by
  rw [acc, h, hb]
  exact or64_byte x b h0 h1 h2 h3
theorem acc8 (n : Int) (h0 : 0 ≤ n) (h1 : n < 9223372036854775808) : acc (len8 n) 8 = n := by
  have a1 : acc (len8 n) 1 = n / 72057594037927936 := by
    have := acc_step (len8 n) 0 0 (n / 72057594037927936 % 256) rfl rfl (by omega) (by omega) (by omega) (by omega)
    rw [this]; omega
  have a2 : acc (len8 n) 2 = n / 281474976710656 := by
    have := acc_step (len8 n) 1 _ (n / 281474976710656 % 256) a1 rfl (by omega) (by omega) (by omega) (by omega)
    rw [this]; omega
  have a3 : acc (len8 n) 3 = n / 1099511627776 := by
    have := acc_step (len8 n) 2 _ (n / 1099511627776 % 256) a2 rfl (by omega) (by omega) (by omega) (by omega)
    rw [this]; omega
  have a4 : acc (len8 n) 4 = n / 4294967296 := by
    have := acc_step (len8 n) 3 _ (n / 4294967296 % 256) a3 rfl (by omega) (by omega) (by omega) (by omega)
    rw [this]; omega
  have a5 : acc (len8 n) 5 = n / 16777216 := by
    have := acc_step (len8 n) 4 _ (n / 16777216 % 256) a4 rfl (by omega) (by omega) (by omega) (by omega)
    rw [this]; omega
  have a6 : acc (len8 n) 6 = n / 65536 := by
    have := acc_step (len8 n) 5 _ (n / 65536 % 256) a5 rfl (by omega) (by omega) (by omega) (by omega)
    rw [this]; omega
  have a7 : acc (len8 n) 7 = n / 256 := by
    have := acc_step (len8 n) 6 _ (n / 256 % 256) a6 rfl (by omega) (by omega) (by omega) (by omega)
    rw [this]; omega
  have := acc_step (len8 n) 7 _ (n % 256) a7 rfl (by omega) (by omega) (by omega) (by omega)
  rw [this]; omega

def mayB (d v n : Int) (b : List Int) : Bool := (B.pkt_May.f d v n b).getD false
theorem may_val (d v n : Int) (b : List Int) : B.pkt_May.f d v n b = some (mayB d v n b) := by
  obtain ⟨r, h⟩ := may_some d v n b
  unfold mayB
  rw [h]; rfl
def after (d v n : Int) (b : List Int) : Int × Int × Int × List Int × Int := if mayB d v n b = true then (d, v, n, b, 0) else (0, 0, 0, [], 2)
def openF (key b : List Int) : Int × Int × Int × List Int × Int :=
  if b.length < 26 then (0, 0, 0, [], 3)
  else if eqv (tag key (b.take (b.length - 16))) (b.drop (b.length - 16)) = true then after (wrap64 (rd b 0)) (wrap64 (rd b 1)) (acc ((b.take 10).drop 2) 8) ((b.take (b.length - 16)).drop 10)
  else (0, 0, 0, [], 15)
theorem wr1 (i : Nat) (h : i < 100) : wrap64 ((i : Int) + 1) = ((i + 1 : Nat) : Int) := by unfold wrap64; omega
theorem open_l0 (n : Nat) (y : List Int) (hy : y.length = 8) (d v : Int) (b : List Int) : ∀ (m i : Nat), i + m = 8 → T.pkt_Open.l0 (n + m + 1) y (y.length : Int) (i : Int) d v (acc y i) b = some (after d v (acc y 8) b)
  | 0, i, h => by
    obtain rfl : i = 8 := by omega
    rw [T.pkt_Open.l0, if_neg (by omega), may_T, may_val]
    unfold after
    cases mayB d v (acc y 8) b <;> rfl
  | m + 1, i, h => by
    rw [show n + (m + 1) + 1 = n + m + 1 + 1 by omega, T.pkt_Open.l0, if_pos (by omega), if_pos (by omega), if_pos (by omega), wr1 i (by omega)]
    exact open_l0 n y hy d v b m (i + 1) (by omega)
theorem open_val (k : Nat) (key b : List Int) (hkl : key.length ≤ 1000000) (hl : b.length ≤ 900000) (hk : 100 ≤ k) : T.pkt_Open.f k key b = some (openF key b) := by
  by_cases h26 : b.length < 26
  · have w : wrap64 ((b.length : Int) - 16) = (b.length : Int) - 16 := by unfold wrap64; omega
    unfold T.pkt_Open.f openF
    rw [w, if_pos (by omega), if_pos h26]
  · have hT := mac_tag (k - 73) key (b.take (b.length - 16)) hkl (by rw [List.length_take]; omega) (by rw [List.length_take]; omega)
    rw [show k - 73 + 73 = k by omega] at hT
    have w : wrap64 ((b.length : Int) - 16) = ((b.length - 16 : Nat) : Int) := by unfold wrap64; omega
    have p1 : ¬ ((b.length - 16 : Nat) : Int) < 10 := by omega
    have p2 : (0 : Int) ≤ ((b.length - 16 : Nat) : Int) := by omega
    have p3 : ((b.length - 16 : Nat) : Int) ≤ (b.length : Int) := by omega
    have p5 : (0 : Int) < (b.length : Int) := by omega
    have p6 : (1 : Int) < (b.length : Int) := by omega
    have p7 : (10 : Int) ≤ ((b.length - 16 : Nat) : Int) := by omega
    have p8 : (10 : Int) ≤ (b.length : Int) := by omega
    have hy : ((b.take 10).drop 2).length = 8 := by rw [List.length_drop, List.length_take]; omega
    have hc : ((b.take (b.length - 16)).drop 10).length < 140737488355328 := by rw [List.length_drop, List.length_take]; omega
    unfold openF
    rw [if_neg h26]
    generalize ht : tag key (b.take (b.length - 16)) = t at *
    generalize hb : (b.take (b.length - 16)).drop 10 = body at *
    have o := open_l0 (k - 9) _ hy (wrap64 (rd b 0)) (wrap64 (rd b 1)) body 8 0 rfl
    rw [show k - 9 + 8 + 1 = k by omega] at o
    have hE := eqv_mac t (b.drop (b.length - 16))
    generalize eqv t (b.drop (b.length - 16)) = q at *
    cases q with
    | false =>
      unfold T.pkt_Open.f
      simp [w, p1, p2, p3, hT, hE]
    | true =>
      have o' : T.pkt_Open.l0 k ((b.take 10).drop 2) (((b.take 10).drop 2).length : Int) 0 (wrap64 (rd b 0)) (wrap64 (rd b 1)) 0 body = some (after (wrap64 (rd b 0)) (wrap64 (rd b 1)) (acc ((b.take 10).drop 2) 8) body) := o
      have hC : bytes_Clone.f body = some body := by unfold bytes_Clone.f; rw [if_pos hc]
      unfold T.pkt_Open.f
      simp only [w, Int.toNat_natCast, if_neg p1, if_pos p2, if_pos p3, hT, hE, Option.bind_some, if_true, if_pos p5, if_pos p6, if_pos p7, hb, hC, if_pos p8, show (2 : Nat) ≤ 10 by decide, show (2 : Int) ≤ 10 by decide, o']

def sealB (key : List Int) (d v n : Int) (b : List Int) : List Int := body_ d v n b ++ tag key (body_ d v n b)
theorem body_len (d v n : Int) (b : List Int) : (body_ d v n b).length = 10 + b.length := by unfold body_; rw [List.length_append, headB_len]
theorem sealB_len (key : List Int) (d v n : Int) (b : List Int) : (sealB key d v n b).length = 26 + b.length := by unfold sealB; rw [List.length_append, body_len, tag_len]; omega
theorem sealB_by (key : List Int) (d v n : Int) (b : List Int) (hb : By b) : By (sealB key d v n b) := (by_body d v n b hb).append (tag_by _ _)
theorem seal_val (k : Nat) (key : List Int) (d v n : Int) (b : List Int) (hk : key.length ≤ 1000000) (h : 100 ≤ k) : M8.pkt_Seal.f k key d v n b = some (if mayB d v n b = true then (sealB key d v n b, 0) else ([], 1)) := by
  have hm := may_val d v n b
  cases e : mayB d v n b with
  | true =>
    rw [e] at hm
    have := seal_some (k - 73) key d v n b hm hk
    rw [show k - 73 + 73 = k by omega] at this
    rw [this, if_pos rfl]; rfl
  | false =>
    rw [e] at hm
    rw [seal_none k key d v n b hm, if_neg (by decide)]
theorem take_body (key : List Int) (d v n : Int) (b : List Int) : (sealB key d v n b).take ((sealB key d v n b).length - 16) = body_ d v n b := by
  rw [sealB_len]; unfold sealB
  rw [List.take_append_of_le_length (by rw [body_len]; omega), List.take_of_length_le (by rw [body_len]; omega)]
theorem drop_body (key : List Int) (d v n : Int) (b : List Int) : (sealB key d v n b).drop ((sealB key d v n b).length - 16) = tag key (body_ d v n b) := by
  rw [sealB_len]; unfold sealB
  rw [List.drop_append_of_le_length (by rw [body_len]; omega), List.drop_of_length_le (by rw [body_len]; omega), List.nil_append]
theorem body_eq (d v n : Int) (b : List Int) : body_ d v n b = d % 256 :: v % 256 :: (len8 n ++ b) := by unfold body_; rw [head_eq]; rfl
theorem len8_len (n : Int) : (len8 n).length = 8 := rfl
theorem num_of (key : List Int) (d v n : Int) (b : List Int) : ((sealB key d v n b).take 10).drop 2 = len8 n := by
  unfold sealB
  rw [List.take_append_of_le_length (by rw [body_len]; omega), body_eq]
  show ((len8 n ++ b).take 8) = len8 n
  rw [List.take_append_of_le_length (by rw [len8_len]; omega), List.take_of_length_le (by rw [len8_len]; omega)]
theorem drop10 (d v n : Int) (b : List Int) : (body_ d v n b).drop 10 = b := by
  rw [body_eq]
  show (len8 n ++ b).drop 8 = b
  rw [List.drop_append_of_le_length (by rw [len8_len]; omega), List.drop_of_length_le (by rw [len8_len]; omega), List.nil_append]
theorem may_of {d v n : Int} {b : List Int} (h : mayB d v n b = true) : (d = 1 ∨ d = 2) ∧ 0 ≤ v ∧ v < 8 ∧ 1 ≤ n ∧ n ≤ 4611686018427387904 ∧ b.length ≤ 1200 := may_true d v n b (by rw [may_val, h])
theorem open_sealed (key : List Int) (d v n : Int) (b : List Int) (hm : mayB d v n b = true) : openF key (sealB key d v n b) = (d, v, n, b, 0) := by
  obtain ⟨hd, hv0, hv1, hn0, hn1, hb⟩ := may_of hm
  have r0 : rd (sealB key d v n b) 0 = d % 256 := by unfold sealB; rw [body_eq]; rfl
  have r1 : rd (sealB key d v n b) 1 = v % 256 := by unfold sealB; rw [body_eq]; rfl
  have w0 : wrap64 (d % 256) = d := by unfold wrap64; omega
  have w1 : wrap64 (v % 256) = v := by unfold wrap64; omega
  unfold openF
  rw [if_neg (by rw [sealB_len]; omega), take_body, drop_body, eqv_self, if_pos rfl, num_of, drop10, r0, r1, w0, w1, acc8 n (by omega) (by omega)]
  unfold after
  rw [if_pos hm]
end Go.Proofs.YtpimhoaeiafahaaDoor.F0
