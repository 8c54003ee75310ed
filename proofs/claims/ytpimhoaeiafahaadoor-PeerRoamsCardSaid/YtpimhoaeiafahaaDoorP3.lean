/- What the program's peer sends and takes, as Lean functions, and one contract of each. -/
import Derived.Test.YtpimhoaeiafahaaDoorP2
namespace Go.Proofs.YtpimhoaeiafahaaDoor.P3
open Go.RowKit Go.Proofs.YtpimhoaeiafahaaDoorW.PrintWords Go.Proofs.YtpimhoaeiafahaaDoorW.PrintLast Go.Proofs.YtpimhoaeiafahaaDoorW.PrintMore Go.Proofs.YtpimhoaeiafahaaDoor.M0 Go.Proofs.YtpimhoaeiafahaaDoor.M8 Go.Proofs.YtpimhoaeiafahaaDoor.E1 Go.Proofs.YtpimhoaeiafahaaDoor.F0 Go.Proofs.YtpimhoaeiafahaaDoor.P0 Go.Proofs.YtpimhoaeiafahaaDoor.P1 Go.Proofs.YtpimhoaeiafahaaDoor.P2
set_option linter.unusedVariables false
set_option linter.unusedSimpArgs false

/-- What is sent, why not, and the counter behind it. -/
def sendF (key : List Int) (dir viewer out : Int) (body : List Int) : List Int × Int × Int :=
  if out ≥ 4611686018427387904 then ([], 17, out) else if (body.length : Int) > 1200 then ([], 4, out) else if mayB dir viewer (out + 1) body = true then (sealB key dir viewer (out + 1) body, 0, out + 1) else ([], 1, out)
/-- What is taken, why not, the last number and the address behind it. -/
def takeF (key : List Int) (dir viewer last addr frm : Int) (b : List Int) : List Int × Int × Int × Int :=
  if (openF key b).2.2.2.2 = 0 then (if (openF key b).1 = dir then ([], 2, last, addr) else if (openF key b).2.1 = viewer then (if (openF key b).2.2.1 > last then ((openF key b).2.2.2.1, 0, (openF key b).2.2.1, if frm ≥ 0 then frm else addr) else ([], 14, last, addr)) else ([], 2, last, addr)) else ([], (openF key b).2.2.2.2, last, addr)

section
variable {w : World} {base top g gi : Nat} {K : Option Addr} {kc : Nat} {key : List Int} {dir viewer out last addr : Int}
theorem send_any (A1 : Option Addr) (c1 : Nat) (body : List Int) (h : PeerAt w base top g gi K kc key dir viewer out last addr) (hr1 : Kd.C (Kd.int .u8) w A1 body.length body) (hc1 : body.length ≤ c1) (hG : LaidG w) (h0 : 0 ≤ out) (hk : key.length ≤ 1000000) :
    Calls Tryd.prog 31 #[.pointer (some ⟨g, 0, none⟩), .slice A1 body.length c1] w fun e w' => ∃ v : Value, e = .returned (.tuple #[v, .int .i64 (sendF key dir viewer out body).2.1]) ∧ Kd.R (Kd.int .u8) 5 w' w.heap.size (fun _ => True) v (sendF key dir viewer out body).1 ∧ PeerAt w' base top g gi K kc key dir viewer (sendF key dir viewer out body).2.2 last addr ∧ KeepBut w w' g none ∧ ∀ w0 : World, Below w0.heap.size w0 w → w0.heap.size ≤ base → Below w0.heap.size w0 w' := by
  unfold sendF
  by_cases c1' : out ≥ 4611686018427387904
  · simp only [if_pos c1']
    refine (send_full A1 c1 body h c1').mono ?_
    rintro e w' ⟨rfl, rfl⟩
    exact ⟨_, rfl, Kd.R_nil _ _ _ _ _, h, KeepBut.refl _ _ _, fun w0 h0 _ => h0⟩
  · simp only [if_neg c1']
    by_cases c2 : (body.length : Int) > 1200
    · simp only [if_pos c2]
      refine (send_long A1 c1 body h c1' c2).mono ?_
      rintro e w' ⟨rfl, rfl⟩
      exact ⟨_, rfl, Kd.R_nil _ _ _ _ _, h, KeepBut.refl _ _ _, fun w0 h0 _ => h0⟩
    · simp only [if_neg c2]
      have hv := seal_val 100 key dir viewer (out + 1) body hk (Nat.le_refl _)
      by_cases c3 : mayB dir viewer (out + 1) body = true
      · simp only [if_pos c3] at hv ⊢
        exact send_ok 100 A1 c1 body _ h hr1 hc1 hG h0 c1' c2 hv
      · simp only [if_neg c3] at hv ⊢
        refine (send_bad 100 A1 c1 body _ 1 h hr1 hc1 hG h0 c1' c2 hv (by decide)).mono ?_
        rintro e w' ⟨rfl, hb⟩
        exact ⟨_, rfl, Kd.R_nil _ _ _ _ _, h.below hb, KeepBut.of_below hb _ _, fun w0 h0 _ => below_step h0 hb⟩
theorem take_any (frm : Int) (A1 : Option Addr) (c1 : Nat) (b : List Int) (h : PeerAt w base top g gi K kc key dir viewer out last addr) (hr1 : Kd.C (Kd.int .u8) w A1 b.length b) (hc1 : b.length ≤ c1) (hG : LaidG w) (hk : key.length ≤ 1000000) (hb : b.length ≤ 900000) :
    Calls Tryd.prog 33 #[.pointer (some ⟨g, 0, none⟩), .int .i64 frm, .slice A1 b.length c1] w fun e w' => ∃ v : Value, e = .returned (.tuple #[v, .int .i64 (takeF key dir viewer last addr frm b).2.1]) ∧ Kd.R (Kd.int .u8) 5 w' w.heap.size (fun _ => True) v (takeF key dir viewer last addr frm b).1 ∧ PeerAt w' base top g gi K kc key dir viewer out (takeF key dir viewer last addr frm b).2.2.1 (takeF key dir viewer last addr frm b).2.2.2 ∧ Kept w w' (fun k => k = g ∨ k = gi) ∧ ∀ w0 : World, Below w0.heap.size w0 w → w0.heap.size ≤ base → Below w0.heap.size w0 w' := by
  have hv := open_val 100 key b hk hb (Nat.le_refl _)
  have none_ : ∀ (er : Int) (e : Ending) (w' : World), e = .returned (.tuple #[.slice none 0 0, .int .i64 er]) ∧ Below w.heap.size w w' → ∃ v : Value, e = .returned (.tuple #[v, .int .i64 er]) ∧ Kd.R (Kd.int .u8) 5 w' w.heap.size (fun _ => True) v [] ∧ PeerAt w' base top g gi K kc key dir viewer out last addr ∧ Kept w w' (fun k => k = g ∨ k = gi) ∧ ∀ w0 : World, Below w0.heap.size w0 w → w0.heap.size ≤ base → Below w0.heap.size w0 w' := by
    rintro er e w' ⟨rfl, hb⟩
    exact ⟨_, rfl, Kd.R_nil _ _ _ _ _, h.below hb, Kept.of_below hb _, fun w0 h0 _ => below_step h0 hb⟩
  unfold takeF
  generalize openF key b = ox at hv ⊢
  obtain ⟨r1, r2, r3, r4, er⟩ := ox
  dsimp only
  by_cases c0 : er = 0
  · subst c0
    simp only [if_true]
    by_cases c1' : r1 = dir
    · simp only [if_pos c1']
      exact (take_form1 100 frm A1 c1 b r1 r2 r3 r4 h hr1 hc1 hG hv (by simp [c1'])).mono (none_ 2)
    · simp only [if_neg c1']
      by_cases c2 : r2 = viewer
      · simp only [if_pos c2]
        by_cases c3 : r3 > last
        · simp only [if_pos c3]
          exact take_ok 100 frm A1 c1 b r1 r2 r3 r4 h hr1 hc1 hG hv (by simp [c1']) (by simp [c2]) c3 _ rfl
        · simp only [if_neg c3]
          exact (take_replay 100 frm A1 c1 b r1 r2 r3 r4 h hr1 hc1 hG hv (by simp [c1']) (by simp [c2]) c3).mono (none_ 14)
      · simp only [if_neg c2]
        exact (take_form2 100 frm A1 c1 b r1 r2 r3 r4 h hr1 hc1 hG hv (by simp [c1']) (by simp [c2])).mono (none_ 2)
  · simp only [if_neg c0]
    exact (take_bad 100 frm A1 c1 b r1 r2 r3 r4 er h hr1 hc1 hG hv c0).mono (none_ er)
theorem send_to (A1 : Option Addr) (c1 : Nat) (body x : List Int) (er o' : Int) (hs : sendF key dir viewer out body = (x, er, o')) (h : PeerAt w base top g gi K kc key dir viewer out last addr) (hr1 : Kd.C (Kd.int .u8) w A1 body.length body) (hc1 : body.length ≤ c1) (hG : LaidG w) (h0 : 0 ≤ out) (hk : key.length ≤ 1000000) :
    Calls Tryd.prog 31 #[.pointer (some ⟨g, 0, none⟩), .slice A1 body.length c1] w fun e w' => ∃ v : Value, e = .returned (.tuple #[v, .int .i64 er]) ∧ Kd.R (Kd.int .u8) 5 w' w.heap.size (fun _ => True) v x ∧ PeerAt w' base top g gi K kc key dir viewer o' last addr ∧ KeepBut w w' g none ∧ ∀ w0 : World, Below w0.heap.size w0 w → w0.heap.size ≤ base → Below w0.heap.size w0 w' := by
  have := send_any A1 c1 body h hr1 hc1 hG h0 hk
  rw [hs] at this
  exact this
theorem take_to (frm : Int) (A1 : Option Addr) (c1 : Nat) (b x : List Int) (er l' a' : Int) (hs : takeF key dir viewer last addr frm b = (x, er, l', a')) (h : PeerAt w base top g gi K kc key dir viewer out last addr) (hr1 : Kd.C (Kd.int .u8) w A1 b.length b) (hc1 : b.length ≤ c1) (hG : LaidG w) (hk : key.length ≤ 1000000) (hb : b.length ≤ 900000) :
    Calls Tryd.prog 33 #[.pointer (some ⟨g, 0, none⟩), .int .i64 frm, .slice A1 b.length c1] w fun e w' => ∃ v : Value, e = .returned (.tuple #[v, .int .i64 er]) ∧ Kd.R (Kd.int .u8) 5 w' w.heap.size (fun _ => True) v x ∧ PeerAt w' base top g gi K kc key dir viewer out l' a' ∧ Kept w w' (fun k => k = g ∨ k = gi) ∧ ∀ w0 : World, Below w0.heap.size w0 w → w0.heap.size ≤ base → Below w0.heap.size w0 w' := by
  have := take_any frm A1 c1 b h hr1 hc1 hG hk hb
  rw [hs] at this
  exact this
end
end Go.Proofs.YtpimhoaeiafahaaDoor.P3
