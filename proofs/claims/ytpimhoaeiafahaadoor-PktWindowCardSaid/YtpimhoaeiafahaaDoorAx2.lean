/- Lean functions and contracts of Go functions, written by a program of this session out of the translation; Lean checks them. -/
import Derived.Test.YtpimhoaeiafahaaDoorAx0
import Derived.Test.YtpimhoaeiafahaaDoorAx1
namespace Go.Proofs.YtpimhoaeiafahaaDoor.A
open Go.Proofs.YtpimhoaeiafahaaDoor.M0
open Go.RowKit Go.Proofs.YtpimhoaeiafahaaDoorW.PrintWords Go.Proofs.YtpimhoaeiafahaaDoorW.PrintLast Go.Proofs.YtpimhoaeiafahaaDoorW.PrintMore
attribute [local go_sem] max2_int min2_int max_two min_two max_three min_three max_four min_four   -- for this text's walks alone
set_option linter.unusedVariables false
set_option linter.unusedSimpArgs false

/-! ### tikref2_block: function 52 -/
mutual
def tikref2_block.l0 : Nat → List Int → List Int → List Int → List Int → Int → Option (List Int)
  | 0, _, _, _, _, _ => none
  | k + 1, x0, x1, x2, x7, x8 => if x8 < 16 then (if 0 ≤ (wrap64 (4 * x8)) then (if (wrap64 (4 * x8)) ≤ (wrap64 ((wrap64 (4 * x8)) + 4)) then (if (wrap64 ((wrap64 (4 * x8)) + 4)) ≤ (x2.length : Int) then ((tikref2_Big.f k ((x2.take ((wrap64 ((wrap64 (4 * x8)) + 4)) : Int).toNat).drop ((wrap64 (4 * x8)) : Int).toNat)).bind fun t140 => (if 0 ≤ x8 then (if x8 < (x7.length : Int) then (tikref2_block.l0 k x0 x1 x2 (x7.set (x8 : Int).toNat ((t140) % 4294967296)) (wrap64 (x8 + 1))) else (none)) else (none))) else (none)) else (none)) else (none)) else (tikref2_block.l1 k x0 x1 x7 16)
def tikref2_block.l1 : Nat → List Int → List Int → List Int → Int → Option (List Int)
  | 0, _, _, _, _ => none
  | k + 1, x0, x1, x7, x9 => if x9 < 64 then (if 0 ≤ (wrap64 (x9 - 15)) then (if (wrap64 (x9 - 15)) < (x7.length : Int) then (if 0 ≤ (wrap64 (x9 - 2)) then (if (wrap64 (x9 - 2)) < (x7.length : Int) then (if 0 ≤ (wrap64 (x9 - 16)) then (if (wrap64 (x9 - 16)) < (x7.length : Int) then ((tikref2_turn.f (rd x7 (wrap64 (x9 - 15))) 7).bind fun t145 => ((tikref2_turn.f (rd x7 (wrap64 (x9 - 15))) 18).bind fun t146 => (if 0 ≤ (wrap64 (x9 - 7)) then (if (wrap64 (x9 - 7)) < (x7.length : Int) then ((tikref2_turn.f (rd x7 (wrap64 (x9 - 2))) 17).bind fun t148 => ((tikref2_turn.f (rd x7 (wrap64 (x9 - 2))) 19).bind fun t149 => (if 0 ≤ x9 then (if x9 < (x7.length : Int) then (tikref2_block.l1 k x0 x1 (x7.set (x9 : Int).toNat (((((((rd x7 (wrap64 (x9 - 16))) + (Go.bits .xor .u32 (Go.bits .xor .u32 t145 t146) ((rd x7 (wrap64 (x9 - 15))) / 8))) % 4294967296) + (rd x7 (wrap64 (x9 - 7)))) % 4294967296) + (Go.bits .xor .u32 (Go.bits .xor .u32 t148 t149) ((rd x7 (wrap64 (x9 - 2))) / 1024))) % 4294967296)) (wrap64 (x9 + 1))) else (none)) else (none)))) else (none)) else (none)))) else (none)) else (none)) else (none)) else (none)) else (none)) else (none)) else ((some (([] : List Int) : List Int)).bind fun y151 => (if y151.length + x0.length < 35184372088832 then (tikref2_block.l2 k x0 x1 x7 (y151 ++ x0) 0) else (none)))
def tikref2_block.l2 : Nat → List Int → List Int → List Int → List Int → Int → Option (List Int)
  | 0, _, _, _, _, _ => none
  | k + 1, x0, x1, x7, x12, x13 => if x13 < 64 then (if 7 < (x12.length : Int) then (if 4 < (x12.length : Int) then ((tikref2_turn.f (rd x12 4) 6).bind fun t159 => ((tikref2_turn.f (rd x12 4) 11).bind fun t161 => ((tikref2_turn.f (rd x12 4) 25).bind fun t163 => (if 5 < (x12.length : Int) then (if 6 < (x12.length : Int) then (if 0 ≤ x13 then (if x13 < (x1.length : Int) then (if x13 < (x7.length : Int) then (if 0 < (x12.length : Int) then ((tikref2_turn.f (rd x12 0) 2).bind fun t171 => ((tikref2_turn.f (rd x12 0) 13).bind fun t173 => ((tikref2_turn.f (rd x12 0) 22).bind fun t175 => (if 1 < (x12.length : Int) then (if 2 < (x12.length : Int) then (if 3 < (x12.length : Int) then (tikref2_block.l2 k x0 x1 x7 (([((((((((((rd x12 7) + (Go.bits .xor .u32 (Go.bits .xor .u32 t159 t161) t163)) % 4294967296) + (Go.bits .xor .u32 (Go.bits .and .u32 (rd x12 4) (rd x12 5)) (Go.bits .and .u32 (Go.bits .xor .u32 4294967295 (rd x12 4)) (rd x12 6)))) % 4294967296) + (rd x1 x13)) % 4294967296) + (rd x7 x13)) % 4294967296) + (((Go.bits .xor .u32 (Go.bits .xor .u32 t171 t173) t175) + (Go.bits .xor .u32 (Go.bits .xor .u32 (Go.bits .and .u32 (rd x12 0) (rd x12 1)) (Go.bits .and .u32 (rd x12 0) (rd x12 2))) (Go.bits .and .u32 (rd x12 1) (rd x12 2)))) % 4294967296)) % 4294967296, rd x12 0, rd x12 1, rd x12 2, ((rd x12 3) + (((((((((rd x12 7) + (Go.bits .xor .u32 (Go.bits .xor .u32 t159 t161) t163)) % 4294967296) + (Go.bits .xor .u32 (Go.bits .and .u32 (rd x12 4) (rd x12 5)) (Go.bits .and .u32 (Go.bits .xor .u32 4294967295 (rd x12 4)) (rd x12 6)))) % 4294967296) + (rd x1 x13)) % 4294967296) + (rd x7 x13)) % 4294967296)) % 4294967296, rd x12 4, rd x12 5, rd x12 6] : List Int)) (wrap64 (x13 + 1))) else (none)) else (none)) else (none))))) else (none)) else (none)) else (none)) else (none)) else (none)) else (none))))) else (none)) else (none)) else (tikref2_block.l3 k x0 x12 0)
def tikref2_block.l3 : Nat → List Int → List Int → Int → Option (List Int)
  | 0, _, _, _ => none
  | k + 1, x0, x12, x16 => if x16 < 8 then (if 0 ≤ x16 then (if x16 < (x12.length : Int) then (if x16 < (x0.length : Int) then (tikref2_block.l3 k x0 (x12.set (x16 : Int).toNat (((rd x12 x16) + (rd x0 x16)) % 4294967296)) (wrap64 (x16 + 1))) else (none)) else (none)) else (none)) else (some x12)
end
def tikref2_block.f (k : Nat) (l0 : List Int) (l1 : List Int) (l2 : List Int) : Option (List Int) := if 64 ≤ 70368744177664 then (tikref2_block.l0 k l0 l1 l2 (List.replicate 64 0) 0) else (none)
theorem tikref2_block.mono_l : ∀ k, (∀ y0 y1 y2 y3 y4, LeO (tikref2_block.l0 k y0 y1 y2 y3 y4) (tikref2_block.l0 (k + 1) y0 y1 y2 y3 y4)) ∧ (∀ y0 y1 y2 y3, LeO (tikref2_block.l1 k y0 y1 y2 y3) (tikref2_block.l1 (k + 1) y0 y1 y2 y3)) ∧ (∀ y0 y1 y2 y3 y4, LeO (tikref2_block.l2 k y0 y1 y2 y3 y4) (tikref2_block.l2 (k + 1) y0 y1 y2 y3 y4)) ∧ (∀ y0 y1 y2, LeO (tikref2_block.l3 k y0 y1 y2) (tikref2_block.l3 (k + 1) y0 y1 y2))
  | 0 => ⟨fun _ _ _ _ _ r h => by simp [tikref2_block.l0] at h, fun _ _ _ _ r h => by simp [tikref2_block.l1] at h, fun _ _ _ _ _ r h => by simp [tikref2_block.l2] at h, fun _ _ _ r h => by simp [tikref2_block.l3] at h⟩
  | k + 1 => by
    obtain ⟨ih0, ih1, ih2, ih3⟩ := tikref2_block.mono_l k
    refine ⟨?_, ?_, ?_, ?_⟩
    · intro y0 y1 y2 y3 y4
      unfold tikref2_block.l0
      repeat' first
      | (with_reducible exact ih0 _ _ _ _ _)
      | (with_reducible exact ih1 _ _ _ _)
      | (with_reducible exact ih2 _ _ _ _ _)
      | (with_reducible exact ih3 _ _ _)
      | (with_reducible exact tikref2_Big.mono _ _)
      | (with_reducible exact LeO.refl _)
      | (with_reducible exact LeO.none _)
      | (with_reducible refine LeO.ite ?_ ?_)
      | (with_reducible refine LeO.bind ?_ (fun _ => ?_))
      | exact ih0 _ _ _ _ _
      | exact ih1 _ _ _ _
      | exact ih2 _ _ _ _ _
      | exact ih3 _ _ _
      | exact tikref2_Big.mono _ _
      | exact LeO.none _
      | refine LeO.ite ?_ ?_
      | refine LeO.bind ?_ (fun _ => ?_)
    · intro y0 y1 y2 y3
      unfold tikref2_block.l1
      repeat' first
      | (with_reducible exact ih0 _ _ _ _ _)
      | (with_reducible exact ih1 _ _ _ _)
      | (with_reducible exact ih2 _ _ _ _ _)
      | (with_reducible exact ih3 _ _ _)
      | (with_reducible exact tikref2_Big.mono _ _)
      | (with_reducible exact LeO.refl _)
      | (with_reducible exact LeO.none _)
      | (with_reducible refine LeO.ite ?_ ?_)
      | (with_reducible refine LeO.bind ?_ (fun _ => ?_))
      | exact ih0 _ _ _ _ _
      | exact ih1 _ _ _ _
      | exact ih2 _ _ _ _ _
      | exact ih3 _ _ _
      | exact tikref2_Big.mono _ _
      | exact LeO.none _
      | refine LeO.ite ?_ ?_
      | refine LeO.bind ?_ (fun _ => ?_)
    · intro y0 y1 y2 y3 y4
      unfold tikref2_block.l2
      repeat' first
      | (with_reducible exact ih0 _ _ _ _ _)
      | (with_reducible exact ih1 _ _ _ _)
      | (with_reducible exact ih2 _ _ _ _ _)
      | (with_reducible exact ih3 _ _ _)
      | (with_reducible exact tikref2_Big.mono _ _)
      | (with_reducible exact LeO.refl _)
      | (with_reducible exact LeO.none _)
      | (with_reducible refine LeO.ite ?_ ?_)
      | (with_reducible refine LeO.bind ?_ (fun _ => ?_))
      | exact ih0 _ _ _ _ _
      | exact ih1 _ _ _ _
      | exact ih2 _ _ _ _ _
      | exact ih3 _ _ _
      | exact tikref2_Big.mono _ _
      | exact LeO.none _
      | refine LeO.ite ?_ ?_
      | refine LeO.bind ?_ (fun _ => ?_)
    · intro y0 y1 y2
      unfold tikref2_block.l3
      repeat' first
      | (with_reducible exact ih0 _ _ _ _ _)
      | (with_reducible exact ih1 _ _ _ _)
      | (with_reducible exact ih2 _ _ _ _ _)
      | (with_reducible exact ih3 _ _ _)
      | (with_reducible exact tikref2_Big.mono _ _)
      | (with_reducible exact LeO.refl _)
      | (with_reducible exact LeO.none _)
      | (with_reducible refine LeO.ite ?_ ?_)
      | (with_reducible refine LeO.bind ?_ (fun _ => ?_))
      | exact ih0 _ _ _ _ _
      | exact ih1 _ _ _ _
      | exact ih2 _ _ _ _ _
      | exact ih3 _ _ _
      | exact tikref2_Big.mono _ _
      | exact LeO.none _
      | refine LeO.ite ?_ ?_
      | refine LeO.bind ?_ (fun _ => ?_)
theorem tikref2_block.mono : ∀ a0 a1 a2 k, LeO (tikref2_block.f k a0 a1 a2) (tikref2_block.f (k + 1) a0 a1 a2) := by
  intro a0 a1 a2 k
  obtain ⟨ih0, ih1, ih2, ih3⟩ := tikref2_block.mono_l k
  unfold tikref2_block.f
  repeat' first
      | (with_reducible exact ih0 _ _ _ _ _)
      | (with_reducible exact ih1 _ _ _ _)
      | (with_reducible exact ih2 _ _ _ _ _)
      | (with_reducible exact ih3 _ _ _)
      | (with_reducible exact tikref2_Big.mono _ _)
      | (with_reducible exact LeO.refl _)
      | (with_reducible exact LeO.none _)
      | (with_reducible refine LeO.ite ?_ ?_)
      | (with_reducible refine LeO.bind ?_ (fun _ => ?_))
      | exact ih0 _ _ _ _ _
      | exact ih1 _ _ _ _
      | exact ih2 _ _ _ _ _
      | exact ih3 _ _ _
      | exact tikref2_Big.mono _ _
      | exact LeO.none _
      | refine LeO.ite ?_ ?_
      | refine LeO.bind ?_ (fun _ => ?_)
def tikref2_block.T9 : Bool × List (List Nat × List Nat) := (true, [([], []), ([], []), ([1], [1]), ([0, 2], [0, 2]), ([3], [3]), ([], []), ([], []), ([6], [6]), ([5, 7], [5, 7]), ([8], [8]), ([4, 0, 1, 2, 3, 4], [4]), ([9, 10, 0, 1, 2, 3, 4, 5, 6, 7, 8, 9, 10], [9])])
def tikref2_block.B9 : List Nat := [0, 0, 2, 7, 15, 0, 0, 64, 224, 480, 31, 2047]
theorem tikref2_block.tab9 : rtab .any (opsOf Tryd.f52 9) = tikref2_block.T9 := by kernel_rfl
theorem tikref2_block.bits9 : waitsOk tikref2_block.T9.2 tikref2_block.B9 = true := by kernel_rfl
def tikref2_block.T10 : Bool × List (List Nat × List Nat) := (true, [([], []), ([], []), ([], []), ([], []), ([3], [3]), ([2, 4], [2, 4]), ([5], [5]), ([], []), ([7], [7]), ([], []), ([9, 8], [9]), ([8, 10], [8, 10]), ([], []), ([12], [12]), ([11, 13], [11, 13]), ([6, 14], [6, 14]), ([], []), ([], []), ([17], [17]), ([16, 18], [16, 18]), ([19], [19]), ([15, 20], [15, 20]), ([], []), ([22, 10], [22]), ([], []), ([24, 23], [24]), ([23, 25], [23, 25]), ([], []), ([27], [27]), ([26, 28], [26, 28]), ([21, 29], [21, 29]), ([0, 1, 0, 1, 2, 3, 4, 5, 6, 7, 8, 9, 10, 11, 12, 13, 14, 15, 16, 17, 18, 19, 20, 21, 22, 23, 24, 25, 26, 27, 28, 29, 30], [0, 1]), ([31, 30, 25, 0, 1, 2, 3, 4, 5, 6, 7, 8, 9, 10, 11, 12, 13, 14, 15, 16, 17, 18, 19, 20, 21, 22, 23, 24, 25, 26, 27, 28, 29, 30], [30, 31])])
def tikref2_block.B10 : List Nat := [0, 0, 0, 0, 8, 28, 60, 0, 128, 0, 896, 1920, 0, 4096, 16256, 32764, 0, 0, 131072, 458752, 983040, 2097148, 0, 4196224, 0, 29362048, 62916480, 0, 134217728, 532678528, 1073741820, 2147483647, 4294967295]
theorem tikref2_block.tab10 : rtab .any (opsOf Tryd.f52 10) = tikref2_block.T10 := by kernel_rfl
theorem tikref2_block.bits10 : waitsOk tikref2_block.T10.2 tikref2_block.B10 = true := by kernel_rfl
def tikref2_block.T15 : Bool × List (List Nat × List Nat) := (true, [([], []), ([0], [0]), ([1], [1]), ([], []), ([3], [3]), ([4], [4]), ([5], [5]), ([], []), ([7], [7]), ([8], [8]), ([9, 6], [9]), ([6, 10], [6, 10]), ([], []), ([12], [12]), ([13], [13]), ([14, 10], [14]), ([11, 15], [11, 15]), ([2, 16], [2, 16]), ([], []), ([18], [18]), ([19], [19]), ([], []), ([21], [21]), ([22], [22]), ([20, 23], [20, 23]), ([], []), ([25], [25]), ([26], [26]), ([27], [27]), ([], []), ([29], [29]), ([30], [30]), ([28, 31], [28, 31]), ([24, 32], [24, 32]), ([17, 33], [17, 33]), ([], []), ([], []), ([35, 36], [35, 36]), ([37], [37]), ([34, 38], [34, 38]), ([], []), ([], []), ([40, 41], [40, 41]), ([42], [42]), ([39, 43], [39, 43]), ([44, 15, 0, 1, 2, 3, 4, 5, 6, 7, 8, 9, 10, 11, 12, 13, 14, 15, 16, 17, 18, 19, 20, 21, 22, 23, 24, 25, 26, 27, 28, 29, 30, 31, 32, 33, 34, 35, 36, 37, 38, 39, 40, 41, 42, 43, 44], [44])])
def tikref2_block.B15 : List Nat := [0, 1, 3, 0, 8, 24, 56, 0, 128, 384, 1016, 2040, 0, 4096, 12288, 30712, 65528, 131071, 0, 262144, 786432, 0, 2097152, 6291456, 16515072, 0, 33554432, 100663296, 234881024, 0, 536870912, 1610612736, 4261412864, 8589672448, 17179869183, 0, 0, 103079215104, 240518168576, 549755813887, 0, 0, 3298534883328, 7696581394432, 17592186044415, 35184372088831]
theorem tikref2_block.tab15 : rtab .any (opsOf Tryd.f52 15) = tikref2_block.T15 := by kernel_rfl
theorem tikref2_block.bits15 : waitsOk tikref2_block.T15.2 tikref2_block.B15 = true := by kernel_rfl
def tikref2_block.T16 : Bool × List (List Nat × List Nat) := (true, [([], []), ([0], [0]), ([1], [1]), ([2], [2]), ([], []), ([4], [4]), ([5], [5]), ([6, 3], [6]), ([3, 7], [3, 7]), ([], []), ([9], [9]), ([10], [10]), ([11, 7], [11]), ([8, 12], [8, 12]), ([], []), ([14], [14]), ([15], [15]), ([], []), ([17], [17]), ([18], [18]), ([16, 19], [16, 19]), ([], []), ([21], [21]), ([22], [22]), ([], []), ([24], [24]), ([25], [25]), ([23, 26], [23, 26]), ([20, 27], [20, 27]), ([], []), ([29], [29]), ([30], [30]), ([], []), ([32], [32]), ([33], [33]), ([31, 34], [31, 34]), ([28, 35], [28, 35]), ([13, 36], [13, 36]), ([37, 12, 0, 1, 2, 3, 4, 5, 6, 7, 8, 9, 10, 11, 12, 13, 14, 15, 16, 17, 18, 19, 20, 21, 22, 23, 24, 25, 26, 27, 28, 29, 30, 31, 32, 33, 34, 35, 36, 37], [37])])
def tikref2_block.B16 : List Nat := [0, 1, 3, 7, 0, 16, 48, 127, 255, 0, 512, 1536, 3839, 8191, 0, 16384, 49152, 0, 131072, 393216, 1032192, 0, 2097152, 6291456, 0, 16777216, 50331648, 132120576, 268419072, 0, 536870912, 1610612736, 0, 4294967296, 12884901888, 33822867456, 68719460352, 137438953471, 274877906943]
theorem tikref2_block.tab16 : rtab .any (opsOf Tryd.f52 16) = tikref2_block.T16 := by kernel_rfl
theorem tikref2_block.bits16 : waitsOk tikref2_block.T16.2 tikref2_block.B16 = true := by kernel_rfl
def tikref2_block.T17 : Bool × List (List Nat × List Nat) := (true, [([], []), ([], []), ([0, 1], [0, 1]), ([], []), ([3], [3]), ([4], [4]), ([], []), ([6], [6]), ([7], [7]), ([], []), ([9], [9]), ([10], [10]), ([], []), ([12], [12]), ([13], [13]), ([], []), ([14, 15], [14, 15]), ([], []), ([17], [17]), ([18], [18]), ([], []), ([20], [20]), ([21], [21]), ([], []), ([23], [23]), ([24], [24]), ([2, 5, 8, 11, 16, 19, 22, 25], [2, 5, 8, 11, 16, 19, 22, 25]), ([26, 0, 1, 2, 3, 4, 5, 6, 7, 8, 9, 10, 11, 12, 13, 14, 15, 16, 17, 18, 19, 20, 21, 22, 23, 24, 25, 26], [3, 6, 9, 12, 17, 20, 23, 26])])
def tikref2_block.B17 : List Nat := [0, 0, 3, 0, 8, 24, 0, 64, 192, 0, 512, 1536, 0, 4096, 12288, 0, 61440, 0, 131072, 393216, 0, 1048576, 3145728, 0, 8388608, 25165824, 67108863, 134217727]
theorem tikref2_block.tab17 : rtab .any (opsOf Tryd.f52 17) = tikref2_block.T17 := by kernel_rfl
theorem tikref2_block.bits17 : waitsOk tikref2_block.T17.2 tikref2_block.B17 = true := by kernel_rfl
def tikref2_block.T21 : Bool × List (List Nat × List Nat) := (true, [([], []), ([], []), ([0, 1], [0, 1]), ([2], [2]), ([], []), ([], []), ([4, 5], [4, 5]), ([6], [6]), ([3, 7], [3, 7]), ([0, 1, 0, 1, 2, 3, 4, 5, 6, 7, 8], [0, 1]), ([9, 8, 0, 1, 2, 3, 4, 5, 6, 7, 8], [8, 9])])
def tikref2_block.B21 : List Nat := [0, 0, 3, 7, 0, 0, 48, 112, 255, 511, 1023]
theorem tikref2_block.tab21 : rtab .any (opsOf Tryd.f52 21) = tikref2_block.T21 := by kernel_rfl
theorem tikref2_block.bits21 : waitsOk tikref2_block.T21.2 tikref2_block.B21 = true := by kernel_rfl
set_option maxHeartbeats 8000000 in
set_option maxRecDepth 100000 in
theorem tikref2_block.calls (k : Nat) (A0 : Option Addr) (c0 : Nat) (l0 : List Int) (A1 : Option Addr) (c1 : Nat) (l1 : List Int) (A2 : Option Addr) (c2 : Nat) (l2 : List Int) (r : List Int) (w : World) (hr0 : Kd.C (Kd.int .u32) w A0 l0.length l0) (hc0 : l0.length ≤ c0) (hr1 : Kd.C (Kd.int .u32) w A1 l1.length l1) (hc1 : l1.length ≤ c1) (hr2 : Kd.C (Kd.int .u8) w A2 l2.length l2) (hc2 : l2.length ≤ c2) (h : tikref2_block.f k l0 l1 l2 = some r) :
    Calls Tryd.prog 52 #[.slice A0 l0.length c0, .slice A1 l1.length c1, .slice A2 l2.length c2] w fun e w' => ∃ v0_ : Value, e = .returned (v0_) ∧ Kd.R (Kd.int .u32) 83 w' w.heap.size (fun _ => True) v0_ r ∧ Below w.heap.size w w' := by
  have HR0 := Aside0.mk hr0
  have HC0 := Aside0.mk hc0
  clear hr0 hc0
  have HR1 := Aside0.mk hr1
  have HC1 := Aside0.mk hc1
  clear hr1 hc1
  have HR2 := Aside0.mk hr2
  have HC2 := Aside0.mk hc2
  clear hr2 hc2
  have HB := Aside0.mk (Below.refl w.heap.size w)
  have H : (if 64 ≤ 70368744177664 then (tikref2_block.l0 k l0 l1 l2 (List.replicate 64 0) 0) else (none)) = some r := h
  clear h
  by_cases c4 : 64 ≤ 70368744177664
  · rw [if_pos c4] at H
    have c4b0 := eq_true c4
    have c4b1 : decide (64 ≤ 70368744177664) = true := decide_eq_true c4
    clear c4
    obtain ⟨y136, hy136⟩ : ∃ y_ : List Int, y_ = (List.replicate 64 0) := ⟨_, rfl⟩
    replace H : (tikref2_block.l0 k l0 l1 l2 y136 0) = some r := by first | (rw [hy136]; with_reducible exact H) | (have H2_ := (Option.bind_some _ _).symm.trans H; rw [hy136]; with_reducible exact H2_) | (have H2_ := (Option.bind_some _ _).symm.trans H; with_reducible exact H2_) | with_reducible exact H | (rw [hy136]; exact H) | exact H
    have Ny136 := Aside0.mk hy136
    clear hy136
    have H' := Aside0.mk H
    clear H
    go_enter Tryd.func52, Tryd.ntmps52
    go_wp2_with (first | ((with_reducible refine gate_dst (N := 17) rfl ?_); refine Kd.R_make (Kd.int .u32) _ 83 rfl (N := 17) rfl 86 _ _ rfl 64 rfl rfl Tryd.underlying86 (.int .u32 0) 4 info83 rfl (by decide) (by omega) 0 (ok := fun _ => True) (okp := fun _ => True) rfl (fun _ hk => hk) trivial (by omega) (by omega) (Below.refl _ _) (Nat.le_refl _) ?_; intro v137 w5 ho6 hb hg_ hnew_; clear hg_ hnew_; (first | rw [← Ny136.out] at ho6 | (simp only [Int.reduceToNat] at ho6; rw [← Ny136.out] at ho6)); have n0_ := Aside0.mk (Kd.R_lower ho6 (below_size (by repeat (first | (with_reducible first | exact HB.out | apply below_alloc | apply pw_below_drewN | apply below_drew1) | exact HB.out)))); have n1_ := Aside0.mk (below_step (by repeat (first | (with_reducible first | exact HB.out | apply below_alloc | apply pw_below_drewN | apply below_drew1) | exact HB.out)) hb); clear HB; have HO138 := n0_; have HB := n1_; clear n0_ n1_; clear hb ho6))
    go_loopg [8] k (fun kq v8 w' => ∃ (x7_1 : List Int) (x8_1 : Int), v8 = .int .i64 x8_1 ∧ Aside0 (tikref2_block.l0 kq l0 l1 l2 x7_1 x8_1 = some r) ∧ Aside0 (kq ≤ k) ∧ Aside0 (Kd.R (Kd.int .u32) 83 w' w.heap.size (fun _ => True) v137 x7_1) ∧ Aside0 (Below w.heap.size w w'))
    case atStart => exact ⟨(y136), (0), (by first | rfl | (simp; done) | (simp [*]; done)), H', ⟨Nat.le_refl _⟩, ⟨by (with_reducible repeat (first | apply Kd.R_alloc | apply Kd.R_drewN | apply Kd.R_drew)); exact HO138.out⟩, ⟨by repeat (first | (with_reducible first | exact HB.out | apply below_alloc | apply pw_below_drewN | apply below_drew1) | exact HB.out)⟩⟩
    case round =>
      clear H'
      try clear c1
      try clear c2
      try clear p2
      try clear c4
      try clear c4b0
      try clear c4b1
      try clear c5
      obtain ⟨x7_1, x8_1, rfl, HA, HK1, HO_7, HB⟩ := hrel
      cases gk with
      | zero => exact absurd HA.out (by simp [tikref2_block.l0])
      | succ k1 =>
        have H := HA.out
        clear HA
        simp only [tikref2_block.l0] at H
        by_cases c7 : x8_1 < 16
        · rw [if_pos c7] at H
          have c7b0 : decide (x8_1 < 16) = true := decide_eq_true c7
          clear c7
          obtain ⟨ji8, hji8⟩ : ∃ j_ : Int, (wrap64 (4 * x8_1)) = j_ := ⟨_, rfl⟩
          replace H : (if 0 ≤ (ji8) then (if (ji8) ≤ (wrap64 ((ji8) + 4)) then (if (wrap64 ((ji8) + 4)) ≤ (l2.length : Int) then ((tikref2_Big.f k1 ((l2.take ((wrap64 ((ji8) + 4)) : Int).toNat).drop ((ji8) : Int).toNat)).bind fun t140 => (if 0 ≤ x8_1 then (if x8_1 < (x7_1.length : Int) then (tikref2_block.l0 k1 l0 l1 l2 (x7_1.set (x8_1 : Int).toNat ((t140) % 4294967296)) (wrap64 (x8_1 + 1))) else (none)) else (none))) else (none)) else (none)) else (none)) = some r := by first | (rw [hji8] at H; exact H) | (simp only [hji8] at H ⊢; exact H)
          have hji8w : (IntKind.i64.wrap (4 * x8_1)) = ji8 := (i64_w _).trans hji8
          by_cases c9 : 0 ≤ (ji8)
          · rw [if_pos c9] at H
            have c9b0 := eq_true c9
            have c9b1 : decide (0 ≤ (ji8)) = true := decide_eq_true c9
            clear c9
            by_cases c10 : (ji8) ≤ (wrap64 ((ji8) + 4))
            · rw [if_pos c10] at H
              have c10b0 := eq_true c10
              have c10b1 : decide ((ji8) ≤ (wrap64 ((ji8) + 4))) = true := decide_eq_true c10
              by_cases c11 : (wrap64 ((ji8) + 4)) ≤ (l2.length : Int)
              · rw [if_pos c11] at H
                have c11b0 := eq_true c11
                have c11b1 : decide ((wrap64 ((ji8) + 4)) ≤ (l2.length : Int)) = true := decide_eq_true c11
                replace H := Option.bind_eq_some_iff.mp H
                obtain ⟨t140, A120, H⟩ := H
                replace H : (if 0 ≤ x8_1 then (if x8_1 < (x7_1.length : Int) then (tikref2_block.l0 k1 l0 l1 l2 (x7_1.set (x8_1 : Int).toNat ((t140) % 4294967296)) (wrap64 (x8_1 + 1))) else (none)) else (none)) = some r := H
                have A12 := Aside0.mk A120
                clear A120
                by_cases c13 : 0 ≤ x8_1
                · rw [if_pos c13] at H
                  have c13b0 : decide (0 ≤ x8_1) = true := decide_eq_true c13
                  clear c13
                  by_cases c14 : x8_1 < (x7_1.length : Int)
                  · rw [if_pos c14] at H
                    have c14b0 : decide (x8_1 < (x7_1.length : Int)) = true := decide_eq_true c14
                    clear c14
                    obtain ⟨y141, hy141⟩ : ∃ y_ : List Int, y_ = (x7_1.set (x8_1 : Int).toNat ((t140) % 4294967296)) := ⟨_, rfl⟩
                    replace H : (tikref2_block.l0 k1 l0 l1 l2 y141 (wrap64 (x8_1 + 1))) = some r := by first | (rw [hy141]; with_reducible exact H) | (have H2_ := (Option.bind_some _ _).symm.trans H; rw [hy141]; with_reducible exact H2_) | (have H2_ := (Option.bind_some _ _).symm.trans H; with_reducible exact H2_) | with_reducible exact H | (rw [hy141]; exact H) | exact H
                    have Ny141 := Aside0.mk hy141
                    clear hy141
                    have H' := Aside0.mk H
                    clear H
                    obtain ⟨i016, hi016, _, hsz16, _⟩ := info_parts info5
                    obtain ⟨A16, hcut16, hA16, hC16⟩ := print_mid_of (P := Tryd.prog) (Value.int .u8) 0 32 5 .i64 .i64 Tryd.underlying32 hi016 hsz16 A2 c2 l2 (ji8) (wrap64 ((ji8) + 4)) (of_decide_eq_true (by first | (with_reducible assumption) | assumption)) (by first | omega | exact of_decide_eq_true (by first | (with_reducible assumption) | assumption)) (of_decide_eq_true (by first | (with_reducible assumption) | assumption)) HC2.out
                    have HR139 := Aside0.mk (Kd.C_of_reads (h1 := fun _ => rfl) (hA16 _ (Kd.reads_of_C HR2.out)))
                    have HC139 := Aside0.mk hC16
                    clear hA16 hC16 hi016 hsz16
                    go_wp2_with (first | ((with_reducible refine gate_callee (f := 42) rfl ?_); refine goesL_ (some 31) rfl rfl Tryd.func42 (by kernel_rfl) rfl #[.slice A16 ((l2.take ((wrap64 ((ji8) + 4)) : Int).toNat).drop ((ji8) : Int).toNat).length (c2 - (ji8).toNat)] rfl (by (try simp only [List.map_toArray, List.map_cons, List.map_nil]); first | done | (rw [show ((l2.take ((wrap64 ((ji8) + 4)) : Int).toNat).drop ((ji8) : Int).toNat).length = ((wrap64 ((ji8) + 4)).toNat - (ji8).toNat) from (by rw [List.length_drop, List.length_take]; have h_ : ((wrap64 ((ji8) + 4)) : Int) ≤ (l2.length : Int) := of_decide_eq_true (by first | (with_reducible assumption) | assumption); omega)] <;> rfl) | (simp only [hji8]; rfl) | rfl | (simp only [List.length_drop, List.length_take]; rfl)) ?_; (with_reducible refine (tikref2_Big.calls k1 _ _ ((l2.take ((wrap64 ((ji8) + 4)) : Int).toNat).drop ((ji8) : Int).toNat) t140 _ ?side1 ?side2 A12.out).mono ?_); (case side1 => repeat (first | exact (Kd.C_below HR139.out HB.out) | (with_reducible refine Kd.C_alloc ?_ _) | (with_reducible refine Kd.C_drewN ?_ _) | (with_reducible refine Kd.C_drew ?_))); (case side2 => exact HC139.out); rintro e w' ⟨rfl, ⟨nd, rfl⟩⟩; refine ⟨_, rfl, ?_⟩; (try (rw [drewN_self wr]; generalize hq_ : World.drewN wr _ = wr; have n0_ : Aside0 (Kd.R (Kd.int .u32) 83 wr w.heap.size (fun _ => True) v137 x7_1) := ⟨by rw [← hq_]; exact (by (with_reducible repeat (first | apply Kd.R_alloc | apply Kd.R_drewN | apply Kd.R_drew)); exact HO_7.out)⟩; have n1_ : Aside0 (Below w.heap.size w wr) := ⟨by rw [← hq_]; exact (by repeat (first | (with_reducible first | exact HB.out | apply below_alloc | apply pw_below_drewN | apply below_drew1) | exact HB.out))⟩; clear HO_7 HB hq_; have HO_7 := n0_; have HB := n1_; clear n0_ n1_)); have p15 : 0 ≤ (x8_1 : Int) := of_decide_eq_true (by first | (with_reducible assumption) | assumption); have q15 : (x8_1 : Int) < ((x7_1.length : Int) : Int) := of_decide_eq_true (by first | (with_reducible assumption) | assumption); obtain ⟨go15, co15, eo15, gb15, gl15, cl15, HG15⟩ := Kd.R_form HO_7.out (by omega); (first | cases eo15 | (injection eo15 with ea_ en_ ec_; (first | subst ea_ | (injection ea_ with ea_; subst ea_)); subst ec_; clear en_)); have GB15 := Aside0.mk gb15; have GG15 := Aside0.mk HG15; clear gb15 gl15 HG15; obtain ⟨hx15_0, hf15_0⟩ := Kd.R_celln 0 HO_7.out (x8_1 : Int) p15 q15; replace p15 := eq_true p15; replace q15 := eq_true q15; obtain ⟨hy17_, hz17_⟩ := Kd.R_celln 0 HO_7.out (x8_1 : Int) (of_decide_eq_true (by first | (with_reducible assumption) | assumption)) (of_decide_eq_true (by first | (with_reducible assumption) | assumption)); have HP17 := Kd.R_putg HO_7.out (x8_1 : Int) ((t140) % 4294967296)) | ((with_reducible refine gate_store (t := 83) (p := 33) rfl ?_); refine store_event (t := 83) (p := 33) (v := ?vo_w18) (w1 := (wr.setCell ⟨go15, (x8_1 : Int).toNat, none⟩ (.int .u32 ((t140) % 4294967296)))) ?hg ?ho ?hn ?hr ?_; (case ho => rfl); (case hg => rfl); (case hn => rfl); (case hr => first | (go_simp; done) | (go_simp; rfl) | (go_simp; simp [IntKind.wrap_u32, show IntKind.u32.max = 4294967295 from rfl]; done)); intro w18 hw; have hg : wr.grownBy w18 (some go15) := (by rw [hw]; exact HP17.2); have hp_ : Kd.R (Kd.int .u32) 83 w18 w.heap.size (fun _ => True) (.slice (some ⟨go15, 0, none⟩) x7_1.length co15) y141 := (by rw [hw, Ny141.out]; exact HP17.1); clear HP17; have n0_ := Aside0.mk (hp_); have n1_ := Aside0.mk ((by rw [hw]; exact below_set (HB.out) GB15.out : Below w.heap.size w w18)); clear HO_7; clear HB; have HO_7 := n0_; have HB := n1_; clear n0_ n1_; clear hg hw hp_))
                    go_roundg k1
                    case measure => have := HK1.out; omega
                    case rel => exact ⟨(y141), (wrap64 (x8_1 + 1)), (by first | rfl | (simp; done) | (simp [*]; done)), H', ⟨by have := HK1.out; omega⟩, ⟨by (with_reducible repeat (first | apply Kd.R_alloc | apply Kd.R_drewN | apply Kd.R_drew)); exact HO_7.out⟩, ⟨by repeat (first | (with_reducible first | exact HB.out | apply below_alloc | apply pw_below_drewN | apply below_drew1) | exact HB.out)⟩⟩
                  · rw [if_neg c14] at H
                    exact absurd H (by simp)
                · rw [if_neg c13] at H
                  exact absurd H (by simp)
              · rw [if_neg c11] at H
                exact absurd H (by simp)
            · rw [if_neg c10] at H
              exact absurd H (by simp)
          · rw [if_neg c9] at H
            exact absurd H (by simp)
        · rw [if_neg c7] at H
          have c7b0 : decide (x8_1 < 16) = false := decide_eq_false c7
          clear c7
          have H' := Aside0.mk H
          clear H
          go_wp2
          go_loopg [9] k1 (fun kq v9 w' => ∃ (x7_2 : List Int) (x9_2 : Int), v9 = .int .i64 x9_2 ∧ Aside0 (tikref2_block.l1 kq l0 l1 x7_2 x9_2 = some r) ∧ Aside0 (kq ≤ k1) ∧ Aside0 (Kd.R (Kd.int .u32) 83 w' w.heap.size (fun _ => True) v137 x7_2) ∧ Aside0 (Below w.heap.size w w'))
          case atStart => exact ⟨(x7_1), (16), (by first | rfl | (simp; done) | (simp [*]; done)), H', ⟨Nat.le_refl _⟩, ⟨by (with_reducible repeat (first | apply Kd.R_alloc | apply Kd.R_drewN | apply Kd.R_drew)); exact HO_7.out⟩, ⟨by repeat (first | (with_reducible first | exact HB.out | apply below_alloc | apply pw_below_drewN | apply below_drew1) | exact HB.out)⟩⟩
          case round =>
            clear H'
            try clear c1
            try clear p1
            try clear q1
            try clear hx1
            try clear c2
            try clear p2
            try clear c4
            try clear c4b0
            try clear c4b1
            try clear c5
            try clear p6
            try clear c7
            try clear c7b0
            try clear c9
            try clear c9b0
            try clear c9b1
            try clear c10
            try clear c10b0
            try clear c10b1
            try clear c11
            try clear c11b0
            try clear c11b1
            try clear c13
            try clear c13b0
            try clear c14
            try clear c14b0
            try clear p15
            try clear q15
            try clear hx15
            try clear hf15
            try clear hx15_0
            try clear p15
            try clear p2
            try clear q15
            obtain ⟨x7_2, x9_2, rfl, HA, HK2, HO_7, HB⟩ := hrel
            cases gk with
            | zero => exact absurd HA.out (by simp [tikref2_block.l1])
            | succ k2 =>
              have H := HA.out
              clear HA
              simp only [tikref2_block.l1] at H
              by_cases c19 : x9_2 < 64
              · rw [if_pos c19] at H
                have c19b0 : decide (x9_2 < 64) = true := decide_eq_true c19
                clear c19
                obtain ⟨ji20, hji20⟩ : ∃ j_ : Int, (wrap64 (x9_2 - 15)) = j_ := ⟨_, rfl⟩
                replace H : (if 0 ≤ (ji20) then (if (ji20) < (x7_2.length : Int) then (if 0 ≤ (wrap64 (x9_2 - 2)) then (if (wrap64 (x9_2 - 2)) < (x7_2.length : Int) then (if 0 ≤ (wrap64 (x9_2 - 16)) then (if (wrap64 (x9_2 - 16)) < (x7_2.length : Int) then ((tikref2_turn.f (rd x7_2 (ji20)) 7).bind fun t145 => ((tikref2_turn.f (rd x7_2 (ji20)) 18).bind fun t146 => (if 0 ≤ (wrap64 (x9_2 - 7)) then (if (wrap64 (x9_2 - 7)) < (x7_2.length : Int) then ((tikref2_turn.f (rd x7_2 (wrap64 (x9_2 - 2))) 17).bind fun t148 => ((tikref2_turn.f (rd x7_2 (wrap64 (x9_2 - 2))) 19).bind fun t149 => (if 0 ≤ x9_2 then (if x9_2 < (x7_2.length : Int) then (tikref2_block.l1 k2 l0 l1 (x7_2.set (x9_2 : Int).toNat (((((((rd x7_2 (wrap64 (x9_2 - 16))) + (Go.bits .xor .u32 (Go.bits .xor .u32 t145 t146) ((rd x7_2 (ji20)) / 8))) % 4294967296) + (rd x7_2 (wrap64 (x9_2 - 7)))) % 4294967296) + (Go.bits .xor .u32 (Go.bits .xor .u32 t148 t149) ((rd x7_2 (wrap64 (x9_2 - 2))) / 1024))) % 4294967296)) (wrap64 (x9_2 + 1))) else (none)) else (none)))) else (none)) else (none)))) else (none)) else (none)) else (none)) else (none)) else (none)) else (none)) = some r := by first | (rw [hji20] at H; exact H) | (simp only [hji20] at H ⊢; exact H)
                have hji20w : (IntKind.i64.wrap (x9_2 - 15)) = ji20 := (i64_w _).trans hji20
                by_cases c21 : 0 ≤ (ji20)
                · rw [if_pos c21] at H
                  have c21b0 : decide (0 ≤ (ji20)) = true := decide_eq_true c21
                  clear c21
                  by_cases c22 : (ji20) < (x7_2.length : Int)
                  · rw [if_pos c22] at H
                    have c22b0 : decide ((ji20) < (x7_2.length : Int)) = true := decide_eq_true c22
                    clear c22
                    obtain ⟨ji23, hji23⟩ : ∃ j_ : Int, (wrap64 (x9_2 - 2)) = j_ := ⟨_, rfl⟩
                    replace H : (if 0 ≤ (ji23) then (if (ji23) < (x7_2.length : Int) then (if 0 ≤ (wrap64 (x9_2 - 16)) then (if (wrap64 (x9_2 - 16)) < (x7_2.length : Int) then ((tikref2_turn.f (rd x7_2 (ji20)) 7).bind fun t145 => ((tikref2_turn.f (rd x7_2 (ji20)) 18).bind fun t146 => (if 0 ≤ (wrap64 (x9_2 - 7)) then (if (wrap64 (x9_2 - 7)) < (x7_2.length : Int) then ((tikref2_turn.f (rd x7_2 (ji23)) 17).bind fun t148 => ((tikref2_turn.f (rd x7_2 (ji23)) 19).bind fun t149 => (if 0 ≤ x9_2 then (if x9_2 < (x7_2.length : Int) then (tikref2_block.l1 k2 l0 l1 (x7_2.set (x9_2 : Int).toNat (((((((rd x7_2 (wrap64 (x9_2 - 16))) + (Go.bits .xor .u32 (Go.bits .xor .u32 t145 t146) ((rd x7_2 (ji20)) / 8))) % 4294967296) + (rd x7_2 (wrap64 (x9_2 - 7)))) % 4294967296) + (Go.bits .xor .u32 (Go.bits .xor .u32 t148 t149) ((rd x7_2 (ji23)) / 1024))) % 4294967296)) (wrap64 (x9_2 + 1))) else (none)) else (none)))) else (none)) else (none)))) else (none)) else (none)) else (none)) else (none)) = some r := by first | (rw [hji23] at H; exact H) | (simp only [hji23] at H ⊢; exact H)
                    have hji23w : (IntKind.i64.wrap (x9_2 - 2)) = ji23 := (i64_w _).trans hji23
                    by_cases c24 : 0 ≤ (ji23)
                    · rw [if_pos c24] at H
                      have c24b0 : decide (0 ≤ (ji23)) = true := decide_eq_true c24
                      clear c24
                      by_cases c25 : (ji23) < (x7_2.length : Int)
                      · rw [if_pos c25] at H
                        have c25b0 : decide ((ji23) < (x7_2.length : Int)) = true := decide_eq_true c25
                        clear c25
                        obtain ⟨ji26, hji26⟩ : ∃ j_ : Int, (wrap64 (x9_2 - 16)) = j_ := ⟨_, rfl⟩
                        replace H : (if 0 ≤ (ji26) then (if (ji26) < (x7_2.length : Int) then ((tikref2_turn.f (rd x7_2 (ji20)) 7).bind fun t145 => ((tikref2_turn.f (rd x7_2 (ji20)) 18).bind fun t146 => (if 0 ≤ (wrap64 (x9_2 - 7)) then (if (wrap64 (x9_2 - 7)) < (x7_2.length : Int) then ((tikref2_turn.f (rd x7_2 (ji23)) 17).bind fun t148 => ((tikref2_turn.f (rd x7_2 (ji23)) 19).bind fun t149 => (if 0 ≤ x9_2 then (if x9_2 < (x7_2.length : Int) then (tikref2_block.l1 k2 l0 l1 (x7_2.set (x9_2 : Int).toNat (((((((rd x7_2 (ji26)) + (Go.bits .xor .u32 (Go.bits .xor .u32 t145 t146) ((rd x7_2 (ji20)) / 8))) % 4294967296) + (rd x7_2 (wrap64 (x9_2 - 7)))) % 4294967296) + (Go.bits .xor .u32 (Go.bits .xor .u32 t148 t149) ((rd x7_2 (ji23)) / 1024))) % 4294967296)) (wrap64 (x9_2 + 1))) else (none)) else (none)))) else (none)) else (none)))) else (none)) else (none)) = some r := by first | (rw [hji26] at H; exact H) | (simp only [hji26] at H ⊢; exact H)
                        have hji26w : (IntKind.i64.wrap (x9_2 - 16)) = ji26 := (i64_w _).trans hji26
                        by_cases c27 : 0 ≤ (ji26)
                        · rw [if_pos c27] at H
                          have c27b0 : decide (0 ≤ (ji26)) = true := decide_eq_true c27
                          clear c27
                          by_cases c28 : (ji26) < (x7_2.length : Int)
                          · rw [if_pos c28] at H
                            have c28b0 : decide ((ji26) < (x7_2.length : Int)) = true := decide_eq_true c28
                            clear c28
                            replace H := Option.bind_eq_some_iff.mp H
                            obtain ⟨t145, A290, H⟩ := H
                            replace H : ((tikref2_turn.f (rd x7_2 (ji20)) 18).bind fun t146 => (if 0 ≤ (wrap64 (x9_2 - 7)) then (if (wrap64 (x9_2 - 7)) < (x7_2.length : Int) then ((tikref2_turn.f (rd x7_2 (ji23)) 17).bind fun t148 => ((tikref2_turn.f (rd x7_2 (ji23)) 19).bind fun t149 => (if 0 ≤ x9_2 then (if x9_2 < (x7_2.length : Int) then (tikref2_block.l1 k2 l0 l1 (x7_2.set (x9_2 : Int).toNat (((((((rd x7_2 (ji26)) + (Go.bits .xor .u32 (Go.bits .xor .u32 t145 t146) ((rd x7_2 (ji20)) / 8))) % 4294967296) + (rd x7_2 (wrap64 (x9_2 - 7)))) % 4294967296) + (Go.bits .xor .u32 (Go.bits .xor .u32 t148 t149) ((rd x7_2 (ji23)) / 1024))) % 4294967296)) (wrap64 (x9_2 + 1))) else (none)) else (none)))) else (none)) else (none))) = some r := H
                            have A29 := Aside0.mk A290
                            clear A290
                            replace H := Option.bind_eq_some_iff.mp H
                            obtain ⟨t146, A300, H⟩ := H
                            replace H : (if 0 ≤ (wrap64 (x9_2 - 7)) then (if (wrap64 (x9_2 - 7)) < (x7_2.length : Int) then ((tikref2_turn.f (rd x7_2 (ji23)) 17).bind fun t148 => ((tikref2_turn.f (rd x7_2 (ji23)) 19).bind fun t149 => (if 0 ≤ x9_2 then (if x9_2 < (x7_2.length : Int) then (tikref2_block.l1 k2 l0 l1 (x7_2.set (x9_2 : Int).toNat (((((((rd x7_2 (ji26)) + (Go.bits .xor .u32 (Go.bits .xor .u32 t145 t146) ((rd x7_2 (ji20)) / 8))) % 4294967296) + (rd x7_2 (wrap64 (x9_2 - 7)))) % 4294967296) + (Go.bits .xor .u32 (Go.bits .xor .u32 t148 t149) ((rd x7_2 (ji23)) / 1024))) % 4294967296)) (wrap64 (x9_2 + 1))) else (none)) else (none)))) else (none)) else (none)) = some r := H
                            have A30 := Aside0.mk A300
                            clear A300
                            obtain ⟨ji31, hji31⟩ : ∃ j_ : Int, (wrap64 (x9_2 - 7)) = j_ := ⟨_, rfl⟩
                            replace H : (if 0 ≤ (ji31) then (if (ji31) < (x7_2.length : Int) then ((tikref2_turn.f (rd x7_2 (ji23)) 17).bind fun t148 => ((tikref2_turn.f (rd x7_2 (ji23)) 19).bind fun t149 => (if 0 ≤ x9_2 then (if x9_2 < (x7_2.length : Int) then (tikref2_block.l1 k2 l0 l1 (x7_2.set (x9_2 : Int).toNat (((((((rd x7_2 (ji26)) + (Go.bits .xor .u32 (Go.bits .xor .u32 t145 t146) ((rd x7_2 (ji20)) / 8))) % 4294967296) + (rd x7_2 (ji31))) % 4294967296) + (Go.bits .xor .u32 (Go.bits .xor .u32 t148 t149) ((rd x7_2 (ji23)) / 1024))) % 4294967296)) (wrap64 (x9_2 + 1))) else (none)) else (none)))) else (none)) else (none)) = some r := by first | (rw [hji31] at H; exact H) | (simp only [hji31] at H ⊢; exact H)
                            (try rw [hji31] at A29)
                            (try rw [hji31] at A30)
                            have hji31w : (IntKind.i64.wrap (x9_2 - 7)) = ji31 := (i64_w _).trans hji31
                            by_cases c32 : 0 ≤ (ji31)
                            · rw [if_pos c32] at H
                              have c32b0 : decide (0 ≤ (ji31)) = true := decide_eq_true c32
                              clear c32
                              by_cases c33 : (ji31) < (x7_2.length : Int)
                              · rw [if_pos c33] at H
                                have c33b0 : decide ((ji31) < (x7_2.length : Int)) = true := decide_eq_true c33
                                clear c33
                                replace H := Option.bind_eq_some_iff.mp H
                                obtain ⟨t148, A340, H⟩ := H
                                replace H : ((tikref2_turn.f (rd x7_2 (ji23)) 19).bind fun t149 => (if 0 ≤ x9_2 then (if x9_2 < (x7_2.length : Int) then (tikref2_block.l1 k2 l0 l1 (x7_2.set (x9_2 : Int).toNat (((((((rd x7_2 (ji26)) + (Go.bits .xor .u32 (Go.bits .xor .u32 t145 t146) ((rd x7_2 (ji20)) / 8))) % 4294967296) + (rd x7_2 (ji31))) % 4294967296) + (Go.bits .xor .u32 (Go.bits .xor .u32 t148 t149) ((rd x7_2 (ji23)) / 1024))) % 4294967296)) (wrap64 (x9_2 + 1))) else (none)) else (none))) = some r := H
                                have A34 := Aside0.mk A340
                                clear A340
                                replace H := Option.bind_eq_some_iff.mp H
                                obtain ⟨t149, A350, H⟩ := H
                                replace H : (if 0 ≤ x9_2 then (if x9_2 < (x7_2.length : Int) then (tikref2_block.l1 k2 l0 l1 (x7_2.set (x9_2 : Int).toNat (((((((rd x7_2 (ji26)) + (Go.bits .xor .u32 (Go.bits .xor .u32 t145 t146) ((rd x7_2 (ji20)) / 8))) % 4294967296) + (rd x7_2 (ji31))) % 4294967296) + (Go.bits .xor .u32 (Go.bits .xor .u32 t148 t149) ((rd x7_2 (ji23)) / 1024))) % 4294967296)) (wrap64 (x9_2 + 1))) else (none)) else (none)) = some r := H
                                have A35 := Aside0.mk A350
                                clear A350
                                by_cases c36 : 0 ≤ x9_2
                                · rw [if_pos c36] at H
                                  have c36b0 : decide (0 ≤ x9_2) = true := decide_eq_true c36
                                  clear c36
                                  by_cases c37 : x9_2 < (x7_2.length : Int)
                                  · rw [if_pos c37] at H
                                    have c37b0 : decide (x9_2 < (x7_2.length : Int)) = true := decide_eq_true c37
                                    clear c37
                                    obtain ⟨y150, hy150⟩ : ∃ y_ : List Int, y_ = (x7_2.set (x9_2 : Int).toNat (((((((rd x7_2 (ji26)) + (Go.bits .xor .u32 (Go.bits .xor .u32 t145 t146) ((rd x7_2 (ji20)) / 8))) % 4294967296) + (rd x7_2 (ji31))) % 4294967296) + (Go.bits .xor .u32 (Go.bits .xor .u32 t148 t149) ((rd x7_2 (ji23)) / 1024))) % 4294967296)) := ⟨_, rfl⟩
                                    replace H : (tikref2_block.l1 k2 l0 l1 y150 (wrap64 (x9_2 + 1))) = some r := by first | (rw [hy150]; with_reducible exact H) | (have H2_ := (Option.bind_some _ _).symm.trans H; rw [hy150]; with_reducible exact H2_) | (have H2_ := (Option.bind_some _ _).symm.trans H; with_reducible exact H2_) | with_reducible exact H | (rw [hy150]; exact H) | exact H
                                    have Ny150 := Aside0.mk hy150
                                    clear hy150
                                    have H' := Aside0.mk H
                                    clear H
                                    try go_wp2
                                    have n0_ := Aside0.mk (Kd.R_drew HO_7.out)
                                    have n1_ := Aside0.mk (below_drew1 HB.out)
                                    clear HO_7
                                    clear HB
                                    have HO_7 := n0_
                                    have HB := n1_
                                    clear n0_ n1_
                                    obtain ⟨Ao40, co40, eo40⟩ := Kd.R_slice HO_7.out
                                    (first | subst eo40 | (injection eo40 with f1_ f2_ f3_; have f4_ := f1_.symm; have f5_ := f3_.symm; clear f1_ f2_ f3_; subst f4_; subst f5_))
                                    have p142 : 0 ≤ ((ji20) : Int) := of_decide_eq_true (by first | (with_reducible assumption) | assumption)
                                    have q142 : (ji20) < (x7_2.length : Int) := of_decide_eq_true (by first | (with_reducible assumption) | assumption)
                                    obtain ⟨ad142, e142, hx142_0⟩ := Kd.at_int (Kd.R_reads' HO_7.out).2.2 (ji20) p142 q142
                                    cases e142
                                    replace p142 := eq_true p142
                                    replace q142 := eq_true q142
                                    have p143 : 0 ≤ ((ji23) : Int) := of_decide_eq_true (by first | (with_reducible assumption) | assumption)
                                    have q143 : (ji23) < (x7_2.length : Int) := of_decide_eq_true (by first | (with_reducible assumption) | assumption)
                                    obtain ⟨ad143, e143, hx143_0⟩ := Kd.at_int (Kd.R_reads' HO_7.out).2.2 (ji23) p143 q143
                                    obtain rfl : ad142 = ad143 := (by injection e143)
                                    replace p143 := eq_true p143
                                    replace q143 := eq_true q143
                                    refine start_ (n := 12) (S := fun w' => w'.cell? (ad142.add ((ji20)).toNat) = some (.int .u32 (rd x7_2 (ji20))) ∧ w'.cell? (ad142.add ((ji23)).toNat) = some (.int .u32 (rd x7_2 (ji23)))) (ds := []) #[false, false, false, false, false, false, false, false, false, false, false, false] (by kernel_rfl) rfl rfl ⟨hx142_0, hx143_0⟩ (fun hHeld => ?_); refine with_tabW tikref2_block.tab9 tikref2_block.bits9 (fun HT_ HW_ => ?_)
                                    generalize wr.drew = w39 at HO_7 HB hx142_0 hx143_0 hHeld ⊢
                                    refine pure_ (i := 0) (N := some 38) (v := ?_) (a' := ?_) #[true, false, false, false, false, false, false, false, false, false, false, false] rfl rfl (any_of HT_.out (by kernel_rfl)) (fun _ _ _ h => h) (Or.inl ⟨by rfl, ?_⟩) ?_ ?_
                                    rotate_left
                                    · intro w'
                                      go_simp
                                      with_reducible rfl
                                    rotate_left
                                    · simp only [Act.put, List.setIfInBounds_toArray, List.set_cons_zero, List.set_cons_succ, i64_w, i32_w]
                                      rfl
                                    refine pure_ (i := 1) (N := some 39) (v := ?_) (a' := ?_) #[true, true, false, false, false, false, false, false, false, false, false, false] rfl rfl (any_of HT_.out (by kernel_rfl)) (fun _ _ _ h => h) (Or.inl ⟨by rfl, ?_⟩) ?_ ?_
                                    rotate_left
                                    · intro w'
                                      go_simp
                                      with_reducible rfl
                                    rotate_left
                                    · simp only [Act.put, List.setIfInBounds_toArray, List.set_cons_zero, List.set_cons_succ, i64_w, i32_w]
                                      rfl
                                    refine pure_ (i := 2) (N := some 40) (v := ?_) (a' := ?_) #[true, true, true, false, false, false, false, false, false, false, false, false] rfl rfl (any_of HT_.out (by kernel_rfl)) (fun _ _ _ h => h) (Or.inl ⟨by rfl, ?_⟩) ?_ ?_
                                    rotate_left
                                    · intro w'
                                      go_simp
                                      with_reducible rfl
                                    rotate_left
                                    · simp only [Act.put, List.setIfInBounds_toArray, List.set_cons_zero, List.set_cons_succ, i64_w, i32_w]
                                      rfl
                                    refine pure_ (i := 3) (N := some 41) (v := ?_) (a' := ?_) #[true, true, true, true, false, false, false, false, false, false, false, false] rfl rfl (any_of HT_.out (by kernel_rfl)) (fun _ _ _ h => h) (Or.inl ⟨by rfl, ?_⟩) ?_ ?_
                                    rotate_left
                                    · intro w'
                                      go_simp
                                      with_reducible rfl
                                    rotate_left
                                    · simp only [Act.put, List.setIfInBounds_toArray, List.set_cons_zero, List.set_cons_succ, i64_w, i32_w]
                                      rfl
                                    refine pure_ (i := 5) (N := some 43) (v := ?_) (a' := ?_) #[true, true, true, true, false, true, false, false, false, false, false, false] rfl rfl (any_of HT_.out (by kernel_rfl)) (fun _ _ _ h => h) (Or.inl ⟨by rfl, ?_⟩) ?_ ?_
                                    rotate_left
                                    · intro w'
                                      go_simp
                                      with_reducible rfl
                                    rotate_left
                                    · simp only [Act.put, List.setIfInBounds_toArray, List.set_cons_zero, List.set_cons_succ, i64_w, i32_w]
                                      rfl
                                    refine pure_ (i := 6) (N := some 44) (v := ?_) (a' := ?_) #[true, true, true, true, false, true, true, false, false, false, false, false] rfl rfl (any_of HT_.out (by kernel_rfl)) (fun _ _ _ h => h) (Or.inl ⟨by rfl, ?_⟩) ?_ ?_
                                    rotate_left
                                    · intro w'
                                      go_simp
                                      with_reducible rfl
                                    rotate_left
                                    · simp only [Act.put, List.setIfInBounds_toArray, List.set_cons_zero, List.set_cons_succ, i64_w, i32_w]
                                      rfl
                                    refine pure_ (i := 7) (N := some 45) (v := ?_) (a' := ?_) #[true, true, true, true, false, true, true, true, false, false, false, false] rfl rfl (any_of HT_.out (by kernel_rfl)) (fun _ _ _ h => h) (Or.inl ⟨by rfl, ?_⟩) ?_ ?_
                                    rotate_left
                                    · intro w'
                                      go_simp
                                      with_reducible rfl
                                    rotate_left
                                    · simp only [Act.put, List.setIfInBounds_toArray, List.set_cons_zero, List.set_cons_succ, i64_w, i32_w]
                                      rfl
                                    refine pure_ (i := 8) (N := some 46) (v := ?_) (a' := ?_) #[true, true, true, true, false, true, true, true, true, false, false, false] rfl rfl (any_of HT_.out (by kernel_rfl)) (fun _ _ _ h => h) (Or.inl ⟨by rfl, ?_⟩) ?_ ?_
                                    rotate_left
                                    · intro w'
                                      go_simp
                                      with_reducible rfl
                                    rotate_left
                                    · simp only [Act.put, List.setIfInBounds_toArray, List.set_cons_zero, List.set_cons_succ, i64_w, i32_w]
                                      rfl
                                    refine take_ (i := 4) (N := some 42) (v := ?_) (a' := ?_) #[true, true, true, true, true, true, true, true, true, false, false, false] rfl rfl (take_ofW HT_.out HW_.out (by kernel_rfl)) (fun _ _ _ h => h) (Or.inl ⟨by rfl, ?_⟩) hHeld ?_ ?_
                                    rotate_left
                                    · rintro w' ⟨s0, s1⟩
                                      go_simp
                                      with_reducible rfl
                                    rotate_left
                                    · simp only [Act.put, List.setIfInBounds_toArray, List.set_cons_zero, List.set_cons_succ, i64_w, i32_w]
                                      rfl
                                    refine pure_ (i := 10) (N := some 10) (v := ?_) (a' := ?_) #[true, true, true, true, true, true, true, true, true, false, true, false] rfl rfl (any_of HT_.out (by kernel_rfl)) (fun _ _ _ h => h) (Or.inl ⟨by rfl, ?_⟩) ?_ ?_
                                    rotate_left
                                    · intro w'
                                      go_simp
                                      with_reducible rfl
                                    rotate_left
                                    · simp only [Act.put, List.setIfInBounds_toArray, List.set_cons_zero, List.set_cons_succ, i64_w, i32_w]
                                      rfl
                                    refine take_ (i := 9) (N := some 47) (v := ?_) (a' := ?_) #[true, true, true, true, true, true, true, true, true, true, true, false] rfl rfl (take_ofW HT_.out HW_.out (by kernel_rfl)) (fun _ _ _ h => h) (Or.inl ⟨by rfl, ?_⟩) hHeld ?_ ?_
                                    rotate_left
                                    · rintro w' ⟨s0, s1⟩
                                      go_simp
                                      with_reducible rfl
                                    rotate_left
                                    · simp only [Act.put, List.setIfInBounds_toArray, List.set_cons_zero, List.set_cons_succ, i64_w, i32_w]
                                      rfl
                                    refine pure_ (i := 11) (N := some 11) (v := ?_) (a' := ?_) #[true, true, true, true, true, true, true, true, true, true, true, true] rfl rfl (any_of HT_.out (by kernel_rfl)) (fun _ _ _ h => h) (Or.inl ⟨by rfl, ?_⟩) ?_ ?_
                                    rotate_left
                                    · intro w'
                                      go_simp
                                      with_reducible rfl
                                    rotate_left
                                    · simp only [Act.put, List.setIfInBounds_toArray, List.set_cons_zero, List.set_cons_succ, i64_w, i32_w]
                                      rfl
                                    refine done_ (done_of HT_.out (by kernel_rfl)) ?_
                                    try go_wp2
                                    have n0_ := Aside0.mk (Kd.R_drew HO_7.out)
                                    have n1_ := Aside0.mk (below_drew1 HB.out)
                                    clear HO_7
                                    clear HB
                                    have HO_7 := n0_
                                    have HB := n1_
                                    clear n0_ n1_
                                    have p144 : 0 ≤ ((ji26) : Int) := of_decide_eq_true (by first | (with_reducible assumption) | assumption)
                                    have q144 : (ji26) < (x7_2.length : Int) := of_decide_eq_true (by first | (with_reducible assumption) | assumption)
                                    obtain ⟨ad144, e144, hx144_0⟩ := Kd.at_int (Kd.R_reads' HO_7.out).2.2 (ji26) p144 q144
                                    obtain rfl : ad142 = ad144 := (by injection e144)
                                    replace p144 := eq_true p144
                                    replace q144 := eq_true q144
                                    have p147 : 0 ≤ ((ji31) : Int) := of_decide_eq_true (by first | (with_reducible assumption) | assumption)
                                    have q147 : (ji31) < (x7_2.length : Int) := of_decide_eq_true (by first | (with_reducible assumption) | assumption)
                                    obtain ⟨ad147, e147, hx147_0⟩ := Kd.at_int (Kd.R_reads' HO_7.out).2.2 (ji31) p147 q147
                                    obtain rfl : ad142 = ad147 := (by injection e147)
                                    replace p147 := eq_true p147
                                    replace q147 := eq_true q147
                                    refine start_ (n := 33) (S := fun w' => w'.cell? (ad142.add ((ji26)).toNat) = some (.int .u32 (rd x7_2 (ji26))) ∧ w'.cell? (ad142.add ((ji31)).toNat) = some (.int .u32 (rd x7_2 (ji31)))) (ds := [32]) #[false, false, false, false, false, false, false, false, false, false, false, false, false, false, false, false, false, false, false, false, false, false, false, false, false, false, false, false, false, false, false, false, false] (by kernel_rfl) rfl rfl ⟨hx144_0, hx147_0⟩ (fun hHeld => ?_); refine with_tabW tikref2_block.tab10 tikref2_block.bits10 (fun HT_ HW_ => ?_)
                                    generalize w39.drew = w41 at HO_7 HB hx144_0 hx147_0 hHeld ⊢
                                    refine pure_ (i := 0) (N := some 48) (v := ?_) (a' := ?_) #[true, false, false, false, false, false, false, false, false, false, false, false, false, false, false, false, false, false, false, false, false, false, false, false, false, false, false, false, false, false, false, false, false] rfl rfl (any_of HT_.out (by kernel_rfl)) (fun _ _ _ h => h) (Or.inl ⟨by rfl, ?_⟩) ?_ ?_
                                    rotate_left
                                    · intro w'
                                      go_simp
                                      with_reducible rfl
                                    rotate_left
                                    · simp only [Act.put, List.setIfInBounds_toArray, List.set_cons_zero, List.set_cons_succ, i64_w, i32_w]
                                      rfl
                                    refine pure_ (i := 1) (N := some 49) (v := ?_) (a' := ?_) #[true, true, false, false, false, false, false, false, false, false, false, false, false, false, false, false, false, false, false, false, false, false, false, false, false, false, false, false, false, false, false, false, false] rfl rfl (any_of HT_.out (by kernel_rfl)) (fun _ _ _ h => h) (Or.inl ⟨by rfl, ?_⟩) ?_ ?_
                                    rotate_left
                                    · intro w'
                                      go_simp
                                      with_reducible rfl
                                    rotate_left
                                    · simp only [Act.put, List.setIfInBounds_toArray, List.set_cons_zero, List.set_cons_succ, i64_w, i32_w]
                                      rfl
                                    refine pure_ (i := 2) (N := some 50) (v := ?_) (a' := ?_) #[true, true, true, false, false, false, false, false, false, false, false, false, false, false, false, false, false, false, false, false, false, false, false, false, false, false, false, false, false, false, false, false, false] rfl rfl (any_of HT_.out (by kernel_rfl)) (fun _ _ _ h => h) (Or.inl ⟨by rfl, ?_⟩) ?_ ?_
                                    rotate_left
                                    · intro w'
                                      go_simp
                                      with_reducible rfl
                                    rotate_left
                                    · simp only [Act.put, List.setIfInBounds_toArray, List.set_cons_zero, List.set_cons_succ, i64_w, i32_w]
                                      rfl
                                    refine pure_ (i := 3) (N := some 51) (v := ?_) (a' := ?_) #[true, true, true, true, false, false, false, false, false, false, false, false, false, false, false, false, false, false, false, false, false, false, false, false, false, false, false, false, false, false, false, false, false] rfl rfl (any_of HT_.out (by kernel_rfl)) (fun _ _ _ h => h) (Or.inl ⟨by rfl, ?_⟩) ?_ ?_
                                    rotate_left
                                    · intro w'
                                      go_simp
                                      with_reducible rfl
                                    rotate_left
                                    · simp only [Act.put, List.setIfInBounds_toArray, List.set_cons_zero, List.set_cons_succ, i64_w, i32_w]
                                      rfl
                                    refine pure_ (i := 4) (N := some 52) (v := ?_) (a' := ?_) #[true, true, true, true, true, false, false, false, false, false, false, false, false, false, false, false, false, false, false, false, false, false, false, false, false, false, false, false, false, false, false, false, false] rfl rfl (any_of HT_.out (by kernel_rfl)) (fun _ _ _ h => h) (Or.inl ⟨by rfl, ?_⟩) ?_ ?_
                                    rotate_left
                                    · intro w'
                                      go_simp
                                      with_reducible rfl
                                    rotate_left
                                    · simp only [Act.put, List.setIfInBounds_toArray, List.set_cons_zero, List.set_cons_succ, i64_w, i32_w]
                                      rfl
                                    refine pure_ (i := 5) (N := some 53) (v := ?_) (a' := ?_) #[true, true, true, true, true, true, false, false, false, false, false, false, false, false, false, false, false, false, false, false, false, false, false, false, false, false, false, false, false, false, false, false, false] rfl rfl (any_of HT_.out (by kernel_rfl)) (fun _ _ _ h => h) (Or.inl ⟨by rfl, ?_⟩) ?_ ?_
                                    rotate_left
                                    · intro w'
                                      go_simp
                                      with_reducible rfl
                                    rotate_left
                                    · simp only [Act.put, List.setIfInBounds_toArray, List.set_cons_zero, List.set_cons_succ, i64_w, i32_w]
                                      rfl
                                    refine pure_ (i := 7) (N := some 55) (v := ?_) (a' := ?_) #[true, true, true, true, true, true, false, true, false, false, false, false, false, false, false, false, false, false, false, false, false, false, false, false, false, false, false, false, false, false, false, false, false] rfl rfl (any_of HT_.out (by kernel_rfl)) (fun _ _ _ h => h) (Or.inl ⟨by rfl, ?_⟩) ?_ ?_
                                    rotate_left
                                    · intro w'
                                      go_simp
                                      with_reducible rfl
                                    rotate_left
                                    · simp only [Act.put, List.setIfInBounds_toArray, List.set_cons_zero, List.set_cons_succ, i64_w, i32_w]
                                      rfl
                                    refine pure_ (i := 9) (N := some 57) (v := ?_) (a' := ?_) #[true, true, true, true, true, true, false, true, false, true, false, false, false, false, false, false, false, false, false, false, false, false, false, false, false, false, false, false, false, false, false, false, false] rfl rfl (any_of HT_.out (by kernel_rfl)) (fun _ _ _ h => h) (Or.inl ⟨by rfl, ?_⟩) ?_ ?_
                                    rotate_left
                                    · intro w'
                                      go_simp
                                      with_reducible rfl
                                    rotate_left
                                    · simp only [Act.put, List.setIfInBounds_toArray, List.set_cons_zero, List.set_cons_succ, i64_w, i32_w]
                                      rfl
                                    refine pure_ (i := 12) (N := some 60) (v := ?_) (a' := ?_) #[true, true, true, true, true, true, false, true, false, true, false, false, true, false, false, false, false, false, false, false, false, false, false, false, false, false, false, false, false, false, false, false, false] rfl rfl (any_of HT_.out (by kernel_rfl)) (fun _ _ _ h => h) (Or.inl ⟨by rfl, ?_⟩) ?_ ?_
                                    rotate_left
                                    · intro w'
                                      go_simp
                                      with_reducible rfl
                                    rotate_left
                                    · simp only [Act.put, List.setIfInBounds_toArray, List.set_cons_zero, List.set_cons_succ, i64_w, i32_w]
                                      rfl
                                    refine pure_ (i := 13) (N := some 61) (v := ?_) (a' := ?_) #[true, true, true, true, true, true, false, true, false, true, false, false, true, true, false, false, false, false, false, false, false, false, false, false, false, false, false, false, false, false, false, false, false] rfl rfl (any_of HT_.out (by kernel_rfl)) (fun _ _ _ h => h) (Or.inl ⟨by rfl, ?_⟩) ?_ ?_
                                    rotate_left
                                    · intro w'
                                      go_simp
                                      with_reducible rfl
                                    rotate_left
                                    · simp only [Act.put, List.setIfInBounds_toArray, List.set_cons_zero, List.set_cons_succ, i64_w, i32_w]
                                      rfl
                                    refine pure_ (i := 16) (N := some 64) (v := ?_) (a' := ?_) #[true, true, true, true, true, true, false, true, false, true, false, false, true, true, false, false, true, false, false, false, false, false, false, false, false, false, false, false, false, false, false, false, false] rfl rfl (any_of HT_.out (by kernel_rfl)) (fun _ _ _ h => h) (Or.inl ⟨by rfl, ?_⟩) ?_ ?_
                                    rotate_left
                                    · intro w'
                                      go_simp
                                      with_reducible rfl
                                    rotate_left
                                    · simp only [Act.put, List.setIfInBounds_toArray, List.set_cons_zero, List.set_cons_succ, i64_w, i32_w]
                                      rfl
                                    refine pure_ (i := 17) (N := some 65) (v := ?_) (a' := ?_) #[true, true, true, true, true, true, false, true, false, true, false, false, true, true, false, false, true, true, false, false, false, false, false, false, false, false, false, false, false, false, false, false, false] rfl rfl (any_of HT_.out (by kernel_rfl)) (fun _ _ _ h => h) (Or.inl ⟨by rfl, ?_⟩) ?_ ?_
                                    rotate_left
                                    · intro w'
                                      go_simp
                                      with_reducible rfl
                                    rotate_left
                                    · simp only [Act.put, List.setIfInBounds_toArray, List.set_cons_zero, List.set_cons_succ, i64_w, i32_w]
                                      rfl
                                    refine pure_ (i := 18) (N := some 66) (v := ?_) (a' := ?_) #[true, true, true, true, true, true, false, true, false, true, false, false, true, true, false, false, true, true, true, false, false, false, false, false, false, false, false, false, false, false, false, false, false] rfl rfl (any_of HT_.out (by kernel_rfl)) (fun _ _ _ h => h) (Or.inl ⟨by rfl, ?_⟩) ?_ ?_
                                    rotate_left
                                    · intro w'
                                      go_simp
                                      with_reducible rfl
                                    rotate_left
                                    · simp only [Act.put, List.setIfInBounds_toArray, List.set_cons_zero, List.set_cons_succ, i64_w, i32_w]
                                      rfl
                                    refine pure_ (i := 19) (N := some 67) (v := ?_) (a' := ?_) #[true, true, true, true, true, true, false, true, false, true, false, false, true, true, false, false, true, true, true, true, false, false, false, false, false, false, false, false, false, false, false, false, false] rfl rfl (any_of HT_.out (by kernel_rfl)) (fun _ _ _ h => h) (Or.inl ⟨by rfl, ?_⟩) ?_ ?_
                                    rotate_left
                                    · intro w'
                                      go_simp
                                      with_reducible rfl
                                    rotate_left
                                    · simp only [Act.put, List.setIfInBounds_toArray, List.set_cons_zero, List.set_cons_succ, i64_w, i32_w]
                                      rfl
                                    refine pure_ (i := 22) (N := some 70) (v := ?_) (a' := ?_) #[true, true, true, true, true, true, false, true, false, true, false, false, true, true, false, false, true, true, true, true, false, false, true, false, false, false, false, false, false, false, false, false, false] rfl rfl (any_of HT_.out (by kernel_rfl)) (fun _ _ _ h => h) (Or.inl ⟨by rfl, ?_⟩) ?_ ?_
                                    rotate_left
                                    · intro w'
                                      go_simp
                                      with_reducible rfl
                                    rotate_left
                                    · simp only [Act.put, List.setIfInBounds_toArray, List.set_cons_zero, List.set_cons_succ, i64_w, i32_w]
                                      rfl
                                    refine pure_ (i := 24) (N := some 72) (v := ?_) (a' := ?_) #[true, true, true, true, true, true, false, true, false, true, false, false, true, true, false, false, true, true, true, true, false, false, true, false, true, false, false, false, false, false, false, false, false] rfl rfl (any_of HT_.out (by kernel_rfl)) (fun _ _ _ h => h) (Or.inl ⟨by rfl, ?_⟩) ?_ ?_
                                    rotate_left
                                    · intro w'
                                      go_simp
                                      with_reducible rfl
                                    rotate_left
                                    · simp only [Act.put, List.setIfInBounds_toArray, List.set_cons_zero, List.set_cons_succ, i64_w, i32_w]
                                      rfl
                                    refine pure_ (i := 27) (N := some 75) (v := ?_) (a' := ?_) #[true, true, true, true, true, true, false, true, false, true, false, false, true, true, false, false, true, true, true, true, false, false, true, false, true, false, false, true, false, false, false, false, false] rfl rfl (any_of HT_.out (by kernel_rfl)) (fun _ _ _ h => h) (Or.inl ⟨by rfl, ?_⟩) ?_ ?_
                                    rotate_left
                                    · intro w'
                                      go_simp
                                      with_reducible rfl
                                    rotate_left
                                    · simp only [Act.put, List.setIfInBounds_toArray, List.set_cons_zero, List.set_cons_succ, i64_w, i32_w]
                                      rfl
                                    refine pure_ (i := 28) (N := some 76) (v := ?_) (a' := ?_) #[true, true, true, true, true, true, false, true, false, true, false, false, true, true, false, false, true, true, true, true, false, false, true, false, true, false, false, true, true, false, false, false, false] rfl rfl (any_of HT_.out (by kernel_rfl)) (fun _ _ _ h => h) (Or.inl ⟨by rfl, ?_⟩) ?_ ?_
                                    rotate_left
                                    · intro w'
                                      go_simp
                                      with_reducible rfl
                                    rotate_left
                                    · simp only [Act.put, List.setIfInBounds_toArray, List.set_cons_zero, List.set_cons_succ, i64_w, i32_w]
                                      rfl
                                    refine take_ (i := 6) (N := some 54) (v := ?_) (a' := ?_) #[true, true, true, true, true, true, true, true, false, true, false, false, true, true, false, false, true, true, true, true, false, false, true, false, true, false, false, true, true, false, false, false, false] rfl rfl (take_ofW HT_.out HW_.out (by kernel_rfl)) (fun _ _ _ h => h) (Or.inl ⟨by rfl, ?_⟩) hHeld ?_ ?_
                                    rotate_left
                                    · rintro w' ⟨s0, s1⟩
                                      go_simp
                                      with_reducible rfl
                                    rotate_left
                                    · simp only [Act.put, List.setIfInBounds_toArray, List.set_cons_zero, List.set_cons_succ, i64_w, i32_w]
                                      rfl
                                    refine take_ (i := 20) (N := some 68) (v := ?_) (a' := ?_) #[true, true, true, true, true, true, true, true, false, true, false, false, true, true, false, false, true, true, true, true, true, false, true, false, true, false, false, true, true, false, false, false, false] rfl rfl (take_ofW HT_.out HW_.out (by kernel_rfl)) (fun _ _ _ h => h) (Or.inl ⟨by rfl, ?_⟩) hHeld ?_ ?_
                                    rotate_left
                                    · rintro w' ⟨s0, s1⟩
                                      go_simp
                                      with_reducible rfl
                                    rotate_left
                                    · simp only [Act.put, List.setIfInBounds_toArray, List.set_cons_zero, List.set_cons_succ, i64_w, i32_w]
                                      rfl
                                    refine one_ (i := 8) (N := some 56) #[true, true, true, true, true, true, true, true, true, true, false, false, true, true, false, false, true, true, true, true, true, false, true, false, true, false, false, true, true, false, false, false, false] rfl rfl (one_of HT_.out (by kernel_rfl)) (by decide) (fun K hK => ?_)
                                    refine goes_ Tryd.func57 (by kernel_rfl) rfl #[.int .u32 (rd x7_2 (ji20)), .int .u64 7] (by rfl) rfl rfl (by (try simp only [List.map_toArray, List.map_cons, List.map_nil]); first | done | (simp only [hji20]; rfl) | rfl | (simp only [List.length_drop, List.length_take]; rfl)) ?_
                                    with_reducible refine (tikref2_turn.calls (rd x7_2 (ji20)) 7 t145 _ A29.out).mono ?_
                                    rintro e w' ⟨rfl, ⟨nd, rfl⟩⟩
                                    refine ⟨_, rfl, ?_⟩
                                    refine hK.out _ _ ⟨hHeld.1, hHeld.2⟩ (fun hHeld => ?_)
                                    clear hK K
                                    refine norm_ (a' := ?_) ?_ ?_
                                    rotate_left
                                    · show Act.put _ (some 56) _ = _
                                      simp only [Act.put, List.setIfInBounds_toArray, List.set_cons_zero, List.set_cons_succ, i64_w, i32_w]
                                      rfl
                                    refine one_ (i := 10) (N := some 58) #[true, true, true, true, true, true, true, true, true, true, true, false, true, true, false, false, true, true, true, true, true, false, true, false, true, false, false, true, true, false, false, false, false] rfl rfl (one_of HT_.out (by kernel_rfl)) (by decide) (fun K hK => ?_)
                                    refine goes_ Tryd.func57 (by kernel_rfl) rfl #[.int .u32 (rd x7_2 (ji20)), .int .u64 18] (by rfl) rfl rfl (by (try simp only [List.map_toArray, List.map_cons, List.map_nil]); first | done | (simp only [hji20]; rfl) | rfl | (simp only [List.length_drop, List.length_take]; rfl)) ?_
                                    with_reducible refine (tikref2_turn.calls (rd x7_2 (ji20)) 18 t146 _ A30.out).mono ?_
                                    rintro e w' ⟨rfl, ⟨nd, rfl⟩⟩
                                    refine ⟨_, rfl, ?_⟩
                                    refine hK.out _ _ ⟨hHeld.1, hHeld.2⟩ (fun hHeld => ?_)
                                    clear hK K
                                    refine norm_ (a' := ?_) ?_ ?_
                                    rotate_left
                                    · show Act.put _ (some 58) _ = _
                                      simp only [Act.put, List.setIfInBounds_toArray, List.set_cons_zero, List.set_cons_succ, i64_w, i32_w]
                                      rfl
                                    refine pure_ (i := 11) (N := some 59) (v := ?_) (a' := ?_) #[true, true, true, true, true, true, true, true, true, true, true, true, true, true, false, false, true, true, true, true, true, false, true, false, true, false, false, true, true, false, false, false, false] rfl rfl (any_of HT_.out (by kernel_rfl)) (fun _ _ _ h => h) (Or.inl ⟨by rfl, ?_⟩) ?_ ?_
                                    rotate_left
                                    · intro w'
                                      go_simp
                                      with_reducible rfl
                                    rotate_left
                                    · simp only [Act.put, List.setIfInBounds_toArray, List.set_cons_zero, List.set_cons_succ, i64_w, i32_w]
                                      rfl
                                    refine pure_ (i := 14) (N := some 62) (v := ?_) (a' := ?_) #[true, true, true, true, true, true, true, true, true, true, true, true, true, true, true, false, true, true, true, true, true, false, true, false, true, false, false, true, true, false, false, false, false] rfl rfl (any_of HT_.out (by kernel_rfl)) (fun _ _ _ h => h) (Or.inl ⟨by rfl, ?_⟩) ?_ ?_
                                    rotate_left
                                    · intro w'
                                      go_simp
                                      with_reducible rfl
                                    rotate_left
                                    · simp only [Act.put, List.setIfInBounds_toArray, List.set_cons_zero, List.set_cons_succ, i64_w, i32_w]
                                      rfl
                                    refine pure_ (i := 15) (N := some 63) (v := ?_) (a' := ?_) #[true, true, true, true, true, true, true, true, true, true, true, true, true, true, true, true, true, true, true, true, true, false, true, false, true, false, false, true, true, false, false, false, false] rfl rfl (any_of HT_.out (by kernel_rfl)) (fun _ _ _ h => h) (Or.inl ⟨by rfl, ?_⟩) ?_ ?_
                                    rotate_left
                                    · intro w'
                                      go_simp
                                      with_reducible rfl
                                    rotate_left
                                    · simp only [Act.put, List.setIfInBounds_toArray, List.set_cons_zero, List.set_cons_succ, i64_w, i32_w]
                                      rfl
                                    refine pure_ (i := 21) (N := some 69) (v := ?_) (a' := ?_) #[true, true, true, true, true, true, true, true, true, true, true, true, true, true, true, true, true, true, true, true, true, true, true, false, true, false, false, true, true, false, false, false, false] rfl rfl (any_of HT_.out (by kernel_rfl)) (fun _ _ _ h => h) (Or.inl ⟨by rfl, ?_⟩) ?_ ?_
                                    rotate_left
                                    · intro w'
                                      go_simp
                                      with_reducible rfl
                                    rotate_left
                                    · simp only [Act.put, List.setIfInBounds_toArray, List.set_cons_zero, List.set_cons_succ, i64_w, i32_w]
                                      rfl
                                    refine one_ (i := 23) (N := some 71) #[true, true, true, true, true, true, true, true, true, true, true, true, true, true, true, true, true, true, true, true, true, true, true, true, true, false, false, true, true, false, false, false, false] rfl rfl (one_of HT_.out (by kernel_rfl)) (by decide) (fun K hK => ?_)
                                    refine goes_ Tryd.func57 (by kernel_rfl) rfl #[.int .u32 (rd x7_2 (ji23)), .int .u64 17] (by rfl) rfl rfl (by (try simp only [List.map_toArray, List.map_cons, List.map_nil]); first | done | (simp only [hji23]; rfl) | rfl | (simp only [List.length_drop, List.length_take]; rfl)) ?_
                                    with_reducible refine (tikref2_turn.calls (rd x7_2 (ji23)) 17 t148 _ A34.out).mono ?_
                                    rintro e w' ⟨rfl, ⟨nd, rfl⟩⟩
                                    refine ⟨_, rfl, ?_⟩
                                    refine hK.out _ _ ⟨hHeld.1, hHeld.2⟩ (fun hHeld => ?_)
                                    clear hK K
                                    refine norm_ (a' := ?_) ?_ ?_
                                    rotate_left
                                    · show Act.put _ (some 71) _ = _
                                      simp only [Act.put, List.setIfInBounds_toArray, List.set_cons_zero, List.set_cons_succ, i64_w, i32_w]
                                      rfl
                                    refine one_ (i := 25) (N := some 73) #[true, true, true, true, true, true, true, true, true, true, true, true, true, true, true, true, true, true, true, true, true, true, true, true, true, true, false, true, true, false, false, false, false] rfl rfl (one_of HT_.out (by kernel_rfl)) (by decide) (fun K hK => ?_)
                                    refine goes_ Tryd.func57 (by kernel_rfl) rfl #[.int .u32 (rd x7_2 (ji23)), .int .u64 19] (by rfl) rfl rfl (by (try simp only [List.map_toArray, List.map_cons, List.map_nil]); first | done | (simp only [hji23]; rfl) | rfl | (simp only [List.length_drop, List.length_take]; rfl)) ?_
                                    with_reducible refine (tikref2_turn.calls (rd x7_2 (ji23)) 19 t149 _ A35.out).mono ?_
                                    rintro e w' ⟨rfl, ⟨nd, rfl⟩⟩
                                    refine ⟨_, rfl, ?_⟩
                                    have p38 : 0 ≤ (x9_2 : Int) := of_decide_eq_true (by first | (with_reducible assumption) | assumption)
                                    have q38 : (x9_2 : Int) < ((x7_2.length : Int) : Int) := of_decide_eq_true (by first | (with_reducible assumption) | assumption)
                                    obtain ⟨go38, co38, eo38, gb38, gl38, cl38, HG38⟩ := Kd.R_form HO_7.out (by omega)
                                    (first | cases eo38 | (injection eo38 with ea_ en_ ec_; (first | subst ea_ | (injection ea_ with ea_; subst ea_)); subst ec_; clear en_))
                                    have GB38 := Aside0.mk gb38
                                    have GG38 := Aside0.mk HG38
                                    clear gb38 gl38 HG38
                                    (first | simp only [add_plain] at hx142_0 | skip)
                                    (first | simp only [add_plain] at hx143_0 | skip)
                                    (first | simp only [add_plain] at hx144_0 | skip)
                                    (first | simp only [add_plain] at hx147_0 | skip)
                                    obtain ⟨hx38_0, hf38_0⟩ := Kd.R_celln 0 HO_7.out (x9_2 : Int) p38 q38
                                    replace p38 := eq_true p38
                                    replace q38 := eq_true q38
                                    have HP42 := Kd.R_putn HO_7.out (x9_2 : Int) (((((((rd x7_2 (ji26)) + (Go.bits .xor .u32 (Go.bits .xor .u32 t145 t146) ((rd x7_2 (ji20)) / 8))) % 4294967296) + (rd x7_2 (ji31))) % 4294967296) + (Go.bits .xor .u32 (Go.bits .xor .u32 t148 t149) ((rd x7_2 (ji23)) / 1024))) % 4294967296)
                                    rw [← Ny150.out] at HP42
                                    have HQ42 := Aside0.mk HP42
                                    clear HP42
                                    refine hK.out _ _ ⟨hHeld.1, hHeld.2⟩ (fun hHeld => ?_)
                                    clear hK K
                                    refine norm_ (a' := ?_) ?_ ?_
                                    rotate_left
                                    · show Act.put _ (some 73) _ = _
                                      simp only [Act.put, List.setIfInBounds_toArray, List.set_cons_zero, List.set_cons_succ, i64_w, i32_w]
                                      rfl
                                    refine pure_ (i := 26) (N := some 74) (v := ?_) (a' := ?_) #[true, true, true, true, true, true, true, true, true, true, true, true, true, true, true, true, true, true, true, true, true, true, true, true, true, true, true, true, true, false, false, false, false] rfl rfl (any_of HT_.out (by kernel_rfl)) (fun _ _ _ h => h) (Or.inl ⟨by rfl, ?_⟩) ?_ ?_
                                    rotate_left
                                    · intro w'
                                      go_simp
                                      with_reducible rfl
                                    rotate_left
                                    · simp only [Act.put, List.setIfInBounds_toArray, List.set_cons_zero, List.set_cons_succ, i64_w, i32_w]
                                      rfl
                                    refine pure_ (i := 29) (N := some 77) (v := ?_) (a' := ?_) #[true, true, true, true, true, true, true, true, true, true, true, true, true, true, true, true, true, true, true, true, true, true, true, true, true, true, true, true, true, true, false, false, false] rfl rfl (any_of HT_.out (by kernel_rfl)) (fun _ _ _ h => h) (Or.inl ⟨by rfl, ?_⟩) ?_ ?_
                                    rotate_left
                                    · intro w'
                                      go_simp
                                      with_reducible rfl
                                    rotate_left
                                    · simp only [Act.put, List.setIfInBounds_toArray, List.set_cons_zero, List.set_cons_succ, i64_w, i32_w]
                                      rfl
                                    refine pure_ (i := 30) (N := some 78) (v := ?_) (a' := ?_) #[true, true, true, true, true, true, true, true, true, true, true, true, true, true, true, true, true, true, true, true, true, true, true, true, true, true, true, true, true, true, true, false, false] rfl rfl (any_of HT_.out (by kernel_rfl)) (fun _ _ _ h => h) (Or.inl ⟨by rfl, ?_⟩) ?_ ?_
                                    rotate_left
                                    · intro w'
                                      go_simp
                                      with_reducible rfl
                                    rotate_left
                                    · simp only [Act.put, List.setIfInBounds_toArray, List.set_cons_zero, List.set_cons_succ, i64_w, i32_w]
                                      rfl
                                    refine pure_ (i := 31) (N := some 79) (v := ?_) (a' := ?_) #[true, true, true, true, true, true, true, true, true, true, true, true, true, true, true, true, true, true, true, true, true, true, true, true, true, true, true, true, true, true, true, true, false] rfl rfl (any_of HT_.out (by kernel_rfl)) (fun _ _ _ h => h) (Or.inl ⟨by rfl, ?_⟩) ?_ ?_
                                    rotate_left
                                    · intro w'
                                      go_simp
                                      with_reducible rfl
                                    rotate_left
                                    · simp only [Act.put, List.setIfInBounds_toArray, List.set_cons_zero, List.set_cons_succ, i64_w, i32_w]
                                      rfl
                                    refine last_ (i := 32) (N := none) #[true, true, true, true, true, true, true, true, true, true, true, true, true, true, true, true, true, true, true, true, true, true, true, true, true, true, true, true, true, true, true, true, true] rfl rfl (one_of HT_.out (by kernel_rfl)) (by decide) (fun K hK => ?_)
                                    refine skip_ (w1 := ?_) (by rfl) rfl ?_ ?_
                                    rotate_left
                                    · go_simp
                                      rfl
                                    refine hK.out _ _ ?_
                                    clear hK K
                                    refine done_ (done_of HT_.out (by kernel_rfl)) ?_
                                    try go_wp2
                                    go_roundg k2
                                    case measure => have := HK1.out; have := HK2.out; omega
                                    case rel => exact ⟨(y150), (wrap64 (x9_2 + 1)), (by first | rfl | (simp; done) | (simp [*]; done)), H', ⟨by have := HK1.out; have := HK2.out; omega⟩, ⟨by (with_reducible repeat (first | apply Kd.R_alloc | apply Kd.R_drewN | apply Kd.R_drew)); (first | exact HQ42.out | (have hz_ := HQ42.out; simp only [Int.emod_add_emod, Int.add_emod_emod, IntKind.wrap_u32] at hz_ ⊢; exact hz_))⟩, ⟨by repeat (first | (with_reducible first | exact HB.out | apply below_alloc | apply pw_below_drewN | apply below_drew1 | refine below_set ?_ GB38.out) | exact HB.out)⟩⟩
                                  · rw [if_neg c37] at H
                                    exact absurd H (by simp)
                                · rw [if_neg c36] at H
                                  exact absurd H (by simp)
                              · rw [if_neg c33] at H
                                exact absurd H (by simp)
                            · rw [if_neg c32] at H
                              exact absurd H (by simp)
                          · rw [if_neg c28] at H
                            exact absurd H (by simp)
                        · rw [if_neg c27] at H
                          exact absurd H (by simp)
                      · rw [if_neg c25] at H
                        exact absurd H (by simp)
                    · rw [if_neg c24] at H
                      exact absurd H (by simp)
                  · rw [if_neg c22] at H
                    exact absurd H (by simp)
                · rw [if_neg c21] at H
                  exact absurd H (by simp)
              · rw [if_neg c19] at H
                have c19b0 : decide (x9_2 < 64) = false := decide_eq_false c19
                clear c19
                obtain ⟨y151, hy151⟩ : ∃ y_ : List Int, y_ = (([] : List Int)) := ⟨_, rfl⟩
                replace H : (if y151.length + l0.length < 35184372088832 then (tikref2_block.l2 k2 l0 l1 x7_2 (y151 ++ l0) 0) else (none)) = some r := by first | (rw [hy151]; with_reducible exact H) | (have H2_ := (Option.bind_some _ _).symm.trans H; rw [hy151]; with_reducible exact H2_) | (have H2_ := (Option.bind_some _ _).symm.trans H; with_reducible exact H2_) | with_reducible exact H | (rw [hy151]; exact H) | exact H
                have Ny151 := Aside0.mk hy151
                clear hy151
                by_cases c43 : y151.length + l0.length < 35184372088832
                · rw [if_pos c43] at H
                  have LMc43 := Aside0.mk c43
                  clear c43
                  obtain ⟨y154, hy154⟩ : ∃ y_ : List Int, y_ = (y151 ++ l0) := ⟨_, rfl⟩
                  replace H : (tikref2_block.l2 k2 l0 l1 x7_2 y154 0) = some r := by first | (rw [hy154]; with_reducible exact H) | (have H2_ := (Option.bind_some _ _).symm.trans H; rw [hy154]; with_reducible exact H2_) | (have H2_ := (Option.bind_some _ _).symm.trans H; with_reducible exact H2_) | with_reducible exact H | (rw [hy154]; exact H) | exact H
                  have Ny154 := Aside0.mk hy154
                  clear hy154
                  have H' := Aside0.mk H
                  clear H
                  go_wp2_with (first | ((with_reducible refine gate_dst (N := 80) rfl ?_); refine Kd.R_lit (Kd.int .u32) _ 83 ?hg (N := 80) ?hd (xs := ([] : List Int)) (inner := []) (ok := fun _ => True) (okp := fun _ => True) ?hr ?hp (fun _ hk => hk) trivial (Below.refl _ _) (Nat.le_refl _) (by simp) ?_; (case hd => rfl); (case hg => rfl); (case hr => first | (go_simp; done) | (go_simp; rfl) | (go_simp; simp [IntKind.wrap_u32, show IntKind.u32.max = 4294967295 from rfl]; done)); (case hp => exact (Reps.none _ _)); intro v152 w44 ho45 hb hg_ hnew_; clear hg_ hnew_; (first | rw [← Ny151.out] at ho45 | (simp only [Int.reduceToNat] at ho45; rw [← Ny151.out] at ho45)); have n0_ := Aside0.mk (Kd.R_elder' (by (with_reducible repeat (first | apply Kd.R_alloc | apply Kd.R_drewN | apply Kd.R_drew)); exact HO_7.out) (Kd.R_base ho45) hb); have n1_ := Aside0.mk (Kd.R_lower (Kd.R_new' ho45 (Kd.R_lt (by (with_reducible repeat (first | apply Kd.R_alloc | apply Kd.R_drewN | apply Kd.R_drew)); exact HO_7.out))) (below_size (by repeat (first | (with_reducible first | exact HB.out | apply below_alloc | apply pw_below_drewN | apply below_drew1) | exact HB.out)))); have n2_ := Aside0.mk (below_step (by repeat (first | (with_reducible first | exact HB.out | apply below_alloc | apply pw_below_drewN | apply below_drew1) | exact HB.out)) hb); clear HO_7; clear HB; have HO_7 := n0_; have HO153 := n1_; have HB := n2_; clear n0_ n1_ n2_; clear hb ho45) | ((with_reducible refine gate_builtin (b := .append) (xs := #[.tmp 80, .tmp 81]) rfl ?_); at_builtin; refine Kd.R_append_rows (Kd.int .u32) (w0 := w) w.heap.size rfl (.tmp 80) (.tmp 81) 86 83 (.int .u32 0) 4 rfl Tryd.underlying86 info83 rfl (by decide) (by omega) v152 y151 l0 _ _ _ (fun k_ => some k_ ≠ (v137 : Value).ownBlock) (fun _ => False) rfl rfl ?aO ?aR (fun _ _ h => h) (fun _ h => h.elim) ?aF ?aB ?aS ?aL ?_; (case aR => repeat (first | exact (Kd.C_below HR0.out HB.out) | (with_reducible refine Kd.C_alloc ?_ _) | (with_reducible refine Kd.C_drewN ?_ _) | (with_reducible refine Kd.C_drew ?_))); (case aB => exact (by repeat (first | (with_reducible first | exact HB.out | apply below_alloc | apply pw_below_drewN | apply below_drew1) | exact HB.out))); (case aF => exact (fun k_ hk => Kd.fresh' (Kd.R_lt (by (with_reducible repeat (first | apply Kd.R_alloc | apply Kd.R_drewN | apply Kd.R_drew)); exact HO_7.out)) k_ hk)); (case aO => exact (by (with_reducible repeat (first | apply Kd.R_alloc | apply Kd.R_drewN | apply Kd.R_drew)); exact Kd.R_mono HO153.out (fun _ hk => hk.2))); (case aS => exact (below_size (by repeat (first | (with_reducible first | exact HB.out | apply below_alloc | apply pw_below_drewN | apply below_drew1) | exact HB.out)))); (case aL => have := LMc43.out; omega); intro v155 w46 ho hb hg hat; rw [← Ny154.out] at ho; have n0_ := Aside0.mk (Kd.R_after (ok := (fun _ => True)) (by (with_reducible repeat (first | apply Kd.R_alloc | apply Kd.R_drewN | apply Kd.R_drew)); exact HO_7.out) hg hat); have n1_ := Aside0.mk (hb); have n2_ := Aside0.mk (ho); clear HO_7; clear HB; clear HO153; have HO_7 := n0_; have HB := n1_; have HO156 := n2_; clear n0_ n1_ n2_; clear ho hb hg hat))
                  go_loopg [12, 13] k2 (fun kq v12 v13 w' => ∃ (x12_3 : List Int) (x13_3 : Int), v13 = .int .i64 x13_3 ∧ Aside0 (tikref2_block.l2 kq l0 l1 x7_2 x12_3 x13_3 = some r) ∧ Aside0 (kq ≤ k2) ∧ Aside0 (Kd.R (Kd.int .u32) 83 w' w.heap.size (fun k_ => some k_ ≠ (v12 : Value).ownBlock) v137 x7_2) ∧ Aside0 (Kd.R (Kd.int .u32) 83 w' w.heap.size (fun k_ => some k_ ≠ (v137 : Value).ownBlock) v12 x12_3) ∧ Aside0 (Below w.heap.size w w'))
                  case atStart => exact ⟨(y154), (0), (by first | rfl | (simp; done) | (simp [*]; done)), H', ⟨Nat.le_refl _⟩, ⟨by (with_reducible repeat (first | apply Kd.R_alloc | apply Kd.R_drewN | apply Kd.R_drew)); exact Kd.R_mono HO_7.out (fun _ hk => hk.2)⟩, ⟨by (with_reducible repeat (first | apply Kd.R_alloc | apply Kd.R_drewN | apply Kd.R_drew)); exact HO156.out⟩, ⟨by repeat (first | (with_reducible first | exact HB.out | apply below_alloc | apply pw_below_drewN | apply below_drew1) | exact HB.out)⟩⟩
                  case round =>
                    clear H'
                    try clear c1
                    try clear p1
                    try clear q1
                    try clear hx1
                    try clear c2
                    try clear p2
                    try clear c3
                    try clear p3
                    try clear q3
                    try clear hx3
                    try clear hf3
                    try clear c4
                    try clear c5
                    try clear p6
                    try clear c7
                    try clear c7b0
                    try clear c9
                    try clear c9b0
                    try clear c9b1
                    try clear c10
                    try clear c10b0
                    try clear c10b1
                    try clear c11
                    try clear c11b0
                    try clear c11b1
                    try clear c13
                    try clear c13b0
                    try clear c14
                    try clear c14b0
                    try clear p14
                    try clear q14
                    try clear hx14
                    try clear p15
                    try clear q15
                    try clear hx15
                    try clear hf15
                    try clear c19
                    try clear c19b0
                    try clear c21
                    try clear c21b0
                    try clear c22
                    try clear c22b0
                    try clear c24
                    try clear c24b0
                    try clear c25
                    try clear c25b0
                    try clear c27
                    try clear c27b0
                    try clear c28
                    try clear c28b0
                    try clear c32
                    try clear c32b0
                    try clear c33
                    try clear c33b0
                    try clear c36
                    try clear c36b0
                    try clear c37
                    try clear c37b0
                    try clear p38
                    try clear q38
                    try clear hx38
                    try clear hf38
                    try clear c43
                    try clear hx142_0
                    try clear hx143_0
                    try clear hx144_0
                    try clear hx147_0
                    try clear hx15_0
                    try clear hx38_0
                    try clear p142
                    try clear p143
                    try clear p144
                    try clear p147
                    try clear p15
                    try clear p2
                    try clear p38
                    try clear q142
                    try clear q143
                    try clear q144
                    try clear q147
                    try clear q15
                    try clear q38
                    obtain ⟨x12_3, x13_3, rfl, HA, HK3, HO_7, HO_12, HB⟩ := hrel
                    cases gk with
                    | zero => exact absurd HA.out (by simp [tikref2_block.l2])
                    | succ k3 =>
                      have H := HA.out
                      clear HA
                      simp only [tikref2_block.l2] at H
                      by_cases c47 : x13_3 < 64
                      · rw [if_pos c47] at H
                        have c47b0 : decide (x13_3 < 64) = true := decide_eq_true c47
                        clear c47
                        by_cases c48 : 7 < (x12_3.length : Int)
                        · rw [if_pos c48] at H
                          have c48b0 : decide (7 < (x12_3.length : Int)) = true := decide_eq_true c48
                          have c48b1 : decide (7 < x12_3.length) = true := decide_eq_true (by omega)
                          clear c48
                          by_cases c49 : 4 < (x12_3.length : Int)
                          · rw [if_pos c49] at H
                            have c49b0 : decide (4 < (x12_3.length : Int)) = true := decide_eq_true c49
                            have c49b1 : decide (4 < x12_3.length) = true := decide_eq_true (by omega)
                            clear c49
                            replace H := Option.bind_eq_some_iff.mp H
                            obtain ⟨t159, A500, H⟩ := H
                            replace H : ((tikref2_turn.f (rd x12_3 4) 11).bind fun t161 => ((tikref2_turn.f (rd x12_3 4) 25).bind fun t163 => (if 5 < (x12_3.length : Int) then (if 6 < (x12_3.length : Int) then (if 0 ≤ x13_3 then (if x13_3 < (l1.length : Int) then (if x13_3 < (x7_2.length : Int) then (if 0 < (x12_3.length : Int) then ((tikref2_turn.f (rd x12_3 0) 2).bind fun t171 => ((tikref2_turn.f (rd x12_3 0) 13).bind fun t173 => ((tikref2_turn.f (rd x12_3 0) 22).bind fun t175 => (if 1 < (x12_3.length : Int) then (if 2 < (x12_3.length : Int) then (if 3 < (x12_3.length : Int) then (tikref2_block.l2 k3 l0 l1 x7_2 (([((((((((((rd x12_3 7) + (Go.bits .xor .u32 (Go.bits .xor .u32 t159 t161) t163)) % 4294967296) + (Go.bits .xor .u32 (Go.bits .and .u32 (rd x12_3 4) (rd x12_3 5)) (Go.bits .and .u32 (Go.bits .xor .u32 4294967295 (rd x12_3 4)) (rd x12_3 6)))) % 4294967296) + (rd l1 x13_3)) % 4294967296) + (rd x7_2 x13_3)) % 4294967296) + (((Go.bits .xor .u32 (Go.bits .xor .u32 t171 t173) t175) + (Go.bits .xor .u32 (Go.bits .xor .u32 (Go.bits .and .u32 (rd x12_3 0) (rd x12_3 1)) (Go.bits .and .u32 (rd x12_3 0) (rd x12_3 2))) (Go.bits .and .u32 (rd x12_3 1) (rd x12_3 2)))) % 4294967296)) % 4294967296, rd x12_3 0, rd x12_3 1, rd x12_3 2, ((rd x12_3 3) + (((((((((rd x12_3 7) + (Go.bits .xor .u32 (Go.bits .xor .u32 t159 t161) t163)) % 4294967296) + (Go.bits .xor .u32 (Go.bits .and .u32 (rd x12_3 4) (rd x12_3 5)) (Go.bits .and .u32 (Go.bits .xor .u32 4294967295 (rd x12_3 4)) (rd x12_3 6)))) % 4294967296) + (rd l1 x13_3)) % 4294967296) + (rd x7_2 x13_3)) % 4294967296)) % 4294967296, rd x12_3 4, rd x12_3 5, rd x12_3 6] : List Int)) (wrap64 (x13_3 + 1))) else (none)) else (none)) else (none))))) else (none)) else (none)) else (none)) else (none)) else (none)) else (none)))) = some r := H
                            have A50 := Aside0.mk A500
                            clear A500
                            replace H := Option.bind_eq_some_iff.mp H
                            obtain ⟨t161, A510, H⟩ := H
                            replace H : ((tikref2_turn.f (rd x12_3 4) 25).bind fun t163 => (if 5 < (x12_3.length : Int) then (if 6 < (x12_3.length : Int) then (if 0 ≤ x13_3 then (if x13_3 < (l1.length : Int) then (if x13_3 < (x7_2.length : Int) then (if 0 < (x12_3.length : Int) then ((tikref2_turn.f (rd x12_3 0) 2).bind fun t171 => ((tikref2_turn.f (rd x12_3 0) 13).bind fun t173 => ((tikref2_turn.f (rd x12_3 0) 22).bind fun t175 => (if 1 < (x12_3.length : Int) then (if 2 < (x12_3.length : Int) then (if 3 < (x12_3.length : Int) then (tikref2_block.l2 k3 l0 l1 x7_2 (([((((((((((rd x12_3 7) + (Go.bits .xor .u32 (Go.bits .xor .u32 t159 t161) t163)) % 4294967296) + (Go.bits .xor .u32 (Go.bits .and .u32 (rd x12_3 4) (rd x12_3 5)) (Go.bits .and .u32 (Go.bits .xor .u32 4294967295 (rd x12_3 4)) (rd x12_3 6)))) % 4294967296) + (rd l1 x13_3)) % 4294967296) + (rd x7_2 x13_3)) % 4294967296) + (((Go.bits .xor .u32 (Go.bits .xor .u32 t171 t173) t175) + (Go.bits .xor .u32 (Go.bits .xor .u32 (Go.bits .and .u32 (rd x12_3 0) (rd x12_3 1)) (Go.bits .and .u32 (rd x12_3 0) (rd x12_3 2))) (Go.bits .and .u32 (rd x12_3 1) (rd x12_3 2)))) % 4294967296)) % 4294967296, rd x12_3 0, rd x12_3 1, rd x12_3 2, ((rd x12_3 3) + (((((((((rd x12_3 7) + (Go.bits .xor .u32 (Go.bits .xor .u32 t159 t161) t163)) % 4294967296) + (Go.bits .xor .u32 (Go.bits .and .u32 (rd x12_3 4) (rd x12_3 5)) (Go.bits .and .u32 (Go.bits .xor .u32 4294967295 (rd x12_3 4)) (rd x12_3 6)))) % 4294967296) + (rd l1 x13_3)) % 4294967296) + (rd x7_2 x13_3)) % 4294967296)) % 4294967296, rd x12_3 4, rd x12_3 5, rd x12_3 6] : List Int)) (wrap64 (x13_3 + 1))) else (none)) else (none)) else (none))))) else (none)) else (none)) else (none)) else (none)) else (none)) else (none))) = some r := H
                            have A51 := Aside0.mk A510
                            clear A510
                            replace H := Option.bind_eq_some_iff.mp H
                            obtain ⟨t163, A520, H⟩ := H
                            replace H : (if 5 < (x12_3.length : Int) then (if 6 < (x12_3.length : Int) then (if 0 ≤ x13_3 then (if x13_3 < (l1.length : Int) then (if x13_3 < (x7_2.length : Int) then (if 0 < (x12_3.length : Int) then ((tikref2_turn.f (rd x12_3 0) 2).bind fun t171 => ((tikref2_turn.f (rd x12_3 0) 13).bind fun t173 => ((tikref2_turn.f (rd x12_3 0) 22).bind fun t175 => (if 1 < (x12_3.length : Int) then (if 2 < (x12_3.length : Int) then (if 3 < (x12_3.length : Int) then (tikref2_block.l2 k3 l0 l1 x7_2 (([((((((((((rd x12_3 7) + (Go.bits .xor .u32 (Go.bits .xor .u32 t159 t161) t163)) % 4294967296) + (Go.bits .xor .u32 (Go.bits .and .u32 (rd x12_3 4) (rd x12_3 5)) (Go.bits .and .u32 (Go.bits .xor .u32 4294967295 (rd x12_3 4)) (rd x12_3 6)))) % 4294967296) + (rd l1 x13_3)) % 4294967296) + (rd x7_2 x13_3)) % 4294967296) + (((Go.bits .xor .u32 (Go.bits .xor .u32 t171 t173) t175) + (Go.bits .xor .u32 (Go.bits .xor .u32 (Go.bits .and .u32 (rd x12_3 0) (rd x12_3 1)) (Go.bits .and .u32 (rd x12_3 0) (rd x12_3 2))) (Go.bits .and .u32 (rd x12_3 1) (rd x12_3 2)))) % 4294967296)) % 4294967296, rd x12_3 0, rd x12_3 1, rd x12_3 2, ((rd x12_3 3) + (((((((((rd x12_3 7) + (Go.bits .xor .u32 (Go.bits .xor .u32 t159 t161) t163)) % 4294967296) + (Go.bits .xor .u32 (Go.bits .and .u32 (rd x12_3 4) (rd x12_3 5)) (Go.bits .and .u32 (Go.bits .xor .u32 4294967295 (rd x12_3 4)) (rd x12_3 6)))) % 4294967296) + (rd l1 x13_3)) % 4294967296) + (rd x7_2 x13_3)) % 4294967296)) % 4294967296, rd x12_3 4, rd x12_3 5, rd x12_3 6] : List Int)) (wrap64 (x13_3 + 1))) else (none)) else (none)) else (none))))) else (none)) else (none)) else (none)) else (none)) else (none)) else (none)) = some r := H
                            have A52 := Aside0.mk A520
                            clear A520
                            by_cases c53 : 5 < (x12_3.length : Int)
                            · rw [if_pos c53] at H
                              have c53b0 : decide (5 < (x12_3.length : Int)) = true := decide_eq_true c53
                              have c53b1 : decide (5 < x12_3.length) = true := decide_eq_true (by omega)
                              clear c53
                              by_cases c54 : 6 < (x12_3.length : Int)
                              · rw [if_pos c54] at H
                                have c54b0 : decide (6 < (x12_3.length : Int)) = true := decide_eq_true c54
                                have c54b1 : decide (6 < x12_3.length) = true := decide_eq_true (by omega)
                                clear c54
                                by_cases c55 : 0 ≤ x13_3
                                · rw [if_pos c55] at H
                                  have c55b0 : decide (0 ≤ x13_3) = true := decide_eq_true c55
                                  clear c55
                                  by_cases c56 : x13_3 < (l1.length : Int)
                                  · rw [if_pos c56] at H
                                    have c56b0 : decide (x13_3 < (l1.length : Int)) = true := decide_eq_true c56
                                    clear c56
                                    by_cases c57 : x13_3 < (x7_2.length : Int)
                                    · rw [if_pos c57] at H
                                      have c57b0 : decide (x13_3 < (x7_2.length : Int)) = true := decide_eq_true c57
                                      clear c57
                                      by_cases c58 : 0 < (x12_3.length : Int)
                                      · rw [if_pos c58] at H
                                        have c58b0 : decide (0 < (x12_3.length : Int)) = true := decide_eq_true c58
                                        have c58b1 : decide (0 < x12_3.length) = true := decide_eq_true (by omega)
                                        clear c58
                                        replace H := Option.bind_eq_some_iff.mp H
                                        obtain ⟨t171, A590, H⟩ := H
                                        replace H : ((tikref2_turn.f (rd x12_3 0) 13).bind fun t173 => ((tikref2_turn.f (rd x12_3 0) 22).bind fun t175 => (if 1 < (x12_3.length : Int) then (if 2 < (x12_3.length : Int) then (if 3 < (x12_3.length : Int) then (tikref2_block.l2 k3 l0 l1 x7_2 (([((((((((((rd x12_3 7) + (Go.bits .xor .u32 (Go.bits .xor .u32 t159 t161) t163)) % 4294967296) + (Go.bits .xor .u32 (Go.bits .and .u32 (rd x12_3 4) (rd x12_3 5)) (Go.bits .and .u32 (Go.bits .xor .u32 4294967295 (rd x12_3 4)) (rd x12_3 6)))) % 4294967296) + (rd l1 x13_3)) % 4294967296) + (rd x7_2 x13_3)) % 4294967296) + (((Go.bits .xor .u32 (Go.bits .xor .u32 t171 t173) t175) + (Go.bits .xor .u32 (Go.bits .xor .u32 (Go.bits .and .u32 (rd x12_3 0) (rd x12_3 1)) (Go.bits .and .u32 (rd x12_3 0) (rd x12_3 2))) (Go.bits .and .u32 (rd x12_3 1) (rd x12_3 2)))) % 4294967296)) % 4294967296, rd x12_3 0, rd x12_3 1, rd x12_3 2, ((rd x12_3 3) + (((((((((rd x12_3 7) + (Go.bits .xor .u32 (Go.bits .xor .u32 t159 t161) t163)) % 4294967296) + (Go.bits .xor .u32 (Go.bits .and .u32 (rd x12_3 4) (rd x12_3 5)) (Go.bits .and .u32 (Go.bits .xor .u32 4294967295 (rd x12_3 4)) (rd x12_3 6)))) % 4294967296) + (rd l1 x13_3)) % 4294967296) + (rd x7_2 x13_3)) % 4294967296)) % 4294967296, rd x12_3 4, rd x12_3 5, rd x12_3 6] : List Int)) (wrap64 (x13_3 + 1))) else (none)) else (none)) else (none)))) = some r := H
                                        have A59 := Aside0.mk A590
                                        clear A590
                                        replace H := Option.bind_eq_some_iff.mp H
                                        obtain ⟨t173, A600, H⟩ := H
                                        replace H : ((tikref2_turn.f (rd x12_3 0) 22).bind fun t175 => (if 1 < (x12_3.length : Int) then (if 2 < (x12_3.length : Int) then (if 3 < (x12_3.length : Int) then (tikref2_block.l2 k3 l0 l1 x7_2 (([((((((((((rd x12_3 7) + (Go.bits .xor .u32 (Go.bits .xor .u32 t159 t161) t163)) % 4294967296) + (Go.bits .xor .u32 (Go.bits .and .u32 (rd x12_3 4) (rd x12_3 5)) (Go.bits .and .u32 (Go.bits .xor .u32 4294967295 (rd x12_3 4)) (rd x12_3 6)))) % 4294967296) + (rd l1 x13_3)) % 4294967296) + (rd x7_2 x13_3)) % 4294967296) + (((Go.bits .xor .u32 (Go.bits .xor .u32 t171 t173) t175) + (Go.bits .xor .u32 (Go.bits .xor .u32 (Go.bits .and .u32 (rd x12_3 0) (rd x12_3 1)) (Go.bits .and .u32 (rd x12_3 0) (rd x12_3 2))) (Go.bits .and .u32 (rd x12_3 1) (rd x12_3 2)))) % 4294967296)) % 4294967296, rd x12_3 0, rd x12_3 1, rd x12_3 2, ((rd x12_3 3) + (((((((((rd x12_3 7) + (Go.bits .xor .u32 (Go.bits .xor .u32 t159 t161) t163)) % 4294967296) + (Go.bits .xor .u32 (Go.bits .and .u32 (rd x12_3 4) (rd x12_3 5)) (Go.bits .and .u32 (Go.bits .xor .u32 4294967295 (rd x12_3 4)) (rd x12_3 6)))) % 4294967296) + (rd l1 x13_3)) % 4294967296) + (rd x7_2 x13_3)) % 4294967296)) % 4294967296, rd x12_3 4, rd x12_3 5, rd x12_3 6] : List Int)) (wrap64 (x13_3 + 1))) else (none)) else (none)) else (none))) = some r := H
                                        have A60 := Aside0.mk A600
                                        clear A600
                                        replace H := Option.bind_eq_some_iff.mp H
                                        obtain ⟨t175, A610, H⟩ := H
                                        replace H : (if 1 < (x12_3.length : Int) then (if 2 < (x12_3.length : Int) then (if 3 < (x12_3.length : Int) then (tikref2_block.l2 k3 l0 l1 x7_2 (([((((((((((rd x12_3 7) + (Go.bits .xor .u32 (Go.bits .xor .u32 t159 t161) t163)) % 4294967296) + (Go.bits .xor .u32 (Go.bits .and .u32 (rd x12_3 4) (rd x12_3 5)) (Go.bits .and .u32 (Go.bits .xor .u32 4294967295 (rd x12_3 4)) (rd x12_3 6)))) % 4294967296) + (rd l1 x13_3)) % 4294967296) + (rd x7_2 x13_3)) % 4294967296) + (((Go.bits .xor .u32 (Go.bits .xor .u32 t171 t173) t175) + (Go.bits .xor .u32 (Go.bits .xor .u32 (Go.bits .and .u32 (rd x12_3 0) (rd x12_3 1)) (Go.bits .and .u32 (rd x12_3 0) (rd x12_3 2))) (Go.bits .and .u32 (rd x12_3 1) (rd x12_3 2)))) % 4294967296)) % 4294967296, rd x12_3 0, rd x12_3 1, rd x12_3 2, ((rd x12_3 3) + (((((((((rd x12_3 7) + (Go.bits .xor .u32 (Go.bits .xor .u32 t159 t161) t163)) % 4294967296) + (Go.bits .xor .u32 (Go.bits .and .u32 (rd x12_3 4) (rd x12_3 5)) (Go.bits .and .u32 (Go.bits .xor .u32 4294967295 (rd x12_3 4)) (rd x12_3 6)))) % 4294967296) + (rd l1 x13_3)) % 4294967296) + (rd x7_2 x13_3)) % 4294967296)) % 4294967296, rd x12_3 4, rd x12_3 5, rd x12_3 6] : List Int)) (wrap64 (x13_3 + 1))) else (none)) else (none)) else (none)) = some r := H
                                        have A61 := Aside0.mk A610
                                        clear A610
                                        by_cases c62 : 1 < (x12_3.length : Int)
                                        · rw [if_pos c62] at H
                                          have c62b0 : decide (1 < (x12_3.length : Int)) = true := decide_eq_true c62
                                          have c62b1 : decide (1 < x12_3.length) = true := decide_eq_true (by omega)
                                          clear c62
                                          by_cases c63 : 2 < (x12_3.length : Int)
                                          · rw [if_pos c63] at H
                                            have c63b0 : decide (2 < (x12_3.length : Int)) = true := decide_eq_true c63
                                            have c63b1 : decide (2 < x12_3.length) = true := decide_eq_true (by omega)
                                            clear c63
                                            by_cases c64 : 3 < (x12_3.length : Int)
                                            · rw [if_pos c64] at H
                                              have c64b0 : decide (3 < (x12_3.length : Int)) = true := decide_eq_true c64
                                              have c64b1 : decide (3 < x12_3.length) = true := decide_eq_true (by omega)
                                              clear c64
                                              obtain ⟨y189, hy189⟩ : ∃ y_ : List Int, y_ = (([((((((((((rd x12_3 7) + (Go.bits .xor .u32 (Go.bits .xor .u32 t159 t161) t163)) % 4294967296) + (Go.bits .xor .u32 (Go.bits .and .u32 (rd x12_3 4) (rd x12_3 5)) (Go.bits .and .u32 (Go.bits .xor .u32 4294967295 (rd x12_3 4)) (rd x12_3 6)))) % 4294967296) + (rd l1 x13_3)) % 4294967296) + (rd x7_2 x13_3)) % 4294967296) + (((Go.bits .xor .u32 (Go.bits .xor .u32 t171 t173) t175) + (Go.bits .xor .u32 (Go.bits .xor .u32 (Go.bits .and .u32 (rd x12_3 0) (rd x12_3 1)) (Go.bits .and .u32 (rd x12_3 0) (rd x12_3 2))) (Go.bits .and .u32 (rd x12_3 1) (rd x12_3 2)))) % 4294967296)) % 4294967296, rd x12_3 0, rd x12_3 1, rd x12_3 2, ((rd x12_3 3) + (((((((((rd x12_3 7) + (Go.bits .xor .u32 (Go.bits .xor .u32 t159 t161) t163)) % 4294967296) + (Go.bits .xor .u32 (Go.bits .and .u32 (rd x12_3 4) (rd x12_3 5)) (Go.bits .and .u32 (Go.bits .xor .u32 4294967295 (rd x12_3 4)) (rd x12_3 6)))) % 4294967296) + (rd l1 x13_3)) % 4294967296) + (rd x7_2 x13_3)) % 4294967296)) % 4294967296, rd x12_3 4, rd x12_3 5, rd x12_3 6] : List Int)) := ⟨_, rfl⟩
                                              replace H : (tikref2_block.l2 k3 l0 l1 x7_2 y189 (wrap64 (x13_3 + 1))) = some r := by first | (rw [hy189]; with_reducible exact H) | (have H2_ := (Option.bind_some _ _).symm.trans H; rw [hy189]; with_reducible exact H2_) | (have H2_ := (Option.bind_some _ _).symm.trans H; with_reducible exact H2_) | with_reducible exact H | (rw [hy189]; exact H) | exact H
                                              have Ny189 := Aside0.mk hy189
                                              clear hy189
                                              have H' := Aside0.mk H
                                              clear H
                                              try go_wp2
                                              have n0_ := Aside0.mk (Kd.R_drew HO_7.out)
                                              have n1_ := Aside0.mk (Kd.R_drew HO_12.out)
                                              have n2_ := Aside0.mk (below_drew1 HB.out)
                                              clear HO_7
                                              clear HO_12
                                              clear HB
                                              have HO_7 := n0_
                                              have HO_12 := n1_
                                              have HB := n2_
                                              clear n0_ n1_ n2_
                                              obtain ⟨Ao66, co66, eo66⟩ := Kd.R_slice HO_12.out
                                              (first | subst eo66 | (injection eo66 with f1_ f2_ f3_; have f4_ := f1_.symm; have f5_ := f3_.symm; clear f1_ f2_ f3_; subst f4_; subst f5_))
                                              have p157 : 0 ≤ (7 : Int) := (by omega)
                                              have q157 : 7 < (x12_3.length : Int) := of_decide_eq_true (by first | (with_reducible assumption) | assumption)
                                              obtain ⟨ad157, e157, hx157_0⟩ := Kd.at_int (Kd.R_reads' HO_12.out).2.2 7 p157 q157
                                              cases e157
                                              (try simp only [show (7 : Int).toNat = 7 from rfl, Nat.reduceMul, Nat.reduceEqDiff, Go.Addr.add, ↓reduceIte] at hx157_0)
                                              have qi157 : (7 < x12_3.length) = True := eq_true (by omega)
                                              (try rw [show ((7 : Int)).toNat = 7 from rfl] at hx157_0)
                                              replace p157 := eq_true p157
                                              replace q157 := eq_true q157
                                              have p158 : 0 ≤ (4 : Int) := (by omega)
                                              have q158 : 4 < (x12_3.length : Int) := of_decide_eq_true (by first | (with_reducible assumption) | assumption)
                                              obtain ⟨ad158, e158, hx158_0⟩ := Kd.at_int (Kd.R_reads' HO_12.out).2.2 4 p158 q158
                                              obtain rfl : ad157 = ad158 := (by injection e158)
                                              (try simp only [show (4 : Int).toNat = 4 from rfl, Nat.reduceMul, Nat.reduceEqDiff, Go.Addr.add, ↓reduceIte] at hx158_0)
                                              have qi158 : (4 < x12_3.length) = True := eq_true (by omega)
                                              (try rw [show ((4 : Int)).toNat = 4 from rfl] at hx158_0)
                                              replace p158 := eq_true p158
                                              replace q158 := eq_true q158
                                              have p160 : 0 ≤ (4 : Int) := (by omega)
                                              have q160 : 4 < (x12_3.length : Int) := of_decide_eq_true (by first | (with_reducible assumption) | assumption)
                                              obtain ⟨ad160, e160, hx160_0⟩ := Kd.at_int (Kd.R_reads' HO_12.out).2.2 4 p160 q160
                                              obtain rfl : ad157 = ad160 := (by injection e160)
                                              (try simp only [show (4 : Int).toNat = 4 from rfl, Nat.reduceMul, Nat.reduceEqDiff, Go.Addr.add, ↓reduceIte] at hx160_0)
                                              have qi160 : (4 < x12_3.length) = True := eq_true (by omega)
                                              (try rw [show ((4 : Int)).toNat = 4 from rfl] at hx160_0)
                                              replace p160 := eq_true p160
                                              replace q160 := eq_true q160
                                              have p162 : 0 ≤ (4 : Int) := (by omega)
                                              have q162 : 4 < (x12_3.length : Int) := of_decide_eq_true (by first | (with_reducible assumption) | assumption)
                                              obtain ⟨ad162, e162, hx162_0⟩ := Kd.at_int (Kd.R_reads' HO_12.out).2.2 4 p162 q162
                                              obtain rfl : ad157 = ad162 := (by injection e162)
                                              (try simp only [show (4 : Int).toNat = 4 from rfl, Nat.reduceMul, Nat.reduceEqDiff, Go.Addr.add, ↓reduceIte] at hx162_0)
                                              have qi162 : (4 < x12_3.length) = True := eq_true (by omega)
                                              (try rw [show ((4 : Int)).toNat = 4 from rfl] at hx162_0)
                                              replace p162 := eq_true p162
                                              replace q162 := eq_true q162
                                              have p164 : 0 ≤ (4 : Int) := (by omega)
                                              have q164 : 4 < (x12_3.length : Int) := of_decide_eq_true (by first | (with_reducible assumption) | assumption)
                                              obtain ⟨ad164, e164, hx164_0⟩ := Kd.at_int (Kd.R_reads' HO_12.out).2.2 4 p164 q164
                                              obtain rfl : ad157 = ad164 := (by injection e164)
                                              (try simp only [show (4 : Int).toNat = 4 from rfl, Nat.reduceMul, Nat.reduceEqDiff, Go.Addr.add, ↓reduceIte] at hx164_0)
                                              have qi164 : (4 < x12_3.length) = True := eq_true (by omega)
                                              (try rw [show ((4 : Int)).toNat = 4 from rfl] at hx164_0)
                                              replace p164 := eq_true p164
                                              replace q164 := eq_true q164
                                              have p165 : 0 ≤ (5 : Int) := (by omega)
                                              have q165 : 5 < (x12_3.length : Int) := of_decide_eq_true (by first | (with_reducible assumption) | assumption)
                                              obtain ⟨ad165, e165, hx165_0⟩ := Kd.at_int (Kd.R_reads' HO_12.out).2.2 5 p165 q165
                                              obtain rfl : ad157 = ad165 := (by injection e165)
                                              (try simp only [show (5 : Int).toNat = 5 from rfl, Nat.reduceMul, Nat.reduceEqDiff, Go.Addr.add, ↓reduceIte] at hx165_0)
                                              have qi165 : (5 < x12_3.length) = True := eq_true (by omega)
                                              (try rw [show ((5 : Int)).toNat = 5 from rfl] at hx165_0)
                                              replace p165 := eq_true p165
                                              replace q165 := eq_true q165
                                              have p166 : 0 ≤ (4 : Int) := (by omega)
                                              have q166 : 4 < (x12_3.length : Int) := of_decide_eq_true (by first | (with_reducible assumption) | assumption)
                                              obtain ⟨ad166, e166, hx166_0⟩ := Kd.at_int (Kd.R_reads' HO_12.out).2.2 4 p166 q166
                                              obtain rfl : ad157 = ad166 := (by injection e166)
                                              (try simp only [show (4 : Int).toNat = 4 from rfl, Nat.reduceMul, Nat.reduceEqDiff, Go.Addr.add, ↓reduceIte] at hx166_0)
                                              have qi166 : (4 < x12_3.length) = True := eq_true (by omega)
                                              (try rw [show ((4 : Int)).toNat = 4 from rfl] at hx166_0)
                                              replace p166 := eq_true p166
                                              replace q166 := eq_true q166
                                              have p167 : 0 ≤ (6 : Int) := (by omega)
                                              have q167 : 6 < (x12_3.length : Int) := of_decide_eq_true (by first | (with_reducible assumption) | assumption)
                                              obtain ⟨ad167, e167, hx167_0⟩ := Kd.at_int (Kd.R_reads' HO_12.out).2.2 6 p167 q167
                                              obtain rfl : ad157 = ad167 := (by injection e167)
                                              (try simp only [show (6 : Int).toNat = 6 from rfl, Nat.reduceMul, Nat.reduceEqDiff, Go.Addr.add, ↓reduceIte] at hx167_0)
                                              have qi167 : (6 < x12_3.length) = True := eq_true (by omega)
                                              (try rw [show ((6 : Int)).toNat = 6 from rfl] at hx167_0)
                                              replace p167 := eq_true p167
                                              replace q167 := eq_true q167
                                              have p168 : 0 ≤ (x13_3 : Int) := of_decide_eq_true (by first | (with_reducible assumption) | assumption)
                                              have q168 : x13_3 < (l1.length : Int) := of_decide_eq_true (by first | (with_reducible assumption) | assumption)
                                              obtain ⟨ad168, e168, hx168_0⟩ := Kd.at_int HR1.out x13_3 p168 q168
                                              have hw168_0 := hx168_0
                                              cases e168
                                              replace hx168_0 := (HB.out.cell (World.block_lt_of_cell? w _ hx168_0)).trans hx168_0
                                              replace p168 := eq_true p168
                                              replace q168 := eq_true q168
                                              obtain ⟨Ao67, co67, eo67⟩ := Kd.R_slice HO_7.out
                                              (first | subst eo67 | (injection eo67 with f1_ f2_ f3_; have f4_ := f1_.symm; have f5_ := f3_.symm; clear f1_ f2_ f3_; subst f4_; subst f5_))
                                              have p169 : 0 ≤ (x13_3 : Int) := of_decide_eq_true (by first | (with_reducible assumption) | assumption)
                                              have q169 : x13_3 < (x7_2.length : Int) := of_decide_eq_true (by first | (with_reducible assumption) | assumption)
                                              obtain ⟨ad169, e169, hx169_0⟩ := Kd.at_int (Kd.R_reads' HO_7.out).2.2 x13_3 p169 q169
                                              cases e169
                                              replace p169 := eq_true p169
                                              replace q169 := eq_true q169
                                              refine start_ (n := 46) (S := fun w' => w'.cell? ⟨ad157.block, ad157.off + 7, none⟩ = some (.int .u32 (rd x12_3 7)) ∧ w'.cell? ⟨ad157.block, ad157.off + 4, none⟩ = some (.int .u32 (rd x12_3 4)) ∧ w'.cell? ⟨ad157.block, ad157.off + 4, none⟩ = some (.int .u32 (rd x12_3 4)) ∧ w'.cell? ⟨ad157.block, ad157.off + 4, none⟩ = some (.int .u32 (rd x12_3 4)) ∧ w'.cell? ⟨ad157.block, ad157.off + 4, none⟩ = some (.int .u32 (rd x12_3 4)) ∧ w'.cell? ⟨ad157.block, ad157.off + 5, none⟩ = some (.int .u32 (rd x12_3 5)) ∧ w'.cell? ⟨ad157.block, ad157.off + 4, none⟩ = some (.int .u32 (rd x12_3 4)) ∧ w'.cell? ⟨ad157.block, ad157.off + 6, none⟩ = some (.int .u32 (rd x12_3 6)) ∧ w'.cell? (ad168.add (x13_3).toNat) = some (.int .u32 (rd l1 x13_3)) ∧ w'.cell? (ad169.add (x13_3).toNat) = some (.int .u32 (rd x7_2 x13_3))) (ds := []) #[false, false, false, false, false, false, false, false, false, false, false, false, false, false, false, false, false, false, false, false, false, false, false, false, false, false, false, false, false, false, false, false, false, false, false, false, false, false, false, false, false, false, false, false, false, false] (by kernel_rfl) rfl rfl ⟨hx157_0, hx158_0, hx160_0, hx162_0, hx164_0, hx165_0, hx166_0, hx167_0, ((HB.out.cell (World.block_lt_of_cell? w _ hw168_0)).trans hw168_0), hx169_0⟩ (fun hHeld => ?_); refine with_tabW tikref2_block.tab15 tikref2_block.bits15 (fun HT_ HW_ => ?_)
                                              generalize wr.drew = w65 at HO_7 HO_12 HB hx157_0 hx158_0 hx160_0 hx162_0 hx164_0 hx165_0 hx166_0 hx167_0 hx168_0 hx169_0 hHeld ⊢
                                              refine pure_ (i := 0) (N := some 87) (v := ?_) (a' := ?_) #[true, false, false, false, false, false, false, false, false, false, false, false, false, false, false, false, false, false, false, false, false, false, false, false, false, false, false, false, false, false, false, false, false, false, false, false, false, false, false, false, false, false, false, false, false, false] rfl rfl (any_of HT_.out (by kernel_rfl)) (fun _ _ _ h => h) (Or.inl ⟨by rfl, ?_⟩) ?_ ?_
                                              rotate_left
                                              · intro w'
                                                go_simp
                                                with_reducible rfl
                                              rotate_left
                                              · simp only [Act.put, List.setIfInBounds_toArray, List.set_cons_zero, List.set_cons_succ, i64_w, i32_w]
                                                rfl
                                              refine pure_ (i := 1) (N := some 88) (v := ?_) (a' := ?_) #[true, true, false, false, false, false, false, false, false, false, false, false, false, false, false, false, false, false, false, false, false, false, false, false, false, false, false, false, false, false, false, false, false, false, false, false, false, false, false, false, false, false, false, false, false, false] rfl rfl (any_of HT_.out (by kernel_rfl)) (fun _ _ _ h => h) (Or.inl ⟨by rfl, ?_⟩) ?_ ?_
                                              rotate_left
                                              · intro w'
                                                go_simp
                                                with_reducible rfl
                                              rotate_left
                                              · simp only [Act.put, List.setIfInBounds_toArray, List.set_cons_zero, List.set_cons_succ, i64_w, i32_w]
                                                rfl
                                              refine pure_ (i := 3) (N := some 90) (v := ?_) (a' := ?_) #[true, true, false, true, false, false, false, false, false, false, false, false, false, false, false, false, false, false, false, false, false, false, false, false, false, false, false, false, false, false, false, false, false, false, false, false, false, false, false, false, false, false, false, false, false, false] rfl rfl (any_of HT_.out (by kernel_rfl)) (fun _ _ _ h => h) (Or.inl ⟨by rfl, ?_⟩) ?_ ?_
                                              rotate_left
                                              · intro w'
                                                go_simp
                                                with_reducible rfl
                                              rotate_left
                                              · simp only [Act.put, List.setIfInBounds_toArray, List.set_cons_zero, List.set_cons_succ, i64_w, i32_w]
                                                rfl
                                              refine pure_ (i := 4) (N := some 91) (v := ?_) (a' := ?_) #[true, true, false, true, true, false, false, false, false, false, false, false, false, false, false, false, false, false, false, false, false, false, false, false, false, false, false, false, false, false, false, false, false, false, false, false, false, false, false, false, false, false, false, false, false, false] rfl rfl (any_of HT_.out (by kernel_rfl)) (fun _ _ _ h => h) (Or.inl ⟨by rfl, ?_⟩) ?_ ?_
                                              rotate_left
                                              · intro w'
                                                go_simp
                                                with_reducible rfl
                                              rotate_left
                                              · simp only [Act.put, List.setIfInBounds_toArray, List.set_cons_zero, List.set_cons_succ, i64_w, i32_w]
                                                rfl
                                              refine pure_ (i := 7) (N := some 94) (v := ?_) (a' := ?_) #[true, true, false, true, true, false, false, true, false, false, false, false, false, false, false, false, false, false, false, false, false, false, false, false, false, false, false, false, false, false, false, false, false, false, false, false, false, false, false, false, false, false, false, false, false, false] rfl rfl (any_of HT_.out (by kernel_rfl)) (fun _ _ _ h => h) (Or.inl ⟨by rfl, ?_⟩) ?_ ?_
                                              rotate_left
                                              · intro w'
                                                go_simp
                                                with_reducible rfl
                                              rotate_left
                                              · simp only [Act.put, List.setIfInBounds_toArray, List.set_cons_zero, List.set_cons_succ, i64_w, i32_w]
                                                rfl
                                              refine pure_ (i := 8) (N := some 95) (v := ?_) (a' := ?_) #[true, true, false, true, true, false, false, true, true, false, false, false, false, false, false, false, false, false, false, false, false, false, false, false, false, false, false, false, false, false, false, false, false, false, false, false, false, false, false, false, false, false, false, false, false, false] rfl rfl (any_of HT_.out (by kernel_rfl)) (fun _ _ _ h => h) (Or.inl ⟨by rfl, ?_⟩) ?_ ?_
                                              rotate_left
                                              · intro w'
                                                go_simp
                                                with_reducible rfl
                                              rotate_left
                                              · simp only [Act.put, List.setIfInBounds_toArray, List.set_cons_zero, List.set_cons_succ, i64_w, i32_w]
                                                rfl
                                              refine pure_ (i := 12) (N := some 99) (v := ?_) (a' := ?_) #[true, true, false, true, true, false, false, true, true, false, false, false, true, false, false, false, false, false, false, false, false, false, false, false, false, false, false, false, false, false, false, false, false, false, false, false, false, false, false, false, false, false, false, false, false, false] rfl rfl (any_of HT_.out (by kernel_rfl)) (fun _ _ _ h => h) (Or.inl ⟨by rfl, ?_⟩) ?_ ?_
                                              rotate_left
                                              · intro w'
                                                go_simp
                                                with_reducible rfl
                                              rotate_left
                                              · simp only [Act.put, List.setIfInBounds_toArray, List.set_cons_zero, List.set_cons_succ, i64_w, i32_w]
                                                rfl
                                              refine pure_ (i := 13) (N := some 100) (v := ?_) (a' := ?_) #[true, true, false, true, true, false, false, true, true, false, false, false, true, true, false, false, false, false, false, false, false, false, false, false, false, false, false, false, false, false, false, false, false, false, false, false, false, false, false, false, false, false, false, false, false, false] rfl rfl (any_of HT_.out (by kernel_rfl)) (fun _ _ _ h => h) (Or.inl ⟨by rfl, ?_⟩) ?_ ?_
                                              rotate_left
                                              · intro w'
                                                go_simp
                                                with_reducible rfl
                                              rotate_left
                                              · simp only [Act.put, List.setIfInBounds_toArray, List.set_cons_zero, List.set_cons_succ, i64_w, i32_w]
                                                rfl
                                              refine pure_ (i := 18) (N := some 105) (v := ?_) (a' := ?_) #[true, true, false, true, true, false, false, true, true, false, false, false, true, true, false, false, false, false, true, false, false, false, false, false, false, false, false, false, false, false, false, false, false, false, false, false, false, false, false, false, false, false, false, false, false, false] rfl rfl (any_of HT_.out (by kernel_rfl)) (fun _ _ _ h => h) (Or.inl ⟨by rfl, ?_⟩) ?_ ?_
                                              rotate_left
                                              · intro w'
                                                go_simp
                                                with_reducible rfl
                                              rotate_left
                                              · simp only [Act.put, List.setIfInBounds_toArray, List.set_cons_zero, List.set_cons_succ, i64_w, i32_w]
                                                rfl
                                              refine pure_ (i := 19) (N := some 106) (v := ?_) (a' := ?_) #[true, true, false, true, true, false, false, true, true, false, false, false, true, true, false, false, false, false, true, true, false, false, false, false, false, false, false, false, false, false, false, false, false, false, false, false, false, false, false, false, false, false, false, false, false, false] rfl rfl (any_of HT_.out (by kernel_rfl)) (fun _ _ _ h => h) (Or.inl ⟨by rfl, ?_⟩) ?_ ?_
                                              rotate_left
                                              · intro w'
                                                go_simp
                                                with_reducible rfl
                                              rotate_left
                                              · simp only [Act.put, List.setIfInBounds_toArray, List.set_cons_zero, List.set_cons_succ, i64_w, i32_w]
                                                rfl
                                              refine pure_ (i := 21) (N := some 108) (v := ?_) (a' := ?_) #[true, true, false, true, true, false, false, true, true, false, false, false, true, true, false, false, false, false, true, true, false, true, false, false, false, false, false, false, false, false, false, false, false, false, false, false, false, false, false, false, false, false, false, false, false, false] rfl rfl (any_of HT_.out (by kernel_rfl)) (fun _ _ _ h => h) (Or.inl ⟨by rfl, ?_⟩) ?_ ?_
                                              rotate_left
                                              · intro w'
                                                go_simp
                                                with_reducible rfl
                                              rotate_left
                                              · simp only [Act.put, List.setIfInBounds_toArray, List.set_cons_zero, List.set_cons_succ, i64_w, i32_w]
                                                rfl
                                              refine pure_ (i := 22) (N := some 109) (v := ?_) (a' := ?_) #[true, true, false, true, true, false, false, true, true, false, false, false, true, true, false, false, false, false, true, true, false, true, true, false, false, false, false, false, false, false, false, false, false, false, false, false, false, false, false, false, false, false, false, false, false, false] rfl rfl (any_of HT_.out (by kernel_rfl)) (fun _ _ _ h => h) (Or.inl ⟨by rfl, ?_⟩) ?_ ?_
                                              rotate_left
                                              · intro w'
                                                go_simp
                                                with_reducible rfl
                                              rotate_left
                                              · simp only [Act.put, List.setIfInBounds_toArray, List.set_cons_zero, List.set_cons_succ, i64_w, i32_w]
                                                rfl
                                              refine pure_ (i := 25) (N := some 112) (v := ?_) (a' := ?_) #[true, true, false, true, true, false, false, true, true, false, false, false, true, true, false, false, false, false, true, true, false, true, true, false, false, true, false, false, false, false, false, false, false, false, false, false, false, false, false, false, false, false, false, false, false, false] rfl rfl (any_of HT_.out (by kernel_rfl)) (fun _ _ _ h => h) (Or.inl ⟨by rfl, ?_⟩) ?_ ?_
                                              rotate_left
                                              · intro w'
                                                go_simp
                                                with_reducible rfl
                                              rotate_left
                                              · simp only [Act.put, List.setIfInBounds_toArray, List.set_cons_zero, List.set_cons_succ, i64_w, i32_w]
                                                rfl
                                              refine pure_ (i := 26) (N := some 113) (v := ?_) (a' := ?_) #[true, true, false, true, true, false, false, true, true, false, false, false, true, true, false, false, false, false, true, true, false, true, true, false, false, true, true, false, false, false, false, false, false, false, false, false, false, false, false, false, false, false, false, false, false, false] rfl rfl (any_of HT_.out (by kernel_rfl)) (fun _ _ _ h => h) (Or.inl ⟨by rfl, ?_⟩) ?_ ?_
                                              rotate_left
                                              · intro w'
                                                go_simp
                                                with_reducible rfl
                                              rotate_left
                                              · simp only [Act.put, List.setIfInBounds_toArray, List.set_cons_zero, List.set_cons_succ, i64_w, i32_w]
                                                rfl
                                              refine pure_ (i := 29) (N := some 116) (v := ?_) (a' := ?_) #[true, true, false, true, true, false, false, true, true, false, false, false, true, true, false, false, false, false, true, true, false, true, true, false, false, true, true, false, false, true, false, false, false, false, false, false, false, false, false, false, false, false, false, false, false, false] rfl rfl (any_of HT_.out (by kernel_rfl)) (fun _ _ _ h => h) (Or.inl ⟨by rfl, ?_⟩) ?_ ?_
                                              rotate_left
                                              · intro w'
                                                go_simp
                                                with_reducible rfl
                                              rotate_left
                                              · simp only [Act.put, List.setIfInBounds_toArray, List.set_cons_zero, List.set_cons_succ, i64_w, i32_w]
                                                rfl
                                              refine pure_ (i := 30) (N := some 117) (v := ?_) (a' := ?_) #[true, true, false, true, true, false, false, true, true, false, false, false, true, true, false, false, false, false, true, true, false, true, true, false, false, true, true, false, false, true, true, false, false, false, false, false, false, false, false, false, false, false, false, false, false, false] rfl rfl (any_of HT_.out (by kernel_rfl)) (fun _ _ _ h => h) (Or.inl ⟨by rfl, ?_⟩) ?_ ?_
                                              rotate_left
                                              · intro w'
                                                go_simp
                                                with_reducible rfl
                                              rotate_left
                                              · simp only [Act.put, List.setIfInBounds_toArray, List.set_cons_zero, List.set_cons_succ, i64_w, i32_w]
                                                rfl
                                              refine pure_ (i := 35) (N := some 122) (v := ?_) (a' := ?_) #[true, true, false, true, true, false, false, true, true, false, false, false, true, true, false, false, false, false, true, true, false, true, true, false, false, true, true, false, false, true, true, false, false, false, false, true, false, false, false, false, false, false, false, false, false, false] rfl rfl (any_of HT_.out (by kernel_rfl)) (fun _ _ _ h => h) (Or.inl ⟨by rfl, ?_⟩) ?_ ?_
                                              rotate_left
                                              · intro w'
                                                go_simp
                                                with_reducible rfl
                                              rotate_left
                                              · simp only [Act.put, List.setIfInBounds_toArray, List.set_cons_zero, List.set_cons_succ, i64_w, i32_w]
                                                rfl
                                              refine pure_ (i := 36) (N := some 123) (v := ?_) (a' := ?_) #[true, true, false, true, true, false, false, true, true, false, false, false, true, true, false, false, false, false, true, true, false, true, true, false, false, true, true, false, false, true, true, false, false, false, false, true, true, false, false, false, false, false, false, false, false, false] rfl rfl (any_of HT_.out (by kernel_rfl)) (fun _ _ _ h => h) (Or.inl ⟨by rfl, ?_⟩) ?_ ?_
                                              rotate_left
                                              · intro w'
                                                go_simp
                                                with_reducible rfl
                                              rotate_left
                                              · simp only [Act.put, List.setIfInBounds_toArray, List.set_cons_zero, List.set_cons_succ, i64_w, i32_w]
                                                rfl
                                              refine pure_ (i := 37) (N := some 124) (v := ?_) (a' := ?_) #[true, true, false, true, true, false, false, true, true, false, false, false, true, true, false, false, false, false, true, true, false, true, true, false, false, true, true, false, false, true, true, false, false, false, false, true, true, true, false, false, false, false, false, false, false, false] rfl rfl (any_of HT_.out (by kernel_rfl)) (fun _ _ _ h => h) (Or.inl ⟨by rfl, ?_⟩) ?_ ?_
                                              rotate_left
                                              · intro w'
                                                go_simp
                                                with_reducible rfl
                                              rotate_left
                                              · simp only [Act.put, List.setIfInBounds_toArray, List.set_cons_zero, List.set_cons_succ, i64_w, i32_w]
                                                rfl
                                              refine pure_ (i := 40) (N := some 127) (v := ?_) (a' := ?_) #[true, true, false, true, true, false, false, true, true, false, false, false, true, true, false, false, false, false, true, true, false, true, true, false, false, true, true, false, false, true, true, false, false, false, false, true, true, true, false, false, true, false, false, false, false, false] rfl rfl (any_of HT_.out (by kernel_rfl)) (fun _ _ _ h => h) (Or.inl ⟨by rfl, ?_⟩) ?_ ?_
                                              rotate_left
                                              · intro w'
                                                go_simp
                                                with_reducible rfl
                                              rotate_left
                                              · simp only [Act.put, List.setIfInBounds_toArray, List.set_cons_zero, List.set_cons_succ, i64_w, i32_w]
                                                rfl
                                              refine pure_ (i := 41) (N := some 128) (v := ?_) (a' := ?_) #[true, true, false, true, true, false, false, true, true, false, false, false, true, true, false, false, false, false, true, true, false, true, true, false, false, true, true, false, false, true, true, false, false, false, false, true, true, true, false, false, true, true, false, false, false, false] rfl rfl (any_of HT_.out (by kernel_rfl)) (fun _ _ _ h => h) (Or.inl ⟨by rfl, ?_⟩) ?_ ?_
                                              rotate_left
                                              · intro w'
                                                go_simp
                                                with_reducible rfl
                                              rotate_left
                                              · simp only [Act.put, List.setIfInBounds_toArray, List.set_cons_zero, List.set_cons_succ, i64_w, i32_w]
                                                rfl
                                              refine pure_ (i := 42) (N := some 129) (v := ?_) (a' := ?_) #[true, true, false, true, true, false, false, true, true, false, false, false, true, true, false, false, false, false, true, true, false, true, true, false, false, true, true, false, false, true, true, false, false, false, false, true, true, true, false, false, true, true, true, false, false, false] rfl rfl (any_of HT_.out (by kernel_rfl)) (fun _ _ _ h => h) (Or.inl ⟨by rfl, ?_⟩) ?_ ?_
                                              rotate_left
                                              · intro w'
                                                go_simp
                                                with_reducible rfl
                                              rotate_left
                                              · simp only [Act.put, List.setIfInBounds_toArray, List.set_cons_zero, List.set_cons_succ, i64_w, i32_w]
                                                rfl
                                              refine take_ (i := 2) (N := some 89) (v := ?_) (a' := ?_) #[true, true, true, true, true, false, false, true, true, false, false, false, true, true, false, false, false, false, true, true, false, true, true, false, false, true, true, false, false, true, true, false, false, false, false, true, true, true, false, false, true, true, true, false, false, false] rfl rfl (take_ofW HT_.out HW_.out (by kernel_rfl)) (fun _ _ _ h => h) (Or.inl ⟨by rfl, ?_⟩) hHeld ?_ ?_
                                              rotate_left
                                              · rintro w' ⟨s0, s1, s2, s3, s4, s5, s6, s7, s8, s9⟩
                                                go_simp
                                                with_reducible rfl
                                              rotate_left
                                              · simp only [Act.put, List.setIfInBounds_toArray, List.set_cons_zero, List.set_cons_succ, i64_w, i32_w]
                                                rfl
                                              refine take_ (i := 5) (N := some 92) (v := ?_) (a' := ?_) #[true, true, true, true, true, true, false, true, true, false, false, false, true, true, false, false, false, false, true, true, false, true, true, false, false, true, true, false, false, true, true, false, false, false, false, true, true, true, false, false, true, true, true, false, false, false] rfl rfl (take_ofW HT_.out HW_.out (by kernel_rfl)) (fun _ _ _ h => h) (Or.inl ⟨by rfl, ?_⟩) hHeld ?_ ?_
                                              rotate_left
                                              · rintro w' ⟨s0, s1, s2, s3, s4, s5, s6, s7, s8, s9⟩
                                                go_simp
                                                with_reducible rfl
                                              rotate_left
                                              · simp only [Act.put, List.setIfInBounds_toArray, List.set_cons_zero, List.set_cons_succ, i64_w, i32_w]
                                                rfl
                                              refine take_ (i := 9) (N := some 96) (v := ?_) (a' := ?_) #[true, true, true, true, true, true, false, true, true, true, false, false, true, true, false, false, false, false, true, true, false, true, true, false, false, true, true, false, false, true, true, false, false, false, false, true, true, true, false, false, true, true, true, false, false, false] rfl rfl (take_ofW HT_.out HW_.out (by kernel_rfl)) (fun _ _ _ h => h) (Or.inl ⟨by rfl, ?_⟩) hHeld ?_ ?_
                                              rotate_left
                                              · rintro w' ⟨s0, s1, s2, s3, s4, s5, s6, s7, s8, s9⟩
                                                go_simp
                                                with_reducible rfl
                                              rotate_left
                                              · simp only [Act.put, List.setIfInBounds_toArray, List.set_cons_zero, List.set_cons_succ, i64_w, i32_w]
                                                rfl
                                              refine take_ (i := 14) (N := some 101) (v := ?_) (a' := ?_) #[true, true, true, true, true, true, false, true, true, true, false, false, true, true, true, false, false, false, true, true, false, true, true, false, false, true, true, false, false, true, true, false, false, false, false, true, true, true, false, false, true, true, true, false, false, false] rfl rfl (take_ofW HT_.out HW_.out (by kernel_rfl)) (fun _ _ _ h => h) (Or.inl ⟨by rfl, ?_⟩) hHeld ?_ ?_
                                              rotate_left
                                              · rintro w' ⟨s0, s1, s2, s3, s4, s5, s6, s7, s8, s9⟩
                                                go_simp
                                                with_reducible rfl
                                              rotate_left
                                              · simp only [Act.put, List.setIfInBounds_toArray, List.set_cons_zero, List.set_cons_succ, i64_w, i32_w]
                                                rfl
                                              refine take_ (i := 20) (N := some 107) (v := ?_) (a' := ?_) #[true, true, true, true, true, true, false, true, true, true, false, false, true, true, true, false, false, false, true, true, true, true, true, false, false, true, true, false, false, true, true, false, false, false, false, true, true, true, false, false, true, true, true, false, false, false] rfl rfl (take_ofW HT_.out HW_.out (by kernel_rfl)) (fun _ _ _ h => h) (Or.inl ⟨by rfl, ?_⟩) hHeld ?_ ?_
                                              rotate_left
                                              · rintro w' ⟨s0, s1, s2, s3, s4, s5, s6, s7, s8, s9⟩
                                                go_simp
                                                with_reducible rfl
                                              rotate_left
                                              · simp only [Act.put, List.setIfInBounds_toArray, List.set_cons_zero, List.set_cons_succ, i64_w, i32_w]
                                                rfl
                                              refine take_ (i := 23) (N := some 110) (v := ?_) (a' := ?_) #[true, true, true, true, true, true, false, true, true, true, false, false, true, true, true, false, false, false, true, true, true, true, true, true, false, true, true, false, false, true, true, false, false, false, false, true, true, true, false, false, true, true, true, false, false, false] rfl rfl (take_ofW HT_.out HW_.out (by kernel_rfl)) (fun _ _ _ h => h) (Or.inl ⟨by rfl, ?_⟩) hHeld ?_ ?_
                                              rotate_left
                                              · rintro w' ⟨s0, s1, s2, s3, s4, s5, s6, s7, s8, s9⟩
                                                go_simp
                                                with_reducible rfl
                                              rotate_left
                                              · simp only [Act.put, List.setIfInBounds_toArray, List.set_cons_zero, List.set_cons_succ, i64_w, i32_w]
                                                rfl
                                              refine pure_ (i := 24) (N := some 111) (v := ?_) (a' := ?_) #[true, true, true, true, true, true, false, true, true, true, false, false, true, true, true, false, false, false, true, true, true, true, true, true, true, true, true, false, false, true, true, false, false, false, false, true, true, true, false, false, true, true, true, false, false, false] rfl rfl (any_of HT_.out (by kernel_rfl)) (fun _ _ _ h => h) (Or.inl ⟨by rfl, ?_⟩) ?_ ?_
                                              rotate_left
                                              · intro w'
                                                go_simp
                                                with_reducible rfl
                                              rotate_left
                                              · simp only [Act.put, List.setIfInBounds_toArray, List.set_cons_zero, List.set_cons_succ, i64_w, i32_w]
                                                rfl
                                              refine take_ (i := 27) (N := some 114) (v := ?_) (a' := ?_) #[true, true, true, true, true, true, false, true, true, true, false, false, true, true, true, false, false, false, true, true, true, true, true, true, true, true, true, true, false, true, true, false, false, false, false, true, true, true, false, false, true, true, true, false, false, false] rfl rfl (take_ofW HT_.out HW_.out (by kernel_rfl)) (fun _ _ _ h => h) (Or.inl ⟨by rfl, ?_⟩) hHeld ?_ ?_
                                              rotate_left
                                              · rintro w' ⟨s0, s1, s2, s3, s4, s5, s6, s7, s8, s9⟩
                                                go_simp
                                                with_reducible rfl
                                              rotate_left
                                              · simp only [Act.put, List.setIfInBounds_toArray, List.set_cons_zero, List.set_cons_succ, i64_w, i32_w]
                                                rfl
                                              refine pure_ (i := 28) (N := some 115) (v := ?_) (a' := ?_) #[true, true, true, true, true, true, false, true, true, true, false, false, true, true, true, false, false, false, true, true, true, true, true, true, true, true, true, true, true, true, true, false, false, false, false, true, true, true, false, false, true, true, true, false, false, false] rfl rfl (any_of HT_.out (by kernel_rfl)) (fun _ _ _ h => h) (Or.inl ⟨by rfl, ?_⟩) ?_ ?_
                                              rotate_left
                                              · intro w'
                                                go_simp
                                                with_reducible rfl
                                              rotate_left
                                              · simp only [Act.put, List.setIfInBounds_toArray, List.set_cons_zero, List.set_cons_succ, i64_w, i32_w]
                                                rfl
                                              refine take_ (i := 31) (N := some 118) (v := ?_) (a' := ?_) #[true, true, true, true, true, true, false, true, true, true, false, false, true, true, true, false, false, false, true, true, true, true, true, true, true, true, true, true, true, true, true, true, false, false, false, true, true, true, false, false, true, true, true, false, false, false] rfl rfl (take_ofW HT_.out HW_.out (by kernel_rfl)) (fun _ _ _ h => h) (Or.inl ⟨by rfl, ?_⟩) hHeld ?_ ?_
                                              rotate_left
                                              · rintro w' ⟨s0, s1, s2, s3, s4, s5, s6, s7, s8, s9⟩
                                                go_simp
                                                with_reducible rfl
                                              rotate_left
                                              · simp only [Act.put, List.setIfInBounds_toArray, List.set_cons_zero, List.set_cons_succ, i64_w, i32_w]
                                                rfl
                                              refine pure_ (i := 32) (N := some 119) (v := ?_) (a' := ?_) #[true, true, true, true, true, true, false, true, true, true, false, false, true, true, true, false, false, false, true, true, true, true, true, true, true, true, true, true, true, true, true, true, true, false, false, true, true, true, false, false, true, true, true, false, false, false] rfl rfl (any_of HT_.out (by kernel_rfl)) (fun _ _ _ h => h) (Or.inl ⟨by rfl, ?_⟩) ?_ ?_
                                              rotate_left
                                              · intro w'
                                                go_simp
                                                with_reducible rfl
                                              rotate_left
                                              · simp only [Act.put, List.setIfInBounds_toArray, List.set_cons_zero, List.set_cons_succ, i64_w, i32_w]
                                                rfl
                                              refine pure_ (i := 33) (N := some 120) (v := ?_) (a' := ?_) #[true, true, true, true, true, true, false, true, true, true, false, false, true, true, true, false, false, false, true, true, true, true, true, true, true, true, true, true, true, true, true, true, true, true, false, true, true, true, false, false, true, true, true, false, false, false] rfl rfl (any_of HT_.out (by kernel_rfl)) (fun _ _ _ h => h) (Or.inl ⟨by rfl, ?_⟩) ?_ ?_
                                              rotate_left
                                              · intro w'
                                                go_simp
                                                with_reducible rfl
                                              rotate_left
                                              · simp only [Act.put, List.setIfInBounds_toArray, List.set_cons_zero, List.set_cons_succ, i64_w, i32_w]
                                                rfl
                                              refine take_ (i := 38) (N := some 125) (v := ?_) (a' := ?_) #[true, true, true, true, true, true, false, true, true, true, false, false, true, true, true, false, false, false, true, true, true, true, true, true, true, true, true, true, true, true, true, true, true, true, false, true, true, true, true, false, true, true, true, false, false, false] rfl rfl (take_ofW HT_.out HW_.out (by kernel_rfl)) (fun _ _ _ h => h) (Or.inl ⟨by rfl, ?_⟩) hHeld ?_ ?_
                                              rotate_left
                                              · rintro w' ⟨s0, s1, s2, s3, s4, s5, s6, s7, s8, s9⟩
                                                go_simp
                                                with_reducible rfl
                                              rotate_left
                                              · simp only [Act.put, List.setIfInBounds_toArray, List.set_cons_zero, List.set_cons_succ, i64_w, i32_w]
                                                rfl
                                              refine take_ (i := 43) (N := some 130) (v := ?_) (a' := ?_) #[true, true, true, true, true, true, false, true, true, true, false, false, true, true, true, false, false, false, true, true, true, true, true, true, true, true, true, true, true, true, true, true, true, true, false, true, true, true, true, false, true, true, true, true, false, false] rfl rfl (take_ofW HT_.out HW_.out (by kernel_rfl)) (fun _ _ _ h => h) (Or.inl ⟨by rfl, ?_⟩) hHeld ?_ ?_
                                              rotate_left
                                              · rintro w' ⟨s0, s1, s2, s3, s4, s5, s6, s7, s8, s9⟩
                                                go_simp
                                                with_reducible rfl
                                              rotate_left
                                              · simp only [Act.put, List.setIfInBounds_toArray, List.set_cons_zero, List.set_cons_succ, i64_w, i32_w]
                                                rfl
                                              refine one_ (i := 6) (N := some 93) #[true, true, true, true, true, true, true, true, true, true, false, false, true, true, true, false, false, false, true, true, true, true, true, true, true, true, true, true, true, true, true, true, true, true, false, true, true, true, true, false, true, true, true, true, false, false] rfl rfl (one_of HT_.out (by kernel_rfl)) (by decide) (fun K hK => ?_)
                                              refine goes_ Tryd.func57 (by kernel_rfl) rfl #[.int .u32 (rd x12_3 4), .int .u64 6] (by rfl) rfl rfl (by (try simp only [List.map_toArray, List.map_cons, List.map_nil]); first | done | rfl | (simp only [List.length_drop, List.length_take]; rfl)) ?_
                                              with_reducible refine (tikref2_turn.calls (rd x12_3 4) 6 t159 _ A50.out).mono ?_
                                              rintro e w' ⟨rfl, ⟨nd, rfl⟩⟩
                                              refine ⟨_, rfl, ?_⟩
                                              refine hK.out _ _ ⟨hHeld.1, hHeld.2.1, hHeld.2.2.1, hHeld.2.2.2.1, hHeld.2.2.2.2.1, hHeld.2.2.2.2.2.1, hHeld.2.2.2.2.2.2.1, hHeld.2.2.2.2.2.2.2.1, ((HB.out.cell (World.block_lt_of_cell? w _ hw168_0)).trans hw168_0), hHeld.2.2.2.2.2.2.2.2.2⟩ (fun hHeld => ?_)
                                              clear hK K
                                              refine norm_ (a' := ?_) ?_ ?_
                                              rotate_left
                                              · show Act.put _ (some 93) _ = _
                                                simp only [Act.put, List.setIfInBounds_toArray, List.set_cons_zero, List.set_cons_succ, i64_w, i32_w]
                                                rfl
                                              refine one_ (i := 10) (N := some 97) #[true, true, true, true, true, true, true, true, true, true, true, false, true, true, true, false, false, false, true, true, true, true, true, true, true, true, true, true, true, true, true, true, true, true, false, true, true, true, true, false, true, true, true, true, false, false] rfl rfl (one_of HT_.out (by kernel_rfl)) (by decide) (fun K hK => ?_)
                                              refine goes_ Tryd.func57 (by kernel_rfl) rfl #[.int .u32 (rd x12_3 4), .int .u64 11] (by rfl) rfl rfl (by (try simp only [List.map_toArray, List.map_cons, List.map_nil]); first | done | rfl | (simp only [List.length_drop, List.length_take]; rfl)) ?_
                                              with_reducible refine (tikref2_turn.calls (rd x12_3 4) 11 t161 _ A51.out).mono ?_
                                              rintro e w' ⟨rfl, ⟨nd, rfl⟩⟩
                                              refine ⟨_, rfl, ?_⟩
                                              refine hK.out _ _ ⟨hHeld.1, hHeld.2.1, hHeld.2.2.1, hHeld.2.2.2.1, hHeld.2.2.2.2.1, hHeld.2.2.2.2.2.1, hHeld.2.2.2.2.2.2.1, hHeld.2.2.2.2.2.2.2.1, ((HB.out.cell (World.block_lt_of_cell? w _ hw168_0)).trans hw168_0), hHeld.2.2.2.2.2.2.2.2.2⟩ (fun hHeld => ?_)
                                              clear hK K
                                              refine norm_ (a' := ?_) ?_ ?_
                                              rotate_left
                                              · show Act.put _ (some 97) _ = _
                                                simp only [Act.put, List.setIfInBounds_toArray, List.set_cons_zero, List.set_cons_succ, i64_w, i32_w]
                                                rfl
                                              refine pure_ (i := 11) (N := some 98) (v := ?_) (a' := ?_) #[true, true, true, true, true, true, true, true, true, true, true, true, true, true, true, false, false, false, true, true, true, true, true, true, true, true, true, true, true, true, true, true, true, true, false, true, true, true, true, false, true, true, true, true, false, false] rfl rfl (any_of HT_.out (by kernel_rfl)) (fun _ _ _ h => h) (Or.inl ⟨by rfl, ?_⟩) ?_ ?_
                                              rotate_left
                                              · intro w'
                                                go_simp
                                                with_reducible rfl
                                              rotate_left
                                              · simp only [Act.put, List.setIfInBounds_toArray, List.set_cons_zero, List.set_cons_succ, i64_w, i32_w]
                                                rfl
                                              refine one_ (i := 15) (N := some 102) #[true, true, true, true, true, true, true, true, true, true, true, true, true, true, true, true, false, false, true, true, true, true, true, true, true, true, true, true, true, true, true, true, true, true, false, true, true, true, true, false, true, true, true, true, false, false] rfl rfl (one_of HT_.out (by kernel_rfl)) (by decide) (fun K hK => ?_)
                                              refine goes_ Tryd.func57 (by kernel_rfl) rfl #[.int .u32 (rd x12_3 4), .int .u64 25] (by rfl) rfl rfl (by (try simp only [List.map_toArray, List.map_cons, List.map_nil]); first | done | rfl | (simp only [List.length_drop, List.length_take]; rfl)) ?_
                                              with_reducible refine (tikref2_turn.calls (rd x12_3 4) 25 t163 _ A52.out).mono ?_
                                              rintro e w' ⟨rfl, ⟨nd, rfl⟩⟩
                                              refine ⟨_, rfl, ?_⟩
                                              refine hK.out _ _ ⟨hHeld.1, hHeld.2.1, hHeld.2.2.1, hHeld.2.2.2.1, hHeld.2.2.2.2.1, hHeld.2.2.2.2.2.1, hHeld.2.2.2.2.2.2.1, hHeld.2.2.2.2.2.2.2.1, ((HB.out.cell (World.block_lt_of_cell? w _ hw168_0)).trans hw168_0), hHeld.2.2.2.2.2.2.2.2.2⟩ (fun hHeld => ?_)
                                              clear hK K
                                              refine norm_ (a' := ?_) ?_ ?_
                                              rotate_left
                                              · show Act.put _ (some 102) _ = _
                                                simp only [Act.put, List.setIfInBounds_toArray, List.set_cons_zero, List.set_cons_succ, i64_w, i32_w]
                                                rfl
                                              refine pure_ (i := 16) (N := some 103) (v := ?_) (a' := ?_) #[true, true, true, true, true, true, true, true, true, true, true, true, true, true, true, true, true, false, true, true, true, true, true, true, true, true, true, true, true, true, true, true, true, true, false, true, true, true, true, false, true, true, true, true, false, false] rfl rfl (any_of HT_.out (by kernel_rfl)) (fun _ _ _ h => h) (Or.inl ⟨by rfl, ?_⟩) ?_ ?_
                                              rotate_left
                                              · intro w'
                                                go_simp
                                                with_reducible rfl
                                              rotate_left
                                              · simp only [Act.put, List.setIfInBounds_toArray, List.set_cons_zero, List.set_cons_succ, i64_w, i32_w]
                                                rfl
                                              refine pure_ (i := 17) (N := some 104) (v := ?_) (a' := ?_) #[true, true, true, true, true, true, true, true, true, true, true, true, true, true, true, true, true, true, true, true, true, true, true, true, true, true, true, true, true, true, true, true, true, true, false, true, true, true, true, false, true, true, true, true, false, false] rfl rfl (any_of HT_.out (by kernel_rfl)) (fun _ _ _ h => h) (Or.inl ⟨by rfl, ?_⟩) ?_ ?_
                                              rotate_left
                                              · intro w'
                                                go_simp
                                                with_reducible rfl
                                              rotate_left
                                              · simp only [Act.put, List.setIfInBounds_toArray, List.set_cons_zero, List.set_cons_succ, i64_w, i32_w]
                                                rfl
                                              refine pure_ (i := 34) (N := some 121) (v := ?_) (a' := ?_) #[true, true, true, true, true, true, true, true, true, true, true, true, true, true, true, true, true, true, true, true, true, true, true, true, true, true, true, true, true, true, true, true, true, true, true, true, true, true, true, false, true, true, true, true, false, false] rfl rfl (any_of HT_.out (by kernel_rfl)) (fun _ _ _ h => h) (Or.inl ⟨by rfl, ?_⟩) ?_ ?_
                                              rotate_left
                                              · intro w'
                                                go_simp
                                                with_reducible rfl
                                              rotate_left
                                              · simp only [Act.put, List.setIfInBounds_toArray, List.set_cons_zero, List.set_cons_succ, i64_w, i32_w]
                                                rfl
                                              refine pure_ (i := 39) (N := some 126) (v := ?_) (a' := ?_) #[true, true, true, true, true, true, true, true, true, true, true, true, true, true, true, true, true, true, true, true, true, true, true, true, true, true, true, true, true, true, true, true, true, true, true, true, true, true, true, true, true, true, true, true, false, false] rfl rfl (any_of HT_.out (by kernel_rfl)) (fun _ _ _ h => h) (Or.inl ⟨by rfl, ?_⟩) ?_ ?_
                                              rotate_left
                                              · intro w'
                                                go_simp
                                                with_reducible rfl
                                              rotate_left
                                              · simp only [Act.put, List.setIfInBounds_toArray, List.set_cons_zero, List.set_cons_succ, i64_w, i32_w]
                                                rfl
                                              refine pure_ (i := 44) (N := some 131) (v := ?_) (a' := ?_) #[true, true, true, true, true, true, true, true, true, true, true, true, true, true, true, true, true, true, true, true, true, true, true, true, true, true, true, true, true, true, true, true, true, true, true, true, true, true, true, true, true, true, true, true, true, false] rfl rfl (any_of HT_.out (by kernel_rfl)) (fun _ _ _ h => h) (Or.inl ⟨by rfl, ?_⟩) ?_ ?_
                                              rotate_left
                                              · intro w'
                                                go_simp
                                                with_reducible rfl
                                              rotate_left
                                              · simp only [Act.put, List.setIfInBounds_toArray, List.set_cons_zero, List.set_cons_succ, i64_w, i32_w]
                                                rfl
                                              refine pure_ (i := 45) (N := some 14) (v := ?_) (a' := ?_) #[true, true, true, true, true, true, true, true, true, true, true, true, true, true, true, true, true, true, true, true, true, true, true, true, true, true, true, true, true, true, true, true, true, true, true, true, true, true, true, true, true, true, true, true, true, true] rfl rfl (any_of HT_.out (by kernel_rfl)) (fun _ _ _ h => h) (Or.inl ⟨by rfl, ?_⟩) ?_ ?_
                                              rotate_left
                                              · intro w'
                                                go_simp
                                                with_reducible rfl
                                              rotate_left
                                              · simp only [Act.put, List.setIfInBounds_toArray, List.set_cons_zero, List.set_cons_succ, i64_w, i32_w]
                                                rfl
                                              refine done_ (done_of HT_.out (by kernel_rfl)) ?_
                                              try go_wp2
                                              (try (rw [drewN_self w65]; generalize hq_ : World.drewN w65 _ = w65; have n0_ : Aside0 (Kd.R (Kd.int .u32) 83 w65 w.heap.size (fun k_ => some k_ ≠ (.slice (some ad169) x7_2.length co67 : Value).ownBlock) (.slice (some ad157) x12_3.length co66) x12_3) := ⟨by rw [← hq_]; exact (by (with_reducible repeat (first | apply Kd.R_alloc | apply Kd.R_drewN | apply Kd.R_drew)); exact HO_12.out)⟩; have n1_ : Aside0 (Kd.R (Kd.int .u32) 83 w65 w.heap.size (fun k_ => some k_ ≠ (.slice (some ad157) x12_3.length co66 : Value).ownBlock) (.slice (some ad169) x7_2.length co67) x7_2) := ⟨by rw [← hq_]; exact (by (with_reducible repeat (first | apply Kd.R_alloc | apply Kd.R_drewN | apply Kd.R_drew)); exact HO_7.out)⟩; have n2_ : Aside0 (Below w.heap.size w w65) := ⟨by rw [← hq_]; exact (by repeat (first | (with_reducible first | exact HB.out | apply below_alloc | apply pw_below_drewN | apply below_drew1) | exact HB.out))⟩; clear HO_12 HO_7 HB hq_; have HO_12 := n0_; have HO_7 := n1_; have HB := n2_; clear n0_ n1_ n2_))
                                              have n0_ := Aside0.mk (Kd.R_drew HO_7.out)
                                              have n1_ := Aside0.mk (Kd.R_drew HO_12.out)
                                              have n2_ := Aside0.mk (below_drew1 HB.out)
                                              clear HO_7
                                              clear HO_12
                                              clear HB
                                              have HO_7 := n0_
                                              have HO_12 := n1_
                                              have HB := n2_
                                              clear n0_ n1_ n2_
                                              have p170 : 0 ≤ (0 : Int) := (by omega)
                                              have q170 : 0 < (x12_3.length : Int) := of_decide_eq_true (by first | (with_reducible assumption) | assumption)
                                              obtain ⟨ad170, e170, hx170_0⟩ := Kd.at_int (Kd.R_reads' HO_12.out).2.2 0 p170 q170
                                              obtain rfl : ad157 = ad170 := (by injection e170)
                                              have qi170 : (0 < x12_3.length) = True := eq_true (by omega)
                                              (try rw [show ((0 : Int)).toNat = 0 from rfl] at hx170_0)
                                              (try rw [Addr.add_zero'] at hx170_0)
                                              replace p170 := eq_true p170
                                              replace q170 := eq_true q170
                                              have p172 : 0 ≤ (0 : Int) := (by omega)
                                              have q172 : 0 < (x12_3.length : Int) := of_decide_eq_true (by first | (with_reducible assumption) | assumption)
                                              obtain ⟨ad172, e172, hx172_0⟩ := Kd.at_int (Kd.R_reads' HO_12.out).2.2 0 p172 q172
                                              obtain rfl : ad157 = ad172 := (by injection e172)
                                              have qi172 : (0 < x12_3.length) = True := eq_true (by omega)
                                              (try rw [show ((0 : Int)).toNat = 0 from rfl] at hx172_0)
                                              (try rw [Addr.add_zero'] at hx172_0)
                                              replace p172 := eq_true p172
                                              replace q172 := eq_true q172
                                              have p174 : 0 ≤ (0 : Int) := (by omega)
                                              have q174 : 0 < (x12_3.length : Int) := of_decide_eq_true (by first | (with_reducible assumption) | assumption)
                                              obtain ⟨ad174, e174, hx174_0⟩ := Kd.at_int (Kd.R_reads' HO_12.out).2.2 0 p174 q174
                                              obtain rfl : ad157 = ad174 := (by injection e174)
                                              have qi174 : (0 < x12_3.length) = True := eq_true (by omega)
                                              (try rw [show ((0 : Int)).toNat = 0 from rfl] at hx174_0)
                                              (try rw [Addr.add_zero'] at hx174_0)
                                              replace p174 := eq_true p174
                                              replace q174 := eq_true q174
                                              have p176 : 0 ≤ (0 : Int) := (by omega)
                                              have q176 : 0 < (x12_3.length : Int) := of_decide_eq_true (by first | (with_reducible assumption) | assumption)
                                              obtain ⟨ad176, e176, hx176_0⟩ := Kd.at_int (Kd.R_reads' HO_12.out).2.2 0 p176 q176
                                              obtain rfl : ad157 = ad176 := (by injection e176)
                                              have qi176 : (0 < x12_3.length) = True := eq_true (by omega)
                                              (try rw [show ((0 : Int)).toNat = 0 from rfl] at hx176_0)
                                              (try rw [Addr.add_zero'] at hx176_0)
                                              replace p176 := eq_true p176
                                              replace q176 := eq_true q176
                                              have p177 : 0 ≤ (1 : Int) := (by omega)
                                              have q177 : 1 < (x12_3.length : Int) := of_decide_eq_true (by first | (with_reducible assumption) | assumption)
                                              obtain ⟨ad177, e177, hx177_0⟩ := Kd.at_int (Kd.R_reads' HO_12.out).2.2 1 p177 q177
                                              obtain rfl : ad157 = ad177 := (by injection e177)
                                              (try simp only [show (1 : Int).toNat = 1 from rfl, Nat.reduceMul, Nat.reduceEqDiff, Go.Addr.add, ↓reduceIte] at hx177_0)
                                              have qi177 : (1 < x12_3.length) = True := eq_true (by omega)
                                              (try rw [show ((1 : Int)).toNat = 1 from rfl] at hx177_0)
                                              replace p177 := eq_true p177
                                              replace q177 := eq_true q177
                                              have p178 : 0 ≤ (0 : Int) := (by omega)
                                              have q178 : 0 < (x12_3.length : Int) := of_decide_eq_true (by first | (with_reducible assumption) | assumption)
                                              obtain ⟨ad178, e178, hx178_0⟩ := Kd.at_int (Kd.R_reads' HO_12.out).2.2 0 p178 q178
                                              obtain rfl : ad157 = ad178 := (by injection e178)
                                              have qi178 : (0 < x12_3.length) = True := eq_true (by omega)
                                              (try rw [show ((0 : Int)).toNat = 0 from rfl] at hx178_0)
                                              (try rw [Addr.add_zero'] at hx178_0)
                                              replace p178 := eq_true p178
                                              replace q178 := eq_true q178
                                              have p179 : 0 ≤ (2 : Int) := (by omega)
                                              have q179 : 2 < (x12_3.length : Int) := of_decide_eq_true (by first | (with_reducible assumption) | assumption)
                                              obtain ⟨ad179, e179, hx179_0⟩ := Kd.at_int (Kd.R_reads' HO_12.out).2.2 2 p179 q179
                                              obtain rfl : ad157 = ad179 := (by injection e179)
                                              (try simp only [show (2 : Int).toNat = 2 from rfl, Nat.reduceMul, Nat.reduceEqDiff, Go.Addr.add, ↓reduceIte] at hx179_0)
                                              have qi179 : (2 < x12_3.length) = True := eq_true (by omega)
                                              (try rw [show ((2 : Int)).toNat = 2 from rfl] at hx179_0)
                                              replace p179 := eq_true p179
                                              replace q179 := eq_true q179
                                              have p180 : 0 ≤ (1 : Int) := (by omega)
                                              have q180 : 1 < (x12_3.length : Int) := of_decide_eq_true (by first | (with_reducible assumption) | assumption)
                                              obtain ⟨ad180, e180, hx180_0⟩ := Kd.at_int (Kd.R_reads' HO_12.out).2.2 1 p180 q180
                                              obtain rfl : ad157 = ad180 := (by injection e180)
                                              (try simp only [show (1 : Int).toNat = 1 from rfl, Nat.reduceMul, Nat.reduceEqDiff, Go.Addr.add, ↓reduceIte] at hx180_0)
                                              have qi180 : (1 < x12_3.length) = True := eq_true (by omega)
                                              (try rw [show ((1 : Int)).toNat = 1 from rfl] at hx180_0)
                                              replace p180 := eq_true p180
                                              replace q180 := eq_true q180
                                              have p181 : 0 ≤ (2 : Int) := (by omega)
                                              have q181 : 2 < (x12_3.length : Int) := of_decide_eq_true (by first | (with_reducible assumption) | assumption)
                                              obtain ⟨ad181, e181, hx181_0⟩ := Kd.at_int (Kd.R_reads' HO_12.out).2.2 2 p181 q181
                                              obtain rfl : ad157 = ad181 := (by injection e181)
                                              (try simp only [show (2 : Int).toNat = 2 from rfl, Nat.reduceMul, Nat.reduceEqDiff, Go.Addr.add, ↓reduceIte] at hx181_0)
                                              have qi181 : (2 < x12_3.length) = True := eq_true (by omega)
                                              (try rw [show ((2 : Int)).toNat = 2 from rfl] at hx181_0)
                                              replace p181 := eq_true p181
                                              replace q181 := eq_true q181
                                              refine start_ (n := 39) (S := fun w' => w'.cell? ad157 = some (.int .u32 (rd x12_3 0)) ∧ w'.cell? ad157 = some (.int .u32 (rd x12_3 0)) ∧ w'.cell? ad157 = some (.int .u32 (rd x12_3 0)) ∧ w'.cell? ad157 = some (.int .u32 (rd x12_3 0)) ∧ w'.cell? ⟨ad157.block, ad157.off + 1, none⟩ = some (.int .u32 (rd x12_3 1)) ∧ w'.cell? ad157 = some (.int .u32 (rd x12_3 0)) ∧ w'.cell? ⟨ad157.block, ad157.off + 2, none⟩ = some (.int .u32 (rd x12_3 2)) ∧ w'.cell? ⟨ad157.block, ad157.off + 1, none⟩ = some (.int .u32 (rd x12_3 1)) ∧ w'.cell? ⟨ad157.block, ad157.off + 2, none⟩ = some (.int .u32 (rd x12_3 2))) (ds := []) #[false, false, false, false, false, false, false, false, false, false, false, false, false, false, false, false, false, false, false, false, false, false, false, false, false, false, false, false, false, false, false, false, false, false, false, false, false, false, false] (by kernel_rfl) rfl rfl ⟨hx170_0, hx172_0, hx174_0, hx176_0, hx177_0, hx178_0, hx179_0, hx180_0, hx181_0⟩ (fun hHeld => ?_); refine with_tabW tikref2_block.tab16 tikref2_block.bits16 (fun HT_ HW_ => ?_)
                                              generalize w65.drew = w68 at HO_7 HO_12 HB hx170_0 hx172_0 hx174_0 hx176_0 hx177_0 hx178_0 hx179_0 hx180_0 hx181_0 hHeld ⊢
                                              refine pure_ (i := 0) (N := some 132) (v := ?_) (a' := ?_) #[true, false, false, false, false, false, false, false, false, false, false, false, false, false, false, false, false, false, false, false, false, false, false, false, false, false, false, false, false, false, false, false, false, false, false, false, false, false, false] rfl rfl (any_of HT_.out (by kernel_rfl)) (fun _ _ _ h => h) (Or.inl ⟨by rfl, ?_⟩) ?_ ?_
                                              rotate_left
                                              · intro w'
                                                go_simp
                                                with_reducible rfl
                                              rotate_left
                                              · simp only [Act.put, List.setIfInBounds_toArray, List.set_cons_zero, List.set_cons_succ, i64_w, i32_w]
                                                rfl
                                              refine pure_ (i := 1) (N := some 133) (v := ?_) (a' := ?_) #[true, true, false, false, false, false, false, false, false, false, false, false, false, false, false, false, false, false, false, false, false, false, false, false, false, false, false, false, false, false, false, false, false, false, false, false, false, false, false] rfl rfl (any_of HT_.out (by kernel_rfl)) (fun _ _ _ h => h) (Or.inl ⟨by rfl, ?_⟩) ?_ ?_
                                              rotate_left
                                              · intro w'
                                                go_simp
                                                with_reducible rfl
                                              rotate_left
                                              · simp only [Act.put, List.setIfInBounds_toArray, List.set_cons_zero, List.set_cons_succ, i64_w, i32_w]
                                                rfl
                                              refine pure_ (i := 4) (N := some 136) (v := ?_) (a' := ?_) #[true, true, false, false, true, false, false, false, false, false, false, false, false, false, false, false, false, false, false, false, false, false, false, false, false, false, false, false, false, false, false, false, false, false, false, false, false, false, false] rfl rfl (any_of HT_.out (by kernel_rfl)) (fun _ _ _ h => h) (Or.inl ⟨by rfl, ?_⟩) ?_ ?_
                                              rotate_left
                                              · intro w'
                                                go_simp
                                                with_reducible rfl
                                              rotate_left
                                              · simp only [Act.put, List.setIfInBounds_toArray, List.set_cons_zero, List.set_cons_succ, i64_w, i32_w]
                                                rfl
                                              refine pure_ (i := 5) (N := some 137) (v := ?_) (a' := ?_) #[true, true, false, false, true, true, false, false, false, false, false, false, false, false, false, false, false, false, false, false, false, false, false, false, false, false, false, false, false, false, false, false, false, false, false, false, false, false, false] rfl rfl (any_of HT_.out (by kernel_rfl)) (fun _ _ _ h => h) (Or.inl ⟨by rfl, ?_⟩) ?_ ?_
                                              rotate_left
                                              · intro w'
                                                go_simp
                                                with_reducible rfl
                                              rotate_left
                                              · simp only [Act.put, List.setIfInBounds_toArray, List.set_cons_zero, List.set_cons_succ, i64_w, i32_w]
                                                rfl
                                              refine pure_ (i := 9) (N := some 141) (v := ?_) (a' := ?_) #[true, true, false, false, true, true, false, false, false, true, false, false, false, false, false, false, false, false, false, false, false, false, false, false, false, false, false, false, false, false, false, false, false, false, false, false, false, false, false] rfl rfl (any_of HT_.out (by kernel_rfl)) (fun _ _ _ h => h) (Or.inl ⟨by rfl, ?_⟩) ?_ ?_
                                              rotate_left
                                              · intro w'
                                                go_simp
                                                with_reducible rfl
                                              rotate_left
                                              · simp only [Act.put, List.setIfInBounds_toArray, List.set_cons_zero, List.set_cons_succ, i64_w, i32_w]
                                                rfl
                                              refine pure_ (i := 10) (N := some 142) (v := ?_) (a' := ?_) #[true, true, false, false, true, true, false, false, false, true, true, false, false, false, false, false, false, false, false, false, false, false, false, false, false, false, false, false, false, false, false, false, false, false, false, false, false, false, false] rfl rfl (any_of HT_.out (by kernel_rfl)) (fun _ _ _ h => h) (Or.inl ⟨by rfl, ?_⟩) ?_ ?_
                                              rotate_left
                                              · intro w'
                                                go_simp
                                                with_reducible rfl
                                              rotate_left
                                              · simp only [Act.put, List.setIfInBounds_toArray, List.set_cons_zero, List.set_cons_succ, i64_w, i32_w]
                                                rfl
                                              refine pure_ (i := 14) (N := some 146) (v := ?_) (a' := ?_) #[true, true, false, false, true, true, false, false, false, true, true, false, false, false, true, false, false, false, false, false, false, false, false, false, false, false, false, false, false, false, false, false, false, false, false, false, false, false, false] rfl rfl (any_of HT_.out (by kernel_rfl)) (fun _ _ _ h => h) (Or.inl ⟨by rfl, ?_⟩) ?_ ?_
                                              rotate_left
                                              · intro w'
                                                go_simp
                                                with_reducible rfl
                                              rotate_left
                                              · simp only [Act.put, List.setIfInBounds_toArray, List.set_cons_zero, List.set_cons_succ, i64_w, i32_w]
                                                rfl
                                              refine pure_ (i := 15) (N := some 147) (v := ?_) (a' := ?_) #[true, true, false, false, true, true, false, false, false, true, true, false, false, false, true, true, false, false, false, false, false, false, false, false, false, false, false, false, false, false, false, false, false, false, false, false, false, false, false] rfl rfl (any_of HT_.out (by kernel_rfl)) (fun _ _ _ h => h) (Or.inl ⟨by rfl, ?_⟩) ?_ ?_
                                              rotate_left
                                              · intro w'
                                                go_simp
                                                with_reducible rfl
                                              rotate_left
                                              · simp only [Act.put, List.setIfInBounds_toArray, List.set_cons_zero, List.set_cons_succ, i64_w, i32_w]
                                                rfl
                                              refine pure_ (i := 17) (N := some 149) (v := ?_) (a' := ?_) #[true, true, false, false, true, true, false, false, false, true, true, false, false, false, true, true, false, true, false, false, false, false, false, false, false, false, false, false, false, false, false, false, false, false, false, false, false, false, false] rfl rfl (any_of HT_.out (by kernel_rfl)) (fun _ _ _ h => h) (Or.inl ⟨by rfl, ?_⟩) ?_ ?_
                                              rotate_left
                                              · intro w'
                                                go_simp
                                                with_reducible rfl
                                              rotate_left
                                              · simp only [Act.put, List.setIfInBounds_toArray, List.set_cons_zero, List.set_cons_succ, i64_w, i32_w]
                                                rfl
                                              refine pure_ (i := 18) (N := some 150) (v := ?_) (a' := ?_) #[true, true, false, false, true, true, false, false, false, true, true, false, false, false, true, true, false, true, true, false, false, false, false, false, false, false, false, false, false, false, false, false, false, false, false, false, false, false, false] rfl rfl (any_of HT_.out (by kernel_rfl)) (fun _ _ _ h => h) (Or.inl ⟨by rfl, ?_⟩) ?_ ?_
                                              rotate_left
                                              · intro w'
                                                go_simp
                                                with_reducible rfl
                                              rotate_left
                                              · simp only [Act.put, List.setIfInBounds_toArray, List.set_cons_zero, List.set_cons_succ, i64_w, i32_w]
                                                rfl
                                              refine pure_ (i := 21) (N := some 153) (v := ?_) (a' := ?_) #[true, true, false, false, true, true, false, false, false, true, true, false, false, false, true, true, false, true, true, false, false, true, false, false, false, false, false, false, false, false, false, false, false, false, false, false, false, false, false] rfl rfl (any_of HT_.out (by kernel_rfl)) (fun _ _ _ h => h) (Or.inl ⟨by rfl, ?_⟩) ?_ ?_
                                              rotate_left
                                              · intro w'
                                                go_simp
                                                with_reducible rfl
                                              rotate_left
                                              · simp only [Act.put, List.setIfInBounds_toArray, List.set_cons_zero, List.set_cons_succ, i64_w, i32_w]
                                                rfl
                                              refine pure_ (i := 22) (N := some 154) (v := ?_) (a' := ?_) #[true, true, false, false, true, true, false, false, false, true, true, false, false, false, true, true, false, true, true, false, false, true, true, false, false, false, false, false, false, false, false, false, false, false, false, false, false, false, false] rfl rfl (any_of HT_.out (by kernel_rfl)) (fun _ _ _ h => h) (Or.inl ⟨by rfl, ?_⟩) ?_ ?_
                                              rotate_left
                                              · intro w'
                                                go_simp
                                                with_reducible rfl
                                              rotate_left
                                              · simp only [Act.put, List.setIfInBounds_toArray, List.set_cons_zero, List.set_cons_succ, i64_w, i32_w]
                                                rfl
                                              refine pure_ (i := 24) (N := some 156) (v := ?_) (a' := ?_) #[true, true, false, false, true, true, false, false, false, true, true, false, false, false, true, true, false, true, true, false, false, true, true, false, true, false, false, false, false, false, false, false, false, false, false, false, false, false, false] rfl rfl (any_of HT_.out (by kernel_rfl)) (fun _ _ _ h => h) (Or.inl ⟨by rfl, ?_⟩) ?_ ?_
                                              rotate_left
                                              · intro w'
                                                go_simp
                                                with_reducible rfl
                                              rotate_left
                                              · simp only [Act.put, List.setIfInBounds_toArray, List.set_cons_zero, List.set_cons_succ, i64_w, i32_w]
                                                rfl
                                              refine pure_ (i := 25) (N := some 157) (v := ?_) (a' := ?_) #[true, true, false, false, true, true, false, false, false, true, true, false, false, false, true, true, false, true, true, false, false, true, true, false, true, true, false, false, false, false, false, false, false, false, false, false, false, false, false] rfl rfl (any_of HT_.out (by kernel_rfl)) (fun _ _ _ h => h) (Or.inl ⟨by rfl, ?_⟩) ?_ ?_
                                              rotate_left
                                              · intro w'
                                                go_simp
                                                with_reducible rfl
                                              rotate_left
                                              · simp only [Act.put, List.setIfInBounds_toArray, List.set_cons_zero, List.set_cons_succ, i64_w, i32_w]
                                                rfl
                                              refine pure_ (i := 29) (N := some 161) (v := ?_) (a' := ?_) #[true, true, false, false, true, true, false, false, false, true, true, false, false, false, true, true, false, true, true, false, false, true, true, false, true, true, false, false, false, true, false, false, false, false, false, false, false, false, false] rfl rfl (any_of HT_.out (by kernel_rfl)) (fun _ _ _ h => h) (Or.inl ⟨by rfl, ?_⟩) ?_ ?_
                                              rotate_left
                                              · intro w'
                                                go_simp
                                                with_reducible rfl
                                              rotate_left
                                              · simp only [Act.put, List.setIfInBounds_toArray, List.set_cons_zero, List.set_cons_succ, i64_w, i32_w]
                                                rfl
                                              refine pure_ (i := 30) (N := some 162) (v := ?_) (a' := ?_) #[true, true, false, false, true, true, false, false, false, true, true, false, false, false, true, true, false, true, true, false, false, true, true, false, true, true, false, false, false, true, true, false, false, false, false, false, false, false, false] rfl rfl (any_of HT_.out (by kernel_rfl)) (fun _ _ _ h => h) (Or.inl ⟨by rfl, ?_⟩) ?_ ?_
                                              rotate_left
                                              · intro w'
                                                go_simp
                                                with_reducible rfl
                                              rotate_left
                                              · simp only [Act.put, List.setIfInBounds_toArray, List.set_cons_zero, List.set_cons_succ, i64_w, i32_w]
                                                rfl
                                              refine pure_ (i := 32) (N := some 164) (v := ?_) (a' := ?_) #[true, true, false, false, true, true, false, false, false, true, true, false, false, false, true, true, false, true, true, false, false, true, true, false, true, true, false, false, false, true, true, false, true, false, false, false, false, false, false] rfl rfl (any_of HT_.out (by kernel_rfl)) (fun _ _ _ h => h) (Or.inl ⟨by rfl, ?_⟩) ?_ ?_
                                              rotate_left
                                              · intro w'
                                                go_simp
                                                with_reducible rfl
                                              rotate_left
                                              · simp only [Act.put, List.setIfInBounds_toArray, List.set_cons_zero, List.set_cons_succ, i64_w, i32_w]
                                                rfl
                                              refine pure_ (i := 33) (N := some 165) (v := ?_) (a' := ?_) #[true, true, false, false, true, true, false, false, false, true, true, false, false, false, true, true, false, true, true, false, false, true, true, false, true, true, false, false, false, true, true, false, true, true, false, false, false, false, false] rfl rfl (any_of HT_.out (by kernel_rfl)) (fun _ _ _ h => h) (Or.inl ⟨by rfl, ?_⟩) ?_ ?_
                                              rotate_left
                                              · intro w'
                                                go_simp
                                                with_reducible rfl
                                              rotate_left
                                              · simp only [Act.put, List.setIfInBounds_toArray, List.set_cons_zero, List.set_cons_succ, i64_w, i32_w]
                                                rfl
                                              refine take_ (i := 2) (N := some 134) (v := ?_) (a' := ?_) #[true, true, true, false, true, true, false, false, false, true, true, false, false, false, true, true, false, true, true, false, false, true, true, false, true, true, false, false, false, true, true, false, true, true, false, false, false, false, false] rfl rfl (take_ofW HT_.out HW_.out (by kernel_rfl)) (fun _ _ _ h => h) (Or.inl ⟨by rfl, ?_⟩) hHeld ?_ ?_
                                              rotate_left
                                              · rintro w' ⟨s0, s1, s2, s3, s4, s5, s6, s7, s8⟩
                                                go_simp
                                                with_reducible rfl
                                              rotate_left
                                              · simp only [Act.put, List.setIfInBounds_toArray, List.set_cons_zero, List.set_cons_succ, i64_w, i32_w]
                                                rfl
                                              refine take_ (i := 6) (N := some 138) (v := ?_) (a' := ?_) #[true, true, true, false, true, true, true, false, false, true, true, false, false, false, true, true, false, true, true, false, false, true, true, false, true, true, false, false, false, true, true, false, true, true, false, false, false, false, false] rfl rfl (take_ofW HT_.out HW_.out (by kernel_rfl)) (fun _ _ _ h => h) (Or.inl ⟨by rfl, ?_⟩) hHeld ?_ ?_
                                              rotate_left
                                              · rintro w' ⟨s0, s1, s2, s3, s4, s5, s6, s7, s8⟩
                                                go_simp
                                                with_reducible rfl
                                              rotate_left
                                              · simp only [Act.put, List.setIfInBounds_toArray, List.set_cons_zero, List.set_cons_succ, i64_w, i32_w]
                                                rfl
                                              refine take_ (i := 11) (N := some 143) (v := ?_) (a' := ?_) #[true, true, true, false, true, true, true, false, false, true, true, true, false, false, true, true, false, true, true, false, false, true, true, false, true, true, false, false, false, true, true, false, true, true, false, false, false, false, false] rfl rfl (take_ofW HT_.out HW_.out (by kernel_rfl)) (fun _ _ _ h => h) (Or.inl ⟨by rfl, ?_⟩) hHeld ?_ ?_
                                              rotate_left
                                              · rintro w' ⟨s0, s1, s2, s3, s4, s5, s6, s7, s8⟩
                                                go_simp
                                                with_reducible rfl
                                              rotate_left
                                              · simp only [Act.put, List.setIfInBounds_toArray, List.set_cons_zero, List.set_cons_succ, i64_w, i32_w]
                                                rfl
                                              refine take_ (i := 16) (N := some 148) (v := ?_) (a' := ?_) #[true, true, true, false, true, true, true, false, false, true, true, true, false, false, true, true, true, true, true, false, false, true, true, false, true, true, false, false, false, true, true, false, true, true, false, false, false, false, false] rfl rfl (take_ofW HT_.out HW_.out (by kernel_rfl)) (fun _ _ _ h => h) (Or.inl ⟨by rfl, ?_⟩) hHeld ?_ ?_
                                              rotate_left
                                              · rintro w' ⟨s0, s1, s2, s3, s4, s5, s6, s7, s8⟩
                                                go_simp
                                                with_reducible rfl
                                              rotate_left
                                              · simp only [Act.put, List.setIfInBounds_toArray, List.set_cons_zero, List.set_cons_succ, i64_w, i32_w]
                                                rfl
                                              refine take_ (i := 19) (N := some 151) (v := ?_) (a' := ?_) #[true, true, true, false, true, true, true, false, false, true, true, true, false, false, true, true, true, true, true, true, false, true, true, false, true, true, false, false, false, true, true, false, true, true, false, false, false, false, false] rfl rfl (take_ofW HT_.out HW_.out (by kernel_rfl)) (fun _ _ _ h => h) (Or.inl ⟨by rfl, ?_⟩) hHeld ?_ ?_
                                              rotate_left
                                              · rintro w' ⟨s0, s1, s2, s3, s4, s5, s6, s7, s8⟩
                                                go_simp
                                                with_reducible rfl
                                              rotate_left
                                              · simp only [Act.put, List.setIfInBounds_toArray, List.set_cons_zero, List.set_cons_succ, i64_w, i32_w]
                                                rfl
                                              refine pure_ (i := 20) (N := some 152) (v := ?_) (a' := ?_) #[true, true, true, false, true, true, true, false, false, true, true, true, false, false, true, true, true, true, true, true, true, true, true, false, true, true, false, false, false, true, true, false, true, true, false, false, false, false, false] rfl rfl (any_of HT_.out (by kernel_rfl)) (fun _ _ _ h => h) (Or.inl ⟨by rfl, ?_⟩) ?_ ?_
                                              rotate_left
                                              · intro w'
                                                go_simp
                                                with_reducible rfl
                                              rotate_left
                                              · simp only [Act.put, List.setIfInBounds_toArray, List.set_cons_zero, List.set_cons_succ, i64_w, i32_w]
                                                rfl
                                              refine take_ (i := 23) (N := some 155) (v := ?_) (a' := ?_) #[true, true, true, false, true, true, true, false, false, true, true, true, false, false, true, true, true, true, true, true, true, true, true, true, true, true, false, false, false, true, true, false, true, true, false, false, false, false, false] rfl rfl (take_ofW HT_.out HW_.out (by kernel_rfl)) (fun _ _ _ h => h) (Or.inl ⟨by rfl, ?_⟩) hHeld ?_ ?_
                                              rotate_left
                                              · rintro w' ⟨s0, s1, s2, s3, s4, s5, s6, s7, s8⟩
                                                go_simp
                                                with_reducible rfl
                                              rotate_left
                                              · simp only [Act.put, List.setIfInBounds_toArray, List.set_cons_zero, List.set_cons_succ, i64_w, i32_w]
                                                rfl
                                              refine take_ (i := 26) (N := some 158) (v := ?_) (a' := ?_) #[true, true, true, false, true, true, true, false, false, true, true, true, false, false, true, true, true, true, true, true, true, true, true, true, true, true, true, false, false, true, true, false, true, true, false, false, false, false, false] rfl rfl (take_ofW HT_.out HW_.out (by kernel_rfl)) (fun _ _ _ h => h) (Or.inl ⟨by rfl, ?_⟩) hHeld ?_ ?_
                                              rotate_left
                                              · rintro w' ⟨s0, s1, s2, s3, s4, s5, s6, s7, s8⟩
                                                go_simp
                                                with_reducible rfl
                                              rotate_left
                                              · simp only [Act.put, List.setIfInBounds_toArray, List.set_cons_zero, List.set_cons_succ, i64_w, i32_w]
                                                rfl
                                              refine pure_ (i := 27) (N := some 159) (v := ?_) (a' := ?_) #[true, true, true, false, true, true, true, false, false, true, true, true, false, false, true, true, true, true, true, true, true, true, true, true, true, true, true, true, false, true, true, false, true, true, false, false, false, false, false] rfl rfl (any_of HT_.out (by kernel_rfl)) (fun _ _ _ h => h) (Or.inl ⟨by rfl, ?_⟩) ?_ ?_
                                              rotate_left
                                              · intro w'
                                                go_simp
                                                with_reducible rfl
                                              rotate_left
                                              · simp only [Act.put, List.setIfInBounds_toArray, List.set_cons_zero, List.set_cons_succ, i64_w, i32_w]
                                                rfl
                                              refine pure_ (i := 28) (N := some 160) (v := ?_) (a' := ?_) #[true, true, true, false, true, true, true, false, false, true, true, true, false, false, true, true, true, true, true, true, true, true, true, true, true, true, true, true, true, true, true, false, true, true, false, false, false, false, false] rfl rfl (any_of HT_.out (by kernel_rfl)) (fun _ _ _ h => h) (Or.inl ⟨by rfl, ?_⟩) ?_ ?_
                                              rotate_left
                                              · intro w'
                                                go_simp
                                                with_reducible rfl
                                              rotate_left
                                              · simp only [Act.put, List.setIfInBounds_toArray, List.set_cons_zero, List.set_cons_succ, i64_w, i32_w]
                                                rfl
                                              refine take_ (i := 31) (N := some 163) (v := ?_) (a' := ?_) #[true, true, true, false, true, true, true, false, false, true, true, true, false, false, true, true, true, true, true, true, true, true, true, true, true, true, true, true, true, true, true, true, true, true, false, false, false, false, false] rfl rfl (take_ofW HT_.out HW_.out (by kernel_rfl)) (fun _ _ _ h => h) (Or.inl ⟨by rfl, ?_⟩) hHeld ?_ ?_
                                              rotate_left
                                              · rintro w' ⟨s0, s1, s2, s3, s4, s5, s6, s7, s8⟩
                                                go_simp
                                                with_reducible rfl
                                              rotate_left
                                              · simp only [Act.put, List.setIfInBounds_toArray, List.set_cons_zero, List.set_cons_succ, i64_w, i32_w]
                                                rfl
                                              refine take_ (i := 34) (N := some 166) (v := ?_) (a' := ?_) #[true, true, true, false, true, true, true, false, false, true, true, true, false, false, true, true, true, true, true, true, true, true, true, true, true, true, true, true, true, true, true, true, true, true, true, false, false, false, false] rfl rfl (take_ofW HT_.out HW_.out (by kernel_rfl)) (fun _ _ _ h => h) (Or.inl ⟨by rfl, ?_⟩) hHeld ?_ ?_
                                              rotate_left
                                              · rintro w' ⟨s0, s1, s2, s3, s4, s5, s6, s7, s8⟩
                                                go_simp
                                                with_reducible rfl
                                              rotate_left
                                              · simp only [Act.put, List.setIfInBounds_toArray, List.set_cons_zero, List.set_cons_succ, i64_w, i32_w]
                                                rfl
                                              refine pure_ (i := 35) (N := some 167) (v := ?_) (a' := ?_) #[true, true, true, false, true, true, true, false, false, true, true, true, false, false, true, true, true, true, true, true, true, true, true, true, true, true, true, true, true, true, true, true, true, true, true, true, false, false, false] rfl rfl (any_of HT_.out (by kernel_rfl)) (fun _ _ _ h => h) (Or.inl ⟨by rfl, ?_⟩) ?_ ?_
                                              rotate_left
                                              · intro w'
                                                go_simp
                                                with_reducible rfl
                                              rotate_left
                                              · simp only [Act.put, List.setIfInBounds_toArray, List.set_cons_zero, List.set_cons_succ, i64_w, i32_w]
                                                rfl
                                              refine pure_ (i := 36) (N := some 168) (v := ?_) (a' := ?_) #[true, true, true, false, true, true, true, false, false, true, true, true, false, false, true, true, true, true, true, true, true, true, true, true, true, true, true, true, true, true, true, true, true, true, true, true, true, false, false] rfl rfl (any_of HT_.out (by kernel_rfl)) (fun _ _ _ h => h) (Or.inl ⟨by rfl, ?_⟩) ?_ ?_
                                              rotate_left
                                              · intro w'
                                                go_simp
                                                with_reducible rfl
                                              rotate_left
                                              · simp only [Act.put, List.setIfInBounds_toArray, List.set_cons_zero, List.set_cons_succ, i64_w, i32_w]
                                                rfl
                                              refine one_ (i := 3) (N := some 135) #[true, true, true, true, true, true, true, false, false, true, true, true, false, false, true, true, true, true, true, true, true, true, true, true, true, true, true, true, true, true, true, true, true, true, true, true, true, false, false] rfl rfl (one_of HT_.out (by kernel_rfl)) (by decide) (fun K hK => ?_)
                                              refine goes_ Tryd.func57 (by kernel_rfl) rfl #[.int .u32 (rd x12_3 0), .int .u64 2] (by rfl) rfl rfl (by (try simp only [List.map_toArray, List.map_cons, List.map_nil]); first | done | rfl | (simp only [List.length_drop, List.length_take]; rfl)) ?_
                                              with_reducible refine (tikref2_turn.calls (rd x12_3 0) 2 t171 _ A59.out).mono ?_
                                              rintro e w' ⟨rfl, ⟨nd, rfl⟩⟩
                                              refine ⟨_, rfl, ?_⟩
                                              refine hK.out _ _ ⟨hHeld.1, hHeld.2.1, hHeld.2.2.1, hHeld.2.2.2.1, hHeld.2.2.2.2.1, hHeld.2.2.2.2.2.1, hHeld.2.2.2.2.2.2.1, hHeld.2.2.2.2.2.2.2.1, hHeld.2.2.2.2.2.2.2.2⟩ (fun hHeld => ?_)
                                              clear hK K
                                              refine norm_ (a' := ?_) ?_ ?_
                                              rotate_left
                                              · show Act.put _ (some 135) _ = _
                                                simp only [Act.put, List.setIfInBounds_toArray, List.set_cons_zero, List.set_cons_succ, i64_w, i32_w]
                                                rfl
                                              refine one_ (i := 7) (N := some 139) #[true, true, true, true, true, true, true, true, false, true, true, true, false, false, true, true, true, true, true, true, true, true, true, true, true, true, true, true, true, true, true, true, true, true, true, true, true, false, false] rfl rfl (one_of HT_.out (by kernel_rfl)) (by decide) (fun K hK => ?_)
                                              refine goes_ Tryd.func57 (by kernel_rfl) rfl #[.int .u32 (rd x12_3 0), .int .u64 13] (by rfl) rfl rfl (by (try simp only [List.map_toArray, List.map_cons, List.map_nil]); first | done | rfl | (simp only [List.length_drop, List.length_take]; rfl)) ?_
                                              with_reducible refine (tikref2_turn.calls (rd x12_3 0) 13 t173 _ A60.out).mono ?_
                                              rintro e w' ⟨rfl, ⟨nd, rfl⟩⟩
                                              refine ⟨_, rfl, ?_⟩
                                              refine hK.out _ _ ⟨hHeld.1, hHeld.2.1, hHeld.2.2.1, hHeld.2.2.2.1, hHeld.2.2.2.2.1, hHeld.2.2.2.2.2.1, hHeld.2.2.2.2.2.2.1, hHeld.2.2.2.2.2.2.2.1, hHeld.2.2.2.2.2.2.2.2⟩ (fun hHeld => ?_)
                                              clear hK K
                                              refine norm_ (a' := ?_) ?_ ?_
                                              rotate_left
                                              · show Act.put _ (some 139) _ = _
                                                simp only [Act.put, List.setIfInBounds_toArray, List.set_cons_zero, List.set_cons_succ, i64_w, i32_w]
                                                rfl
                                              refine pure_ (i := 8) (N := some 140) (v := ?_) (a' := ?_) #[true, true, true, true, true, true, true, true, true, true, true, true, false, false, true, true, true, true, true, true, true, true, true, true, true, true, true, true, true, true, true, true, true, true, true, true, true, false, false] rfl rfl (any_of HT_.out (by kernel_rfl)) (fun _ _ _ h => h) (Or.inl ⟨by rfl, ?_⟩) ?_ ?_
                                              rotate_left
                                              · intro w'
                                                go_simp
                                                with_reducible rfl
                                              rotate_left
                                              · simp only [Act.put, List.setIfInBounds_toArray, List.set_cons_zero, List.set_cons_succ, i64_w, i32_w]
                                                rfl
                                              refine one_ (i := 12) (N := some 144) #[true, true, true, true, true, true, true, true, true, true, true, true, true, false, true, true, true, true, true, true, true, true, true, true, true, true, true, true, true, true, true, true, true, true, true, true, true, false, false] rfl rfl (one_of HT_.out (by kernel_rfl)) (by decide) (fun K hK => ?_)
                                              refine goes_ Tryd.func57 (by kernel_rfl) rfl #[.int .u32 (rd x12_3 0), .int .u64 22] (by rfl) rfl rfl (by (try simp only [List.map_toArray, List.map_cons, List.map_nil]); first | done | rfl | (simp only [List.length_drop, List.length_take]; rfl)) ?_
                                              with_reducible refine (tikref2_turn.calls (rd x12_3 0) 22 t175 _ A61.out).mono ?_
                                              rintro e w' ⟨rfl, ⟨nd, rfl⟩⟩
                                              refine ⟨_, rfl, ?_⟩
                                              refine hK.out _ _ ⟨hHeld.1, hHeld.2.1, hHeld.2.2.1, hHeld.2.2.2.1, hHeld.2.2.2.2.1, hHeld.2.2.2.2.2.1, hHeld.2.2.2.2.2.2.1, hHeld.2.2.2.2.2.2.2.1, hHeld.2.2.2.2.2.2.2.2⟩ (fun hHeld => ?_)
                                              clear hK K
                                              refine norm_ (a' := ?_) ?_ ?_
                                              rotate_left
                                              · show Act.put _ (some 144) _ = _
                                                simp only [Act.put, List.setIfInBounds_toArray, List.set_cons_zero, List.set_cons_succ, i64_w, i32_w]
                                                rfl
                                              refine pure_ (i := 13) (N := some 145) (v := ?_) (a' := ?_) #[true, true, true, true, true, true, true, true, true, true, true, true, true, true, true, true, true, true, true, true, true, true, true, true, true, true, true, true, true, true, true, true, true, true, true, true, true, false, false] rfl rfl (any_of HT_.out (by kernel_rfl)) (fun _ _ _ h => h) (Or.inl ⟨by rfl, ?_⟩) ?_ ?_
                                              rotate_left
                                              · intro w'
                                                go_simp
                                                with_reducible rfl
                                              rotate_left
                                              · simp only [Act.put, List.setIfInBounds_toArray, List.set_cons_zero, List.set_cons_succ, i64_w, i32_w]
                                                rfl
                                              refine pure_ (i := 37) (N := some 169) (v := ?_) (a' := ?_) #[true, true, true, true, true, true, true, true, true, true, true, true, true, true, true, true, true, true, true, true, true, true, true, true, true, true, true, true, true, true, true, true, true, true, true, true, true, true, false] rfl rfl (any_of HT_.out (by kernel_rfl)) (fun _ _ _ h => h) (Or.inl ⟨by rfl, ?_⟩) ?_ ?_
                                              rotate_left
                                              · intro w'
                                                go_simp
                                                with_reducible rfl
                                              rotate_left
                                              · simp only [Act.put, List.setIfInBounds_toArray, List.set_cons_zero, List.set_cons_succ, i64_w, i32_w]
                                                rfl
                                              refine pure_ (i := 38) (N := some 15) (v := ?_) (a' := ?_) #[true, true, true, true, true, true, true, true, true, true, true, true, true, true, true, true, true, true, true, true, true, true, true, true, true, true, true, true, true, true, true, true, true, true, true, true, true, true, true] rfl rfl (any_of HT_.out (by kernel_rfl)) (fun _ _ _ h => h) (Or.inl ⟨by rfl, ?_⟩) ?_ ?_
                                              rotate_left
                                              · intro w'
                                                go_simp
                                                with_reducible rfl
                                              rotate_left
                                              · simp only [Act.put, List.setIfInBounds_toArray, List.set_cons_zero, List.set_cons_succ, i64_w, i32_w]
                                                rfl
                                              refine done_ (done_of HT_.out (by kernel_rfl)) ?_
                                              try go_wp2
                                              (try (rw [drewN_self w68]; generalize hq_ : World.drewN w68 _ = w68; have n0_ : Aside0 (Kd.R (Kd.int .u32) 83 w68 w.heap.size (fun k_ => some k_ ≠ (.slice (some ad169) x7_2.length co67 : Value).ownBlock) (.slice (some ad157) x12_3.length co66) x12_3) := ⟨by rw [← hq_]; exact (by (with_reducible repeat (first | apply Kd.R_alloc | apply Kd.R_drewN | apply Kd.R_drew)); exact HO_12.out)⟩; have n1_ : Aside0 (Kd.R (Kd.int .u32) 83 w68 w.heap.size (fun k_ => some k_ ≠ (.slice (some ad157) x12_3.length co66 : Value).ownBlock) (.slice (some ad169) x7_2.length co67) x7_2) := ⟨by rw [← hq_]; exact (by (with_reducible repeat (first | apply Kd.R_alloc | apply Kd.R_drewN | apply Kd.R_drew)); exact HO_7.out)⟩; have n2_ : Aside0 (Below w.heap.size w w68) := ⟨by rw [← hq_]; exact (by repeat (first | (with_reducible first | exact HB.out | apply below_alloc | apply pw_below_drewN | apply below_drew1) | exact HB.out))⟩; clear HO_12 HO_7 HB hq_; have HO_12 := n0_; have HO_7 := n1_; have HB := n2_; clear n0_ n1_ n2_))
                                              have n0_ := Aside0.mk (Kd.R_drew HO_7.out)
                                              have n1_ := Aside0.mk (Kd.R_drew HO_12.out)
                                              have n2_ := Aside0.mk (below_drew1 HB.out)
                                              clear HO_7
                                              clear HO_12
                                              clear HB
                                              have HO_7 := n0_
                                              have HO_12 := n1_
                                              have HB := n2_
                                              clear n0_ n1_ n2_
                                              have p182 : 0 ≤ (0 : Int) := (by omega)
                                              have q182 : 0 < (x12_3.length : Int) := of_decide_eq_true (by first | (with_reducible assumption) | assumption)
                                              obtain ⟨ad182, e182, hx182_0⟩ := Kd.at_int (Kd.R_reads' HO_12.out).2.2 0 p182 q182
                                              obtain rfl : ad157 = ad182 := (by injection e182)
                                              have qi182 : (0 < x12_3.length) = True := eq_true (by omega)
                                              (try rw [show ((0 : Int)).toNat = 0 from rfl] at hx182_0)
                                              (try rw [Addr.add_zero'] at hx182_0)
                                              replace p182 := eq_true p182
                                              replace q182 := eq_true q182
                                              have p183 : 0 ≤ (1 : Int) := (by omega)
                                              have q183 : 1 < (x12_3.length : Int) := of_decide_eq_true (by first | (with_reducible assumption) | assumption)
                                              obtain ⟨ad183, e183, hx183_0⟩ := Kd.at_int (Kd.R_reads' HO_12.out).2.2 1 p183 q183
                                              obtain rfl : ad157 = ad183 := (by injection e183)
                                              (try simp only [show (1 : Int).toNat = 1 from rfl, Nat.reduceMul, Nat.reduceEqDiff, Go.Addr.add, ↓reduceIte] at hx183_0)
                                              have qi183 : (1 < x12_3.length) = True := eq_true (by omega)
                                              (try rw [show ((1 : Int)).toNat = 1 from rfl] at hx183_0)
                                              replace p183 := eq_true p183
                                              replace q183 := eq_true q183
                                              have p184 : 0 ≤ (2 : Int) := (by omega)
                                              have q184 : 2 < (x12_3.length : Int) := of_decide_eq_true (by first | (with_reducible assumption) | assumption)
                                              obtain ⟨ad184, e184, hx184_0⟩ := Kd.at_int (Kd.R_reads' HO_12.out).2.2 2 p184 q184
                                              obtain rfl : ad157 = ad184 := (by injection e184)
                                              (try simp only [show (2 : Int).toNat = 2 from rfl, Nat.reduceMul, Nat.reduceEqDiff, Go.Addr.add, ↓reduceIte] at hx184_0)
                                              have qi184 : (2 < x12_3.length) = True := eq_true (by omega)
                                              (try rw [show ((2 : Int)).toNat = 2 from rfl] at hx184_0)
                                              replace p184 := eq_true p184
                                              replace q184 := eq_true q184
                                              have p185 : 0 ≤ (3 : Int) := (by omega)
                                              have q185 : 3 < (x12_3.length : Int) := of_decide_eq_true (by first | (with_reducible assumption) | assumption)
                                              obtain ⟨ad185, e185, hx185_0⟩ := Kd.at_int (Kd.R_reads' HO_12.out).2.2 3 p185 q185
                                              obtain rfl : ad157 = ad185 := (by injection e185)
                                              (try simp only [show (3 : Int).toNat = 3 from rfl, Nat.reduceMul, Nat.reduceEqDiff, Go.Addr.add, ↓reduceIte] at hx185_0)
                                              have qi185 : (3 < x12_3.length) = True := eq_true (by omega)
                                              (try rw [show ((3 : Int)).toNat = 3 from rfl] at hx185_0)
                                              replace p185 := eq_true p185
                                              replace q185 := eq_true q185
                                              have p186 : 0 ≤ (4 : Int) := (by omega)
                                              have q186 : 4 < (x12_3.length : Int) := of_decide_eq_true (by first | (with_reducible assumption) | assumption)
                                              obtain ⟨ad186, e186, hx186_0⟩ := Kd.at_int (Kd.R_reads' HO_12.out).2.2 4 p186 q186
                                              obtain rfl : ad157 = ad186 := (by injection e186)
                                              (try simp only [show (4 : Int).toNat = 4 from rfl, Nat.reduceMul, Nat.reduceEqDiff, Go.Addr.add, ↓reduceIte] at hx186_0)
                                              have qi186 : (4 < x12_3.length) = True := eq_true (by omega)
                                              (try rw [show ((4 : Int)).toNat = 4 from rfl] at hx186_0)
                                              replace p186 := eq_true p186
                                              replace q186 := eq_true q186
                                              have p187 : 0 ≤ (5 : Int) := (by omega)
                                              have q187 : 5 < (x12_3.length : Int) := of_decide_eq_true (by first | (with_reducible assumption) | assumption)
                                              obtain ⟨ad187, e187, hx187_0⟩ := Kd.at_int (Kd.R_reads' HO_12.out).2.2 5 p187 q187
                                              obtain rfl : ad157 = ad187 := (by injection e187)
                                              (try simp only [show (5 : Int).toNat = 5 from rfl, Nat.reduceMul, Nat.reduceEqDiff, Go.Addr.add, ↓reduceIte] at hx187_0)
                                              have qi187 : (5 < x12_3.length) = True := eq_true (by omega)
                                              (try rw [show ((5 : Int)).toNat = 5 from rfl] at hx187_0)
                                              replace p187 := eq_true p187
                                              replace q187 := eq_true q187
                                              have p188 : 0 ≤ (6 : Int) := (by omega)
                                              have q188 : 6 < (x12_3.length : Int) := of_decide_eq_true (by first | (with_reducible assumption) | assumption)
                                              obtain ⟨ad188, e188, hx188_0⟩ := Kd.at_int (Kd.R_reads' HO_12.out).2.2 6 p188 q188
                                              obtain rfl : ad157 = ad188 := (by injection e188)
                                              (try simp only [show (6 : Int).toNat = 6 from rfl, Nat.reduceMul, Nat.reduceEqDiff, Go.Addr.add, ↓reduceIte] at hx188_0)
                                              have qi188 : (6 < x12_3.length) = True := eq_true (by omega)
                                              (try rw [show ((6 : Int)).toNat = 6 from rfl] at hx188_0)
                                              replace p188 := eq_true p188
                                              replace q188 := eq_true q188
                                              refine start_ (n := 28) (S := fun w' => w'.cell? ad157 = some (.int .u32 (rd x12_3 0)) ∧ w'.cell? ⟨ad157.block, ad157.off + 1, none⟩ = some (.int .u32 (rd x12_3 1)) ∧ w'.cell? ⟨ad157.block, ad157.off + 2, none⟩ = some (.int .u32 (rd x12_3 2)) ∧ w'.cell? ⟨ad157.block, ad157.off + 3, none⟩ = some (.int .u32 (rd x12_3 3)) ∧ w'.cell? ⟨ad157.block, ad157.off + 4, none⟩ = some (.int .u32 (rd x12_3 4)) ∧ w'.cell? ⟨ad157.block, ad157.off + 5, none⟩ = some (.int .u32 (rd x12_3 5)) ∧ w'.cell? ⟨ad157.block, ad157.off + 6, none⟩ = some (.int .u32 (rd x12_3 6))) (ds := []) #[false, false, false, false, false, false, false, false, false, false, false, false, false, false, false, false, false, false, false, false, false, false, false, false, false, false, false, false] (by kernel_rfl) rfl rfl ⟨hx182_0, hx183_0, hx184_0, hx185_0, hx186_0, hx187_0, hx188_0⟩ (fun hHeld => ?_); refine with_tabW tikref2_block.tab17 tikref2_block.bits17 (fun HT_ HW_ => ?_)
                                              generalize w68.drew = w69 at HO_7 HO_12 HB hx182_0 hx183_0 hx184_0 hx185_0 hx186_0 hx187_0 hx188_0 hHeld ⊢
                                              refine pure_ (i := 0) (N := some 170) (v := ?_) (a' := ?_) #[true, false, false, false, false, false, false, false, false, false, false, false, false, false, false, false, false, false, false, false, false, false, false, false, false, false, false, false] rfl rfl (any_of HT_.out (by kernel_rfl)) (fun _ _ _ h => h) (Or.inl ⟨by rfl, ?_⟩) ?_ ?_
                                              rotate_left
                                              · intro w'
                                                go_simp
                                                with_reducible rfl
                                              rotate_left
                                              · simp only [Act.put, List.setIfInBounds_toArray, List.set_cons_zero, List.set_cons_succ, i64_w, i32_w]
                                                rfl
                                              refine pure_ (i := 1) (N := some 171) (v := ?_) (a' := ?_) #[true, true, false, false, false, false, false, false, false, false, false, false, false, false, false, false, false, false, false, false, false, false, false, false, false, false, false, false] rfl rfl (any_of HT_.out (by kernel_rfl)) (fun _ _ _ h => h) (Or.inl ⟨by rfl, ?_⟩) ?_ ?_
                                              rotate_left
                                              · intro w'
                                                go_simp
                                                with_reducible rfl
                                              rotate_left
                                              · simp only [Act.put, List.setIfInBounds_toArray, List.set_cons_zero, List.set_cons_succ, i64_w, i32_w]
                                                rfl
                                              refine pure_ (i := 2) (N := some 172) (v := ?_) (a' := ?_) #[true, true, true, false, false, false, false, false, false, false, false, false, false, false, false, false, false, false, false, false, false, false, false, false, false, false, false, false] rfl rfl (any_of HT_.out (by kernel_rfl)) (fun _ _ _ h => h) (Or.inl ⟨by rfl, ?_⟩) ?_ ?_
                                              rotate_left
                                              · intro w'
                                                go_simp
                                                with_reducible rfl
                                              rotate_left
                                              · simp only [Act.put, List.setIfInBounds_toArray, List.set_cons_zero, List.set_cons_succ, i64_w, i32_w]
                                                rfl
                                              refine pure_ (i := 3) (N := some 173) (v := ?_) (a' := ?_) #[true, true, true, true, false, false, false, false, false, false, false, false, false, false, false, false, false, false, false, false, false, false, false, false, false, false, false, false] rfl rfl (any_of HT_.out (by kernel_rfl)) (fun _ _ _ h => h) (Or.inl ⟨by rfl, ?_⟩) ?_ ?_
                                              rotate_left
                                              · intro w'
                                                go_simp
                                                with_reducible rfl
                                              rotate_left
                                              · simp only [Act.put, List.setIfInBounds_toArray, List.set_cons_zero, List.set_cons_succ, i64_w, i32_w]
                                                rfl
                                              refine pure_ (i := 4) (N := some 174) (v := ?_) (a' := ?_) #[true, true, true, true, true, false, false, false, false, false, false, false, false, false, false, false, false, false, false, false, false, false, false, false, false, false, false, false] rfl rfl (any_of HT_.out (by kernel_rfl)) (fun _ _ _ h => h) (Or.inl ⟨by rfl, ?_⟩) ?_ ?_
                                              rotate_left
                                              · intro w'
                                                go_simp
                                                with_reducible rfl
                                              rotate_left
                                              · simp only [Act.put, List.setIfInBounds_toArray, List.set_cons_zero, List.set_cons_succ, i64_w, i32_w]
                                                rfl
                                              refine pure_ (i := 6) (N := some 176) (v := ?_) (a' := ?_) #[true, true, true, true, true, false, true, false, false, false, false, false, false, false, false, false, false, false, false, false, false, false, false, false, false, false, false, false] rfl rfl (any_of HT_.out (by kernel_rfl)) (fun _ _ _ h => h) (Or.inl ⟨by rfl, ?_⟩) ?_ ?_
                                              rotate_left
                                              · intro w'
                                                go_simp
                                                with_reducible rfl
                                              rotate_left
                                              · simp only [Act.put, List.setIfInBounds_toArray, List.set_cons_zero, List.set_cons_succ, i64_w, i32_w]
                                                rfl
                                              refine pure_ (i := 7) (N := some 177) (v := ?_) (a' := ?_) #[true, true, true, true, true, false, true, true, false, false, false, false, false, false, false, false, false, false, false, false, false, false, false, false, false, false, false, false] rfl rfl (any_of HT_.out (by kernel_rfl)) (fun _ _ _ h => h) (Or.inl ⟨by rfl, ?_⟩) ?_ ?_
                                              rotate_left
                                              · intro w'
                                                go_simp
                                                with_reducible rfl
                                              rotate_left
                                              · simp only [Act.put, List.setIfInBounds_toArray, List.set_cons_zero, List.set_cons_succ, i64_w, i32_w]
                                                rfl
                                              refine pure_ (i := 9) (N := some 179) (v := ?_) (a' := ?_) #[true, true, true, true, true, false, true, true, false, true, false, false, false, false, false, false, false, false, false, false, false, false, false, false, false, false, false, false] rfl rfl (any_of HT_.out (by kernel_rfl)) (fun _ _ _ h => h) (Or.inl ⟨by rfl, ?_⟩) ?_ ?_
                                              rotate_left
                                              · intro w'
                                                go_simp
                                                with_reducible rfl
                                              rotate_left
                                              · simp only [Act.put, List.setIfInBounds_toArray, List.set_cons_zero, List.set_cons_succ, i64_w, i32_w]
                                                rfl
                                              refine pure_ (i := 10) (N := some 180) (v := ?_) (a' := ?_) #[true, true, true, true, true, false, true, true, false, true, true, false, false, false, false, false, false, false, false, false, false, false, false, false, false, false, false, false] rfl rfl (any_of HT_.out (by kernel_rfl)) (fun _ _ _ h => h) (Or.inl ⟨by rfl, ?_⟩) ?_ ?_
                                              rotate_left
                                              · intro w'
                                                go_simp
                                                with_reducible rfl
                                              rotate_left
                                              · simp only [Act.put, List.setIfInBounds_toArray, List.set_cons_zero, List.set_cons_succ, i64_w, i32_w]
                                                rfl
                                              refine pure_ (i := 12) (N := some 182) (v := ?_) (a' := ?_) #[true, true, true, true, true, false, true, true, false, true, true, false, true, false, false, false, false, false, false, false, false, false, false, false, false, false, false, false] rfl rfl (any_of HT_.out (by kernel_rfl)) (fun _ _ _ h => h) (Or.inl ⟨by rfl, ?_⟩) ?_ ?_
                                              rotate_left
                                              · intro w'
                                                go_simp
                                                with_reducible rfl
                                              rotate_left
                                              · simp only [Act.put, List.setIfInBounds_toArray, List.set_cons_zero, List.set_cons_succ, i64_w, i32_w]
                                                rfl
                                              refine pure_ (i := 13) (N := some 183) (v := ?_) (a' := ?_) #[true, true, true, true, true, false, true, true, false, true, true, false, true, true, false, false, false, false, false, false, false, false, false, false, false, false, false, false] rfl rfl (any_of HT_.out (by kernel_rfl)) (fun _ _ _ h => h) (Or.inl ⟨by rfl, ?_⟩) ?_ ?_
                                              rotate_left
                                              · intro w'
                                                go_simp
                                                with_reducible rfl
                                              rotate_left
                                              · simp only [Act.put, List.setIfInBounds_toArray, List.set_cons_zero, List.set_cons_succ, i64_w, i32_w]
                                                rfl
                                              refine pure_ (i := 15) (N := some 185) (v := ?_) (a' := ?_) #[true, true, true, true, true, false, true, true, false, true, true, false, true, true, false, true, false, false, false, false, false, false, false, false, false, false, false, false] rfl rfl (any_of HT_.out (by kernel_rfl)) (fun _ _ _ h => h) (Or.inl ⟨by rfl, ?_⟩) ?_ ?_
                                              rotate_left
                                              · intro w'
                                                go_simp
                                                with_reducible rfl
                                              rotate_left
                                              · simp only [Act.put, List.setIfInBounds_toArray, List.set_cons_zero, List.set_cons_succ, i64_w, i32_w]
                                                rfl
                                              refine pure_ (i := 17) (N := some 187) (v := ?_) (a' := ?_) #[true, true, true, true, true, false, true, true, false, true, true, false, true, true, false, true, false, true, false, false, false, false, false, false, false, false, false, false] rfl rfl (any_of HT_.out (by kernel_rfl)) (fun _ _ _ h => h) (Or.inl ⟨by rfl, ?_⟩) ?_ ?_
                                              rotate_left
                                              · intro w'
                                                go_simp
                                                with_reducible rfl
                                              rotate_left
                                              · simp only [Act.put, List.setIfInBounds_toArray, List.set_cons_zero, List.set_cons_succ, i64_w, i32_w]
                                                rfl
                                              refine pure_ (i := 18) (N := some 188) (v := ?_) (a' := ?_) #[true, true, true, true, true, false, true, true, false, true, true, false, true, true, false, true, false, true, true, false, false, false, false, false, false, false, false, false] rfl rfl (any_of HT_.out (by kernel_rfl)) (fun _ _ _ h => h) (Or.inl ⟨by rfl, ?_⟩) ?_ ?_
                                              rotate_left
                                              · intro w'
                                                go_simp
                                                with_reducible rfl
                                              rotate_left
                                              · simp only [Act.put, List.setIfInBounds_toArray, List.set_cons_zero, List.set_cons_succ, i64_w, i32_w]
                                                rfl
                                              refine pure_ (i := 20) (N := some 190) (v := ?_) (a' := ?_) #[true, true, true, true, true, false, true, true, false, true, true, false, true, true, false, true, false, true, true, false, true, false, false, false, false, false, false, false] rfl rfl (any_of HT_.out (by kernel_rfl)) (fun _ _ _ h => h) (Or.inl ⟨by rfl, ?_⟩) ?_ ?_
                                              rotate_left
                                              · intro w'
                                                go_simp
                                                with_reducible rfl
                                              rotate_left
                                              · simp only [Act.put, List.setIfInBounds_toArray, List.set_cons_zero, List.set_cons_succ, i64_w, i32_w]
                                                rfl
                                              refine pure_ (i := 21) (N := some 191) (v := ?_) (a' := ?_) #[true, true, true, true, true, false, true, true, false, true, true, false, true, true, false, true, false, true, true, false, true, true, false, false, false, false, false, false] rfl rfl (any_of HT_.out (by kernel_rfl)) (fun _ _ _ h => h) (Or.inl ⟨by rfl, ?_⟩) ?_ ?_
                                              rotate_left
                                              · intro w'
                                                go_simp
                                                with_reducible rfl
                                              rotate_left
                                              · simp only [Act.put, List.setIfInBounds_toArray, List.set_cons_zero, List.set_cons_succ, i64_w, i32_w]
                                                rfl
                                              refine pure_ (i := 23) (N := some 193) (v := ?_) (a' := ?_) #[true, true, true, true, true, false, true, true, false, true, true, false, true, true, false, true, false, true, true, false, true, true, false, true, false, false, false, false] rfl rfl (any_of HT_.out (by kernel_rfl)) (fun _ _ _ h => h) (Or.inl ⟨by rfl, ?_⟩) ?_ ?_
                                              rotate_left
                                              · intro w'
                                                go_simp
                                                with_reducible rfl
                                              rotate_left
                                              · simp only [Act.put, List.setIfInBounds_toArray, List.set_cons_zero, List.set_cons_succ, i64_w, i32_w]
                                                rfl
                                              refine pure_ (i := 24) (N := some 194) (v := ?_) (a' := ?_) #[true, true, true, true, true, false, true, true, false, true, true, false, true, true, false, true, false, true, true, false, true, true, false, true, true, false, false, false] rfl rfl (any_of HT_.out (by kernel_rfl)) (fun _ _ _ h => h) (Or.inl ⟨by rfl, ?_⟩) ?_ ?_
                                              rotate_left
                                              · intro w'
                                                go_simp
                                                with_reducible rfl
                                              rotate_left
                                              · simp only [Act.put, List.setIfInBounds_toArray, List.set_cons_zero, List.set_cons_succ, i64_w, i32_w]
                                                rfl
                                              refine take_ (i := 5) (N := some 175) (v := ?_) (a' := ?_) #[true, true, true, true, true, true, true, true, false, true, true, false, true, true, false, true, false, true, true, false, true, true, false, true, true, false, false, false] rfl rfl (take_ofW HT_.out HW_.out (by kernel_rfl)) (fun _ _ _ h => h) (Or.inl ⟨by rfl, ?_⟩) hHeld ?_ ?_
                                              rotate_left
                                              · rintro w' ⟨s0, s1, s2, s3, s4, s5, s6⟩
                                                go_simp
                                                with_reducible rfl
                                              rotate_left
                                              · simp only [Act.put, List.setIfInBounds_toArray, List.set_cons_zero, List.set_cons_succ, i64_w, i32_w]
                                                rfl
                                              refine take_ (i := 8) (N := some 178) (v := ?_) (a' := ?_) #[true, true, true, true, true, true, true, true, true, true, true, false, true, true, false, true, false, true, true, false, true, true, false, true, true, false, false, false] rfl rfl (take_ofW HT_.out HW_.out (by kernel_rfl)) (fun _ _ _ h => h) (Or.inl ⟨by rfl, ?_⟩) hHeld ?_ ?_
                                              rotate_left
                                              · rintro w' ⟨s0, s1, s2, s3, s4, s5, s6⟩
                                                go_simp
                                                with_reducible rfl
                                              rotate_left
                                              · simp only [Act.put, List.setIfInBounds_toArray, List.set_cons_zero, List.set_cons_succ, i64_w, i32_w]
                                                rfl
                                              refine take_ (i := 11) (N := some 181) (v := ?_) (a' := ?_) #[true, true, true, true, true, true, true, true, true, true, true, true, true, true, false, true, false, true, true, false, true, true, false, true, true, false, false, false] rfl rfl (take_ofW HT_.out HW_.out (by kernel_rfl)) (fun _ _ _ h => h) (Or.inl ⟨by rfl, ?_⟩) hHeld ?_ ?_
                                              rotate_left
                                              · rintro w' ⟨s0, s1, s2, s3, s4, s5, s6⟩
                                                go_simp
                                                with_reducible rfl
                                              rotate_left
                                              · simp only [Act.put, List.setIfInBounds_toArray, List.set_cons_zero, List.set_cons_succ, i64_w, i32_w]
                                                rfl
                                              refine take_ (i := 14) (N := some 184) (v := ?_) (a' := ?_) #[true, true, true, true, true, true, true, true, true, true, true, true, true, true, true, true, false, true, true, false, true, true, false, true, true, false, false, false] rfl rfl (take_ofW HT_.out HW_.out (by kernel_rfl)) (fun _ _ _ h => h) (Or.inl ⟨by rfl, ?_⟩) hHeld ?_ ?_
                                              rotate_left
                                              · rintro w' ⟨s0, s1, s2, s3, s4, s5, s6⟩
                                                go_simp
                                                with_reducible rfl
                                              rotate_left
                                              · simp only [Act.put, List.setIfInBounds_toArray, List.set_cons_zero, List.set_cons_succ, i64_w, i32_w]
                                                rfl
                                              refine pure_ (i := 16) (N := some 186) (v := ?_) (a' := ?_) #[true, true, true, true, true, true, true, true, true, true, true, true, true, true, true, true, true, true, true, false, true, true, false, true, true, false, false, false] rfl rfl (any_of HT_.out (by kernel_rfl)) (fun _ _ _ h => h) (Or.inl ⟨by rfl, ?_⟩) ?_ ?_
                                              rotate_left
                                              · intro w'
                                                go_simp
                                                with_reducible rfl
                                              rotate_left
                                              · simp only [Act.put, List.setIfInBounds_toArray, List.set_cons_zero, List.set_cons_succ, i64_w, i32_w]
                                                rfl
                                              refine take_ (i := 19) (N := some 189) (v := ?_) (a' := ?_) #[true, true, true, true, true, true, true, true, true, true, true, true, true, true, true, true, true, true, true, true, true, true, false, true, true, false, false, false] rfl rfl (take_ofW HT_.out HW_.out (by kernel_rfl)) (fun _ _ _ h => h) (Or.inl ⟨by rfl, ?_⟩) hHeld ?_ ?_
                                              rotate_left
                                              · rintro w' ⟨s0, s1, s2, s3, s4, s5, s6⟩
                                                go_simp
                                                with_reducible rfl
                                              rotate_left
                                              · simp only [Act.put, List.setIfInBounds_toArray, List.set_cons_zero, List.set_cons_succ, i64_w, i32_w]
                                                rfl
                                              refine take_ (i := 22) (N := some 192) (v := ?_) (a' := ?_) #[true, true, true, true, true, true, true, true, true, true, true, true, true, true, true, true, true, true, true, true, true, true, true, true, true, false, false, false] rfl rfl (take_ofW HT_.out HW_.out (by kernel_rfl)) (fun _ _ _ h => h) (Or.inl ⟨by rfl, ?_⟩) hHeld ?_ ?_
                                              rotate_left
                                              · rintro w' ⟨s0, s1, s2, s3, s4, s5, s6⟩
                                                go_simp
                                                with_reducible rfl
                                              rotate_left
                                              · simp only [Act.put, List.setIfInBounds_toArray, List.set_cons_zero, List.set_cons_succ, i64_w, i32_w]
                                                rfl
                                              refine take_ (i := 25) (N := some 195) (v := ?_) (a' := ?_) #[true, true, true, true, true, true, true, true, true, true, true, true, true, true, true, true, true, true, true, true, true, true, true, true, true, true, false, false] rfl rfl (take_ofW HT_.out HW_.out (by kernel_rfl)) (fun _ _ _ h => h) (Or.inl ⟨by rfl, ?_⟩) hHeld ?_ ?_
                                              rotate_left
                                              · rintro w' ⟨s0, s1, s2, s3, s4, s5, s6⟩
                                                go_simp
                                                with_reducible rfl
                                              rotate_left
                                              · simp only [Act.put, List.setIfInBounds_toArray, List.set_cons_zero, List.set_cons_succ, i64_w, i32_w]
                                                rfl
                                              refine one_ (i := 26) (N := some 196) #[true, true, true, true, true, true, true, true, true, true, true, true, true, true, true, true, true, true, true, true, true, true, true, true, true, true, true, false] rfl rfl (one_of HT_.out (by kernel_rfl)) (by decide) (fun K hK => ?_)
                                              refine Kd.R_lit_step (Kd.int .u32) _ 83 ?hg (N := 196) ?hd (xs := ([((((((((((rd x12_3 7) + (Go.bits .xor .u32 (Go.bits .xor .u32 t159 t161) t163)) % 4294967296) + (Go.bits .xor .u32 (Go.bits .and .u32 (rd x12_3 4) (rd x12_3 5)) (Go.bits .and .u32 (Go.bits .xor .u32 4294967295 (rd x12_3 4)) (rd x12_3 6)))) % 4294967296) + (rd l1 x13_3)) % 4294967296) + (rd x7_2 x13_3)) % 4294967296) + (((Go.bits .xor .u32 (Go.bits .xor .u32 t171 t173) t175) + (Go.bits .xor .u32 (Go.bits .xor .u32 (Go.bits .and .u32 (rd x12_3 0) (rd x12_3 1)) (Go.bits .and .u32 (rd x12_3 0) (rd x12_3 2))) (Go.bits .and .u32 (rd x12_3 1) (rd x12_3 2)))) % 4294967296)) % 4294967296, rd x12_3 0, rd x12_3 1, rd x12_3 2, ((rd x12_3 3) + (((((((((rd x12_3 7) + (Go.bits .xor .u32 (Go.bits .xor .u32 t159 t161) t163)) % 4294967296) + (Go.bits .xor .u32 (Go.bits .and .u32 (rd x12_3 4) (rd x12_3 5)) (Go.bits .and .u32 (Go.bits .xor .u32 4294967295 (rd x12_3 4)) (rd x12_3 6)))) % 4294967296) + (rd l1 x13_3)) % 4294967296) + (rd x7_2 x13_3)) % 4294967296)) % 4294967296, rd x12_3 4, rd x12_3 5, rd x12_3 6] : List Int)) (inner := [.int .u32 (((((((((((rd x12_3 7) + (Go.bits .xor .u32 (Go.bits .xor .u32 t159 t161) t163)) % 4294967296) + (Go.bits .xor .u32 (Go.bits .and .u32 (rd x12_3 4) (rd x12_3 5)) (Go.bits .and .u32 (Go.bits .xor .u32 4294967295 (rd x12_3 4)) (rd x12_3 6)))) % 4294967296) + (rd l1 x13_3)) % 4294967296) + (rd x7_2 x13_3)) % 4294967296) + (((Go.bits .xor .u32 (Go.bits .xor .u32 t171 t173) t175) + (Go.bits .xor .u32 (Go.bits .xor .u32 (Go.bits .and .u32 (rd x12_3 0) (rd x12_3 1)) (Go.bits .and .u32 (rd x12_3 0) (rd x12_3 2))) (Go.bits .and .u32 (rd x12_3 1) (rd x12_3 2)))) % 4294967296)) % 4294967296), .int .u32 (rd x12_3 0), .int .u32 (rd x12_3 1), .int .u32 (rd x12_3 2), .int .u32 (((rd x12_3 3) + (((((((((rd x12_3 7) + (Go.bits .xor .u32 (Go.bits .xor .u32 t159 t161) t163)) % 4294967296) + (Go.bits .xor .u32 (Go.bits .and .u32 (rd x12_3 4) (rd x12_3 5)) (Go.bits .and .u32 (Go.bits .xor .u32 4294967295 (rd x12_3 4)) (rd x12_3 6)))) % 4294967296) + (rd l1 x13_3)) % 4294967296) + (rd x7_2 x13_3)) % 4294967296)) % 4294967296), .int .u32 (rd x12_3 4), .int .u32 (rd x12_3 5), .int .u32 (rd x12_3 6)]) (ok := fun _ => True) (okp := fun _ => True) ?hr ?hp (fun _ hk => hk) trivial (Below.refl _ _) (Nat.le_refl _) (by simp) ?_; (case hd => rfl); (case hg => rfl); (case hr => first | (go_simp; done) | (go_simp; rfl) | (go_simp; simp [IntKind.wrap_u32, show IntKind.u32.max = 4294967295 from rfl]; done)); (case hp => exact (Reps.one (show Kd.M (Kd.int .u32) _ _ _ (((((((((((rd x12_3 7) + (Go.bits .xor .u32 (Go.bits .xor .u32 t159 t161) t163)) % 4294967296) + (Go.bits .xor .u32 (Go.bits .and .u32 (rd x12_3 4) (rd x12_3 5)) (Go.bits .and .u32 (Go.bits .xor .u32 4294967295 (rd x12_3 4)) (rd x12_3 6)))) % 4294967296) + (rd l1 x13_3)) % 4294967296) + (rd x7_2 x13_3)) % 4294967296) + (((Go.bits .xor .u32 (Go.bits .xor .u32 t171 t173) t175) + (Go.bits .xor .u32 (Go.bits .xor .u32 (Go.bits .and .u32 (rd x12_3 0) (rd x12_3 1)) (Go.bits .and .u32 (rd x12_3 0) (rd x12_3 2))) (Go.bits .and .u32 (rd x12_3 1) (rd x12_3 2)))) % 4294967296)) % 4294967296) [.int .u32 (((((((((((rd x12_3 7) + (Go.bits .xor .u32 (Go.bits .xor .u32 t159 t161) t163)) % 4294967296) + (Go.bits .xor .u32 (Go.bits .and .u32 (rd x12_3 4) (rd x12_3 5)) (Go.bits .and .u32 (Go.bits .xor .u32 4294967295 (rd x12_3 4)) (rd x12_3 6)))) % 4294967296) + (rd l1 x13_3)) % 4294967296) + (rd x7_2 x13_3)) % 4294967296) + (((Go.bits .xor .u32 (Go.bits .xor .u32 t171 t173) t175) + (Go.bits .xor .u32 (Go.bits .xor .u32 (Go.bits .and .u32 (rd x12_3 0) (rd x12_3 1)) (Go.bits .and .u32 (rd x12_3 0) (rd x12_3 2))) (Go.bits .and .u32 (rd x12_3 1) (rd x12_3 2)))) % 4294967296)) % 4294967296)] from rfl) (Reps.one (show Kd.M (Kd.int .u32) _ _ _ (rd x12_3 0) [.int .u32 (rd x12_3 0)] from rfl) (Reps.one (show Kd.M (Kd.int .u32) _ _ _ (rd x12_3 1) [.int .u32 (rd x12_3 1)] from rfl) (Reps.one (show Kd.M (Kd.int .u32) _ _ _ (rd x12_3 2) [.int .u32 (rd x12_3 2)] from rfl) (Reps.one (show Kd.M (Kd.int .u32) _ _ _ (((rd x12_3 3) + (((((((((rd x12_3 7) + (Go.bits .xor .u32 (Go.bits .xor .u32 t159 t161) t163)) % 4294967296) + (Go.bits .xor .u32 (Go.bits .and .u32 (rd x12_3 4) (rd x12_3 5)) (Go.bits .and .u32 (Go.bits .xor .u32 4294967295 (rd x12_3 4)) (rd x12_3 6)))) % 4294967296) + (rd l1 x13_3)) % 4294967296) + (rd x7_2 x13_3)) % 4294967296)) % 4294967296) [.int .u32 (((rd x12_3 3) + (((((((((rd x12_3 7) + (Go.bits .xor .u32 (Go.bits .xor .u32 t159 t161) t163)) % 4294967296) + (Go.bits .xor .u32 (Go.bits .and .u32 (rd x12_3 4) (rd x12_3 5)) (Go.bits .and .u32 (Go.bits .xor .u32 4294967295 (rd x12_3 4)) (rd x12_3 6)))) % 4294967296) + (rd l1 x13_3)) % 4294967296) + (rd x7_2 x13_3)) % 4294967296)) % 4294967296)] from rfl) (Reps.one (show Kd.M (Kd.int .u32) _ _ _ (rd x12_3 4) [.int .u32 (rd x12_3 4)] from rfl) (Reps.one (show Kd.M (Kd.int .u32) _ _ _ (rd x12_3 5) [.int .u32 (rd x12_3 5)] from rfl) (Reps.one (show Kd.M (Kd.int .u32) _ _ _ (rd x12_3 6) [.int .u32 (rd x12_3 6)] from rfl) (Reps.none _ _))))))))))
                                              intro v190 w70 ho71 hb hg_ hnew_
                                              have HS0_ := (hb.cell (World.block_lt_of_cell? _ _ (hHeld.1))).trans (hHeld.1)
                                              have HS1_ := (hb.cell (World.block_lt_of_cell? _ _ (hHeld.2.1))).trans (hHeld.2.1)
                                              have HS2_ := (hb.cell (World.block_lt_of_cell? _ _ (hHeld.2.2.1))).trans (hHeld.2.2.1)
                                              have HS3_ := (hb.cell (World.block_lt_of_cell? _ _ (hHeld.2.2.2.1))).trans (hHeld.2.2.2.1)
                                              have HS4_ := (hb.cell (World.block_lt_of_cell? _ _ (hHeld.2.2.2.2.1))).trans (hHeld.2.2.2.2.1)
                                              have HS5_ := (hb.cell (World.block_lt_of_cell? _ _ (hHeld.2.2.2.2.2.1))).trans (hHeld.2.2.2.2.2.1)
                                              have HS6_ := (hb.cell (World.block_lt_of_cell? _ _ (hHeld.2.2.2.2.2.2))).trans (hHeld.2.2.2.2.2.2)
                                              clear hg_ hnew_
                                              (first | rw [← Ny189.out] at ho71 | (simp only [Int.reduceToNat] at ho71; rw [← Ny189.out] at ho71))
                                              have n0_ := Aside0.mk (Kd.R_elder' (by (with_reducible repeat (first | apply Kd.R_alloc | apply Kd.R_drewN | apply Kd.R_drew)); exact HO_7.out) (Kd.R_base ho71) hb)
                                              have n1_ := Aside0.mk (Kd.R_elder' (by (with_reducible repeat (first | apply Kd.R_alloc | apply Kd.R_drewN | apply Kd.R_drew)); exact HO_12.out) (Kd.R_base ho71) hb)
                                              have n2_ := Aside0.mk (Kd.R_lower (Kd.R_new' (Kd.R_new' ho71 (Kd.R_lt (by (with_reducible repeat (first | apply Kd.R_alloc | apply Kd.R_drewN | apply Kd.R_drew)); exact HO_7.out))) (Kd.R_lt (by (with_reducible repeat (first | apply Kd.R_alloc | apply Kd.R_drewN | apply Kd.R_drew)); exact HO_12.out))) (below_size (by repeat (first | (with_reducible first | exact HB.out | apply below_alloc | apply pw_below_drewN | apply below_drew1) | exact HB.out))))
                                              have n3_ := Aside0.mk (below_step (by repeat (first | (with_reducible first | exact HB.out | apply below_alloc | apply pw_below_drewN | apply below_drew1) | exact HB.out)) hb)
                                              clear HO_7
                                              clear HO_12
                                              clear HB
                                              have HO_7 := n0_
                                              have HO_12 := n1_
                                              have HO191 := n2_
                                              have HB := n3_
                                              clear n0_ n1_ n2_ n3_
                                              clear hb ho71
                                              refine hK.out _ _ ⟨HS0_, HS1_, HS2_, HS3_, HS4_, HS5_, HS6_⟩ (fun hHeld => ?_)
                                              clear hK K
                                              refine norm_ (a' := ?_) ?_ ?_
                                              rotate_left
                                              · show Act.put _ (some 196) _ = _
                                                simp only [Act.put, List.setIfInBounds_toArray, List.set_cons_zero, List.set_cons_succ, i64_w, i32_w]
                                                rfl
                                              refine pure_ (i := 27) (N := some 12) (v := ?_) (a' := ?_) #[true, true, true, true, true, true, true, true, true, true, true, true, true, true, true, true, true, true, true, true, true, true, true, true, true, true, true, true] rfl rfl (any_of HT_.out (by kernel_rfl)) (fun _ _ _ h => h) (Or.inl ⟨by rfl, ?_⟩) ?_ ?_
                                              rotate_left
                                              · intro w'
                                                go_simp
                                                with_reducible rfl
                                              rotate_left
                                              · simp only [Act.put, List.setIfInBounds_toArray, List.set_cons_zero, List.set_cons_succ, i64_w, i32_w]
                                                rfl
                                              refine done_ (done_of HT_.out (by kernel_rfl)) ?_
                                              try go_wp2
                                              go_roundg k3
                                              case measure => have := HK1.out; have := HK2.out; have := HK3.out; omega
                                              case rel => exact ⟨(y189), (wrap64 (x13_3 + 1)), (by first | rfl | (simp; done) | (simp [*]; done)), H', ⟨by have := HK1.out; have := HK2.out; have := HK3.out; omega⟩, ⟨by (with_reducible repeat (first | apply Kd.R_alloc | apply Kd.R_drewN | apply Kd.R_drew)); exact Kd.R_mono HO_7.out (fun _ hk => hk.2)⟩, ⟨by (with_reducible repeat (first | apply Kd.R_alloc | apply Kd.R_drewN | apply Kd.R_drew)); exact Kd.R_mono HO191.out (fun _ hk => hk.1.2)⟩, ⟨by repeat (first | (with_reducible first | exact HB.out | apply below_alloc | apply pw_below_drewN | apply below_drew1) | exact HB.out)⟩⟩
                                            · rw [if_neg c64] at H
                                              exact absurd H (by simp)
                                          · rw [if_neg c63] at H
                                            exact absurd H (by simp)
                                        · rw [if_neg c62] at H
                                          exact absurd H (by simp)
                                      · rw [if_neg c58] at H
                                        exact absurd H (by simp)
                                    · rw [if_neg c57] at H
                                      exact absurd H (by simp)
                                  · rw [if_neg c56] at H
                                    exact absurd H (by simp)
                                · rw [if_neg c55] at H
                                  exact absurd H (by simp)
                              · rw [if_neg c54] at H
                                exact absurd H (by simp)
                            · rw [if_neg c53] at H
                              exact absurd H (by simp)
                          · rw [if_neg c49] at H
                            exact absurd H (by simp)
                        · rw [if_neg c48] at H
                          exact absurd H (by simp)
                      · rw [if_neg c47] at H
                        have c47b0 : decide (x13_3 < 64) = false := decide_eq_false c47
                        clear c47
                        have H' := Aside0.mk H
                        clear H
                        go_wp2
                        go_loopg [16] k3 (fun kq v16 w' => ∃ (x12_4 : List Int) (x16_4 : Int), v16 = .int .i64 x16_4 ∧ Aside0 (tikref2_block.l3 kq l0 x12_4 x16_4 = some r) ∧ Aside0 (kq ≤ k3) ∧ Aside0 (Kd.R (Kd.int .u32) 83 w' w.heap.size (fun _ => True) u12 x12_4) ∧ Aside0 (Below w.heap.size w w'))
                        case atStart => exact ⟨(x12_3), (0), (by first | rfl | (simp; done) | (simp [*]; done)), H', ⟨Nat.le_refl _⟩, ⟨by (with_reducible repeat (first | apply Kd.R_alloc | apply Kd.R_drewN | apply Kd.R_drew)); exact Kd.R_mono HO_12.out (fun _ hk => trivial)⟩, ⟨by repeat (first | (with_reducible first | exact HB.out | apply below_alloc | apply pw_below_drewN | apply below_drew1) | exact HB.out)⟩⟩
                        case round =>
                          clear H'
                          try clear p1
                          try clear q1
                          try clear hx1
                          try clear qi1
                          try clear p2
                          try clear c4
                          try clear c5
                          try clear c6
                          try clear p6
                          try clear p18
                          try clear q18
                          try clear hx18
                          try clear qi18
                          try clear c47
                          try clear c47b0
                          try clear c48
                          try clear c49
                          try clear c53
                          try clear c54
                          try clear c55
                          try clear c56
                          try clear c57
                          try clear c58
                          try clear c62
                          try clear c63
                          try clear c64
                          try clear p64
                          try clear hx182_0
                          try clear hx183_0
                          try clear hx184_0
                          try clear hx185_0
                          try clear hx186_0
                          try clear hx187_0
                          try clear hx188_0
                          try clear p182
                          try clear p183
                          try clear p184
                          try clear p185
                          try clear p186
                          try clear p187
                          try clear p188
                          try clear q182
                          try clear q183
                          try clear q184
                          try clear q185
                          try clear q186
                          try clear q187
                          try clear q188
                          obtain ⟨x12_4, x16_4, rfl, HA, HK4, HO_12, HB⟩ := hrel
                          cases gk with
                          | zero => exact absurd HA.out (by simp [tikref2_block.l3])
                          | succ k4 =>
                            have H := HA.out
                            clear HA
                            simp only [tikref2_block.l3] at H
                            by_cases c72 : x16_4 < 8
                            · rw [if_pos c72] at H
                              have c72b0 : decide (x16_4 < 8) = true := decide_eq_true c72
                              clear c72
                              by_cases c73 : 0 ≤ x16_4
                              · rw [if_pos c73] at H
                                have c73b0 : decide (0 ≤ x16_4) = true := decide_eq_true c73
                                clear c73
                                by_cases c74 : x16_4 < (x12_4.length : Int)
                                · rw [if_pos c74] at H
                                  have c74b0 : decide (x16_4 < (x12_4.length : Int)) = true := decide_eq_true c74
                                  clear c74
                                  by_cases c75 : x16_4 < (l0.length : Int)
                                  · rw [if_pos c75] at H
                                    have c75b0 : decide (x16_4 < (l0.length : Int)) = true := decide_eq_true c75
                                    clear c75
                                    obtain ⟨y194, hy194⟩ : ∃ y_ : List Int, y_ = (x12_4.set (x16_4 : Int).toNat (((rd x12_4 x16_4) + (rd l0 x16_4)) % 4294967296)) := ⟨_, rfl⟩
                                    replace H : (tikref2_block.l3 k4 l0 y194 (wrap64 (x16_4 + 1))) = some r := by first | (rw [hy194]; with_reducible exact H) | (have H2_ := (Option.bind_some _ _).symm.trans H; rw [hy194]; with_reducible exact H2_) | (have H2_ := (Option.bind_some _ _).symm.trans H; with_reducible exact H2_) | with_reducible exact H | (rw [hy194]; exact H) | exact H
                                    have Ny194 := Aside0.mk hy194
                                    clear hy194
                                    have H' := Aside0.mk H
                                    clear H
                                    try go_wp2
                                    have n0_ := Aside0.mk (Kd.R_drew HO_12.out)
                                    have n1_ := Aside0.mk (below_drew1 HB.out)
                                    clear HO_12
                                    clear HB
                                    have HO_12 := n0_
                                    have HB := n1_
                                    clear n0_ n1_
                                    obtain ⟨Ao78, co78, eo78⟩ := Kd.R_slice HO_12.out
                                    (first | subst eo78 | (injection eo78 with f1_ f2_ f3_; have f4_ := f1_.symm; have f5_ := f3_.symm; clear f1_ f2_ f3_; subst f4_; subst f5_))
                                    have p192 : 0 ≤ (x16_4 : Int) := of_decide_eq_true (by first | (with_reducible assumption) | assumption)
                                    have q192 : x16_4 < (x12_4.length : Int) := of_decide_eq_true (by first | (with_reducible assumption) | assumption)
                                    obtain ⟨ad192, e192, hx192_0⟩ := Kd.at_int (Kd.R_reads' HO_12.out).2.2 x16_4 p192 q192
                                    cases e192
                                    replace p192 := eq_true p192
                                    replace q192 := eq_true q192
                                    have p193 : 0 ≤ (x16_4 : Int) := of_decide_eq_true (by first | (with_reducible assumption) | assumption)
                                    have q193 : x16_4 < (l0.length : Int) := of_decide_eq_true (by first | (with_reducible assumption) | assumption)
                                    obtain ⟨ad193, e193, hx193_0⟩ := Kd.at_int HR0.out x16_4 p193 q193
                                    have hw193_0 := hx193_0
                                    cases e193
                                    replace hx193_0 := (HB.out.cell (World.block_lt_of_cell? w _ hx193_0)).trans hx193_0
                                    replace p193 := eq_true p193
                                    replace q193 := eq_true q193
                                    have p76 : 0 ≤ (x16_4 : Int) := of_decide_eq_true (by first | (with_reducible assumption) | assumption)
                                    have q76 : (x16_4 : Int) < ((x12_4.length : Int) : Int) := of_decide_eq_true (by first | (with_reducible assumption) | assumption)
                                    obtain ⟨go76, co76, eo76, gb76, gl76, cl76, HG76⟩ := Kd.R_form HO_12.out (by omega)
                                    (first | cases eo76 | (injection eo76 with ea_ en_ ec_; (first | subst ea_ | (injection ea_ with ea_; subst ea_)); subst ec_; clear en_))
                                    have GB76 := Aside0.mk gb76
                                    have GG76 := Aside0.mk HG76
                                    clear gb76 gl76 HG76
                                    (first | simp only [add_plain] at hx192_0 | skip)
                                    obtain ⟨hx76_0, hf76_0⟩ := Kd.R_celln 0 HO_12.out (x16_4 : Int) p76 q76
                                    replace p76 := eq_true p76
                                    replace q76 := eq_true q76
                                    have HP79 := Kd.R_putn HO_12.out (x16_4 : Int) (((rd x12_4 x16_4) + (rd l0 x16_4)) % 4294967296)
                                    rw [← Ny194.out] at HP79
                                    have HQ79 := Aside0.mk HP79
                                    clear HP79
                                    refine start_ (n := 11) (S := fun w' => w'.cell? ⟨go76, (x16_4).toNat, none⟩ = some (.int .u32 (rd x12_4 x16_4)) ∧ w'.cell? (ad193.add (x16_4).toNat) = some (.int .u32 (rd l0 x16_4))) (ds := [10]) #[false, false, false, false, false, false, false, false, false, false, false] (by kernel_rfl) rfl rfl ⟨hx192_0, ((HB.out.cell (World.block_lt_of_cell? w _ hw193_0)).trans hw193_0)⟩ (fun hHeld => ?_); refine with_tabW tikref2_block.tab21 tikref2_block.bits21 (fun HT_ HW_ => ?_)
                                    generalize wr.drew = w77 at HO_12 HB GG76 HQ79 hf76_0 hx192_0 hx193_0 hx76_0 hHeld ⊢
                                    refine pure_ (i := 0) (N := some 201) (v := ?_) (a' := ?_) #[true, false, false, false, false, false, false, false, false, false, false] rfl rfl (any_of HT_.out (by kernel_rfl)) (fun _ _ _ h => h) (Or.inl ⟨by rfl, ?_⟩) ?_ ?_
                                    rotate_left
                                    · intro w'
                                      go_simp
                                      with_reducible rfl
                                    rotate_left
                                    · simp only [Act.put, List.setIfInBounds_toArray, List.set_cons_zero, List.set_cons_succ, i64_w, i32_w]
                                      rfl
                                    refine pure_ (i := 1) (N := some 202) (v := ?_) (a' := ?_) #[true, true, false, false, false, false, false, false, false, false, false] rfl rfl (any_of HT_.out (by kernel_rfl)) (fun _ _ _ h => h) (Or.inl ⟨by rfl, ?_⟩) ?_ ?_
                                    rotate_left
                                    · intro w'
                                      go_simp
                                      with_reducible rfl
                                    rotate_left
                                    · simp only [Act.put, List.setIfInBounds_toArray, List.set_cons_zero, List.set_cons_succ, i64_w, i32_w]
                                      rfl
                                    refine pure_ (i := 2) (N := some 203) (v := ?_) (a' := ?_) #[true, true, true, false, false, false, false, false, false, false, false] rfl rfl (any_of HT_.out (by kernel_rfl)) (fun _ _ _ h => h) (Or.inl ⟨by rfl, ?_⟩) ?_ ?_
                                    rotate_left
                                    · intro w'
                                      go_simp
                                      with_reducible rfl
                                    rotate_left
                                    · simp only [Act.put, List.setIfInBounds_toArray, List.set_cons_zero, List.set_cons_succ, i64_w, i32_w]
                                      rfl
                                    refine pure_ (i := 4) (N := some 205) (v := ?_) (a' := ?_) #[true, true, true, false, true, false, false, false, false, false, false] rfl rfl (any_of HT_.out (by kernel_rfl)) (fun _ _ _ h => h) (Or.inl ⟨by rfl, ?_⟩) ?_ ?_
                                    rotate_left
                                    · intro w'
                                      go_simp
                                      with_reducible rfl
                                    rotate_left
                                    · simp only [Act.put, List.setIfInBounds_toArray, List.set_cons_zero, List.set_cons_succ, i64_w, i32_w]
                                      rfl
                                    refine pure_ (i := 5) (N := some 206) (v := ?_) (a' := ?_) #[true, true, true, false, true, true, false, false, false, false, false] rfl rfl (any_of HT_.out (by kernel_rfl)) (fun _ _ _ h => h) (Or.inl ⟨by rfl, ?_⟩) ?_ ?_
                                    rotate_left
                                    · intro w'
                                      go_simp
                                      with_reducible rfl
                                    rotate_left
                                    · simp only [Act.put, List.setIfInBounds_toArray, List.set_cons_zero, List.set_cons_succ, i64_w, i32_w]
                                      rfl
                                    refine pure_ (i := 6) (N := some 207) (v := ?_) (a' := ?_) #[true, true, true, false, true, true, true, false, false, false, false] rfl rfl (any_of HT_.out (by kernel_rfl)) (fun _ _ _ h => h) (Or.inl ⟨by rfl, ?_⟩) ?_ ?_
                                    rotate_left
                                    · intro w'
                                      go_simp
                                      with_reducible rfl
                                    rotate_left
                                    · simp only [Act.put, List.setIfInBounds_toArray, List.set_cons_zero, List.set_cons_succ, i64_w, i32_w]
                                      rfl
                                    refine take_ (i := 3) (N := some 204) (v := ?_) (a' := ?_) #[true, true, true, true, true, true, true, false, false, false, false] rfl rfl (take_ofW HT_.out HW_.out (by kernel_rfl)) (fun _ _ _ h => h) (Or.inl ⟨by rfl, ?_⟩) hHeld ?_ ?_
                                    rotate_left
                                    · rintro w' ⟨s0, s1⟩
                                      go_simp
                                      with_reducible rfl
                                    rotate_left
                                    · simp only [Act.put, List.setIfInBounds_toArray, List.set_cons_zero, List.set_cons_succ, i64_w, i32_w]
                                      rfl
                                    refine take_ (i := 7) (N := some 208) (v := ?_) (a' := ?_) #[true, true, true, true, true, true, true, true, false, false, false] rfl rfl (take_ofW HT_.out HW_.out (by kernel_rfl)) (fun _ _ _ h => h) (Or.inl ⟨by rfl, ?_⟩) hHeld ?_ ?_
                                    rotate_left
                                    · rintro w' ⟨s0, s1⟩
                                      go_simp
                                      with_reducible rfl
                                    rotate_left
                                    · simp only [Act.put, List.setIfInBounds_toArray, List.set_cons_zero, List.set_cons_succ, i64_w, i32_w]
                                      rfl
                                    refine pure_ (i := 8) (N := some 209) (v := ?_) (a' := ?_) #[true, true, true, true, true, true, true, true, true, false, false] rfl rfl (any_of HT_.out (by kernel_rfl)) (fun _ _ _ h => h) (Or.inl ⟨by rfl, ?_⟩) ?_ ?_
                                    rotate_left
                                    · intro w'
                                      go_simp
                                      with_reducible rfl
                                    rotate_left
                                    · simp only [Act.put, List.setIfInBounds_toArray, List.set_cons_zero, List.set_cons_succ, i64_w, i32_w]
                                      rfl
                                    refine pure_ (i := 9) (N := some 210) (v := ?_) (a' := ?_) #[true, true, true, true, true, true, true, true, true, true, false] rfl rfl (any_of HT_.out (by kernel_rfl)) (fun _ _ _ h => h) (Or.inl ⟨by rfl, ?_⟩) ?_ ?_
                                    rotate_left
                                    · intro w'
                                      go_simp
                                      with_reducible rfl
                                    rotate_left
                                    · simp only [Act.put, List.setIfInBounds_toArray, List.set_cons_zero, List.set_cons_succ, i64_w, i32_w]
                                      rfl
                                    refine last_ (i := 10) (N := none) #[true, true, true, true, true, true, true, true, true, true, true] rfl rfl (one_of HT_.out (by kernel_rfl)) (by decide) (fun K hK => ?_)
                                    refine skip_ (w1 := ?_) (by rfl) rfl ?_ ?_
                                    rotate_left
                                    · go_simp
                                      rfl
                                    refine hK.out _ _ ?_
                                    clear hK K
                                    refine done_ (done_of HT_.out (by kernel_rfl)) ?_
                                    try go_wp2
                                    go_roundg k4
                                    case measure => have := HK1.out; have := HK2.out; have := HK3.out; have := HK4.out; omega
                                    case rel => exact ⟨(y194), (wrap64 (x16_4 + 1)), (by first | rfl | (simp; done) | (simp [*]; done)), H', ⟨by have := HK1.out; have := HK2.out; have := HK3.out; have := HK4.out; omega⟩, ⟨by (with_reducible repeat (first | apply Kd.R_alloc | apply Kd.R_drewN | apply Kd.R_drew)); (first | exact HQ79.out | (have hz_ := HQ79.out; simp only [Int.emod_add_emod, Int.add_emod_emod, IntKind.wrap_u32] at hz_ ⊢; exact hz_))⟩, ⟨by repeat (first | (with_reducible first | exact HB.out | apply below_alloc | apply pw_below_drewN | apply below_drew1 | refine below_set ?_ GB76.out) | exact HB.out)⟩⟩
                                  · rw [if_neg c75] at H
                                    exact absurd H (by simp)
                                · rw [if_neg c74] at H
                                  exact absurd H (by simp)
                              · rw [if_neg c73] at H
                                exact absurd H (by simp)
                            · rw [if_neg c72] at H
                              have c72b0 : decide (x16_4 < 8) = false := decide_eq_false c72
                              clear c72
                              obtain rfl := Option.some.inj H
                              go_wp2
                              go_ret
                              exact ⟨_, by first | rfl | (simp [errW_none, errW_some] <;> rfl) | (simp [*, errW_none, errW_some] <;> rfl), by (with_reducible repeat (first | apply Kd.R_alloc | apply Kd.R_drewN | apply Kd.R_drew)); exact HO_12.out, by repeat (first | (with_reducible first | exact HB.out | apply below_alloc | apply pw_below_drewN | apply below_drew1) | exact HB.out)⟩
                · rw [if_neg c43] at H
                  exact absurd H (by simp)
  · rw [if_neg c4] at H
    exact absurd H (by simp)

end Go.Proofs.YtpimhoaeiafahaaDoor.A
