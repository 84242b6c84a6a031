/- The printed walk of judge.Fits (PJudgeSessionx2), mended by hand in two places: a bool that is cut over is given a letter; a limb that simp left. -/
import Derived.Test.YtojgiaemgpnfdaaPJudgeSessionx0
import Derived.Test.YtojgiaemgpnfdaaPJudgeSessionx1
namespace Go.Proofs.Ytojgiaemgpnfdaa.PJudgeSession
open Go.RowKit Go.Proofs.YtojgiaemgpnfdaaW.PrintWords Go.Proofs.YtojgiaemgpnfdaaW.PrintLast Go.Proofs.YtojgiaemgpnfdaaW.PrintMore
attribute [local go_sem] max2_int min2_int max_two min_two max_three min_three max_four min_four   -- for this text's walks alone
set_option linter.unusedVariables false
set_option linter.unusedSimpArgs false

/-! ### judge_Fits: function 19 -/
mutual
def judge_Fits.l0 : Nat → List (S62) → List ByteArray → Bool → List (S44) → Int → Int → Option (Int × Int)
  | 0, _, _, _, _, _, _ => none
  | k + 1, x0, x1, x8, x14, x15, x16 => if x16 < x15 then (if 0 ≤ x16 then (if x16 < (x14.length : Int) then (if x16 ≥ (x0.length : Int) then (some (x16, 6)) else (if x16 < (x0.length : Int) then (if (((rd_T62 x0 x16).f0) = 81) then (judge_Fits.j1 k x0 x1 x8 x16 x14 x15 x16 (decide ((((rd_T62 x0 x16).f1).size : Int) > 48)) ((rd_T44 x14 x16).f0) ((rd_T44 x14 x16).f1) ((rd_T44 x14 x16).f2) ((rd_T62 x0 x16).f0) ((rd_T62 x0 x16).f1)) else (if ((rd_T62 x0 x16).f0) = 66 then (if ((rd_T62 x0 x16).f1).toList = ([] : List UInt8) then (judge_Fits.j1 k x0 x1 x8 x16 x14 x15 x16 (decide ((((rd_T62 x0 x16).f1).size : Int) > 48)) ((rd_T44 x14 x16).f0) ((rd_T44 x14 x16).f1) ((rd_T44 x14 x16).f2) ((rd_T62 x0 x16).f0) ((rd_T62 x0 x16).f1)) else (judge_Fits.j1 k x0 x1 x8 x16 x14 x15 x16 true ((rd_T44 x14 x16).f0) ((rd_T44 x14 x16).f1) ((rd_T44 x14 x16).f2) ((rd_T62 x0 x16).f0) ((rd_T62 x0 x16).f1))) else (if ((rd_T62 x0 x16).f0) = 69 then (if ((rd_T62 x0 x16).f1).toList = ([] : List UInt8) then (judge_Fits.j1 k x0 x1 x8 x16 x14 x15 x16 (decide ((((rd_T62 x0 x16).f1).size : Int) > 48)) ((rd_T44 x14 x16).f0) ((rd_T44 x14 x16).f1) ((rd_T44 x14 x16).f2) ((rd_T62 x0 x16).f0) ((rd_T62 x0 x16).f1)) else (judge_Fits.j1 k x0 x1 x8 x16 x14 x15 x16 true ((rd_T44 x14 x16).f0) ((rd_T44 x14 x16).f1) ((rd_T44 x14 x16).f2) ((rd_T62 x0 x16).f0) ((rd_T62 x0 x16).f1))) else (judge_Fits.j1 k x0 x1 x8 x16 x14 x15 x16 true ((rd_T44 x14 x16).f0) ((rd_T44 x14 x16).f1) ((rd_T44 x14 x16).f2) ((rd_T62 x0 x16).f0) ((rd_T62 x0 x16).f1))))) else (none))) else (none)) else (none)) else (some ((-1), 0))
def judge_Fits.j1 : Nat → List (S62) → List ByteArray → Bool → Int → List (S44) → Int → Int → Bool → Int → Int → ByteArray → Int → ByteArray → Option (Int × Int)
  | 0, _, _, _, _, _, _, _, _, _, _, _, _, _ => none
  | k + 1, x0, x1, x8, x9, x14, x15, x16, x59, x123000, x123001, x123002, x125000, x125001 => if x59 = true then (some (x9, 90)) else (if x123000 = 5 then (if x123001 ≥ 1 then (judge_Fits.j2 k x0 x1 x8 x9 (decide (x123001 ≤ 7)) x14 x15 x16 x123000 x123001 x123002 x125000 x125001) else (judge_Fits.j2 k x0 x1 x8 x9 false x14 x15 x16 x123000 x123001 x123002 x125000 x125001)) else (judge_Fits.j2 k x0 x1 x8 x9 (x123001 == 0) x14 x15 x16 x123000 x123001 x123002 x125000 x125001))
def judge_Fits.j2 : Nat → List (S62) → List ByteArray → Bool → Int → Bool → List (S44) → Int → Int → Int → Int → ByteArray → Int → ByteArray → Option (Int × Int)
  | 0, _, _, _, _, _, _, _, _, _, _, _, _, _ => none
  | k + 1, x0, x1, x8, x9, x13, x14, x15, x16, x123000, x123001, x123002, x125000, x125001 => (judge_may.f k x8 x125000).bind fun t125 => ((slices_Contains_int_int.f k t125 x123000).bind fun t128 => (if t128 = true then (if x13 = true then (if x123000 = 2 then (judge_Fits.j3 k x0 x1 x8 x9 x14 x15 x16 false x123000 x123001 x123002) else (judge_Fits.j3 k x0 x1 x8 x9 x14 x15 x16 (x123002.toList != ([] : List UInt8)) x123000 x123001 x123002)) else (judge_Fits.j3 k x0 x1 x8 x9 x14 x15 x16 true x123000 x123001 x123002)) else (judge_Fits.j3 k x0 x1 x8 x9 x14 x15 x16 true x123000 x123001 x123002)))
def judge_Fits.j3 : Nat → List (S62) → List ByteArray → Bool → Int → List (S44) → Int → Int → Bool → Int → Int → ByteArray → Option (Int × Int)
  | 0, _, _, _, _, _, _, _, _, _, _, _ => none
  | k + 1, x0, x1, x8, x9, x14, x15, x16, x96, x123000, x123001, x123002 => if x96 = true then (some (x9, 1)) else (if x123000 = 2 then (if (x1.length : Int) = 0 then (some (x9, 220)) else (if 0 < (x1.length : Int) then (if (rdOf ByteArray.empty x1 0).toList = x123002.toList then (if 1 ≤ (x1.length : Int) then (judge_Fits.j4 k x0 (x1.drop 1) x8 x14 x15 x16 x123000 x123001 x123002) else (none)) else (some (x9, 220))) else (none))) else (judge_Fits.j4 k x0 x1 x8 x14 x15 x16 x123000 x123001 x123002))
def judge_Fits.j4 : Nat → List (S62) → List ByteArray → Bool → List (S44) → Int → Int → Int → Int → ByteArray → Option (Int × Int)
  | 0, _, _, _, _, _, _, _, _, _ => none
  | k + 1, x0, x1, x8, x14, x15, x16, x123000, x123001, x123002 => if x123000 = 1 then (judge_Fits.l0 k x0 x1 true x14 x15 (wrap64 (x16 + 1))) else (if x123000 = 3 then (judge_Fits.l0 k x0 x1 false x14 x15 (wrap64 (x16 + 1))) else (if x123000 = 6 then (judge_Fits.l0 k x0 x1 false x14 x15 (wrap64 (x16 + 1))) else (judge_Fits.l0 k x0 x1 x8 x14 x15 (wrap64 (x16 + 1)))))
end
def judge_Fits.f (k : Nat) (l0 : List (S62)) (l1 : List ByteArray) (l2 : List (S44)) : Option (Int × Int) := judge_Fits.l0 k l0 l1 false l2 (l2.length : Int) 0
theorem judge_Fits.mono_l : ∀ k, (∀ y0 y1 y2 y3 y4 y5, LeO (judge_Fits.l0 k y0 y1 y2 y3 y4 y5) (judge_Fits.l0 (k + 1) y0 y1 y2 y3 y4 y5)) ∧ (∀ y0 y1 y2 y3 y4 y5 y6 y7 y8 y9 y10 y11 y12, LeO (judge_Fits.j1 k y0 y1 y2 y3 y4 y5 y6 y7 y8 y9 y10 y11 y12) (judge_Fits.j1 (k + 1) y0 y1 y2 y3 y4 y5 y6 y7 y8 y9 y10 y11 y12)) ∧ (∀ y0 y1 y2 y3 y4 y5 y6 y7 y8 y9 y10 y11 y12, LeO (judge_Fits.j2 k y0 y1 y2 y3 y4 y5 y6 y7 y8 y9 y10 y11 y12) (judge_Fits.j2 (k + 1) y0 y1 y2 y3 y4 y5 y6 y7 y8 y9 y10 y11 y12)) ∧ (∀ y0 y1 y2 y3 y4 y5 y6 y7 y8 y9 y10, LeO (judge_Fits.j3 k y0 y1 y2 y3 y4 y5 y6 y7 y8 y9 y10) (judge_Fits.j3 (k + 1) y0 y1 y2 y3 y4 y5 y6 y7 y8 y9 y10)) ∧ (∀ y0 y1 y2 y3 y4 y5 y6 y7 y8, LeO (judge_Fits.j4 k y0 y1 y2 y3 y4 y5 y6 y7 y8) (judge_Fits.j4 (k + 1) y0 y1 y2 y3 y4 y5 y6 y7 y8))
  | 0 => ⟨fun _ _ _ _ _ _ r h => by simp [judge_Fits.l0] at h, fun _ _ _ _ _ _ _ _ _ _ _ _ _ r h => by simp [judge_Fits.j1] at h, fun _ _ _ _ _ _ _ _ _ _ _ _ _ r h => by simp [judge_Fits.j2] at h, fun _ _ _ _ _ _ _ _ _ _ _ r h => by simp [judge_Fits.j3] at h, fun _ _ _ _ _ _ _ _ _ r h => by simp [judge_Fits.j4] at h⟩
  | k + 1 => by
    obtain ⟨ih0, ih1, ih2, ih3, ih4⟩ := judge_Fits.mono_l k
    refine ⟨?_, ?_, ?_, ?_, ?_⟩
    · intro y0 y1 y2 y3 y4 y5
      unfold judge_Fits.l0
      repeat' first
      | (with_reducible exact ih0 _ _ _ _ _ _)
      | (with_reducible exact ih1 _ _ _ _ _ _ _ _ _ _ _ _ _)
      | (with_reducible exact ih2 _ _ _ _ _ _ _ _ _ _ _ _ _)
      | (with_reducible exact ih3 _ _ _ _ _ _ _ _ _ _ _)
      | (with_reducible exact ih4 _ _ _ _ _ _ _ _ _)
      | (with_reducible exact judge_may.mono _ _ _)
      | (with_reducible exact slices_Contains_int_int.mono _ _ _)
      | (with_reducible exact LeO.refl _)
      | (with_reducible exact LeO.none _)
      | (with_reducible refine LeO.ite ?_ ?_)
      | (with_reducible refine LeO.bind ?_ (fun _ => ?_))
      | exact ih0 _ _ _ _ _ _
      | exact ih1 _ _ _ _ _ _ _ _ _ _ _ _ _
      | exact ih2 _ _ _ _ _ _ _ _ _ _ _ _ _
      | exact ih3 _ _ _ _ _ _ _ _ _ _ _
      | exact ih4 _ _ _ _ _ _ _ _ _
      | exact judge_may.mono _ _ _
      | exact slices_Contains_int_int.mono _ _ _
      | exact LeO.none _
      | refine LeO.ite ?_ ?_
      | refine LeO.bind ?_ (fun _ => ?_)
    · intro y0 y1 y2 y3 y4 y5 y6 y7 y8 y9 y10 y11 y12
      unfold judge_Fits.j1
      repeat' first
      | (with_reducible exact ih0 _ _ _ _ _ _)
      | (with_reducible exact ih1 _ _ _ _ _ _ _ _ _ _ _ _ _)
      | (with_reducible exact ih2 _ _ _ _ _ _ _ _ _ _ _ _ _)
      | (with_reducible exact ih3 _ _ _ _ _ _ _ _ _ _ _)
      | (with_reducible exact ih4 _ _ _ _ _ _ _ _ _)
      | (with_reducible exact judge_may.mono _ _ _)
      | (with_reducible exact slices_Contains_int_int.mono _ _ _)
      | (with_reducible exact LeO.refl _)
      | (with_reducible exact LeO.none _)
      | (with_reducible refine LeO.ite ?_ ?_)
      | (with_reducible refine LeO.bind ?_ (fun _ => ?_))
      | exact ih0 _ _ _ _ _ _
      | exact ih1 _ _ _ _ _ _ _ _ _ _ _ _ _
      | exact ih2 _ _ _ _ _ _ _ _ _ _ _ _ _
      | exact ih3 _ _ _ _ _ _ _ _ _ _ _
      | exact ih4 _ _ _ _ _ _ _ _ _
      | exact judge_may.mono _ _ _
      | exact slices_Contains_int_int.mono _ _ _
      | exact LeO.none _
      | refine LeO.ite ?_ ?_
      | refine LeO.bind ?_ (fun _ => ?_)
    · intro y0 y1 y2 y3 y4 y5 y6 y7 y8 y9 y10 y11 y12
      unfold judge_Fits.j2
      repeat' first
      | (with_reducible exact ih0 _ _ _ _ _ _)
      | (with_reducible exact ih1 _ _ _ _ _ _ _ _ _ _ _ _ _)
      | (with_reducible exact ih2 _ _ _ _ _ _ _ _ _ _ _ _ _)
      | (with_reducible exact ih3 _ _ _ _ _ _ _ _ _ _ _)
      | (with_reducible exact ih4 _ _ _ _ _ _ _ _ _)
      | (with_reducible exact judge_may.mono _ _ _)
      | (with_reducible exact slices_Contains_int_int.mono _ _ _)
      | (with_reducible exact LeO.refl _)
      | (with_reducible exact LeO.none _)
      | (with_reducible refine LeO.ite ?_ ?_)
      | (with_reducible refine LeO.bind ?_ (fun _ => ?_))
      | exact ih0 _ _ _ _ _ _
      | exact ih1 _ _ _ _ _ _ _ _ _ _ _ _ _
      | exact ih2 _ _ _ _ _ _ _ _ _ _ _ _ _
      | exact ih3 _ _ _ _ _ _ _ _ _ _ _
      | exact ih4 _ _ _ _ _ _ _ _ _
      | exact judge_may.mono _ _ _
      | exact slices_Contains_int_int.mono _ _ _
      | exact LeO.none _
      | refine LeO.ite ?_ ?_
      | refine LeO.bind ?_ (fun _ => ?_)
    · intro y0 y1 y2 y3 y4 y5 y6 y7 y8 y9 y10
      unfold judge_Fits.j3
      repeat' first
      | (with_reducible exact ih0 _ _ _ _ _ _)
      | (with_reducible exact ih1 _ _ _ _ _ _ _ _ _ _ _ _ _)
      | (with_reducible exact ih2 _ _ _ _ _ _ _ _ _ _ _ _ _)
      | (with_reducible exact ih3 _ _ _ _ _ _ _ _ _ _ _)
      | (with_reducible exact ih4 _ _ _ _ _ _ _ _ _)
      | (with_reducible exact judge_may.mono _ _ _)
      | (with_reducible exact slices_Contains_int_int.mono _ _ _)
      | (with_reducible exact LeO.refl _)
      | (with_reducible exact LeO.none _)
      | (with_reducible refine LeO.ite ?_ ?_)
      | (with_reducible refine LeO.bind ?_ (fun _ => ?_))
      | exact ih0 _ _ _ _ _ _
      | exact ih1 _ _ _ _ _ _ _ _ _ _ _ _ _
      | exact ih2 _ _ _ _ _ _ _ _ _ _ _ _ _
      | exact ih3 _ _ _ _ _ _ _ _ _ _ _
      | exact ih4 _ _ _ _ _ _ _ _ _
      | exact judge_may.mono _ _ _
      | exact slices_Contains_int_int.mono _ _ _
      | exact LeO.none _
      | refine LeO.ite ?_ ?_
      | refine LeO.bind ?_ (fun _ => ?_)
    · intro y0 y1 y2 y3 y4 y5 y6 y7 y8
      unfold judge_Fits.j4
      repeat' first
      | (with_reducible exact ih0 _ _ _ _ _ _)
      | (with_reducible exact ih1 _ _ _ _ _ _ _ _ _ _ _ _ _)
      | (with_reducible exact ih2 _ _ _ _ _ _ _ _ _ _ _ _ _)
      | (with_reducible exact ih3 _ _ _ _ _ _ _ _ _ _ _)
      | (with_reducible exact ih4 _ _ _ _ _ _ _ _ _)
      | (with_reducible exact judge_may.mono _ _ _)
      | (with_reducible exact slices_Contains_int_int.mono _ _ _)
      | (with_reducible exact LeO.refl _)
      | (with_reducible exact LeO.none _)
      | (with_reducible refine LeO.ite ?_ ?_)
      | (with_reducible refine LeO.bind ?_ (fun _ => ?_))
      | exact ih0 _ _ _ _ _ _
      | exact ih1 _ _ _ _ _ _ _ _ _ _ _ _ _
      | exact ih2 _ _ _ _ _ _ _ _ _ _ _ _ _
      | exact ih3 _ _ _ _ _ _ _ _ _ _ _
      | exact ih4 _ _ _ _ _ _ _ _ _
      | exact judge_may.mono _ _ _
      | exact slices_Contains_int_int.mono _ _ _
      | exact LeO.none _
      | refine LeO.ite ?_ ?_
      | refine LeO.bind ?_ (fun _ => ?_)
theorem judge_Fits.mono : ∀ a0 a1 a2 k, LeO (judge_Fits.f k a0 a1 a2) (judge_Fits.f (k + 1) a0 a1 a2) := by
  intro a0 a1 a2 k
  obtain ⟨ih0, ih1, ih2, ih3, ih4⟩ := judge_Fits.mono_l k
  unfold judge_Fits.f
  repeat' first
      | (with_reducible exact ih0 _ _ _ _ _ _)
      | (with_reducible exact ih1 _ _ _ _ _ _ _ _ _ _ _ _ _)
      | (with_reducible exact ih2 _ _ _ _ _ _ _ _ _ _ _ _ _)
      | (with_reducible exact ih3 _ _ _ _ _ _ _ _ _ _ _)
      | (with_reducible exact ih4 _ _ _ _ _ _ _ _ _)
      | (with_reducible exact judge_may.mono _ _ _)
      | (with_reducible exact slices_Contains_int_int.mono _ _ _)
      | (with_reducible exact LeO.refl _)
      | (with_reducible exact LeO.none _)
      | (with_reducible refine LeO.ite ?_ ?_)
      | (with_reducible refine LeO.bind ?_ (fun _ => ?_))
      | exact ih0 _ _ _ _ _ _
      | exact ih1 _ _ _ _ _ _ _ _ _ _ _ _ _
      | exact ih2 _ _ _ _ _ _ _ _ _ _ _ _ _
      | exact ih3 _ _ _ _ _ _ _ _ _ _ _
      | exact ih4 _ _ _ _ _ _ _ _ _
      | exact judge_may.mono _ _ _
      | exact slices_Contains_int_int.mono _ _ _
      | exact LeO.none _
      | refine LeO.ite ?_ ?_
      | refine LeO.bind ?_ (fun _ => ?_)
def judge_Fits.T14 : Bool × List (List Nat × List Nat) := (true, [([], []), ([], []), ([1], [1]), ([0, 2], [0, 2]), ([], []), ([4], [4]), ([3, 5, 3], [3, 5]), ([6], [6]), ([7, 6], [7]), ([8], [8]), ([9, 8], [8, 9]), ([8, 10], [8, 10]), ([11, 8], [11]), ([12], [12]), ([13, 12], [12, 13]), ([14, 12], [12, 14]), ([15, 12, 12], [12, 15]), ([16], [16]), ([17, 16], [16, 17]), ([18, 16], [16, 18]), ([16, 19, 12], [12, 16, 19]), ([12, 20], [12, 20])])
def judge_Fits.B14 : List Nat := [0, 0, 2, 7, 0, 16, 63, 127, 255, 511, 1023, 2047, 4095, 8191, 16383, 32767, 65535, 131071, 262143, 524287, 1048575, 2097151]
theorem judge_Fits.tab14 : rtab .any (opsOf Try.f19 14) = judge_Fits.T14 := by kernel_rfl
theorem judge_Fits.bits14 : waitsOk judge_Fits.T14.2 judge_Fits.B14 = true := by kernel_rfl
def judge_Fits.T17 : Bool × List (List Nat × List Nat) := (true, [([], []), ([0], [0]), ([1], [1]), ([2], [2]), ([3], [3]), ([4, 3], [3, 4]), ([5, 3], [3, 5]), ([3], [3]), ([7, 3], [3, 7]), ([6, 8, 3], [3, 6, 8]), ([3, 9], [3, 9])])
def judge_Fits.B17 : List Nat := [0, 1, 3, 7, 15, 31, 63, 15, 143, 511, 1023]
theorem judge_Fits.tab17 : rtab .any (opsOf Try.f19 17) = judge_Fits.T17 := by kernel_rfl
theorem judge_Fits.bits17 : waitsOk judge_Fits.T17.2 judge_Fits.B17 = true := by kernel_rfl
set_option maxHeartbeats 8000000 in
set_option maxRecDepth 100000 in
theorem judge_Fits.calls (k : Nat) (A0 : Option Addr) (c0 : Nat) (l0 : List (S62)) (P1_ : Nat → Prop) (A1 : Option Addr) (c1 : Nat) (l1 : List ByteArray) (A2 : Option Addr) (c2 : Nat) (l2 : List (S44)) (r1 : Int) (r2 : Int) (w : World) (hr0 : Kd.C k62 w A0 l0.length l0) (hc0 : l0.length ≤ c0) (hs1 : Kd.V Kd.string 9 w w.heap.size (fun k_ => P1_ k_) (.slice A1 l1.length c1) l1) (hr2 : Kd.C k44 w A2 l2.length l2) (hc2 : l2.length ≤ c2) (h : judge_Fits.f k l0 l1 l2 = some (r1, r2)) :
    Calls Try.prog 19 #[.slice A0 l0.length c0, .slice A1 l1.length c1, .slice A2 l2.length c2] w fun e w' => e = .returned (.tuple #[.int .i64 r1, .int .i64 r2]) ∧ Below w.heap.size w w' := by
  have hu44 := Try.underlying44
  have hu62 := Try.underlying62
  have HR0 := Aside0.mk hr0
  have HC0 := Aside0.mk hc0
  clear hr0 hc0
  have HO1 := Aside0.mk (show Kd.V Kd.string 9 w w.heap.size (fun k_ => (P1_ k_ ∨ w.heap.size ≤ k_)) (.slice A1 l1.length c1) l1 from Kd.V_mono hs1 (fun k_ hk => .inl hk))
  have HR2 := Aside0.mk hr2
  have HC2 := Aside0.mk hc2
  clear hr2 hc2
  have HB := Aside0.mk (Below.refl w.heap.size w)
  have H : (judge_Fits.l0 k l0 l1 false l2 (l2.length : Int) 0) = some (r1, r2) := h
  clear h
  have H' := Aside0.mk H
  clear H
  go_enter Try.func19, Try.ntmps19
  go_wp2
  go_loopg [1, 8, 16] k (fun kq v1 v8 v16 w' => ∃ (x1_1 : List ByteArray) (x8_1 : Bool) (x16_1 : Int), v8 = .bool x8_1 ∧ v16 = .int .i64 x16_1 ∧ Aside0 (judge_Fits.l0 kq l0 x1_1 x8_1 l2 (l2.length : Int) x16_1 = some (r1, r2)) ∧ Aside0 (kq ≤ k) ∧ Aside0 (Kd.V Kd.string 9 w' w.heap.size (fun k_ => (P1_ k_ ∨ w.heap.size ≤ k_)) v1 x1_1) ∧ Aside0 (Below w.heap.size w w'))
  case atStart => exact ⟨(l1), (false), (0), (by first | rfl | (simp; done) | (simp [*]; done) | (simp [*]; generalize (rd_T44 l2 x16_1).f2.toList = zz; cases zz <;> rfl)), (by first | rfl | (simp; done) | (simp [*]; done) | (simp [*]; generalize (rd_T44 l2 x16_1).f2.toList = zz; cases zz <;> rfl)), H', ⟨Nat.le_refl _⟩, ⟨by (with_reducible repeat (first | apply Kd.V_alloc | apply Kd.V_drewN | apply Kd.V_drew)); exact HO1.out⟩, ⟨by repeat (first | (with_reducible first | exact HB.out | apply below_alloc | apply pw_below_drewN | apply below_drew1) | exact HB.out)⟩⟩
  case round =>
    clear H'
    try clear c1
    try clear c2
    try clear p2
    obtain ⟨x1_1, x8_1, x16_1, rfl, rfl, HA, HK1, HO_1, HB⟩ := hrel
    cases gk with
    | zero => exact absurd HA.out (by simp [judge_Fits.l0])
    | succ k1 =>
      have H := HA.out
      clear HA
      simp only [judge_Fits.l0] at H
      by_cases c4 : x16_1 < (l2.length : Int)
      · rw [if_pos c4] at H
        have c4b0 : decide (x16_1 < (l2.length : Int)) = true := decide_eq_true c4
        clear c4
        by_cases c5 : 0 ≤ x16_1
        · rw [if_pos c5] at H
          have c5b0 : decide (0 ≤ x16_1) = true := decide_eq_true c5
          clear c5
          by_cases c6 : x16_1 < (l2.length : Int)
          · rw [if_pos c6] at H
            have c6b0 : decide (x16_1 < (l2.length : Int)) = true := decide_eq_true c6
            clear c6
            by_cases c7 : x16_1 ≥ (l0.length : Int)
            · rw [if_pos c7] at H
              have c7b0 : decide ((l0.length : Int) ≤ x16_1) = true := decide_eq_true c7
              clear c7
              simp only [Option.some.injEq, Prod.mk.injEq] at H
              obtain ⟨rfl, rfl⟩ := H
              have p121 : 0 ≤ (x16_1 : Int) := of_decide_eq_true (by first | (with_reducible assumption) | assumption)
              have q121 : x16_1 < (l2.length : Int) := of_decide_eq_true (by first | (with_reducible assumption) | assumption)
              obtain ⟨ad121, e121, hx121_0, hx121_1, hx121_2⟩ := at_T44 HR2.out x16_1 p121 q121
              cases e121
              replace hx121_0 := (HB.out.cell (World.block_lt_of_cell? w _ hx121_0)).trans hx121_0
              replace hx121_1 := (HB.out.cell (World.block_lt_of_cell? w _ hx121_1)).trans hx121_1
              replace hx121_2 := (HB.out.cell (World.block_lt_of_cell? w _ hx121_2)).trans hx121_2
              replace p121 := eq_true p121
              replace q121 := eq_true q121
              go_wp2_with (first | ((with_reducible refine gate_dst (N := 10) rfl ?_); (try (refine gate_guard (by rfl) ?_; dsimp only)); refine box_event ?hg (N := 10) ?hd (cs := #[.int .i64 0, .int .i64 0, .string (⟨#[]⟩ : ByteArray)]) (t := 44) ?hr ?_; (case hd => rfl); (case hg => rfl); (case hr => first | (go_simp; done) | (go_simp; rfl)); intro gb122 hg w8 hbox hb; have n0_ := Aside0.mk (Kd.V_below (Kd.V_elderB (by (with_reducible repeat (first | apply Kd.V_alloc | apply Kd.V_drewN | apply Kd.V_drew)); exact HO_1.out) gb122 (Nat.le_of_eq hg.symm)) hb); have n1_ := Aside0.mk (below_step (by repeat (first | (with_reducible first | exact HB.out | apply below_alloc | apply pw_below_drewN | apply below_drew1) | exact HB.out)) hb); have n2_ := Aside0.mk (hbox); have n3_ := Aside0.mk ((by rw [hg]; exact (below_size (by repeat (first | (with_reducible first | exact HB.out | apply below_alloc | apply pw_below_drewN | apply below_drew1) | exact HB.out))) : w.heap.size ≤ gb122)); have n4_ := Aside0.mk ((by rw [hg]; exact (below_size (by repeat (first | (with_reducible first | exact HB.out | apply below_alloc | apply pw_below_drewN | apply below_drew1) | exact HB.out))) : w.heap.size ≤ gb122)); clear HO_1; clear HB; have HO_1 := n0_; have HB := n1_; have BK122 := n2_; have GW122 := n3_; have GE122 := n4_; clear n0_ n1_ n2_ n3_ n4_; clear hb hbox hg; have hcz9_0 : w8.cell? ⟨gb122, 0, none⟩ = some (.int .i64 0) := (blk_cell BK122.out 0).trans rfl; have hcz9_1 : w8.cell? ⟨gb122, 1, none⟩ = some (.int .i64 0) := (blk_cell BK122.out 1).trans rfl; have hcz9_2 : w8.cell? ⟨gb122, 2, none⟩ = some (.string (⟨#[]⟩ : ByteArray)) := (blk_cell BK122.out 2).trans rfl; have hfz9_0 := blk_frozen BK122.out 0; have hfz9_1 := blk_frozen BK122.out 1; have hfz9_2 := blk_frozen BK122.out 2))
              go_ret2
              exact ⟨by first | rfl | (simp [errW_none, errW_some] <;> rfl) | (simp [*, errW_none, errW_some] <;> rfl), by repeat (first | (with_reducible first | exact HB.out | apply below_alloc | apply pw_below_drewN | apply below_drew1 | refine below_set ?_ GE122.out) | exact HB.out)⟩
            · rw [if_neg c7] at H
              have c7b0 : decide ((l0.length : Int) ≤ x16_1) = false := decide_eq_false c7
              clear c7
              by_cases c10 : x16_1 < (l0.length : Int)
              · rw [if_pos c10] at H
                have c10b0 : decide (x16_1 < (l0.length : Int)) = true := decide_eq_true c10
                clear c10
                have HC11 := Aside0.mk H
                clear H
                have p121 : 0 ≤ (x16_1 : Int) := of_decide_eq_true (by first | (with_reducible assumption) | assumption)
                have q121 : x16_1 < (l2.length : Int) := of_decide_eq_true (by first | (with_reducible assumption) | assumption)
                obtain ⟨ad121, e121, hx121_0, hx121_1, hx121_2⟩ := at_T44 HR2.out x16_1 p121 q121
                cases e121
                replace hx121_0 := (HB.out.cell (World.block_lt_of_cell? w _ hx121_0)).trans hx121_0
                replace hx121_1 := (HB.out.cell (World.block_lt_of_cell? w _ hx121_1)).trans hx121_1
                replace hx121_2 := (HB.out.cell (World.block_lt_of_cell? w _ hx121_2)).trans hx121_2
                replace p121 := eq_true p121
                replace q121 := eq_true q121
                go_upto_region 9 with (first | ((with_reducible refine gate_dst (N := 10) rfl ?_); (try (refine gate_guard (by rfl) ?_; dsimp only)); refine box_event ?hg (N := 10) ?hd (cs := #[.int .i64 0, .int .i64 0, .string (⟨#[]⟩ : ByteArray)]) (t := 44) ?hr ?_; (case hd => rfl); (case hg => rfl); (case hr => first | (go_simp; done) | (go_simp; rfl)); intro gb122 hg w12 hbox hb; have n0_ := Aside0.mk (Kd.V_below (Kd.V_elderB (by (with_reducible repeat (first | apply Kd.V_alloc | apply Kd.V_drewN | apply Kd.V_drew)); exact HO_1.out) gb122 (Nat.le_of_eq hg.symm)) hb); have n1_ := Aside0.mk (below_step (by repeat (first | (with_reducible first | exact HB.out | apply below_alloc | apply pw_below_drewN | apply below_drew1) | exact HB.out)) hb); have n2_ := Aside0.mk (hbox); have n3_ := Aside0.mk ((by rw [hg]; exact (below_size (by repeat (first | (with_reducible first | exact HB.out | apply below_alloc | apply pw_below_drewN | apply below_drew1) | exact HB.out))) : w.heap.size ≤ gb122)); have n4_ := Aside0.mk ((by rw [hg]; exact (below_size (by repeat (first | (with_reducible first | exact HB.out | apply below_alloc | apply pw_below_drewN | apply below_drew1) | exact HB.out))) : w.heap.size ≤ gb122)); clear HO_1; clear HB; have HO_1 := n0_; have HB := n1_; have BK122 := n2_; have GW122 := n3_; have GE122 := n4_; clear n0_ n1_ n2_ n3_ n4_; clear hb hbox hg; have hcz13_0 : w12.cell? ⟨gb122, 0, none⟩ = some (.int .i64 0) := (blk_cell BK122.out 0).trans rfl; have hcz13_1 : w12.cell? ⟨gb122, 1, none⟩ = some (.int .i64 0) := (blk_cell BK122.out 1).trans rfl; have hcz13_2 : w12.cell? ⟨gb122, 2, none⟩ = some (.string (⟨#[]⟩ : ByteArray)) := (blk_cell BK122.out 2).trans rfl; have hfz13_0 := blk_frozen BK122.out 0; have hfz13_1 := blk_frozen BK122.out 1; have hfz13_2 := blk_frozen BK122.out 2; have p123 : 0 ≤ (x16_1 : Int) := of_decide_eq_true (by first | (with_reducible assumption) | assumption); have q123 : x16_1 < (l0.length : Int) := of_decide_eq_true (by first | (with_reducible assumption) | assumption); obtain ⟨ad123, e123, hx123_0, hx123_1⟩ := at_T62 HR0.out x16_1 p123 q123; cases e123; have hn123_0 : ad123.block ≠ gb122 := Nat.ne_of_lt (Nat.lt_of_lt_of_le (by have := World.block_lt_of_cell? _ _ hx123_0; first | rwa [add_block] at this | exact this) GW122.out); have hn123_1 : ad123.block ≠ gb122 := Nat.ne_of_lt (Nat.lt_of_lt_of_le (by have := World.block_lt_of_cell? _ _ hx123_0; first | rwa [add_block] at this | exact this) GW122.out); have hn123_2 : ad123.block ≠ gb122 := Nat.ne_of_lt (Nat.lt_of_lt_of_le (by have := World.block_lt_of_cell? _ _ hx123_0; first | rwa [add_block] at this | exact this) GW122.out); replace hx123_0 := (HB.out.cell (World.block_lt_of_cell? w _ hx123_0)).trans hx123_0; replace hx123_1 := (HB.out.cell (World.block_lt_of_cell? w _ hx123_1)).trans hx123_1; replace hx123_0 := (cell_far (p := ⟨gb122, 0, none⟩) (by first | (rw [add_block]; exact hn123_0) | (show (Addr.add _ _).block ≠ _; rw [add_block]; exact hn123_0) | exact hn123_0) (.int .i64 ((rd_T44 l2 x16_1).f0))).trans hx123_0; replace hx123_1 := (cell_far (p := ⟨gb122, 0, none⟩) (by first | (rw [add_block]; exact hn123_0) | (show (Addr.add _ _).block ≠ _; rw [add_block]; exact hn123_0) | exact hn123_0) (.int .i64 ((rd_T44 l2 x16_1).f0))).trans hx123_1; replace hx123_0 := (cell_far (p := ⟨gb122, 1, none⟩) (by first | (rw [add_block]; exact hn123_1) | (show (Addr.add _ _).block ≠ _; rw [add_block]; exact hn123_1) | exact hn123_1) (.int .i64 ((rd_T44 l2 x16_1).f1))).trans hx123_0; replace hx123_1 := (cell_far (p := ⟨gb122, 1, none⟩) (by first | (rw [add_block]; exact hn123_1) | (show (Addr.add _ _).block ≠ _; rw [add_block]; exact hn123_1) | exact hn123_1) (.int .i64 ((rd_T44 l2 x16_1).f1))).trans hx123_1; replace hx123_0 := (cell_far (p := ⟨gb122, 2, none⟩) (by first | (rw [add_block]; exact hn123_2) | (show (Addr.add _ _).block ≠ _; rw [add_block]; exact hn123_2) | exact hn123_2) (.string ((rd_T44 l2 x16_1).f2))).trans hx123_0; replace hx123_1 := (cell_far (p := ⟨gb122, 2, none⟩) (by first | (rw [add_block]; exact hn123_2) | (show (Addr.add _ _).block ≠ _; rw [add_block]; exact hn123_2) | exact hn123_2) (.string ((rd_T44 l2 x16_1).f2))).trans hx123_1; clear hn123_0; clear hn123_1; clear hn123_2; replace p123 := eq_true p123; replace q123 := eq_true q123) | ((with_reducible refine gate_dst (N := 11) rfl ?_); (try (refine gate_guard (by rfl) ?_; dsimp only)); refine box_event ?hg (N := 11) ?hd (cs := #[.int .u8 0, .string (⟨#[]⟩ : ByteArray)]) (t := 62) ?hr ?_; (case hd => rfl); (case hg => rfl); (case hr => first | (go_simp; done) | (go_simp; rfl)); intro gb124 hg w14 hbox hb; have n0_ := Aside0.mk (Kd.V_below (Kd.V_elderB (by (with_reducible repeat (first | apply Kd.V_alloc | apply Kd.V_drewN | apply Kd.V_drew)); exact (Kd.V_mono (Kd.V_far (p := ⟨gb122, 2, none⟩) (Kd.V_far (p := ⟨gb122, 1, none⟩) (Kd.V_far (p := ⟨gb122, 0, none⟩) (Kd.V_mono HO_1.out (fun k_ hk => (⟨hk, hk.2⟩ : _ ∧ k_ ≠ gb122))) (fun _ hk => hk.2) (.int .i64 ((rd_T44 l2 x16_1).f0))) (fun _ hk => hk.2) (.int .i64 ((rd_T44 l2 x16_1).f1))) (fun _ hk => hk.2) (.string ((rd_T44 l2 x16_1).f2))) (fun _ h_ => h_.1))) gb124 (Nat.le_of_eq hg.symm)) hb); have n1_ := Aside0.mk (blk_below (g := gb122) (o := .cells #[.int .i64 ((rd_T44 l2 x16_1).f0), .int .i64 ((rd_T44 l2 x16_1).f1), .string ((rd_T44 l2 x16_1).f2)] 44 (0, 0)) (by (with_reducible repeat (first | refine blk_drewN ?_ _ | refine blk_drew ?_ | refine blk_alloc ?_ _)); refine blk_put (cs := #[.int .i64 ((rd_T44 l2 x16_1).f0), .int .i64 ((rd_T44 l2 x16_1).f1), .string (⟨#[]⟩ : ByteArray)]) ?_ 2 _ rfl; (with_reducible repeat (first | refine blk_drewN ?_ _ | refine blk_drew ?_ | refine blk_alloc ?_ _)); refine blk_put (cs := #[.int .i64 ((rd_T44 l2 x16_1).f0), .int .i64 0, .string (⟨#[]⟩ : ByteArray)]) ?_ 1 _ rfl; (with_reducible repeat (first | refine blk_drewN ?_ _ | refine blk_drew ?_ | refine blk_alloc ?_ _)); refine blk_put (cs := #[.int .i64 0, .int .i64 0, .string (⟨#[]⟩ : ByteArray)]) ?_ 0 _ rfl; (with_reducible repeat (first | refine blk_drewN ?_ _ | refine blk_drew ?_ | refine blk_alloc ?_ _)); exact BK122.out) hb); have n2_ := Aside0.mk (below_step (by repeat (first | (with_reducible first | exact HB.out | apply below_alloc | apply pw_below_drewN | apply below_drew1 | refine below_set ?_ GE122.out) | exact HB.out)) hb); have n3_ := Aside0.mk (hbox); have n4_ := Aside0.mk ((by rw [hg]; exact (below_size (by repeat (first | (with_reducible first | exact HB.out | apply below_alloc | apply pw_below_drewN | apply below_drew1 | refine below_set ?_ GE122.out) | exact HB.out))) : w.heap.size ≤ gb124)); have n5_ := Aside0.mk ((by rw [hg]; exact (below_size (by repeat (first | (with_reducible first | exact HB.out | apply below_alloc | apply pw_below_drewN | apply below_drew1 | refine below_set ?_ GE122.out) | exact HB.out))) : w.heap.size ≤ gb124)); have n6_ := Aside0.mk ((by rw [hg]; exact Nat.ne_of_lt (blk_lt (g := gb122) (o := .cells #[.int .i64 ((rd_T44 l2 x16_1).f0), .int .i64 ((rd_T44 l2 x16_1).f1), .string ((rd_T44 l2 x16_1).f2)] 44 (0, 0)) (by (with_reducible repeat (first | refine blk_drewN ?_ _ | refine blk_drew ?_ | refine blk_alloc ?_ _)); refine blk_put (cs := #[.int .i64 ((rd_T44 l2 x16_1).f0), .int .i64 ((rd_T44 l2 x16_1).f1), .string (⟨#[]⟩ : ByteArray)]) ?_ 2 _ rfl; (with_reducible repeat (first | refine blk_drewN ?_ _ | refine blk_drew ?_ | refine blk_alloc ?_ _)); refine blk_put (cs := #[.int .i64 ((rd_T44 l2 x16_1).f0), .int .i64 0, .string (⟨#[]⟩ : ByteArray)]) ?_ 1 _ rfl; (with_reducible repeat (first | refine blk_drewN ?_ _ | refine blk_drew ?_ | refine blk_alloc ?_ _)); refine blk_put (cs := #[.int .i64 0, .int .i64 0, .string (⟨#[]⟩ : ByteArray)]) ?_ 0 _ rfl; (with_reducible repeat (first | refine blk_drewN ?_ _ | refine blk_drew ?_ | refine blk_alloc ?_ _)); exact BK122.out)) : gb122 ≠ gb124)); have n7_ := Aside0.mk ((by rw [hg]; exact Nat.ne_of_gt (blk_lt (g := gb122) (o := .cells #[.int .i64 ((rd_T44 l2 x16_1).f0), .int .i64 ((rd_T44 l2 x16_1).f1), .string ((rd_T44 l2 x16_1).f2)] 44 (0, 0)) (by (with_reducible repeat (first | refine blk_drewN ?_ _ | refine blk_drew ?_ | refine blk_alloc ?_ _)); refine blk_put (cs := #[.int .i64 ((rd_T44 l2 x16_1).f0), .int .i64 ((rd_T44 l2 x16_1).f1), .string (⟨#[]⟩ : ByteArray)]) ?_ 2 _ rfl; (with_reducible repeat (first | refine blk_drewN ?_ _ | refine blk_drew ?_ | refine blk_alloc ?_ _)); refine blk_put (cs := #[.int .i64 ((rd_T44 l2 x16_1).f0), .int .i64 0, .string (⟨#[]⟩ : ByteArray)]) ?_ 1 _ rfl; (with_reducible repeat (first | refine blk_drewN ?_ _ | refine blk_drew ?_ | refine blk_alloc ?_ _)); refine blk_put (cs := #[.int .i64 0, .int .i64 0, .string (⟨#[]⟩ : ByteArray)]) ?_ 0 _ rfl; (with_reducible repeat (first | refine blk_drewN ?_ _ | refine blk_drew ?_ | refine blk_alloc ?_ _)); exact BK122.out)) : gb124 ≠ gb122)); clear HO_1; clear BK122; clear HB; have HO_1 := n0_; have BK122 := n1_; have HB := n2_; have BK124 := n3_; have GW124 := n4_; have GE124 := n5_; have NB122_124 := n6_; have NB124_122 := n7_; clear n0_ n1_ n2_ n3_ n4_ n5_ n6_ n7_; clear hb hbox hg; have hnb15 := NB124_122.out; have hnc15 := NB122_124.out; have hcz16_0 : w14.cell? ⟨gb124, 0, none⟩ = some (.int .u8 0) := (blk_cell BK124.out 0).trans rfl; have hcz16_1 : w14.cell? ⟨gb124, 1, none⟩ = some (.string (⟨#[]⟩ : ByteArray)) := (blk_cell BK124.out 1).trans rfl; have hfz16_0 := blk_frozen BK124.out 0; have hfz16_1 := blk_frozen BK124.out 1))
                (try simp only [Act.put, List.setIfInBounds_toArray, List.set_cons_zero, List.set_cons_succ])
                generalize hqq : ((rd_T62 l0 x16_1).f0 == 81) = qq
                go_cut [59] (fun v59 wc => ∃ (kq : Nat) (x59_10 : Bool), v59 = .bool x59_10 ∧ Aside0 (judge_Fits.j1 kq l0 x1_1 x8_1 x16_1 l2 (l2.length : Int) x16_1 x59_10 ((rd_T44 l2 x16_1).f0) ((rd_T44 l2 x16_1).f1) ((rd_T44 l2 x16_1).f2) ((rd_T62 l0 x16_1).f0) ((rd_T62 l0 x16_1).f1) = some (r1, r2)) ∧ Aside0 (kq ≤ k1) ∧ Aside0 (Kd.V Kd.string 9 wc w.heap.size (fun k_ => (P1_ k_ ∨ w.heap.size ≤ k_) ∧ k_ ≠ gb122 ∧ k_ ≠ gb124) u1 x1_1) ∧ Aside0 (wc.heap[gb122]? = some (.cells #[.int .i64 ((rd_T44 l2 x16_1).f0), .int .i64 ((rd_T44 l2 x16_1).f1), .string ((rd_T44 l2 x16_1).f2)] 44 (0, 0))) ∧ Aside0 (wc.heap[gb124]? = some (.cells #[.int .u8 ((rd_T62 l0 x16_1).f0), .string ((rd_T62 l0 x16_1).f1)] 62 (0, 0))) ∧ Aside0 (Below w.heap.size w wc))
                case first =>
                  have H := HC11.out
                  clear HC11
                  by_cases c17 : (((rd_T62 l0 x16_1).f0) = 81)
                  · rw [if_pos c17] at H
                    have c17b0 : (((rd_T62 l0 x16_1).f0) == 81) = true := beq_iff_eq.mpr c17
                    rw [c17b0] at hqq; subst hqq
                    have c17b1 : (((rd_T62 l0 x16_1).f0) != 81) = false := bne_eq_false_iff_eq.mpr c17
                    clear c17
                    (first | rw [c17b0] | (simp only [i64_w, i32_w]; rw [c17b0]) | skip)
                    have H' := Aside0.mk H
                    clear H
                    have hnb18 := NB124_122.out
                    have hnc18 := NB122_124.out
                    have hcz19_0 : w14.cell? ⟨gb124, 0, none⟩ = some (.int .u8 0) := (blk_cell BK124.out 0).trans rfl
                    have hcz19_1 : w14.cell? ⟨gb124, 1, none⟩ = some (.string (⟨#[]⟩ : ByteArray)) := (blk_cell BK124.out 1).trans rfl
                    have hfz19_0 := blk_frozen BK124.out 0
                    have hfz19_1 := blk_frozen BK124.out 1
                    go_wp2
                    go_meet
                    case rel => exact ⟨_, (decide ((((rd_T62 l0 x16_1).f1).size : Int) > 48)), (by first | rfl | (simp; done) | (simp [*]; done) | (simp [*]; generalize (rd_T44 l2 x16_1).f2.toList = zz; cases zz <;> rfl)), H', ⟨by have := HK1.out; first | omega | exact Nat.le_refl _⟩, ⟨by (with_reducible repeat (first | apply Kd.V_alloc | apply Kd.V_drewN | apply Kd.V_drew)); exact Kd.V_mono (Kd.V_far (p := ⟨gb124, 1, none⟩) (Kd.V_far (p := ⟨gb124, 0, none⟩) (Kd.V_mono HO_1.out (fun k_ hk => (⟨hk, hk.2⟩ : _ ∧ k_ ≠ gb124))) (fun _ hk => hk.2) (.int .u8 ((rd_T62 l0 x16_1).f0))) (fun _ hk => hk.2) (.string ((rd_T62 l0 x16_1).f1))) (fun _ hk => ⟨hk.1.1.1, ⟨hk.1.1.2, hk.1.2⟩⟩)⟩, ⟨by (with_reducible repeat (first | refine blk_drewN ?_ _ | refine blk_drew ?_ | refine blk_alloc ?_ _)); refine blk_far ?_ NB122_124.out _; (with_reducible repeat (first | refine blk_drewN ?_ _ | refine blk_drew ?_ | refine blk_alloc ?_ _)); refine blk_far ?_ NB122_124.out _; (with_reducible repeat (first | refine blk_drewN ?_ _ | refine blk_drew ?_ | refine blk_alloc ?_ _)); exact BK122.out⟩, ⟨by (with_reducible repeat (first | refine blk_drewN ?_ _ | refine blk_drew ?_ | refine blk_alloc ?_ _)); refine blk_put (cs := #[.int .u8 ((rd_T62 l0 x16_1).f0), .string (⟨#[]⟩ : ByteArray)]) ?_ 1 _ rfl; (with_reducible repeat (first | refine blk_drewN ?_ _ | refine blk_drew ?_ | refine blk_alloc ?_ _)); refine blk_put (cs := #[.int .u8 0, .string (⟨#[]⟩ : ByteArray)]) ?_ 0 _ rfl; (with_reducible repeat (first | refine blk_drewN ?_ _ | refine blk_drew ?_ | refine blk_alloc ?_ _)); exact BK124.out⟩, ⟨by repeat (first | (with_reducible first | exact HB.out | apply below_alloc | apply pw_below_drewN | apply below_drew1 | refine below_set ?_ GE122.out | refine below_set ?_ GE124.out) | exact HB.out)⟩⟩
                  · rw [if_neg c17] at H
                    have c17b0 : (((rd_T62 l0 x16_1).f0) == 81) = false := beq_eq_false_iff_ne.mpr c17
                    rw [c17b0] at hqq; subst hqq
                    have c17b1 : (((rd_T62 l0 x16_1).f0) != 81) = true := bne_iff_ne.mpr c17
                    (first | rw [c17b0] | (simp only [i64_w, i32_w]; rw [c17b0]) | skip)
                    by_cases c20 : ((rd_T62 l0 x16_1).f0) = 66
                    · rw [if_pos c20] at H
                      have c20b0 : (((rd_T62 l0 x16_1).f0) == 66) = true := beq_iff_eq.mpr c20
                      have c20b1 : (((rd_T62 l0 x16_1).f0) != 66) = false := bne_eq_false_iff_eq.mpr c20
                      clear c20
                      by_cases c21 : ((rd_T62 l0 x16_1).f1).toList = ([] : List UInt8)
                      · rw [if_pos c21] at H
                        have c21b0 : (((rd_T62 l0 x16_1).f1).toList == ([] : List UInt8)) = true := beq_iff_eq.mpr c21
                        have c21b1 : (((rd_T62 l0 x16_1).f1).toList != ([] : List UInt8)) = false := bne_eq_false_iff_eq.mpr c21
                        clear c21
                        have H' := Aside0.mk H
                        clear H
                        have hnb22 := NB124_122.out
                        have hnc22 := NB122_124.out
                        have hcz23_0 : w14.cell? ⟨gb124, 0, none⟩ = some (.int .u8 0) := (blk_cell BK124.out 0).trans rfl
                        have hcz23_1 : w14.cell? ⟨gb124, 1, none⟩ = some (.string (⟨#[]⟩ : ByteArray)) := (blk_cell BK124.out 1).trans rfl
                        have hfz23_0 := blk_frozen BK124.out 0
                        have hfz23_1 := blk_frozen BK124.out 1
                        go_wp2
                        go_meet
                        case rel => exact ⟨_, (decide ((((rd_T62 l0 x16_1).f1).size : Int) > 48)), (by first | rfl | (simp; done) | (simp [*]; done) | (simp [*]; generalize (rd_T44 l2 x16_1).f2.toList = zz; cases zz <;> rfl)), H', ⟨by have := HK1.out; first | omega | exact Nat.le_refl _⟩, ⟨by (with_reducible repeat (first | apply Kd.V_alloc | apply Kd.V_drewN | apply Kd.V_drew)); exact Kd.V_mono (Kd.V_far (p := ⟨gb124, 1, none⟩) (Kd.V_far (p := ⟨gb124, 0, none⟩) (Kd.V_mono HO_1.out (fun k_ hk => (⟨hk, hk.2⟩ : _ ∧ k_ ≠ gb124))) (fun _ hk => hk.2) (.int .u8 ((rd_T62 l0 x16_1).f0))) (fun _ hk => hk.2) (.string ((rd_T62 l0 x16_1).f1))) (fun _ hk => ⟨hk.1.1.1, ⟨hk.1.1.2, hk.1.2⟩⟩)⟩, ⟨by (with_reducible repeat (first | refine blk_drewN ?_ _ | refine blk_drew ?_ | refine blk_alloc ?_ _)); refine blk_far ?_ NB122_124.out _; (with_reducible repeat (first | refine blk_drewN ?_ _ | refine blk_drew ?_ | refine blk_alloc ?_ _)); refine blk_far ?_ NB122_124.out _; (with_reducible repeat (first | refine blk_drewN ?_ _ | refine blk_drew ?_ | refine blk_alloc ?_ _)); exact BK122.out⟩, ⟨by (with_reducible repeat (first | refine blk_drewN ?_ _ | refine blk_drew ?_ | refine blk_alloc ?_ _)); refine blk_put (cs := #[.int .u8 ((rd_T62 l0 x16_1).f0), .string (⟨#[]⟩ : ByteArray)]) ?_ 1 _ rfl; (with_reducible repeat (first | refine blk_drewN ?_ _ | refine blk_drew ?_ | refine blk_alloc ?_ _)); refine blk_put (cs := #[.int .u8 0, .string (⟨#[]⟩ : ByteArray)]) ?_ 0 _ rfl; (with_reducible repeat (first | refine blk_drewN ?_ _ | refine blk_drew ?_ | refine blk_alloc ?_ _)); exact BK124.out⟩, ⟨by repeat (first | (with_reducible first | exact HB.out | apply below_alloc | apply pw_below_drewN | apply below_drew1 | refine below_set ?_ GE122.out | refine below_set ?_ GE124.out) | exact HB.out)⟩⟩
                      · rw [if_neg c21] at H
                        have c21b0 : (((rd_T62 l0 x16_1).f1).toList == ([] : List UInt8)) = false := beq_eq_false_iff_ne.mpr c21
                        have c21b1 : (((rd_T62 l0 x16_1).f1).toList != ([] : List UInt8)) = true := bne_iff_ne.mpr c21
                        have H' := Aside0.mk H
                        clear H
                        have hnb24 := NB124_122.out
                        have hnc24 := NB122_124.out
                        have hcz25_0 : w14.cell? ⟨gb124, 0, none⟩ = some (.int .u8 0) := (blk_cell BK124.out 0).trans rfl
                        have hcz25_1 : w14.cell? ⟨gb124, 1, none⟩ = some (.string (⟨#[]⟩ : ByteArray)) := (blk_cell BK124.out 1).trans rfl
                        have hfz25_0 := blk_frozen BK124.out 0
                        have hfz25_1 := blk_frozen BK124.out 1
                        go_wp2
                        go_meet
                        case rel => exact ⟨_, (true), (by first | rfl | (simp; done) | (simp [*]; done) | (simp [*]; generalize (rd_T44 l2 x16_1).f2.toList = zz; cases zz <;> rfl)), H', ⟨by have := HK1.out; first | omega | exact Nat.le_refl _⟩, ⟨by (with_reducible repeat (first | apply Kd.V_alloc | apply Kd.V_drewN | apply Kd.V_drew)); exact Kd.V_mono (Kd.V_far (p := ⟨gb124, 1, none⟩) (Kd.V_far (p := ⟨gb124, 0, none⟩) (Kd.V_mono HO_1.out (fun k_ hk => (⟨hk, hk.2⟩ : _ ∧ k_ ≠ gb124))) (fun _ hk => hk.2) (.int .u8 ((rd_T62 l0 x16_1).f0))) (fun _ hk => hk.2) (.string ((rd_T62 l0 x16_1).f1))) (fun _ hk => ⟨hk.1.1.1, ⟨hk.1.1.2, hk.1.2⟩⟩)⟩, ⟨by (with_reducible repeat (first | refine blk_drewN ?_ _ | refine blk_drew ?_ | refine blk_alloc ?_ _)); refine blk_far ?_ NB122_124.out _; (with_reducible repeat (first | refine blk_drewN ?_ _ | refine blk_drew ?_ | refine blk_alloc ?_ _)); refine blk_far ?_ NB122_124.out _; (with_reducible repeat (first | refine blk_drewN ?_ _ | refine blk_drew ?_ | refine blk_alloc ?_ _)); exact BK122.out⟩, ⟨by (with_reducible repeat (first | refine blk_drewN ?_ _ | refine blk_drew ?_ | refine blk_alloc ?_ _)); refine blk_put (cs := #[.int .u8 ((rd_T62 l0 x16_1).f0), .string (⟨#[]⟩ : ByteArray)]) ?_ 1 _ rfl; (with_reducible repeat (first | refine blk_drewN ?_ _ | refine blk_drew ?_ | refine blk_alloc ?_ _)); refine blk_put (cs := #[.int .u8 0, .string (⟨#[]⟩ : ByteArray)]) ?_ 0 _ rfl; (with_reducible repeat (first | refine blk_drewN ?_ _ | refine blk_drew ?_ | refine blk_alloc ?_ _)); exact BK124.out⟩, ⟨by repeat (first | (with_reducible first | exact HB.out | apply below_alloc | apply pw_below_drewN | apply below_drew1 | refine below_set ?_ GE122.out | refine below_set ?_ GE124.out) | exact HB.out)⟩⟩
                    · rw [if_neg c20] at H
                      have c20b0 : (((rd_T62 l0 x16_1).f0) == 66) = false := beq_eq_false_iff_ne.mpr c20
                      have c20b1 : (((rd_T62 l0 x16_1).f0) != 66) = true := bne_iff_ne.mpr c20
                      by_cases c26 : ((rd_T62 l0 x16_1).f0) = 69
                      · rw [if_pos c26] at H
                        have c26b0 : (((rd_T62 l0 x16_1).f0) == 69) = true := beq_iff_eq.mpr c26
                        have c26b1 : (((rd_T62 l0 x16_1).f0) != 69) = false := bne_eq_false_iff_eq.mpr c26
                        clear c26
                        by_cases c27 : ((rd_T62 l0 x16_1).f1).toList = ([] : List UInt8)
                        · rw [if_pos c27] at H
                          have c27b0 : (((rd_T62 l0 x16_1).f1).toList == ([] : List UInt8)) = true := beq_iff_eq.mpr c27
                          have c27b1 : (((rd_T62 l0 x16_1).f1).toList != ([] : List UInt8)) = false := bne_eq_false_iff_eq.mpr c27
                          clear c27
                          have H' := Aside0.mk H
                          clear H
                          have hnb28 := NB124_122.out
                          have hnc28 := NB122_124.out
                          have hcz29_0 : w14.cell? ⟨gb124, 0, none⟩ = some (.int .u8 0) := (blk_cell BK124.out 0).trans rfl
                          have hcz29_1 : w14.cell? ⟨gb124, 1, none⟩ = some (.string (⟨#[]⟩ : ByteArray)) := (blk_cell BK124.out 1).trans rfl
                          have hfz29_0 := blk_frozen BK124.out 0
                          have hfz29_1 := blk_frozen BK124.out 1
                          go_wp2
                          go_meet
                          case rel => exact ⟨_, (decide ((((rd_T62 l0 x16_1).f1).size : Int) > 48)), (by first | rfl | (simp; done) | (simp [*]; done) | (simp [*]; generalize (rd_T44 l2 x16_1).f2.toList = zz; cases zz <;> rfl)), H', ⟨by have := HK1.out; first | omega | exact Nat.le_refl _⟩, ⟨by (with_reducible repeat (first | apply Kd.V_alloc | apply Kd.V_drewN | apply Kd.V_drew)); exact Kd.V_mono (Kd.V_far (p := ⟨gb124, 1, none⟩) (Kd.V_far (p := ⟨gb124, 0, none⟩) (Kd.V_mono HO_1.out (fun k_ hk => (⟨hk, hk.2⟩ : _ ∧ k_ ≠ gb124))) (fun _ hk => hk.2) (.int .u8 ((rd_T62 l0 x16_1).f0))) (fun _ hk => hk.2) (.string ((rd_T62 l0 x16_1).f1))) (fun _ hk => ⟨hk.1.1.1, ⟨hk.1.1.2, hk.1.2⟩⟩)⟩, ⟨by (with_reducible repeat (first | refine blk_drewN ?_ _ | refine blk_drew ?_ | refine blk_alloc ?_ _)); refine blk_far ?_ NB122_124.out _; (with_reducible repeat (first | refine blk_drewN ?_ _ | refine blk_drew ?_ | refine blk_alloc ?_ _)); refine blk_far ?_ NB122_124.out _; (with_reducible repeat (first | refine blk_drewN ?_ _ | refine blk_drew ?_ | refine blk_alloc ?_ _)); exact BK122.out⟩, ⟨by (with_reducible repeat (first | refine blk_drewN ?_ _ | refine blk_drew ?_ | refine blk_alloc ?_ _)); refine blk_put (cs := #[.int .u8 ((rd_T62 l0 x16_1).f0), .string (⟨#[]⟩ : ByteArray)]) ?_ 1 _ rfl; (with_reducible repeat (first | refine blk_drewN ?_ _ | refine blk_drew ?_ | refine blk_alloc ?_ _)); refine blk_put (cs := #[.int .u8 0, .string (⟨#[]⟩ : ByteArray)]) ?_ 0 _ rfl; (with_reducible repeat (first | refine blk_drewN ?_ _ | refine blk_drew ?_ | refine blk_alloc ?_ _)); exact BK124.out⟩, ⟨by repeat (first | (with_reducible first | exact HB.out | apply below_alloc | apply pw_below_drewN | apply below_drew1 | refine below_set ?_ GE122.out | refine below_set ?_ GE124.out) | exact HB.out)⟩⟩
                        · rw [if_neg c27] at H
                          have c27b0 : (((rd_T62 l0 x16_1).f1).toList == ([] : List UInt8)) = false := beq_eq_false_iff_ne.mpr c27
                          have c27b1 : (((rd_T62 l0 x16_1).f1).toList != ([] : List UInt8)) = true := bne_iff_ne.mpr c27
                          have H' := Aside0.mk H
                          clear H
                          have hnb30 := NB124_122.out
                          have hnc30 := NB122_124.out
                          have hcz31_0 : w14.cell? ⟨gb124, 0, none⟩ = some (.int .u8 0) := (blk_cell BK124.out 0).trans rfl
                          have hcz31_1 : w14.cell? ⟨gb124, 1, none⟩ = some (.string (⟨#[]⟩ : ByteArray)) := (blk_cell BK124.out 1).trans rfl
                          have hfz31_0 := blk_frozen BK124.out 0
                          have hfz31_1 := blk_frozen BK124.out 1
                          go_wp2
                          go_meet
                          case rel => exact ⟨_, (true), (by first | rfl | (simp; done) | (simp [*]; done) | (simp [*]; generalize (rd_T44 l2 x16_1).f2.toList = zz; cases zz <;> rfl)), H', ⟨by have := HK1.out; first | omega | exact Nat.le_refl _⟩, ⟨by (with_reducible repeat (first | apply Kd.V_alloc | apply Kd.V_drewN | apply Kd.V_drew)); exact Kd.V_mono (Kd.V_far (p := ⟨gb124, 1, none⟩) (Kd.V_far (p := ⟨gb124, 0, none⟩) (Kd.V_mono HO_1.out (fun k_ hk => (⟨hk, hk.2⟩ : _ ∧ k_ ≠ gb124))) (fun _ hk => hk.2) (.int .u8 ((rd_T62 l0 x16_1).f0))) (fun _ hk => hk.2) (.string ((rd_T62 l0 x16_1).f1))) (fun _ hk => ⟨hk.1.1.1, ⟨hk.1.1.2, hk.1.2⟩⟩)⟩, ⟨by (with_reducible repeat (first | refine blk_drewN ?_ _ | refine blk_drew ?_ | refine blk_alloc ?_ _)); refine blk_far ?_ NB122_124.out _; (with_reducible repeat (first | refine blk_drewN ?_ _ | refine blk_drew ?_ | refine blk_alloc ?_ _)); refine blk_far ?_ NB122_124.out _; (with_reducible repeat (first | refine blk_drewN ?_ _ | refine blk_drew ?_ | refine blk_alloc ?_ _)); exact BK122.out⟩, ⟨by (with_reducible repeat (first | refine blk_drewN ?_ _ | refine blk_drew ?_ | refine blk_alloc ?_ _)); refine blk_put (cs := #[.int .u8 ((rd_T62 l0 x16_1).f0), .string (⟨#[]⟩ : ByteArray)]) ?_ 1 _ rfl; (with_reducible repeat (first | refine blk_drewN ?_ _ | refine blk_drew ?_ | refine blk_alloc ?_ _)); refine blk_put (cs := #[.int .u8 0, .string (⟨#[]⟩ : ByteArray)]) ?_ 0 _ rfl; (with_reducible repeat (first | refine blk_drewN ?_ _ | refine blk_drew ?_ | refine blk_alloc ?_ _)); exact BK124.out⟩, ⟨by repeat (first | (with_reducible first | exact HB.out | apply below_alloc | apply pw_below_drewN | apply below_drew1 | refine below_set ?_ GE122.out | refine below_set ?_ GE124.out) | exact HB.out)⟩⟩
                      · rw [if_neg c26] at H
                        have c26b0 : (((rd_T62 l0 x16_1).f0) == 69) = false := beq_eq_false_iff_ne.mpr c26
                        have c26b1 : (((rd_T62 l0 x16_1).f0) != 69) = true := bne_iff_ne.mpr c26
                        have H' := Aside0.mk H
                        clear H
                        have hnb32 := NB124_122.out
                        have hnc32 := NB122_124.out
                        have hcz33_0 : w14.cell? ⟨gb124, 0, none⟩ = some (.int .u8 0) := (blk_cell BK124.out 0).trans rfl
                        have hcz33_1 : w14.cell? ⟨gb124, 1, none⟩ = some (.string (⟨#[]⟩ : ByteArray)) := (blk_cell BK124.out 1).trans rfl
                        have hfz33_0 := blk_frozen BK124.out 0
                        have hfz33_1 := blk_frozen BK124.out 1
                        go_wp2
                        go_meet
                        case rel => exact ⟨_, (true), (by first | rfl | (simp; done) | (simp [*]; done) | (simp [*]; generalize (rd_T44 l2 x16_1).f2.toList = zz; cases zz <;> rfl)), H', ⟨by have := HK1.out; first | omega | exact Nat.le_refl _⟩, ⟨by (with_reducible repeat (first | apply Kd.V_alloc | apply Kd.V_drewN | apply Kd.V_drew)); exact Kd.V_mono (Kd.V_far (p := ⟨gb124, 1, none⟩) (Kd.V_far (p := ⟨gb124, 0, none⟩) (Kd.V_mono HO_1.out (fun k_ hk => (⟨hk, hk.2⟩ : _ ∧ k_ ≠ gb124))) (fun _ hk => hk.2) (.int .u8 ((rd_T62 l0 x16_1).f0))) (fun _ hk => hk.2) (.string ((rd_T62 l0 x16_1).f1))) (fun _ hk => ⟨hk.1.1.1, ⟨hk.1.1.2, hk.1.2⟩⟩)⟩, ⟨by (with_reducible repeat (first | refine blk_drewN ?_ _ | refine blk_drew ?_ | refine blk_alloc ?_ _)); refine blk_far ?_ NB122_124.out _; (with_reducible repeat (first | refine blk_drewN ?_ _ | refine blk_drew ?_ | refine blk_alloc ?_ _)); refine blk_far ?_ NB122_124.out _; (with_reducible repeat (first | refine blk_drewN ?_ _ | refine blk_drew ?_ | refine blk_alloc ?_ _)); exact BK122.out⟩, ⟨by (with_reducible repeat (first | refine blk_drewN ?_ _ | refine blk_drew ?_ | refine blk_alloc ?_ _)); refine blk_put (cs := #[.int .u8 ((rd_T62 l0 x16_1).f0), .string (⟨#[]⟩ : ByteArray)]) ?_ 1 _ rfl; (with_reducible repeat (first | refine blk_drewN ?_ _ | refine blk_drew ?_ | refine blk_alloc ?_ _)); refine blk_put (cs := #[.int .u8 0, .string (⟨#[]⟩ : ByteArray)]) ?_ 0 _ rfl; (with_reducible repeat (first | refine blk_drewN ?_ _ | refine blk_drew ?_ | refine blk_alloc ?_ _)); exact BK124.out⟩, ⟨by repeat (first | (with_reducible first | exact HB.out | apply below_alloc | apply pw_below_drewN | apply below_drew1 | refine below_set ?_ GE122.out | refine below_set ?_ GE124.out) | exact HB.out)⟩⟩
                case rest =>
                  clear HC11
                  try clear c1
                  try clear p1
                  try clear q1
                  try clear hx1
                  try clear c2
                  try clear p2
                  try clear c3
                  try clear c4
                  try clear c4b0
                  try clear c5
                  try clear c5b0
                  try clear c6
                  try clear c6b0
                  try clear c7
                  try clear c7b0
                  try clear c10
                  try clear c10b0
                  try clear p12
                  try clear q12
                  try clear hx12
                  try clear c15
                  try clear c17
                  try clear c17b0
                  try clear c17b1
                  try clear c18
                  try clear c19
                  try clear c20
                  try clear c20b0
                  try clear c20b1
                  try clear c21
                  try clear c21b0
                  try clear c21b1
                  try clear c22
                  try clear c24
                  try clear c26
                  try clear c26b0
                  try clear c26b1
                  try clear c27
                  try clear c27b0
                  try clear c27b1
                  try clear c28
                  try clear c30
                  try clear c32
                  try clear hcz13_0
                  try clear hcz13_1
                  try clear hcz13_2
                  try clear hcz16_0
                  try clear hcz16_1
                  try clear hcz19_0
                  try clear hcz19_1
                  try clear hcz23_0
                  try clear hcz23_1
                  try clear hcz25_0
                  try clear hcz25_1
                  try clear hcz29_0
                  try clear hcz29_1
                  try clear hcz31_0
                  try clear hcz31_1
                  try clear hcz33_0
                  try clear hcz33_1
                  try clear hcz9_0
                  try clear hcz9_1
                  try clear hcz9_2
                  try clear hfz13_0
                  try clear hfz13_1
                  try clear hfz13_2
                  try clear hfz16_0
                  try clear hfz16_1
                  try clear hfz19_0
                  try clear hfz19_1
                  try clear hfz23_0
                  try clear hfz23_1
                  try clear hfz25_0
                  try clear hfz25_1
                  try clear hfz29_0
                  try clear hfz29_1
                  try clear hfz31_0
                  try clear hfz31_1
                  try clear hfz33_0
                  try clear hfz33_1
                  try clear hfz9_0
                  try clear hfz9_1
                  try clear hfz9_2
                  try clear hx121_0
                  try clear hx121_1
                  try clear hx121_2
                  try clear hx123_0
                  try clear hx123_1
                  try clear p121
                  try clear p123
                  try clear p2
                  try clear q121
                  try clear q123
                  subst hqq
                  obtain ⟨kq, x59_10, rfl, HA, HJ10, HO_1, BK122, BK124, HB⟩ := hcut
                  cases kq with
                  | zero => exact absurd HA.out (by simp [judge_Fits.j1])
                  | succ kj10 =>
                    have H := HA.out
                    clear HA
                    simp only [judge_Fits.j1] at H
                    by_cases c34 : x59_10 = true
                    · subst c34
                      have H1 : (some (x16_1, 90)) = some (r1, r2) := by rw [if_pos rfl] at H; exact H
                      clear H
                      have H := H1
                      clear H1
                      simp only [Option.some.injEq, Prod.mk.injEq] at H
                      obtain ⟨rfl, rfl⟩ := H
                      go_wp2
                      go_ret2
                      exact ⟨by first | rfl | (simp [errW_none, errW_some] <;> rfl) | (simp [*, errW_none, errW_some] <;> rfl), by repeat (first | (with_reducible first | exact HB.out | apply below_alloc | apply pw_below_drewN | apply below_drew1 | refine below_set ?_ GE122.out | refine below_set ?_ GE124.out) | exact HB.out)⟩
                    · replace c34 := Bool.eq_false_iff.mpr c34
                      subst c34
                      have H1 : (if ((rd_T44 l2 x16_1).f0) = 5 then (if ((rd_T44 l2 x16_1).f1) ≥ 1 then (judge_Fits.j2 kj10 l0 x1_1 x8_1 x16_1 (decide (((rd_T44 l2 x16_1).f1) ≤ 7)) l2 (l2.length : Int) x16_1 ((rd_T44 l2 x16_1).f0) ((rd_T44 l2 x16_1).f1) ((rd_T44 l2 x16_1).f2) ((rd_T62 l0 x16_1).f0) ((rd_T62 l0 x16_1).f1)) else (judge_Fits.j2 kj10 l0 x1_1 x8_1 x16_1 false l2 (l2.length : Int) x16_1 ((rd_T44 l2 x16_1).f0) ((rd_T44 l2 x16_1).f1) ((rd_T44 l2 x16_1).f2) ((rd_T62 l0 x16_1).f0) ((rd_T62 l0 x16_1).f1))) else (judge_Fits.j2 kj10 l0 x1_1 x8_1 x16_1 (((rd_T44 l2 x16_1).f1) == 0) l2 (l2.length : Int) x16_1 ((rd_T44 l2 x16_1).f0) ((rd_T44 l2 x16_1).f1) ((rd_T44 l2 x16_1).f2) ((rd_T62 l0 x16_1).f0) ((rd_T62 l0 x16_1).f1))) = some (r1, r2) := by rw [if_neg (show ¬ (false = true) by decide)] at H; exact H
                      clear H
                      have H := H1
                      clear H1
                      have HC35 := Aside0.mk H
                      clear H
                      have hnb36 := NB122_124.out
                      have hnc36 := NB124_122.out
                      have hcz37_0 : wc.cell? ⟨gb122, 0, none⟩ = some (.int .i64 ((rd_T44 l2 x16_1).f0)) := (blk_cell BK122.out 0).trans rfl
                      have hcz37_1 : wc.cell? ⟨gb122, 1, none⟩ = some (.int .i64 ((rd_T44 l2 x16_1).f1)) := (blk_cell BK122.out 1).trans rfl
                      have hcz37_2 : wc.cell? ⟨gb122, 2, none⟩ = some (.string ((rd_T44 l2 x16_1).f2)) := (blk_cell BK122.out 2).trans rfl
                      have hfz37_0 := blk_frozen BK122.out 0
                      have hfz37_1 := blk_frozen BK122.out 1
                      have hfz37_2 := blk_frozen BK122.out 2
                      go_upto_if 66 with (fail)
                      go_cut [13] (fun v13 wc => ∃ (kq : Nat) (x13_34 : Bool), v13 = .bool x13_34 ∧ Aside0 (judge_Fits.j2 kq l0 x1_1 x8_1 x16_1 x13_34 l2 (l2.length : Int) x16_1 ((rd_T44 l2 x16_1).f0) ((rd_T44 l2 x16_1).f1) ((rd_T44 l2 x16_1).f2) ((rd_T62 l0 x16_1).f0) ((rd_T62 l0 x16_1).f1) = some (r1, r2)) ∧ Aside0 (kq ≤ kj10) ∧ Aside0 (Kd.V Kd.string 9 wc w.heap.size (fun k_ => (P1_ k_ ∨ w.heap.size ≤ k_) ∧ k_ ≠ gb122 ∧ k_ ≠ gb124) u1 x1_1) ∧ Aside0 (wc.heap[gb122]? = some (.cells #[.int .i64 ((rd_T44 l2 x16_1).f0), .int .i64 ((rd_T44 l2 x16_1).f1), .string ((rd_T44 l2 x16_1).f2)] 44 (0, 0))) ∧ Aside0 (wc.heap[gb124]? = some (.cells #[.int .u8 ((rd_T62 l0 x16_1).f0), .string ((rd_T62 l0 x16_1).f1)] 62 (0, 0))) ∧ Aside0 (Below w.heap.size w wc))
                      case first =>
                        have H := HC35.out
                        clear HC35
                        by_cases c38 : ((rd_T44 l2 x16_1).f0) = 5
                        · rw [if_pos c38] at H
                          have c38b0 : (((rd_T44 l2 x16_1).f0) == 5) = true := beq_iff_eq.mpr c38
                          have c38b1 : (((rd_T44 l2 x16_1).f0) != 5) = false := bne_eq_false_iff_eq.mpr c38
                          clear c38
                          (first | rw [c38b0] | (simp only [i64_w, i32_w]; rw [c38b0]) | skip)
                          by_cases c39 : ((rd_T44 l2 x16_1).f1) ≥ 1
                          · rw [if_pos c39] at H
                            have c39b0 : decide (1 ≤ ((rd_T44 l2 x16_1).f1)) = true := decide_eq_true c39
                            clear c39
                            have H' := Aside0.mk H
                            clear H
                            have hnb40 := NB122_124.out
                            have hnc40 := NB124_122.out
                            have hcz41_0 : wc.cell? ⟨gb122, 0, none⟩ = some (.int .i64 ((rd_T44 l2 x16_1).f0)) := (blk_cell BK122.out 0).trans rfl
                            have hcz41_1 : wc.cell? ⟨gb122, 1, none⟩ = some (.int .i64 ((rd_T44 l2 x16_1).f1)) := (blk_cell BK122.out 1).trans rfl
                            have hcz41_2 : wc.cell? ⟨gb122, 2, none⟩ = some (.string ((rd_T44 l2 x16_1).f2)) := (blk_cell BK122.out 2).trans rfl
                            have hfz41_0 := blk_frozen BK122.out 0
                            have hfz41_1 := blk_frozen BK122.out 1
                            have hfz41_2 := blk_frozen BK122.out 2
                            go_wp2
                            go_meet
                            case rel => exact ⟨_, (decide (((rd_T44 l2 x16_1).f1) ≤ 7)), (by first | rfl | (simp; done) | (simp [*]; done) | (simp [*]; generalize (rd_T44 l2 x16_1).f2.toList = zz; cases zz <;> rfl)), H', ⟨by have := HK1.out; have := HJ10.out; first | omega | exact Nat.le_refl _⟩, ⟨by (with_reducible repeat (first | apply Kd.V_alloc | apply Kd.V_drewN | apply Kd.V_drew)); exact HO_1.out⟩, ⟨by (with_reducible repeat (first | refine blk_drewN ?_ _ | refine blk_drew ?_ | refine blk_alloc ?_ _)); exact BK122.out⟩, ⟨by (with_reducible repeat (first | refine blk_drewN ?_ _ | refine blk_drew ?_ | refine blk_alloc ?_ _)); exact BK124.out⟩, ⟨by repeat (first | (with_reducible first | exact HB.out | apply below_alloc | apply pw_below_drewN | apply below_drew1 | refine below_set ?_ GE122.out | refine below_set ?_ GE124.out) | exact HB.out)⟩⟩
                          · rw [if_neg c39] at H
                            have c39b0 : decide (1 ≤ ((rd_T44 l2 x16_1).f1)) = false := decide_eq_false c39
                            clear c39
                            have H' := Aside0.mk H
                            clear H
                            have hnb42 := NB122_124.out
                            have hnc42 := NB124_122.out
                            have hcz43_0 : wc.cell? ⟨gb122, 0, none⟩ = some (.int .i64 ((rd_T44 l2 x16_1).f0)) := (blk_cell BK122.out 0).trans rfl
                            have hcz43_1 : wc.cell? ⟨gb122, 1, none⟩ = some (.int .i64 ((rd_T44 l2 x16_1).f1)) := (blk_cell BK122.out 1).trans rfl
                            have hcz43_2 : wc.cell? ⟨gb122, 2, none⟩ = some (.string ((rd_T44 l2 x16_1).f2)) := (blk_cell BK122.out 2).trans rfl
                            have hfz43_0 := blk_frozen BK122.out 0
                            have hfz43_1 := blk_frozen BK122.out 1
                            have hfz43_2 := blk_frozen BK122.out 2
                            go_wp2
                            go_meet
                            case rel => exact ⟨_, (false), (by first | rfl | (simp; done) | (simp [*]; done) | (simp [*]; generalize (rd_T44 l2 x16_1).f2.toList = zz; cases zz <;> rfl)), H', ⟨by have := HK1.out; have := HJ10.out; first | omega | exact Nat.le_refl _⟩, ⟨by (with_reducible repeat (first | apply Kd.V_alloc | apply Kd.V_drewN | apply Kd.V_drew)); exact HO_1.out⟩, ⟨by (with_reducible repeat (first | refine blk_drewN ?_ _ | refine blk_drew ?_ | refine blk_alloc ?_ _)); exact BK122.out⟩, ⟨by (with_reducible repeat (first | refine blk_drewN ?_ _ | refine blk_drew ?_ | refine blk_alloc ?_ _)); exact BK124.out⟩, ⟨by repeat (first | (with_reducible first | exact HB.out | apply below_alloc | apply pw_below_drewN | apply below_drew1 | refine below_set ?_ GE122.out | refine below_set ?_ GE124.out) | exact HB.out)⟩⟩
                        · rw [if_neg c38] at H
                          have c38b0 : (((rd_T44 l2 x16_1).f0) == 5) = false := beq_eq_false_iff_ne.mpr c38
                          have c38b1 : (((rd_T44 l2 x16_1).f0) != 5) = true := bne_iff_ne.mpr c38
                          (first | rw [c38b0] | (simp only [i64_w, i32_w]; rw [c38b0]) | skip)
                          have H' := Aside0.mk H
                          clear H
                          go_wp2
                          go_meet
                          case rel => exact ⟨_, ((((rd_T44 l2 x16_1).f1) == 0)), (by first | rfl | (simp; done) | (simp [*]; done) | (simp [*]; generalize (rd_T44 l2 x16_1).f2.toList = zz; cases zz <;> rfl)), H', ⟨by have := HK1.out; have := HJ10.out; first | omega | exact Nat.le_refl _⟩, ⟨by (with_reducible repeat (first | apply Kd.V_alloc | apply Kd.V_drewN | apply Kd.V_drew)); exact HO_1.out⟩, ⟨by (with_reducible repeat (first | refine blk_drewN ?_ _ | refine blk_drew ?_ | refine blk_alloc ?_ _)); exact BK122.out⟩, ⟨by (with_reducible repeat (first | refine blk_drewN ?_ _ | refine blk_drew ?_ | refine blk_alloc ?_ _)); exact BK124.out⟩, ⟨by repeat (first | (with_reducible first | exact HB.out | apply below_alloc | apply pw_below_drewN | apply below_drew1 | refine below_set ?_ GE122.out | refine below_set ?_ GE124.out) | exact HB.out)⟩⟩
                      case rest =>
                        clear HC35
                        try clear c1
                        try clear p1
                        try clear q1
                        try clear hx1
                        try clear c2
                        try clear p2
                        try clear c3
                        try clear c4
                        try clear c4b0
                        try clear c5
                        try clear c5b0
                        try clear c6
                        try clear c6b0
                        try clear c7
                        try clear c7b0
                        try clear c10
                        try clear c10b0
                        try clear p12
                        try clear q12
                        try clear hx12
                        try clear c15
                        try clear c17
                        try clear c17b0
                        try clear c17b1
                        try clear c18
                        try clear c19
                        try clear c20
                        try clear c20b0
                        try clear c20b1
                        try clear c21
                        try clear c21b0
                        try clear c21b1
                        try clear c22
                        try clear c24
                        try clear c26
                        try clear c26b0
                        try clear c26b1
                        try clear c27
                        try clear c27b0
                        try clear c27b1
                        try clear c28
                        try clear c30
                        try clear c32
                        try clear c34
                        try clear c36
                        try clear c38
                        try clear c38b0
                        try clear c38b1
                        try clear c39
                        try clear c39b0
                        try clear c40
                        try clear c42
                        try clear hcz13_0
                        try clear hcz13_1
                        try clear hcz13_2
                        try clear hcz16_0
                        try clear hcz16_1
                        try clear hcz19_0
                        try clear hcz19_1
                        try clear hcz23_0
                        try clear hcz23_1
                        try clear hcz25_0
                        try clear hcz25_1
                        try clear hcz29_0
                        try clear hcz29_1
                        try clear hcz31_0
                        try clear hcz31_1
                        try clear hcz33_0
                        try clear hcz33_1
                        try clear hcz37_0
                        try clear hcz37_1
                        try clear hcz37_2
                        try clear hcz41_0
                        try clear hcz41_1
                        try clear hcz41_2
                        try clear hcz43_0
                        try clear hcz43_1
                        try clear hcz43_2
                        try clear hcz9_0
                        try clear hcz9_1
                        try clear hcz9_2
                        try clear hfz13_0
                        try clear hfz13_1
                        try clear hfz13_2
                        try clear hfz16_0
                        try clear hfz16_1
                        try clear hfz19_0
                        try clear hfz19_1
                        try clear hfz23_0
                        try clear hfz23_1
                        try clear hfz25_0
                        try clear hfz25_1
                        try clear hfz29_0
                        try clear hfz29_1
                        try clear hfz31_0
                        try clear hfz31_1
                        try clear hfz33_0
                        try clear hfz33_1
                        try clear hfz37_0
                        try clear hfz37_1
                        try clear hfz37_2
                        try clear hfz41_0
                        try clear hfz41_1
                        try clear hfz41_2
                        try clear hfz43_0
                        try clear hfz43_1
                        try clear hfz43_2
                        try clear hfz9_0
                        try clear hfz9_1
                        try clear hfz9_2
                        try clear hx121_0
                        try clear hx121_1
                        try clear hx121_2
                        try clear hx123_0
                        try clear hx123_1
                        try clear p1
                        try clear p12
                        try clear p121
                        try clear p123
                        try clear p2
                        try clear q1
                        try clear q12
                        try clear q121
                        try clear q123
                        obtain ⟨kq, x13_34, rfl, HA, HJ34, HO_1, BK122, BK124, HB⟩ := hcut
                        cases kq with
                        | zero => exact absurd HA.out (by simp [judge_Fits.j2])
                        | succ kj34 =>
                          have H := HA.out
                          clear HA
                          simp only [judge_Fits.j2] at H
                          have HC44 := Aside0.mk H
                          clear H
                          go_upto_region 14 with (fail)
                          go_cut [96] (fun v96 wc => ∃ (kq : Nat) (x96_43 : Bool), v96 = .bool x96_43 ∧ Aside0 (judge_Fits.j3 kq l0 x1_1 x8_1 x16_1 l2 (l2.length : Int) x16_1 x96_43 ((rd_T44 l2 x16_1).f0) ((rd_T44 l2 x16_1).f1) ((rd_T44 l2 x16_1).f2) = some (r1, r2)) ∧ Aside0 (kq ≤ kj34) ∧ Aside0 (Kd.V Kd.string 9 wc w.heap.size (fun k_ => (P1_ k_ ∨ w.heap.size ≤ k_) ∧ k_ ≠ gb122 ∧ k_ ≠ gb124) u1 x1_1) ∧ Aside0 (wc.heap[gb122]? = some (.cells #[.int .i64 ((rd_T44 l2 x16_1).f0), .int .i64 ((rd_T44 l2 x16_1).f1), .string ((rd_T44 l2 x16_1).f2)] 44 (0, 0))) ∧ Aside0 (wc.heap[gb124]? = some (.cells #[.int .u8 ((rd_T62 l0 x16_1).f0), .string ((rd_T62 l0 x16_1).f1)] 62 (0, 0))) ∧ Aside0 (Below w.heap.size w wc))
                          case first =>
                            have H := HC44.out
                            clear HC44
                            replace H := Option.bind_eq_some_iff.mp H
                            obtain ⟨t125, A450, H⟩ := H
                            replace H : ((slices_Contains_int_int.f kj34 t125 ((rd_T44 l2 x16_1).f0)).bind fun t128 => (if t128 = true then (if x13_34 = true then (if ((rd_T44 l2 x16_1).f0) = 2 then (judge_Fits.j3 kj34 l0 x1_1 x8_1 x16_1 l2 (l2.length : Int) x16_1 false ((rd_T44 l2 x16_1).f0) ((rd_T44 l2 x16_1).f1) ((rd_T44 l2 x16_1).f2)) else (judge_Fits.j3 kj34 l0 x1_1 x8_1 x16_1 l2 (l2.length : Int) x16_1 (((rd_T44 l2 x16_1).f2).toList != ([] : List UInt8)) ((rd_T44 l2 x16_1).f0) ((rd_T44 l2 x16_1).f1) ((rd_T44 l2 x16_1).f2))) else (judge_Fits.j3 kj34 l0 x1_1 x8_1 x16_1 l2 (l2.length : Int) x16_1 true ((rd_T44 l2 x16_1).f0) ((rd_T44 l2 x16_1).f1) ((rd_T44 l2 x16_1).f2))) else (judge_Fits.j3 kj34 l0 x1_1 x8_1 x16_1 l2 (l2.length : Int) x16_1 true ((rd_T44 l2 x16_1).f0) ((rd_T44 l2 x16_1).f1) ((rd_T44 l2 x16_1).f2)))) = some (r1, r2) := H
                            have A45 := Aside0.mk A450
                            clear A450
                            replace H := Option.bind_eq_some_iff.mp H
                            obtain ⟨t128, A460, H⟩ := H
                            replace H : (if t128 = true then (if x13_34 = true then (if ((rd_T44 l2 x16_1).f0) = 2 then (judge_Fits.j3 kj34 l0 x1_1 x8_1 x16_1 l2 (l2.length : Int) x16_1 false ((rd_T44 l2 x16_1).f0) ((rd_T44 l2 x16_1).f1) ((rd_T44 l2 x16_1).f2)) else (judge_Fits.j3 kj34 l0 x1_1 x8_1 x16_1 l2 (l2.length : Int) x16_1 (((rd_T44 l2 x16_1).f2).toList != ([] : List UInt8)) ((rd_T44 l2 x16_1).f0) ((rd_T44 l2 x16_1).f1) ((rd_T44 l2 x16_1).f2))) else (judge_Fits.j3 kj34 l0 x1_1 x8_1 x16_1 l2 (l2.length : Int) x16_1 true ((rd_T44 l2 x16_1).f0) ((rd_T44 l2 x16_1).f1) ((rd_T44 l2 x16_1).f2))) else (judge_Fits.j3 kj34 l0 x1_1 x8_1 x16_1 l2 (l2.length : Int) x16_1 true ((rd_T44 l2 x16_1).f0) ((rd_T44 l2 x16_1).f1) ((rd_T44 l2 x16_1).f2))) = some (r1, r2) := H
                            have A46 := Aside0.mk A460
                            clear A460
                            by_cases c47 : t128 = true
                            · subst c47
                              have H1 : (if x13_34 = true then (if ((rd_T44 l2 x16_1).f0) = 2 then (judge_Fits.j3 kj34 l0 x1_1 x8_1 x16_1 l2 (l2.length : Int) x16_1 false ((rd_T44 l2 x16_1).f0) ((rd_T44 l2 x16_1).f1) ((rd_T44 l2 x16_1).f2)) else (judge_Fits.j3 kj34 l0 x1_1 x8_1 x16_1 l2 (l2.length : Int) x16_1 (((rd_T44 l2 x16_1).f2).toList != ([] : List UInt8)) ((rd_T44 l2 x16_1).f0) ((rd_T44 l2 x16_1).f1) ((rd_T44 l2 x16_1).f2))) else (judge_Fits.j3 kj34 l0 x1_1 x8_1 x16_1 l2 (l2.length : Int) x16_1 true ((rd_T44 l2 x16_1).f0) ((rd_T44 l2 x16_1).f1) ((rd_T44 l2 x16_1).f2))) = some (r1, r2) := by rw [if_pos rfl] at H; exact H
                              clear H
                              have H := H1
                              clear H1
                              by_cases c48 : x13_34 = true
                              · subst c48
                                have H1 : (if ((rd_T44 l2 x16_1).f0) = 2 then (judge_Fits.j3 kj34 l0 x1_1 x8_1 x16_1 l2 (l2.length : Int) x16_1 false ((rd_T44 l2 x16_1).f0) ((rd_T44 l2 x16_1).f1) ((rd_T44 l2 x16_1).f2)) else (judge_Fits.j3 kj34 l0 x1_1 x8_1 x16_1 l2 (l2.length : Int) x16_1 (((rd_T44 l2 x16_1).f2).toList != ([] : List UInt8)) ((rd_T44 l2 x16_1).f0) ((rd_T44 l2 x16_1).f1) ((rd_T44 l2 x16_1).f2))) = some (r1, r2) := by rw [if_pos rfl] at H; exact H
                                clear H
                                have H := H1
                                clear H1
                                by_cases c49 : ((rd_T44 l2 x16_1).f0) = 2
                                · rw [if_pos c49] at H
                                  have c49b0 : (((rd_T44 l2 x16_1).f0) == 2) = true := beq_iff_eq.mpr c49
                                  have c49b1 : (((rd_T44 l2 x16_1).f0) != 2) = false := bne_eq_false_iff_eq.mpr c49
                                  clear c49
                                  (first | rw [c49b0] | (simp only [i64_w, i32_w]; rw [c49b0]) | skip)
                                  have H' := Aside0.mk H
                                  clear H
                                  try go_wp2
                                  have n0_ := Aside0.mk (Kd.V_drew HO_1.out)
                                  have n1_ := Aside0.mk (blk_drew BK122.out)
                                  have n2_ := Aside0.mk (blk_drew BK124.out)
                                  have n3_ := Aside0.mk (below_drew1 HB.out)
                                  clear HO_1
                                  clear BK122
                                  clear BK124
                                  clear HB
                                  have HO_1 := n0_
                                  have BK122 := n1_
                                  have BK124 := n2_
                                  have HB := n3_
                                  clear n0_ n1_ n2_ n3_
                                  refine start_ (n := 22) (S := fun w' => w'.cell? ⟨gb124, 0, none⟩ = some (.int .u8 ((rd_T62 l0 x16_1).f0)) ∧ w'.cell? ⟨gb124, 1, none⟩ = some (.string ((rd_T62 l0 x16_1).f1)) ∧ w'.cell? ⟨gb122, 0, none⟩ = some (.int .i64 ((rd_T44 l2 x16_1).f0)) ∧ w'.cell? ⟨gb122, 1, none⟩ = some (.int .i64 ((rd_T44 l2 x16_1).f1)) ∧ w'.cell? ⟨gb122, 2, none⟩ = some (.string ((rd_T44 l2 x16_1).f2))) (ds := []) #[false, false, false, false, false, false, false, false, false, false, false, false, false, false, false, false, false, false, false, false, false, false] (by kernel_rfl) rfl rfl ⟨(blk_cell BK124.out 0).trans rfl, (blk_cell BK124.out 1).trans rfl, (blk_cell BK122.out 0).trans rfl, (blk_cell BK122.out 1).trans rfl, (blk_cell BK122.out 2).trans rfl⟩ (fun hHeld => ?_); refine with_tabW judge_Fits.tab14 judge_Fits.bits14 (fun HT_ HW_ => ?_)
                                  generalize wc.drew = w50 at HO_1 BK122 BK124 HB hHeld ⊢
                                  refine pure_ (i := 0) (N := some 75) (v := ?_) (a' := ?_) #[true, false, false, false, false, false, false, false, false, false, false, false, false, false, false, false, false, false, false, false, false, false] rfl rfl (any_of HT_.out (by kernel_rfl)) (fun _ _ _ h => h) (Or.inl ⟨by rfl, ?_⟩) ?_ ?_
                                  rotate_left
                                  · intro w'
                                    go_simp
                                    with_reducible rfl
                                  rotate_left
                                  · simp only [Act.put, List.setIfInBounds_toArray, List.set_cons_zero, List.set_cons_succ, i64_w, i32_w]
                                    rfl
                                  refine pure_ (i := 1) (N := some 76) (v := ?_) (a' := ?_) #[true, true, false, false, false, false, false, false, false, false, false, false, false, false, false, false, false, false, false, false, false, false] rfl rfl (any_of HT_.out (by kernel_rfl)) (fun _ _ _ h => h) (Or.inl ⟨by rfl, ?_⟩) ?_ ?_
                                  rotate_left
                                  · intro w'
                                    go_simp
                                    with_reducible rfl
                                  rotate_left
                                  · simp only [Act.put, List.setIfInBounds_toArray, List.set_cons_zero, List.set_cons_succ, i64_w, i32_w]
                                    rfl
                                  refine pure_ (i := 4) (N := some 79) (v := ?_) (a' := ?_) #[true, true, false, false, true, false, false, false, false, false, false, false, false, false, false, false, false, false, false, false, false, false] rfl rfl (any_of HT_.out (by kernel_rfl)) (fun _ _ _ h => h) (Or.inl ⟨by rfl, ?_⟩) ?_ ?_
                                  rotate_left
                                  · intro w'
                                    go_simp
                                    with_reducible rfl
                                  rotate_left
                                  · simp only [Act.put, List.setIfInBounds_toArray, List.set_cons_zero, List.set_cons_succ, i64_w, i32_w]
                                    rfl
                                  refine take_ (i := 2) (N := some 77) (v := ?_) (a' := ?_) #[true, true, true, false, true, false, false, false, false, false, false, false, false, false, false, false, false, false, false, false, false, false] rfl rfl (take_ofW HT_.out HW_.out (by kernel_rfl)) (fun _ _ _ h => h) (Or.inl ⟨by rfl, ?_⟩) hHeld ?_ ?_
                                  rotate_left
                                  · rintro w' ⟨s0, s1, s2, s3, s4⟩
                                    go_simp
                                    with_reducible rfl
                                  rotate_left
                                  · simp only [Act.put, List.setIfInBounds_toArray, List.set_cons_zero, List.set_cons_succ, i64_w, i32_w]
                                    rfl
                                  refine take_ (i := 5) (N := some 80) (v := ?_) (a' := ?_) #[true, true, true, false, true, true, false, false, false, false, false, false, false, false, false, false, false, false, false, false, false, false] rfl rfl (take_ofW HT_.out HW_.out (by kernel_rfl)) (fun _ _ _ h => h) (Or.inl ⟨by rfl, ?_⟩) hHeld ?_ ?_
                                  rotate_left
                                  · rintro w' ⟨s0, s1, s2, s3, s4⟩
                                    go_simp
                                    with_reducible rfl
                                  rotate_left
                                  · simp only [Act.put, List.setIfInBounds_toArray, List.set_cons_zero, List.set_cons_succ, i64_w, i32_w]
                                    rfl
                                  refine one_ (i := 3) (N := some 78) #[true, true, true, true, true, true, false, false, false, false, false, false, false, false, false, false, false, false, false, false, false, false] rfl rfl (one_of HT_.out (by kernel_rfl)) (by decide) (fun K hK => ?_)
                                  refine goes_ Try.func30 (by kernel_rfl) rfl #[.bool x8_1, .int .u8 ((rd_T62 l0 x16_1).f0)] (by rfl) rfl rfl (by (try simp only [List.map_toArray, List.map_cons, List.map_nil]); first | done | rfl | (simp only [List.length_drop, List.length_take]; rfl)) ?_
                                  with_reducible refine (judge_may.calls kj34 x8_1 ((rd_T62 l0 x16_1).f0) t125 _ A45.out).mono ?_
                                  rintro e w51 ⟨v126, rfl, ho0, hb⟩
                                  refine ⟨_, rfl, ?_⟩
                                  have n0_ := Aside0.mk (Kd.V_elder' (by (with_reducible repeat (first | apply Kd.V_alloc | apply Kd.V_drewN | apply Kd.V_drew)); exact HO_1.out) (Kd.R_base ho0) hb)
                                  have n1_ := Aside0.mk (Kd.R_lower (Kd.R_newM (M := fun k_ => (w.heap.size ≤ k_)) ho0 (below_size (by repeat (first | (with_reducible first | exact HB.out | apply below_alloc | apply pw_below_drewN | apply below_drew1 | refine below_set ?_ GE122.out | refine below_set ?_ GE124.out) | exact HB.out))) (fun k_ h_ => h_)) (below_size (by repeat (first | (with_reducible first | exact HB.out | apply below_alloc | apply pw_below_drewN | apply below_drew1 | refine below_set ?_ GE122.out | refine below_set ?_ GE124.out) | exact HB.out))))
                                  have n2_ := Aside0.mk (blk_below (g := gb122) (o := .cells #[.int .i64 ((rd_T44 l2 x16_1).f0), .int .i64 ((rd_T44 l2 x16_1).f1), .string ((rd_T44 l2 x16_1).f2)] 44 (0, 0)) (by (with_reducible repeat (first | refine blk_drewN ?_ _ | refine blk_drew ?_ | refine blk_alloc ?_ _)); exact BK122.out) hb)
                                  have n3_ := Aside0.mk (blk_below (g := gb124) (o := .cells #[.int .u8 ((rd_T62 l0 x16_1).f0), .string ((rd_T62 l0 x16_1).f1)] 62 (0, 0)) (by (with_reducible repeat (first | refine blk_drewN ?_ _ | refine blk_drew ?_ | refine blk_alloc ?_ _)); exact BK124.out) hb)
                                  have n4_ := Aside0.mk (below_step (by repeat (first | (with_reducible first | exact HB.out | apply below_alloc | apply pw_below_drewN | apply below_drew1 | refine below_set ?_ GE122.out | refine below_set ?_ GE124.out) | exact HB.out)) hb)
                                  clear HO_1
                                  clear BK122
                                  clear BK124
                                  clear HB
                                  have HO_1 := n0_
                                  have HO127 := n1_
                                  have BK122 := n2_
                                  have BK124 := n3_
                                  have HB := n4_
                                  clear n0_ n1_ n2_ n3_ n4_
                                  (try clear hb)
                                  (try clear hb2)
                                  (try clear hk)
                                  (try clear hi)
                                  (try clear ho0)
                                  obtain ⟨Ao52, co52, eo52⟩ := Kd.R_slice HO127.out
                                  (first | subst eo52 | (injection eo52 with f1_ f2_ f3_; have f4_ := f1_.symm; have f5_ := f3_.symm; clear f1_ f2_ f3_; subst f4_; subst f5_))
                                  refine hK.out _ _ ⟨(blk_cell BK124.out 0).trans rfl, (blk_cell BK124.out 1).trans rfl, (blk_cell BK122.out 0).trans rfl, (blk_cell BK122.out 1).trans rfl, (blk_cell BK122.out 2).trans rfl⟩ (fun hHeld => ?_)
                                  clear hK K
                                  refine norm_ (a' := ?_) ?_ ?_
                                  rotate_left
                                  · show Act.put _ (some 78) _ = _
                                    simp only [Act.put, List.setIfInBounds_toArray, List.set_cons_zero, List.set_cons_succ, i64_w, i32_w]
                                    rfl
                                  refine one_ (i := 6) (N := some 81) #[true, true, true, true, true, true, true, false, false, false, false, false, false, false, false, false, false, false, false, false, false, false] rfl rfl (one_of HT_.out (by kernel_rfl)) (by decide) (fun K hK => ?_)
                                  refine goes_ Try.func29 (by kernel_rfl) rfl #[.slice Ao52 t125.length co52, .int .i64 ((rd_T44 l2 x16_1).f0)] (by rfl) rfl rfl (by (try simp only [List.map_toArray, List.map_cons, List.map_nil]); first | done | rfl | (simp only [List.length_drop, List.length_take]; rfl)) ?_
                                  with_reducible refine (slices_Contains_int_int.calls kj34 _ _ t125 ((rd_T44 l2 x16_1).f0) true _ ?side1 ?side2 A46.out).mono ?_
                                  (case side1 => repeat (first | exact (Kd.R_reads' HO127.out).2.2 | (with_reducible refine Kd.C_alloc ?_ _) | (with_reducible refine Kd.C_drewN ?_ _) | (with_reducible refine Kd.C_drew ?_)))
                                  (case side2 => exact (Kd.R_reads' HO127.out).2.1)
                                  rintro e w' ⟨rfl, ⟨nd, rfl⟩⟩
                                  refine ⟨_, rfl, ?_⟩
                                  refine hK.out _ _ ⟨(blk_cell BK124.out 0).trans rfl, (blk_cell BK124.out 1).trans rfl, (blk_cell BK122.out 0).trans rfl, (blk_cell BK122.out 1).trans rfl, (blk_cell BK122.out 2).trans rfl⟩ (fun hHeld => ?_)
                                  clear hK K
                                  refine norm_ (a' := ?_) ?_ ?_
                                  rotate_left
                                  · show Act.put _ (some 81) _ = _
                                    simp only [Act.put, List.setIfInBounds_toArray, List.set_cons_zero, List.set_cons_succ, i64_w, i32_w]
                                    rfl
                                  refine pure_ (i := 7) (N := some 82) (v := ?_) (a' := ?_) #[true, true, true, true, true, true, true, true, false, false, false, false, false, false, false, false, false, false, false, false, false, false] rfl rfl (any_of HT_.out (by kernel_rfl)) (fun _ _ _ h => h) (Or.inl ⟨by rfl, ?_⟩) ?_ ?_
                                  rotate_left
                                  · intro w'
                                    go_simp
                                    with_reducible rfl
                                  rotate_left
                                  · simp only [Act.put, List.setIfInBounds_toArray, List.set_cons_zero, List.set_cons_succ, i64_w, i32_w]
                                    rfl
                                  refine pure_ (i := 8) (N := some 83) (v := ?_) (a' := ?_) #[true, true, true, true, true, true, true, true, true, false, false, false, false, false, false, false, false, false, false, false, false, false] rfl rfl (any_of HT_.out (by kernel_rfl)) (fun _ _ _ h => h) (Or.inl ⟨by rfl, ?_⟩) ?_ ?_
                                  rotate_left
                                  · intro w'
                                    go_simp
                                    with_reducible rfl
                                  rotate_left
                                  · simp only [Act.put, List.setIfInBounds_toArray, List.set_cons_zero, List.set_cons_succ, i64_w, i32_w]
                                    rfl
                                  refine pure_ (i := 9) (N := some 84) (v := ?_) (a' := ?_) #[true, true, true, true, true, true, true, true, true, true, false, false, false, false, false, false, false, false, false, false, false, false] rfl rfl (any_of HT_.out (by kernel_rfl)) (fun _ _ _ h => h) (Or.inl ⟨by rfl, ?_⟩) ?_ ?_
                                  rotate_left
                                  · intro w'
                                    go_simp
                                    with_reducible rfl
                                  rotate_left
                                  · simp only [Act.put, List.setIfInBounds_toArray, List.set_cons_zero, List.set_cons_succ, i64_w, i32_w]
                                    rfl
                                  refine pure_ (i := 10) (N := some 85) (v := ?_) (a' := ?_) #[true, true, true, true, true, true, true, true, true, true, true, false, false, false, false, false, false, false, false, false, false, false] rfl rfl (any_of HT_.out (by kernel_rfl)) (fun _ _ _ h => h) (Or.inl ⟨by rfl, ?_⟩) ?_ ?_
                                  rotate_left
                                  · intro w'
                                    go_simp
                                    with_reducible rfl
                                  rotate_left
                                  · simp only [Act.put, List.setIfInBounds_toArray, List.set_cons_zero, List.set_cons_succ, i64_w, i32_w]
                                    rfl
                                  refine pure_ (i := 11) (N := some 86) (v := ?_) (a' := ?_) #[true, true, true, true, true, true, true, true, true, true, true, true, false, false, false, false, false, false, false, false, false, false] rfl rfl (any_of HT_.out (by kernel_rfl)) (fun _ _ _ h => h) (Or.inl ⟨by rfl, ?_⟩) ?_ ?_
                                  rotate_left
                                  · intro w'
                                    go_simp
                                    with_reducible rfl
                                  rotate_left
                                  · simp only [Act.put, List.setIfInBounds_toArray, List.set_cons_zero, List.set_cons_succ, i64_w, i32_w]
                                    rfl
                                  refine pure_ (i := 12) (N := some 87) (v := ?_) (a' := ?_) #[true, true, true, true, true, true, true, true, true, true, true, true, true, false, false, false, false, false, false, false, false, false] rfl rfl (any_of HT_.out (by kernel_rfl)) (fun _ _ _ h => h) (Or.inl ⟨by rfl, ?_⟩) ?_ ?_
                                  rotate_left
                                  · intro w'
                                    go_simp
                                    with_reducible rfl
                                  rotate_left
                                  · simp only [Act.put, List.setIfInBounds_toArray, List.set_cons_zero, List.set_cons_succ, i64_w, i32_w]
                                    rfl
                                  refine pure_ (i := 13) (N := some 88) (v := ?_) (a' := ?_) #[true, true, true, true, true, true, true, true, true, true, true, true, true, true, false, false, false, false, false, false, false, false] rfl rfl (any_of HT_.out (by kernel_rfl)) (fun _ _ _ h => h) (Or.inl ⟨by rfl, ?_⟩) ?_ ?_
                                  rotate_left
                                  · intro w'
                                    go_simp
                                    with_reducible rfl
                                  rotate_left
                                  · simp only [Act.put, List.setIfInBounds_toArray, List.set_cons_zero, List.set_cons_succ, i64_w, i32_w]
                                    rfl
                                  refine take_ (i := 14) (N := some 89) (v := ?_) (a' := ?_) #[true, true, true, true, true, true, true, true, true, true, true, true, true, true, true, false, false, false, false, false, false, false] rfl rfl (take_ofW HT_.out HW_.out (by kernel_rfl)) (fun _ _ _ h => h) (Or.inl ⟨by rfl, ?_⟩) hHeld ?_ ?_
                                  rotate_left
                                  · rintro w' ⟨s0, s1, s2, s3, s4⟩
                                    go_simp
                                    with_reducible rfl
                                  rotate_left
                                  · simp only [Act.put, List.setIfInBounds_toArray, List.set_cons_zero, List.set_cons_succ, i64_w, i32_w]
                                    rfl
                                  refine pure_ (i := 15) (N := some 90) (v := ?_) (a' := ?_) #[true, true, true, true, true, true, true, true, true, true, true, true, true, true, true, true, false, false, false, false, false, false] rfl rfl (any_of HT_.out (by kernel_rfl)) (fun _ _ _ h => h) (Or.inl ⟨by rfl, ?_⟩) ?_ ?_
                                  rotate_left
                                  · intro w'
                                    go_simp
                                    with_reducible rfl
                                  rotate_left
                                  · simp only [Act.put, List.setIfInBounds_toArray, List.set_cons_zero, List.set_cons_succ, i64_w, i32_w]
                                    rfl
                                  refine pure_ (i := 16) (N := some 91) (v := ?_) (a' := ?_) #[true, true, true, true, true, true, true, true, true, true, true, true, true, true, true, true, true, false, false, false, false, false] rfl rfl (any_of HT_.out (by kernel_rfl)) (fun _ _ _ h => h) (Or.inl ⟨by rfl, ?_⟩) ?_ ?_
                                  rotate_left
                                  · intro w'
                                    go_simp
                                    with_reducible rfl
                                  rotate_left
                                  · simp only [Act.put, List.setIfInBounds_toArray, List.set_cons_zero, List.set_cons_succ, i64_w, i32_w]
                                    rfl
                                  refine pure_ (i := 17) (N := some 92) (v := undef) (a' := ?_) #[true, true, true, true, true, true, true, true, true, true, true, true, true, true, true, true, true, true, false, false, false, false] rfl rfl (any_of HT_.out (by kernel_rfl)) (fun _ _ _ h => h) (Or.inr ⟨by rfl, rfl⟩) ?_ ?_
                                  rotate_left
                                  · simp only [Act.put, List.setIfInBounds_toArray, List.set_cons_zero, List.set_cons_succ, i64_w, i32_w]
                                    rfl
                                  refine pure_ (i := 18) (N := some 93) (v := undef) (a' := ?_) #[true, true, true, true, true, true, true, true, true, true, true, true, true, true, true, true, true, true, true, false, false, false] rfl rfl (any_of HT_.out (by kernel_rfl)) (fun _ _ _ h => h) (Or.inr ⟨by rfl, rfl⟩) ?_ ?_
                                  rotate_left
                                  · simp only [Act.put, List.setIfInBounds_toArray, List.set_cons_zero, List.set_cons_succ, i64_w, i32_w]
                                    rfl
                                  refine pure_ (i := 19) (N := some 94) (v := undef) (a' := ?_) #[true, true, true, true, true, true, true, true, true, true, true, true, true, true, true, true, true, true, true, true, false, false] rfl rfl (any_of HT_.out (by kernel_rfl)) (fun _ _ _ h => h) (Or.inr ⟨by rfl, rfl⟩) ?_ ?_
                                  rotate_left
                                  · simp only [Act.put, List.setIfInBounds_toArray, List.set_cons_zero, List.set_cons_succ, i64_w, i32_w]
                                    rfl
                                  refine pure_ (i := 20) (N := some 95) (v := ?_) (a' := ?_) #[true, true, true, true, true, true, true, true, true, true, true, true, true, true, true, true, true, true, true, true, true, false] rfl rfl (any_of HT_.out (by kernel_rfl)) (fun _ _ _ h => h) (Or.inl ⟨by rfl, ?_⟩) ?_ ?_
                                  rotate_left
                                  · intro w'
                                    go_simp
                                    with_reducible rfl
                                  rotate_left
                                  · simp only [Act.put, List.setIfInBounds_toArray, List.set_cons_zero, List.set_cons_succ, i64_w, i32_w]
                                    rfl
                                  refine pure_ (i := 21) (N := some 96) (v := ?_) (a' := ?_) #[true, true, true, true, true, true, true, true, true, true, true, true, true, true, true, true, true, true, true, true, true, true] rfl rfl (any_of HT_.out (by kernel_rfl)) (fun _ _ _ h => h) (Or.inl ⟨by rfl, ?_⟩) ?_ ?_
                                  rotate_left
                                  · intro w'
                                    go_simp
                                    with_reducible rfl
                                  rotate_left
                                  · simp only [Act.put, List.setIfInBounds_toArray, List.set_cons_zero, List.set_cons_succ, i64_w, i32_w]
                                    rfl
                                  refine done_ (done_of HT_.out (by kernel_rfl)) ?_
                                  try go_wp2
                                  go_meet
                                  case rel => exact ⟨_, (false), (by first | rfl | (simp; done) | (simp [*]; done) | (simp [*]; generalize (rd_T44 l2 x16_1).f2.toList = zz; cases zz <;> rfl)), H', ⟨by have := HK1.out; have := HJ10.out; have := HJ34.out; first | omega | exact Nat.le_refl _⟩, ⟨by (with_reducible repeat (first | apply Kd.V_alloc | apply Kd.V_drewN | apply Kd.V_drew)); exact Kd.V_mono HO_1.out (fun _ hk => ⟨hk.1.1, ⟨hk.1.2.1, hk.1.2.2⟩⟩)⟩, ⟨by (with_reducible repeat (first | refine blk_drewN ?_ _ | refine blk_drew ?_ | refine blk_alloc ?_ _)); exact BK122.out⟩, ⟨by (with_reducible repeat (first | refine blk_drewN ?_ _ | refine blk_drew ?_ | refine blk_alloc ?_ _)); exact BK124.out⟩, ⟨by repeat (first | (with_reducible first | exact HB.out | apply below_alloc | apply pw_below_drewN | apply below_drew1 | refine below_set ?_ GE122.out | refine below_set ?_ GE124.out) | exact HB.out)⟩⟩
                                · rw [if_neg c49] at H
                                  have c49b0 : (((rd_T44 l2 x16_1).f0) == 2) = false := beq_eq_false_iff_ne.mpr c49
                                  have c49b1 : (((rd_T44 l2 x16_1).f0) != 2) = true := bne_iff_ne.mpr c49
                                  (first | rw [c49b0] | (simp only [i64_w, i32_w]; rw [c49b0]) | skip)
                                  have H' := Aside0.mk H
                                  clear H
                                  try go_wp2
                                  have n0_ := Aside0.mk (Kd.V_drew HO_1.out)
                                  have n1_ := Aside0.mk (blk_drew BK122.out)
                                  have n2_ := Aside0.mk (blk_drew BK124.out)
                                  have n3_ := Aside0.mk (below_drew1 HB.out)
                                  clear HO_1
                                  clear BK122
                                  clear BK124
                                  clear HB
                                  have HO_1 := n0_
                                  have BK122 := n1_
                                  have BK124 := n2_
                                  have HB := n3_
                                  clear n0_ n1_ n2_ n3_
                                  refine start_ (n := 22) (S := fun w' => w'.cell? ⟨gb124, 0, none⟩ = some (.int .u8 ((rd_T62 l0 x16_1).f0)) ∧ w'.cell? ⟨gb124, 1, none⟩ = some (.string ((rd_T62 l0 x16_1).f1)) ∧ w'.cell? ⟨gb122, 0, none⟩ = some (.int .i64 ((rd_T44 l2 x16_1).f0)) ∧ w'.cell? ⟨gb122, 1, none⟩ = some (.int .i64 ((rd_T44 l2 x16_1).f1)) ∧ w'.cell? ⟨gb122, 2, none⟩ = some (.string ((rd_T44 l2 x16_1).f2))) (ds := []) #[false, false, false, false, false, false, false, false, false, false, false, false, false, false, false, false, false, false, false, false, false, false] (by kernel_rfl) rfl rfl ⟨(blk_cell BK124.out 0).trans rfl, (blk_cell BK124.out 1).trans rfl, (blk_cell BK122.out 0).trans rfl, (blk_cell BK122.out 1).trans rfl, (blk_cell BK122.out 2).trans rfl⟩ (fun hHeld => ?_); refine with_tabW judge_Fits.tab14 judge_Fits.bits14 (fun HT_ HW_ => ?_)
                                  generalize wc.drew = w53 at HO_1 BK122 BK124 HB hHeld ⊢
                                  refine pure_ (i := 0) (N := some 75) (v := ?_) (a' := ?_) #[true, false, false, false, false, false, false, false, false, false, false, false, false, false, false, false, false, false, false, false, false, false] rfl rfl (any_of HT_.out (by kernel_rfl)) (fun _ _ _ h => h) (Or.inl ⟨by rfl, ?_⟩) ?_ ?_
                                  rotate_left
                                  · intro w'
                                    go_simp
                                    with_reducible rfl
                                  rotate_left
                                  · simp only [Act.put, List.setIfInBounds_toArray, List.set_cons_zero, List.set_cons_succ, i64_w, i32_w]
                                    rfl
                                  refine pure_ (i := 1) (N := some 76) (v := ?_) (a' := ?_) #[true, true, false, false, false, false, false, false, false, false, false, false, false, false, false, false, false, false, false, false, false, false] rfl rfl (any_of HT_.out (by kernel_rfl)) (fun _ _ _ h => h) (Or.inl ⟨by rfl, ?_⟩) ?_ ?_
                                  rotate_left
                                  · intro w'
                                    go_simp
                                    with_reducible rfl
                                  rotate_left
                                  · simp only [Act.put, List.setIfInBounds_toArray, List.set_cons_zero, List.set_cons_succ, i64_w, i32_w]
                                    rfl
                                  refine pure_ (i := 4) (N := some 79) (v := ?_) (a' := ?_) #[true, true, false, false, true, false, false, false, false, false, false, false, false, false, false, false, false, false, false, false, false, false] rfl rfl (any_of HT_.out (by kernel_rfl)) (fun _ _ _ h => h) (Or.inl ⟨by rfl, ?_⟩) ?_ ?_
                                  rotate_left
                                  · intro w'
                                    go_simp
                                    with_reducible rfl
                                  rotate_left
                                  · simp only [Act.put, List.setIfInBounds_toArray, List.set_cons_zero, List.set_cons_succ, i64_w, i32_w]
                                    rfl
                                  refine take_ (i := 2) (N := some 77) (v := ?_) (a' := ?_) #[true, true, true, false, true, false, false, false, false, false, false, false, false, false, false, false, false, false, false, false, false, false] rfl rfl (take_ofW HT_.out HW_.out (by kernel_rfl)) (fun _ _ _ h => h) (Or.inl ⟨by rfl, ?_⟩) hHeld ?_ ?_
                                  rotate_left
                                  · rintro w' ⟨s0, s1, s2, s3, s4⟩
                                    go_simp
                                    with_reducible rfl
                                  rotate_left
                                  · simp only [Act.put, List.setIfInBounds_toArray, List.set_cons_zero, List.set_cons_succ, i64_w, i32_w]
                                    rfl
                                  refine take_ (i := 5) (N := some 80) (v := ?_) (a' := ?_) #[true, true, true, false, true, true, false, false, false, false, false, false, false, false, false, false, false, false, false, false, false, false] rfl rfl (take_ofW HT_.out HW_.out (by kernel_rfl)) (fun _ _ _ h => h) (Or.inl ⟨by rfl, ?_⟩) hHeld ?_ ?_
                                  rotate_left
                                  · rintro w' ⟨s0, s1, s2, s3, s4⟩
                                    go_simp
                                    with_reducible rfl
                                  rotate_left
                                  · simp only [Act.put, List.setIfInBounds_toArray, List.set_cons_zero, List.set_cons_succ, i64_w, i32_w]
                                    rfl
                                  refine one_ (i := 3) (N := some 78) #[true, true, true, true, true, true, false, false, false, false, false, false, false, false, false, false, false, false, false, false, false, false] rfl rfl (one_of HT_.out (by kernel_rfl)) (by decide) (fun K hK => ?_)
                                  refine goes_ Try.func30 (by kernel_rfl) rfl #[.bool x8_1, .int .u8 ((rd_T62 l0 x16_1).f0)] (by rfl) rfl rfl (by (try simp only [List.map_toArray, List.map_cons, List.map_nil]); first | done | rfl | (simp only [List.length_drop, List.length_take]; rfl)) ?_
                                  with_reducible refine (judge_may.calls kj34 x8_1 ((rd_T62 l0 x16_1).f0) t125 _ A45.out).mono ?_
                                  rintro e w54 ⟨v126, rfl, ho0, hb⟩
                                  refine ⟨_, rfl, ?_⟩
                                  have n0_ := Aside0.mk (Kd.V_elder' (by (with_reducible repeat (first | apply Kd.V_alloc | apply Kd.V_drewN | apply Kd.V_drew)); exact HO_1.out) (Kd.R_base ho0) hb)
                                  have n1_ := Aside0.mk (Kd.R_lower (Kd.R_newM (M := fun k_ => (w.heap.size ≤ k_)) ho0 (below_size (by repeat (first | (with_reducible first | exact HB.out | apply below_alloc | apply pw_below_drewN | apply below_drew1 | refine below_set ?_ GE122.out | refine below_set ?_ GE124.out) | exact HB.out))) (fun k_ h_ => h_)) (below_size (by repeat (first | (with_reducible first | exact HB.out | apply below_alloc | apply pw_below_drewN | apply below_drew1 | refine below_set ?_ GE122.out | refine below_set ?_ GE124.out) | exact HB.out))))
                                  have n2_ := Aside0.mk (blk_below (g := gb122) (o := .cells #[.int .i64 ((rd_T44 l2 x16_1).f0), .int .i64 ((rd_T44 l2 x16_1).f1), .string ((rd_T44 l2 x16_1).f2)] 44 (0, 0)) (by (with_reducible repeat (first | refine blk_drewN ?_ _ | refine blk_drew ?_ | refine blk_alloc ?_ _)); exact BK122.out) hb)
                                  have n3_ := Aside0.mk (blk_below (g := gb124) (o := .cells #[.int .u8 ((rd_T62 l0 x16_1).f0), .string ((rd_T62 l0 x16_1).f1)] 62 (0, 0)) (by (with_reducible repeat (first | refine blk_drewN ?_ _ | refine blk_drew ?_ | refine blk_alloc ?_ _)); exact BK124.out) hb)
                                  have n4_ := Aside0.mk (below_step (by repeat (first | (with_reducible first | exact HB.out | apply below_alloc | apply pw_below_drewN | apply below_drew1 | refine below_set ?_ GE122.out | refine below_set ?_ GE124.out) | exact HB.out)) hb)
                                  clear HO_1
                                  clear BK122
                                  clear BK124
                                  clear HB
                                  have HO_1 := n0_
                                  have HO127 := n1_
                                  have BK122 := n2_
                                  have BK124 := n3_
                                  have HB := n4_
                                  clear n0_ n1_ n2_ n3_ n4_
                                  (try clear hb)
                                  (try clear hb2)
                                  (try clear hk)
                                  (try clear hi)
                                  (try clear ho0)
                                  obtain ⟨Ao55, co55, eo55⟩ := Kd.R_slice HO127.out
                                  (first | subst eo55 | (injection eo55 with f1_ f2_ f3_; have f4_ := f1_.symm; have f5_ := f3_.symm; clear f1_ f2_ f3_; subst f4_; subst f5_))
                                  refine hK.out _ _ ⟨(blk_cell BK124.out 0).trans rfl, (blk_cell BK124.out 1).trans rfl, (blk_cell BK122.out 0).trans rfl, (blk_cell BK122.out 1).trans rfl, (blk_cell BK122.out 2).trans rfl⟩ (fun hHeld => ?_)
                                  clear hK K
                                  refine norm_ (a' := ?_) ?_ ?_
                                  rotate_left
                                  · show Act.put _ (some 78) _ = _
                                    simp only [Act.put, List.setIfInBounds_toArray, List.set_cons_zero, List.set_cons_succ, i64_w, i32_w]
                                    rfl
                                  refine one_ (i := 6) (N := some 81) #[true, true, true, true, true, true, true, false, false, false, false, false, false, false, false, false, false, false, false, false, false, false] rfl rfl (one_of HT_.out (by kernel_rfl)) (by decide) (fun K hK => ?_)
                                  refine goes_ Try.func29 (by kernel_rfl) rfl #[.slice Ao55 t125.length co55, .int .i64 ((rd_T44 l2 x16_1).f0)] (by rfl) rfl rfl (by (try simp only [List.map_toArray, List.map_cons, List.map_nil]); first | done | rfl | (simp only [List.length_drop, List.length_take]; rfl)) ?_
                                  with_reducible refine (slices_Contains_int_int.calls kj34 _ _ t125 ((rd_T44 l2 x16_1).f0) true _ ?side1 ?side2 A46.out).mono ?_
                                  (case side1 => repeat (first | exact (Kd.R_reads' HO127.out).2.2 | (with_reducible refine Kd.C_alloc ?_ _) | (with_reducible refine Kd.C_drewN ?_ _) | (with_reducible refine Kd.C_drew ?_)))
                                  (case side2 => exact (Kd.R_reads' HO127.out).2.1)
                                  rintro e w' ⟨rfl, ⟨nd, rfl⟩⟩
                                  refine ⟨_, rfl, ?_⟩
                                  refine hK.out _ _ ⟨(blk_cell BK124.out 0).trans rfl, (blk_cell BK124.out 1).trans rfl, (blk_cell BK122.out 0).trans rfl, (blk_cell BK122.out 1).trans rfl, (blk_cell BK122.out 2).trans rfl⟩ (fun hHeld => ?_)
                                  clear hK K
                                  refine norm_ (a' := ?_) ?_ ?_
                                  rotate_left
                                  · show Act.put _ (some 81) _ = _
                                    simp only [Act.put, List.setIfInBounds_toArray, List.set_cons_zero, List.set_cons_succ, i64_w, i32_w]
                                    rfl
                                  refine pure_ (i := 7) (N := some 82) (v := ?_) (a' := ?_) #[true, true, true, true, true, true, true, true, false, false, false, false, false, false, false, false, false, false, false, false, false, false] rfl rfl (any_of HT_.out (by kernel_rfl)) (fun _ _ _ h => h) (Or.inl ⟨by rfl, ?_⟩) ?_ ?_
                                  rotate_left
                                  · intro w'
                                    go_simp
                                    with_reducible rfl
                                  rotate_left
                                  · simp only [Act.put, List.setIfInBounds_toArray, List.set_cons_zero, List.set_cons_succ, i64_w, i32_w]
                                    rfl
                                  refine pure_ (i := 8) (N := some 83) (v := ?_) (a' := ?_) #[true, true, true, true, true, true, true, true, true, false, false, false, false, false, false, false, false, false, false, false, false, false] rfl rfl (any_of HT_.out (by kernel_rfl)) (fun _ _ _ h => h) (Or.inl ⟨by rfl, ?_⟩) ?_ ?_
                                  rotate_left
                                  · intro w'
                                    go_simp
                                    with_reducible rfl
                                  rotate_left
                                  · simp only [Act.put, List.setIfInBounds_toArray, List.set_cons_zero, List.set_cons_succ, i64_w, i32_w]
                                    rfl
                                  refine pure_ (i := 9) (N := some 84) (v := ?_) (a' := ?_) #[true, true, true, true, true, true, true, true, true, true, false, false, false, false, false, false, false, false, false, false, false, false] rfl rfl (any_of HT_.out (by kernel_rfl)) (fun _ _ _ h => h) (Or.inl ⟨by rfl, ?_⟩) ?_ ?_
                                  rotate_left
                                  · intro w'
                                    go_simp
                                    with_reducible rfl
                                  rotate_left
                                  · simp only [Act.put, List.setIfInBounds_toArray, List.set_cons_zero, List.set_cons_succ, i64_w, i32_w]
                                    rfl
                                  refine pure_ (i := 10) (N := some 85) (v := ?_) (a' := ?_) #[true, true, true, true, true, true, true, true, true, true, true, false, false, false, false, false, false, false, false, false, false, false] rfl rfl (any_of HT_.out (by kernel_rfl)) (fun _ _ _ h => h) (Or.inl ⟨by rfl, ?_⟩) ?_ ?_
                                  rotate_left
                                  · intro w'
                                    go_simp
                                    with_reducible rfl
                                  rotate_left
                                  · simp only [Act.put, List.setIfInBounds_toArray, List.set_cons_zero, List.set_cons_succ, i64_w, i32_w]
                                    rfl
                                  refine pure_ (i := 11) (N := some 86) (v := ?_) (a' := ?_) #[true, true, true, true, true, true, true, true, true, true, true, true, false, false, false, false, false, false, false, false, false, false] rfl rfl (any_of HT_.out (by kernel_rfl)) (fun _ _ _ h => h) (Or.inl ⟨by rfl, ?_⟩) ?_ ?_
                                  rotate_left
                                  · intro w'
                                    go_simp
                                    with_reducible rfl
                                  rotate_left
                                  · simp only [Act.put, List.setIfInBounds_toArray, List.set_cons_zero, List.set_cons_succ, i64_w, i32_w]
                                    rfl
                                  refine pure_ (i := 12) (N := some 87) (v := ?_) (a' := ?_) #[true, true, true, true, true, true, true, true, true, true, true, true, true, false, false, false, false, false, false, false, false, false] rfl rfl (any_of HT_.out (by kernel_rfl)) (fun _ _ _ h => h) (Or.inl ⟨by rfl, ?_⟩) ?_ ?_
                                  rotate_left
                                  · intro w'
                                    go_simp
                                    with_reducible rfl
                                  rotate_left
                                  · simp only [Act.put, List.setIfInBounds_toArray, List.set_cons_zero, List.set_cons_succ, i64_w, i32_w]
                                    rfl
                                  refine pure_ (i := 13) (N := some 88) (v := ?_) (a' := ?_) #[true, true, true, true, true, true, true, true, true, true, true, true, true, true, false, false, false, false, false, false, false, false] rfl rfl (any_of HT_.out (by kernel_rfl)) (fun _ _ _ h => h) (Or.inl ⟨by rfl, ?_⟩) ?_ ?_
                                  rotate_left
                                  · intro w'
                                    go_simp
                                    with_reducible rfl
                                  rotate_left
                                  · simp only [Act.put, List.setIfInBounds_toArray, List.set_cons_zero, List.set_cons_succ, i64_w, i32_w]
                                    rfl
                                  refine take_ (i := 14) (N := some 89) (v := ?_) (a' := ?_) #[true, true, true, true, true, true, true, true, true, true, true, true, true, true, true, false, false, false, false, false, false, false] rfl rfl (take_ofW HT_.out HW_.out (by kernel_rfl)) (fun _ _ _ h => h) (Or.inl ⟨by rfl, ?_⟩) hHeld ?_ ?_
                                  rotate_left
                                  · rintro w' ⟨s0, s1, s2, s3, s4⟩
                                    go_simp
                                    with_reducible rfl
                                  rotate_left
                                  · simp only [Act.put, List.setIfInBounds_toArray, List.set_cons_zero, List.set_cons_succ, i64_w, i32_w]
                                    rfl
                                  refine pure_ (i := 15) (N := some 90) (v := ?_) (a' := ?_) #[true, true, true, true, true, true, true, true, true, true, true, true, true, true, true, true, false, false, false, false, false, false] rfl rfl (any_of HT_.out (by kernel_rfl)) (fun _ _ _ h => h) (Or.inl ⟨by rfl, ?_⟩) ?_ ?_
                                  rotate_left
                                  · intro w'
                                    go_simp
                                    with_reducible rfl
                                  rotate_left
                                  · simp only [Act.put, List.setIfInBounds_toArray, List.set_cons_zero, List.set_cons_succ, i64_w, i32_w]
                                    rfl
                                  refine pure_ (i := 16) (N := some 91) (v := ?_) (a' := ?_) #[true, true, true, true, true, true, true, true, true, true, true, true, true, true, true, true, true, false, false, false, false, false] rfl rfl (any_of HT_.out (by kernel_rfl)) (fun _ _ _ h => h) (Or.inl ⟨by rfl, ?_⟩) ?_ ?_
                                  rotate_left
                                  · intro w'
                                    go_simp
                                    with_reducible rfl
                                  rotate_left
                                  · simp only [Act.put, List.setIfInBounds_toArray, List.set_cons_zero, List.set_cons_succ, i64_w, i32_w]
                                    rfl
                                  refine pure_ (i := 17) (N := some 92) (v := ?_) (a' := ?_) #[true, true, true, true, true, true, true, true, true, true, true, true, true, true, true, true, true, true, false, false, false, false] rfl rfl (any_of HT_.out (by kernel_rfl)) (fun _ _ _ h => h) (Or.inl ⟨by rfl, ?_⟩) ?_ ?_
                                  rotate_left
                                  · intro w'
                                    go_simp
                                    with_reducible rfl
                                  rotate_left
                                  · simp only [Act.put, List.setIfInBounds_toArray, List.set_cons_zero, List.set_cons_succ, i64_w, i32_w]
                                    rfl
                                  refine take_ (i := 18) (N := some 93) (v := ?_) (a' := ?_) #[true, true, true, true, true, true, true, true, true, true, true, true, true, true, true, true, true, true, true, false, false, false] rfl rfl (take_ofW HT_.out HW_.out (by kernel_rfl)) (fun _ _ _ h => h) (Or.inl ⟨by rfl, ?_⟩) hHeld ?_ ?_
                                  rotate_left
                                  · rintro w' ⟨s0, s1, s2, s3, s4⟩
                                    go_simp
                                    with_reducible rfl
                                  rotate_left
                                  · simp only [Act.put, List.setIfInBounds_toArray, List.set_cons_zero, List.set_cons_succ, i64_w, i32_w]
                                    rfl
                                  refine pure_ (i := 19) (N := some 94) (v := ?_) (a' := ?_) #[true, true, true, true, true, true, true, true, true, true, true, true, true, true, true, true, true, true, true, true, false, false] rfl rfl (any_of HT_.out (by kernel_rfl)) (fun _ _ _ h => h) (Or.inl ⟨by rfl, ?_⟩) ?_ ?_
                                  rotate_left
                                  · intro w'
                                    go_simp
                                    with_reducible rfl
                                  rotate_left
                                  · simp only [Act.put, List.setIfInBounds_toArray, List.set_cons_zero, List.set_cons_succ, i64_w, i32_w]
                                    rfl
                                  refine pure_ (i := 20) (N := some 95) (v := ?_) (a' := ?_) #[true, true, true, true, true, true, true, true, true, true, true, true, true, true, true, true, true, true, true, true, true, false] rfl rfl (any_of HT_.out (by kernel_rfl)) (fun _ _ _ h => h) (Or.inl ⟨by rfl, ?_⟩) ?_ ?_
                                  rotate_left
                                  · intro w'
                                    go_simp
                                    with_reducible rfl
                                  rotate_left
                                  · simp only [Act.put, List.setIfInBounds_toArray, List.set_cons_zero, List.set_cons_succ, i64_w, i32_w]
                                    rfl
                                  refine pure_ (i := 21) (N := some 96) (v := ?_) (a' := ?_) #[true, true, true, true, true, true, true, true, true, true, true, true, true, true, true, true, true, true, true, true, true, true] rfl rfl (any_of HT_.out (by kernel_rfl)) (fun _ _ _ h => h) (Or.inl ⟨by rfl, ?_⟩) ?_ ?_
                                  rotate_left
                                  · intro w'
                                    go_simp
                                    with_reducible rfl
                                  rotate_left
                                  · simp only [Act.put, List.setIfInBounds_toArray, List.set_cons_zero, List.set_cons_succ, i64_w, i32_w]
                                    rfl
                                  refine done_ (done_of HT_.out (by kernel_rfl)) ?_
                                  try go_wp2
                                  go_meet
                                  case rel => exact ⟨_, ((((rd_T44 l2 x16_1).f2).toList != ([] : List UInt8))), (by first | rfl | (simp; done) | (simp [*]; done) | (simp [*]; generalize (rd_T44 l2 x16_1).f2.toList = zz; cases zz <;> rfl)), H', ⟨by have := HK1.out; have := HJ10.out; have := HJ34.out; first | omega | exact Nat.le_refl _⟩, ⟨by (with_reducible repeat (first | apply Kd.V_alloc | apply Kd.V_drewN | apply Kd.V_drew)); exact Kd.V_mono HO_1.out (fun _ hk => ⟨hk.1.1, ⟨hk.1.2.1, hk.1.2.2⟩⟩)⟩, ⟨by (with_reducible repeat (first | refine blk_drewN ?_ _ | refine blk_drew ?_ | refine blk_alloc ?_ _)); exact BK122.out⟩, ⟨by (with_reducible repeat (first | refine blk_drewN ?_ _ | refine blk_drew ?_ | refine blk_alloc ?_ _)); exact BK124.out⟩, ⟨by repeat (first | (with_reducible first | exact HB.out | apply below_alloc | apply pw_below_drewN | apply below_drew1 | refine below_set ?_ GE122.out | refine below_set ?_ GE124.out) | exact HB.out)⟩⟩
                              · replace c48 := Bool.eq_false_iff.mpr c48
                                subst c48
                                have H1 : (judge_Fits.j3 kj34 l0 x1_1 x8_1 x16_1 l2 (l2.length : Int) x16_1 true ((rd_T44 l2 x16_1).f0) ((rd_T44 l2 x16_1).f1) ((rd_T44 l2 x16_1).f2)) = some (r1, r2) := by rw [if_neg (show ¬ (false = true) by decide)] at H; exact H
                                clear H
                                have H := H1
                                clear H1
                                have H' := Aside0.mk H
                                clear H
                                try go_wp2
                                have n0_ := Aside0.mk (Kd.V_drew HO_1.out)
                                have n1_ := Aside0.mk (blk_drew BK122.out)
                                have n2_ := Aside0.mk (blk_drew BK124.out)
                                have n3_ := Aside0.mk (below_drew1 HB.out)
                                clear HO_1
                                clear BK122
                                clear BK124
                                clear HB
                                have HO_1 := n0_
                                have BK122 := n1_
                                have BK124 := n2_
                                have HB := n3_
                                clear n0_ n1_ n2_ n3_
                                refine start_ (n := 22) (S := fun w' => w'.cell? ⟨gb124, 0, none⟩ = some (.int .u8 ((rd_T62 l0 x16_1).f0)) ∧ w'.cell? ⟨gb124, 1, none⟩ = some (.string ((rd_T62 l0 x16_1).f1)) ∧ w'.cell? ⟨gb122, 0, none⟩ = some (.int .i64 ((rd_T44 l2 x16_1).f0)) ∧ w'.cell? ⟨gb122, 1, none⟩ = some (.int .i64 ((rd_T44 l2 x16_1).f1)) ∧ w'.cell? ⟨gb122, 2, none⟩ = some (.string ((rd_T44 l2 x16_1).f2))) (ds := []) #[false, false, false, false, false, false, false, false, false, false, false, false, false, false, false, false, false, false, false, false, false, false] (by kernel_rfl) rfl rfl ⟨(blk_cell BK124.out 0).trans rfl, (blk_cell BK124.out 1).trans rfl, (blk_cell BK122.out 0).trans rfl, (blk_cell BK122.out 1).trans rfl, (blk_cell BK122.out 2).trans rfl⟩ (fun hHeld => ?_); refine with_tabW judge_Fits.tab14 judge_Fits.bits14 (fun HT_ HW_ => ?_)
                                generalize wc.drew = w56 at HO_1 BK122 BK124 HB hHeld ⊢
                                refine pure_ (i := 0) (N := some 75) (v := ?_) (a' := ?_) #[true, false, false, false, false, false, false, false, false, false, false, false, false, false, false, false, false, false, false, false, false, false] rfl rfl (any_of HT_.out (by kernel_rfl)) (fun _ _ _ h => h) (Or.inl ⟨by rfl, ?_⟩) ?_ ?_
                                rotate_left
                                · intro w'
                                  go_simp
                                  with_reducible rfl
                                rotate_left
                                · simp only [Act.put, List.setIfInBounds_toArray, List.set_cons_zero, List.set_cons_succ, i64_w, i32_w]
                                  rfl
                                refine pure_ (i := 1) (N := some 76) (v := ?_) (a' := ?_) #[true, true, false, false, false, false, false, false, false, false, false, false, false, false, false, false, false, false, false, false, false, false] rfl rfl (any_of HT_.out (by kernel_rfl)) (fun _ _ _ h => h) (Or.inl ⟨by rfl, ?_⟩) ?_ ?_
                                rotate_left
                                · intro w'
                                  go_simp
                                  with_reducible rfl
                                rotate_left
                                · simp only [Act.put, List.setIfInBounds_toArray, List.set_cons_zero, List.set_cons_succ, i64_w, i32_w]
                                  rfl
                                refine pure_ (i := 4) (N := some 79) (v := ?_) (a' := ?_) #[true, true, false, false, true, false, false, false, false, false, false, false, false, false, false, false, false, false, false, false, false, false] rfl rfl (any_of HT_.out (by kernel_rfl)) (fun _ _ _ h => h) (Or.inl ⟨by rfl, ?_⟩) ?_ ?_
                                rotate_left
                                · intro w'
                                  go_simp
                                  with_reducible rfl
                                rotate_left
                                · simp only [Act.put, List.setIfInBounds_toArray, List.set_cons_zero, List.set_cons_succ, i64_w, i32_w]
                                  rfl
                                refine take_ (i := 2) (N := some 77) (v := ?_) (a' := ?_) #[true, true, true, false, true, false, false, false, false, false, false, false, false, false, false, false, false, false, false, false, false, false] rfl rfl (take_ofW HT_.out HW_.out (by kernel_rfl)) (fun _ _ _ h => h) (Or.inl ⟨by rfl, ?_⟩) hHeld ?_ ?_
                                rotate_left
                                · rintro w' ⟨s0, s1, s2, s3, s4⟩
                                  go_simp
                                  with_reducible rfl
                                rotate_left
                                · simp only [Act.put, List.setIfInBounds_toArray, List.set_cons_zero, List.set_cons_succ, i64_w, i32_w]
                                  rfl
                                refine take_ (i := 5) (N := some 80) (v := ?_) (a' := ?_) #[true, true, true, false, true, true, false, false, false, false, false, false, false, false, false, false, false, false, false, false, false, false] rfl rfl (take_ofW HT_.out HW_.out (by kernel_rfl)) (fun _ _ _ h => h) (Or.inl ⟨by rfl, ?_⟩) hHeld ?_ ?_
                                rotate_left
                                · rintro w' ⟨s0, s1, s2, s3, s4⟩
                                  go_simp
                                  with_reducible rfl
                                rotate_left
                                · simp only [Act.put, List.setIfInBounds_toArray, List.set_cons_zero, List.set_cons_succ, i64_w, i32_w]
                                  rfl
                                refine one_ (i := 3) (N := some 78) #[true, true, true, true, true, true, false, false, false, false, false, false, false, false, false, false, false, false, false, false, false, false] rfl rfl (one_of HT_.out (by kernel_rfl)) (by decide) (fun K hK => ?_)
                                refine goes_ Try.func30 (by kernel_rfl) rfl #[.bool x8_1, .int .u8 ((rd_T62 l0 x16_1).f0)] (by rfl) rfl rfl (by (try simp only [List.map_toArray, List.map_cons, List.map_nil]); first | done | rfl | (simp only [List.length_drop, List.length_take]; rfl)) ?_
                                with_reducible refine (judge_may.calls kj34 x8_1 ((rd_T62 l0 x16_1).f0) t125 _ A45.out).mono ?_
                                rintro e w57 ⟨v126, rfl, ho0, hb⟩
                                refine ⟨_, rfl, ?_⟩
                                have n0_ := Aside0.mk (Kd.V_elder' (by (with_reducible repeat (first | apply Kd.V_alloc | apply Kd.V_drewN | apply Kd.V_drew)); exact HO_1.out) (Kd.R_base ho0) hb)
                                have n1_ := Aside0.mk (Kd.R_lower (Kd.R_newM (M := fun k_ => (w.heap.size ≤ k_)) ho0 (below_size (by repeat (first | (with_reducible first | exact HB.out | apply below_alloc | apply pw_below_drewN | apply below_drew1 | refine below_set ?_ GE122.out | refine below_set ?_ GE124.out) | exact HB.out))) (fun k_ h_ => h_)) (below_size (by repeat (first | (with_reducible first | exact HB.out | apply below_alloc | apply pw_below_drewN | apply below_drew1 | refine below_set ?_ GE122.out | refine below_set ?_ GE124.out) | exact HB.out))))
                                have n2_ := Aside0.mk (blk_below (g := gb122) (o := .cells #[.int .i64 ((rd_T44 l2 x16_1).f0), .int .i64 ((rd_T44 l2 x16_1).f1), .string ((rd_T44 l2 x16_1).f2)] 44 (0, 0)) (by (with_reducible repeat (first | refine blk_drewN ?_ _ | refine blk_drew ?_ | refine blk_alloc ?_ _)); exact BK122.out) hb)
                                have n3_ := Aside0.mk (blk_below (g := gb124) (o := .cells #[.int .u8 ((rd_T62 l0 x16_1).f0), .string ((rd_T62 l0 x16_1).f1)] 62 (0, 0)) (by (with_reducible repeat (first | refine blk_drewN ?_ _ | refine blk_drew ?_ | refine blk_alloc ?_ _)); exact BK124.out) hb)
                                have n4_ := Aside0.mk (below_step (by repeat (first | (with_reducible first | exact HB.out | apply below_alloc | apply pw_below_drewN | apply below_drew1 | refine below_set ?_ GE122.out | refine below_set ?_ GE124.out) | exact HB.out)) hb)
                                clear HO_1
                                clear BK122
                                clear BK124
                                clear HB
                                have HO_1 := n0_
                                have HO127 := n1_
                                have BK122 := n2_
                                have BK124 := n3_
                                have HB := n4_
                                clear n0_ n1_ n2_ n3_ n4_
                                (try clear hb)
                                (try clear hb2)
                                (try clear hk)
                                (try clear hi)
                                (try clear ho0)
                                obtain ⟨Ao58, co58, eo58⟩ := Kd.R_slice HO127.out
                                (first | subst eo58 | (injection eo58 with f1_ f2_ f3_; have f4_ := f1_.symm; have f5_ := f3_.symm; clear f1_ f2_ f3_; subst f4_; subst f5_))
                                refine hK.out _ _ ⟨(blk_cell BK124.out 0).trans rfl, (blk_cell BK124.out 1).trans rfl, (blk_cell BK122.out 0).trans rfl, (blk_cell BK122.out 1).trans rfl, (blk_cell BK122.out 2).trans rfl⟩ (fun hHeld => ?_)
                                clear hK K
                                refine norm_ (a' := ?_) ?_ ?_
                                rotate_left
                                · show Act.put _ (some 78) _ = _
                                  simp only [Act.put, List.setIfInBounds_toArray, List.set_cons_zero, List.set_cons_succ, i64_w, i32_w]
                                  rfl
                                refine one_ (i := 6) (N := some 81) #[true, true, true, true, true, true, true, false, false, false, false, false, false, false, false, false, false, false, false, false, false, false] rfl rfl (one_of HT_.out (by kernel_rfl)) (by decide) (fun K hK => ?_)
                                refine goes_ Try.func29 (by kernel_rfl) rfl #[.slice Ao58 t125.length co58, .int .i64 ((rd_T44 l2 x16_1).f0)] (by rfl) rfl rfl (by (try simp only [List.map_toArray, List.map_cons, List.map_nil]); first | done | rfl | (simp only [List.length_drop, List.length_take]; rfl)) ?_
                                with_reducible refine (slices_Contains_int_int.calls kj34 _ _ t125 ((rd_T44 l2 x16_1).f0) true _ ?side1 ?side2 A46.out).mono ?_
                                (case side1 => repeat (first | exact (Kd.R_reads' HO127.out).2.2 | (with_reducible refine Kd.C_alloc ?_ _) | (with_reducible refine Kd.C_drewN ?_ _) | (with_reducible refine Kd.C_drew ?_)))
                                (case side2 => exact (Kd.R_reads' HO127.out).2.1)
                                rintro e w' ⟨rfl, ⟨nd, rfl⟩⟩
                                refine ⟨_, rfl, ?_⟩
                                refine hK.out _ _ ⟨(blk_cell BK124.out 0).trans rfl, (blk_cell BK124.out 1).trans rfl, (blk_cell BK122.out 0).trans rfl, (blk_cell BK122.out 1).trans rfl, (blk_cell BK122.out 2).trans rfl⟩ (fun hHeld => ?_)
                                clear hK K
                                refine norm_ (a' := ?_) ?_ ?_
                                rotate_left
                                · show Act.put _ (some 81) _ = _
                                  simp only [Act.put, List.setIfInBounds_toArray, List.set_cons_zero, List.set_cons_succ, i64_w, i32_w]
                                  rfl
                                refine pure_ (i := 7) (N := some 82) (v := ?_) (a' := ?_) #[true, true, true, true, true, true, true, true, false, false, false, false, false, false, false, false, false, false, false, false, false, false] rfl rfl (any_of HT_.out (by kernel_rfl)) (fun _ _ _ h => h) (Or.inl ⟨by rfl, ?_⟩) ?_ ?_
                                rotate_left
                                · intro w'
                                  go_simp
                                  with_reducible rfl
                                rotate_left
                                · simp only [Act.put, List.setIfInBounds_toArray, List.set_cons_zero, List.set_cons_succ, i64_w, i32_w]
                                  rfl
                                refine pure_ (i := 8) (N := some 83) (v := ?_) (a' := ?_) #[true, true, true, true, true, true, true, true, true, false, false, false, false, false, false, false, false, false, false, false, false, false] rfl rfl (any_of HT_.out (by kernel_rfl)) (fun _ _ _ h => h) (Or.inl ⟨by rfl, ?_⟩) ?_ ?_
                                rotate_left
                                · intro w'
                                  go_simp
                                  with_reducible rfl
                                rotate_left
                                · simp only [Act.put, List.setIfInBounds_toArray, List.set_cons_zero, List.set_cons_succ, i64_w, i32_w]
                                  rfl
                                refine pure_ (i := 9) (N := some 84) (v := ?_) (a' := ?_) #[true, true, true, true, true, true, true, true, true, true, false, false, false, false, false, false, false, false, false, false, false, false] rfl rfl (any_of HT_.out (by kernel_rfl)) (fun _ _ _ h => h) (Or.inl ⟨by rfl, ?_⟩) ?_ ?_
                                rotate_left
                                · intro w'
                                  go_simp
                                  with_reducible rfl
                                rotate_left
                                · simp only [Act.put, List.setIfInBounds_toArray, List.set_cons_zero, List.set_cons_succ, i64_w, i32_w]
                                  rfl
                                refine pure_ (i := 10) (N := some 85) (v := ?_) (a' := ?_) #[true, true, true, true, true, true, true, true, true, true, true, false, false, false, false, false, false, false, false, false, false, false] rfl rfl (any_of HT_.out (by kernel_rfl)) (fun _ _ _ h => h) (Or.inl ⟨by rfl, ?_⟩) ?_ ?_
                                rotate_left
                                · intro w'
                                  go_simp
                                  with_reducible rfl
                                rotate_left
                                · simp only [Act.put, List.setIfInBounds_toArray, List.set_cons_zero, List.set_cons_succ, i64_w, i32_w]
                                  rfl
                                refine pure_ (i := 11) (N := some 86) (v := ?_) (a' := ?_) #[true, true, true, true, true, true, true, true, true, true, true, true, false, false, false, false, false, false, false, false, false, false] rfl rfl (any_of HT_.out (by kernel_rfl)) (fun _ _ _ h => h) (Or.inl ⟨by rfl, ?_⟩) ?_ ?_
                                rotate_left
                                · intro w'
                                  go_simp
                                  with_reducible rfl
                                rotate_left
                                · simp only [Act.put, List.setIfInBounds_toArray, List.set_cons_zero, List.set_cons_succ, i64_w, i32_w]
                                  rfl
                                refine pure_ (i := 12) (N := some 87) (v := ?_) (a' := ?_) #[true, true, true, true, true, true, true, true, true, true, true, true, true, false, false, false, false, false, false, false, false, false] rfl rfl (any_of HT_.out (by kernel_rfl)) (fun _ _ _ h => h) (Or.inl ⟨by rfl, ?_⟩) ?_ ?_
                                rotate_left
                                · intro w'
                                  go_simp
                                  with_reducible rfl
                                rotate_left
                                · simp only [Act.put, List.setIfInBounds_toArray, List.set_cons_zero, List.set_cons_succ, i64_w, i32_w]
                                  rfl
                                refine pure_ (i := 13) (N := some 88) (v := undef) (a' := ?_) #[true, true, true, true, true, true, true, true, true, true, true, true, true, true, false, false, false, false, false, false, false, false] rfl rfl (any_of HT_.out (by kernel_rfl)) (fun _ _ _ h => h) (Or.inr ⟨by rfl, rfl⟩) ?_ ?_
                                rotate_left
                                · simp only [Act.put, List.setIfInBounds_toArray, List.set_cons_zero, List.set_cons_succ, i64_w, i32_w]
                                  rfl
                                refine pure_ (i := 14) (N := some 89) (v := undef) (a' := ?_) #[true, true, true, true, true, true, true, true, true, true, true, true, true, true, true, false, false, false, false, false, false, false] rfl rfl (any_of HT_.out (by kernel_rfl)) (fun _ _ _ h => h) (Or.inr ⟨by rfl, rfl⟩) ?_ ?_
                                rotate_left
                                · simp only [Act.put, List.setIfInBounds_toArray, List.set_cons_zero, List.set_cons_succ, i64_w, i32_w]
                                  rfl
                                refine pure_ (i := 15) (N := some 90) (v := undef) (a' := ?_) #[true, true, true, true, true, true, true, true, true, true, true, true, true, true, true, true, false, false, false, false, false, false] rfl rfl (any_of HT_.out (by kernel_rfl)) (fun _ _ _ h => h) (Or.inr ⟨by rfl, rfl⟩) ?_ ?_
                                rotate_left
                                · simp only [Act.put, List.setIfInBounds_toArray, List.set_cons_zero, List.set_cons_succ, i64_w, i32_w]
                                  rfl
                                refine pure_ (i := 16) (N := some 91) (v := undef) (a' := ?_) #[true, true, true, true, true, true, true, true, true, true, true, true, true, true, true, true, true, false, false, false, false, false] rfl rfl (any_of HT_.out (by kernel_rfl)) (fun _ _ _ h => h) (Or.inr ⟨by rfl, rfl⟩) ?_ ?_
                                rotate_left
                                · simp only [Act.put, List.setIfInBounds_toArray, List.set_cons_zero, List.set_cons_succ, i64_w, i32_w]
                                  rfl
                                refine pure_ (i := 17) (N := some 92) (v := undef) (a' := ?_) #[true, true, true, true, true, true, true, true, true, true, true, true, true, true, true, true, true, true, false, false, false, false] rfl rfl (any_of HT_.out (by kernel_rfl)) (fun _ _ _ h => h) (Or.inr ⟨by rfl, rfl⟩) ?_ ?_
                                rotate_left
                                · simp only [Act.put, List.setIfInBounds_toArray, List.set_cons_zero, List.set_cons_succ, i64_w, i32_w]
                                  rfl
                                refine pure_ (i := 18) (N := some 93) (v := undef) (a' := ?_) #[true, true, true, true, true, true, true, true, true, true, true, true, true, true, true, true, true, true, true, false, false, false] rfl rfl (any_of HT_.out (by kernel_rfl)) (fun _ _ _ h => h) (Or.inr ⟨by rfl, rfl⟩) ?_ ?_
                                rotate_left
                                · simp only [Act.put, List.setIfInBounds_toArray, List.set_cons_zero, List.set_cons_succ, i64_w, i32_w]
                                  rfl
                                refine pure_ (i := 19) (N := some 94) (v := undef) (a' := ?_) #[true, true, true, true, true, true, true, true, true, true, true, true, true, true, true, true, true, true, true, true, false, false] rfl rfl (any_of HT_.out (by kernel_rfl)) (fun _ _ _ h => h) (Or.inr ⟨by rfl, rfl⟩) ?_ ?_
                                rotate_left
                                · simp only [Act.put, List.setIfInBounds_toArray, List.set_cons_zero, List.set_cons_succ, i64_w, i32_w]
                                  rfl
                                refine pure_ (i := 20) (N := some 95) (v := undef) (a' := ?_) #[true, true, true, true, true, true, true, true, true, true, true, true, true, true, true, true, true, true, true, true, true, false] rfl rfl (any_of HT_.out (by kernel_rfl)) (fun _ _ _ h => h) (Or.inr ⟨by rfl, rfl⟩) ?_ ?_
                                rotate_left
                                · simp only [Act.put, List.setIfInBounds_toArray, List.set_cons_zero, List.set_cons_succ, i64_w, i32_w]
                                  rfl
                                refine pure_ (i := 21) (N := some 96) (v := ?_) (a' := ?_) #[true, true, true, true, true, true, true, true, true, true, true, true, true, true, true, true, true, true, true, true, true, true] rfl rfl (any_of HT_.out (by kernel_rfl)) (fun _ _ _ h => h) (Or.inl ⟨by rfl, ?_⟩) ?_ ?_
                                rotate_left
                                · intro w'
                                  go_simp
                                  with_reducible rfl
                                rotate_left
                                · simp only [Act.put, List.setIfInBounds_toArray, List.set_cons_zero, List.set_cons_succ, i64_w, i32_w]
                                  rfl
                                refine done_ (done_of HT_.out (by kernel_rfl)) ?_
                                try go_wp2
                                go_meet
                                case rel => exact ⟨_, (true), (by first | rfl | (simp; done) | (simp [*]; done) | (simp [*]; generalize (rd_T44 l2 x16_1).f2.toList = zz; cases zz <;> rfl)), H', ⟨by have := HK1.out; have := HJ10.out; have := HJ34.out; first | omega | exact Nat.le_refl _⟩, ⟨by (with_reducible repeat (first | apply Kd.V_alloc | apply Kd.V_drewN | apply Kd.V_drew)); exact Kd.V_mono HO_1.out (fun _ hk => ⟨hk.1.1, ⟨hk.1.2.1, hk.1.2.2⟩⟩)⟩, ⟨by (with_reducible repeat (first | refine blk_drewN ?_ _ | refine blk_drew ?_ | refine blk_alloc ?_ _)); exact BK122.out⟩, ⟨by (with_reducible repeat (first | refine blk_drewN ?_ _ | refine blk_drew ?_ | refine blk_alloc ?_ _)); exact BK124.out⟩, ⟨by repeat (first | (with_reducible first | exact HB.out | apply below_alloc | apply pw_below_drewN | apply below_drew1 | refine below_set ?_ GE122.out | refine below_set ?_ GE124.out) | exact HB.out)⟩⟩
                            · replace c47 := Bool.eq_false_iff.mpr c47
                              subst c47
                              have H1 : (judge_Fits.j3 kj34 l0 x1_1 x8_1 x16_1 l2 (l2.length : Int) x16_1 true ((rd_T44 l2 x16_1).f0) ((rd_T44 l2 x16_1).f1) ((rd_T44 l2 x16_1).f2)) = some (r1, r2) := by rw [if_neg (show ¬ (false = true) by decide)] at H; exact H
                              clear H
                              have H := H1
                              clear H1
                              have H' := Aside0.mk H
                              clear H
                              try go_wp2
                              have n0_ := Aside0.mk (Kd.V_drew HO_1.out)
                              have n1_ := Aside0.mk (blk_drew BK122.out)
                              have n2_ := Aside0.mk (blk_drew BK124.out)
                              have n3_ := Aside0.mk (below_drew1 HB.out)
                              clear HO_1
                              clear BK122
                              clear BK124
                              clear HB
                              have HO_1 := n0_
                              have BK122 := n1_
                              have BK124 := n2_
                              have HB := n3_
                              clear n0_ n1_ n2_ n3_
                              refine start_ (n := 22) (S := fun w' => w'.cell? ⟨gb124, 0, none⟩ = some (.int .u8 ((rd_T62 l0 x16_1).f0)) ∧ w'.cell? ⟨gb124, 1, none⟩ = some (.string ((rd_T62 l0 x16_1).f1)) ∧ w'.cell? ⟨gb122, 0, none⟩ = some (.int .i64 ((rd_T44 l2 x16_1).f0)) ∧ w'.cell? ⟨gb122, 1, none⟩ = some (.int .i64 ((rd_T44 l2 x16_1).f1)) ∧ w'.cell? ⟨gb122, 2, none⟩ = some (.string ((rd_T44 l2 x16_1).f2))) (ds := []) #[false, false, false, false, false, false, false, false, false, false, false, false, false, false, false, false, false, false, false, false, false, false] (by kernel_rfl) rfl rfl ⟨(blk_cell BK124.out 0).trans rfl, (blk_cell BK124.out 1).trans rfl, (blk_cell BK122.out 0).trans rfl, (blk_cell BK122.out 1).trans rfl, (blk_cell BK122.out 2).trans rfl⟩ (fun hHeld => ?_); refine with_tabW judge_Fits.tab14 judge_Fits.bits14 (fun HT_ HW_ => ?_)
                              generalize wc.drew = w59 at HO_1 BK122 BK124 HB hHeld ⊢
                              refine pure_ (i := 0) (N := some 75) (v := ?_) (a' := ?_) #[true, false, false, false, false, false, false, false, false, false, false, false, false, false, false, false, false, false, false, false, false, false] rfl rfl (any_of HT_.out (by kernel_rfl)) (fun _ _ _ h => h) (Or.inl ⟨by rfl, ?_⟩) ?_ ?_
                              rotate_left
                              · intro w'
                                go_simp
                                with_reducible rfl
                              rotate_left
                              · simp only [Act.put, List.setIfInBounds_toArray, List.set_cons_zero, List.set_cons_succ, i64_w, i32_w]
                                rfl
                              refine pure_ (i := 1) (N := some 76) (v := ?_) (a' := ?_) #[true, true, false, false, false, false, false, false, false, false, false, false, false, false, false, false, false, false, false, false, false, false] rfl rfl (any_of HT_.out (by kernel_rfl)) (fun _ _ _ h => h) (Or.inl ⟨by rfl, ?_⟩) ?_ ?_
                              rotate_left
                              · intro w'
                                go_simp
                                with_reducible rfl
                              rotate_left
                              · simp only [Act.put, List.setIfInBounds_toArray, List.set_cons_zero, List.set_cons_succ, i64_w, i32_w]
                                rfl
                              refine pure_ (i := 4) (N := some 79) (v := ?_) (a' := ?_) #[true, true, false, false, true, false, false, false, false, false, false, false, false, false, false, false, false, false, false, false, false, false] rfl rfl (any_of HT_.out (by kernel_rfl)) (fun _ _ _ h => h) (Or.inl ⟨by rfl, ?_⟩) ?_ ?_
                              rotate_left
                              · intro w'
                                go_simp
                                with_reducible rfl
                              rotate_left
                              · simp only [Act.put, List.setIfInBounds_toArray, List.set_cons_zero, List.set_cons_succ, i64_w, i32_w]
                                rfl
                              refine take_ (i := 2) (N := some 77) (v := ?_) (a' := ?_) #[true, true, true, false, true, false, false, false, false, false, false, false, false, false, false, false, false, false, false, false, false, false] rfl rfl (take_ofW HT_.out HW_.out (by kernel_rfl)) (fun _ _ _ h => h) (Or.inl ⟨by rfl, ?_⟩) hHeld ?_ ?_
                              rotate_left
                              · rintro w' ⟨s0, s1, s2, s3, s4⟩
                                go_simp
                                with_reducible rfl
                              rotate_left
                              · simp only [Act.put, List.setIfInBounds_toArray, List.set_cons_zero, List.set_cons_succ, i64_w, i32_w]
                                rfl
                              refine take_ (i := 5) (N := some 80) (v := ?_) (a' := ?_) #[true, true, true, false, true, true, false, false, false, false, false, false, false, false, false, false, false, false, false, false, false, false] rfl rfl (take_ofW HT_.out HW_.out (by kernel_rfl)) (fun _ _ _ h => h) (Or.inl ⟨by rfl, ?_⟩) hHeld ?_ ?_
                              rotate_left
                              · rintro w' ⟨s0, s1, s2, s3, s4⟩
                                go_simp
                                with_reducible rfl
                              rotate_left
                              · simp only [Act.put, List.setIfInBounds_toArray, List.set_cons_zero, List.set_cons_succ, i64_w, i32_w]
                                rfl
                              refine one_ (i := 3) (N := some 78) #[true, true, true, true, true, true, false, false, false, false, false, false, false, false, false, false, false, false, false, false, false, false] rfl rfl (one_of HT_.out (by kernel_rfl)) (by decide) (fun K hK => ?_)
                              refine goes_ Try.func30 (by kernel_rfl) rfl #[.bool x8_1, .int .u8 ((rd_T62 l0 x16_1).f0)] (by rfl) rfl rfl (by (try simp only [List.map_toArray, List.map_cons, List.map_nil]); first | done | rfl | (simp only [List.length_drop, List.length_take]; rfl)) ?_
                              with_reducible refine (judge_may.calls kj34 x8_1 ((rd_T62 l0 x16_1).f0) t125 _ A45.out).mono ?_
                              rintro e w60 ⟨v126, rfl, ho0, hb⟩
                              refine ⟨_, rfl, ?_⟩
                              have n0_ := Aside0.mk (Kd.V_elder' (by (with_reducible repeat (first | apply Kd.V_alloc | apply Kd.V_drewN | apply Kd.V_drew)); exact HO_1.out) (Kd.R_base ho0) hb)
                              have n1_ := Aside0.mk (Kd.R_lower (Kd.R_newM (M := fun k_ => (w.heap.size ≤ k_)) ho0 (below_size (by repeat (first | (with_reducible first | exact HB.out | apply below_alloc | apply pw_below_drewN | apply below_drew1 | refine below_set ?_ GE122.out | refine below_set ?_ GE124.out) | exact HB.out))) (fun k_ h_ => h_)) (below_size (by repeat (first | (with_reducible first | exact HB.out | apply below_alloc | apply pw_below_drewN | apply below_drew1 | refine below_set ?_ GE122.out | refine below_set ?_ GE124.out) | exact HB.out))))
                              have n2_ := Aside0.mk (blk_below (g := gb122) (o := .cells #[.int .i64 ((rd_T44 l2 x16_1).f0), .int .i64 ((rd_T44 l2 x16_1).f1), .string ((rd_T44 l2 x16_1).f2)] 44 (0, 0)) (by (with_reducible repeat (first | refine blk_drewN ?_ _ | refine blk_drew ?_ | refine blk_alloc ?_ _)); exact BK122.out) hb)
                              have n3_ := Aside0.mk (blk_below (g := gb124) (o := .cells #[.int .u8 ((rd_T62 l0 x16_1).f0), .string ((rd_T62 l0 x16_1).f1)] 62 (0, 0)) (by (with_reducible repeat (first | refine blk_drewN ?_ _ | refine blk_drew ?_ | refine blk_alloc ?_ _)); exact BK124.out) hb)
                              have n4_ := Aside0.mk (below_step (by repeat (first | (with_reducible first | exact HB.out | apply below_alloc | apply pw_below_drewN | apply below_drew1 | refine below_set ?_ GE122.out | refine below_set ?_ GE124.out) | exact HB.out)) hb)
                              clear HO_1
                              clear BK122
                              clear BK124
                              clear HB
                              have HO_1 := n0_
                              have HO127 := n1_
                              have BK122 := n2_
                              have BK124 := n3_
                              have HB := n4_
                              clear n0_ n1_ n2_ n3_ n4_
                              (try clear hb)
                              (try clear hb2)
                              (try clear hk)
                              (try clear hi)
                              (try clear ho0)
                              obtain ⟨Ao61, co61, eo61⟩ := Kd.R_slice HO127.out
                              (first | subst eo61 | (injection eo61 with f1_ f2_ f3_; have f4_ := f1_.symm; have f5_ := f3_.symm; clear f1_ f2_ f3_; subst f4_; subst f5_))
                              refine hK.out _ _ ⟨(blk_cell BK124.out 0).trans rfl, (blk_cell BK124.out 1).trans rfl, (blk_cell BK122.out 0).trans rfl, (blk_cell BK122.out 1).trans rfl, (blk_cell BK122.out 2).trans rfl⟩ (fun hHeld => ?_)
                              clear hK K
                              refine norm_ (a' := ?_) ?_ ?_
                              rotate_left
                              · show Act.put _ (some 78) _ = _
                                simp only [Act.put, List.setIfInBounds_toArray, List.set_cons_zero, List.set_cons_succ, i64_w, i32_w]
                                rfl
                              refine one_ (i := 6) (N := some 81) #[true, true, true, true, true, true, true, false, false, false, false, false, false, false, false, false, false, false, false, false, false, false] rfl rfl (one_of HT_.out (by kernel_rfl)) (by decide) (fun K hK => ?_)
                              refine goes_ Try.func29 (by kernel_rfl) rfl #[.slice Ao61 t125.length co61, .int .i64 ((rd_T44 l2 x16_1).f0)] (by rfl) rfl rfl (by (try simp only [List.map_toArray, List.map_cons, List.map_nil]); first | done | rfl | (simp only [List.length_drop, List.length_take]; rfl)) ?_
                              with_reducible refine (slices_Contains_int_int.calls kj34 _ _ t125 ((rd_T44 l2 x16_1).f0) false _ ?side1 ?side2 A46.out).mono ?_
                              (case side1 => repeat (first | exact (Kd.R_reads' HO127.out).2.2 | (with_reducible refine Kd.C_alloc ?_ _) | (with_reducible refine Kd.C_drewN ?_ _) | (with_reducible refine Kd.C_drew ?_)))
                              (case side2 => exact (Kd.R_reads' HO127.out).2.1)
                              rintro e w' ⟨rfl, ⟨nd, rfl⟩⟩
                              refine ⟨_, rfl, ?_⟩
                              refine hK.out _ _ ⟨(blk_cell BK124.out 0).trans rfl, (blk_cell BK124.out 1).trans rfl, (blk_cell BK122.out 0).trans rfl, (blk_cell BK122.out 1).trans rfl, (blk_cell BK122.out 2).trans rfl⟩ (fun hHeld => ?_)
                              clear hK K
                              refine norm_ (a' := ?_) ?_ ?_
                              rotate_left
                              · show Act.put _ (some 81) _ = _
                                simp only [Act.put, List.setIfInBounds_toArray, List.set_cons_zero, List.set_cons_succ, i64_w, i32_w]
                                rfl
                              refine pure_ (i := 7) (N := some 82) (v := ?_) (a' := ?_) #[true, true, true, true, true, true, true, true, false, false, false, false, false, false, false, false, false, false, false, false, false, false] rfl rfl (any_of HT_.out (by kernel_rfl)) (fun _ _ _ h => h) (Or.inl ⟨by rfl, ?_⟩) ?_ ?_
                              rotate_left
                              · intro w'
                                go_simp
                                with_reducible rfl
                              rotate_left
                              · simp only [Act.put, List.setIfInBounds_toArray, List.set_cons_zero, List.set_cons_succ, i64_w, i32_w]
                                rfl
                              refine pure_ (i := 8) (N := some 83) (v := ?_) (a' := ?_) #[true, true, true, true, true, true, true, true, true, false, false, false, false, false, false, false, false, false, false, false, false, false] rfl rfl (any_of HT_.out (by kernel_rfl)) (fun _ _ _ h => h) (Or.inl ⟨by rfl, ?_⟩) ?_ ?_
                              rotate_left
                              · intro w'
                                go_simp
                                with_reducible rfl
                              rotate_left
                              · simp only [Act.put, List.setIfInBounds_toArray, List.set_cons_zero, List.set_cons_succ, i64_w, i32_w]
                                rfl
                              refine pure_ (i := 9) (N := some 84) (v := undef) (a' := ?_) #[true, true, true, true, true, true, true, true, true, true, false, false, false, false, false, false, false, false, false, false, false, false] rfl rfl (any_of HT_.out (by kernel_rfl)) (fun _ _ _ h => h) (Or.inr ⟨by rfl, rfl⟩) ?_ ?_
                              rotate_left
                              · simp only [Act.put, List.setIfInBounds_toArray, List.set_cons_zero, List.set_cons_succ, i64_w, i32_w]
                                rfl
                              refine pure_ (i := 10) (N := some 85) (v := undef) (a' := ?_) #[true, true, true, true, true, true, true, true, true, true, true, false, false, false, false, false, false, false, false, false, false, false] rfl rfl (any_of HT_.out (by kernel_rfl)) (fun _ _ _ h => h) (Or.inr ⟨by rfl, rfl⟩) ?_ ?_
                              rotate_left
                              · simp only [Act.put, List.setIfInBounds_toArray, List.set_cons_zero, List.set_cons_succ, i64_w, i32_w]
                                rfl
                              refine pure_ (i := 11) (N := some 86) (v := ?_) (a' := ?_) #[true, true, true, true, true, true, true, true, true, true, true, true, false, false, false, false, false, false, false, false, false, false] rfl rfl (any_of HT_.out (by kernel_rfl)) (fun _ _ _ h => h) (Or.inl ⟨by rfl, ?_⟩) ?_ ?_
                              rotate_left
                              · intro w'
                                go_simp
                                with_reducible rfl
                              rotate_left
                              · simp only [Act.put, List.setIfInBounds_toArray, List.set_cons_zero, List.set_cons_succ, i64_w, i32_w]
                                rfl
                              refine pure_ (i := 12) (N := some 87) (v := ?_) (a' := ?_) #[true, true, true, true, true, true, true, true, true, true, true, true, true, false, false, false, false, false, false, false, false, false] rfl rfl (any_of HT_.out (by kernel_rfl)) (fun _ _ _ h => h) (Or.inl ⟨by rfl, ?_⟩) ?_ ?_
                              rotate_left
                              · intro w'
                                go_simp
                                with_reducible rfl
                              rotate_left
                              · simp only [Act.put, List.setIfInBounds_toArray, List.set_cons_zero, List.set_cons_succ, i64_w, i32_w]
                                rfl
                              refine pure_ (i := 13) (N := some 88) (v := undef) (a' := ?_) #[true, true, true, true, true, true, true, true, true, true, true, true, true, true, false, false, false, false, false, false, false, false] rfl rfl (any_of HT_.out (by kernel_rfl)) (fun _ _ _ h => h) (Or.inr ⟨by rfl, rfl⟩) ?_ ?_
                              rotate_left
                              · simp only [Act.put, List.setIfInBounds_toArray, List.set_cons_zero, List.set_cons_succ, i64_w, i32_w]
                                rfl
                              refine pure_ (i := 14) (N := some 89) (v := undef) (a' := ?_) #[true, true, true, true, true, true, true, true, true, true, true, true, true, true, true, false, false, false, false, false, false, false] rfl rfl (any_of HT_.out (by kernel_rfl)) (fun _ _ _ h => h) (Or.inr ⟨by rfl, rfl⟩) ?_ ?_
                              rotate_left
                              · simp only [Act.put, List.setIfInBounds_toArray, List.set_cons_zero, List.set_cons_succ, i64_w, i32_w]
                                rfl
                              refine pure_ (i := 15) (N := some 90) (v := undef) (a' := ?_) #[true, true, true, true, true, true, true, true, true, true, true, true, true, true, true, true, false, false, false, false, false, false] rfl rfl (any_of HT_.out (by kernel_rfl)) (fun _ _ _ h => h) (Or.inr ⟨by rfl, rfl⟩) ?_ ?_
                              rotate_left
                              · simp only [Act.put, List.setIfInBounds_toArray, List.set_cons_zero, List.set_cons_succ, i64_w, i32_w]
                                rfl
                              refine pure_ (i := 16) (N := some 91) (v := undef) (a' := ?_) #[true, true, true, true, true, true, true, true, true, true, true, true, true, true, true, true, true, false, false, false, false, false] rfl rfl (any_of HT_.out (by kernel_rfl)) (fun _ _ _ h => h) (Or.inr ⟨by rfl, rfl⟩) ?_ ?_
                              rotate_left
                              · simp only [Act.put, List.setIfInBounds_toArray, List.set_cons_zero, List.set_cons_succ, i64_w, i32_w]
                                rfl
                              refine pure_ (i := 17) (N := some 92) (v := undef) (a' := ?_) #[true, true, true, true, true, true, true, true, true, true, true, true, true, true, true, true, true, true, false, false, false, false] rfl rfl (any_of HT_.out (by kernel_rfl)) (fun _ _ _ h => h) (Or.inr ⟨by rfl, rfl⟩) ?_ ?_
                              rotate_left
                              · simp only [Act.put, List.setIfInBounds_toArray, List.set_cons_zero, List.set_cons_succ, i64_w, i32_w]
                                rfl
                              refine pure_ (i := 18) (N := some 93) (v := undef) (a' := ?_) #[true, true, true, true, true, true, true, true, true, true, true, true, true, true, true, true, true, true, true, false, false, false] rfl rfl (any_of HT_.out (by kernel_rfl)) (fun _ _ _ h => h) (Or.inr ⟨by rfl, rfl⟩) ?_ ?_
                              rotate_left
                              · simp only [Act.put, List.setIfInBounds_toArray, List.set_cons_zero, List.set_cons_succ, i64_w, i32_w]
                                rfl
                              refine pure_ (i := 19) (N := some 94) (v := undef) (a' := ?_) #[true, true, true, true, true, true, true, true, true, true, true, true, true, true, true, true, true, true, true, true, false, false] rfl rfl (any_of HT_.out (by kernel_rfl)) (fun _ _ _ h => h) (Or.inr ⟨by rfl, rfl⟩) ?_ ?_
                              rotate_left
                              · simp only [Act.put, List.setIfInBounds_toArray, List.set_cons_zero, List.set_cons_succ, i64_w, i32_w]
                                rfl
                              refine pure_ (i := 20) (N := some 95) (v := undef) (a' := ?_) #[true, true, true, true, true, true, true, true, true, true, true, true, true, true, true, true, true, true, true, true, true, false] rfl rfl (any_of HT_.out (by kernel_rfl)) (fun _ _ _ h => h) (Or.inr ⟨by rfl, rfl⟩) ?_ ?_
                              rotate_left
                              · simp only [Act.put, List.setIfInBounds_toArray, List.set_cons_zero, List.set_cons_succ, i64_w, i32_w]
                                rfl
                              refine pure_ (i := 21) (N := some 96) (v := ?_) (a' := ?_) #[true, true, true, true, true, true, true, true, true, true, true, true, true, true, true, true, true, true, true, true, true, true] rfl rfl (any_of HT_.out (by kernel_rfl)) (fun _ _ _ h => h) (Or.inl ⟨by rfl, ?_⟩) ?_ ?_
                              rotate_left
                              · intro w'
                                go_simp
                                with_reducible rfl
                              rotate_left
                              · simp only [Act.put, List.setIfInBounds_toArray, List.set_cons_zero, List.set_cons_succ, i64_w, i32_w]
                                rfl
                              refine done_ (done_of HT_.out (by kernel_rfl)) ?_
                              try go_wp2
                              go_meet
                              case rel => exact ⟨_, (true), (by first | rfl | (simp; done) | (simp [*]; done) | (simp [*]; generalize (rd_T44 l2 x16_1).f2.toList = zz; cases zz <;> rfl)), H', ⟨by have := HK1.out; have := HJ10.out; have := HJ34.out; first | omega | exact Nat.le_refl _⟩, ⟨by (with_reducible repeat (first | apply Kd.V_alloc | apply Kd.V_drewN | apply Kd.V_drew)); exact Kd.V_mono HO_1.out (fun _ hk => ⟨hk.1.1, ⟨hk.1.2.1, hk.1.2.2⟩⟩)⟩, ⟨by (with_reducible repeat (first | refine blk_drewN ?_ _ | refine blk_drew ?_ | refine blk_alloc ?_ _)); exact BK122.out⟩, ⟨by (with_reducible repeat (first | refine blk_drewN ?_ _ | refine blk_drew ?_ | refine blk_alloc ?_ _)); exact BK124.out⟩, ⟨by repeat (first | (with_reducible first | exact HB.out | apply below_alloc | apply pw_below_drewN | apply below_drew1 | refine below_set ?_ GE122.out | refine below_set ?_ GE124.out) | exact HB.out)⟩⟩
                          case rest =>
                            clear HC44
                            try clear c2
                            try clear p2
                            try clear c3
                            try clear c4
                            try clear c29
                            try clear c30
                            try clear c47
                            try clear c48
                            obtain ⟨kq, x96_43, rfl, HA, HJ43, HO_1, BK122, BK124, HB⟩ := hcut
                            cases kq with
                            | zero => exact absurd HA.out (by simp [judge_Fits.j3])
                            | succ kj43 =>
                              have H := HA.out
                              clear HA
                              simp only [judge_Fits.j3] at H
                              by_cases c62 : x96_43 = true
                              · subst c62
                                have H1 : (some (x16_1, 1)) = some (r1, r2) := by rw [if_pos rfl] at H; exact H
                                clear H
                                have H := H1
                                clear H1
                                simp only [Option.some.injEq, Prod.mk.injEq] at H
                                obtain ⟨rfl, rfl⟩ := H
                                go_wp2
                                go_ret2
                                exact ⟨by first | rfl | (simp [errW_none, errW_some] <;> rfl) | (simp [*, errW_none, errW_some] <;> rfl), by repeat (first | (with_reducible first | exact HB.out | apply below_alloc | apply pw_below_drewN | apply below_drew1 | refine below_set ?_ GE122.out | refine below_set ?_ GE124.out) | exact HB.out)⟩
                              · replace c62 := Bool.eq_false_iff.mpr c62
                                subst c62
                                have H1 : (if ((rd_T44 l2 x16_1).f0) = 2 then (if (x1_1.length : Int) = 0 then (some (x16_1, 220)) else (if 0 < (x1_1.length : Int) then (if (rdOf ByteArray.empty x1_1 0).toList = ((rd_T44 l2 x16_1).f2).toList then (if 1 ≤ (x1_1.length : Int) then (judge_Fits.j4 kj43 l0 (x1_1.drop 1) x8_1 l2 (l2.length : Int) x16_1 ((rd_T44 l2 x16_1).f0) ((rd_T44 l2 x16_1).f1) ((rd_T44 l2 x16_1).f2)) else (none)) else (some (x16_1, 220))) else (none))) else (judge_Fits.j4 kj43 l0 x1_1 x8_1 l2 (l2.length : Int) x16_1 ((rd_T44 l2 x16_1).f0) ((rd_T44 l2 x16_1).f1) ((rd_T44 l2 x16_1).f2))) = some (r1, r2) := by rw [if_neg (show ¬ (false = true) by decide)] at H; exact H
                                clear H
                                have H := H1
                                clear H1
                                have HC63 := Aside0.mk H
                                clear H
                                have hnb64 := NB122_124.out
                                have hnc64 := NB124_122.out
                                have hcz65_0 : wc.cell? ⟨gb122, 0, none⟩ = some (.int .i64 ((rd_T44 l2 x16_1).f0)) := (blk_cell BK122.out 0).trans rfl
                                have hcz65_1 : wc.cell? ⟨gb122, 1, none⟩ = some (.int .i64 ((rd_T44 l2 x16_1).f1)) := (blk_cell BK122.out 1).trans rfl
                                have hcz65_2 : wc.cell? ⟨gb122, 2, none⟩ = some (.string ((rd_T44 l2 x16_1).f2)) := (blk_cell BK122.out 2).trans rfl
                                have hfz65_0 := blk_frozen BK122.out 0
                                have hfz65_1 := blk_frozen BK122.out 1
                                have hfz65_2 := blk_frozen BK122.out 2
                                go_upto_if 100 with (fail)
                                go_cut [1] (fun v1 wc => ∃ (kq : Nat) (x1_62 : List ByteArray), Aside0 (judge_Fits.j4 kq l0 x1_62 x8_1 l2 (l2.length : Int) x16_1 ((rd_T44 l2 x16_1).f0) ((rd_T44 l2 x16_1).f1) ((rd_T44 l2 x16_1).f2) = some (r1, r2)) ∧ Aside0 (kq ≤ kj43) ∧ Aside0 (Kd.V Kd.string 9 wc w.heap.size (fun k_ => (P1_ k_ ∨ w.heap.size ≤ k_) ∧ k_ ≠ gb122 ∧ k_ ≠ gb124) v1 x1_62) ∧ Aside0 (wc.heap[gb122]? = some (.cells #[.int .i64 ((rd_T44 l2 x16_1).f0), .int .i64 ((rd_T44 l2 x16_1).f1), .string ((rd_T44 l2 x16_1).f2)] 44 (0, 0))) ∧ Aside0 (wc.heap[gb124]? = some (.cells #[.int .u8 ((rd_T62 l0 x16_1).f0), .string ((rd_T62 l0 x16_1).f1)] 62 (0, 0))) ∧ Aside0 (Below w.heap.size w wc))
                                case first =>
                                  have H := HC63.out
                                  clear HC63
                                  by_cases c66 : ((rd_T44 l2 x16_1).f0) = 2
                                  · rw [if_pos c66] at H
                                    have c66b0 : (((rd_T44 l2 x16_1).f0) == 2) = true := beq_iff_eq.mpr c66
                                    have c66b1 : (((rd_T44 l2 x16_1).f0) != 2) = false := bne_eq_false_iff_eq.mpr c66
                                    clear c66
                                    (first | rw [c66b0] | (simp only [i64_w, i32_w]; rw [c66b0]) | skip)
                                    by_cases c67 : (x1_1.length : Int) = 0
                                    · rw [if_pos c67] at H
                                      have c67b0 : ((x1_1.length : Int) == 0) = true := beq_iff_eq.mpr c67
                                      have c67b1 : ((x1_1.length : Int) != 0) = false := bne_eq_false_iff_eq.mpr c67
                                      clear c67
                                      simp only [Option.some.injEq, Prod.mk.injEq] at H
                                      obtain ⟨rfl, rfl⟩ := H
                                      try go_wp2
                                      have n0_ := Aside0.mk (Kd.V_drew HO_1.out)
                                      have n1_ := Aside0.mk (blk_drew BK122.out)
                                      have n2_ := Aside0.mk (blk_drew BK124.out)
                                      have n3_ := Aside0.mk (below_drew1 HB.out)
                                      clear HO_1
                                      clear BK122
                                      clear BK124
                                      clear HB
                                      have HO_1 := n0_
                                      have BK122 := n1_
                                      have BK124 := n2_
                                      have HB := n3_
                                      clear n0_ n1_ n2_ n3_
                                      obtain ⟨Ao69, co69, eo69⟩ := Kd.V_slice HO_1.out
                                      (first | subst eo69 | (injection eo69 with f1_ f2_ f3_; have f4_ := f1_.symm; have f5_ := f3_.symm; clear f1_ f2_ f3_; subst f4_; subst f5_))
                                      refine start_ (n := 11) (S := fun w' => True) (ds := []) #[false, false, false, false, false, false, false, false, false, false, false] (by kernel_rfl) rfl rfl trivial (fun hHeld => ?_); refine with_tabW judge_Fits.tab17 judge_Fits.bits17 (fun HT_ HW_ => ?_)
                                      generalize wc.drew = w68 at HO_1 BK122 BK124 HB hHeld ⊢
                                      refine pure_ (i := 0) (N := some 101) (v := ?_) (a' := ?_) #[true, false, false, false, false, false, false, false, false, false, false] rfl rfl (any_of HT_.out (by kernel_rfl)) (fun _ _ _ h => h) (Or.inl ⟨by rfl, ?_⟩) ?_ ?_
                                      rotate_left
                                      · intro w'
                                        go_simp
                                        with_reducible rfl
                                      rotate_left
                                      · simp only [Act.put, List.setIfInBounds_toArray, List.set_cons_zero, List.set_cons_succ, i64_w, i32_w]
                                        rfl
                                      refine pure_ (i := 1) (N := some 102) (v := ?_) (a' := ?_) #[true, true, false, false, false, false, false, false, false, false, false] rfl rfl (any_of HT_.out (by kernel_rfl)) (fun _ _ _ h => h) (Or.inl ⟨by rfl, ?_⟩) ?_ ?_
                                      rotate_left
                                      · intro w'
                                        go_simp
                                        with_reducible rfl
                                      rotate_left
                                      · simp only [Act.put, List.setIfInBounds_toArray, List.set_cons_zero, List.set_cons_succ, i64_w, i32_w]
                                        rfl
                                      refine pure_ (i := 2) (N := some 103) (v := ?_) (a' := ?_) #[true, true, true, false, false, false, false, false, false, false, false] rfl rfl (any_of HT_.out (by kernel_rfl)) (fun _ _ _ h => h) (Or.inl ⟨by rfl, ?_⟩) ?_ ?_
                                      rotate_left
                                      · intro w'
                                        go_simp
                                        with_reducible rfl
                                      rotate_left
                                      · simp only [Act.put, List.setIfInBounds_toArray, List.set_cons_zero, List.set_cons_succ, i64_w, i32_w]
                                        rfl
                                      refine pure_ (i := 3) (N := some 104) (v := ?_) (a' := ?_) #[true, true, true, true, false, false, false, false, false, false, false] rfl rfl (any_of HT_.out (by kernel_rfl)) (fun _ _ _ h => h) (Or.inl ⟨by rfl, ?_⟩) ?_ ?_
                                      rotate_left
                                      · intro w'
                                        go_simp
                                        with_reducible rfl
                                      rotate_left
                                      · simp only [Act.put, List.setIfInBounds_toArray, List.set_cons_zero, List.set_cons_succ, i64_w, i32_w]
                                        rfl
                                      refine pure_ (i := 4) (N := some 105) (v := undef) (a' := ?_) #[true, true, true, true, true, false, false, false, false, false, false] rfl rfl (any_of HT_.out (by kernel_rfl)) (fun _ _ _ h => h) (Or.inr ⟨by rfl, rfl⟩) ?_ ?_
                                      rotate_left
                                      · simp only [Act.put, List.setIfInBounds_toArray, List.set_cons_zero, List.set_cons_succ, i64_w, i32_w]
                                        rfl
                                      refine pure_ (i := 5) (N := some 106) (v := undef) (a' := ?_) #[true, true, true, true, true, true, false, false, false, false, false] rfl rfl (any_of HT_.out (by kernel_rfl)) (fun _ _ _ h => h) (Or.inr ⟨by rfl, rfl⟩) ?_ ?_
                                      rotate_left
                                      · simp only [Act.put, List.setIfInBounds_toArray, List.set_cons_zero, List.set_cons_succ, i64_w, i32_w]
                                        rfl
                                      refine pure_ (i := 6) (N := some 107) (v := undef) (a' := ?_) #[true, true, true, true, true, true, true, false, false, false, false] rfl rfl (any_of HT_.out (by kernel_rfl)) (fun _ _ _ h => h) (Or.inr ⟨by rfl, rfl⟩) ?_ ?_
                                      rotate_left
                                      · simp only [Act.put, List.setIfInBounds_toArray, List.set_cons_zero, List.set_cons_succ, i64_w, i32_w]
                                        rfl
                                      refine pure_ (i := 7) (N := some 108) (v := undef) (a' := ?_) #[true, true, true, true, true, true, true, true, false, false, false] rfl rfl (any_of HT_.out (by kernel_rfl)) (fun _ _ _ h => h) (Or.inr ⟨by rfl, rfl⟩) ?_ ?_
                                      rotate_left
                                      · simp only [Act.put, List.setIfInBounds_toArray, List.set_cons_zero, List.set_cons_succ, i64_w, i32_w]
                                        rfl
                                      refine pure_ (i := 8) (N := some 109) (v := undef) (a' := ?_) #[true, true, true, true, true, true, true, true, true, false, false] rfl rfl (any_of HT_.out (by kernel_rfl)) (fun _ _ _ h => h) (Or.inr ⟨by rfl, rfl⟩) ?_ ?_
                                      rotate_left
                                      · simp only [Act.put, List.setIfInBounds_toArray, List.set_cons_zero, List.set_cons_succ, i64_w, i32_w]
                                        rfl
                                      refine pure_ (i := 9) (N := some 110) (v := undef) (a' := ?_) #[true, true, true, true, true, true, true, true, true, true, false] rfl rfl (any_of HT_.out (by kernel_rfl)) (fun _ _ _ h => h) (Or.inr ⟨by rfl, rfl⟩) ?_ ?_
                                      rotate_left
                                      · simp only [Act.put, List.setIfInBounds_toArray, List.set_cons_zero, List.set_cons_succ, i64_w, i32_w]
                                        rfl
                                      refine pure_ (i := 10) (N := some 111) (v := ?_) (a' := ?_) #[true, true, true, true, true, true, true, true, true, true, true] rfl rfl (any_of HT_.out (by kernel_rfl)) (fun _ _ _ h => h) (Or.inl ⟨by rfl, ?_⟩) ?_ ?_
                                      rotate_left
                                      · intro w'
                                        go_simp
                                        with_reducible rfl
                                      rotate_left
                                      · simp only [Act.put, List.setIfInBounds_toArray, List.set_cons_zero, List.set_cons_succ, i64_w, i32_w]
                                        rfl
                                      refine done_ (done_of HT_.out (by kernel_rfl)) ?_
                                      try go_wp2
                                      go_ret2
                                      exact ⟨by first | rfl | (simp [errW_none, errW_some] <;> rfl) | (simp [*, errW_none, errW_some] <;> rfl), by repeat (first | (with_reducible first | exact HB.out | apply below_alloc | apply pw_below_drewN | apply below_drew1 | refine below_set ?_ GE122.out | refine below_set ?_ GE124.out) | exact HB.out)⟩
                                    · rw [if_neg c67] at H
                                      have c67b0 : ((x1_1.length : Int) == 0) = false := beq_eq_false_iff_ne.mpr c67
                                      have c67b1 : ((x1_1.length : Int) != 0) = true := bne_iff_ne.mpr c67
                                      have c67b2 : ¬ (x1_1 = []) := fun h_ => c67 (by rw [h_]; rfl)
                                      by_cases c70 : 0 < (x1_1.length : Int)
                                      · rw [if_pos c70] at H
                                        have c70b0 : decide (0 < (x1_1.length : Int)) = true := decide_eq_true c70
                                        have c70b1 : decide (0 < x1_1.length) = true := decide_eq_true (by omega)
                                        clear c70
                                        by_cases c71 : (rdOf ByteArray.empty x1_1 0).toList = ((rd_T44 l2 x16_1).f2).toList
                                        · rw [if_pos c71] at H
                                          have c71b0 : ((rdOf ByteArray.empty x1_1 0).toList == ((rd_T44 l2 x16_1).f2).toList) = true := beq_iff_eq.mpr c71
                                          have c71b1 : ((rdOf ByteArray.empty x1_1 0).toList != ((rd_T44 l2 x16_1).f2).toList) = false := bne_eq_false_iff_eq.mpr c71
                                          clear c71
                                          by_cases c72 : 1 ≤ (x1_1.length : Int)
                                          · rw [if_pos c72] at H
                                            have c72b0 := eq_true c72
                                            have c72b1 : decide (1 ≤ (x1_1.length : Int)) = true := decide_eq_true c72
                                            clear c72
                                            obtain ⟨y130, hy130⟩ : ∃ y_ : List ByteArray, y_ = (x1_1.drop 1) := ⟨_, rfl⟩
                                            replace H : (judge_Fits.j4 kj43 l0 y130 x8_1 l2 (l2.length : Int) x16_1 ((rd_T44 l2 x16_1).f0) ((rd_T44 l2 x16_1).f1) ((rd_T44 l2 x16_1).f2)) = some (r1, r2) := by first | (rw [hy130]; with_reducible exact H) | (have H2_ := (Option.bind_some _ _).symm.trans H; rw [hy130]; with_reducible exact H2_) | (have H2_ := (Option.bind_some _ _).symm.trans H; with_reducible exact H2_) | with_reducible exact H | (rw [hy130]; exact H) | exact H
                                            have Ny130 := Aside0.mk hy130
                                            clear hy130
                                            have H' := Aside0.mk H
                                            clear H
                                            try go_wp2
                                            have n0_ := Aside0.mk (Kd.V_drew HO_1.out)
                                            have n1_ := Aside0.mk (blk_drew BK122.out)
                                            have n2_ := Aside0.mk (blk_drew BK124.out)
                                            have n3_ := Aside0.mk (below_drew1 HB.out)
                                            clear HO_1
                                            clear BK122
                                            clear BK124
                                            clear HB
                                            have HO_1 := n0_
                                            have BK122 := n1_
                                            have BK124 := n2_
                                            have HB := n3_
                                            clear n0_ n1_ n2_ n3_
                                            obtain ⟨Ao74, co74, eo74⟩ := Kd.V_slice HO_1.out
                                            (first | subst eo74 | (injection eo74 with f1_ f2_ f3_; have f4_ := f1_.symm; have f5_ := f3_.symm; clear f1_ f2_ f3_; subst f4_; subst f5_))
                                            have p129 : 0 ≤ (0 : Int) := (by omega)
                                            have q129 : 0 < (x1_1.length : Int) := of_decide_eq_true (by first | (with_reducible assumption) | assumption)
                                            obtain ⟨ad129, e129, hx129_0⟩ := Kd.at_string (Kd.V_reads' HO_1.out).2.2 0 p129 q129
                                            cases e129
                                            have qi129 : (0 < x1_1.length) = True := eq_true (by omega)
                                            (try rw [show ((0 : Int)).toNat = 0 from rfl] at hx129_0)
                                            (try rw [Addr.add_zero'] at hx129_0)
                                            replace p129 := eq_true p129
                                            replace q129 := eq_true q129
                                            refine start_ (n := 11) (S := fun w' => w'.cell? ⟨gb122, 0, none⟩ = some (.int .i64 ((rd_T44 l2 x16_1).f0)) ∧ w'.cell? ⟨gb122, 1, none⟩ = some (.int .i64 ((rd_T44 l2 x16_1).f1)) ∧ w'.cell? ⟨gb122, 2, none⟩ = some (.string ((rd_T44 l2 x16_1).f2)) ∧ w'.cell? ad129 = some (.string (rdOf ByteArray.empty x1_1 0))) (ds := []) #[false, false, false, false, false, false, false, false, false, false, false] (by kernel_rfl) rfl rfl ⟨(blk_cell BK122.out 0).trans rfl, (blk_cell BK122.out 1).trans rfl, (blk_cell BK122.out 2).trans rfl, hx129_0⟩ (fun hHeld => ?_); refine with_tabW judge_Fits.tab17 judge_Fits.bits17 (fun HT_ HW_ => ?_)
                                            generalize wc.drew = w73 at HO_1 BK122 BK124 HB hx129_0 hHeld ⊢
                                            refine pure_ (i := 0) (N := some 101) (v := ?_) (a' := ?_) #[true, false, false, false, false, false, false, false, false, false, false] rfl rfl (any_of HT_.out (by kernel_rfl)) (fun _ _ _ h => h) (Or.inl ⟨by rfl, ?_⟩) ?_ ?_
                                            rotate_left
                                            · intro w'
                                              go_simp
                                              with_reducible rfl
                                            rotate_left
                                            · simp only [Act.put, List.setIfInBounds_toArray, List.set_cons_zero, List.set_cons_succ, i64_w, i32_w]
                                              rfl
                                            refine pure_ (i := 1) (N := some 102) (v := ?_) (a' := ?_) #[true, true, false, false, false, false, false, false, false, false, false] rfl rfl (any_of HT_.out (by kernel_rfl)) (fun _ _ _ h => h) (Or.inl ⟨by rfl, ?_⟩) ?_ ?_
                                            rotate_left
                                            · intro w'
                                              go_simp
                                              with_reducible rfl
                                            rotate_left
                                            · simp only [Act.put, List.setIfInBounds_toArray, List.set_cons_zero, List.set_cons_succ, i64_w, i32_w]
                                              rfl
                                            refine pure_ (i := 2) (N := some 103) (v := ?_) (a' := ?_) #[true, true, true, false, false, false, false, false, false, false, false] rfl rfl (any_of HT_.out (by kernel_rfl)) (fun _ _ _ h => h) (Or.inl ⟨by rfl, ?_⟩) ?_ ?_
                                            rotate_left
                                            · intro w'
                                              go_simp
                                              with_reducible rfl
                                            rotate_left
                                            · simp only [Act.put, List.setIfInBounds_toArray, List.set_cons_zero, List.set_cons_succ, i64_w, i32_w]
                                              rfl
                                            refine pure_ (i := 3) (N := some 104) (v := ?_) (a' := ?_) #[true, true, true, true, false, false, false, false, false, false, false] rfl rfl (any_of HT_.out (by kernel_rfl)) (fun _ _ _ h => h) (Or.inl ⟨by rfl, ?_⟩) ?_ ?_
                                            rotate_left
                                            · intro w'
                                              go_simp
                                              with_reducible rfl
                                            rotate_left
                                            · simp only [Act.put, List.setIfInBounds_toArray, List.set_cons_zero, List.set_cons_succ, i64_w, i32_w]
                                              rfl
                                            refine pure_ (i := 4) (N := some 105) (v := ?_) (a' := ?_) #[true, true, true, true, true, false, false, false, false, false, false] rfl rfl (any_of HT_.out (by kernel_rfl)) (fun _ _ _ h => h) (Or.inl ⟨by rfl, ?_⟩) ?_ ?_
                                            rotate_left
                                            · intro w'
                                              go_simp
                                              with_reducible rfl
                                            rotate_left
                                            · simp only [Act.put, List.setIfInBounds_toArray, List.set_cons_zero, List.set_cons_succ, i64_w, i32_w]
                                              rfl
                                            refine pure_ (i := 5) (N := some 106) (v := ?_) (a' := ?_) #[true, true, true, true, true, true, false, false, false, false, false] rfl rfl (any_of HT_.out (by kernel_rfl)) (fun _ _ _ h => h) (Or.inl ⟨by rfl, ?_⟩) ?_ ?_
                                            rotate_left
                                            · intro w'
                                              go_simp
                                              with_reducible rfl
                                            rotate_left
                                            · simp only [Act.put, List.setIfInBounds_toArray, List.set_cons_zero, List.set_cons_succ, i64_w, i32_w]
                                              rfl
                                            refine pure_ (i := 7) (N := some 108) (v := ?_) (a' := ?_) #[true, true, true, true, true, true, false, true, false, false, false] rfl rfl (any_of HT_.out (by kernel_rfl)) (fun _ _ _ h => h) (Or.inl ⟨by rfl, ?_⟩) ?_ ?_
                                            rotate_left
                                            · intro w'
                                              go_simp
                                              with_reducible rfl
                                            rotate_left
                                            · simp only [Act.put, List.setIfInBounds_toArray, List.set_cons_zero, List.set_cons_succ, i64_w, i32_w]
                                              rfl
                                            refine take_ (i := 6) (N := some 107) (v := ?_) (a' := ?_) #[true, true, true, true, true, true, true, true, false, false, false] rfl rfl (take_ofW HT_.out HW_.out (by kernel_rfl)) (fun _ _ _ h => h) (Or.inl ⟨by rfl, ?_⟩) hHeld ?_ ?_
                                            rotate_left
                                            · rintro w' ⟨s0, s1, s2, s3⟩
                                              go_simp
                                              with_reducible rfl
                                            rotate_left
                                            · simp only [Act.put, List.setIfInBounds_toArray, List.set_cons_zero, List.set_cons_succ, i64_w, i32_w]
                                              rfl
                                            refine take_ (i := 8) (N := some 109) (v := ?_) (a' := ?_) #[true, true, true, true, true, true, true, true, true, false, false] rfl rfl (take_ofW HT_.out HW_.out (by kernel_rfl)) (fun _ _ _ h => h) (Or.inl ⟨by rfl, ?_⟩) hHeld ?_ ?_
                                            rotate_left
                                            · rintro w' ⟨s0, s1, s2, s3⟩
                                              go_simp
                                              with_reducible rfl
                                            rotate_left
                                            · simp only [Act.put, List.setIfInBounds_toArray, List.set_cons_zero, List.set_cons_succ, i64_w, i32_w]
                                              rfl
                                            refine pure_ (i := 9) (N := some 110) (v := ?_) (a' := ?_) #[true, true, true, true, true, true, true, true, true, true, false] rfl rfl (any_of HT_.out (by kernel_rfl)) (fun _ _ _ h => h) (Or.inl ⟨by rfl, ?_⟩) ?_ ?_
                                            rotate_left
                                            · intro w'
                                              go_simp
                                              with_reducible rfl
                                            rotate_left
                                            · simp only [Act.put, List.setIfInBounds_toArray, List.set_cons_zero, List.set_cons_succ, i64_w, i32_w]
                                              rfl
                                            refine pure_ (i := 10) (N := some 111) (v := ?_) (a' := ?_) #[true, true, true, true, true, true, true, true, true, true, true] rfl rfl (any_of HT_.out (by kernel_rfl)) (fun _ _ _ h => h) (Or.inl ⟨by rfl, ?_⟩) ?_ ?_
                                            rotate_left
                                            · intro w'
                                              go_simp
                                              with_reducible rfl
                                            rotate_left
                                            · simp only [Act.put, List.setIfInBounds_toArray, List.set_cons_zero, List.set_cons_succ, i64_w, i32_w]
                                              rfl
                                            refine done_ (done_of HT_.out (by kernel_rfl)) ?_
                                            have q75 : (1 : Int) ≤ ((x1_1.length : Int) : Int) := of_decide_eq_true (by first | (with_reducible assumption) | assumption)
                                            obtain ⟨i075, hi075, _, hsz75, _⟩ := info_parts info9
                                            have hroom75 : x1_1.length ≤ co74 := (Kd.V_reads' HO_1.out).2.1
                                            have hC75 : Kd.F Kd.string _ _ (some ad129) x1_1.length x1_1 := (Kd.V_at (base := w.heap.size) HO_1.out).2.2
                                            have hcut75 := cut_from (P := Try.prog) 32 9 .i64 Try.underlying32 hi075 1 hsz75 (some ad129) x1_1.length co74 1 (by omega) q75
                                            have hr75 := Kd.F_cut (m := (1 : Int).toNat) (c := co74) hC75 (by omega) hroom75
                                            obtain ⟨A75, hA75⟩ : ∃ A1, A1 = (if co74 = (1 : Int).toNat then (some ad129) else ((some ad129) : Option Addr).map (·.add ((1 : Int).toNat * 1))) := ⟨_, rfl⟩
                                            obtain ⟨c75, hc75⟩ : ∃ c1, c1 = co74 - (1 : Int).toNat := ⟨_, rfl⟩
                                            have hy75 : y130.length = x1_1.length - (1 : Int).toNat := (by rw [Ny130.out, List.length_drop] <;> omega)
                                            rw [show (x1_1).drop (1 : Int).toNat = y130 from Ny130.out.symm] at hr75
                                            replace hr75 : Kd.F Kd.string _ _ A75 y130.length y130 := (by rw [hA75]; exact hr75)
                                            rw [← hy75, ← hA75, ← hc75] at hcut75
                                            have HO134 := Aside0.mk (show Kd.V Kd.string 9 _ w.heap.size _ (.slice A75 y130.length c75) y130 from Kd.V_mk (by rw [hy75, hc75]; exact Nat.sub_le_sub_right hroom75 _) hr75)
                                            have HC134 := Aside0.mk (show y130.length ≤ c75 from by rw [hy75, hc75]; exact Nat.sub_le_sub_right hroom75 _)
                                            clear hr75 hC75 hroom75 hi075 hsz75 hc75
                                            have KY75 := Aside0.mk hy75
                                            have KA75 := Aside0.mk hA75
                                            clear hy75 hA75
                                            replace q75 := eq_true q75
                                            try go_wp2
                                            go_meet
                                            case rel => exact ⟨_, (y130), H', ⟨by have := HK1.out; have := HJ10.out; have := HJ34.out; have := HJ43.out; first | omega | exact Nat.le_refl _⟩, ⟨by (with_reducible repeat (first | apply Kd.V_alloc | apply Kd.V_drewN | apply Kd.V_drew)); exact HO134.out⟩, ⟨by (with_reducible repeat (first | refine blk_drewN ?_ _ | refine blk_drew ?_ | refine blk_alloc ?_ _)); exact BK122.out⟩, ⟨by (with_reducible repeat (first | refine blk_drewN ?_ _ | refine blk_drew ?_ | refine blk_alloc ?_ _)); exact BK124.out⟩, ⟨by repeat (first | (with_reducible first | exact HB.out | apply below_alloc | apply pw_below_drewN | apply below_drew1 | refine below_set ?_ GE122.out | refine below_set ?_ GE124.out) | exact HB.out)⟩⟩
                                          · rw [if_neg c72] at H
                                            exact absurd H (by simp)
                                        · rw [if_neg c71] at H
                                          have c71b0 : ((rdOf ByteArray.empty x1_1 0).toList == ((rd_T44 l2 x16_1).f2).toList) = false := beq_eq_false_iff_ne.mpr c71
                                          have c71b1 : ((rdOf ByteArray.empty x1_1 0).toList != ((rd_T44 l2 x16_1).f2).toList) = true := bne_iff_ne.mpr c71
                                          simp only [Option.some.injEq, Prod.mk.injEq] at H
                                          obtain ⟨rfl, rfl⟩ := H
                                          try go_wp2
                                          have n0_ := Aside0.mk (Kd.V_drew HO_1.out)
                                          have n1_ := Aside0.mk (blk_drew BK122.out)
                                          have n2_ := Aside0.mk (blk_drew BK124.out)
                                          have n3_ := Aside0.mk (below_drew1 HB.out)
                                          clear HO_1
                                          clear BK122
                                          clear BK124
                                          clear HB
                                          have HO_1 := n0_
                                          have BK122 := n1_
                                          have BK124 := n2_
                                          have HB := n3_
                                          clear n0_ n1_ n2_ n3_
                                          obtain ⟨Ao77, co77, eo77⟩ := Kd.V_slice HO_1.out
                                          (first | subst eo77 | (injection eo77 with f1_ f2_ f3_; have f4_ := f1_.symm; have f5_ := f3_.symm; clear f1_ f2_ f3_; subst f4_; subst f5_))
                                          have p129 : 0 ≤ (0 : Int) := (by omega)
                                          have q129 : 0 < (x1_1.length : Int) := of_decide_eq_true (by first | (with_reducible assumption) | assumption)
                                          obtain ⟨ad129, e129, hx129_0⟩ := Kd.at_string (Kd.V_reads' HO_1.out).2.2 0 p129 q129
                                          cases e129
                                          have qi129 : (0 < x1_1.length) = True := eq_true (by omega)
                                          (try rw [show ((0 : Int)).toNat = 0 from rfl] at hx129_0)
                                          (try rw [Addr.add_zero'] at hx129_0)
                                          replace p129 := eq_true p129
                                          replace q129 := eq_true q129
                                          refine start_ (n := 11) (S := fun w' => w'.cell? ⟨gb122, 0, none⟩ = some (.int .i64 ((rd_T44 l2 x16_1).f0)) ∧ w'.cell? ⟨gb122, 1, none⟩ = some (.int .i64 ((rd_T44 l2 x16_1).f1)) ∧ w'.cell? ⟨gb122, 2, none⟩ = some (.string ((rd_T44 l2 x16_1).f2)) ∧ w'.cell? ad129 = some (.string (rdOf ByteArray.empty x1_1 0))) (ds := []) #[false, false, false, false, false, false, false, false, false, false, false] (by kernel_rfl) rfl rfl ⟨(blk_cell BK122.out 0).trans rfl, (blk_cell BK122.out 1).trans rfl, (blk_cell BK122.out 2).trans rfl, hx129_0⟩ (fun hHeld => ?_); refine with_tabW judge_Fits.tab17 judge_Fits.bits17 (fun HT_ HW_ => ?_)
                                          generalize wc.drew = w76 at HO_1 BK122 BK124 HB hx129_0 hHeld ⊢
                                          refine pure_ (i := 0) (N := some 101) (v := ?_) (a' := ?_) #[true, false, false, false, false, false, false, false, false, false, false] rfl rfl (any_of HT_.out (by kernel_rfl)) (fun _ _ _ h => h) (Or.inl ⟨by rfl, ?_⟩) ?_ ?_
                                          rotate_left
                                          · intro w'
                                            go_simp
                                            with_reducible rfl
                                          rotate_left
                                          · simp only [Act.put, List.setIfInBounds_toArray, List.set_cons_zero, List.set_cons_succ, i64_w, i32_w]
                                            rfl
                                          refine pure_ (i := 1) (N := some 102) (v := ?_) (a' := ?_) #[true, true, false, false, false, false, false, false, false, false, false] rfl rfl (any_of HT_.out (by kernel_rfl)) (fun _ _ _ h => h) (Or.inl ⟨by rfl, ?_⟩) ?_ ?_
                                          rotate_left
                                          · intro w'
                                            go_simp
                                            with_reducible rfl
                                          rotate_left
                                          · simp only [Act.put, List.setIfInBounds_toArray, List.set_cons_zero, List.set_cons_succ, i64_w, i32_w]
                                            rfl
                                          refine pure_ (i := 2) (N := some 103) (v := ?_) (a' := ?_) #[true, true, true, false, false, false, false, false, false, false, false] rfl rfl (any_of HT_.out (by kernel_rfl)) (fun _ _ _ h => h) (Or.inl ⟨by rfl, ?_⟩) ?_ ?_
                                          rotate_left
                                          · intro w'
                                            go_simp
                                            with_reducible rfl
                                          rotate_left
                                          · simp only [Act.put, List.setIfInBounds_toArray, List.set_cons_zero, List.set_cons_succ, i64_w, i32_w]
                                            rfl
                                          refine pure_ (i := 3) (N := some 104) (v := ?_) (a' := ?_) #[true, true, true, true, false, false, false, false, false, false, false] rfl rfl (any_of HT_.out (by kernel_rfl)) (fun _ _ _ h => h) (Or.inl ⟨by rfl, ?_⟩) ?_ ?_
                                          rotate_left
                                          · intro w'
                                            go_simp
                                            with_reducible rfl
                                          rotate_left
                                          · simp only [Act.put, List.setIfInBounds_toArray, List.set_cons_zero, List.set_cons_succ, i64_w, i32_w]
                                            rfl
                                          refine pure_ (i := 4) (N := some 105) (v := ?_) (a' := ?_) #[true, true, true, true, true, false, false, false, false, false, false] rfl rfl (any_of HT_.out (by kernel_rfl)) (fun _ _ _ h => h) (Or.inl ⟨by rfl, ?_⟩) ?_ ?_
                                          rotate_left
                                          · intro w'
                                            go_simp
                                            with_reducible rfl
                                          rotate_left
                                          · simp only [Act.put, List.setIfInBounds_toArray, List.set_cons_zero, List.set_cons_succ, i64_w, i32_w]
                                            rfl
                                          refine pure_ (i := 5) (N := some 106) (v := ?_) (a' := ?_) #[true, true, true, true, true, true, false, false, false, false, false] rfl rfl (any_of HT_.out (by kernel_rfl)) (fun _ _ _ h => h) (Or.inl ⟨by rfl, ?_⟩) ?_ ?_
                                          rotate_left
                                          · intro w'
                                            go_simp
                                            with_reducible rfl
                                          rotate_left
                                          · simp only [Act.put, List.setIfInBounds_toArray, List.set_cons_zero, List.set_cons_succ, i64_w, i32_w]
                                            rfl
                                          refine pure_ (i := 7) (N := some 108) (v := ?_) (a' := ?_) #[true, true, true, true, true, true, false, true, false, false, false] rfl rfl (any_of HT_.out (by kernel_rfl)) (fun _ _ _ h => h) (Or.inl ⟨by rfl, ?_⟩) ?_ ?_
                                          rotate_left
                                          · intro w'
                                            go_simp
                                            with_reducible rfl
                                          rotate_left
                                          · simp only [Act.put, List.setIfInBounds_toArray, List.set_cons_zero, List.set_cons_succ, i64_w, i32_w]
                                            rfl
                                          refine take_ (i := 6) (N := some 107) (v := ?_) (a' := ?_) #[true, true, true, true, true, true, true, true, false, false, false] rfl rfl (take_ofW HT_.out HW_.out (by kernel_rfl)) (fun _ _ _ h => h) (Or.inl ⟨by rfl, ?_⟩) hHeld ?_ ?_
                                          rotate_left
                                          · rintro w' ⟨s0, s1, s2, s3⟩
                                            go_simp
                                            with_reducible rfl
                                          rotate_left
                                          · simp only [Act.put, List.setIfInBounds_toArray, List.set_cons_zero, List.set_cons_succ, i64_w, i32_w]
                                            rfl
                                          refine take_ (i := 8) (N := some 109) (v := ?_) (a' := ?_) #[true, true, true, true, true, true, true, true, true, false, false] rfl rfl (take_ofW HT_.out HW_.out (by kernel_rfl)) (fun _ _ _ h => h) (Or.inl ⟨by rfl, ?_⟩) hHeld ?_ ?_
                                          rotate_left
                                          · rintro w' ⟨s0, s1, s2, s3⟩
                                            go_simp
                                            with_reducible rfl
                                          rotate_left
                                          · simp only [Act.put, List.setIfInBounds_toArray, List.set_cons_zero, List.set_cons_succ, i64_w, i32_w]
                                            rfl
                                          refine pure_ (i := 9) (N := some 110) (v := ?_) (a' := ?_) #[true, true, true, true, true, true, true, true, true, true, false] rfl rfl (any_of HT_.out (by kernel_rfl)) (fun _ _ _ h => h) (Or.inl ⟨by rfl, ?_⟩) ?_ ?_
                                          rotate_left
                                          · intro w'
                                            go_simp
                                            with_reducible rfl
                                          rotate_left
                                          · simp only [Act.put, List.setIfInBounds_toArray, List.set_cons_zero, List.set_cons_succ, i64_w, i32_w]
                                            rfl
                                          refine pure_ (i := 10) (N := some 111) (v := ?_) (a' := ?_) #[true, true, true, true, true, true, true, true, true, true, true] rfl rfl (any_of HT_.out (by kernel_rfl)) (fun _ _ _ h => h) (Or.inl ⟨by rfl, ?_⟩) ?_ ?_
                                          rotate_left
                                          · intro w'
                                            go_simp
                                            with_reducible rfl
                                          rotate_left
                                          · simp only [Act.put, List.setIfInBounds_toArray, List.set_cons_zero, List.set_cons_succ, i64_w, i32_w]
                                            rfl
                                          refine done_ (done_of HT_.out (by kernel_rfl)) ?_
                                          try go_wp2
                                          go_ret2
                                          exact ⟨by first | rfl | (simp [errW_none, errW_some] <;> rfl) | (simp [*, errW_none, errW_some] <;> rfl), by repeat (first | (with_reducible first | exact HB.out | apply below_alloc | apply pw_below_drewN | apply below_drew1 | refine below_set ?_ GE122.out | refine below_set ?_ GE124.out) | exact HB.out)⟩
                                      · rw [if_neg c70] at H
                                        exact absurd H (by simp)
                                  · rw [if_neg c66] at H
                                    have c66b0 : (((rd_T44 l2 x16_1).f0) == 2) = false := beq_eq_false_iff_ne.mpr c66
                                    have c66b1 : (((rd_T44 l2 x16_1).f0) != 2) = true := bne_iff_ne.mpr c66
                                    (first | rw [c66b0] | (simp only [i64_w, i32_w]; rw [c66b0]) | skip)
                                    have H' := Aside0.mk H
                                    clear H
                                    go_wp2
                                    go_meet
                                    case rel => exact ⟨_, (x1_1), H', ⟨by have := HK1.out; have := HJ10.out; have := HJ34.out; have := HJ43.out; first | omega | exact Nat.le_refl _⟩, ⟨by (with_reducible repeat (first | apply Kd.V_alloc | apply Kd.V_drewN | apply Kd.V_drew)); exact HO_1.out⟩, ⟨by (with_reducible repeat (first | refine blk_drewN ?_ _ | refine blk_drew ?_ | refine blk_alloc ?_ _)); exact BK122.out⟩, ⟨by (with_reducible repeat (first | refine blk_drewN ?_ _ | refine blk_drew ?_ | refine blk_alloc ?_ _)); exact BK124.out⟩, ⟨by repeat (first | (with_reducible first | exact HB.out | apply below_alloc | apply pw_below_drewN | apply below_drew1 | refine below_set ?_ GE122.out | refine below_set ?_ GE124.out) | exact HB.out)⟩⟩
                                case rest =>
                                  clear HC63
                                  try clear c1
                                  try clear p1
                                  try clear q1
                                  try clear hx1
                                  try clear qi1
                                  try clear c2
                                  try clear p2
                                  try clear c3
                                  try clear c4
                                  try clear c6
                                  try clear c7
                                  try clear q7
                                  try clear p12
                                  try clear q12
                                  try clear hx12
                                  try clear qi12
                                  try clear c29
                                  try clear c30
                                  try clear c47
                                  try clear c48
                                  try clear c62
                                  try clear c64
                                  try clear c66
                                  try clear c66b0
                                  try clear c66b1
                                  try clear c67
                                  try clear c67b0
                                  try clear c67b1
                                  try clear c67b2
                                  try clear c70
                                  try clear c70b0
                                  try clear c70b1
                                  try clear c71
                                  try clear c71b0
                                  try clear c71b1
                                  try clear c72
                                  try clear c72b0
                                  try clear c72b1
                                  try clear c75
                                  try clear q75
                                  try clear hcz65_0
                                  try clear hcz65_1
                                  try clear hcz65_2
                                  try clear hfz65_0
                                  try clear hfz65_1
                                  try clear hfz65_2
                                  try clear hx129_0
                                  try clear p129
                                  try clear p2
                                  try clear q129
                                  try clear q75
                                  obtain ⟨kq, x1_62, HA, HJ62, HO_1, BK122, BK124, HB⟩ := hcut
                                  cases kq with
                                  | zero => exact absurd HA.out (by simp [judge_Fits.j4])
                                  | succ kj62 =>
                                    have H := HA.out
                                    clear HA
                                    simp only [judge_Fits.j4] at H
                                    by_cases c78 : ((rd_T44 l2 x16_1).f0) = 1
                                    · rw [if_pos c78] at H
                                      have c78b0 : (((rd_T44 l2 x16_1).f0) == 1) = true := beq_iff_eq.mpr c78
                                      have c78b1 : (((rd_T44 l2 x16_1).f0) != 1) = false := bne_eq_false_iff_eq.mpr c78
                                      clear c78
                                      have H' := Aside0.mk H
                                      clear H
                                      have hnb79 := NB122_124.out
                                      have hnc79 := NB124_122.out
                                      have hcz80_0 : wc.cell? ⟨gb122, 0, none⟩ = some (.int .i64 ((rd_T44 l2 x16_1).f0)) := (blk_cell BK122.out 0).trans rfl
                                      have hcz80_1 : wc.cell? ⟨gb122, 1, none⟩ = some (.int .i64 ((rd_T44 l2 x16_1).f1)) := (blk_cell BK122.out 1).trans rfl
                                      have hcz80_2 : wc.cell? ⟨gb122, 2, none⟩ = some (.string ((rd_T44 l2 x16_1).f2)) := (blk_cell BK122.out 2).trans rfl
                                      have hfz80_0 := blk_frozen BK122.out 0
                                      have hfz80_1 := blk_frozen BK122.out 1
                                      have hfz80_2 := blk_frozen BK122.out 2
                                      go_wp2
                                      go_roundg kj62
                                      case measure => have := HK1.out; have := HJ10.out; have := HJ34.out; have := HJ43.out; have := HJ62.out; omega
                                      case rel => exact ⟨(x1_62), (true), (wrap64 (x16_1 + 1)), (by first | rfl | (simp; done) | (simp [*]; done) | (simp [*]; generalize (rd_T44 l2 x16_1).f2.toList = zz; cases zz <;> rfl)), (by first | rfl | (simp; done) | (simp [*]; done) | (simp [*]; generalize (rd_T44 l2 x16_1).f2.toList = zz; cases zz <;> rfl)), H', ⟨by have := HK1.out; have := HJ10.out; have := HJ34.out; have := HJ43.out; have := HJ62.out; omega⟩, ⟨by (with_reducible repeat (first | apply Kd.V_alloc | apply Kd.V_drewN | apply Kd.V_drew)); exact Kd.V_mono HO_1.out (fun _ hk => hk.1)⟩, ⟨by repeat (first | (with_reducible first | exact HB.out | apply below_alloc | apply pw_below_drewN | apply below_drew1 | refine below_set ?_ GE122.out | refine below_set ?_ GE124.out) | exact HB.out)⟩⟩
                                    · rw [if_neg c78] at H
                                      have c78b0 : (((rd_T44 l2 x16_1).f0) == 1) = false := beq_eq_false_iff_ne.mpr c78
                                      have c78b1 : (((rd_T44 l2 x16_1).f0) != 1) = true := bne_iff_ne.mpr c78
                                      by_cases c81 : ((rd_T44 l2 x16_1).f0) = 3
                                      · rw [if_pos c81] at H
                                        have c81b0 : (((rd_T44 l2 x16_1).f0) == 3) = true := beq_iff_eq.mpr c81
                                        have c81b1 : (((rd_T44 l2 x16_1).f0) != 3) = false := bne_eq_false_iff_eq.mpr c81
                                        clear c81
                                        have H' := Aside0.mk H
                                        clear H
                                        have hnb82 := NB122_124.out
                                        have hnc82 := NB124_122.out
                                        have hcz83_0 : wc.cell? ⟨gb122, 0, none⟩ = some (.int .i64 ((rd_T44 l2 x16_1).f0)) := (blk_cell BK122.out 0).trans rfl
                                        have hcz83_1 : wc.cell? ⟨gb122, 1, none⟩ = some (.int .i64 ((rd_T44 l2 x16_1).f1)) := (blk_cell BK122.out 1).trans rfl
                                        have hcz83_2 : wc.cell? ⟨gb122, 2, none⟩ = some (.string ((rd_T44 l2 x16_1).f2)) := (blk_cell BK122.out 2).trans rfl
                                        have hfz83_0 := blk_frozen BK122.out 0
                                        have hfz83_1 := blk_frozen BK122.out 1
                                        have hfz83_2 := blk_frozen BK122.out 2
                                        go_wp2
                                        go_roundg kj62
                                        case measure => have := HK1.out; have := HJ10.out; have := HJ34.out; have := HJ43.out; have := HJ62.out; omega
                                        case rel => exact ⟨(x1_62), (false), (wrap64 (x16_1 + 1)), (by first | rfl | (simp; done) | (simp [*]; done) | (simp [*]; generalize (rd_T44 l2 x16_1).f2.toList = zz; cases zz <;> rfl)), (by first | rfl | (simp; done) | (simp [*]; done) | (simp [*]; generalize (rd_T44 l2 x16_1).f2.toList = zz; cases zz <;> rfl)), H', ⟨by have := HK1.out; have := HJ10.out; have := HJ34.out; have := HJ43.out; have := HJ62.out; omega⟩, ⟨by (with_reducible repeat (first | apply Kd.V_alloc | apply Kd.V_drewN | apply Kd.V_drew)); exact Kd.V_mono HO_1.out (fun _ hk => hk.1)⟩, ⟨by repeat (first | (with_reducible first | exact HB.out | apply below_alloc | apply pw_below_drewN | apply below_drew1 | refine below_set ?_ GE122.out | refine below_set ?_ GE124.out) | exact HB.out)⟩⟩
                                      · rw [if_neg c81] at H
                                        have c81b0 : (((rd_T44 l2 x16_1).f0) == 3) = false := beq_eq_false_iff_ne.mpr c81
                                        have c81b1 : (((rd_T44 l2 x16_1).f0) != 3) = true := bne_iff_ne.mpr c81
                                        by_cases c84 : ((rd_T44 l2 x16_1).f0) = 6
                                        · rw [if_pos c84] at H
                                          have c84b0 : (((rd_T44 l2 x16_1).f0) == 6) = true := beq_iff_eq.mpr c84
                                          have c84b1 : (((rd_T44 l2 x16_1).f0) != 6) = false := bne_eq_false_iff_eq.mpr c84
                                          clear c84
                                          have H' := Aside0.mk H
                                          clear H
                                          have hnb85 := NB122_124.out
                                          have hnc85 := NB124_122.out
                                          have hcz86_0 : wc.cell? ⟨gb122, 0, none⟩ = some (.int .i64 ((rd_T44 l2 x16_1).f0)) := (blk_cell BK122.out 0).trans rfl
                                          have hcz86_1 : wc.cell? ⟨gb122, 1, none⟩ = some (.int .i64 ((rd_T44 l2 x16_1).f1)) := (blk_cell BK122.out 1).trans rfl
                                          have hcz86_2 : wc.cell? ⟨gb122, 2, none⟩ = some (.string ((rd_T44 l2 x16_1).f2)) := (blk_cell BK122.out 2).trans rfl
                                          have hfz86_0 := blk_frozen BK122.out 0
                                          have hfz86_1 := blk_frozen BK122.out 1
                                          have hfz86_2 := blk_frozen BK122.out 2
                                          go_wp2
                                          go_roundg kj62
                                          case measure => have := HK1.out; have := HJ10.out; have := HJ34.out; have := HJ43.out; have := HJ62.out; omega
                                          case rel => exact ⟨(x1_62), (false), (wrap64 (x16_1 + 1)), (by first | rfl | (simp; done) | (simp [*]; done) | (simp [*]; generalize (rd_T44 l2 x16_1).f2.toList = zz; cases zz <;> rfl)), (by first | rfl | (simp; done) | (simp [*]; done) | (simp [*]; generalize (rd_T44 l2 x16_1).f2.toList = zz; cases zz <;> rfl)), H', ⟨by have := HK1.out; have := HJ10.out; have := HJ34.out; have := HJ43.out; have := HJ62.out; omega⟩, ⟨by (with_reducible repeat (first | apply Kd.V_alloc | apply Kd.V_drewN | apply Kd.V_drew)); exact Kd.V_mono HO_1.out (fun _ hk => hk.1)⟩, ⟨by repeat (first | (with_reducible first | exact HB.out | apply below_alloc | apply pw_below_drewN | apply below_drew1 | refine below_set ?_ GE122.out | refine below_set ?_ GE124.out) | exact HB.out)⟩⟩
                                        · rw [if_neg c84] at H
                                          have c84b0 : (((rd_T44 l2 x16_1).f0) == 6) = false := beq_eq_false_iff_ne.mpr c84
                                          have c84b1 : (((rd_T44 l2 x16_1).f0) != 6) = true := bne_iff_ne.mpr c84
                                          have H' := Aside0.mk H
                                          clear H
                                          have hnb87 := NB122_124.out
                                          have hnc87 := NB124_122.out
                                          have hcz88_0 : wc.cell? ⟨gb122, 0, none⟩ = some (.int .i64 ((rd_T44 l2 x16_1).f0)) := (blk_cell BK122.out 0).trans rfl
                                          have hcz88_1 : wc.cell? ⟨gb122, 1, none⟩ = some (.int .i64 ((rd_T44 l2 x16_1).f1)) := (blk_cell BK122.out 1).trans rfl
                                          have hcz88_2 : wc.cell? ⟨gb122, 2, none⟩ = some (.string ((rd_T44 l2 x16_1).f2)) := (blk_cell BK122.out 2).trans rfl
                                          have hfz88_0 := blk_frozen BK122.out 0
                                          have hfz88_1 := blk_frozen BK122.out 1
                                          have hfz88_2 := blk_frozen BK122.out 2
                                          go_wp2
                                          go_roundg kj62
                                          case measure => have := HK1.out; have := HJ10.out; have := HJ34.out; have := HJ43.out; have := HJ62.out; omega
                                          case rel => exact ⟨(x1_62), (x8_1), (wrap64 (x16_1 + 1)), (by first | rfl | (simp; done) | (simp [*]; done) | (simp [*]; generalize (rd_T44 l2 x16_1).f2.toList = zz; cases zz <;> rfl)), (by first | rfl | (simp; done) | (simp [*]; done) | (simp [*]; generalize (rd_T44 l2 x16_1).f2.toList = zz; cases zz <;> rfl)), H', ⟨by have := HK1.out; have := HJ10.out; have := HJ34.out; have := HJ43.out; have := HJ62.out; omega⟩, ⟨by (with_reducible repeat (first | apply Kd.V_alloc | apply Kd.V_drewN | apply Kd.V_drew)); exact Kd.V_mono HO_1.out (fun _ hk => hk.1)⟩, ⟨by repeat (first | (with_reducible first | exact HB.out | apply below_alloc | apply pw_below_drewN | apply below_drew1 | refine below_set ?_ GE122.out | refine below_set ?_ GE124.out) | exact HB.out)⟩⟩
              · rw [if_neg c10] at H
                exact absurd H (by simp)
          · rw [if_neg c6] at H
            exact absurd H (by simp)
        · rw [if_neg c5] at H
          exact absurd H (by simp)
      · rw [if_neg c4] at H
        have c4b0 : decide (x16_1 < (l2.length : Int)) = false := decide_eq_false c4
        clear c4
        simp only [Option.some.injEq, Prod.mk.injEq] at H
        obtain ⟨rfl, rfl⟩ := H
        go_wp2
        go_ret2
        exact ⟨by first | rfl | (simp [errW_none, errW_some] <;> rfl) | (simp [*, errW_none, errW_some] <;> rfl), by repeat (first | (with_reducible first | exact HB.out | apply below_alloc | apply pw_below_drewN | apply below_drew1) | exact HB.out)⟩

end Go.Proofs.Ytojgiaemgpnfdaa.PJudgeSession
