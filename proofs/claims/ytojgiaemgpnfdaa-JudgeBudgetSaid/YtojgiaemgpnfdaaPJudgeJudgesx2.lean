-- PRINTED BY print.sh 35421559b90ae4d0a3588c463048766b98c2df88dd9212a6774a882060cdf62d: not written by this session
import Derived.Test.YtojgiaemgpnfdaaPJudgeJudgesx0
import Derived.Test.YtojgiaemgpnfdaaPJudgeJudgesx1
namespace Go.Proofs.Ytojgiaemgpnfdaa.PJudgeJudges
open Go.RowKit Go.Proofs.YtojgiaemgpnfdaaW.PrintWords Go.Proofs.YtojgiaemgpnfdaaW.PrintLast Go.Proofs.YtojgiaemgpnfdaaW.PrintMore
attribute [local go_sem] max2_int min2_int max_two min_two max_three min_three max_four min_four   -- for this text's walks alone
set_option linter.unusedVariables false
set_option linter.unusedSimpArgs false

/-! ### stopcockref22_wrong: function 23 -/
mutual
def stopcockref22_wrong.j0 : Nat → Int → List (S28) → Int → Bool → Int → Int → Int → Option (Int)
  | 0, _, _, _, _, _, _, _ => none
  | k + 1, x0, x1, x2, x8, x119000, x119001, x119002 => if x119000 = 1 then (stopcockref22_wrong.j1 k x0 x1 x2 x8 x119000 (x119000 == 1) x119000 x119001 x119002) else (stopcockref22_wrong.j1 k x0 x1 x2 x8 x119000 (x119000 == 2) x119000 x119001 x119002)
def stopcockref22_wrong.j2 : Nat → List (S28) → Int → Bool → Int → Int → Int → Option (Int)
  | 0, _, _, _, _, _, _ => none
  | k + 1, x1, x2, x8, x119000, x119001, x119002 => if x8 = true then (if 0 ≤ x2 then (if x2 ≤ (x1.length : Int) then ((stopcockref22_open.f k (x1.take (x2 : Int).toNat)).bind fun t123 => (stopcockref22_wrong.l0 k false false 0 t123 (t123.length : Int) 0 x119000 x119001 x119002)) else (none)) else (none)) else (some 1)
def stopcockref22_wrong.l0 : Nat → Bool → Bool → Int → List (S55) → Int → Int → Int → Int → Int → Option (Int)
  | 0, _, _, _, _, _, _, _, _, _ => none
  | k + 1, x9, x10, x11, x60, x61, x62, x119000, x119001, x119002 => if x62 < x61 then (if 0 ≤ x62 then (if x62 < (x60.length : Int) then (if x9 = true then (if x10 = true then (if ((rd_T55 x60 x62).f0) = x119001 then (stopcockref22_wrong.l0 k true true (wrap64 (x11 + 1)) x60 x61 (wrap64 (x62 + 1)) x119000 x119001 x119002) else (stopcockref22_wrong.l0 k true true x11 x60 x61 (wrap64 (x62 + 1)) x119000 x119001 x119002)) else (if ((rd_T55 x60 x62).f0) = x119001 then (stopcockref22_wrong.l0 k true false (wrap64 (x11 + 1)) x60 x61 (wrap64 (x62 + 1)) x119000 x119001 x119002) else (stopcockref22_wrong.l0 k true (((rd_T55 x60 x62).f1) == x119002) x11 x60 x61 (wrap64 (x62 + 1)) x119000 x119001 x119002))) else (if ((rd_T55 x60 x62).f0) = x119001 then (if x10 = true then (stopcockref22_wrong.l0 k (((rd_T55 x60 x62).f1) == x119002) true (wrap64 (x11 + 1)) x60 x61 (wrap64 (x62 + 1)) x119000 x119001 x119002) else (stopcockref22_wrong.l0 k (((rd_T55 x60 x62).f1) == x119002) false (wrap64 (x11 + 1)) x60 x61 (wrap64 (x62 + 1)) x119000 x119001 x119002)) else (if x10 = true then (stopcockref22_wrong.l0 k false true x11 x60 x61 (wrap64 (x62 + 1)) x119000 x119001 x119002) else (stopcockref22_wrong.l0 k false (((rd_T55 x60 x62).f1) == x119002) x11 x60 x61 (wrap64 (x62 + 1)) x119000 x119001 x119002)))) else (none)) else (none)) else (if x119000 = 1 then (stopcockref22_wrong.j4 k x9 x10 x11 x9 x119000 x119001 x119002) else (stopcockref22_wrong.j4 k x9 x10 x11 false x119000 x119001 x119002))
def stopcockref22_wrong.j4 : Nat → Bool → Bool → Int → Bool → Int → Int → Int → Option (Int)
  | 0, _, _, _, _, _, _, _ => none
  | k + 1, x9, x10, x11, x104, x119000, x119001, x119002 => if x104 = true then (some 3) else (if x119000 = 1 then (stopcockref22_wrong.j5 k x9 x11 x10 x119000 x119001 x119002) else (stopcockref22_wrong.j5 k x9 x11 false x119000 x119001 x119002))
def stopcockref22_wrong.j5 : Nat → Bool → Int → Bool → Int → Int → Int → Option (Int)
  | 0, _, _, _, _, _, _ => none
  | k + 1, x9, x11, x111, x119000, x119001, x119002 => if x111 = true then (some 220) else (if x119000 = 1 then (stopcockref22_wrong.j6 k x9 (decide (x11 ≥ 8)) x119000 x119001 x119002) else (stopcockref22_wrong.j6 k x9 false x119000 x119001 x119002))
def stopcockref22_wrong.j6 : Nat → Bool → Bool → Int → Int → Int → Option (Int)
  | 0, _, _, _, _, _ => none
  | k + 1, x9, x118, x119000, x119001, x119002 => if x118 = true then (some 6) else (if x119000 = 2 then (if x9 = true then (some 0) else (some 4)) else (some 0))
def stopcockref22_wrong.j1 : Nat → Int → List (S28) → Int → Bool → Int → Bool → Int → Int → Int → Option (Int)
  | 0, _, _, _, _, _, _, _, _, _ => none
  | k + 1, x0, x1, x2, x8, x31, x32, x119000, x119001, x119002 => if x32 = true then (if x8 = true then (if x119002 ≥ 1 then (stopcockref22_wrong.j2 k x1 x2 (decide (x119002 ≤ x0)) x119000 x119001 x119002) else (stopcockref22_wrong.j2 k x1 x2 false x119000 x119001 x119002)) else (stopcockref22_wrong.j2 k x1 x2 false x119000 x119001 x119002)) else (if x31 = 3 then (if x8 = true then (stopcockref22_wrong.j2 k x1 x2 (x119002 == 0) x119000 x119001 x119002) else (stopcockref22_wrong.j2 k x1 x2 false x119000 x119001 x119002)) else (stopcockref22_wrong.j2 k x1 x2 false x119000 x119001 x119002))
end
def stopcockref22_wrong.f (k : Nat) (a0 : Int) (l1 : List (S28)) (a2 : Int) : Option (Int) := if 0 ≤ a2 then (if a2 < (l1.length : Int) then (if a0 ≥ 1 then (if ((rd_T28 l1 a2).f1) ≥ 1 then (stopcockref22_wrong.j0 k a0 l1 a2 (decide (((rd_T28 l1 a2).f1) ≤ 7)) ((rd_T28 l1 a2).f0) ((rd_T28 l1 a2).f1) ((rd_T28 l1 a2).f2)) else (stopcockref22_wrong.j0 k a0 l1 a2 false ((rd_T28 l1 a2).f0) ((rd_T28 l1 a2).f1) ((rd_T28 l1 a2).f2))) else (stopcockref22_wrong.j0 k a0 l1 a2 false ((rd_T28 l1 a2).f0) ((rd_T28 l1 a2).f1) ((rd_T28 l1 a2).f2))) else (none)) else (none)
theorem stopcockref22_wrong.mono_l : ∀ k, (∀ y0 y1 y2 y3 y4 y5 y6, LeO (stopcockref22_wrong.j0 k y0 y1 y2 y3 y4 y5 y6) (stopcockref22_wrong.j0 (k + 1) y0 y1 y2 y3 y4 y5 y6)) ∧ (∀ y0 y1 y2 y3 y4 y5, LeO (stopcockref22_wrong.j2 k y0 y1 y2 y3 y4 y5) (stopcockref22_wrong.j2 (k + 1) y0 y1 y2 y3 y4 y5)) ∧ (∀ y0 y1 y2 y3 y4 y5 y6 y7 y8, LeO (stopcockref22_wrong.l0 k y0 y1 y2 y3 y4 y5 y6 y7 y8) (stopcockref22_wrong.l0 (k + 1) y0 y1 y2 y3 y4 y5 y6 y7 y8)) ∧ (∀ y0 y1 y2 y3 y4 y5 y6, LeO (stopcockref22_wrong.j4 k y0 y1 y2 y3 y4 y5 y6) (stopcockref22_wrong.j4 (k + 1) y0 y1 y2 y3 y4 y5 y6)) ∧ (∀ y0 y1 y2 y3 y4 y5, LeO (stopcockref22_wrong.j5 k y0 y1 y2 y3 y4 y5) (stopcockref22_wrong.j5 (k + 1) y0 y1 y2 y3 y4 y5)) ∧ (∀ y0 y1 y2 y3 y4, LeO (stopcockref22_wrong.j6 k y0 y1 y2 y3 y4) (stopcockref22_wrong.j6 (k + 1) y0 y1 y2 y3 y4)) ∧ (∀ y0 y1 y2 y3 y4 y5 y6 y7 y8, LeO (stopcockref22_wrong.j1 k y0 y1 y2 y3 y4 y5 y6 y7 y8) (stopcockref22_wrong.j1 (k + 1) y0 y1 y2 y3 y4 y5 y6 y7 y8))
  | 0 => ⟨fun _ _ _ _ _ _ _ r h => by simp [stopcockref22_wrong.j0] at h, fun _ _ _ _ _ _ r h => by simp [stopcockref22_wrong.j2] at h, fun _ _ _ _ _ _ _ _ _ r h => by simp [stopcockref22_wrong.l0] at h, fun _ _ _ _ _ _ _ r h => by simp [stopcockref22_wrong.j4] at h, fun _ _ _ _ _ _ r h => by simp [stopcockref22_wrong.j5] at h, fun _ _ _ _ _ r h => by simp [stopcockref22_wrong.j6] at h, fun _ _ _ _ _ _ _ _ _ r h => by simp [stopcockref22_wrong.j1] at h⟩
  | k + 1 => by
    obtain ⟨ih0, ih1, ih2, ih3, ih4, ih5, ih6⟩ := stopcockref22_wrong.mono_l k
    refine ⟨?_, ?_, ?_, ?_, ?_, ?_, ?_⟩
    · intro y0 y1 y2 y3 y4 y5 y6
      unfold stopcockref22_wrong.j0
      repeat' first
      | (with_reducible exact ih0 _ _ _ _ _ _ _)
      | (with_reducible exact ih1 _ _ _ _ _ _)
      | (with_reducible exact ih2 _ _ _ _ _ _ _ _ _)
      | (with_reducible exact ih3 _ _ _ _ _ _ _)
      | (with_reducible exact ih4 _ _ _ _ _ _)
      | (with_reducible exact ih5 _ _ _ _ _)
      | (with_reducible exact ih6 _ _ _ _ _ _ _ _ _)
      | (with_reducible exact stopcockref22_open.mono _ _)
      | (with_reducible exact LeO.refl _)
      | (with_reducible exact LeO.none _)
      | (with_reducible refine LeO.ite ?_ ?_)
      | (with_reducible refine LeO.bind ?_ (fun _ => ?_))
      | exact ih0 _ _ _ _ _ _ _
      | exact ih1 _ _ _ _ _ _
      | exact ih2 _ _ _ _ _ _ _ _ _
      | exact ih3 _ _ _ _ _ _ _
      | exact ih4 _ _ _ _ _ _
      | exact ih5 _ _ _ _ _
      | exact ih6 _ _ _ _ _ _ _ _ _
      | exact stopcockref22_open.mono _ _
      | exact LeO.none _
      | refine LeO.ite ?_ ?_
      | refine LeO.bind ?_ (fun _ => ?_)
    · intro y0 y1 y2 y3 y4 y5
      unfold stopcockref22_wrong.j2
      repeat' first
      | (with_reducible exact ih0 _ _ _ _ _ _ _)
      | (with_reducible exact ih1 _ _ _ _ _ _)
      | (with_reducible exact ih2 _ _ _ _ _ _ _ _ _)
      | (with_reducible exact ih3 _ _ _ _ _ _ _)
      | (with_reducible exact ih4 _ _ _ _ _ _)
      | (with_reducible exact ih5 _ _ _ _ _)
      | (with_reducible exact ih6 _ _ _ _ _ _ _ _ _)
      | (with_reducible exact stopcockref22_open.mono _ _)
      | (with_reducible exact LeO.refl _)
      | (with_reducible exact LeO.none _)
      | (with_reducible refine LeO.ite ?_ ?_)
      | (with_reducible refine LeO.bind ?_ (fun _ => ?_))
      | exact ih0 _ _ _ _ _ _ _
      | exact ih1 _ _ _ _ _ _
      | exact ih2 _ _ _ _ _ _ _ _ _
      | exact ih3 _ _ _ _ _ _ _
      | exact ih4 _ _ _ _ _ _
      | exact ih5 _ _ _ _ _
      | exact ih6 _ _ _ _ _ _ _ _ _
      | exact stopcockref22_open.mono _ _
      | exact LeO.none _
      | refine LeO.ite ?_ ?_
      | refine LeO.bind ?_ (fun _ => ?_)
    · intro y0 y1 y2 y3 y4 y5 y6 y7 y8
      unfold stopcockref22_wrong.l0
      repeat' first
      | (with_reducible exact ih0 _ _ _ _ _ _ _)
      | (with_reducible exact ih1 _ _ _ _ _ _)
      | (with_reducible exact ih2 _ _ _ _ _ _ _ _ _)
      | (with_reducible exact ih3 _ _ _ _ _ _ _)
      | (with_reducible exact ih4 _ _ _ _ _ _)
      | (with_reducible exact ih5 _ _ _ _ _)
      | (with_reducible exact ih6 _ _ _ _ _ _ _ _ _)
      | (with_reducible exact stopcockref22_open.mono _ _)
      | (with_reducible exact LeO.refl _)
      | (with_reducible exact LeO.none _)
      | (with_reducible refine LeO.ite ?_ ?_)
      | (with_reducible refine LeO.bind ?_ (fun _ => ?_))
      | exact ih0 _ _ _ _ _ _ _
      | exact ih1 _ _ _ _ _ _
      | exact ih2 _ _ _ _ _ _ _ _ _
      | exact ih3 _ _ _ _ _ _ _
      | exact ih4 _ _ _ _ _ _
      | exact ih5 _ _ _ _ _
      | exact ih6 _ _ _ _ _ _ _ _ _
      | exact stopcockref22_open.mono _ _
      | exact LeO.none _
      | refine LeO.ite ?_ ?_
      | refine LeO.bind ?_ (fun _ => ?_)
    · intro y0 y1 y2 y3 y4 y5 y6
      unfold stopcockref22_wrong.j4
      repeat' first
      | (with_reducible exact ih0 _ _ _ _ _ _ _)
      | (with_reducible exact ih1 _ _ _ _ _ _)
      | (with_reducible exact ih2 _ _ _ _ _ _ _ _ _)
      | (with_reducible exact ih3 _ _ _ _ _ _ _)
      | (with_reducible exact ih4 _ _ _ _ _ _)
      | (with_reducible exact ih5 _ _ _ _ _)
      | (with_reducible exact ih6 _ _ _ _ _ _ _ _ _)
      | (with_reducible exact stopcockref22_open.mono _ _)
      | (with_reducible exact LeO.refl _)
      | (with_reducible exact LeO.none _)
      | (with_reducible refine LeO.ite ?_ ?_)
      | (with_reducible refine LeO.bind ?_ (fun _ => ?_))
      | exact ih0 _ _ _ _ _ _ _
      | exact ih1 _ _ _ _ _ _
      | exact ih2 _ _ _ _ _ _ _ _ _
      | exact ih3 _ _ _ _ _ _ _
      | exact ih4 _ _ _ _ _ _
      | exact ih5 _ _ _ _ _
      | exact ih6 _ _ _ _ _ _ _ _ _
      | exact stopcockref22_open.mono _ _
      | exact LeO.none _
      | refine LeO.ite ?_ ?_
      | refine LeO.bind ?_ (fun _ => ?_)
    · intro y0 y1 y2 y3 y4 y5
      unfold stopcockref22_wrong.j5
      repeat' first
      | (with_reducible exact ih0 _ _ _ _ _ _ _)
      | (with_reducible exact ih1 _ _ _ _ _ _)
      | (with_reducible exact ih2 _ _ _ _ _ _ _ _ _)
      | (with_reducible exact ih3 _ _ _ _ _ _ _)
      | (with_reducible exact ih4 _ _ _ _ _ _)
      | (with_reducible exact ih5 _ _ _ _ _)
      | (with_reducible exact ih6 _ _ _ _ _ _ _ _ _)
      | (with_reducible exact stopcockref22_open.mono _ _)
      | (with_reducible exact LeO.refl _)
      | (with_reducible exact LeO.none _)
      | (with_reducible refine LeO.ite ?_ ?_)
      | (with_reducible refine LeO.bind ?_ (fun _ => ?_))
      | exact ih0 _ _ _ _ _ _ _
      | exact ih1 _ _ _ _ _ _
      | exact ih2 _ _ _ _ _ _ _ _ _
      | exact ih3 _ _ _ _ _ _ _
      | exact ih4 _ _ _ _ _ _
      | exact ih5 _ _ _ _ _
      | exact ih6 _ _ _ _ _ _ _ _ _
      | exact stopcockref22_open.mono _ _
      | exact LeO.none _
      | refine LeO.ite ?_ ?_
      | refine LeO.bind ?_ (fun _ => ?_)
    · intro y0 y1 y2 y3 y4
      unfold stopcockref22_wrong.j6
      repeat' first
      | (with_reducible exact ih0 _ _ _ _ _ _ _)
      | (with_reducible exact ih1 _ _ _ _ _ _)
      | (with_reducible exact ih2 _ _ _ _ _ _ _ _ _)
      | (with_reducible exact ih3 _ _ _ _ _ _ _)
      | (with_reducible exact ih4 _ _ _ _ _ _)
      | (with_reducible exact ih5 _ _ _ _ _)
      | (with_reducible exact ih6 _ _ _ _ _ _ _ _ _)
      | (with_reducible exact stopcockref22_open.mono _ _)
      | (with_reducible exact LeO.refl _)
      | (with_reducible exact LeO.none _)
      | (with_reducible refine LeO.ite ?_ ?_)
      | (with_reducible refine LeO.bind ?_ (fun _ => ?_))
      | exact ih0 _ _ _ _ _ _ _
      | exact ih1 _ _ _ _ _ _
      | exact ih2 _ _ _ _ _ _ _ _ _
      | exact ih3 _ _ _ _ _ _ _
      | exact ih4 _ _ _ _ _ _
      | exact ih5 _ _ _ _ _
      | exact ih6 _ _ _ _ _ _ _ _ _
      | exact stopcockref22_open.mono _ _
      | exact LeO.none _
      | refine LeO.ite ?_ ?_
      | refine LeO.bind ?_ (fun _ => ?_)
    · intro y0 y1 y2 y3 y4 y5 y6 y7 y8
      unfold stopcockref22_wrong.j1
      repeat' first
      | (with_reducible exact ih0 _ _ _ _ _ _ _)
      | (with_reducible exact ih1 _ _ _ _ _ _)
      | (with_reducible exact ih2 _ _ _ _ _ _ _ _ _)
      | (with_reducible exact ih3 _ _ _ _ _ _ _)
      | (with_reducible exact ih4 _ _ _ _ _ _)
      | (with_reducible exact ih5 _ _ _ _ _)
      | (with_reducible exact ih6 _ _ _ _ _ _ _ _ _)
      | (with_reducible exact stopcockref22_open.mono _ _)
      | (with_reducible exact LeO.refl _)
      | (with_reducible exact LeO.none _)
      | (with_reducible refine LeO.ite ?_ ?_)
      | (with_reducible refine LeO.bind ?_ (fun _ => ?_))
      | exact ih0 _ _ _ _ _ _ _
      | exact ih1 _ _ _ _ _ _
      | exact ih2 _ _ _ _ _ _ _ _ _
      | exact ih3 _ _ _ _ _ _ _
      | exact ih4 _ _ _ _ _ _
      | exact ih5 _ _ _ _ _
      | exact ih6 _ _ _ _ _ _ _ _ _
      | exact stopcockref22_open.mono _ _
      | exact LeO.none _
      | refine LeO.ite ?_ ?_
      | refine LeO.bind ?_ (fun _ => ?_)
theorem stopcockref22_wrong.mono : ∀ a0 a1 a2 k, LeO (stopcockref22_wrong.f k a0 a1 a2) (stopcockref22_wrong.f (k + 1) a0 a1 a2) := by
  intro a0 a1 a2 k
  obtain ⟨ih0, ih1, ih2, ih3, ih4, ih5, ih6⟩ := stopcockref22_wrong.mono_l k
  unfold stopcockref22_wrong.f
  repeat' first
      | (with_reducible exact ih0 _ _ _ _ _ _ _)
      | (with_reducible exact ih1 _ _ _ _ _ _)
      | (with_reducible exact ih2 _ _ _ _ _ _ _ _ _)
      | (with_reducible exact ih3 _ _ _ _ _ _ _)
      | (with_reducible exact ih4 _ _ _ _ _ _)
      | (with_reducible exact ih5 _ _ _ _ _)
      | (with_reducible exact ih6 _ _ _ _ _ _ _ _ _)
      | (with_reducible exact stopcockref22_open.mono _ _)
      | (with_reducible exact LeO.refl _)
      | (with_reducible exact LeO.none _)
      | (with_reducible refine LeO.ite ?_ ?_)
      | (with_reducible refine LeO.bind ?_ (fun _ => ?_))
      | exact ih0 _ _ _ _ _ _ _
      | exact ih1 _ _ _ _ _ _
      | exact ih2 _ _ _ _ _ _ _ _ _
      | exact ih3 _ _ _ _ _ _ _
      | exact ih4 _ _ _ _ _ _
      | exact ih5 _ _ _ _ _
      | exact ih6 _ _ _ _ _ _ _ _ _
      | exact stopcockref22_open.mono _ _
      | exact LeO.none _
      | refine LeO.ite ?_ ?_
      | refine LeO.bind ?_ (fun _ => ?_)
set_option maxHeartbeats 8000000 in
set_option maxRecDepth 100000 in
theorem stopcockref22_wrong.calls (k : Nat) (a0 : Int) (A1 : Option Addr) (c1 : Nat) (l1 : List (S28)) (a2 : Int) (r : Int) (w : World) (hr1 : Kd.C k28 w A1 l1.length l1) (hc1 : l1.length ≤ c1) (h : stopcockref22_wrong.f k a0 l1 a2 = some r) :
    Calls Try.prog 23 #[.int .i64 a0, .slice A1 l1.length c1, .int .i64 a2] w fun e w' => e = .returned (.int .i64 r) ∧ Below w.heap.size w w' := by
  have hu28 := Try.underlying28
  have hu55 := Try.underlying55
  have HR1 := Aside0.mk hr1
  have HC1 := Aside0.mk hc1
  clear hr1 hc1
  have HB := Aside0.mk (Below.refl w.heap.size w)
  have H : (if 0 ≤ a2 then (if a2 < (l1.length : Int) then (if a0 ≥ 1 then (if ((rd_T28 l1 a2).f1) ≥ 1 then (stopcockref22_wrong.j0 k a0 l1 a2 (decide (((rd_T28 l1 a2).f1) ≤ 7)) ((rd_T28 l1 a2).f0) ((rd_T28 l1 a2).f1) ((rd_T28 l1 a2).f2)) else (stopcockref22_wrong.j0 k a0 l1 a2 false ((rd_T28 l1 a2).f0) ((rd_T28 l1 a2).f1) ((rd_T28 l1 a2).f2))) else (stopcockref22_wrong.j0 k a0 l1 a2 false ((rd_T28 l1 a2).f0) ((rd_T28 l1 a2).f1) ((rd_T28 l1 a2).f2))) else (none)) else (none)) = some r := h
  clear h
  by_cases c4 : 0 ≤ a2
  · rw [if_pos c4] at H
    have c4b0 : decide (0 ≤ a2) = true := decide_eq_true c4
    clear c4
    by_cases c5 : a2 < (l1.length : Int)
    · rw [if_pos c5] at H
      have c5b0 : decide (a2 < (l1.length : Int)) = true := decide_eq_true c5
      clear c5
      have HC6 := Aside0.mk H
      clear H
      have p117 : 0 ≤ (a2 : Int) := of_decide_eq_true (by first | (with_reducible assumption) | assumption)
      have q117 : a2 < (l1.length : Int) := of_decide_eq_true (by first | (with_reducible assumption) | assumption)
      obtain ⟨ad117, e117, hx117_0, hx117_1, hx117_2⟩ := at_T28 HR1.out a2 p117 q117
      cases e117
      replace p117 := eq_true p117
      replace q117 := eq_true q117
      go_enter Try.func23, Try.ntmps23
      go_upto_region 2 with (first | ((with_reducible refine gate_dst (N := 7) rfl ?_); refine box_event ?hg (N := 7) ?hd (cs := #[.int .i64 0, .int .i64 0, .int .i64 0]) (t := 28) ?hr ?_; (case hd => rfl); (case hg => rfl); (case hr => first | (go_simp; done) | (go_simp; rfl)); intro gb118 hg w7 hbox hb; have n0_ := Aside0.mk (below_step (by repeat (first | (with_reducible first | exact HB.out | apply below_alloc | apply pw_below_drewN | apply below_drew1) | exact HB.out)) hb); have n1_ := Aside0.mk (hbox); have n2_ := Aside0.mk ((by rw [hg]; exact (below_size (by repeat (first | (with_reducible first | exact HB.out | apply below_alloc | apply pw_below_drewN | apply below_drew1) | exact HB.out))) : w.heap.size ≤ gb118)); have n3_ := Aside0.mk ((by rw [hg]; exact (below_size (by repeat (first | (with_reducible first | exact HB.out | apply below_alloc | apply pw_below_drewN | apply below_drew1) | exact HB.out))) : w.heap.size ≤ gb118)); clear HB; have HB := n0_; have BK118 := n1_; have GW118 := n2_; have GE118 := n3_; clear n0_ n1_ n2_ n3_; clear hb hbox hg; have hcz8_0 : w7.cell? ⟨gb118, 0, none⟩ = some (.int .i64 0) := (blk_cell BK118.out 0).trans rfl; have hcz8_1 : w7.cell? ⟨gb118, 1, none⟩ = some (.int .i64 0) := (blk_cell BK118.out 1).trans rfl; have hcz8_2 : w7.cell? ⟨gb118, 2, none⟩ = some (.int .i64 0) := (blk_cell BK118.out 2).trans rfl; have hfz8_0 := blk_frozen BK118.out 0; have hfz8_1 := blk_frozen BK118.out 1; have hfz8_2 := blk_frozen BK118.out 2))
      (try simp only [Act.put, List.setIfInBounds_toArray, List.set_cons_zero, List.set_cons_succ])
      go_cut [8] (fun v8 wc => ∃ (kq : Nat) (x8_5 : Bool), v8 = .bool x8_5 ∧ Aside0 (stopcockref22_wrong.j0 kq a0 l1 a2 x8_5 ((rd_T28 l1 a2).f0) ((rd_T28 l1 a2).f1) ((rd_T28 l1 a2).f2) = some r) ∧ Aside0 (kq ≤ k) ∧ Aside0 (wc.heap[gb118]? = some (.cells #[.int .i64 ((rd_T28 l1 a2).f0), .int .i64 ((rd_T28 l1 a2).f1), .int .i64 ((rd_T28 l1 a2).f2)] 28 (0, 0))) ∧ Aside0 (Below w.heap.size w wc))
      case first =>
        have H := HC6.out
        clear HC6
        by_cases c9 : a0 ≥ 1
        · rw [if_pos c9] at H
          have c9b0 : decide (1 ≤ a0) = true := decide_eq_true c9
          clear c9
          (first | rw [c9b0] | (simp only [i64_w, i32_w]; rw [c9b0]) | skip)
          by_cases c10 : ((rd_T28 l1 a2).f1) ≥ 1
          · rw [if_pos c10] at H
            have c10b0 : decide (1 ≤ ((rd_T28 l1 a2).f1)) = true := decide_eq_true c10
            clear c10
            have H' := Aside0.mk H
            clear H
            have hcz11_0 : w7.cell? ⟨gb118, 0, none⟩ = some (.int .i64 0) := (blk_cell BK118.out 0).trans rfl
            have hcz11_1 : w7.cell? ⟨gb118, 1, none⟩ = some (.int .i64 0) := (blk_cell BK118.out 1).trans rfl
            have hcz11_2 : w7.cell? ⟨gb118, 2, none⟩ = some (.int .i64 0) := (blk_cell BK118.out 2).trans rfl
            have hfz11_0 := blk_frozen BK118.out 0
            have hfz11_1 := blk_frozen BK118.out 1
            have hfz11_2 := blk_frozen BK118.out 2
            go_wp2
            go_meet
            case rel => exact ⟨_, (decide (((rd_T28 l1 a2).f1) ≤ 7)), (by first | rfl | (simp; done) | (simp [*]; done)), H', ⟨by first | omega | exact Nat.le_refl _⟩, ⟨by (with_reducible repeat (first | refine blk_drewN ?_ _ | refine blk_drew ?_ | refine blk_alloc ?_ _)); refine blk_put (cs := #[.int .i64 ((rd_T28 l1 a2).f0), .int .i64 ((rd_T28 l1 a2).f1), .int .i64 0]) ?_ 2 _ rfl; (with_reducible repeat (first | refine blk_drewN ?_ _ | refine blk_drew ?_ | refine blk_alloc ?_ _)); refine blk_put (cs := #[.int .i64 ((rd_T28 l1 a2).f0), .int .i64 0, .int .i64 0]) ?_ 1 _ rfl; (with_reducible repeat (first | refine blk_drewN ?_ _ | refine blk_drew ?_ | refine blk_alloc ?_ _)); refine blk_put (cs := #[.int .i64 0, .int .i64 0, .int .i64 0]) ?_ 0 _ rfl; (with_reducible repeat (first | refine blk_drewN ?_ _ | refine blk_drew ?_ | refine blk_alloc ?_ _)); exact BK118.out⟩, ⟨by repeat (first | (with_reducible first | exact HB.out | apply below_alloc | apply pw_below_drewN | apply below_drew1 | refine below_set ?_ GE118.out) | exact HB.out)⟩⟩
          · rw [if_neg c10] at H
            have c10b0 : decide (1 ≤ ((rd_T28 l1 a2).f1)) = false := decide_eq_false c10
            clear c10
            have H' := Aside0.mk H
            clear H
            have hcz12_0 : w7.cell? ⟨gb118, 0, none⟩ = some (.int .i64 0) := (blk_cell BK118.out 0).trans rfl
            have hcz12_1 : w7.cell? ⟨gb118, 1, none⟩ = some (.int .i64 0) := (blk_cell BK118.out 1).trans rfl
            have hcz12_2 : w7.cell? ⟨gb118, 2, none⟩ = some (.int .i64 0) := (blk_cell BK118.out 2).trans rfl
            have hfz12_0 := blk_frozen BK118.out 0
            have hfz12_1 := blk_frozen BK118.out 1
            have hfz12_2 := blk_frozen BK118.out 2
            go_wp2
            go_meet
            case rel => exact ⟨_, (false), (by first | rfl | (simp; done) | (simp [*]; done)), H', ⟨by first | omega | exact Nat.le_refl _⟩, ⟨by (with_reducible repeat (first | refine blk_drewN ?_ _ | refine blk_drew ?_ | refine blk_alloc ?_ _)); refine blk_put (cs := #[.int .i64 ((rd_T28 l1 a2).f0), .int .i64 ((rd_T28 l1 a2).f1), .int .i64 0]) ?_ 2 _ rfl; (with_reducible repeat (first | refine blk_drewN ?_ _ | refine blk_drew ?_ | refine blk_alloc ?_ _)); refine blk_put (cs := #[.int .i64 ((rd_T28 l1 a2).f0), .int .i64 0, .int .i64 0]) ?_ 1 _ rfl; (with_reducible repeat (first | refine blk_drewN ?_ _ | refine blk_drew ?_ | refine blk_alloc ?_ _)); refine blk_put (cs := #[.int .i64 0, .int .i64 0, .int .i64 0]) ?_ 0 _ rfl; (with_reducible repeat (first | refine blk_drewN ?_ _ | refine blk_drew ?_ | refine blk_alloc ?_ _)); exact BK118.out⟩, ⟨by repeat (first | (with_reducible first | exact HB.out | apply below_alloc | apply pw_below_drewN | apply below_drew1 | refine below_set ?_ GE118.out) | exact HB.out)⟩⟩
        · rw [if_neg c9] at H
          have c9b0 : decide (1 ≤ a0) = false := decide_eq_false c9
          clear c9
          (first | rw [c9b0] | (simp only [i64_w, i32_w]; rw [c9b0]) | skip)
          have H' := Aside0.mk H
          clear H
          go_wp2
          go_meet
          case rel => exact ⟨_, (false), (by first | rfl | (simp; done) | (simp [*]; done)), H', ⟨by first | omega | exact Nat.le_refl _⟩, ⟨by (with_reducible repeat (first | refine blk_drewN ?_ _ | refine blk_drew ?_ | refine blk_alloc ?_ _)); refine blk_put (cs := #[.int .i64 ((rd_T28 l1 a2).f0), .int .i64 ((rd_T28 l1 a2).f1), .int .i64 0]) ?_ 2 _ rfl; (with_reducible repeat (first | refine blk_drewN ?_ _ | refine blk_drew ?_ | refine blk_alloc ?_ _)); refine blk_put (cs := #[.int .i64 ((rd_T28 l1 a2).f0), .int .i64 0, .int .i64 0]) ?_ 1 _ rfl; (with_reducible repeat (first | refine blk_drewN ?_ _ | refine blk_drew ?_ | refine blk_alloc ?_ _)); refine blk_put (cs := #[.int .i64 0, .int .i64 0, .int .i64 0]) ?_ 0 _ rfl; (with_reducible repeat (first | refine blk_drewN ?_ _ | refine blk_drew ?_ | refine blk_alloc ?_ _)); exact BK118.out⟩, ⟨by repeat (first | (with_reducible first | exact HB.out | apply below_alloc | apply pw_below_drewN | apply below_drew1 | refine below_set ?_ GE118.out) | exact HB.out)⟩⟩
      case rest =>
        clear HC6
        try clear c1
        try clear p1
        try clear q1
        try clear hx1
        try clear c2
        try clear p2
        try clear c4
        try clear c4b0
        try clear c5
        try clear c5b0
        try clear c9
        try clear c9b0
        try clear c10
        try clear c10b0
        try clear p11
        try clear q11
        try clear hx11
        try clear hcz11_0
        try clear hcz11_1
        try clear hcz11_2
        try clear hcz12_0
        try clear hcz12_1
        try clear hcz12_2
        try clear hcz8_0
        try clear hcz8_1
        try clear hcz8_2
        try clear hfz11_0
        try clear hfz11_1
        try clear hfz11_2
        try clear hfz12_0
        try clear hfz12_1
        try clear hfz12_2
        try clear hfz8_0
        try clear hfz8_1
        try clear hfz8_2
        try clear hx117_0
        try clear hx117_1
        try clear hx117_2
        try clear p117
        try clear q117
        obtain ⟨kq, x8_5, rfl, HA, HJ5, BK118, HB⟩ := hcut
        cases kq with
        | zero => exact absurd HA.out (by simp [stopcockref22_wrong.j0])
        | succ kj5 =>
          have H := HA.out
          clear HA
          simp only [stopcockref22_wrong.j0] at H
          have HC13 := Aside0.mk H
          clear H
          have hcz14_0 : wc.cell? ⟨gb118, 0, none⟩ = some (.int .i64 ((rd_T28 l1 a2).f0)) := (blk_cell BK118.out 0).trans rfl
          have hcz14_1 : wc.cell? ⟨gb118, 1, none⟩ = some (.int .i64 ((rd_T28 l1 a2).f1)) := (blk_cell BK118.out 1).trans rfl
          have hcz14_2 : wc.cell? ⟨gb118, 2, none⟩ = some (.int .i64 ((rd_T28 l1 a2).f2)) := (blk_cell BK118.out 2).trans rfl
          have hfz14_0 := blk_frozen BK118.out 0
          have hfz14_1 := blk_frozen BK118.out 1
          have hfz14_2 := blk_frozen BK118.out 2
          go_upto_block 0 with (fail)
          go_cut [8] (fun v8 wc => ∃ (kq : Nat) (x8_12 : Bool), v8 = .bool x8_12 ∧ Aside0 (stopcockref22_wrong.j2 kq l1 a2 x8_12 ((rd_T28 l1 a2).f0) ((rd_T28 l1 a2).f1) ((rd_T28 l1 a2).f2) = some r) ∧ Aside0 (kq ≤ kj5) ∧ Aside0 (wc.heap[gb118]? = some (.cells #[.int .i64 ((rd_T28 l1 a2).f0), .int .i64 ((rd_T28 l1 a2).f1), .int .i64 ((rd_T28 l1 a2).f2)] 28 (0, 0))) ∧ Aside0 (Below w.heap.size w wc))
          case first =>
            have H := HC13.out
            clear HC13
            have HC15 := Aside0.mk H
            clear H
            go_upto_if 32 with (fail)
            go_cut [32] (fun v32 wc => ∃ (kq : Nat) (x32_14 : Bool), v32 = .bool x32_14 ∧ Aside0 (stopcockref22_wrong.j1 kq a0 l1 a2 x8_5 ((rd_T28 l1 a2).f0) x32_14 ((rd_T28 l1 a2).f0) ((rd_T28 l1 a2).f1) ((rd_T28 l1 a2).f2) = some r) ∧ Aside0 (kq ≤ kj5) ∧ Aside0 (wc.heap[gb118]? = some (.cells #[.int .i64 ((rd_T28 l1 a2).f0), .int .i64 ((rd_T28 l1 a2).f1), .int .i64 ((rd_T28 l1 a2).f2)] 28 (0, 0))) ∧ Aside0 (Below w.heap.size w wc))
            case first =>
              have H := HC15.out
              clear HC15
              by_cases c16 : ((rd_T28 l1 a2).f0) = 1
              · rw [if_pos c16] at H
                have c16b0 : (((rd_T28 l1 a2).f0) == 1) = true := beq_iff_eq.mpr c16
                have c16b1 : (((rd_T28 l1 a2).f0) != 1) = false := bne_eq_false_iff_eq.mpr c16
                clear c16
                (first | rw [c16b0] | (simp only [i64_w, i32_w]; rw [c16b0]) | skip)
                have H' := Aside0.mk H
                clear H
                go_wp2
                go_meet
                case rel => exact ⟨_, ((((rd_T28 l1 a2).f0) == 1)), (by first | rfl | (simp; done) | (simp [*]; done)), H', ⟨by have := HJ5.out; first | omega | exact Nat.le_refl _⟩, ⟨by (with_reducible repeat (first | refine blk_drewN ?_ _ | refine blk_drew ?_ | refine blk_alloc ?_ _)); exact BK118.out⟩, ⟨by repeat (first | (with_reducible first | exact HB.out | apply below_alloc | apply pw_below_drewN | apply below_drew1 | refine below_set ?_ GE118.out) | exact HB.out)⟩⟩
              · rw [if_neg c16] at H
                have c16b0 : (((rd_T28 l1 a2).f0) == 1) = false := beq_eq_false_iff_ne.mpr c16
                have c16b1 : (((rd_T28 l1 a2).f0) != 1) = true := bne_iff_ne.mpr c16
                (first | rw [c16b0] | (simp only [i64_w, i32_w]; rw [c16b0]) | skip)
                have H' := Aside0.mk H
                clear H
                go_wp2
                go_meet
                case rel => exact ⟨_, ((((rd_T28 l1 a2).f0) == 2)), (by first | rfl | (simp; done) | (simp [*]; done)), H', ⟨by have := HJ5.out; first | omega | exact Nat.le_refl _⟩, ⟨by (with_reducible repeat (first | refine blk_drewN ?_ _ | refine blk_drew ?_ | refine blk_alloc ?_ _)); exact BK118.out⟩, ⟨by repeat (first | (with_reducible first | exact HB.out | apply below_alloc | apply pw_below_drewN | apply below_drew1 | refine below_set ?_ GE118.out) | exact HB.out)⟩⟩
            case rest =>
              clear HC15
              try clear c1
              try clear p1
              try clear q1
              try clear hx1
              try clear c2
              try clear p2
              try clear c4
              try clear c4b0
              try clear c5
              try clear c5b0
              try clear c9
              try clear c9b0
              try clear c10
              try clear c10b0
              try clear p11
              try clear q11
              try clear hx11
              try clear c16
              try clear c16b0
              try clear c16b1
              try clear hcz11_0
              try clear hcz11_1
              try clear hcz11_2
              try clear hcz12_0
              try clear hcz12_1
              try clear hcz12_2
              try clear hcz14_0
              try clear hcz14_1
              try clear hcz14_2
              try clear hcz8_0
              try clear hcz8_1
              try clear hcz8_2
              try clear hfz11_0
              try clear hfz11_1
              try clear hfz11_2
              try clear hfz12_0
              try clear hfz12_1
              try clear hfz12_2
              try clear hfz14_0
              try clear hfz14_1
              try clear hfz14_2
              try clear hfz8_0
              try clear hfz8_1
              try clear hfz8_2
              try clear hx117_0
              try clear hx117_1
              try clear hx117_2
              try clear p1
              try clear p11
              try clear p117
              try clear p2
              try clear q1
              try clear q11
              try clear q117
              obtain ⟨kq, x32_14, rfl, HA, HJ14, BK118, HB⟩ := hcut
              cases kq with
              | zero => exact absurd HA.out (by simp [stopcockref22_wrong.j1])
              | succ kj14 =>
                have H := HA.out
                clear HA
                simp only [stopcockref22_wrong.j1] at H
                by_cases c17 : x32_14 = true
                · subst c17
                  have H1 : (if x8_5 = true then (if ((rd_T28 l1 a2).f2) ≥ 1 then (stopcockref22_wrong.j2 kj14 l1 a2 (decide (((rd_T28 l1 a2).f2) ≤ a0)) ((rd_T28 l1 a2).f0) ((rd_T28 l1 a2).f1) ((rd_T28 l1 a2).f2)) else (stopcockref22_wrong.j2 kj14 l1 a2 false ((rd_T28 l1 a2).f0) ((rd_T28 l1 a2).f1) ((rd_T28 l1 a2).f2))) else (stopcockref22_wrong.j2 kj14 l1 a2 false ((rd_T28 l1 a2).f0) ((rd_T28 l1 a2).f1) ((rd_T28 l1 a2).f2))) = some r := by rw [if_pos rfl] at H; exact H
                  clear H
                  have H := H1
                  clear H1
                  by_cases c18 : x8_5 = true
                  · subst c18
                    have H1 : (if ((rd_T28 l1 a2).f2) ≥ 1 then (stopcockref22_wrong.j2 kj14 l1 a2 (decide (((rd_T28 l1 a2).f2) ≤ a0)) ((rd_T28 l1 a2).f0) ((rd_T28 l1 a2).f1) ((rd_T28 l1 a2).f2)) else (stopcockref22_wrong.j2 kj14 l1 a2 false ((rd_T28 l1 a2).f0) ((rd_T28 l1 a2).f1) ((rd_T28 l1 a2).f2))) = some r := by rw [if_pos rfl] at H; exact H
                    clear H
                    have H := H1
                    clear H1
                    by_cases c19 : ((rd_T28 l1 a2).f2) ≥ 1
                    · rw [if_pos c19] at H
                      have c19b0 : decide (1 ≤ ((rd_T28 l1 a2).f2)) = true := decide_eq_true c19
                      clear c19
                      have H' := Aside0.mk H
                      clear H
                      have hcz20_0 : wc.cell? ⟨gb118, 0, none⟩ = some (.int .i64 ((rd_T28 l1 a2).f0)) := (blk_cell BK118.out 0).trans rfl
                      have hcz20_1 : wc.cell? ⟨gb118, 1, none⟩ = some (.int .i64 ((rd_T28 l1 a2).f1)) := (blk_cell BK118.out 1).trans rfl
                      have hcz20_2 : wc.cell? ⟨gb118, 2, none⟩ = some (.int .i64 ((rd_T28 l1 a2).f2)) := (blk_cell BK118.out 2).trans rfl
                      have hfz20_0 := blk_frozen BK118.out 0
                      have hfz20_1 := blk_frozen BK118.out 1
                      have hfz20_2 := blk_frozen BK118.out 2
                      go_wp2
                      go_meet
                      case rel => exact ⟨_, (decide (((rd_T28 l1 a2).f2) ≤ a0)), (by first | rfl | (simp; done) | (simp [*]; done)), H', ⟨by have := HJ5.out; have := HJ14.out; first | omega | exact Nat.le_refl _⟩, ⟨by (with_reducible repeat (first | refine blk_drewN ?_ _ | refine blk_drew ?_ | refine blk_alloc ?_ _)); exact BK118.out⟩, ⟨by repeat (first | (with_reducible first | exact HB.out | apply below_alloc | apply pw_below_drewN | apply below_drew1 | refine below_set ?_ GE118.out) | exact HB.out)⟩⟩
                    · rw [if_neg c19] at H
                      have c19b0 : decide (1 ≤ ((rd_T28 l1 a2).f2)) = false := decide_eq_false c19
                      clear c19
                      have H' := Aside0.mk H
                      clear H
                      have hcz21_0 : wc.cell? ⟨gb118, 0, none⟩ = some (.int .i64 ((rd_T28 l1 a2).f0)) := (blk_cell BK118.out 0).trans rfl
                      have hcz21_1 : wc.cell? ⟨gb118, 1, none⟩ = some (.int .i64 ((rd_T28 l1 a2).f1)) := (blk_cell BK118.out 1).trans rfl
                      have hcz21_2 : wc.cell? ⟨gb118, 2, none⟩ = some (.int .i64 ((rd_T28 l1 a2).f2)) := (blk_cell BK118.out 2).trans rfl
                      have hfz21_0 := blk_frozen BK118.out 0
                      have hfz21_1 := blk_frozen BK118.out 1
                      have hfz21_2 := blk_frozen BK118.out 2
                      go_wp2
                      go_meet
                      case rel => exact ⟨_, (false), (by first | rfl | (simp; done) | (simp [*]; done)), H', ⟨by have := HJ5.out; have := HJ14.out; first | omega | exact Nat.le_refl _⟩, ⟨by (with_reducible repeat (first | refine blk_drewN ?_ _ | refine blk_drew ?_ | refine blk_alloc ?_ _)); exact BK118.out⟩, ⟨by repeat (first | (with_reducible first | exact HB.out | apply below_alloc | apply pw_below_drewN | apply below_drew1 | refine below_set ?_ GE118.out) | exact HB.out)⟩⟩
                  · replace c18 := Bool.eq_false_iff.mpr c18
                    subst c18
                    have H1 : (stopcockref22_wrong.j2 kj14 l1 a2 false ((rd_T28 l1 a2).f0) ((rd_T28 l1 a2).f1) ((rd_T28 l1 a2).f2)) = some r := by rw [if_neg (show ¬ (false = true) by decide)] at H; exact H
                    clear H
                    have H := H1
                    clear H1
                    have H' := Aside0.mk H
                    clear H
                    go_wp2
                    go_meet
                    case rel => exact ⟨_, (false), (by first | rfl | (simp; done) | (simp [*]; done)), H', ⟨by have := HJ5.out; have := HJ14.out; first | omega | exact Nat.le_refl _⟩, ⟨by (with_reducible repeat (first | refine blk_drewN ?_ _ | refine blk_drew ?_ | refine blk_alloc ?_ _)); exact BK118.out⟩, ⟨by repeat (first | (with_reducible first | exact HB.out | apply below_alloc | apply pw_below_drewN | apply below_drew1 | refine below_set ?_ GE118.out) | exact HB.out)⟩⟩
                · replace c17 := Bool.eq_false_iff.mpr c17
                  subst c17
                  have H1 : (if ((rd_T28 l1 a2).f0) = 3 then (if x8_5 = true then (stopcockref22_wrong.j2 kj14 l1 a2 (((rd_T28 l1 a2).f2) == 0) ((rd_T28 l1 a2).f0) ((rd_T28 l1 a2).f1) ((rd_T28 l1 a2).f2)) else (stopcockref22_wrong.j2 kj14 l1 a2 false ((rd_T28 l1 a2).f0) ((rd_T28 l1 a2).f1) ((rd_T28 l1 a2).f2))) else (stopcockref22_wrong.j2 kj14 l1 a2 false ((rd_T28 l1 a2).f0) ((rd_T28 l1 a2).f1) ((rd_T28 l1 a2).f2))) = some r := by rw [if_neg (show ¬ (false = true) by decide)] at H; exact H
                  clear H
                  have H := H1
                  clear H1
                  by_cases c22 : ((rd_T28 l1 a2).f0) = 3
                  · rw [if_pos c22] at H
                    have c22b0 : (((rd_T28 l1 a2).f0) == 3) = true := beq_iff_eq.mpr c22
                    have c22b1 : (((rd_T28 l1 a2).f0) != 3) = false := bne_eq_false_iff_eq.mpr c22
                    clear c22
                    by_cases c23 : x8_5 = true
                    · subst c23
                      have H1 : (stopcockref22_wrong.j2 kj14 l1 a2 (((rd_T28 l1 a2).f2) == 0) ((rd_T28 l1 a2).f0) ((rd_T28 l1 a2).f1) ((rd_T28 l1 a2).f2)) = some r := by rw [if_pos rfl] at H; exact H
                      clear H
                      have H := H1
                      clear H1
                      have H' := Aside0.mk H
                      clear H
                      have hcz24_0 : wc.cell? ⟨gb118, 0, none⟩ = some (.int .i64 ((rd_T28 l1 a2).f0)) := (blk_cell BK118.out 0).trans rfl
                      have hcz24_1 : wc.cell? ⟨gb118, 1, none⟩ = some (.int .i64 ((rd_T28 l1 a2).f1)) := (blk_cell BK118.out 1).trans rfl
                      have hcz24_2 : wc.cell? ⟨gb118, 2, none⟩ = some (.int .i64 ((rd_T28 l1 a2).f2)) := (blk_cell BK118.out 2).trans rfl
                      have hfz24_0 := blk_frozen BK118.out 0
                      have hfz24_1 := blk_frozen BK118.out 1
                      have hfz24_2 := blk_frozen BK118.out 2
                      go_wp2
                      go_meet
                      case rel => exact ⟨_, ((((rd_T28 l1 a2).f2) == 0)), (by first | rfl | (simp; done) | (simp [*]; done)), H', ⟨by have := HJ5.out; have := HJ14.out; first | omega | exact Nat.le_refl _⟩, ⟨by (with_reducible repeat (first | refine blk_drewN ?_ _ | refine blk_drew ?_ | refine blk_alloc ?_ _)); exact BK118.out⟩, ⟨by repeat (first | (with_reducible first | exact HB.out | apply below_alloc | apply pw_below_drewN | apply below_drew1 | refine below_set ?_ GE118.out) | exact HB.out)⟩⟩
                    · replace c23 := Bool.eq_false_iff.mpr c23
                      subst c23
                      have H1 : (stopcockref22_wrong.j2 kj14 l1 a2 false ((rd_T28 l1 a2).f0) ((rd_T28 l1 a2).f1) ((rd_T28 l1 a2).f2)) = some r := by rw [if_neg (show ¬ (false = true) by decide)] at H; exact H
                      clear H
                      have H := H1
                      clear H1
                      have H' := Aside0.mk H
                      clear H
                      go_wp2
                      go_meet
                      case rel => exact ⟨_, (false), (by first | rfl | (simp; done) | (simp [*]; done)), H', ⟨by have := HJ5.out; have := HJ14.out; first | omega | exact Nat.le_refl _⟩, ⟨by (with_reducible repeat (first | refine blk_drewN ?_ _ | refine blk_drew ?_ | refine blk_alloc ?_ _)); exact BK118.out⟩, ⟨by repeat (first | (with_reducible first | exact HB.out | apply below_alloc | apply pw_below_drewN | apply below_drew1 | refine below_set ?_ GE118.out) | exact HB.out)⟩⟩
                  · rw [if_neg c22] at H
                    have c22b0 : (((rd_T28 l1 a2).f0) == 3) = false := beq_eq_false_iff_ne.mpr c22
                    have c22b1 : (((rd_T28 l1 a2).f0) != 3) = true := bne_iff_ne.mpr c22
                    have H' := Aside0.mk H
                    clear H
                    go_wp2
                    go_meet
                    case rel => exact ⟨_, (false), (by first | rfl | (simp; done) | (simp [*]; done)), H', ⟨by have := HJ5.out; have := HJ14.out; first | omega | exact Nat.le_refl _⟩, ⟨by (with_reducible repeat (first | refine blk_drewN ?_ _ | refine blk_drew ?_ | refine blk_alloc ?_ _)); exact BK118.out⟩, ⟨by repeat (first | (with_reducible first | exact HB.out | apply below_alloc | apply pw_below_drewN | apply below_drew1 | refine below_set ?_ GE118.out) | exact HB.out)⟩⟩
          case rest =>
            clear HC13
            try clear c1
            try clear p1
            try clear q1
            try clear hx1
            try clear c2
            try clear p2
            try clear c4
            try clear c4b0
            try clear c5
            try clear c5b0
            try clear c9
            try clear c9b0
            try clear c10
            try clear c10b0
            try clear p11
            try clear q11
            try clear hx11
            try clear c16
            try clear c16b0
            try clear c16b1
            try clear c17
            try clear c18
            try clear c19
            try clear c19b0
            try clear c22
            try clear c22b0
            try clear c22b1
            try clear c23
            try clear hcz11_0
            try clear hcz11_1
            try clear hcz11_2
            try clear hcz12_0
            try clear hcz12_1
            try clear hcz12_2
            try clear hcz14_0
            try clear hcz14_1
            try clear hcz14_2
            try clear hcz20_0
            try clear hcz20_1
            try clear hcz20_2
            try clear hcz21_0
            try clear hcz21_1
            try clear hcz21_2
            try clear hcz24_0
            try clear hcz24_1
            try clear hcz24_2
            try clear hcz8_0
            try clear hcz8_1
            try clear hcz8_2
            try clear hfz11_0
            try clear hfz11_1
            try clear hfz11_2
            try clear hfz12_0
            try clear hfz12_1
            try clear hfz12_2
            try clear hfz14_0
            try clear hfz14_1
            try clear hfz14_2
            try clear hfz20_0
            try clear hfz20_1
            try clear hfz20_2
            try clear hfz21_0
            try clear hfz21_1
            try clear hfz21_2
            try clear hfz24_0
            try clear hfz24_1
            try clear hfz24_2
            try clear hfz8_0
            try clear hfz8_1
            try clear hfz8_2
            try clear hx117_0
            try clear hx117_1
            try clear hx117_2
            try clear p1
            try clear p11
            try clear p117
            try clear p2
            try clear q1
            try clear q11
            try clear q117
            obtain ⟨kq, x8_12, rfl, HA, HJ12, BK118, HB⟩ := hcut
            cases kq with
            | zero => exact absurd HA.out (by simp [stopcockref22_wrong.j2])
            | succ kj12 =>
              have H := HA.out
              clear HA
              simp only [stopcockref22_wrong.j2] at H
              by_cases c25 : x8_12 = true
              · subst c25
                have H1 : (if 0 ≤ a2 then (if a2 ≤ (l1.length : Int) then ((stopcockref22_open.f kj12 (l1.take (a2 : Int).toNat)).bind fun t123 => (stopcockref22_wrong.l0 kj12 false false 0 t123 (t123.length : Int) 0 ((rd_T28 l1 a2).f0) ((rd_T28 l1 a2).f1) ((rd_T28 l1 a2).f2))) else (none)) else (none)) = some r := by rw [if_pos rfl] at H; exact H
                clear H
                have H := H1
                clear H1
                by_cases c26 : 0 ≤ a2
                · rw [if_pos c26] at H
                  have c26b0 := eq_true c26
                  have c26b1 : decide (0 ≤ a2) = true := decide_eq_true c26
                  clear c26
                  by_cases c27 : a2 ≤ (l1.length : Int)
                  · rw [if_pos c27] at H
                    have c27b0 := eq_true c27
                    have c27b1 : decide (a2 ≤ (l1.length : Int)) = true := decide_eq_true c27
                    clear c27
                    obtain ⟨y119, hy119⟩ : ∃ y_ : List (S28), y_ = (l1.take (a2 : Int).toNat) := ⟨_, rfl⟩
                    replace H : ((stopcockref22_open.f kj12 y119).bind fun t123 => (stopcockref22_wrong.l0 kj12 false false 0 t123 (t123.length : Int) 0 ((rd_T28 l1 a2).f0) ((rd_T28 l1 a2).f1) ((rd_T28 l1 a2).f2))) = some r := by first | (rw [hy119]; with_reducible exact H) | (have H2_ := (Option.bind_some _ _).symm.trans H; rw [hy119]; with_reducible exact H2_) | (have H2_ := (Option.bind_some _ _).symm.trans H; with_reducible exact H2_) | with_reducible exact H | (rw [hy119]; exact H) | exact H
                    have Ny119 := Aside0.mk hy119
                    clear hy119
                    replace H := Option.bind_eq_some_iff.mp H
                    obtain ⟨t123, A280, H⟩ := H
                    replace H : (stopcockref22_wrong.l0 kj12 false false 0 t123 (t123.length : Int) 0 ((rd_T28 l1 a2).f0) ((rd_T28 l1 a2).f1) ((rd_T28 l1 a2).f2)) = some r := H
                    have A28 := Aside0.mk A280
                    clear A280
                    have H' := Aside0.mk H
                    clear H
                    have q29 : (a2 : Int) ≤ ((l1.length : Int) : Int) := of_decide_eq_true (by first | (with_reducible assumption) | assumption)
                    obtain ⟨i029, hi029, _, hsz29, _⟩ := info_parts info28
                    have hroom29 : l1.length ≤ c1 := HC1.out
                    have hC29 : Kd.C k28 _ (some ad117) l1.length l1 := HR1.out
                    have hcut29 := cut_to (P := Try.prog) 22 28 .i64 Try.underlying22 hi029 (some ad117) l1.length c1 a2 (of_decide_eq_true (by first | (with_reducible assumption) | assumption)) q29 hroom29
                    have hr29 := Kd.C_take (m := (a2 : Int).toNat) hC29 (by omega)
                    have hy29 : y119.length = (a2 : Int).toNat := (by rw [Ny119.out, List.length_take]; omega)
                    rw [← Ny119.out] at hr29
                    rw [← hy29] at hcut29
                    have HR122 := Aside0.mk hr29
                    have HC122 := Aside0.mk (show y119.length ≤ c1 from by omega)
                    clear hr29 hC29 hroom29 hi029 hsz29
                    have KY29 := Aside0.mk hy29
                    clear hy29
                    replace q29 := eq_true q29
                    go_wp2_with (first | ((with_reducible refine gate_callee (f := 36) rfl ?_); refine goesL_ (some 60) rfl rfl Try.func36 (by kernel_rfl) rfl #[.slice (some ad117) y119.length c1] rfl (by (try simp only [List.map_toArray, List.map_cons, List.map_nil]); first | done | rfl | (simp only [List.length_drop, List.length_take]; rfl)) ?_; (with_reducible refine (stopcockref22_open.calls kj12 _ _ y119 t123 _ ?side1 ?side2 A28.out).mono ?_); (case side1 => repeat (first | exact (Kd.C_below HR122.out HB.out) | (with_reducible refine Kd.C_alloc ?_ _) | (with_reducible refine Kd.C_drewN ?_ _) | (with_reducible refine Kd.C_drew ?_))); (case side2 => exact HC122.out); rintro e w30 ⟨v124, rfl, ho0, hb⟩; refine ⟨_, rfl, ?_⟩; have n0_ := Aside0.mk (Kd.R_lower ho0 (below_size (by repeat (first | (with_reducible first | exact HB.out | apply below_alloc | apply pw_below_drewN | apply below_drew1 | refine below_set ?_ GE118.out) | exact HB.out)))); have n1_ := Aside0.mk (blk_below (g := gb118) (o := .cells #[.int .i64 ((rd_T28 l1 a2).f0), .int .i64 ((rd_T28 l1 a2).f1), .int .i64 ((rd_T28 l1 a2).f2)] 28 (0, 0)) (by (with_reducible repeat (first | refine blk_drewN ?_ _ | refine blk_drew ?_ | refine blk_alloc ?_ _)); exact BK118.out) hb); have n2_ := Aside0.mk (below_step (by repeat (first | (with_reducible first | exact HB.out | apply below_alloc | apply pw_below_drewN | apply below_drew1 | refine below_set ?_ GE118.out) | exact HB.out)) hb); clear BK118; clear HB; have HO125 := n0_; have BK118 := n1_; have HB := n2_; clear n0_ n1_ n2_; (try clear hb); (try clear hb2); (try clear hk); (try clear hi); (try clear ho0); obtain ⟨Ao31, co31, eo31⟩ := Kd.R_slice HO125.out; subst eo31))
                    go_loopg [9, 10, 11, 62] kj12 (fun kq v9 v10 v11 v62 w' => ∃ (x9_3 : Bool) (x10_3 : Bool) (x11_3 : Int) (x62_3 : Int), v9 = .bool x9_3 ∧ v10 = .bool x10_3 ∧ v11 = .int .i64 x11_3 ∧ v62 = .int .i64 x62_3 ∧ Aside0 (stopcockref22_wrong.l0 kq x9_3 x10_3 x11_3 t123 (t123.length : Int) x62_3 ((rd_T28 l1 a2).f0) ((rd_T28 l1 a2).f1) ((rd_T28 l1 a2).f2) = some r) ∧ Aside0 (kq ≤ kj12) ∧ Aside0 (Kd.R k55 55 w' w.heap.size (fun _ => True) (.slice Ao31 t123.length co31) t123) ∧ Aside0 (w'.heap[gb118]? = some (.cells #[.int .i64 ((rd_T28 l1 a2).f0), .int .i64 ((rd_T28 l1 a2).f1), .int .i64 ((rd_T28 l1 a2).f2)] 28 (0, 0))) ∧ Aside0 (Below w.heap.size w w'))
                    case atStart => exact ⟨(false), (false), (0), (0), (by first | rfl | (simp; done) | (simp [*]; done)), (by first | rfl | (simp; done) | (simp [*]; done)), (by first | rfl | (simp; done) | (simp [*]; done)), (by first | rfl | (simp; done) | (simp [*]; done)), H', ⟨Nat.le_refl _⟩, ⟨by (with_reducible repeat (first | apply Kd.R_alloc | apply Kd.R_drewN | apply Kd.R_drew)); exact HO125.out⟩, ⟨by (with_reducible repeat (first | refine blk_drewN ?_ _ | refine blk_drew ?_ | refine blk_alloc ?_ _)); exact BK118.out⟩, ⟨by repeat (first | (with_reducible first | exact HB.out | apply below_alloc | apply pw_below_drewN | apply below_drew1 | refine below_set ?_ GE118.out) | exact HB.out)⟩⟩
                    case round =>
                      clear H'
                      try clear c1
                      try clear p1
                      try clear q1
                      try clear hx1
                      try clear c2
                      try clear p2
                      try clear q2
                      try clear c3
                      try clear c4
                      try clear c4b0
                      try clear c5
                      try clear c5b0
                      try clear c9
                      try clear c9b0
                      try clear c10
                      try clear c10b0
                      try clear p11
                      try clear q11
                      try clear hx11
                      try clear c16
                      try clear c16b0
                      try clear c16b1
                      try clear c17
                      try clear c18
                      try clear c19
                      try clear c19b0
                      try clear c22
                      try clear c22b0
                      try clear c22b1
                      try clear c23
                      try clear c25
                      try clear c26
                      try clear c26b0
                      try clear c26b1
                      try clear c27
                      try clear c27b0
                      try clear c27b1
                      try clear q29
                      try clear hcz11_0
                      try clear hcz11_1
                      try clear hcz11_2
                      try clear hcz12_0
                      try clear hcz12_1
                      try clear hcz12_2
                      try clear hcz14_0
                      try clear hcz14_1
                      try clear hcz14_2
                      try clear hcz20_0
                      try clear hcz20_1
                      try clear hcz20_2
                      try clear hcz21_0
                      try clear hcz21_1
                      try clear hcz21_2
                      try clear hcz24_0
                      try clear hcz24_1
                      try clear hcz24_2
                      try clear hcz8_0
                      try clear hcz8_1
                      try clear hcz8_2
                      try clear hfz11_0
                      try clear hfz11_1
                      try clear hfz11_2
                      try clear hfz12_0
                      try clear hfz12_1
                      try clear hfz12_2
                      try clear hfz14_0
                      try clear hfz14_1
                      try clear hfz14_2
                      try clear hfz20_0
                      try clear hfz20_1
                      try clear hfz20_2
                      try clear hfz21_0
                      try clear hfz21_1
                      try clear hfz21_2
                      try clear hfz24_0
                      try clear hfz24_1
                      try clear hfz24_2
                      try clear hfz8_0
                      try clear hfz8_1
                      try clear hfz8_2
                      try clear hx117_0
                      try clear hx117_1
                      try clear hx117_2
                      try clear p1
                      try clear p11
                      try clear p117
                      try clear p2
                      try clear q1
                      try clear q11
                      try clear q117
                      try clear q29
                      obtain ⟨x9_3, x10_3, x11_3, x62_3, rfl, rfl, rfl, rfl, HA, HK3, HO_60, BK118, HB⟩ := hrel
                      cases gk with
                      | zero => exact absurd HA.out (by simp [stopcockref22_wrong.l0])
                      | succ k3 =>
                        have H := HA.out
                        clear HA
                        simp only [stopcockref22_wrong.l0] at H
                        by_cases c32 : x62_3 < (t123.length : Int)
                        · rw [if_pos c32] at H
                          have c32b0 : decide (x62_3 < (t123.length : Int)) = true := decide_eq_true c32
                          clear c32
                          by_cases c33 : 0 ≤ x62_3
                          · rw [if_pos c33] at H
                            have c33b0 : decide (0 ≤ x62_3) = true := decide_eq_true c33
                            clear c33
                            by_cases c34 : x62_3 < (t123.length : Int)
                            · rw [if_pos c34] at H
                              have c34b0 : decide (x62_3 < (t123.length : Int)) = true := decide_eq_true c34
                              clear c34
                              by_cases c35 : x9_3 = true
                              · subst c35
                                have H1 : (if x10_3 = true then (if ((rd_T55 t123 x62_3).f0) = ((rd_T28 l1 a2).f1) then (stopcockref22_wrong.l0 k3 true true (wrap64 (x11_3 + 1)) t123 (t123.length : Int) (wrap64 (x62_3 + 1)) ((rd_T28 l1 a2).f0) ((rd_T28 l1 a2).f1) ((rd_T28 l1 a2).f2)) else (stopcockref22_wrong.l0 k3 true true x11_3 t123 (t123.length : Int) (wrap64 (x62_3 + 1)) ((rd_T28 l1 a2).f0) ((rd_T28 l1 a2).f1) ((rd_T28 l1 a2).f2))) else (if ((rd_T55 t123 x62_3).f0) = ((rd_T28 l1 a2).f1) then (stopcockref22_wrong.l0 k3 true false (wrap64 (x11_3 + 1)) t123 (t123.length : Int) (wrap64 (x62_3 + 1)) ((rd_T28 l1 a2).f0) ((rd_T28 l1 a2).f1) ((rd_T28 l1 a2).f2)) else (stopcockref22_wrong.l0 k3 true (((rd_T55 t123 x62_3).f1) == ((rd_T28 l1 a2).f2)) x11_3 t123 (t123.length : Int) (wrap64 (x62_3 + 1)) ((rd_T28 l1 a2).f0) ((rd_T28 l1 a2).f1) ((rd_T28 l1 a2).f2)))) = some r := by rw [if_pos rfl] at H; exact H
                                clear H
                                have H := H1
                                clear H1
                                by_cases c36 : x10_3 = true
                                · subst c36
                                  have H1 : (if ((rd_T55 t123 x62_3).f0) = ((rd_T28 l1 a2).f1) then (stopcockref22_wrong.l0 k3 true true (wrap64 (x11_3 + 1)) t123 (t123.length : Int) (wrap64 (x62_3 + 1)) ((rd_T28 l1 a2).f0) ((rd_T28 l1 a2).f1) ((rd_T28 l1 a2).f2)) else (stopcockref22_wrong.l0 k3 true true x11_3 t123 (t123.length : Int) (wrap64 (x62_3 + 1)) ((rd_T28 l1 a2).f0) ((rd_T28 l1 a2).f1) ((rd_T28 l1 a2).f2))) = some r := by rw [if_pos rfl] at H; exact H
                                  clear H
                                  have H := H1
                                  clear H1
                                  by_cases c37 : ((rd_T55 t123 x62_3).f0) = ((rd_T28 l1 a2).f1)
                                  · rw [if_pos c37] at H
                                    have c37b0 : (((rd_T55 t123 x62_3).f0) == ((rd_T28 l1 a2).f1)) = true := beq_iff_eq.mpr c37
                                    have c37b1 : (((rd_T55 t123 x62_3).f0) != ((rd_T28 l1 a2).f1)) = false := bne_eq_false_iff_eq.mpr c37
                                    clear c37
                                    have H' := Aside0.mk H
                                    clear H
                                    have p126 : 0 ≤ (x62_3 : Int) := of_decide_eq_true (by first | (with_reducible assumption) | assumption)
                                    have q126 : x62_3 < (t123.length : Int) := of_decide_eq_true (by first | (with_reducible assumption) | assumption)
                                    obtain ⟨ad126, e126, hx126_0, hx126_1⟩ := at_T55 (Kd.R_reads' HO_60.out).2.2 x62_3 p126 q126
                                    cases e126
                                    replace p126 := eq_true p126
                                    replace q126 := eq_true q126
                                    go_wp2_with (first | ((with_reducible refine gate_dst (N := 13) rfl ?_); refine box_event ?hg (N := 13) ?hd (cs := #[.int .i64 0, .int .i64 0]) (t := 55) ?hr ?_; (case hd => rfl); (case hg => rfl); (case hr => first | (go_simp; done) | (go_simp; rfl)); intro gb127 hg w38 hbox hb; have n0_ := Aside0.mk (Kd.R_below (Kd.R_elderB (by (with_reducible repeat (first | apply Kd.R_alloc | apply Kd.R_drewN | apply Kd.R_drew)); exact HO_60.out) gb127 (Nat.le_of_eq hg.symm)) hb); have n1_ := Aside0.mk (blk_below (g := gb118) (o := .cells #[.int .i64 ((rd_T28 l1 a2).f0), .int .i64 ((rd_T28 l1 a2).f1), .int .i64 ((rd_T28 l1 a2).f2)] 28 (0, 0)) (by (with_reducible repeat (first | refine blk_drewN ?_ _ | refine blk_drew ?_ | refine blk_alloc ?_ _)); exact BK118.out) hb); have n2_ := Aside0.mk (below_step (by repeat (first | (with_reducible first | exact HB.out | apply below_alloc | apply pw_below_drewN | apply below_drew1 | refine below_set ?_ GE118.out) | exact HB.out)) hb); have n3_ := Aside0.mk (hbox); have n4_ := Aside0.mk ((by rw [hg]; exact (below_size (by repeat (first | (with_reducible first | exact HB.out | apply below_alloc | apply pw_below_drewN | apply below_drew1 | refine below_set ?_ GE118.out) | exact HB.out))) : w.heap.size ≤ gb127)); have n5_ := Aside0.mk ((by rw [hg]; exact (below_size (by repeat (first | (with_reducible first | exact HB.out | apply below_alloc | apply pw_below_drewN | apply below_drew1 | refine below_set ?_ GE118.out) | exact HB.out))) : w.heap.size ≤ gb127)); have n6_ := Aside0.mk ((by rw [hg]; exact Nat.ne_of_lt (blk_lt (g := gb118) (o := .cells #[.int .i64 ((rd_T28 l1 a2).f0), .int .i64 ((rd_T28 l1 a2).f1), .int .i64 ((rd_T28 l1 a2).f2)] 28 (0, 0)) (by (with_reducible repeat (first | refine blk_drewN ?_ _ | refine blk_drew ?_ | refine blk_alloc ?_ _)); exact BK118.out)) : gb118 ≠ gb127)); have n7_ := Aside0.mk ((by rw [hg]; exact Nat.ne_of_gt (blk_lt (g := gb118) (o := .cells #[.int .i64 ((rd_T28 l1 a2).f0), .int .i64 ((rd_T28 l1 a2).f1), .int .i64 ((rd_T28 l1 a2).f2)] 28 (0, 0)) (by (with_reducible repeat (first | refine blk_drewN ?_ _ | refine blk_drew ?_ | refine blk_alloc ?_ _)); exact BK118.out)) : gb127 ≠ gb118)); clear HO_60; clear BK118; clear HB; have HO_60 := n0_; have BK118 := n1_; have HB := n2_; have BK127 := n3_; have GW127 := n4_; have GE127 := n5_; have NB118_127 := n6_; have NB127_118 := n7_; clear n0_ n1_ n2_ n3_ n4_ n5_ n6_ n7_; clear hb hbox hg; have hnb39 := NB127_118.out; have hnc39 := NB118_127.out; have hcz40_0 : w38.cell? ⟨gb127, 0, none⟩ = some (.int .i64 0) := (blk_cell BK127.out 0).trans rfl; have hcz40_1 : w38.cell? ⟨gb127, 1, none⟩ = some (.int .i64 0) := (blk_cell BK127.out 1).trans rfl; have hfz40_0 := blk_frozen BK127.out 0; have hfz40_1 := blk_frozen BK127.out 1; have hcz41_0 : w38.cell? ⟨gb118, 0, none⟩ = some (.int .i64 ((rd_T28 l1 a2).f0)) := (blk_cell BK118.out 0).trans rfl; have hcz41_1 : w38.cell? ⟨gb118, 1, none⟩ = some (.int .i64 ((rd_T28 l1 a2).f1)) := (blk_cell BK118.out 1).trans rfl; have hcz41_2 : w38.cell? ⟨gb118, 2, none⟩ = some (.int .i64 ((rd_T28 l1 a2).f2)) := (blk_cell BK118.out 2).trans rfl; have hfz41_0 := blk_frozen BK118.out 0; have hfz41_1 := blk_frozen BK118.out 1; have hfz41_2 := blk_frozen BK118.out 2))
                                    go_roundg k3
                                    case measure => have := HJ5.out; have := HJ12.out; have := HK3.out; omega
                                    case rel => exact ⟨(true), (true), (wrap64 (x11_3 + 1)), (wrap64 (x62_3 + 1)), (by first | rfl | (simp; done) | (simp [*]; done)), (by first | rfl | (simp; done) | (simp [*]; done)), (by first | rfl | (simp; done) | (simp [*]; done)), (by first | rfl | (simp; done) | (simp [*]; done)), H', ⟨by have := HJ5.out; have := HJ12.out; have := HK3.out; omega⟩, ⟨by (with_reducible repeat (first | apply Kd.R_alloc | apply Kd.R_drewN | apply Kd.R_drew)); exact Kd.R_mono (Kd.R_far (p := ⟨gb127, 1, none⟩) (Kd.R_far (p := ⟨gb127, 0, none⟩) (Kd.R_mono HO_60.out (fun k_ hk => (⟨hk, hk.2⟩ : _ ∧ k_ ≠ gb127))) (fun _ hk => hk.2) (.int .i64 ((rd_T55 t123 x62_3).f0))) (fun _ hk => hk.2) (.int .i64 ((rd_T55 t123 x62_3).f1))) (fun _ hk => trivial)⟩, ⟨by (with_reducible repeat (first | refine blk_drewN ?_ _ | refine blk_drew ?_ | refine blk_alloc ?_ _)); refine blk_far ?_ NB118_127.out _; (with_reducible repeat (first | refine blk_drewN ?_ _ | refine blk_drew ?_ | refine blk_alloc ?_ _)); refine blk_far ?_ NB118_127.out _; (with_reducible repeat (first | refine blk_drewN ?_ _ | refine blk_drew ?_ | refine blk_alloc ?_ _)); exact BK118.out⟩, ⟨by repeat (first | (with_reducible first | exact HB.out | apply below_alloc | apply pw_below_drewN | apply below_drew1 | refine below_set ?_ GE118.out | refine below_set ?_ GE127.out) | exact HB.out)⟩⟩
                                  · rw [if_neg c37] at H
                                    have c37b0 : (((rd_T55 t123 x62_3).f0) == ((rd_T28 l1 a2).f1)) = false := beq_eq_false_iff_ne.mpr c37
                                    have c37b1 : (((rd_T55 t123 x62_3).f0) != ((rd_T28 l1 a2).f1)) = true := bne_iff_ne.mpr c37
                                    have H' := Aside0.mk H
                                    clear H
                                    have p126 : 0 ≤ (x62_3 : Int) := of_decide_eq_true (by first | (with_reducible assumption) | assumption)
                                    have q126 : x62_3 < (t123.length : Int) := of_decide_eq_true (by first | (with_reducible assumption) | assumption)
                                    obtain ⟨ad126, e126, hx126_0, hx126_1⟩ := at_T55 (Kd.R_reads' HO_60.out).2.2 x62_3 p126 q126
                                    cases e126
                                    replace p126 := eq_true p126
                                    replace q126 := eq_true q126
                                    go_wp2_with (first | ((with_reducible refine gate_dst (N := 13) rfl ?_); refine box_event ?hg (N := 13) ?hd (cs := #[.int .i64 0, .int .i64 0]) (t := 55) ?hr ?_; (case hd => rfl); (case hg => rfl); (case hr => first | (go_simp; done) | (go_simp; rfl)); intro gb127 hg w42 hbox hb; have n0_ := Aside0.mk (Kd.R_below (Kd.R_elderB (by (with_reducible repeat (first | apply Kd.R_alloc | apply Kd.R_drewN | apply Kd.R_drew)); exact HO_60.out) gb127 (Nat.le_of_eq hg.symm)) hb); have n1_ := Aside0.mk (blk_below (g := gb118) (o := .cells #[.int .i64 ((rd_T28 l1 a2).f0), .int .i64 ((rd_T28 l1 a2).f1), .int .i64 ((rd_T28 l1 a2).f2)] 28 (0, 0)) (by (with_reducible repeat (first | refine blk_drewN ?_ _ | refine blk_drew ?_ | refine blk_alloc ?_ _)); exact BK118.out) hb); have n2_ := Aside0.mk (below_step (by repeat (first | (with_reducible first | exact HB.out | apply below_alloc | apply pw_below_drewN | apply below_drew1 | refine below_set ?_ GE118.out) | exact HB.out)) hb); have n3_ := Aside0.mk (hbox); have n4_ := Aside0.mk ((by rw [hg]; exact (below_size (by repeat (first | (with_reducible first | exact HB.out | apply below_alloc | apply pw_below_drewN | apply below_drew1 | refine below_set ?_ GE118.out) | exact HB.out))) : w.heap.size ≤ gb127)); have n5_ := Aside0.mk ((by rw [hg]; exact (below_size (by repeat (first | (with_reducible first | exact HB.out | apply below_alloc | apply pw_below_drewN | apply below_drew1 | refine below_set ?_ GE118.out) | exact HB.out))) : w.heap.size ≤ gb127)); have n6_ := Aside0.mk ((by rw [hg]; exact Nat.ne_of_lt (blk_lt (g := gb118) (o := .cells #[.int .i64 ((rd_T28 l1 a2).f0), .int .i64 ((rd_T28 l1 a2).f1), .int .i64 ((rd_T28 l1 a2).f2)] 28 (0, 0)) (by (with_reducible repeat (first | refine blk_drewN ?_ _ | refine blk_drew ?_ | refine blk_alloc ?_ _)); exact BK118.out)) : gb118 ≠ gb127)); have n7_ := Aside0.mk ((by rw [hg]; exact Nat.ne_of_gt (blk_lt (g := gb118) (o := .cells #[.int .i64 ((rd_T28 l1 a2).f0), .int .i64 ((rd_T28 l1 a2).f1), .int .i64 ((rd_T28 l1 a2).f2)] 28 (0, 0)) (by (with_reducible repeat (first | refine blk_drewN ?_ _ | refine blk_drew ?_ | refine blk_alloc ?_ _)); exact BK118.out)) : gb127 ≠ gb118)); clear HO_60; clear BK118; clear HB; have HO_60 := n0_; have BK118 := n1_; have HB := n2_; have BK127 := n3_; have GW127 := n4_; have GE127 := n5_; have NB118_127 := n6_; have NB127_118 := n7_; clear n0_ n1_ n2_ n3_ n4_ n5_ n6_ n7_; clear hb hbox hg; have hnb43 := NB127_118.out; have hnc43 := NB118_127.out; have hcz44_0 : w42.cell? ⟨gb127, 0, none⟩ = some (.int .i64 0) := (blk_cell BK127.out 0).trans rfl; have hcz44_1 : w42.cell? ⟨gb127, 1, none⟩ = some (.int .i64 0) := (blk_cell BK127.out 1).trans rfl; have hfz44_0 := blk_frozen BK127.out 0; have hfz44_1 := blk_frozen BK127.out 1; have hcz45_0 : w42.cell? ⟨gb118, 0, none⟩ = some (.int .i64 ((rd_T28 l1 a2).f0)) := (blk_cell BK118.out 0).trans rfl; have hcz45_1 : w42.cell? ⟨gb118, 1, none⟩ = some (.int .i64 ((rd_T28 l1 a2).f1)) := (blk_cell BK118.out 1).trans rfl; have hcz45_2 : w42.cell? ⟨gb118, 2, none⟩ = some (.int .i64 ((rd_T28 l1 a2).f2)) := (blk_cell BK118.out 2).trans rfl; have hfz45_0 := blk_frozen BK118.out 0; have hfz45_1 := blk_frozen BK118.out 1; have hfz45_2 := blk_frozen BK118.out 2))
                                    go_roundg k3
                                    case measure => have := HJ5.out; have := HJ12.out; have := HK3.out; omega
                                    case rel => exact ⟨(true), (true), (x11_3), (wrap64 (x62_3 + 1)), (by first | rfl | (simp; done) | (simp [*]; done)), (by first | rfl | (simp; done) | (simp [*]; done)), (by first | rfl | (simp; done) | (simp [*]; done)), (by first | rfl | (simp; done) | (simp [*]; done)), H', ⟨by have := HJ5.out; have := HJ12.out; have := HK3.out; omega⟩, ⟨by (with_reducible repeat (first | apply Kd.R_alloc | apply Kd.R_drewN | apply Kd.R_drew)); exact Kd.R_mono (Kd.R_far (p := ⟨gb127, 1, none⟩) (Kd.R_far (p := ⟨gb127, 0, none⟩) (Kd.R_mono HO_60.out (fun k_ hk => (⟨hk, hk.2⟩ : _ ∧ k_ ≠ gb127))) (fun _ hk => hk.2) (.int .i64 ((rd_T55 t123 x62_3).f0))) (fun _ hk => hk.2) (.int .i64 ((rd_T55 t123 x62_3).f1))) (fun _ hk => trivial)⟩, ⟨by (with_reducible repeat (first | refine blk_drewN ?_ _ | refine blk_drew ?_ | refine blk_alloc ?_ _)); refine blk_far ?_ NB118_127.out _; (with_reducible repeat (first | refine blk_drewN ?_ _ | refine blk_drew ?_ | refine blk_alloc ?_ _)); refine blk_far ?_ NB118_127.out _; (with_reducible repeat (first | refine blk_drewN ?_ _ | refine blk_drew ?_ | refine blk_alloc ?_ _)); exact BK118.out⟩, ⟨by repeat (first | (with_reducible first | exact HB.out | apply below_alloc | apply pw_below_drewN | apply below_drew1 | refine below_set ?_ GE118.out | refine below_set ?_ GE127.out) | exact HB.out)⟩⟩
                                · replace c36 := Bool.eq_false_iff.mpr c36
                                  subst c36
                                  have H1 : (if ((rd_T55 t123 x62_3).f0) = ((rd_T28 l1 a2).f1) then (stopcockref22_wrong.l0 k3 true false (wrap64 (x11_3 + 1)) t123 (t123.length : Int) (wrap64 (x62_3 + 1)) ((rd_T28 l1 a2).f0) ((rd_T28 l1 a2).f1) ((rd_T28 l1 a2).f2)) else (stopcockref22_wrong.l0 k3 true (((rd_T55 t123 x62_3).f1) == ((rd_T28 l1 a2).f2)) x11_3 t123 (t123.length : Int) (wrap64 (x62_3 + 1)) ((rd_T28 l1 a2).f0) ((rd_T28 l1 a2).f1) ((rd_T28 l1 a2).f2))) = some r := by rw [if_neg (show ¬ (false = true) by decide)] at H; exact H
                                  clear H
                                  have H := H1
                                  clear H1
                                  by_cases c46 : ((rd_T55 t123 x62_3).f0) = ((rd_T28 l1 a2).f1)
                                  · rw [if_pos c46] at H
                                    have c46b0 : (((rd_T55 t123 x62_3).f0) == ((rd_T28 l1 a2).f1)) = true := beq_iff_eq.mpr c46
                                    have c46b1 : (((rd_T55 t123 x62_3).f0) != ((rd_T28 l1 a2).f1)) = false := bne_eq_false_iff_eq.mpr c46
                                    clear c46
                                    have H' := Aside0.mk H
                                    clear H
                                    have p126 : 0 ≤ (x62_3 : Int) := of_decide_eq_true (by first | (with_reducible assumption) | assumption)
                                    have q126 : x62_3 < (t123.length : Int) := of_decide_eq_true (by first | (with_reducible assumption) | assumption)
                                    obtain ⟨ad126, e126, hx126_0, hx126_1⟩ := at_T55 (Kd.R_reads' HO_60.out).2.2 x62_3 p126 q126
                                    cases e126
                                    replace p126 := eq_true p126
                                    replace q126 := eq_true q126
                                    go_wp2_with (first | ((with_reducible refine gate_dst (N := 13) rfl ?_); refine box_event ?hg (N := 13) ?hd (cs := #[.int .i64 0, .int .i64 0]) (t := 55) ?hr ?_; (case hd => rfl); (case hg => rfl); (case hr => first | (go_simp; done) | (go_simp; rfl)); intro gb127 hg w47 hbox hb; have n0_ := Aside0.mk (Kd.R_below (Kd.R_elderB (by (with_reducible repeat (first | apply Kd.R_alloc | apply Kd.R_drewN | apply Kd.R_drew)); exact HO_60.out) gb127 (Nat.le_of_eq hg.symm)) hb); have n1_ := Aside0.mk (blk_below (g := gb118) (o := .cells #[.int .i64 ((rd_T28 l1 a2).f0), .int .i64 ((rd_T28 l1 a2).f1), .int .i64 ((rd_T28 l1 a2).f2)] 28 (0, 0)) (by (with_reducible repeat (first | refine blk_drewN ?_ _ | refine blk_drew ?_ | refine blk_alloc ?_ _)); exact BK118.out) hb); have n2_ := Aside0.mk (below_step (by repeat (first | (with_reducible first | exact HB.out | apply below_alloc | apply pw_below_drewN | apply below_drew1 | refine below_set ?_ GE118.out) | exact HB.out)) hb); have n3_ := Aside0.mk (hbox); have n4_ := Aside0.mk ((by rw [hg]; exact (below_size (by repeat (first | (with_reducible first | exact HB.out | apply below_alloc | apply pw_below_drewN | apply below_drew1 | refine below_set ?_ GE118.out) | exact HB.out))) : w.heap.size ≤ gb127)); have n5_ := Aside0.mk ((by rw [hg]; exact (below_size (by repeat (first | (with_reducible first | exact HB.out | apply below_alloc | apply pw_below_drewN | apply below_drew1 | refine below_set ?_ GE118.out) | exact HB.out))) : w.heap.size ≤ gb127)); have n6_ := Aside0.mk ((by rw [hg]; exact Nat.ne_of_lt (blk_lt (g := gb118) (o := .cells #[.int .i64 ((rd_T28 l1 a2).f0), .int .i64 ((rd_T28 l1 a2).f1), .int .i64 ((rd_T28 l1 a2).f2)] 28 (0, 0)) (by (with_reducible repeat (first | refine blk_drewN ?_ _ | refine blk_drew ?_ | refine blk_alloc ?_ _)); exact BK118.out)) : gb118 ≠ gb127)); have n7_ := Aside0.mk ((by rw [hg]; exact Nat.ne_of_gt (blk_lt (g := gb118) (o := .cells #[.int .i64 ((rd_T28 l1 a2).f0), .int .i64 ((rd_T28 l1 a2).f1), .int .i64 ((rd_T28 l1 a2).f2)] 28 (0, 0)) (by (with_reducible repeat (first | refine blk_drewN ?_ _ | refine blk_drew ?_ | refine blk_alloc ?_ _)); exact BK118.out)) : gb127 ≠ gb118)); clear HO_60; clear BK118; clear HB; have HO_60 := n0_; have BK118 := n1_; have HB := n2_; have BK127 := n3_; have GW127 := n4_; have GE127 := n5_; have NB118_127 := n6_; have NB127_118 := n7_; clear n0_ n1_ n2_ n3_ n4_ n5_ n6_ n7_; clear hb hbox hg; have hnb48 := NB127_118.out; have hnc48 := NB118_127.out; have hcz49_0 : w47.cell? ⟨gb127, 0, none⟩ = some (.int .i64 0) := (blk_cell BK127.out 0).trans rfl; have hcz49_1 : w47.cell? ⟨gb127, 1, none⟩ = some (.int .i64 0) := (blk_cell BK127.out 1).trans rfl; have hfz49_0 := blk_frozen BK127.out 0; have hfz49_1 := blk_frozen BK127.out 1; have hcz50_0 : w47.cell? ⟨gb118, 0, none⟩ = some (.int .i64 ((rd_T28 l1 a2).f0)) := (blk_cell BK118.out 0).trans rfl; have hcz50_1 : w47.cell? ⟨gb118, 1, none⟩ = some (.int .i64 ((rd_T28 l1 a2).f1)) := (blk_cell BK118.out 1).trans rfl; have hcz50_2 : w47.cell? ⟨gb118, 2, none⟩ = some (.int .i64 ((rd_T28 l1 a2).f2)) := (blk_cell BK118.out 2).trans rfl; have hfz50_0 := blk_frozen BK118.out 0; have hfz50_1 := blk_frozen BK118.out 1; have hfz50_2 := blk_frozen BK118.out 2))
                                    go_roundg k3
                                    case measure => have := HJ5.out; have := HJ12.out; have := HK3.out; omega
                                    case rel => exact ⟨(true), (false), (wrap64 (x11_3 + 1)), (wrap64 (x62_3 + 1)), (by first | rfl | (simp; done) | (simp [*]; done)), (by first | rfl | (simp; done) | (simp [*]; done)), (by first | rfl | (simp; done) | (simp [*]; done)), (by first | rfl | (simp; done) | (simp [*]; done)), H', ⟨by have := HJ5.out; have := HJ12.out; have := HK3.out; omega⟩, ⟨by (with_reducible repeat (first | apply Kd.R_alloc | apply Kd.R_drewN | apply Kd.R_drew)); exact Kd.R_mono (Kd.R_far (p := ⟨gb127, 1, none⟩) (Kd.R_far (p := ⟨gb127, 0, none⟩) (Kd.R_mono HO_60.out (fun k_ hk => (⟨hk, hk.2⟩ : _ ∧ k_ ≠ gb127))) (fun _ hk => hk.2) (.int .i64 ((rd_T55 t123 x62_3).f0))) (fun _ hk => hk.2) (.int .i64 ((rd_T55 t123 x62_3).f1))) (fun _ hk => trivial)⟩, ⟨by (with_reducible repeat (first | refine blk_drewN ?_ _ | refine blk_drew ?_ | refine blk_alloc ?_ _)); refine blk_far ?_ NB118_127.out _; (with_reducible repeat (first | refine blk_drewN ?_ _ | refine blk_drew ?_ | refine blk_alloc ?_ _)); refine blk_far ?_ NB118_127.out _; (with_reducible repeat (first | refine blk_drewN ?_ _ | refine blk_drew ?_ | refine blk_alloc ?_ _)); exact BK118.out⟩, ⟨by repeat (first | (with_reducible first | exact HB.out | apply below_alloc | apply pw_below_drewN | apply below_drew1 | refine below_set ?_ GE118.out | refine below_set ?_ GE127.out) | exact HB.out)⟩⟩
                                  · rw [if_neg c46] at H
                                    have c46b0 : (((rd_T55 t123 x62_3).f0) == ((rd_T28 l1 a2).f1)) = false := beq_eq_false_iff_ne.mpr c46
                                    have c46b1 : (((rd_T55 t123 x62_3).f0) != ((rd_T28 l1 a2).f1)) = true := bne_iff_ne.mpr c46
                                    have H' := Aside0.mk H
                                    clear H
                                    have p126 : 0 ≤ (x62_3 : Int) := of_decide_eq_true (by first | (with_reducible assumption) | assumption)
                                    have q126 : x62_3 < (t123.length : Int) := of_decide_eq_true (by first | (with_reducible assumption) | assumption)
                                    obtain ⟨ad126, e126, hx126_0, hx126_1⟩ := at_T55 (Kd.R_reads' HO_60.out).2.2 x62_3 p126 q126
                                    cases e126
                                    replace p126 := eq_true p126
                                    replace q126 := eq_true q126
                                    go_wp2_with (first | ((with_reducible refine gate_dst (N := 13) rfl ?_); refine box_event ?hg (N := 13) ?hd (cs := #[.int .i64 0, .int .i64 0]) (t := 55) ?hr ?_; (case hd => rfl); (case hg => rfl); (case hr => first | (go_simp; done) | (go_simp; rfl)); intro gb127 hg w51 hbox hb; have n0_ := Aside0.mk (Kd.R_below (Kd.R_elderB (by (with_reducible repeat (first | apply Kd.R_alloc | apply Kd.R_drewN | apply Kd.R_drew)); exact HO_60.out) gb127 (Nat.le_of_eq hg.symm)) hb); have n1_ := Aside0.mk (blk_below (g := gb118) (o := .cells #[.int .i64 ((rd_T28 l1 a2).f0), .int .i64 ((rd_T28 l1 a2).f1), .int .i64 ((rd_T28 l1 a2).f2)] 28 (0, 0)) (by (with_reducible repeat (first | refine blk_drewN ?_ _ | refine blk_drew ?_ | refine blk_alloc ?_ _)); exact BK118.out) hb); have n2_ := Aside0.mk (below_step (by repeat (first | (with_reducible first | exact HB.out | apply below_alloc | apply pw_below_drewN | apply below_drew1 | refine below_set ?_ GE118.out) | exact HB.out)) hb); have n3_ := Aside0.mk (hbox); have n4_ := Aside0.mk ((by rw [hg]; exact (below_size (by repeat (first | (with_reducible first | exact HB.out | apply below_alloc | apply pw_below_drewN | apply below_drew1 | refine below_set ?_ GE118.out) | exact HB.out))) : w.heap.size ≤ gb127)); have n5_ := Aside0.mk ((by rw [hg]; exact (below_size (by repeat (first | (with_reducible first | exact HB.out | apply below_alloc | apply pw_below_drewN | apply below_drew1 | refine below_set ?_ GE118.out) | exact HB.out))) : w.heap.size ≤ gb127)); have n6_ := Aside0.mk ((by rw [hg]; exact Nat.ne_of_lt (blk_lt (g := gb118) (o := .cells #[.int .i64 ((rd_T28 l1 a2).f0), .int .i64 ((rd_T28 l1 a2).f1), .int .i64 ((rd_T28 l1 a2).f2)] 28 (0, 0)) (by (with_reducible repeat (first | refine blk_drewN ?_ _ | refine blk_drew ?_ | refine blk_alloc ?_ _)); exact BK118.out)) : gb118 ≠ gb127)); have n7_ := Aside0.mk ((by rw [hg]; exact Nat.ne_of_gt (blk_lt (g := gb118) (o := .cells #[.int .i64 ((rd_T28 l1 a2).f0), .int .i64 ((rd_T28 l1 a2).f1), .int .i64 ((rd_T28 l1 a2).f2)] 28 (0, 0)) (by (with_reducible repeat (first | refine blk_drewN ?_ _ | refine blk_drew ?_ | refine blk_alloc ?_ _)); exact BK118.out)) : gb127 ≠ gb118)); clear HO_60; clear BK118; clear HB; have HO_60 := n0_; have BK118 := n1_; have HB := n2_; have BK127 := n3_; have GW127 := n4_; have GE127 := n5_; have NB118_127 := n6_; have NB127_118 := n7_; clear n0_ n1_ n2_ n3_ n4_ n5_ n6_ n7_; clear hb hbox hg; have hnb52 := NB127_118.out; have hnc52 := NB118_127.out; have hcz53_0 : w51.cell? ⟨gb127, 0, none⟩ = some (.int .i64 0) := (blk_cell BK127.out 0).trans rfl; have hcz53_1 : w51.cell? ⟨gb127, 1, none⟩ = some (.int .i64 0) := (blk_cell BK127.out 1).trans rfl; have hfz53_0 := blk_frozen BK127.out 0; have hfz53_1 := blk_frozen BK127.out 1; have hcz54_0 : w51.cell? ⟨gb118, 0, none⟩ = some (.int .i64 ((rd_T28 l1 a2).f0)) := (blk_cell BK118.out 0).trans rfl; have hcz54_1 : w51.cell? ⟨gb118, 1, none⟩ = some (.int .i64 ((rd_T28 l1 a2).f1)) := (blk_cell BK118.out 1).trans rfl; have hcz54_2 : w51.cell? ⟨gb118, 2, none⟩ = some (.int .i64 ((rd_T28 l1 a2).f2)) := (blk_cell BK118.out 2).trans rfl; have hfz54_0 := blk_frozen BK118.out 0; have hfz54_1 := blk_frozen BK118.out 1; have hfz54_2 := blk_frozen BK118.out 2))
                                    go_roundg k3
                                    case measure => have := HJ5.out; have := HJ12.out; have := HK3.out; omega
                                    case rel => exact ⟨(true), ((((rd_T55 t123 x62_3).f1) == ((rd_T28 l1 a2).f2))), (x11_3), (wrap64 (x62_3 + 1)), (by first | rfl | (simp; done) | (simp [*]; done)), (by first | rfl | (simp; done) | (simp [*]; done)), (by first | rfl | (simp; done) | (simp [*]; done)), (by first | rfl | (simp; done) | (simp [*]; done)), H', ⟨by have := HJ5.out; have := HJ12.out; have := HK3.out; omega⟩, ⟨by (with_reducible repeat (first | apply Kd.R_alloc | apply Kd.R_drewN | apply Kd.R_drew)); exact Kd.R_mono (Kd.R_far (p := ⟨gb127, 1, none⟩) (Kd.R_far (p := ⟨gb127, 0, none⟩) (Kd.R_mono HO_60.out (fun k_ hk => (⟨hk, hk.2⟩ : _ ∧ k_ ≠ gb127))) (fun _ hk => hk.2) (.int .i64 ((rd_T55 t123 x62_3).f0))) (fun _ hk => hk.2) (.int .i64 ((rd_T55 t123 x62_3).f1))) (fun _ hk => trivial)⟩, ⟨by (with_reducible repeat (first | refine blk_drewN ?_ _ | refine blk_drew ?_ | refine blk_alloc ?_ _)); refine blk_far ?_ NB118_127.out _; (with_reducible repeat (first | refine blk_drewN ?_ _ | refine blk_drew ?_ | refine blk_alloc ?_ _)); refine blk_far ?_ NB118_127.out _; (with_reducible repeat (first | refine blk_drewN ?_ _ | refine blk_drew ?_ | refine blk_alloc ?_ _)); exact BK118.out⟩, ⟨by repeat (first | (with_reducible first | exact HB.out | apply below_alloc | apply pw_below_drewN | apply below_drew1 | refine below_set ?_ GE118.out | refine below_set ?_ GE127.out) | exact HB.out)⟩⟩
                              · replace c35 := Bool.eq_false_iff.mpr c35
                                subst c35
                                have H1 : (if ((rd_T55 t123 x62_3).f0) = ((rd_T28 l1 a2).f1) then (if x10_3 = true then (stopcockref22_wrong.l0 k3 (((rd_T55 t123 x62_3).f1) == ((rd_T28 l1 a2).f2)) true (wrap64 (x11_3 + 1)) t123 (t123.length : Int) (wrap64 (x62_3 + 1)) ((rd_T28 l1 a2).f0) ((rd_T28 l1 a2).f1) ((rd_T28 l1 a2).f2)) else (stopcockref22_wrong.l0 k3 (((rd_T55 t123 x62_3).f1) == ((rd_T28 l1 a2).f2)) false (wrap64 (x11_3 + 1)) t123 (t123.length : Int) (wrap64 (x62_3 + 1)) ((rd_T28 l1 a2).f0) ((rd_T28 l1 a2).f1) ((rd_T28 l1 a2).f2))) else (if x10_3 = true then (stopcockref22_wrong.l0 k3 false true x11_3 t123 (t123.length : Int) (wrap64 (x62_3 + 1)) ((rd_T28 l1 a2).f0) ((rd_T28 l1 a2).f1) ((rd_T28 l1 a2).f2)) else (stopcockref22_wrong.l0 k3 false (((rd_T55 t123 x62_3).f1) == ((rd_T28 l1 a2).f2)) x11_3 t123 (t123.length : Int) (wrap64 (x62_3 + 1)) ((rd_T28 l1 a2).f0) ((rd_T28 l1 a2).f1) ((rd_T28 l1 a2).f2)))) = some r := by rw [if_neg (show ¬ (false = true) by decide)] at H; exact H
                                clear H
                                have H := H1
                                clear H1
                                by_cases c55 : ((rd_T55 t123 x62_3).f0) = ((rd_T28 l1 a2).f1)
                                · rw [if_pos c55] at H
                                  have c55b0 : (((rd_T55 t123 x62_3).f0) == ((rd_T28 l1 a2).f1)) = true := beq_iff_eq.mpr c55
                                  have c55b1 : (((rd_T55 t123 x62_3).f0) != ((rd_T28 l1 a2).f1)) = false := bne_eq_false_iff_eq.mpr c55
                                  clear c55
                                  by_cases c56 : x10_3 = true
                                  · subst c56
                                    have H1 : (stopcockref22_wrong.l0 k3 (((rd_T55 t123 x62_3).f1) == ((rd_T28 l1 a2).f2)) true (wrap64 (x11_3 + 1)) t123 (t123.length : Int) (wrap64 (x62_3 + 1)) ((rd_T28 l1 a2).f0) ((rd_T28 l1 a2).f1) ((rd_T28 l1 a2).f2)) = some r := by rw [if_pos rfl] at H; exact H
                                    clear H
                                    have H := H1
                                    clear H1
                                    have H' := Aside0.mk H
                                    clear H
                                    have p126 : 0 ≤ (x62_3 : Int) := of_decide_eq_true (by first | (with_reducible assumption) | assumption)
                                    have q126 : x62_3 < (t123.length : Int) := of_decide_eq_true (by first | (with_reducible assumption) | assumption)
                                    obtain ⟨ad126, e126, hx126_0, hx126_1⟩ := at_T55 (Kd.R_reads' HO_60.out).2.2 x62_3 p126 q126
                                    cases e126
                                    replace p126 := eq_true p126
                                    replace q126 := eq_true q126
                                    go_wp2_with (first | ((with_reducible refine gate_dst (N := 13) rfl ?_); refine box_event ?hg (N := 13) ?hd (cs := #[.int .i64 0, .int .i64 0]) (t := 55) ?hr ?_; (case hd => rfl); (case hg => rfl); (case hr => first | (go_simp; done) | (go_simp; rfl)); intro gb127 hg w57 hbox hb; have n0_ := Aside0.mk (Kd.R_below (Kd.R_elderB (by (with_reducible repeat (first | apply Kd.R_alloc | apply Kd.R_drewN | apply Kd.R_drew)); exact HO_60.out) gb127 (Nat.le_of_eq hg.symm)) hb); have n1_ := Aside0.mk (blk_below (g := gb118) (o := .cells #[.int .i64 ((rd_T28 l1 a2).f0), .int .i64 ((rd_T28 l1 a2).f1), .int .i64 ((rd_T28 l1 a2).f2)] 28 (0, 0)) (by (with_reducible repeat (first | refine blk_drewN ?_ _ | refine blk_drew ?_ | refine blk_alloc ?_ _)); exact BK118.out) hb); have n2_ := Aside0.mk (below_step (by repeat (first | (with_reducible first | exact HB.out | apply below_alloc | apply pw_below_drewN | apply below_drew1 | refine below_set ?_ GE118.out) | exact HB.out)) hb); have n3_ := Aside0.mk (hbox); have n4_ := Aside0.mk ((by rw [hg]; exact (below_size (by repeat (first | (with_reducible first | exact HB.out | apply below_alloc | apply pw_below_drewN | apply below_drew1 | refine below_set ?_ GE118.out) | exact HB.out))) : w.heap.size ≤ gb127)); have n5_ := Aside0.mk ((by rw [hg]; exact (below_size (by repeat (first | (with_reducible first | exact HB.out | apply below_alloc | apply pw_below_drewN | apply below_drew1 | refine below_set ?_ GE118.out) | exact HB.out))) : w.heap.size ≤ gb127)); have n6_ := Aside0.mk ((by rw [hg]; exact Nat.ne_of_lt (blk_lt (g := gb118) (o := .cells #[.int .i64 ((rd_T28 l1 a2).f0), .int .i64 ((rd_T28 l1 a2).f1), .int .i64 ((rd_T28 l1 a2).f2)] 28 (0, 0)) (by (with_reducible repeat (first | refine blk_drewN ?_ _ | refine blk_drew ?_ | refine blk_alloc ?_ _)); exact BK118.out)) : gb118 ≠ gb127)); have n7_ := Aside0.mk ((by rw [hg]; exact Nat.ne_of_gt (blk_lt (g := gb118) (o := .cells #[.int .i64 ((rd_T28 l1 a2).f0), .int .i64 ((rd_T28 l1 a2).f1), .int .i64 ((rd_T28 l1 a2).f2)] 28 (0, 0)) (by (with_reducible repeat (first | refine blk_drewN ?_ _ | refine blk_drew ?_ | refine blk_alloc ?_ _)); exact BK118.out)) : gb127 ≠ gb118)); clear HO_60; clear BK118; clear HB; have HO_60 := n0_; have BK118 := n1_; have HB := n2_; have BK127 := n3_; have GW127 := n4_; have GE127 := n5_; have NB118_127 := n6_; have NB127_118 := n7_; clear n0_ n1_ n2_ n3_ n4_ n5_ n6_ n7_; clear hb hbox hg; have hnb58 := NB127_118.out; have hnc58 := NB118_127.out; have hcz59_0 : w57.cell? ⟨gb127, 0, none⟩ = some (.int .i64 0) := (blk_cell BK127.out 0).trans rfl; have hcz59_1 : w57.cell? ⟨gb127, 1, none⟩ = some (.int .i64 0) := (blk_cell BK127.out 1).trans rfl; have hfz59_0 := blk_frozen BK127.out 0; have hfz59_1 := blk_frozen BK127.out 1; have hcz60_0 : w57.cell? ⟨gb118, 0, none⟩ = some (.int .i64 ((rd_T28 l1 a2).f0)) := (blk_cell BK118.out 0).trans rfl; have hcz60_1 : w57.cell? ⟨gb118, 1, none⟩ = some (.int .i64 ((rd_T28 l1 a2).f1)) := (blk_cell BK118.out 1).trans rfl; have hcz60_2 : w57.cell? ⟨gb118, 2, none⟩ = some (.int .i64 ((rd_T28 l1 a2).f2)) := (blk_cell BK118.out 2).trans rfl; have hfz60_0 := blk_frozen BK118.out 0; have hfz60_1 := blk_frozen BK118.out 1; have hfz60_2 := blk_frozen BK118.out 2))
                                    go_roundg k3
                                    case measure => have := HJ5.out; have := HJ12.out; have := HK3.out; omega
                                    case rel => exact ⟨((((rd_T55 t123 x62_3).f1) == ((rd_T28 l1 a2).f2))), (true), (wrap64 (x11_3 + 1)), (wrap64 (x62_3 + 1)), (by first | rfl | (simp; done) | (simp [*]; done)), (by first | rfl | (simp; done) | (simp [*]; done)), (by first | rfl | (simp; done) | (simp [*]; done)), (by first | rfl | (simp; done) | (simp [*]; done)), H', ⟨by have := HJ5.out; have := HJ12.out; have := HK3.out; omega⟩, ⟨by (with_reducible repeat (first | apply Kd.R_alloc | apply Kd.R_drewN | apply Kd.R_drew)); exact Kd.R_mono (Kd.R_far (p := ⟨gb127, 1, none⟩) (Kd.R_far (p := ⟨gb127, 0, none⟩) (Kd.R_mono HO_60.out (fun k_ hk => (⟨hk, hk.2⟩ : _ ∧ k_ ≠ gb127))) (fun _ hk => hk.2) (.int .i64 ((rd_T55 t123 x62_3).f0))) (fun _ hk => hk.2) (.int .i64 ((rd_T55 t123 x62_3).f1))) (fun _ hk => trivial)⟩, ⟨by (with_reducible repeat (first | refine blk_drewN ?_ _ | refine blk_drew ?_ | refine blk_alloc ?_ _)); refine blk_far ?_ NB118_127.out _; (with_reducible repeat (first | refine blk_drewN ?_ _ | refine blk_drew ?_ | refine blk_alloc ?_ _)); refine blk_far ?_ NB118_127.out _; (with_reducible repeat (first | refine blk_drewN ?_ _ | refine blk_drew ?_ | refine blk_alloc ?_ _)); exact BK118.out⟩, ⟨by repeat (first | (with_reducible first | exact HB.out | apply below_alloc | apply pw_below_drewN | apply below_drew1 | refine below_set ?_ GE118.out | refine below_set ?_ GE127.out) | exact HB.out)⟩⟩
                                  · replace c56 := Bool.eq_false_iff.mpr c56
                                    subst c56
                                    have H1 : (stopcockref22_wrong.l0 k3 (((rd_T55 t123 x62_3).f1) == ((rd_T28 l1 a2).f2)) false (wrap64 (x11_3 + 1)) t123 (t123.length : Int) (wrap64 (x62_3 + 1)) ((rd_T28 l1 a2).f0) ((rd_T28 l1 a2).f1) ((rd_T28 l1 a2).f2)) = some r := by rw [if_neg (show ¬ (false = true) by decide)] at H; exact H
                                    clear H
                                    have H := H1
                                    clear H1
                                    have H' := Aside0.mk H
                                    clear H
                                    have p126 : 0 ≤ (x62_3 : Int) := of_decide_eq_true (by first | (with_reducible assumption) | assumption)
                                    have q126 : x62_3 < (t123.length : Int) := of_decide_eq_true (by first | (with_reducible assumption) | assumption)
                                    obtain ⟨ad126, e126, hx126_0, hx126_1⟩ := at_T55 (Kd.R_reads' HO_60.out).2.2 x62_3 p126 q126
                                    cases e126
                                    replace p126 := eq_true p126
                                    replace q126 := eq_true q126
                                    go_wp2_with (first | ((with_reducible refine gate_dst (N := 13) rfl ?_); refine box_event ?hg (N := 13) ?hd (cs := #[.int .i64 0, .int .i64 0]) (t := 55) ?hr ?_; (case hd => rfl); (case hg => rfl); (case hr => first | (go_simp; done) | (go_simp; rfl)); intro gb127 hg w61 hbox hb; have n0_ := Aside0.mk (Kd.R_below (Kd.R_elderB (by (with_reducible repeat (first | apply Kd.R_alloc | apply Kd.R_drewN | apply Kd.R_drew)); exact HO_60.out) gb127 (Nat.le_of_eq hg.symm)) hb); have n1_ := Aside0.mk (blk_below (g := gb118) (o := .cells #[.int .i64 ((rd_T28 l1 a2).f0), .int .i64 ((rd_T28 l1 a2).f1), .int .i64 ((rd_T28 l1 a2).f2)] 28 (0, 0)) (by (with_reducible repeat (first | refine blk_drewN ?_ _ | refine blk_drew ?_ | refine blk_alloc ?_ _)); exact BK118.out) hb); have n2_ := Aside0.mk (below_step (by repeat (first | (with_reducible first | exact HB.out | apply below_alloc | apply pw_below_drewN | apply below_drew1 | refine below_set ?_ GE118.out) | exact HB.out)) hb); have n3_ := Aside0.mk (hbox); have n4_ := Aside0.mk ((by rw [hg]; exact (below_size (by repeat (first | (with_reducible first | exact HB.out | apply below_alloc | apply pw_below_drewN | apply below_drew1 | refine below_set ?_ GE118.out) | exact HB.out))) : w.heap.size ≤ gb127)); have n5_ := Aside0.mk ((by rw [hg]; exact (below_size (by repeat (first | (with_reducible first | exact HB.out | apply below_alloc | apply pw_below_drewN | apply below_drew1 | refine below_set ?_ GE118.out) | exact HB.out))) : w.heap.size ≤ gb127)); have n6_ := Aside0.mk ((by rw [hg]; exact Nat.ne_of_lt (blk_lt (g := gb118) (o := .cells #[.int .i64 ((rd_T28 l1 a2).f0), .int .i64 ((rd_T28 l1 a2).f1), .int .i64 ((rd_T28 l1 a2).f2)] 28 (0, 0)) (by (with_reducible repeat (first | refine blk_drewN ?_ _ | refine blk_drew ?_ | refine blk_alloc ?_ _)); exact BK118.out)) : gb118 ≠ gb127)); have n7_ := Aside0.mk ((by rw [hg]; exact Nat.ne_of_gt (blk_lt (g := gb118) (o := .cells #[.int .i64 ((rd_T28 l1 a2).f0), .int .i64 ((rd_T28 l1 a2).f1), .int .i64 ((rd_T28 l1 a2).f2)] 28 (0, 0)) (by (with_reducible repeat (first | refine blk_drewN ?_ _ | refine blk_drew ?_ | refine blk_alloc ?_ _)); exact BK118.out)) : gb127 ≠ gb118)); clear HO_60; clear BK118; clear HB; have HO_60 := n0_; have BK118 := n1_; have HB := n2_; have BK127 := n3_; have GW127 := n4_; have GE127 := n5_; have NB118_127 := n6_; have NB127_118 := n7_; clear n0_ n1_ n2_ n3_ n4_ n5_ n6_ n7_; clear hb hbox hg; have hnb62 := NB127_118.out; have hnc62 := NB118_127.out; have hcz63_0 : w61.cell? ⟨gb127, 0, none⟩ = some (.int .i64 0) := (blk_cell BK127.out 0).trans rfl; have hcz63_1 : w61.cell? ⟨gb127, 1, none⟩ = some (.int .i64 0) := (blk_cell BK127.out 1).trans rfl; have hfz63_0 := blk_frozen BK127.out 0; have hfz63_1 := blk_frozen BK127.out 1; have hcz64_0 : w61.cell? ⟨gb118, 0, none⟩ = some (.int .i64 ((rd_T28 l1 a2).f0)) := (blk_cell BK118.out 0).trans rfl; have hcz64_1 : w61.cell? ⟨gb118, 1, none⟩ = some (.int .i64 ((rd_T28 l1 a2).f1)) := (blk_cell BK118.out 1).trans rfl; have hcz64_2 : w61.cell? ⟨gb118, 2, none⟩ = some (.int .i64 ((rd_T28 l1 a2).f2)) := (blk_cell BK118.out 2).trans rfl; have hfz64_0 := blk_frozen BK118.out 0; have hfz64_1 := blk_frozen BK118.out 1; have hfz64_2 := blk_frozen BK118.out 2))
                                    go_roundg k3
                                    case measure => have := HJ5.out; have := HJ12.out; have := HK3.out; omega
                                    case rel => exact ⟨((((rd_T55 t123 x62_3).f1) == ((rd_T28 l1 a2).f2))), (false), (wrap64 (x11_3 + 1)), (wrap64 (x62_3 + 1)), (by first | rfl | (simp; done) | (simp [*]; done)), (by first | rfl | (simp; done) | (simp [*]; done)), (by first | rfl | (simp; done) | (simp [*]; done)), (by first | rfl | (simp; done) | (simp [*]; done)), H', ⟨by have := HJ5.out; have := HJ12.out; have := HK3.out; omega⟩, ⟨by (with_reducible repeat (first | apply Kd.R_alloc | apply Kd.R_drewN | apply Kd.R_drew)); exact Kd.R_mono (Kd.R_far (p := ⟨gb127, 1, none⟩) (Kd.R_far (p := ⟨gb127, 0, none⟩) (Kd.R_mono HO_60.out (fun k_ hk => (⟨hk, hk.2⟩ : _ ∧ k_ ≠ gb127))) (fun _ hk => hk.2) (.int .i64 ((rd_T55 t123 x62_3).f0))) (fun _ hk => hk.2) (.int .i64 ((rd_T55 t123 x62_3).f1))) (fun _ hk => trivial)⟩, ⟨by (with_reducible repeat (first | refine blk_drewN ?_ _ | refine blk_drew ?_ | refine blk_alloc ?_ _)); refine blk_far ?_ NB118_127.out _; (with_reducible repeat (first | refine blk_drewN ?_ _ | refine blk_drew ?_ | refine blk_alloc ?_ _)); refine blk_far ?_ NB118_127.out _; (with_reducible repeat (first | refine blk_drewN ?_ _ | refine blk_drew ?_ | refine blk_alloc ?_ _)); exact BK118.out⟩, ⟨by repeat (first | (with_reducible first | exact HB.out | apply below_alloc | apply pw_below_drewN | apply below_drew1 | refine below_set ?_ GE118.out | refine below_set ?_ GE127.out) | exact HB.out)⟩⟩
                                · rw [if_neg c55] at H
                                  have c55b0 : (((rd_T55 t123 x62_3).f0) == ((rd_T28 l1 a2).f1)) = false := beq_eq_false_iff_ne.mpr c55
                                  have c55b1 : (((rd_T55 t123 x62_3).f0) != ((rd_T28 l1 a2).f1)) = true := bne_iff_ne.mpr c55
                                  by_cases c65 : x10_3 = true
                                  · subst c65
                                    have H1 : (stopcockref22_wrong.l0 k3 false true x11_3 t123 (t123.length : Int) (wrap64 (x62_3 + 1)) ((rd_T28 l1 a2).f0) ((rd_T28 l1 a2).f1) ((rd_T28 l1 a2).f2)) = some r := by rw [if_pos rfl] at H; exact H
                                    clear H
                                    have H := H1
                                    clear H1
                                    have H' := Aside0.mk H
                                    clear H
                                    have p126 : 0 ≤ (x62_3 : Int) := of_decide_eq_true (by first | (with_reducible assumption) | assumption)
                                    have q126 : x62_3 < (t123.length : Int) := of_decide_eq_true (by first | (with_reducible assumption) | assumption)
                                    obtain ⟨ad126, e126, hx126_0, hx126_1⟩ := at_T55 (Kd.R_reads' HO_60.out).2.2 x62_3 p126 q126
                                    cases e126
                                    replace p126 := eq_true p126
                                    replace q126 := eq_true q126
                                    go_wp2_with (first | ((with_reducible refine gate_dst (N := 13) rfl ?_); refine box_event ?hg (N := 13) ?hd (cs := #[.int .i64 0, .int .i64 0]) (t := 55) ?hr ?_; (case hd => rfl); (case hg => rfl); (case hr => first | (go_simp; done) | (go_simp; rfl)); intro gb127 hg w66 hbox hb; have n0_ := Aside0.mk (Kd.R_below (Kd.R_elderB (by (with_reducible repeat (first | apply Kd.R_alloc | apply Kd.R_drewN | apply Kd.R_drew)); exact HO_60.out) gb127 (Nat.le_of_eq hg.symm)) hb); have n1_ := Aside0.mk (blk_below (g := gb118) (o := .cells #[.int .i64 ((rd_T28 l1 a2).f0), .int .i64 ((rd_T28 l1 a2).f1), .int .i64 ((rd_T28 l1 a2).f2)] 28 (0, 0)) (by (with_reducible repeat (first | refine blk_drewN ?_ _ | refine blk_drew ?_ | refine blk_alloc ?_ _)); exact BK118.out) hb); have n2_ := Aside0.mk (below_step (by repeat (first | (with_reducible first | exact HB.out | apply below_alloc | apply pw_below_drewN | apply below_drew1 | refine below_set ?_ GE118.out) | exact HB.out)) hb); have n3_ := Aside0.mk (hbox); have n4_ := Aside0.mk ((by rw [hg]; exact (below_size (by repeat (first | (with_reducible first | exact HB.out | apply below_alloc | apply pw_below_drewN | apply below_drew1 | refine below_set ?_ GE118.out) | exact HB.out))) : w.heap.size ≤ gb127)); have n5_ := Aside0.mk ((by rw [hg]; exact (below_size (by repeat (first | (with_reducible first | exact HB.out | apply below_alloc | apply pw_below_drewN | apply below_drew1 | refine below_set ?_ GE118.out) | exact HB.out))) : w.heap.size ≤ gb127)); have n6_ := Aside0.mk ((by rw [hg]; exact Nat.ne_of_lt (blk_lt (g := gb118) (o := .cells #[.int .i64 ((rd_T28 l1 a2).f0), .int .i64 ((rd_T28 l1 a2).f1), .int .i64 ((rd_T28 l1 a2).f2)] 28 (0, 0)) (by (with_reducible repeat (first | refine blk_drewN ?_ _ | refine blk_drew ?_ | refine blk_alloc ?_ _)); exact BK118.out)) : gb118 ≠ gb127)); have n7_ := Aside0.mk ((by rw [hg]; exact Nat.ne_of_gt (blk_lt (g := gb118) (o := .cells #[.int .i64 ((rd_T28 l1 a2).f0), .int .i64 ((rd_T28 l1 a2).f1), .int .i64 ((rd_T28 l1 a2).f2)] 28 (0, 0)) (by (with_reducible repeat (first | refine blk_drewN ?_ _ | refine blk_drew ?_ | refine blk_alloc ?_ _)); exact BK118.out)) : gb127 ≠ gb118)); clear HO_60; clear BK118; clear HB; have HO_60 := n0_; have BK118 := n1_; have HB := n2_; have BK127 := n3_; have GW127 := n4_; have GE127 := n5_; have NB118_127 := n6_; have NB127_118 := n7_; clear n0_ n1_ n2_ n3_ n4_ n5_ n6_ n7_; clear hb hbox hg; have hnb67 := NB127_118.out; have hnc67 := NB118_127.out; have hcz68_0 : w66.cell? ⟨gb127, 0, none⟩ = some (.int .i64 0) := (blk_cell BK127.out 0).trans rfl; have hcz68_1 : w66.cell? ⟨gb127, 1, none⟩ = some (.int .i64 0) := (blk_cell BK127.out 1).trans rfl; have hfz68_0 := blk_frozen BK127.out 0; have hfz68_1 := blk_frozen BK127.out 1; have hcz69_0 : w66.cell? ⟨gb118, 0, none⟩ = some (.int .i64 ((rd_T28 l1 a2).f0)) := (blk_cell BK118.out 0).trans rfl; have hcz69_1 : w66.cell? ⟨gb118, 1, none⟩ = some (.int .i64 ((rd_T28 l1 a2).f1)) := (blk_cell BK118.out 1).trans rfl; have hcz69_2 : w66.cell? ⟨gb118, 2, none⟩ = some (.int .i64 ((rd_T28 l1 a2).f2)) := (blk_cell BK118.out 2).trans rfl; have hfz69_0 := blk_frozen BK118.out 0; have hfz69_1 := blk_frozen BK118.out 1; have hfz69_2 := blk_frozen BK118.out 2))
                                    go_roundg k3
                                    case measure => have := HJ5.out; have := HJ12.out; have := HK3.out; omega
                                    case rel => exact ⟨(false), (true), (x11_3), (wrap64 (x62_3 + 1)), (by first | rfl | (simp; done) | (simp [*]; done)), (by first | rfl | (simp; done) | (simp [*]; done)), (by first | rfl | (simp; done) | (simp [*]; done)), (by first | rfl | (simp; done) | (simp [*]; done)), H', ⟨by have := HJ5.out; have := HJ12.out; have := HK3.out; omega⟩, ⟨by (with_reducible repeat (first | apply Kd.R_alloc | apply Kd.R_drewN | apply Kd.R_drew)); exact Kd.R_mono (Kd.R_far (p := ⟨gb127, 1, none⟩) (Kd.R_far (p := ⟨gb127, 0, none⟩) (Kd.R_mono HO_60.out (fun k_ hk => (⟨hk, hk.2⟩ : _ ∧ k_ ≠ gb127))) (fun _ hk => hk.2) (.int .i64 ((rd_T55 t123 x62_3).f0))) (fun _ hk => hk.2) (.int .i64 ((rd_T55 t123 x62_3).f1))) (fun _ hk => trivial)⟩, ⟨by (with_reducible repeat (first | refine blk_drewN ?_ _ | refine blk_drew ?_ | refine blk_alloc ?_ _)); refine blk_far ?_ NB118_127.out _; (with_reducible repeat (first | refine blk_drewN ?_ _ | refine blk_drew ?_ | refine blk_alloc ?_ _)); refine blk_far ?_ NB118_127.out _; (with_reducible repeat (first | refine blk_drewN ?_ _ | refine blk_drew ?_ | refine blk_alloc ?_ _)); exact BK118.out⟩, ⟨by repeat (first | (with_reducible first | exact HB.out | apply below_alloc | apply pw_below_drewN | apply below_drew1 | refine below_set ?_ GE118.out | refine below_set ?_ GE127.out) | exact HB.out)⟩⟩
                                  · replace c65 := Bool.eq_false_iff.mpr c65
                                    subst c65
                                    have H1 : (stopcockref22_wrong.l0 k3 false (((rd_T55 t123 x62_3).f1) == ((rd_T28 l1 a2).f2)) x11_3 t123 (t123.length : Int) (wrap64 (x62_3 + 1)) ((rd_T28 l1 a2).f0) ((rd_T28 l1 a2).f1) ((rd_T28 l1 a2).f2)) = some r := by rw [if_neg (show ¬ (false = true) by decide)] at H; exact H
                                    clear H
                                    have H := H1
                                    clear H1
                                    have H' := Aside0.mk H
                                    clear H
                                    have p126 : 0 ≤ (x62_3 : Int) := of_decide_eq_true (by first | (with_reducible assumption) | assumption)
                                    have q126 : x62_3 < (t123.length : Int) := of_decide_eq_true (by first | (with_reducible assumption) | assumption)
                                    obtain ⟨ad126, e126, hx126_0, hx126_1⟩ := at_T55 (Kd.R_reads' HO_60.out).2.2 x62_3 p126 q126
                                    cases e126
                                    replace p126 := eq_true p126
                                    replace q126 := eq_true q126
                                    go_wp2_with (first | ((with_reducible refine gate_dst (N := 13) rfl ?_); refine box_event ?hg (N := 13) ?hd (cs := #[.int .i64 0, .int .i64 0]) (t := 55) ?hr ?_; (case hd => rfl); (case hg => rfl); (case hr => first | (go_simp; done) | (go_simp; rfl)); intro gb127 hg w70 hbox hb; have n0_ := Aside0.mk (Kd.R_below (Kd.R_elderB (by (with_reducible repeat (first | apply Kd.R_alloc | apply Kd.R_drewN | apply Kd.R_drew)); exact HO_60.out) gb127 (Nat.le_of_eq hg.symm)) hb); have n1_ := Aside0.mk (blk_below (g := gb118) (o := .cells #[.int .i64 ((rd_T28 l1 a2).f0), .int .i64 ((rd_T28 l1 a2).f1), .int .i64 ((rd_T28 l1 a2).f2)] 28 (0, 0)) (by (with_reducible repeat (first | refine blk_drewN ?_ _ | refine blk_drew ?_ | refine blk_alloc ?_ _)); exact BK118.out) hb); have n2_ := Aside0.mk (below_step (by repeat (first | (with_reducible first | exact HB.out | apply below_alloc | apply pw_below_drewN | apply below_drew1 | refine below_set ?_ GE118.out) | exact HB.out)) hb); have n3_ := Aside0.mk (hbox); have n4_ := Aside0.mk ((by rw [hg]; exact (below_size (by repeat (first | (with_reducible first | exact HB.out | apply below_alloc | apply pw_below_drewN | apply below_drew1 | refine below_set ?_ GE118.out) | exact HB.out))) : w.heap.size ≤ gb127)); have n5_ := Aside0.mk ((by rw [hg]; exact (below_size (by repeat (first | (with_reducible first | exact HB.out | apply below_alloc | apply pw_below_drewN | apply below_drew1 | refine below_set ?_ GE118.out) | exact HB.out))) : w.heap.size ≤ gb127)); have n6_ := Aside0.mk ((by rw [hg]; exact Nat.ne_of_lt (blk_lt (g := gb118) (o := .cells #[.int .i64 ((rd_T28 l1 a2).f0), .int .i64 ((rd_T28 l1 a2).f1), .int .i64 ((rd_T28 l1 a2).f2)] 28 (0, 0)) (by (with_reducible repeat (first | refine blk_drewN ?_ _ | refine blk_drew ?_ | refine blk_alloc ?_ _)); exact BK118.out)) : gb118 ≠ gb127)); have n7_ := Aside0.mk ((by rw [hg]; exact Nat.ne_of_gt (blk_lt (g := gb118) (o := .cells #[.int .i64 ((rd_T28 l1 a2).f0), .int .i64 ((rd_T28 l1 a2).f1), .int .i64 ((rd_T28 l1 a2).f2)] 28 (0, 0)) (by (with_reducible repeat (first | refine blk_drewN ?_ _ | refine blk_drew ?_ | refine blk_alloc ?_ _)); exact BK118.out)) : gb127 ≠ gb118)); clear HO_60; clear BK118; clear HB; have HO_60 := n0_; have BK118 := n1_; have HB := n2_; have BK127 := n3_; have GW127 := n4_; have GE127 := n5_; have NB118_127 := n6_; have NB127_118 := n7_; clear n0_ n1_ n2_ n3_ n4_ n5_ n6_ n7_; clear hb hbox hg; have hnb71 := NB127_118.out; have hnc71 := NB118_127.out; have hcz72_0 : w70.cell? ⟨gb127, 0, none⟩ = some (.int .i64 0) := (blk_cell BK127.out 0).trans rfl; have hcz72_1 : w70.cell? ⟨gb127, 1, none⟩ = some (.int .i64 0) := (blk_cell BK127.out 1).trans rfl; have hfz72_0 := blk_frozen BK127.out 0; have hfz72_1 := blk_frozen BK127.out 1; have hcz73_0 : w70.cell? ⟨gb118, 0, none⟩ = some (.int .i64 ((rd_T28 l1 a2).f0)) := (blk_cell BK118.out 0).trans rfl; have hcz73_1 : w70.cell? ⟨gb118, 1, none⟩ = some (.int .i64 ((rd_T28 l1 a2).f1)) := (blk_cell BK118.out 1).trans rfl; have hcz73_2 : w70.cell? ⟨gb118, 2, none⟩ = some (.int .i64 ((rd_T28 l1 a2).f2)) := (blk_cell BK118.out 2).trans rfl; have hfz73_0 := blk_frozen BK118.out 0; have hfz73_1 := blk_frozen BK118.out 1; have hfz73_2 := blk_frozen BK118.out 2))
                                    go_roundg k3
                                    case measure => have := HJ5.out; have := HJ12.out; have := HK3.out; omega
                                    case rel => exact ⟨(false), ((((rd_T55 t123 x62_3).f1) == ((rd_T28 l1 a2).f2))), (x11_3), (wrap64 (x62_3 + 1)), (by first | rfl | (simp; done) | (simp [*]; done)), (by first | rfl | (simp; done) | (simp [*]; done)), (by first | rfl | (simp; done) | (simp [*]; done)), (by first | rfl | (simp; done) | (simp [*]; done)), H', ⟨by have := HJ5.out; have := HJ12.out; have := HK3.out; omega⟩, ⟨by (with_reducible repeat (first | apply Kd.R_alloc | apply Kd.R_drewN | apply Kd.R_drew)); exact Kd.R_mono (Kd.R_far (p := ⟨gb127, 1, none⟩) (Kd.R_far (p := ⟨gb127, 0, none⟩) (Kd.R_mono HO_60.out (fun k_ hk => (⟨hk, hk.2⟩ : _ ∧ k_ ≠ gb127))) (fun _ hk => hk.2) (.int .i64 ((rd_T55 t123 x62_3).f0))) (fun _ hk => hk.2) (.int .i64 ((rd_T55 t123 x62_3).f1))) (fun _ hk => trivial)⟩, ⟨by (with_reducible repeat (first | refine blk_drewN ?_ _ | refine blk_drew ?_ | refine blk_alloc ?_ _)); refine blk_far ?_ NB118_127.out _; (with_reducible repeat (first | refine blk_drewN ?_ _ | refine blk_drew ?_ | refine blk_alloc ?_ _)); refine blk_far ?_ NB118_127.out _; (with_reducible repeat (first | refine blk_drewN ?_ _ | refine blk_drew ?_ | refine blk_alloc ?_ _)); exact BK118.out⟩, ⟨by repeat (first | (with_reducible first | exact HB.out | apply below_alloc | apply pw_below_drewN | apply below_drew1 | refine below_set ?_ GE118.out | refine below_set ?_ GE127.out) | exact HB.out)⟩⟩
                            · rw [if_neg c34] at H
                              exact absurd H (by simp)
                          · rw [if_neg c33] at H
                            exact absurd H (by simp)
                        · rw [if_neg c32] at H
                          have c32b0 : decide (x62_3 < (t123.length : Int)) = false := decide_eq_false c32
                          clear c32
                          have HC74 := Aside0.mk H
                          clear H
                          go_upto_region 23 with (fail)
                          go_cut [104] (fun v104 wc => ∃ (kq : Nat) (x104_73 : Bool), v104 = .bool x104_73 ∧ Aside0 (stopcockref22_wrong.j4 kq x9_3 x10_3 x11_3 x104_73 ((rd_T28 l1 a2).f0) ((rd_T28 l1 a2).f1) ((rd_T28 l1 a2).f2) = some r) ∧ Aside0 (kq ≤ k3) ∧ Aside0 (wc.heap[gb118]? = some (.cells #[.int .i64 ((rd_T28 l1 a2).f0), .int .i64 ((rd_T28 l1 a2).f1), .int .i64 ((rd_T28 l1 a2).f2)] 28 (0, 0))) ∧ Aside0 (Below w.heap.size w wc))
                          case first =>
                            have H := HC74.out
                            clear HC74
                            by_cases c75 : ((rd_T28 l1 a2).f0) = 1
                            · rw [if_pos c75] at H
                              have c75b0 : (((rd_T28 l1 a2).f0) == 1) = true := beq_iff_eq.mpr c75
                              have c75b1 : (((rd_T28 l1 a2).f0) != 1) = false := bne_eq_false_iff_eq.mpr c75
                              clear c75
                              (first | rw [c75b0] | (simp only [i64_w, i32_w]; rw [c75b0]) | skip)
                              have H' := Aside0.mk H
                              clear H
                              have hcz76_0 : wr.cell? ⟨gb118, 0, none⟩ = some (.int .i64 ((rd_T28 l1 a2).f0)) := (blk_cell BK118.out 0).trans rfl
                              have hcz76_1 : wr.cell? ⟨gb118, 1, none⟩ = some (.int .i64 ((rd_T28 l1 a2).f1)) := (blk_cell BK118.out 1).trans rfl
                              have hcz76_2 : wr.cell? ⟨gb118, 2, none⟩ = some (.int .i64 ((rd_T28 l1 a2).f2)) := (blk_cell BK118.out 2).trans rfl
                              have hfz76_0 := blk_frozen BK118.out 0
                              have hfz76_1 := blk_frozen BK118.out 1
                              have hfz76_2 := blk_frozen BK118.out 2
                              go_wp2
                              go_meet
                              case rel => exact ⟨_, (x9_3), (by first | rfl | (simp; done) | (simp [*]; done)), H', ⟨by have := HJ5.out; have := HJ12.out; have := HK3.out; first | omega | exact Nat.le_refl _⟩, ⟨by (with_reducible repeat (first | refine blk_drewN ?_ _ | refine blk_drew ?_ | refine blk_alloc ?_ _)); exact BK118.out⟩, ⟨by repeat (first | (with_reducible first | exact HB.out | apply below_alloc | apply pw_below_drewN | apply below_drew1 | refine below_set ?_ GE118.out) | exact HB.out)⟩⟩
                            · rw [if_neg c75] at H
                              have c75b0 : (((rd_T28 l1 a2).f0) == 1) = false := beq_eq_false_iff_ne.mpr c75
                              have c75b1 : (((rd_T28 l1 a2).f0) != 1) = true := bne_iff_ne.mpr c75
                              (first | rw [c75b0] | (simp only [i64_w, i32_w]; rw [c75b0]) | skip)
                              have H' := Aside0.mk H
                              clear H
                              have hcz77_0 : wr.cell? ⟨gb118, 0, none⟩ = some (.int .i64 ((rd_T28 l1 a2).f0)) := (blk_cell BK118.out 0).trans rfl
                              have hcz77_1 : wr.cell? ⟨gb118, 1, none⟩ = some (.int .i64 ((rd_T28 l1 a2).f1)) := (blk_cell BK118.out 1).trans rfl
                              have hcz77_2 : wr.cell? ⟨gb118, 2, none⟩ = some (.int .i64 ((rd_T28 l1 a2).f2)) := (blk_cell BK118.out 2).trans rfl
                              have hfz77_0 := blk_frozen BK118.out 0
                              have hfz77_1 := blk_frozen BK118.out 1
                              have hfz77_2 := blk_frozen BK118.out 2
                              go_wp2
                              go_meet
                              case rel => exact ⟨_, (false), (by first | rfl | (simp; done) | (simp [*]; done)), H', ⟨by have := HJ5.out; have := HJ12.out; have := HK3.out; first | omega | exact Nat.le_refl _⟩, ⟨by (with_reducible repeat (first | refine blk_drewN ?_ _ | refine blk_drew ?_ | refine blk_alloc ?_ _)); exact BK118.out⟩, ⟨by repeat (first | (with_reducible first | exact HB.out | apply below_alloc | apply pw_below_drewN | apply below_drew1 | refine below_set ?_ GE118.out) | exact HB.out)⟩⟩
                          case rest =>
                            clear HC74
                            try clear c1
                            try clear p1
                            try clear q1
                            try clear hx1
                            try clear c2
                            try clear p2
                            try clear q2
                            try clear c3
                            try clear c4
                            try clear c4b0
                            try clear c5
                            try clear c5b0
                            try clear c6
                            try clear p6
                            try clear c7
                            try clear c9
                            try clear c9b0
                            try clear c10
                            try clear c10b0
                            try clear p11
                            try clear q11
                            try clear hx11
                            try clear p12
                            try clear q12
                            try clear hx12
                            try clear c16
                            try clear c16b0
                            try clear c16b1
                            try clear c17
                            try clear c18
                            try clear c19
                            try clear c19b0
                            try clear c22
                            try clear c22b0
                            try clear c22b1
                            try clear c23
                            try clear c25
                            try clear c26
                            try clear c26b0
                            try clear c26b1
                            try clear c27
                            try clear c27b0
                            try clear c27b1
                            try clear q29
                            try clear c32
                            try clear c32b0
                            try clear c33
                            try clear c33b0
                            try clear c34
                            try clear c34b0
                            try clear c35
                            try clear c36
                            try clear c37
                            try clear c37b0
                            try clear c37b1
                            try clear c39
                            try clear c43
                            try clear c46
                            try clear c46b0
                            try clear c46b1
                            try clear c48
                            try clear c52
                            try clear c55
                            try clear c55b0
                            try clear c55b1
                            try clear c56
                            try clear c58
                            try clear c62
                            try clear p64
                            try clear c65
                            try clear c67
                            try clear c71
                            try clear c75
                            try clear c75b0
                            try clear c75b1
                            try clear hcz11_0
                            try clear hcz11_1
                            try clear hcz11_2
                            try clear hcz12_0
                            try clear hcz12_1
                            try clear hcz12_2
                            try clear hcz14_0
                            try clear hcz14_1
                            try clear hcz14_2
                            try clear hcz20_0
                            try clear hcz20_1
                            try clear hcz20_2
                            try clear hcz21_0
                            try clear hcz21_1
                            try clear hcz21_2
                            try clear hcz24_0
                            try clear hcz24_1
                            try clear hcz24_2
                            try clear hcz40_0
                            try clear hcz40_1
                            try clear hcz41_0
                            try clear hcz41_1
                            try clear hcz41_2
                            try clear hcz44_0
                            try clear hcz44_1
                            try clear hcz45_0
                            try clear hcz45_1
                            try clear hcz45_2
                            try clear hcz49_0
                            try clear hcz49_1
                            try clear hcz50_0
                            try clear hcz50_1
                            try clear hcz50_2
                            try clear hcz53_0
                            try clear hcz53_1
                            try clear hcz54_0
                            try clear hcz54_1
                            try clear hcz54_2
                            try clear hcz59_0
                            try clear hcz59_1
                            try clear hcz60_0
                            try clear hcz60_1
                            try clear hcz60_2
                            try clear hcz63_0
                            try clear hcz63_1
                            try clear hcz64_0
                            try clear hcz64_1
                            try clear hcz64_2
                            try clear hcz68_0
                            try clear hcz68_1
                            try clear hcz69_0
                            try clear hcz69_1
                            try clear hcz69_2
                            try clear hcz72_0
                            try clear hcz72_1
                            try clear hcz73_0
                            try clear hcz73_1
                            try clear hcz73_2
                            try clear hcz76_0
                            try clear hcz76_1
                            try clear hcz76_2
                            try clear hcz77_0
                            try clear hcz77_1
                            try clear hcz77_2
                            try clear hcz8_0
                            try clear hcz8_1
                            try clear hcz8_2
                            try clear hfz11_0
                            try clear hfz11_1
                            try clear hfz11_2
                            try clear hfz12_0
                            try clear hfz12_1
                            try clear hfz12_2
                            try clear hfz14_0
                            try clear hfz14_1
                            try clear hfz14_2
                            try clear hfz20_0
                            try clear hfz20_1
                            try clear hfz20_2
                            try clear hfz21_0
                            try clear hfz21_1
                            try clear hfz21_2
                            try clear hfz24_0
                            try clear hfz24_1
                            try clear hfz24_2
                            try clear hfz40_0
                            try clear hfz40_1
                            try clear hfz41_0
                            try clear hfz41_1
                            try clear hfz41_2
                            try clear hfz44_0
                            try clear hfz44_1
                            try clear hfz45_0
                            try clear hfz45_1
                            try clear hfz45_2
                            try clear hfz49_0
                            try clear hfz49_1
                            try clear hfz50_0
                            try clear hfz50_1
                            try clear hfz50_2
                            try clear hfz53_0
                            try clear hfz53_1
                            try clear hfz54_0
                            try clear hfz54_1
                            try clear hfz54_2
                            try clear hfz59_0
                            try clear hfz59_1
                            try clear hfz60_0
                            try clear hfz60_1
                            try clear hfz60_2
                            try clear hfz63_0
                            try clear hfz63_1
                            try clear hfz64_0
                            try clear hfz64_1
                            try clear hfz64_2
                            try clear hfz68_0
                            try clear hfz68_1
                            try clear hfz69_0
                            try clear hfz69_1
                            try clear hfz69_2
                            try clear hfz72_0
                            try clear hfz72_1
                            try clear hfz73_0
                            try clear hfz73_1
                            try clear hfz73_2
                            try clear hfz76_0
                            try clear hfz76_1
                            try clear hfz76_2
                            try clear hfz77_0
                            try clear hfz77_1
                            try clear hfz77_2
                            try clear hfz8_0
                            try clear hfz8_1
                            try clear hfz8_2
                            try clear hx117_0
                            try clear hx117_1
                            try clear hx117_2
                            try clear hx126_0
                            try clear hx126_1
                            try clear p1
                            try clear p11
                            try clear p117
                            try clear p126
                            try clear p2
                            try clear q1
                            try clear q11
                            try clear q117
                            try clear q126
                            try clear q2
                            try clear q29
                            obtain ⟨kq, x104_73, rfl, HA, HJ73, BK118, HB⟩ := hcut
                            cases kq with
                            | zero => exact absurd HA.out (by simp [stopcockref22_wrong.j4])
                            | succ kj73 =>
                              have H := HA.out
                              clear HA
                              simp only [stopcockref22_wrong.j4] at H
                              by_cases c78 : x104_73 = true
                              · subst c78
                                have H1 : (some 3) = some r := by rw [if_pos rfl] at H; exact H
                                clear H
                                have H := H1
                                clear H1
                                obtain rfl := Option.some.inj H
                                go_wp2
                                go_ret
                                exact ⟨by first | rfl | (simp [errW_none, errW_some] <;> rfl) | (simp [*, errW_none, errW_some] <;> rfl), by repeat (first | (with_reducible first | exact HB.out | apply below_alloc | apply pw_below_drewN | apply below_drew1 | refine below_set ?_ GE118.out) | exact HB.out)⟩
                              · replace c78 := Bool.eq_false_iff.mpr c78
                                subst c78
                                have H1 : (if ((rd_T28 l1 a2).f0) = 1 then (stopcockref22_wrong.j5 kj73 x9_3 x11_3 x10_3 ((rd_T28 l1 a2).f0) ((rd_T28 l1 a2).f1) ((rd_T28 l1 a2).f2)) else (stopcockref22_wrong.j5 kj73 x9_3 x11_3 false ((rd_T28 l1 a2).f0) ((rd_T28 l1 a2).f1) ((rd_T28 l1 a2).f2))) = some r := by rw [if_neg (show ¬ (false = true) by decide)] at H; exact H
                                clear H
                                have H := H1
                                clear H1
                                have HC79 := Aside0.mk H
                                clear H
                                go_upto_region 25 with (fail)
                                go_cut [111] (fun v111 wc => ∃ (kq : Nat) (x111_78 : Bool), v111 = .bool x111_78 ∧ Aside0 (stopcockref22_wrong.j5 kq x9_3 x11_3 x111_78 ((rd_T28 l1 a2).f0) ((rd_T28 l1 a2).f1) ((rd_T28 l1 a2).f2) = some r) ∧ Aside0 (kq ≤ kj73) ∧ Aside0 (wc.heap[gb118]? = some (.cells #[.int .i64 ((rd_T28 l1 a2).f0), .int .i64 ((rd_T28 l1 a2).f1), .int .i64 ((rd_T28 l1 a2).f2)] 28 (0, 0))) ∧ Aside0 (Below w.heap.size w wc))
                                case first =>
                                  have H := HC79.out
                                  clear HC79
                                  by_cases c80 : ((rd_T28 l1 a2).f0) = 1
                                  · rw [if_pos c80] at H
                                    have c80b0 : (((rd_T28 l1 a2).f0) == 1) = true := beq_iff_eq.mpr c80
                                    have c80b1 : (((rd_T28 l1 a2).f0) != 1) = false := bne_eq_false_iff_eq.mpr c80
                                    clear c80
                                    (first | rw [c80b0] | (simp only [i64_w, i32_w]; rw [c80b0]) | skip)
                                    have H' := Aside0.mk H
                                    clear H
                                    have hcz81_0 : wc.cell? ⟨gb118, 0, none⟩ = some (.int .i64 ((rd_T28 l1 a2).f0)) := (blk_cell BK118.out 0).trans rfl
                                    have hcz81_1 : wc.cell? ⟨gb118, 1, none⟩ = some (.int .i64 ((rd_T28 l1 a2).f1)) := (blk_cell BK118.out 1).trans rfl
                                    have hcz81_2 : wc.cell? ⟨gb118, 2, none⟩ = some (.int .i64 ((rd_T28 l1 a2).f2)) := (blk_cell BK118.out 2).trans rfl
                                    have hfz81_0 := blk_frozen BK118.out 0
                                    have hfz81_1 := blk_frozen BK118.out 1
                                    have hfz81_2 := blk_frozen BK118.out 2
                                    go_wp2
                                    go_meet
                                    case rel => exact ⟨_, (x10_3), (by first | rfl | (simp; done) | (simp [*]; done)), H', ⟨by have := HJ5.out; have := HJ12.out; have := HK3.out; have := HJ73.out; first | omega | exact Nat.le_refl _⟩, ⟨by (with_reducible repeat (first | refine blk_drewN ?_ _ | refine blk_drew ?_ | refine blk_alloc ?_ _)); exact BK118.out⟩, ⟨by repeat (first | (with_reducible first | exact HB.out | apply below_alloc | apply pw_below_drewN | apply below_drew1 | refine below_set ?_ GE118.out) | exact HB.out)⟩⟩
                                  · rw [if_neg c80] at H
                                    have c80b0 : (((rd_T28 l1 a2).f0) == 1) = false := beq_eq_false_iff_ne.mpr c80
                                    have c80b1 : (((rd_T28 l1 a2).f0) != 1) = true := bne_iff_ne.mpr c80
                                    (first | rw [c80b0] | (simp only [i64_w, i32_w]; rw [c80b0]) | skip)
                                    have H' := Aside0.mk H
                                    clear H
                                    have hcz82_0 : wc.cell? ⟨gb118, 0, none⟩ = some (.int .i64 ((rd_T28 l1 a2).f0)) := (blk_cell BK118.out 0).trans rfl
                                    have hcz82_1 : wc.cell? ⟨gb118, 1, none⟩ = some (.int .i64 ((rd_T28 l1 a2).f1)) := (blk_cell BK118.out 1).trans rfl
                                    have hcz82_2 : wc.cell? ⟨gb118, 2, none⟩ = some (.int .i64 ((rd_T28 l1 a2).f2)) := (blk_cell BK118.out 2).trans rfl
                                    have hfz82_0 := blk_frozen BK118.out 0
                                    have hfz82_1 := blk_frozen BK118.out 1
                                    have hfz82_2 := blk_frozen BK118.out 2
                                    go_wp2
                                    go_meet
                                    case rel => exact ⟨_, (false), (by first | rfl | (simp; done) | (simp [*]; done)), H', ⟨by have := HJ5.out; have := HJ12.out; have := HK3.out; have := HJ73.out; first | omega | exact Nat.le_refl _⟩, ⟨by (with_reducible repeat (first | refine blk_drewN ?_ _ | refine blk_drew ?_ | refine blk_alloc ?_ _)); exact BK118.out⟩, ⟨by repeat (first | (with_reducible first | exact HB.out | apply below_alloc | apply pw_below_drewN | apply below_drew1 | refine below_set ?_ GE118.out) | exact HB.out)⟩⟩
                                case rest =>
                                  clear HC79
                                  try clear c1
                                  try clear p1
                                  try clear q1
                                  try clear hx1
                                  try clear c2
                                  try clear p2
                                  try clear q2
                                  try clear c3
                                  try clear c4
                                  try clear c4b0
                                  try clear c5
                                  try clear c5b0
                                  try clear c6
                                  try clear p6
                                  try clear c7
                                  try clear c8
                                  try clear c9
                                  try clear c9b0
                                  try clear c10
                                  try clear c10b0
                                  try clear p11
                                  try clear q11
                                  try clear hx11
                                  try clear p12
                                  try clear q12
                                  try clear hx12
                                  try clear c16
                                  try clear c16b0
                                  try clear c16b1
                                  try clear c17
                                  try clear c18
                                  try clear c19
                                  try clear c19b0
                                  try clear c22
                                  try clear c22b0
                                  try clear c22b1
                                  try clear c23
                                  try clear c25
                                  try clear c26
                                  try clear c26b0
                                  try clear c26b1
                                  try clear c27
                                  try clear c27b0
                                  try clear c27b1
                                  try clear q29
                                  try clear c32
                                  try clear c32b0
                                  try clear c33
                                  try clear c33b0
                                  try clear c34
                                  try clear c34b0
                                  try clear c35
                                  try clear c36
                                  try clear c37
                                  try clear c37b0
                                  try clear c37b1
                                  try clear c39
                                  try clear c43
                                  try clear c46
                                  try clear c46b0
                                  try clear c46b1
                                  try clear c48
                                  try clear c52
                                  try clear c55
                                  try clear c55b0
                                  try clear c55b1
                                  try clear c56
                                  try clear c58
                                  try clear c62
                                  try clear p64
                                  try clear c65
                                  try clear c67
                                  try clear c71
                                  try clear c75
                                  try clear c75b0
                                  try clear c75b1
                                  try clear c78
                                  try clear c80
                                  try clear c80b0
                                  try clear c80b1
                                  try clear hcz11_0
                                  try clear hcz11_1
                                  try clear hcz11_2
                                  try clear hcz12_0
                                  try clear hcz12_1
                                  try clear hcz12_2
                                  try clear hcz14_0
                                  try clear hcz14_1
                                  try clear hcz14_2
                                  try clear hcz20_0
                                  try clear hcz20_1
                                  try clear hcz20_2
                                  try clear hcz21_0
                                  try clear hcz21_1
                                  try clear hcz21_2
                                  try clear hcz24_0
                                  try clear hcz24_1
                                  try clear hcz24_2
                                  try clear hcz40_0
                                  try clear hcz40_1
                                  try clear hcz41_0
                                  try clear hcz41_1
                                  try clear hcz41_2
                                  try clear hcz44_0
                                  try clear hcz44_1
                                  try clear hcz45_0
                                  try clear hcz45_1
                                  try clear hcz45_2
                                  try clear hcz49_0
                                  try clear hcz49_1
                                  try clear hcz50_0
                                  try clear hcz50_1
                                  try clear hcz50_2
                                  try clear hcz53_0
                                  try clear hcz53_1
                                  try clear hcz54_0
                                  try clear hcz54_1
                                  try clear hcz54_2
                                  try clear hcz59_0
                                  try clear hcz59_1
                                  try clear hcz60_0
                                  try clear hcz60_1
                                  try clear hcz60_2
                                  try clear hcz63_0
                                  try clear hcz63_1
                                  try clear hcz64_0
                                  try clear hcz64_1
                                  try clear hcz64_2
                                  try clear hcz68_0
                                  try clear hcz68_1
                                  try clear hcz69_0
                                  try clear hcz69_1
                                  try clear hcz69_2
                                  try clear hcz72_0
                                  try clear hcz72_1
                                  try clear hcz73_0
                                  try clear hcz73_1
                                  try clear hcz73_2
                                  try clear hcz76_0
                                  try clear hcz76_1
                                  try clear hcz76_2
                                  try clear hcz77_0
                                  try clear hcz77_1
                                  try clear hcz77_2
                                  try clear hcz81_0
                                  try clear hcz81_1
                                  try clear hcz81_2
                                  try clear hcz82_0
                                  try clear hcz82_1
                                  try clear hcz82_2
                                  try clear hcz8_0
                                  try clear hcz8_1
                                  try clear hcz8_2
                                  try clear hfz11_0
                                  try clear hfz11_1
                                  try clear hfz11_2
                                  try clear hfz12_0
                                  try clear hfz12_1
                                  try clear hfz12_2
                                  try clear hfz14_0
                                  try clear hfz14_1
                                  try clear hfz14_2
                                  try clear hfz20_0
                                  try clear hfz20_1
                                  try clear hfz20_2
                                  try clear hfz21_0
                                  try clear hfz21_1
                                  try clear hfz21_2
                                  try clear hfz24_0
                                  try clear hfz24_1
                                  try clear hfz24_2
                                  try clear hfz40_0
                                  try clear hfz40_1
                                  try clear hfz41_0
                                  try clear hfz41_1
                                  try clear hfz41_2
                                  try clear hfz44_0
                                  try clear hfz44_1
                                  try clear hfz45_0
                                  try clear hfz45_1
                                  try clear hfz45_2
                                  try clear hfz49_0
                                  try clear hfz49_1
                                  try clear hfz50_0
                                  try clear hfz50_1
                                  try clear hfz50_2
                                  try clear hfz53_0
                                  try clear hfz53_1
                                  try clear hfz54_0
                                  try clear hfz54_1
                                  try clear hfz54_2
                                  try clear hfz59_0
                                  try clear hfz59_1
                                  try clear hfz60_0
                                  try clear hfz60_1
                                  try clear hfz60_2
                                  try clear hfz63_0
                                  try clear hfz63_1
                                  try clear hfz64_0
                                  try clear hfz64_1
                                  try clear hfz64_2
                                  try clear hfz68_0
                                  try clear hfz68_1
                                  try clear hfz69_0
                                  try clear hfz69_1
                                  try clear hfz69_2
                                  try clear hfz72_0
                                  try clear hfz72_1
                                  try clear hfz73_0
                                  try clear hfz73_1
                                  try clear hfz73_2
                                  try clear hfz76_0
                                  try clear hfz76_1
                                  try clear hfz76_2
                                  try clear hfz77_0
                                  try clear hfz77_1
                                  try clear hfz77_2
                                  try clear hfz81_0
                                  try clear hfz81_1
                                  try clear hfz81_2
                                  try clear hfz82_0
                                  try clear hfz82_1
                                  try clear hfz82_2
                                  try clear hfz8_0
                                  try clear hfz8_1
                                  try clear hfz8_2
                                  try clear hx117_0
                                  try clear hx117_1
                                  try clear hx117_2
                                  try clear hx126_0
                                  try clear hx126_1
                                  try clear p1
                                  try clear p11
                                  try clear p117
                                  try clear p12
                                  try clear p126
                                  try clear p2
                                  try clear p6
                                  try clear p64
                                  try clear q1
                                  try clear q11
                                  try clear q117
                                  try clear q12
                                  try clear q126
                                  try clear q2
                                  try clear q29
                                  obtain ⟨kq, x111_78, rfl, HA, HJ78, BK118, HB⟩ := hcut
                                  cases kq with
                                  | zero => exact absurd HA.out (by simp [stopcockref22_wrong.j5])
                                  | succ kj78 =>
                                    have H := HA.out
                                    clear HA
                                    simp only [stopcockref22_wrong.j5] at H
                                    by_cases c83 : x111_78 = true
                                    · subst c83
                                      have H1 : (some 220) = some r := by rw [if_pos rfl] at H; exact H
                                      clear H
                                      have H := H1
                                      clear H1
                                      obtain rfl := Option.some.inj H
                                      go_wp2
                                      go_ret
                                      exact ⟨by first | rfl | (simp [errW_none, errW_some] <;> rfl) | (simp [*, errW_none, errW_some] <;> rfl), by repeat (first | (with_reducible first | exact HB.out | apply below_alloc | apply pw_below_drewN | apply below_drew1 | refine below_set ?_ GE118.out) | exact HB.out)⟩
                                    · replace c83 := Bool.eq_false_iff.mpr c83
                                      subst c83
                                      have H1 : (if ((rd_T28 l1 a2).f0) = 1 then (stopcockref22_wrong.j6 kj78 x9_3 (decide (x11_3 ≥ 8)) ((rd_T28 l1 a2).f0) ((rd_T28 l1 a2).f1) ((rd_T28 l1 a2).f2)) else (stopcockref22_wrong.j6 kj78 x9_3 false ((rd_T28 l1 a2).f0) ((rd_T28 l1 a2).f1) ((rd_T28 l1 a2).f2))) = some r := by rw [if_neg (show ¬ (false = true) by decide)] at H; exact H
                                      clear H
                                      have H := H1
                                      clear H1
                                      have HC84 := Aside0.mk H
                                      clear H
                                      go_upto_region 27 with (fail)
                                      go_cut [118] (fun v118 wc => ∃ (kq : Nat) (x118_83 : Bool), v118 = .bool x118_83 ∧ Aside0 (stopcockref22_wrong.j6 kq x9_3 x118_83 ((rd_T28 l1 a2).f0) ((rd_T28 l1 a2).f1) ((rd_T28 l1 a2).f2) = some r) ∧ Aside0 (kq ≤ kj78) ∧ Aside0 (wc.heap[gb118]? = some (.cells #[.int .i64 ((rd_T28 l1 a2).f0), .int .i64 ((rd_T28 l1 a2).f1), .int .i64 ((rd_T28 l1 a2).f2)] 28 (0, 0))) ∧ Aside0 (Below w.heap.size w wc))
                                      case first =>
                                        have H := HC84.out
                                        clear HC84
                                        by_cases c85 : ((rd_T28 l1 a2).f0) = 1
                                        · rw [if_pos c85] at H
                                          have c85b0 : (((rd_T28 l1 a2).f0) == 1) = true := beq_iff_eq.mpr c85
                                          have c85b1 : (((rd_T28 l1 a2).f0) != 1) = false := bne_eq_false_iff_eq.mpr c85
                                          clear c85
                                          (first | rw [c85b0] | (simp only [i64_w, i32_w]; rw [c85b0]) | skip)
                                          have H' := Aside0.mk H
                                          clear H
                                          have hcz86_0 : wc.cell? ⟨gb118, 0, none⟩ = some (.int .i64 ((rd_T28 l1 a2).f0)) := (blk_cell BK118.out 0).trans rfl
                                          have hcz86_1 : wc.cell? ⟨gb118, 1, none⟩ = some (.int .i64 ((rd_T28 l1 a2).f1)) := (blk_cell BK118.out 1).trans rfl
                                          have hcz86_2 : wc.cell? ⟨gb118, 2, none⟩ = some (.int .i64 ((rd_T28 l1 a2).f2)) := (blk_cell BK118.out 2).trans rfl
                                          have hfz86_0 := blk_frozen BK118.out 0
                                          have hfz86_1 := blk_frozen BK118.out 1
                                          have hfz86_2 := blk_frozen BK118.out 2
                                          go_wp2
                                          go_meet
                                          case rel => exact ⟨_, (decide (x11_3 ≥ 8)), (by first | rfl | (simp; done) | (simp [*]; done)), H', ⟨by have := HJ5.out; have := HJ12.out; have := HK3.out; have := HJ73.out; have := HJ78.out; first | omega | exact Nat.le_refl _⟩, ⟨by (with_reducible repeat (first | refine blk_drewN ?_ _ | refine blk_drew ?_ | refine blk_alloc ?_ _)); exact BK118.out⟩, ⟨by repeat (first | (with_reducible first | exact HB.out | apply below_alloc | apply pw_below_drewN | apply below_drew1 | refine below_set ?_ GE118.out) | exact HB.out)⟩⟩
                                        · rw [if_neg c85] at H
                                          have c85b0 : (((rd_T28 l1 a2).f0) == 1) = false := beq_eq_false_iff_ne.mpr c85
                                          have c85b1 : (((rd_T28 l1 a2).f0) != 1) = true := bne_iff_ne.mpr c85
                                          (first | rw [c85b0] | (simp only [i64_w, i32_w]; rw [c85b0]) | skip)
                                          have H' := Aside0.mk H
                                          clear H
                                          have hcz87_0 : wc.cell? ⟨gb118, 0, none⟩ = some (.int .i64 ((rd_T28 l1 a2).f0)) := (blk_cell BK118.out 0).trans rfl
                                          have hcz87_1 : wc.cell? ⟨gb118, 1, none⟩ = some (.int .i64 ((rd_T28 l1 a2).f1)) := (blk_cell BK118.out 1).trans rfl
                                          have hcz87_2 : wc.cell? ⟨gb118, 2, none⟩ = some (.int .i64 ((rd_T28 l1 a2).f2)) := (blk_cell BK118.out 2).trans rfl
                                          have hfz87_0 := blk_frozen BK118.out 0
                                          have hfz87_1 := blk_frozen BK118.out 1
                                          have hfz87_2 := blk_frozen BK118.out 2
                                          go_wp2
                                          go_meet
                                          case rel => exact ⟨_, (false), (by first | rfl | (simp; done) | (simp [*]; done)), H', ⟨by have := HJ5.out; have := HJ12.out; have := HK3.out; have := HJ73.out; have := HJ78.out; first | omega | exact Nat.le_refl _⟩, ⟨by (with_reducible repeat (first | refine blk_drewN ?_ _ | refine blk_drew ?_ | refine blk_alloc ?_ _)); exact BK118.out⟩, ⟨by repeat (first | (with_reducible first | exact HB.out | apply below_alloc | apply pw_below_drewN | apply below_drew1 | refine below_set ?_ GE118.out) | exact HB.out)⟩⟩
                                      case rest =>
                                        clear HC84
                                        try clear c1
                                        try clear p1
                                        try clear q1
                                        try clear hx1
                                        try clear c2
                                        try clear p2
                                        try clear q2
                                        try clear c3
                                        try clear c4
                                        try clear c4b0
                                        try clear c5
                                        try clear c5b0
                                        try clear c6
                                        try clear p6
                                        try clear c7
                                        try clear c8
                                        try clear c9
                                        try clear c9b0
                                        try clear c10
                                        try clear c10b0
                                        try clear p11
                                        try clear q11
                                        try clear hx11
                                        try clear p12
                                        try clear q12
                                        try clear hx12
                                        try clear c16
                                        try clear c16b0
                                        try clear c16b1
                                        try clear c17
                                        try clear c18
                                        try clear c19
                                        try clear c19b0
                                        try clear c22
                                        try clear c22b0
                                        try clear c22b1
                                        try clear c23
                                        try clear c25
                                        try clear c26
                                        try clear c26b0
                                        try clear c26b1
                                        try clear c27
                                        try clear c27b0
                                        try clear c27b1
                                        try clear q29
                                        try clear c32
                                        try clear c32b0
                                        try clear c33
                                        try clear c33b0
                                        try clear c34
                                        try clear c34b0
                                        try clear c35
                                        try clear c36
                                        try clear c37
                                        try clear c37b0
                                        try clear c37b1
                                        try clear c39
                                        try clear c43
                                        try clear c46
                                        try clear c46b0
                                        try clear c46b1
                                        try clear c48
                                        try clear c52
                                        try clear c55
                                        try clear c55b0
                                        try clear c55b1
                                        try clear c56
                                        try clear c58
                                        try clear c62
                                        try clear p64
                                        try clear c65
                                        try clear c67
                                        try clear c71
                                        try clear c75
                                        try clear c75b0
                                        try clear c75b1
                                        try clear c78
                                        try clear c80
                                        try clear c80b0
                                        try clear c80b1
                                        try clear c83
                                        try clear c85
                                        try clear c85b0
                                        try clear c85b1
                                        try clear hcz11_0
                                        try clear hcz11_1
                                        try clear hcz11_2
                                        try clear hcz12_0
                                        try clear hcz12_1
                                        try clear hcz12_2
                                        try clear hcz14_0
                                        try clear hcz14_1
                                        try clear hcz14_2
                                        try clear hcz20_0
                                        try clear hcz20_1
                                        try clear hcz20_2
                                        try clear hcz21_0
                                        try clear hcz21_1
                                        try clear hcz21_2
                                        try clear hcz24_0
                                        try clear hcz24_1
                                        try clear hcz24_2
                                        try clear hcz40_0
                                        try clear hcz40_1
                                        try clear hcz41_0
                                        try clear hcz41_1
                                        try clear hcz41_2
                                        try clear hcz44_0
                                        try clear hcz44_1
                                        try clear hcz45_0
                                        try clear hcz45_1
                                        try clear hcz45_2
                                        try clear hcz49_0
                                        try clear hcz49_1
                                        try clear hcz50_0
                                        try clear hcz50_1
                                        try clear hcz50_2
                                        try clear hcz53_0
                                        try clear hcz53_1
                                        try clear hcz54_0
                                        try clear hcz54_1
                                        try clear hcz54_2
                                        try clear hcz59_0
                                        try clear hcz59_1
                                        try clear hcz60_0
                                        try clear hcz60_1
                                        try clear hcz60_2
                                        try clear hcz63_0
                                        try clear hcz63_1
                                        try clear hcz64_0
                                        try clear hcz64_1
                                        try clear hcz64_2
                                        try clear hcz68_0
                                        try clear hcz68_1
                                        try clear hcz69_0
                                        try clear hcz69_1
                                        try clear hcz69_2
                                        try clear hcz72_0
                                        try clear hcz72_1
                                        try clear hcz73_0
                                        try clear hcz73_1
                                        try clear hcz73_2
                                        try clear hcz76_0
                                        try clear hcz76_1
                                        try clear hcz76_2
                                        try clear hcz77_0
                                        try clear hcz77_1
                                        try clear hcz77_2
                                        try clear hcz81_0
                                        try clear hcz81_1
                                        try clear hcz81_2
                                        try clear hcz82_0
                                        try clear hcz82_1
                                        try clear hcz82_2
                                        try clear hcz86_0
                                        try clear hcz86_1
                                        try clear hcz86_2
                                        try clear hcz87_0
                                        try clear hcz87_1
                                        try clear hcz87_2
                                        try clear hcz8_0
                                        try clear hcz8_1
                                        try clear hcz8_2
                                        try clear hfz11_0
                                        try clear hfz11_1
                                        try clear hfz11_2
                                        try clear hfz12_0
                                        try clear hfz12_1
                                        try clear hfz12_2
                                        try clear hfz14_0
                                        try clear hfz14_1
                                        try clear hfz14_2
                                        try clear hfz20_0
                                        try clear hfz20_1
                                        try clear hfz20_2
                                        try clear hfz21_0
                                        try clear hfz21_1
                                        try clear hfz21_2
                                        try clear hfz24_0
                                        try clear hfz24_1
                                        try clear hfz24_2
                                        try clear hfz40_0
                                        try clear hfz40_1
                                        try clear hfz41_0
                                        try clear hfz41_1
                                        try clear hfz41_2
                                        try clear hfz44_0
                                        try clear hfz44_1
                                        try clear hfz45_0
                                        try clear hfz45_1
                                        try clear hfz45_2
                                        try clear hfz49_0
                                        try clear hfz49_1
                                        try clear hfz50_0
                                        try clear hfz50_1
                                        try clear hfz50_2
                                        try clear hfz53_0
                                        try clear hfz53_1
                                        try clear hfz54_0
                                        try clear hfz54_1
                                        try clear hfz54_2
                                        try clear hfz59_0
                                        try clear hfz59_1
                                        try clear hfz60_0
                                        try clear hfz60_1
                                        try clear hfz60_2
                                        try clear hfz63_0
                                        try clear hfz63_1
                                        try clear hfz64_0
                                        try clear hfz64_1
                                        try clear hfz64_2
                                        try clear hfz68_0
                                        try clear hfz68_1
                                        try clear hfz69_0
                                        try clear hfz69_1
                                        try clear hfz69_2
                                        try clear hfz72_0
                                        try clear hfz72_1
                                        try clear hfz73_0
                                        try clear hfz73_1
                                        try clear hfz73_2
                                        try clear hfz76_0
                                        try clear hfz76_1
                                        try clear hfz76_2
                                        try clear hfz77_0
                                        try clear hfz77_1
                                        try clear hfz77_2
                                        try clear hfz81_0
                                        try clear hfz81_1
                                        try clear hfz81_2
                                        try clear hfz82_0
                                        try clear hfz82_1
                                        try clear hfz82_2
                                        try clear hfz86_0
                                        try clear hfz86_1
                                        try clear hfz86_2
                                        try clear hfz87_0
                                        try clear hfz87_1
                                        try clear hfz87_2
                                        try clear hfz8_0
                                        try clear hfz8_1
                                        try clear hfz8_2
                                        try clear hx117_0
                                        try clear hx117_1
                                        try clear hx117_2
                                        try clear hx126_0
                                        try clear hx126_1
                                        try clear p1
                                        try clear p11
                                        try clear p117
                                        try clear p12
                                        try clear p126
                                        try clear p2
                                        try clear p6
                                        try clear p64
                                        try clear q1
                                        try clear q11
                                        try clear q117
                                        try clear q12
                                        try clear q126
                                        try clear q2
                                        try clear q29
                                        obtain ⟨kq, x118_83, rfl, HA, HJ83, BK118, HB⟩ := hcut
                                        cases kq with
                                        | zero => exact absurd HA.out (by simp [stopcockref22_wrong.j6])
                                        | succ kj83 =>
                                          have H := HA.out
                                          clear HA
                                          simp only [stopcockref22_wrong.j6] at H
                                          by_cases c88 : x118_83 = true
                                          · subst c88
                                            have H1 : (some 6) = some r := by rw [if_pos rfl] at H; exact H
                                            clear H
                                            have H := H1
                                            clear H1
                                            obtain rfl := Option.some.inj H
                                            go_wp2
                                            go_ret
                                            exact ⟨by first | rfl | (simp [errW_none, errW_some] <;> rfl) | (simp [*, errW_none, errW_some] <;> rfl), by repeat (first | (with_reducible first | exact HB.out | apply below_alloc | apply pw_below_drewN | apply below_drew1 | refine below_set ?_ GE118.out) | exact HB.out)⟩
                                          · replace c88 := Bool.eq_false_iff.mpr c88
                                            subst c88
                                            have H1 : (if ((rd_T28 l1 a2).f0) = 2 then (if x9_3 = true then (some 0) else (some 4)) else (some 0)) = some r := by rw [if_neg (show ¬ (false = true) by decide)] at H; exact H
                                            clear H
                                            have H := H1
                                            clear H1
                                            by_cases c89 : ((rd_T28 l1 a2).f0) = 2
                                            · rw [if_pos c89] at H
                                              have c89b0 : (((rd_T28 l1 a2).f0) == 2) = true := beq_iff_eq.mpr c89
                                              have c89b1 : (((rd_T28 l1 a2).f0) != 2) = false := bne_eq_false_iff_eq.mpr c89
                                              clear c89
                                              by_cases c90 : x9_3 = true
                                              · subst c90
                                                have H1 : (some 0) = some r := by rw [if_pos rfl] at H; exact H
                                                clear H
                                                have H := H1
                                                clear H1
                                                obtain rfl := Option.some.inj H
                                                have hcz91_0 : wc.cell? ⟨gb118, 0, none⟩ = some (.int .i64 ((rd_T28 l1 a2).f0)) := (blk_cell BK118.out 0).trans rfl
                                                have hcz91_1 : wc.cell? ⟨gb118, 1, none⟩ = some (.int .i64 ((rd_T28 l1 a2).f1)) := (blk_cell BK118.out 1).trans rfl
                                                have hcz91_2 : wc.cell? ⟨gb118, 2, none⟩ = some (.int .i64 ((rd_T28 l1 a2).f2)) := (blk_cell BK118.out 2).trans rfl
                                                have hfz91_0 := blk_frozen BK118.out 0
                                                have hfz91_1 := blk_frozen BK118.out 1
                                                have hfz91_2 := blk_frozen BK118.out 2
                                                go_wp2
                                                go_ret
                                                exact ⟨by first | rfl | (simp [errW_none, errW_some] <;> rfl) | (simp [*, errW_none, errW_some] <;> rfl), by repeat (first | (with_reducible first | exact HB.out | apply below_alloc | apply pw_below_drewN | apply below_drew1 | refine below_set ?_ GE118.out) | exact HB.out)⟩
                                              · replace c90 := Bool.eq_false_iff.mpr c90
                                                subst c90
                                                have H1 : (some 4) = some r := by rw [if_neg (show ¬ (false = true) by decide)] at H; exact H
                                                clear H
                                                have H := H1
                                                clear H1
                                                obtain rfl := Option.some.inj H
                                                have hcz92_0 : wc.cell? ⟨gb118, 0, none⟩ = some (.int .i64 ((rd_T28 l1 a2).f0)) := (blk_cell BK118.out 0).trans rfl
                                                have hcz92_1 : wc.cell? ⟨gb118, 1, none⟩ = some (.int .i64 ((rd_T28 l1 a2).f1)) := (blk_cell BK118.out 1).trans rfl
                                                have hcz92_2 : wc.cell? ⟨gb118, 2, none⟩ = some (.int .i64 ((rd_T28 l1 a2).f2)) := (blk_cell BK118.out 2).trans rfl
                                                have hfz92_0 := blk_frozen BK118.out 0
                                                have hfz92_1 := blk_frozen BK118.out 1
                                                have hfz92_2 := blk_frozen BK118.out 2
                                                go_wp2
                                                go_ret
                                                exact ⟨by first | rfl | (simp [errW_none, errW_some] <;> rfl) | (simp [*, errW_none, errW_some] <;> rfl), by repeat (first | (with_reducible first | exact HB.out | apply below_alloc | apply pw_below_drewN | apply below_drew1 | refine below_set ?_ GE118.out) | exact HB.out)⟩
                                            · rw [if_neg c89] at H
                                              have c89b0 : (((rd_T28 l1 a2).f0) == 2) = false := beq_eq_false_iff_ne.mpr c89
                                              have c89b1 : (((rd_T28 l1 a2).f0) != 2) = true := bne_iff_ne.mpr c89
                                              obtain rfl := Option.some.inj H
                                              have hcz93_0 : wc.cell? ⟨gb118, 0, none⟩ = some (.int .i64 ((rd_T28 l1 a2).f0)) := (blk_cell BK118.out 0).trans rfl
                                              have hcz93_1 : wc.cell? ⟨gb118, 1, none⟩ = some (.int .i64 ((rd_T28 l1 a2).f1)) := (blk_cell BK118.out 1).trans rfl
                                              have hcz93_2 : wc.cell? ⟨gb118, 2, none⟩ = some (.int .i64 ((rd_T28 l1 a2).f2)) := (blk_cell BK118.out 2).trans rfl
                                              have hfz93_0 := blk_frozen BK118.out 0
                                              have hfz93_1 := blk_frozen BK118.out 1
                                              have hfz93_2 := blk_frozen BK118.out 2
                                              go_wp2
                                              go_ret
                                              exact ⟨by first | rfl | (simp [errW_none, errW_some] <;> rfl) | (simp [*, errW_none, errW_some] <;> rfl), by repeat (first | (with_reducible first | exact HB.out | apply below_alloc | apply pw_below_drewN | apply below_drew1 | refine below_set ?_ GE118.out) | exact HB.out)⟩
                  · rw [if_neg c27] at H
                    exact absurd H (by simp)
                · rw [if_neg c26] at H
                  exact absurd H (by simp)
              · replace c25 := Bool.eq_false_iff.mpr c25
                subst c25
                have H1 : (some 1) = some r := by rw [if_neg (show ¬ (false = true) by decide)] at H; exact H
                clear H
                have H := H1
                clear H1
                obtain rfl := Option.some.inj H
                go_wp2
                go_ret
                exact ⟨by first | rfl | (simp [errW_none, errW_some] <;> rfl) | (simp [*, errW_none, errW_some] <;> rfl), by repeat (first | (with_reducible first | exact HB.out | apply below_alloc | apply pw_below_drewN | apply below_drew1 | refine below_set ?_ GE118.out) | exact HB.out)⟩
    · rw [if_neg c5] at H
      exact absurd H (by simp)
  · rw [if_neg c4] at H
    exact absurd H (by simp)

end Go.Proofs.Ytojgiaemgpnfdaa.PJudgeJudges
