/- slices.SortFunc over connections, by the shelf's contract, with the closure of judge.Replay. -/
import Derived.Shelf.SlSortCmp.NoneTotal
import Derived.Test.YtojgiaemgpnfdaaK3
import Derived.Test.YtojgiaemgpnfdaaK1
set_option linter.unusedVariables false
set_option linter.unusedSimpArgs false
namespace Go.Proofs.Ytojgiaemgpnfdaa.K
open Go.Shelf Go.RowKit Go.Lib Go.Sort Go.Maps Go.Proofs.YtojgiaemgpnfdaaM Go.Proofs.Ytojgiaemgpnfdaa.J
def sort41_ren : Go.Shelf.Ren := ⟨fun | 6 => 41 | 15 => 48 | 14 => 47 | 28 => 57 | 29 => 58 | 20 => 49 | 21 => 50 | 22 => 51 | 23 => 52 | 24 => 53 | 25 => 54 | 26 => 55 | 27 => 56 | 46 => 59 | 47 => 60 | 48 => 61 | 49 => 62 | 50 => 63 | 57 => 64 | n => n, fun | 22 => 51 | 24 => 55 | 25 => 79 | 3 => 3 | 39 => 93 | 0 => 0 | 53 => 103 | 55 => 105 | 4 => 4 | 46 => 96 | 45 => 95 | 50 => 100 | 5 => 5 | 9 => 9 | 66 => 106 | 70 => 110 | 76 => 112 | 77 => 113 | n => n, fun | n => n⟩
theorem sort41 : SlLaysF0.n6 Try.prog sort41_ren := {
  mixed := by kernel_rfl
  f6 := ⟨Try.f41.name, by decide, Try.func41.trans (congrArg some (by kernel_rfl))⟩
  f14 := ⟨Try.f47.name, by decide, Try.func47.trans (congrArg some (by kernel_rfl))⟩
  f15 := Try.func48.trans (congrArg some (by kernel_rfl))
  f20 := ⟨Try.f49.name, by decide, Try.func49.trans (congrArg some (by kernel_rfl))⟩
  f21 := ⟨Try.f50.name, by decide, Try.func50.trans (congrArg some (by kernel_rfl))⟩
  f22 := ⟨Try.f51.name, by decide, Try.func51.trans (congrArg some (by kernel_rfl))⟩
  f23 := ⟨Try.f52.name, by decide, Try.func52.trans (congrArg some (by kernel_rfl))⟩
  f24 := ⟨Try.f53.name, by decide, Try.func53.trans (congrArg some (by kernel_rfl))⟩
  f25 := ⟨Try.f54.name, by decide, Try.func54.trans (congrArg some (by kernel_rfl))⟩
  f26 := ⟨Try.f55.name, by decide, Try.func55.trans (congrArg some (by kernel_rfl))⟩
  f27 := ⟨Try.f56.name, by decide, Try.func56.trans (congrArg some (by kernel_rfl))⟩
  f28 := Try.func57.trans (congrArg some (by kernel_rfl))
  f29 := Try.func58.trans (congrArg some (by kernel_rfl))
  f46 := ⟨Try.f59.name, by decide, Try.func59.trans (congrArg some (by kernel_rfl))⟩
  f47 := Try.func60.trans (congrArg some (by kernel_rfl))
  f48 := Try.func61.trans (congrArg some (by kernel_rfl))
  f49 := ⟨Try.f62.name, by decide, Try.func62.trans (congrArg some (by kernel_rfl))⟩
  f50 := ⟨Try.f63.name, by decide, Try.func63.trans (congrArg some (by kernel_rfl))⟩
  f57 := ⟨Try.f64.name, by decide, Try.func64.trans (congrArg some (by kernel_rfl))⟩
  t0 := Try.underlying0
  a0 := Try.isAgg0
  z0 := Try.sizeOf0
  v0 := Try.zeroValue0
  t3 := Try.underlying3
  a3 := Try.isAgg3
  z3 := Try.sizeOf3
  v3 := Try.zeroValue3
  t4 := Try.underlying4
  a4 := Try.isAgg4
  z4 := Try.sizeOf4
  v4 := Try.zeroValue4
  t5 := Try.underlying5
  a5 := Try.isAgg5
  z5 := Try.sizeOf5
  v5 := Try.zeroValue5
  t9 := Try.underlying9
  a9 := Try.isAgg9
  z9 := Try.sizeOf9
  v9 := Try.zeroValue9
  t22 := Try.underlying51
  a22 := Try.isAgg51
  z22 := Try.sizeOf51
  v22 := Try.zeroValue51
  t25 := Try.underlying79
  a25 := Try.isAgg79
  z25 := Try.sizeOf79
  v25 := Try.zeroValue79
  t39 := Try.underlying93
  a39 := Try.isAgg93
  z39 := Try.sizeOf93
  v39 := Try.zeroValue93
  t45 := Try.underlying95
  a45 := Try.isAgg95
  z45 := Try.sizeOf95
  v45 := Try.zeroValue95
  t46 := Try.underlying96
  a46 := Try.isAgg96
  z46 := Try.sizeOf96
  v46 := Try.zeroValue96
  t50 := Try.underlying100
  a50 := Try.isAgg100
  z50 := Try.sizeOf100
  v50 := Try.zeroValue100
  t53 := Try.underlying103
  a53 := Try.isAgg103
  z53 := Try.sizeOf103
  v53 := Try.zeroValue103
  t55 := Try.underlying105
  a55 := Try.isAgg105
  z55 := Try.sizeOf105
  v55 := Try.zeroValue105
  t66 := Try.underlying106
  a66 := Try.isAgg106
  z66 := Try.sizeOf106
  v66 := Try.zeroValue106
  t70 := Try.underlying110
  a70 := Try.isAgg110
  z70 := Try.sizeOf110
  v70 := Try.zeroValue110
  t76 := Try.underlying112
  a76 := Try.isAgg112
  z76 := Try.sizeOf112
  v76 := Try.zeroValue112
  t77 := Try.underlying113
  a77 := Try.isAgg113
  z77 := Try.sizeOf113
  v77 := Try.zeroValue113 }

def encC (x : Int × Int) : List Value := [.int .i64 x.1, .int .i64 x.2]
def ltC (x y : Int × Int) : Prop := x.1 < y.1 ∨ (x.1 = y.1 ∧ x.2 < y.2)
theorem ltOf_cmpC (x y : Int × Int) : ltOf cmpC x y = true ↔ ltC x y := by
  unfold ltOf cmpC orI cmpI ltC
  simp only [decide_eq_true_eq]
  split <;> split <;> (try split) <;> (try split) <;> omega
theorem ltOf_cmpC_false (x y : Int × Int) : ltOf cmpC x y = false ↔ ¬ ltC x y := by
  rw [← ltOf_cmpC]; simp
theorem swoC : SWO (ltOf cmpC) where
  irrefl x := by rw [ltOf_cmpC_false]; unfold ltC; omega
  trans x y z h1 h2 := by rw [ltOf_cmpC] at *; unfold ltC at *; omega
  ntrans x y z h1 h2 := by rw [ltOf_cmpC_false] at *; unfold ltC at *; omega
theorem world_grow (W : World) (a b : Obj) (q : Nat) (o3 : Obj) : ∃ os', (((W.alloc a).alloc b).drewN q).alloc o3 = grow (W.drewN q) os' := by
  refine ⟨#[a] ++ #[b] ++ #[o3], ?_⟩
  rw [← grow_grow, ← grow_grow, alloc_eq_grow, alloc_eq_grow, alloc_eq_grow]
  rfl
theorem cmpLaysC (blk off size : Nat) (w : World) : CmpLays Try.prog 33 #[] encC 2 cmpC blk off size w :=
  fun m os dk hs x y => (closure_calls x y _).mono fun e w' ⟨he, q, o3, hw⟩ => ⟨he, q, by
    obtain ⟨os', h⟩ := world_grow (sortWorldK encC 2 w blk off m dk os) (.cells #[.int .i64 x.1, .int .i64 x.2] 55) (.cells #[.int .i64 y.1, .int .i64 y.2] 55) q o3
    exact ⟨os', hw.trans h⟩⟩
def sortedC (ss : List (Int × Int)) : List (Int × Int) := ss.mergeSort fun x y => !(ltOf cmpC) y x
theorem sortC_calls (blk off cap : Nat) (ss : List (Int × Int)) (w : World) (hH : HoldsK encC 2 w blk off ss.toArray) (hblk : blk < w.heap.size) (hsz : ss.length ≤ 100000) :
    Calls Try.prog 41 #[.slice (some ⟨blk, off, none⟩) ss.length cap, .func (.func 33) #[] #[]] w fun e w' => e = .returned (.tuple #[]) ∧ ∃ n os, w' = sortWorldK encC 2 w blk off n (sortedC ss).toArray os := by
  have eg : ∀ args w, (callFunc 33 args).run Try.prog w = .ok (.enter 33 args) w := enters_of Try.func33 (by kernel_rfl) rfl
  have hcon := AnyQ.slices_SortFunc_total sort41 2 Try.isAgg55 Try.sizeOf55 encC (fun _ => rfl) (fun x v hv => by simp [encC] at hv; rcases hv with rfl | rfl <;> rfl) cmpC swoC 33 #[] blk off cap ss.toArray w eg (cmpLaysC blk off _ w) hH hblk (by simp; omega) (fun x y h1 h2 => by
    rw [ltOf_cmpC_false] at h1 h2
    unfold ltC at h1 h2
    exact Prod.ext (by omega) (by omega))
  exact hcon
theorem sortC_none (p : Option Addr) (cap : Nat) (fv : Value) (w : World) : Calls Try.prog 41 #[.slice p 0 cap, fv] w fun e w' => e = .returned (.tuple #[]) ∧ w' = w := AnyF.slices_SortFunc_none sort41 p cap fv w

theorem sortedC_perm (ss : List (Int × Int)) : (sortedC ss).Perm ss := List.mergeSort_perm _ _
theorem sortedC_lt (ss : List (Int × Int)) (hn : ss.Nodup) : (sortedC ss).Pairwise ltC := by
  have h1 : (sortedC ss).Pairwise fun x y => (!(ltOf cmpC) y x) = true := by
    apply List.pairwise_mergeSort
    · intro a b c h1 h2
      simp only [Bool.not_eq_true'] at *
      rw [ltOf_cmpC_false] at *
      unfold ltC at *; omega
    · intro a b
      rw [Bool.or_eq_true]
      simp only [Bool.not_eq_true']
      rw [ltOf_cmpC_false, ltOf_cmpC_false]
      unfold ltC; omega
  have h2 : (sortedC ss).Nodup := (sortedC_perm ss).nodup_iff.2 hn
  refine (List.Pairwise.and h1 h2).imp ?_
  rintro ⟨a, b⟩ ⟨c, d⟩ ⟨h, hne⟩
  simp only [Bool.not_eq_true'] at h
  rw [ltOf_cmpC_false] at h
  unfold ltC at *
  simp only at *
  have : ¬ (a = c ∧ b = d) := fun e => hne (by rw [e.1, e.2])
  omega
end Go.Proofs.Ytojgiaemgpnfdaa.K
