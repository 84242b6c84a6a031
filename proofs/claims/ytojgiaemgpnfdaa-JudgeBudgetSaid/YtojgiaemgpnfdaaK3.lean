/- The closure of judge.Replay, whole. -/
import Derived.Test.YtojgiaemgpnfdaaK2
import Derived.Deep.RegionHeld3
set_option linter.unusedVariables false
set_option linter.unusedSimpArgs false
namespace Go.Proofs.Ytojgiaemgpnfdaa.K
open Go.Proofs.YtojgiaemgpnfdaaW.PrintLast Go.RowKit Go.Maps Go.Proofs.YtojgiaemgpnfdaaM Go.Proofs.Ytojgiaemgpnfdaa.J

def cmpC (x y : Int × Int) : Int := orI (cmpI x.1 y.1) (cmpI x.2 y.2)
set_option maxHeartbeats 4000000 in
set_option maxRecDepth 100000 in
theorem closure_calls (x y : Int × Int) (W : World) : Calls Try.prog 33 #[.agg #[.int .i64 x.1, .int .i64 x.2], .agg #[.int .i64 y.1, .int .i64 y.2]] W fun e w' => e = .returned (.int .i64 (cmpC x y)) ∧
    ∃ q o3, w' = ((((W.alloc (.cells #[.int .i64 x.1, .int .i64 x.2] 55)).alloc (.cells #[.int .i64 y.1, .int .i64 y.2] 55)).drewN q).alloc o3) := by
  go_enter Try.func33, Try.ntmps33
  go_wp2
  generalize hW1 : ((W.alloc (.cells #[.int .i64 x.1, .int .i64 x.2] 55)).alloc (.cells #[.int .i64 y.1, .int .i64 y.2] 55)) = W1
  have c0 : W1.cell? ⟨W.heap.size, 0, none⟩ = some (.int .i64 x.1) := by rw [← hW1]; simp [go_sem]
  have c1 : W1.cell? ⟨W.heap.size, 1, none⟩ = some (.int .i64 x.2) := by rw [← hW1]; simp [go_sem]
  have c2 : W1.cell? ⟨W.heap.size + 1, 0, none⟩ = some (.int .i64 y.1) := by rw [← hW1]; simp [go_sem]
  have c3 : W1.cell? ⟨W.heap.size + 1, 1, none⟩ = some (.int .i64 y.2) := by rw [← hW1]; simp [go_sem]
  have HW := Lib.hid hW1
  clear hW1
  go_region_held3 (fun w' => w'.cell? ⟨W.heap.size, 0, none⟩ = some (.int .i64 x.1) ∧ w'.cell? ⟨W.heap.size, 1, none⟩ = some (.int .i64 x.2) ∧ w'.cell? ⟨W.heap.size + 1, 0, none⟩ = some (.int .i64 y.1) ∧ w'.cell? ⟨W.heap.size + 1, 1, none⟩ = some (.int .i64 y.2)) (go_keep)
    (first
      | (go_at_call 35; refine (compare_calls _ _ _).mono ?_; rintro e w' ⟨rfl, rfl⟩)
      | (go_at_call 34; refine (or_calls (cmpI x.1 y.1) (cmpI x.2 y.2) W1.heap.size (W1.drew.alloc (.cells #[.int .i64 (cmpI x.1 y.1), .int .i64 (cmpI x.2 y.2)] 3)) (by simp [go_sem]) (by simp [go_sem])).mono ?_; rintro e w' ⟨rfl, rfl⟩))
  all_goals (go_wp2; go_ret; exact ⟨rfl, 1, _, by rw [HW.out]; rfl⟩)
end Go.Proofs.Ytojgiaemgpnfdaa.K
