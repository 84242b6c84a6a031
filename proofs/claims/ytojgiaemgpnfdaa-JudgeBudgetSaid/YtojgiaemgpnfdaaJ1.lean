/- The walk of judge.take. -/
import Derived.Test.YtojgiaemgpnfdaaJ0
import Derived.Test.YtojgiaemgpnfdaaJP
import Derived.Deep.QuietTactic
import Derived.BigQuiet
import Derived.StillTailTactics
import Derived.Deep.DeepCutAuto
import Derived.Lib.Hide
set_option linter.unusedVariables false
set_option linter.unusedSimpArgs false
namespace Go.Proofs.Ytojgiaemgpnfdaa.J
open Go.RowKit Go.Maps Go.Proofs.YtojgiaemgpnfdaaM Go.Proofs.Ytojgiaemgpnfdaa.JP

set_option maxHeartbeats 1600000 in
set_option maxRecDepth 100000 in
theorem take_bad (limit k n t : Int) (g : Nat) (w : World) (h : Bad limit k n t) :
    Calls Try.prog 37 #[.pointer (some ⟨g, 0, none⟩), .int .i64 limit, .agg #[.int .i64 k, .int .i64 n, .int .i64 t]] w fun e w' => e = .returned (.int .i64 1) ∧ Below w.heap.size w w' := by
  have fin : ∀ o1 o2 o3 : Obj, Below w.heap.size w (((w.alloc o1).alloc o2).alloc o3) := fun o1 o2 o3 => (((Below.refl _ _).alloc (Nat.le_refl _) _).alloc (by simp) _).alloc (by simp; omega) _
  have go : ∀ (h0 : (k == 3) = false ∨ (k == 3) = true), Calls Try.prog 37 #[.pointer (some ⟨g, 0, none⟩), .int .i64 limit, .agg #[.int .i64 k, .int .i64 n, .int .i64 t]] w fun e w' => e = .returned (.int .i64 1) ∧ Below w.heap.size w w' := by
    intro h0
    by_cases h1 : k < 1
    · have h0 : (k == 3) = false := beq_eq_false_iff_ne.2 (by omega)
      clear h
      go_enter Try.func37, Try.ntmps37
      go_wp2
      go_ret
      exact ⟨rfl, fin _ _ _⟩
    by_cases h2 : 3 < k
    · have h0 : (k == 3) = false := beq_eq_false_iff_ne.2 (by omega)
      clear h
      go_enter Try.func37, Try.ntmps37
      go_wp2
      go_ret
      exact ⟨rfl, fin _ _ _⟩
    by_cases h3 : limit < 1
    · clear h
      rcases h0 with h0 | h0
      all_goals
        go_enter Try.func37, Try.ntmps37
        go_wp2
        go_ret
        exact ⟨rfl, fin _ _ _⟩
    by_cases h4 : n < 1
    · clear h
      rcases h0 with h0 | h0
      all_goals
        go_enter Try.func37, Try.ntmps37
        go_wp2
        go_ret
        exact ⟨rfl, fin _ _ _⟩
    by_cases h5 : 7 < n
    · clear h
      rcases h0 with h0 | h0
      all_goals
        go_enter Try.func37, Try.ntmps37
        go_wp2
        go_ret
        exact ⟨rfl, fin _ _ _⟩
    rcases h0 with h0 | h0
    · have hk : k ≠ 3 := beq_eq_false_iff_ne.1 h0
      unfold Bad lowOf highOf at h
      rw [if_neg hk, if_neg hk] at h
      clear hk
      by_cases h6 : t < 1
      · clear h
        go_enter Try.func37, Try.ntmps37
        go_wp2
        go_ret
        exact ⟨rfl, fin _ _ _⟩
      · have h7 : limit < t := by omega
        clear h
        go_enter Try.func37, Try.ntmps37
        go_wp2
        go_ret
        exact ⟨rfl, fin _ _ _⟩
    · have hk : k = 3 := beq_iff_eq.1 h0
      unfold Bad lowOf highOf at h
      rw [if_pos hk, if_pos hk] at h
      clear hk
      by_cases h6 : t < 0
      · clear h
        go_enter Try.func37, Try.ntmps37
        go_wp2
        go_ret
        exact ⟨rfl, fin _ _ _⟩
      · have h7 : 0 < t := by omega
        clear h
        go_enter Try.func37, Try.ntmps37
        go_wp2
        go_ret
        exact ⟨rfl, fin _ _ _⟩
  exact go (by cases k == 3 <;> simp)
end Go.Proofs.Ytojgiaemgpnfdaa.J
