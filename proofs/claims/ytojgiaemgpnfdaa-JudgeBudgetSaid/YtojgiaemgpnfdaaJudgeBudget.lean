/- For every limit and every list of what was seen, JudgeBudget returns true and leaves its arguments as they were. No condition. -/
import Derived.Test.YtojgiaemgpnfdaaRows
import Derived.Test.YtojgiaemgpnfdaaK8
import Derived.Test.YtojgiaemgpnfdaaOpen
import Derived.WalkKit
import Derived.ProofKit
import Derived.OpenShut
import Derived.ChangeOld
import Derived.Below
import Derived.SizedLaws
set_option linter.unusedVariables false
namespace Go.Proofs.Ytojgiaemgpnfdaa.judgeBudget
open Go.ChangeShapes Go.WideShapes Go.ChangeAt Go.RowKit Go.Proofs.YtojgiaemgpnfdaaW.PrintWords Go.Proofs.Ytojgiaemgpnfdaa.PJudgeJudges
open Go.Proofs.YtojgiaemgpnfdaaO Go.Proofs.Ytojgiaemgpnfdaa.J Go.Proofs.Ytojgiaemgpnfdaa.K

theorem own : ownKnob Try.prog.godebug = none := by kernel_rfl
theorem opens28 : Opens Try.prog 28 k28 (fun _ => True) := by
  have h3 := opens_int (P := Try.prog) Try.underlying3
  have hc3 : Try.prog.cellsOf 3 = 1 := by kernel_rfl
  have h := opens_struct (P := Try.prog) (t := 28) (stop := 3) Try.underlying28 (by kernel_rfl) (opensL_cons (n := 1) h3 rfl hc3 (opensL_cons (n := 1) h3 rfl hc3 (opensL_one h3 rfl (by rw [hc3]))))
  intro H enc w base spare held fuel cs x hx
  obtain ⟨v, hv, _⟩ := opens_iso (f := fun x : S28 => (x.f0, x.f1, x.f2)) (g := fun v => ⟨v.1, v.2.1, v.2.2⟩) (fun _ => rfl) h H enc w base spare held fuel cs x hx
  exact ⟨v, hv, trivial⟩
theorem opens22 : Opens Try.prog 22 (Kd.slice 28 k28) (fun xs => (∀ x ∈ xs, True) ∧ xs.length ≤ maxLen) := opens_slice Try.underlying22 (by kernel_rfl) opens28

set_option maxRecDepth 100000 in
theorem lifted (os : Os) (started : os.Started) (H : Type) (enc : TypeId × Value → H) :
    ReturnsInHanded {} Try.checked os 6 .any (Rows.judgeBudgetSpec.pre6 enc Try.prog Try.f6 Rows.judgeBudgetRow.domain false) (Rows.judgeBudgetSpec.post enc Try.prog Try.f6 false true false false) := by
  refine returnsInHanded_of_change (C := Try.checked) own started (by kernel_rfl) Try.func6
    (ChangeSpec.witness6 (enc := enc) (C := Try.checked) false ⟨#[], #[.int .i64 0, .slice none 0 0], []⟩ 8 (by kernel_rfl) (by kernel_rfl) (by kernel_rfl) (by kernel_rfl)) ?_
  intro W base args ds gs before hval0 hW hcnd _
  have hval : ∀ (j : Nat) t v, Try.f6.params[j]? = some t → args[j]? = some v → Value.okWide Try.prog W .any base t v := hval0
  have hW' := hW
  obtain ⟨p, q, hA0, hV, rfl, hfz, hnd⟩ := hW
  have hA : DataW.TrodAll enc Try.prog W 0 (fun _ => true) true Try.f6.params.toList args.toList ds p := hA0
  rw [Try.params6] at hA hval
  obtain ⟨v0, vs0, d0, ds0, p0, q0, hargs, rfl, rfl, h0, r0⟩ := trodAll_cons hA
  obtain ⟨v1, vs1, d1, ds1, p1, q1, rfl, rfl, rfl, h1, r1⟩ := trodAll_cons r0
  obtain ⟨rfl, rfl, rfl⟩ := trodAll_nil r1
  obtain rfl : args = #[v0, v1] := by cases args; simp_all
  obtain ⟨rfl, rfl⟩ := trodVars_none hV
  obtain ⟨a0, rfl, rfl, rfl, w0⟩ := open_int Try.underlying3 (hval 0 3 v0 rfl rfl) h0
  obtain ⟨a1, len1, cap1, rfl⟩ := okWide_slice Try.underlying22 (hval 1 22 v1 rfl rfl)
  have k1 := h1
  have lt1 : ∀ x ∈ p1, x.block < W.heap.size := by obtain ⟨m, hm⟩ := k1; exact DataW.trod_lt m _ _ _ hm
  obtain ⟨l, ⟨A, c, hcs, hc1, hC⟩, _, hmax⟩ : ∃ l, (Kd.slice 28 k28).K W l [.slice a1 len1 cap1] ∧ (∀ x ∈ l, True) ∧ l.length ≤ maxLen := by
    obtain ⟨fuel, hf⟩ := h1
    exact opens22 H enc W 0 _ _ fuel _ _ hf
  obtain ⟨rfl, rfl, rfl⟩ : a1 = A ∧ len1 = l.length ∧ cap1 = c := by simpa using hcs
  clear hA0 hval0
  have hlim : I64 a0 := of_wf w0
  have hwalk : Calls Try.prog 6 #[.int .i64 a0, .slice a1 l.length cap1] W fun e w' => e = .returned (.bool true) ∧ Below W.heap.size W w' := by
    by_cases hl : 100 < l.length
    · exact law6_long a0 a1 cap1 l W hc1 (by unfold maxLen at hmax; omega) hl
    · exact law6_short a0 a1 cap1 l W hlim hC hc1 (by omega)
  refine hwalk.mono fun e W' ⟨he, bel⟩ => ?_
  subst he
  exact ⟨_, rfl, _, _, _, [], _, [], hW', trodAll_mk1 (shut_bool Try.underlying4 _), (trodAll_cons_mk (shut_int Try.underlying3 w0) (trodAll_cons_mk (Below.trod laidOut (by kernel_rfl) (of_decide_eq_true (by kernel_rfl)) k1 bel lt1) trodAll_mk0)), rfl, bel.frame _, fun h => by cases h⟩
theorem over : Rows.judgeBudgetRow.holds Try.pinned (OpenSpec.ofChange Rows.judgeBudgetSpec) :=
  OpenClaim.holds_of_wide 6 Try.f6 rfl rfl rfl rfl rfl rfl rfl ⟨rfl, rfl, rfl, rfl, rfl⟩ rfl rfl rfl rfl rfl (by kernel_rfl) Try.func6 (by kernel_rfl)
    (of_decide_eq_true (by kernel_rfl)) (by unfold Func.isWrapper; first | (rw [if_pos (by decide +kernel)]; kernel_rfl) | (rw [if_neg (by decide +kernel)]; exact ⟨rfl, rfl⟩))
    (fun os started H enc _ => lifted os started H enc)
theorem proved : Rows.JudgeBudgetSaid := over
#print axioms proved
end Go.Proofs.Ytojgiaemgpnfdaa.judgeBudget
namespace Go.Proofs.Ytojgiaemgpnfdaa
/-- The row, under a short name, for the claim. -/
theorem judgeBudget_holds : Rows.JudgeBudgetSaid := judgeBudget.proved
end Go.Proofs.Ytojgiaemgpnfdaa
