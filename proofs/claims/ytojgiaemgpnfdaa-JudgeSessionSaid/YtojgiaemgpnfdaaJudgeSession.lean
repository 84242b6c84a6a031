/- For all frames, ways and texts, JudgeSession returns true and leaves its arguments as they were. No condition. -/
import Derived.Test.YtojgiaemgpnfdaaRows
import Derived.Test.YtojgiaemgpnfdaaS9
import Derived.Test.YtojgiaemgpnfdaaOpen
import Derived.WalkKit
import Derived.ProofKit
import Derived.OpenShut
import Derived.ChangeOld
import Derived.Below
import Derived.SizedLaws
import Derived.Deep.Slices
set_option linter.unusedVariables false
namespace Go.Proofs.Ytojgiaemgpnfdaa.judgeSession
open Go.ChangeShapes Go.WideShapes Go.ChangeAt Go.RowKit Go.Proofs.YtojgiaemgpnfdaaW.PrintWords Go.Proofs.Ytojgiaemgpnfdaa.PJudgeSession
open Go.Proofs.YtojgiaemgpnfdaaO Go.Proofs.Ytojgiaemgpnfdaa.S

theorem own : ownKnob Try.prog.godebug = none := by kernel_rfl
theorem laidOut : laidOutB Try.prog = true := by kernel_rfl
theorem opens62 : Opens Try.prog 62 k62 (fun _ => True) := by
  have h5 := opens_int (P := Try.prog) Try.underlying5
  have hc5 : Try.prog.cellsOf 5 = 1 := by kernel_rfl
  have h9 := opens_string (P := Try.prog) Try.underlying9
  have hc9 : Try.prog.cellsOf 9 = 1 := by kernel_rfl
  have h := opens_struct (P := Try.prog) (t := 62) (stop := 2) Try.underlying62 (by kernel_rfl) (opensL_cons (n := 1) h5 rfl hc5 (opensL_one h9 rfl (by rw [hc9])))
  intro H enc w base spare held fuel cs x hx
  obtain ⟨v, hv, _⟩ := opens_iso (f := fun x : S62 => (x.f0, x.f1)) (g := fun v => ⟨v.1, v.2⟩) (fun _ => rfl) h H enc w base spare held fuel cs x hx
  exact ⟨v, hv, trivial⟩
theorem opens30 : Opens Try.prog 30 (Kd.slice 62 k62) (fun xs => (∀ x ∈ xs, True) ∧ xs.length ≤ maxLen) := opens_slice Try.underlying30 (by kernel_rfl) opens62
theorem opens31 : Opens Try.prog 31 (Kd.slice 3 (Kd.int .i64)) (fun xs => (∀ x ∈ xs, (Lit.int .i64 x).wf = true) ∧ xs.length ≤ maxLen) := opens_slice Try.underlying31 (by kernel_rfl) (opens_int Try.underlying3)
theorem opens32 : Opens Try.prog 32 (Kd.slice 9 Kd.string) (fun xs => (∀ x ∈ xs, x.size ≤ maxLen) ∧ xs.length ≤ maxLen) := opens_slice Try.underlying32 (by kernel_rfl) (opens_string Try.underlying9)

/-- A row is no longer than its weight allows. -/
theorem sized_row {H : Type} {enc : TypeId × Value → H} {P : Program} {W : World} {base : Nat} {spare : Nat → Bool} {held : Bool} {t e : TypeId} {a : Option Addr} {len cap : Nat} {d : DataW H} {ps : List MemPlace} {ts : List TypeId} {ds : List (DataW H)} {j : Nat}
    (hsz : (DataW.weightsEach P ts ds).all (· ≤ reachBytes) = true) (ht : ts[j]? = some t) (hd : ds[j]? = some d) (hu : P.underlying t = some (.slice e)) {fuel : Nat}
    (h : DataW.trod enc P W base spare held fuel t [.slice a len cap] = some (d, ps)) : len * P.bytesOf e ≤ reachBytes := by
  rcases Deep.open_slice hu h with ⟨hcs, _⟩ | ⟨x, l, c, m, n, D, Pl, hcs, _, hl, hm, hmm, hx, _⟩
  · simp at hcs
    obtain ⟨rfl, rfl, rfl⟩ := hcs
    simp
  · simp at hcs
    obtain ⟨rfl, rfl, rfl⟩ := hcs
    obtain ⟨hx, _⟩ := Prod.mk.inj hx
    subst hx
    have z := sized_slice hsz ht hd hu
    simp only [List.length_map, List.length_range] at z
    exact Nat.le_trans (Nat.mul_le_mul_right _ (by omega)) z

set_option maxRecDepth 100000 in
theorem lifted (os : Os) (started : os.Started) (H : Type) (enc : TypeId × Value → H) :
    ReturnsInHanded {} Try.checked os 4 .any (Rows.judgeSessionSpec.pre6 enc Try.prog Try.f4 Rows.judgeSessionRow.domain false) (Rows.judgeSessionSpec.post enc Try.prog Try.f4 false true false false) := by
  refine returnsInHanded_of_change_sized (C := Try.checked) own started (by kernel_rfl) Try.func4
    (ChangeSpec.witness6 (enc := enc) (C := Try.checked) false ⟨#[], #[.slice none 0 0, .slice none 0 0, .slice none 0 0], []⟩ 8 (by kernel_rfl) (by kernel_rfl) (by kernel_rfl) (by kernel_rfl)) ?_
  intro W base args ds gs before hval0 hW hcnd hsz0 _
  have hsz : (DataW.weightsEach Try.prog (Try.f4.params.toList ++ Rows.judgeSessionSpec.plain.varTypes Try.prog) (ds ++ gs)).all (· ≤ reachBytes) = true := hsz0
  have hval : ∀ (j : Nat) t v, Try.f4.params[j]? = some t → args[j]? = some v → Value.okWide Try.prog W .any base t v := hval0
  have hW' := hW
  obtain ⟨p, q, hA0, hV, rfl, hfz, hnd⟩ := hW
  have hA : DataW.TrodAll enc Try.prog W 0 (fun _ => true) true Try.f4.params.toList args.toList ds p := hA0
  rw [Try.params4] at hA hval hsz
  obtain ⟨v0, vs0, d0, ds0, p0, q0, hargs, rfl, rfl, h0, r0⟩ := trodAll_cons hA
  obtain ⟨v1, vs1, d1, ds1, p1, q1, rfl, rfl, rfl, h1, r1⟩ := trodAll_cons r0
  obtain ⟨v2, vs2, d2, ds2, p2, q2, rfl, rfl, rfl, h2, r2⟩ := trodAll_cons r1
  obtain ⟨rfl, rfl, rfl⟩ := trodAll_nil r2
  obtain rfl : args = #[v0, v1, v2] := by cases args; simp_all
  obtain ⟨rfl, rfl⟩ := trodVars_none hV
  obtain ⟨a0, len0, cap0, rfl⟩ := okWide_slice Try.underlying30 (hval 0 30 v0 rfl rfl)
  obtain ⟨a1, len1, cap1, rfl⟩ := okWide_slice Try.underlying31 (hval 1 31 v1 rfl rfl)
  obtain ⟨a2, len2, cap2, rfl⟩ := okWide_slice Try.underlying32 (hval 2 32 v2 rfl rfl)
  have k0 := h0
  have k1 := h1
  have k2 := h2
  have lt0 : ∀ x ∈ p0, x.block < W.heap.size := by obtain ⟨m, hm⟩ := k0; exact DataW.trod_lt m _ _ _ hm
  have lt1 : ∀ x ∈ p1, x.block < W.heap.size := by obtain ⟨m, hm⟩ := k1; exact DataW.trod_lt m _ _ _ hm
  have lt2 : ∀ x ∈ p2, x.block < W.heap.size := by obtain ⟨m, hm⟩ := k2; exact DataW.trod_lt m _ _ _ hm
  have hlen : len0 * 24 ≤ 140737488351232 := by
    obtain ⟨fuel, hf⟩ := h0
    have z := sized_row hsz (j := 0) (t := 30) rfl rfl Try.underlying30 hf
    rw [show Try.prog.bytesOf 62 = 24 from by kernel_rfl] at z
    exact Nat.le_trans z (by decide)
  obtain ⟨l, ⟨A, c, hcs, hc0, hC0⟩, _⟩ : ∃ l, (Kd.slice 62 k62).K W l [.slice a0 len0 cap0] ∧ ((∀ x ∈ l, True) ∧ l.length ≤ maxLen) := by
    obtain ⟨fuel, hf⟩ := h0
    exact opens30 H enc W 0 _ _ fuel _ _ hf
  obtain ⟨rfl, rfl, rfl⟩ : a0 = A ∧ len0 = l.length ∧ cap0 = c := by simpa using hcs
  obtain ⟨ways, ⟨A, c, hcs, hc1, hC1⟩, _⟩ : ∃ l, (Kd.slice 3 (Kd.int .i64)).K W l [.slice a1 len1 cap1] ∧ ((∀ x ∈ l, (Lit.int .i64 x).wf = true) ∧ l.length ≤ maxLen) := by
    obtain ⟨fuel, hf⟩ := h1
    exact opens31 H enc W 0 _ _ fuel _ _ hf
  obtain ⟨rfl, rfl, rfl⟩ : a1 = A ∧ len1 = ways.length ∧ cap1 = c := by simpa using hcs
  obtain ⟨texts, ⟨A, c, hcs, hc2, hC2⟩, _⟩ : ∃ l, (Kd.slice 9 Kd.string).K W l [.slice a2 len2 cap2] ∧ ((∀ x ∈ l, x.size ≤ maxLen) ∧ l.length ≤ maxLen) := by
    obtain ⟨fuel, hf⟩ := h2
    exact opens32 H enc W 0 _ _ fuel _ _ hf
  obtain ⟨rfl, rfl, rfl⟩ : a2 = A ∧ len2 = texts.length ∧ cap2 = c := by simpa using hcs
  clear hA0 hval0 hsz0 hsz
  refine (session_law W a0 cap0 l a1 cap1 ways a2 cap2 texts hC0 hc0 hC1 hc1 hC2 hc2 (by omega)).mono fun e W' ⟨he, bel⟩ => ?_
  subst he
  exact ⟨_, rfl, _, _, _, [], _, [], hW', trodAll_mk1 (shut_bool Try.underlying4 _), (trodAll_cons_mk (Below.trod laidOut (by kernel_rfl) (of_decide_eq_true (by kernel_rfl)) k0 bel lt0) (trodAll_cons_mk (Below.trod laidOut (by kernel_rfl) (of_decide_eq_true (by kernel_rfl)) k1 bel lt1) (trodAll_cons_mk (Below.trod laidOut (by kernel_rfl) (of_decide_eq_true (by kernel_rfl)) k2 bel lt2) trodAll_mk0))), rfl, bel.frame _, fun h => by cases h⟩
theorem over : Rows.judgeSessionRow.holds Try.pinned (OpenSpec.ofChange Rows.judgeSessionSpec) :=
  OpenClaim.holds_of_wide 4 Try.f4 rfl rfl rfl rfl rfl rfl rfl ⟨rfl, rfl, rfl, rfl, rfl⟩ rfl rfl rfl rfl rfl (by kernel_rfl) Try.func4 (by kernel_rfl)
    (of_decide_eq_true (by kernel_rfl)) (by unfold Func.isWrapper; first | (rw [if_pos (by decide +kernel)]; kernel_rfl) | (rw [if_neg (by decide +kernel)]; exact ⟨rfl, rfl⟩))
    (fun os started H enc _ => lifted os started H enc)
theorem proved : Rows.JudgeSessionSaid := over
#print axioms proved
end Go.Proofs.Ytojgiaemgpnfdaa.judgeSession
namespace Go.Proofs.Ytojgiaemgpnfdaa
/-- The row, under a short name, for the claim. -/
theorem judgeSession_holds : Rows.JudgeSessionSaid := judgeSession.proved
end Go.Proofs.Ytojgiaemgpnfdaa
