/- The judge's types and keys, and what a *open in memory stands for. -/
import Derived.Test.YtojgiaemgpnfdaaRows
import Derived.Test.YtojgiaemgpnfdaaMapF
set_option linter.unusedVariables false
set_option linter.unusedSimpArgs false
set_option maxRecDepth 100000
namespace Go.Proofs.Ytojgiaemgpnfdaa.J
open Go.RowKit Go.Maps Go.Proofs.YtojgiaemgpnfdaaM

def I64 (x : Int) : Prop := -9223372036854775808 ≤ x ∧ x ≤ 9223372036854775807
theorem wf_of {x : Int} (h : I64 x) : (Lit.int .i64 x).wf = true := by unfold I64 at h; exact WalkArith.wf_i64 (by omega)
theorem of_wf {x : Int} (h : (Lit.int .i64 x).wf = true) : I64 x := by
  have h' := h; simp [Lit.wf, IntKind.min, IntKind.max, IntKind.bits, IntKind.signed] at h
  unfold I64; omega

theorem law3 : Keyed Try.prog 3 := int_keyed Try.underlying3
theorem laidOut : laidOutB Try.prog = true := by kernel_rfl
theorem cells55 : Try.prog.cellsOf 55 = 2 := by kernel_rfl
theorem klaw55 : WideMaps.KeyLaw Try.prog 55 := deep_law_laid laidOut (m := 2) (by omega) (of_decide_eq_true (by kernel_rfl)) (by kernel_rfl) (by rw [Try.underlying55])
theorem law55 : Keyed Try.prog 55 := Keyed.of_law klaw55
theorem zero3 (w : World) : (zeroValue 3).run Try.prog w = .ok (.int .i64 0) w := by kernel_rfl
theorem keyType55 : Try.prog.keyType 55 = true := by kernel_rfl

def cval (x : Int × Int) : Value := .agg #[.int .i64 x.1, .int .i64 x.2]
def clit (x : Int × Int) : Lit := .string (keyBytes [.int .i64 x.1, .int .i64 x.2])
theorem cells3 : Try.prog.cellsOf 3 = 1 := by kernel_rfl
theorem keyLits55 (n : Nat) (a b : Int) (ha : I64 a) (hb : I64 b) : Try.prog.keyLits (n + 2) 55 [.int .i64 a, .int .i64 b] = some [.int .i64 a, .int .i64 b] := by
  have e1 := wf_of ha
  have e2 := wf_of hb
  simp [Program.keyLits, Try.underlying55, Try.underlying3, cells55, cells3, e1, e2]
theorem size0 : ∃ m, Try.prog.types.size + 1 = m + 2 := ⟨130, by kernel_rfl⟩
theorem keyOf_c0 (v : Value) : keyOf Try.prog 55 v = if v.formed Try.prog 55 then (Try.prog.keyLits (Try.prog.types.size + 1) 55 v.cells.toList).map fun ls => .string (keyBytes ls) else none := by
  unfold keyOf
  rw [Try.underlying55, keyType55]
  simp only [Bool.true_and]
theorem formed55 {a b : Value} : (Value.agg #[a, b]).formed Try.prog 55 = true := by simp [Value.formed, Try.underlying55, cells55]
theorem keyOf_c {x : Int × Int} (h : I64 x.1 ∧ I64 x.2) : keyOf Try.prog 55 (cval x) = some (clit x) := by
  obtain ⟨m, hm⟩ := size0
  have h1 := keyLits55 m x.1 x.2 h.1 h.2
  rw [keyOf_c0, hm]
  unfold cval clit
  rw [if_pos formed55]
  simp only [Value.cells]
  rw [h1]; rfl
theorem keyLits3_inv {n : Nat} {v : Value} {ls : List Lit} (h : Try.prog.keyLits (n + 1) 3 [v] = some ls) : ∃ a, v = .int .i64 a ∧ (Lit.int .i64 a).wf = true := by
  unfold Program.keyLits at h; rw [Try.underlying3] at h
  cases v <;> simp only [reduceCtorEq] at h
  rename_i q a
  split at h
  · rename_i hq
    obtain ⟨rfl, hw⟩ := hq
    exact ⟨_, rfl, hw⟩
  · cases h
theorem keyLits55_inv {n : Nat} {a b : Value} {ls : List Lit} (h : Try.prog.keyLits (n + 2) 55 [a, b] = some ls) : ∃ x y, a = .int .i64 x ∧ b = .int .i64 y ∧ (Lit.int .i64 x).wf = true ∧ (Lit.int .i64 y).wf = true := by
  unfold Program.keyLits at h; rw [Try.underlying55] at h
  simp only [List.mapM_cons, List.mapM_nil, cells3, List.drop_zero, List.drop_succ_cons, List.take_succ_cons, List.take_zero] at h
  split at h
  · obtain ⟨l1, h1, h2⟩ := Option.map_eq_some_iff.1 h
    simp only [Option.pure_def, Option.bind_eq_bind, Option.bind_eq_some_iff] at h1
    obtain ⟨u, hu, t, ⟨v, hv, _⟩, _⟩ := h1
    obtain ⟨x, rfl, hx⟩ := keyLits3_inv hu
    obtain ⟨y, rfl, hy⟩ := keyLits3_inv hv
    exact ⟨x, y, rfl, rfl, hx, hy⟩
  · cases h
theorem keyOf_c_inv {v : Value} {l : Lit} (h : keyOf Try.prog 55 v = some l) : ∃ x : Int × Int, (I64 x.1 ∧ I64 x.2) ∧ v = cval x ∧ l = clit x := by
  obtain ⟨m, hm⟩ := size0
  have h0 := h
  rw [keyOf_c0, hm] at h
  split at h
  · rename_i hf
    obtain ⟨ls, hl, _⟩ := Option.map_eq_some_iff.1 h
    clear h
    cases v <;> simp [Value.formed, Try.underlying55, cells55] at hf
    rename_i cs
    obtain ⟨cs⟩ := cs
    obtain ⟨a, b, rfl⟩ : ∃ a b, cs = [a, b] := by
      match cs, hf with
      | [a, b], _ => exact ⟨a, b, rfl⟩
    obtain ⟨x, y, rfl, rfl, hx, hy⟩ := keyLits55_inv hl
    have hxy : I64 x ∧ I64 y := ⟨of_wf hx, of_wf hy⟩
    refine ⟨(x, y), hxy, rfl, ?_⟩
    have := keyOf_c (x := (x, y)) hxy
    unfold cval at this
    rw [this] at h0
    exact (Option.some.inj h0).symm
  · cases h

theorem keyOf_i {x : Int} (h : I64 x) : keyOf Try.prog 3 (.int .i64 x) = some (.int .i64 x) := keyOf_int_mk Try.underlying3 (wf_of h)

/-- A connection as a key. -/
def EC : KeyEnc Try.prog 55 (Int × Int) where
  enc := cval
  lit := clit
  ok x := I64 x.1 ∧ I64 x.2
  law := law55
  key h := keyOf_c h
  inv h := keyOf_c_inv h
  inj {x y} h := by
    obtain ⟨a, b⟩ := x
    obtain ⟨c, d⟩ := y
    unfold cval at h
    simp at h
    simp [h]
/-- A number as a key. -/
def EI : KeyEnc Try.prog 3 Int where
  enc x := .int .i64 x
  lit x := .int .i64 x
  ok x := I64 x
  law := law3
  key h := keyOf_i h
  inv h := by
    obtain ⟨x, rfl, rfl, hw⟩ := Maps.keyOf_int_inv Try.underlying3 h
    exact ⟨x, of_wf hw, rfl, rfl⟩
  inj h := by simpa using h
end Go.Proofs.Ytojgiaemgpnfdaa.J
