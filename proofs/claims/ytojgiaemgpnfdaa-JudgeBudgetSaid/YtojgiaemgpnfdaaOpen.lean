/- From the form's reading of a value to the kinds: whatever can be read as data stands for a plain Lean value. -/
import Derived.Test.YtojgiaemgpnfdaaWWords
import Derived.ProofKit
import Derived.Deep.Slices
set_option linter.unusedVariables false
set_option linter.unusedSimpArgs false
namespace Go.Proofs.YtojgiaemgpnfdaaO
open Go.RowKit Go.Proofs.YtojgiaemgpnfdaaW.PrintWords

/-- Whatever reads as data of type t stands for a value of kind d that is good. -/
def Opens {α : Type} (P : Program) (t : TypeId) (d : Kd α) (good : α → Prop) : Prop :=
  ∀ (H : Type) (enc : TypeId × Value → H) (w : World) (base : Nat) (spare : Nat → Bool) (held : Bool) (fuel : Nat) (cs : List Value) (x : DataW H × List MemPlace), DataW.trod enc P w base spare held fuel t cs = some x → ∃ v, d.K w v cs ∧ good v

section
variable {α β : Type} {P : Program} {t : TypeId}
theorem opens_int {k : IntKind} (ht : P.underlying t = some (.int k)) : Opens P t (Kd.int k) (fun a => (Lit.int k a).wf = true) := by
  intro H enc w base spare held fuel cs x h
  cases fuel with
  | zero => simp [DataW.trod] at h
  | succ n =>
    unfold DataW.trod at h
    rw [ht] at h
    split at h <;> simp_all
    exact ⟨_, rfl, h.1.2⟩
theorem opens_bool (ht : P.underlying t = some .bool) : Opens P t Kd.bool (fun _ => True) := by
  intro H enc w base spare held fuel cs x h
  cases fuel with
  | zero => simp [DataW.trod] at h
  | succ n =>
    unfold DataW.trod at h
    rw [ht] at h
    split at h
    all_goals first | (rename_i b hq; exact ⟨b, rfl, trivial⟩) | simp_all
theorem opens_string (ht : P.underlying t = some .string) : Opens P t Kd.string (fun s => s.size ≤ maxLen) := by
  intro H enc w base spare held fuel cs x h
  cases fuel with
  | zero => simp [DataW.trod] at h
  | succ n =>
    unfold DataW.trod at h
    rw [ht] at h
    split at h <;> simp_all
    exact ⟨_, rfl, h.1⟩
theorem opens_slice {e : TypeId} {d : Kd α} {good : α → Prop} (ht : P.underlying t = some (.slice e)) (hc : P.cellsOf e = d.sz) (h : Opens P e d good) :
    Opens P t (Kd.slice e d) (fun xs => (∀ x ∈ xs, good x) ∧ xs.length ≤ maxLen) := by
  intro H enc w base spare held fuel cs x hx
  rcases Deep.open_slice ht hx with ⟨rfl, _⟩ | ⟨a, len, cap, m, n, D, Pl, rfl, hb, hl, hm, hmm, _, hel⟩
  · exact ⟨[], ⟨none, 0, rfl, Nat.le_refl _, Kd.C_nil _ _⟩, (fun x hx => by cases hx), by simp⟩
  · have hlm : len ≤ m := by rw [hmm]; split <;> omega
    have key : ∀ k, k ≤ len → ∃ xs : List α, xs.length = k ∧ (∀ x ∈ xs, good x) ∧ ∀ j p, xs[j]? = some p → ∃ c, c.length = d.sz ∧ d.K w p c ∧ ∀ i u, c[i]? = some u → w.cell? (a.add (j * d.sz + i)) = some u := by
      intro k
      induction k with
      | zero => exact fun _ => ⟨[], rfl, (fun x hx => by cases hx), fun j p hj => by simp at hj⟩
      | succ k ih =>
        intro hk
        obtain ⟨xs, h1, h2, h3⟩ := ih (by omega)
        obtain ⟨cs', hcs, htr⟩ := hel k (by omega)
        obtain ⟨v, hv, hg⟩ := h H enc w base spare held n cs' _ htr
        obtain ⟨_, hlen, hcell⟩ := World.cells?_some hcs
        refine ⟨xs ++ [v], by simp [h1], fun x hx => ?_, fun j p hj => ?_⟩
        · rcases List.mem_append.1 hx with hx | hx
          · exact h2 x hx
          · rw [List.mem_singleton.1 hx]; exact hg
        · rcases Nat.lt_or_ge j xs.length with hj1 | hj1
          · rw [List.getElem?_append_left hj1] at hj
            exact h3 j p hj
          · have hj' : j = xs.length := by
              have := (List.getElem?_eq_some_iff.1 hj).1
              rw [List.length_append, List.length_singleton] at this
              omega
            subst hj'
            have hj2 : v = p := by simpa using hj
            subst hj2
            refine ⟨cs', d.K_len hv, hv, fun i u hu => ?_⟩
            have hi : i < cs'.length := (List.getElem?_eq_some_iff.1 hu).1
            have := hcell i (by omega)
            rw [Deep.add_add] at this
            rw [h1, ← hc, this]
            exact hu
    obtain ⟨xs, h1, h2, h3⟩ := key len (Nat.le_refl _)
    subst h1
    refine ⟨xs, ⟨some a, cap, rfl, hl, ⟨rfl, ?_, fun _ => ⟨a, rfl, h3⟩⟩⟩, h2, by omega⟩
    unfold maxLen at hm
    omega

/-- The fields of a struct, from a place on. -/
def OpensL {α : Type} (P : Program) (fs : List Field) (off stop : Nat) (d : Kd α) (good : α → Prop) : Prop :=
  off ≤ stop ∧ ∀ (H : Type) (enc : TypeId × Value → H) (w : World) (base : Nat) (spare : Nat → Bool) (held : Bool) (n : Nat) (cs : List Value), cs.length = stop →
    (∀ (i : Nat) (f : Field), fs[i]? = some f → ∃ x, DataW.trod enc P w base spare held n f.type ((cs.drop f.offset).take (P.cellsOf f.type)) = some x) → ∃ v, d.K w v (cs.drop off) ∧ good v
theorem opensL_one {f : Field} {off stop : Nat} {d : Kd α} {good : α → Prop} (h : Opens P f.type d good) (ho : f.offset = off) (hs : off + P.cellsOf f.type = stop) : OpensL P [f] off stop d good := by
  refine ⟨by omega, fun H enc w base spare held n cs hl hf => ?_⟩
  obtain ⟨x, hx⟩ := hf 0 f rfl
  rw [ho, List.take_of_length_le (by simp; omega)] at hx
  exact h H enc w base spare held n _ x hx
theorem opensL_cons {f : Field} {fs : List Field} {off stop n : Nat} {a : Kd α} {b : Kd β} {g1 : α → Prop} {g2 : β → Prop} (h : Opens P f.type a g1) (ho : f.offset = off) (hn : P.cellsOf f.type = n) (h2 : OpensL P fs (off + n) stop b g2) :
    OpensL P (f :: fs) off stop (Kd.pair a b) (fun v => g1 v.1 ∧ g2 v.2) := by
  refine ⟨by have := h2.1; omega, fun H enc w base spare held m cs hl hf => ?_⟩
  obtain ⟨x, hx⟩ := hf 0 f rfl
  obtain ⟨v1, hv1, hg1⟩ := h H enc w base spare held m _ x hx
  obtain ⟨v2, hv2, hg2⟩ := h2.2 H enc w base spare held m cs hl (fun i f hi => hf (i + 1) f (by simpa using hi))
  refine ⟨(v1, v2), ⟨_, _, ?_, hv1, hv2⟩, hg1, hg2⟩
  rw [ho, hn, ← List.drop_drop, List.take_append_drop]
theorem opens_struct {fs : Array Field} {stop : Nat} {d : Kd α} {good : α → Prop} (ht : P.underlying t = some (.struct fs)) (hc : P.cellsOf t = stop) (h : OpensL P fs.toList 0 stop d good) : Opens P t d good := by
  intro H enc w base spare held fuel cs x hx
  obtain ⟨xs, n, _, _, hl, hsz, hf⟩ := DataW.trod_struct ht hx
  obtain ⟨v, hv, hg⟩ := h.2 H enc w base spare held n cs (by omega) (fun i f hi => by
    have hi' : fs[i]? = some f := by simpa using hi
    have := hf i f hi'
    have hlt : i < xs.length := by rw [hsz]; exact (Array.getElem?_eq_some_iff.1 hi').1
    exact ⟨_, this.trans (List.getElem?_eq_getElem hlt)⟩)
  exact ⟨v, by simpa using hv, hg⟩
theorem opens_iso {d : Kd α} {good : α → Prop} (f : β → α) (g : α → β) (hfg : ∀ v, f (g v) = v) (h : Opens P t d good) : Opens P t (Kd.iso d f) (fun x => good (f x)) := by
  intro H enc w base spare held fuel cs x hx
  obtain ⟨v, hv, hg⟩ := h H enc w base spare held fuel cs x hx
  refine ⟨g v, ?_, ?_⟩
  · show d.K w (f (g v)) cs
    rw [hfg]; exact hv
  · show good (f (g v))
    rw [hfg]; exact hg
end
end Go.Proofs.YtojgiaemgpnfdaaO
