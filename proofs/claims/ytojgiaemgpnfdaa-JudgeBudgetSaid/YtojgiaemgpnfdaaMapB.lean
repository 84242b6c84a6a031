/- Sets of integers kept as maps with bool elements: program-free laws. -/
import Derived.Test.YtojgiaemgpnfdaaMapF
set_option linter.unusedVariables false
set_option linter.unusedSimpArgs false
namespace Go.Proofs.YtojgiaemgpnfdaaM
open Go.RowKit Go.Maps

section
variable {P : Program} {k : TypeId} {α : Type}

theorem plainElem_bool_inv {H : Type} {e : TypeId} (he : P.underlying e = some .bool) {v : Value} {z : DataW H × List MemPlace} (h : plainElem P e v = some z) : ∃ a, v = .bool a ∧ z = (.lit (.bool a), []) := by
  unfold plainElem at h
  rw [he] at h
  cases v <;> simp at h
  exact ⟨_, rfl, h.symm⟩

/-- What the entry at a key reads as. -/
def rdB {H : Type} (o : Bool) (z : DataW H) : DataW H := if o then .lit (.bool true) else z

/-- Block b is a map of at most n entries: true at what f holds, and nothing else. -/
def MapB (E : KeyEnc P k α) (e : TypeId) (w : World) (b n : Nat) (f : α → Bool) : Prop :=
  ∃ D : DataW Unit, w.ownsMap P k (plainElem P e) b n D ∧ ∀ x, E.ok x → ∀ z, D.atKey (E.lit x) z = rdB (f x) z

variable {E : KeyEnc P k α} {e : TypeId} {w : World} {b n : Nat} {f : α → Bool}

theorem MapB.made (w : World) : MapB E e (w.alloc (.map #[] 0)) w.heap.size 0 (fun _ => false) :=
  ⟨_, World.ownsMap_made w P k _, fun _ _ _ => rfl⟩
theorem MapB.lt (h : MapB E e w b n f) : b < w.heap.size := let ⟨_, h, _⟩ := h; h.lt
theorem MapB.mono (h : MapB E e w b n f) {n' : Nat} (hn : n ≤ n') : MapB E e w b n' f := let ⟨D, h, a⟩ := h; ⟨D, h.mono hn, a⟩
theorem MapB.kept (h : MapB E e w b n f) {w' : World} {row : Option Nat} (hg : w.grownBy w' row) (hne : some b ≠ row) : MapB E e w' b n f :=
  let ⟨D, h, a⟩ := h; ⟨D, h.kept hg hne, a⟩
theorem MapB.alloc (h : MapB E e w b n f) (o : Obj) : MapB E e (w.alloc o) b n f := let ⟨D, h, a⟩ := h; ⟨D, h.alloc o, a⟩
theorem MapB.congr (h : MapB E e w b n f) {g : α → Bool} (hg : ∀ x, E.ok x → f x = g x) : MapB E e w b n g :=
  let ⟨D, h, q⟩ := h; ⟨D, h, fun x hx z => by rw [q x hx z, hg x hx]⟩

variable {t : TypeId}

theorem MapB.look (h : MapB E e w b n f) (ht : P.underlying t = some (.map k e)) (he : P.underlying e = some .bool) (hz : ∀ w, (zeroValue e).run P w = .ok (.bool false) w) {x : α} (hx : E.ok x) :
    (Instr.lookup t (.map (some b)) (E.enc x) false).run P w = .ok (.bool (f x)) w := by
  obtain ⟨D, h, q⟩ := h
  obtain ⟨v, ps, hrun, hv⟩ := h.lookup E.law ht (hz w) (plainElem_bool he false) (E.key hx)
  obtain ⟨c, rfl, hc⟩ := plainElem_bool_inv he hv
  simp only [Prod.mk.injEq] at hc
  have hat := hc.1
  rw [q x hx] at hat
  rw [hrun]
  cases hf : f x with
  | false => rw [hf] at hat; simp [rdB] at hat; simp [← hat]
  | true => rw [hf] at hat; simp [rdB] at hat; simp [← hat]

theorem MapB.store [DecidableEq α] (h : MapB E e w b n f) (ht : P.underlying t = some (.map k e)) (he : P.underlying e = some .bool) (hn : n < maxLen) {x : α} (hx : E.ok x) :
    ∃ w', (Instr.mapUpdate t (.map (some b)) (E.enc x) (.bool true)).run P w = .ok () w' ∧ MapB E e w' b (n + 1) (fun y => decide (y = x) || f y) ∧ w.mapTurned w' b := by
  obtain ⟨D, h, q⟩ := h
  obtain ⟨w', hrun, hown, ht⟩ := h.store E.law ht hn (E.key hx) (plainElem_bool he true)
  refine ⟨w', hrun, ⟨_, hown, fun y hy z => ?_⟩, ht⟩
  by_cases e1 : y = x
  · subst e1; rw [atKey_put_same h.isMap (E.isKey hy)]; simp [rdB]
  · rw [atKey_put_other (fun hh => e1 (E.lit_inj hy hx hh)), q y hy]; simp [e1]
end

section
variable {P : Program} {k : TypeId} {α : Type} [DecidableEq α] (w : World) {ops : Array Oper} {rest : List Oper} {o : Oper} {a : Act} {Q : Exit → Act → World → Prop}
/-- 'm[k] = true' at the operation. -/
theorem wpList_put_B (hg : o.guard = none) (m x v : Operand) (t : TypeId) (hop : o.op = Op.mapUpdate t m x v) (E : KeyEnc P k α) (e : TypeId) (ht : P.underlying t = some (.map k e)) (he : P.underlying e = some .bool)
    (b n : Nat) (f : α → Bool) (hm : a.eval m = .map (some b)) (h : MapB E e w b n f) (hn : n < maxLen) (key : α) (hx : a.eval x = E.enc key) (hok : E.ok key) (hv : a.eval v = .bool true)
    (hK : ∀ w', MapB E e w' b (n + 1) (fun y => decide (y = key) || f y) → w.mapTurned w' b → wpList P ops Q rest (a.put o.dst undef) w') : wpList P ops Q (o :: rest) a w := by
  refine wpList_plain hg fun K' hK' => ?_
  obtain ⟨w', hrun, r1, r2⟩ := h.store ht he hn hok
  unfold Oper.wp
  simp [execOp, hop, hm, hx, hv, hrun, Result.andThen]
  exact hK' _ _ (hK w' r1 r2)
end
end Go.Proofs.YtojgiaemgpnfdaaM
