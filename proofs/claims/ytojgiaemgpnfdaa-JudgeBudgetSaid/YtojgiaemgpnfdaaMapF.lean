/- Maps with integer elements, told as plain partial functions: program-free laws. -/
import Derived.WalkKit
import Derived.WalkSpells
import Derived.WalkLawsBesides
import Derived.Maps.OwnOps
import Derived.Maps.OwnSet
import Derived.Maps.RangeWalk
import Derived.Maps.Ext
import Derived.DeepKeys4
import Derived.StillTailTactics
namespace Go.Proofs.YtojgiaemgpnfdaaM
open Go.RowKit Go.Maps

/-- How a Lean type stands for the keys of a key type. -/
structure KeyEnc (P : Program) (k : TypeId) (α : Type) where
  enc : α → Value
  lit : α → Lit
  ok : α → Prop
  law : Keyed P k
  key : ∀ {x}, ok x → keyOf P k (enc x) = some (lit x)
  inv : ∀ {v l}, keyOf P k v = some l → ∃ x, ok x ∧ v = enc x ∧ l = lit x
  inj : ∀ {x y}, enc x = enc y → x = y

section
variable {P : Program} {k : TypeId} {α : Type}

theorem KeyEnc.lit_inj (E : KeyEnc P k α) {x y : α} (hx : E.ok x) (hy : E.ok y) (h : E.lit x = E.lit y) : x = y :=
  E.inj (E.law.inj (E.key hx) (h ▸ E.key hy))
theorem KeyEnc.isKey (E : KeyEnc P k α) {x : α} (hx : E.ok x) : WideAt.IsKeyLit (E.lit x) := E.law.key (E.key hx)

/-- What the entry at a key reads as. -/
def rdAt {H : Type} (o : Option Int) (z : DataW H) : DataW H := match o with
  | some v => .lit (.int .i64 v)
  | none => z

def upd [DecidableEq α] (f : α → Option Int) (x : α) (o : Option Int) : α → Option Int := fun y => if y = x then o else f y

/-- Block b is a map of at most n entries that holds just what f says. -/
def MapF (E : KeyEnc P k α) (e : TypeId) (w : World) (b n : Nat) (f : α → Option Int) : Prop :=
  ∃ D : DataW Unit, w.ownsMap P k (plainElem P e) b n D ∧ ∀ x, E.ok x → ∀ z, D.atKey (E.lit x) z = rdAt (f x) z

variable {E : KeyEnc P k α} {e : TypeId} {w : World} {b n : Nat} {f : α → Option Int}

theorem MapF.made (w : World) : MapF E e (w.alloc (.map #[] 0)) w.heap.size 0 (fun _ => none) :=
  ⟨_, World.ownsMap_made w P k _, fun _ _ _ => rfl⟩
theorem MapF.lt (h : MapF E e w b n f) : b < w.heap.size := let ⟨_, h, _⟩ := h; h.lt
theorem MapF.mono (h : MapF E e w b n f) {n' : Nat} (hn : n ≤ n') : MapF E e w b n' f := let ⟨D, h, a⟩ := h; ⟨D, h.mono hn, a⟩
theorem MapF.kept (h : MapF E e w b n f) {w' : World} {row : Option Nat} (hg : w.grownBy w' row) (hne : some b ≠ row) : MapF E e w' b n f :=
  let ⟨D, h, a⟩ := h; ⟨D, h.kept hg hne, a⟩
theorem MapF.alloc (h : MapF E e w b n f) (o : Obj) : MapF E e (w.alloc o) b n f := let ⟨D, h, a⟩ := h; ⟨D, h.alloc o, a⟩
theorem MapF.drew (h : MapF E e w b n f) : MapF E e w.drew b n f := h
theorem MapF.drewN (h : MapF E e w b n f) (m : Nat) : MapF E e (w.drewN m) b n f := h
theorem MapF.setCell (h : MapF E e w b n f) {a : Addr} (ha : b ≠ a.block) (u : Value) : MapF E e (w.setCell a u) b n f :=
  let ⟨D, h, q⟩ := h; ⟨D, h.setCell ha u, q⟩
theorem MapF.congr (h : MapF E e w b n f) {g : α → Option Int} (hg : ∀ x, E.ok x → f x = g x) : MapF E e w b n g :=
  let ⟨D, h, q⟩ := h; ⟨D, h, fun x hx z => by rw [q x hx z, hg x hx]⟩

variable {t : TypeId}

theorem MapF.look (h : MapF E e w b n f) (ht : P.underlying t = some (.map k e)) (he : P.underlying e = some (.int .i64)) (hz : ∀ w, (zeroValue e).run P w = .ok (.int .i64 0) w) {x : α} (hx : E.ok x) :
    (Instr.lookup t (.map (some b)) (E.enc x) false).run P w = .ok (.int .i64 ((f x).getD 0)) w := by
  obtain ⟨D, h, q⟩ := h
  obtain ⟨c, hrun, hat, _⟩ := h.lookup_int E.law ht he (hz w) (E.key hx)
  rw [q x hx] at hat
  rw [hrun]
  cases hf : f x with
  | none => rw [hf] at hat; simp only [rdAt, DataW.lit.injEq, Lit.int.injEq] at hat; simp [← hat.2]
  | some v => rw [hf] at hat; simp only [rdAt, DataW.lit.injEq, Lit.int.injEq] at hat; simp [← hat.2]

theorem MapF.store [DecidableEq α] (h : MapF E e w b n f) (ht : P.underlying t = some (.map k e)) (he : P.underlying e = some (.int .i64)) (hn : n < maxLen) {x : α} (hx : E.ok x) {v : Int} (hv : (Lit.int .i64 v).wf = true) :
    ∃ w', (Instr.mapUpdate t (.map (some b)) (E.enc x) (.int .i64 v)).run P w = .ok () w' ∧ MapF E e w' b (n + 1) (upd f x (some v)) ∧ w.mapTurned w' b := by
  obtain ⟨D, h, q⟩ := h
  obtain ⟨w', hrun, hown, ht⟩ := h.store E.law ht hn (E.key hx) (plainElem_int he hv)
  refine ⟨w', hrun, ⟨_, hown, fun y hy z => ?_⟩, ht⟩
  unfold upd
  by_cases e1 : y = x
  · subst e1; rw [if_pos rfl, atKey_put_same h.isMap (E.isKey hy)]; rfl
  · rw [if_neg e1, atKey_put_other (fun hh => e1 (E.lit_inj hy hx hh)), q y hy]

theorem MapF.drop [DecidableEq α] (h : MapF E e w b n f) (ht : P.underlying t = some (.map k e)) {x : α} (hx : E.ok x) (ty : TypeId) :
    ∃ w', (Builtin.delete_ #[t, k] ty #[.map (some b), E.enc x]).run P w = .ok (.tuple #[]) w' ∧ MapF E e w' b n (upd f x none) ∧ w.mapTurned w' b := by
  obtain ⟨D, h, q⟩ := h
  obtain ⟨w', hrun, hown, ht⟩ := h.drop E.law ht (E.key hx) ty
  refine ⟨w', hrun, ⟨_, hown, fun y hy z => ?_⟩, ht⟩
  unfold upd
  by_cases e1 : y = x
  · subst e1; rw [if_pos rfl, atKey_del_same]; rfl
  · rw [if_neg e1, atKey_del_other (fun hh => e1 (E.lit_inj hy hx hh)), q y hy]
end

section
variable {P : Program} {k : TypeId} {α : Type} [DecidableEq α] (w : World) {ops : Array Oper} {rest : List Oper} {o : Oper} {a : Act} {Q : Exit → Act → World → Prop}
/-- 'm[k] = v' at the operation. -/
theorem wpList_put_F (hg : o.guard = none) (m x v : Operand) (t : TypeId) (hop : o.op = Op.mapUpdate t m x v) (E : KeyEnc P k α) (e : TypeId) (ht : P.underlying t = some (.map k e)) (he : P.underlying e = some (.int .i64))
    (b n : Nat) (f : α → Option Int) (hm : a.eval m = .map (some b)) (h : MapF E e w b n f) (hn : n < maxLen) (key : α) (hx : a.eval x = E.enc key) (hok : E.ok key) (val : Int) (hv : a.eval v = .int .i64 val) (hwf : (Lit.int .i64 val).wf = true)
    (hK : ∀ w', MapF E e w' b (n + 1) (upd f key (some val)) → w.mapTurned w' b → wpList P ops Q rest (a.put o.dst undef) w') : wpList P ops Q (o :: rest) a w := by
  refine wpList_plain hg fun K' hK' => ?_
  obtain ⟨w', hrun, r1, r2⟩ := h.store ht he hn hok hwf
  unfold Oper.wp
  simp [execOp, hop, hm, hx, hv, hrun, Result.andThen]
  exact hK' _ _ (hK w' r1 r2)
/-- 'delete(m, k)' at the operation. -/
theorem wpList_del_F (hg : o.guard = none) (m x : Operand) (t : TypeId) (hop : o.op = Op.call { callee := Callee.builtin Builtin.delete, args := #[m, x], argTypes := #[t, k] }) (E : KeyEnc P k α) (e : TypeId) (ht : P.underlying t = some (.map k e))
    (b n : Nat) (f : α → Option Int) (hm : a.eval m = .map (some b)) (h : MapF E e w b n f) (key : α) (hx : a.eval x = E.enc key) (hok : E.ok key)
    (hK : ∀ w', MapF E e w' b n (upd f key none) → w.mapTurned w' b → wpList P ops Q rest (a.put o.dst (.tuple #[])) w') : wpList P ops Q (o :: rest) a w := by
  refine wpList_plain hg fun K' hK' => ?_
  obtain ⟨w', hrun, r1, r2⟩ := h.drop ht hok o.type
  unfold Oper.wp
  simp [execOp, hop, resolve, invoke, builtin, hm, hx, hrun, Result.andThen]
  exact hK' _ _ (hK w' r1 r2)
end
/-- A cell of another block is as it was. -/
theorem turned_cell {w w' : World} {b : Nat} (h : w.mapTurned w' b) {g o : Nat} {v : Value} (hc : w.cell? ⟨g, o, none⟩ = some v) : w'.cell? ⟨g, o, none⟩ = some v := by
  have hne : g ≠ b := by
    rintro rfl
    obtain ⟨es, clock, _, _, hb, _⟩ := h
    simp [World.cell?, hb] at hc
  have hlt : g < w.heap.size := World.block_lt_of_cell? w _ hc
  have := h.grown.block g hlt (by simpa using hne)
  unfold World.cell? at hc ⊢
  simp only at hc ⊢
  rw [this]; exact hc
theorem turned_below {w0 w w' : World} {b B : Nat} (hb : Below B w0 w) (h : w.mapTurned w' b) (hB : B ≤ b) (hs : B ≤ w.heap.size) : Below B w0 w' :=
  hb.grown h.grown hs (fun j hj => by cases hj; exact hB)
/-- Nothing but the count of draws has turned. -/
def Same (w W : World) : Prop := W.heap = w.heap ∧ W.os = w.os ∧ W.tape = w.tape ∧ W.output = w.output
theorem Same.cell {w W : World} (h : Same w W) {a : Addr} {v : Value} (hc : w.cell? a = some v) : W.cell? a = some v := by
  unfold World.cell? at hc ⊢
  rw [h.1]; exact hc
theorem Same.below {B : Nat} {w0 w W : World} (h : Same w W) (hb : Below B w0 w) : Below B w0 W :=
  ⟨h.2.1.trans hb.os, h.2.2.1.trans hb.tape, h.2.2.2.trans hb.output, by rw [h.1]; exact hb.size, fun i hi => by rw [h.1]; exact hb.block i hi⟩
theorem Same.grown {w W : World} (h : Same w W) : w.grownBy W none := ⟨h.2.1, h.2.2.1, h.2.2.2, by rw [h.1]; exact Nat.le_refl _, fun i _ _ => by rw [h.1]⟩
theorem MapF.same {P : Program} {k : TypeId} {α : Type} {E : KeyEnc P k α} {e : TypeId} {w W : World} {b n : Nat} {f : α → Option Int} (h : MapF E e w b n f) (hs : Same w W) : MapF E e W b n f := h.kept hs.grown (by simp)
theorem same_drewN (w : World) (q : Nat) : Same w (w.drewN q) := ⟨rfl, rfl, rfl, rfl⟩
theorem Same.trans {a b c : World} (h : Same a b) (k : Same b c) : Same a c := ⟨k.1.trans h.1, k.2.1.trans h.2.1, k.2.2.1.trans h.2.2.1, k.2.2.2.trans h.2.2.2⟩

/-- A region that draws its order, whose operations but for those from place n on only read: the world there has a name of its own. -/
theorem wp_region_tail {P : Program} {id : Nat} {Q : Exit → Act → World → Prop} {a : Act} {w : World} {l : List Oper} (n : Nat) (hm : P.follows .mixedOrders = true) (hB : Region.lexTailB .any l.toArray n = true)
    (h : ∀ W, Same w W → wpStill P l.toArray W (fun a' => wpList P l.toArray Q (l.drop n) a' W) (l.take n) a) : (Code.region id l.toArray true).wp P Q a w :=
  wp_region_still_tail n hm hB (h _ ⟨rfl, rfl, rfl, rfl⟩)

/-- Nothing that was there has turned but the blocks of S. -/
structure Keep (S : Nat → Prop) (w w' : World) : Prop where
  os : w'.os = w.os
  tape : w'.tape = w.tape
  output : w'.output = w.output
  size : w.heap.size ≤ w'.heap.size
  block : ∀ i, i < w.heap.size → ¬ S i → w'.heap[i]? = w.heap[i]?
theorem Keep.refl (S : Nat → Prop) (w : World) : Keep S w w := ⟨rfl, rfl, rfl, Nat.le_refl _, fun _ _ _ => rfl⟩
theorem Keep.grown {S : Nat → Prop} {w w1 w2 : World} (h : Keep S w w1) {row : Option Nat} (hg : w1.grownBy w2 row) (hr : ∀ j, row = some j → S j ∨ w.heap.size ≤ j) : Keep S w w2 :=
  ⟨hg.os.trans h.os, hg.tape.trans h.tape, hg.output.trans h.output, Nat.le_trans h.size hg.size, fun i hi hS => by
    rw [hg.block i (Nat.lt_of_lt_of_le hi h.size) (fun e => by
      rcases hr i e.symm with h1 | h1
      · exact hS h1
      · omega)]
    exact h.block i hi hS⟩
theorem Keep.trans {S : Nat → Prop} {a b c : World} (h : Keep S a b) (k : Keep S b c) : Keep S a c :=
  ⟨k.os.trans h.os, k.tape.trans h.tape, k.output.trans h.output, Nat.le_trans h.size k.size, fun i hi hS => (k.block i (Nat.lt_of_lt_of_le hi h.size) hS).trans (h.block i hi hS)⟩
theorem Keep.alloc {S : Nat → Prop} {a b : World} (h : Keep S a b) (o : Obj) : Keep S a (b.alloc o) := h.grown (World.grownBy_alloc b o none) (fun _ e => by cases e)
theorem Keep.same {S : Nat → Prop} {a b c : World} (h : Keep S a b) (hs : Same b c) : Keep S a c := h.grown hs.grown (fun _ e => by cases e)
theorem Keep.cell {S : Nat → Prop} {w w' : World} (h : Keep S w w') {g o : Nat} (hS : ¬ S g) {v : Value} (hc : w.cell? ⟨g, o, none⟩ = some v) : w'.cell? ⟨g, o, none⟩ = some v := by
  have hlt : g < w.heap.size := World.block_lt_of_cell? w _ hc
  have := h.block g hlt hS
  unfold World.cell? at hc ⊢
  simp only at hc ⊢
  rw [this]; exact hc
theorem Keep.below {S : Nat → Prop} {w w' : World} (h : Keep S w w') {B : Nat} (hB : B ≤ w.heap.size) (hS : ∀ i, S i → B ≤ i) : Below B w w' :=
  ⟨h.os, h.tape, h.output, h.size, fun i hi => h.block i (by omega) (fun hh => by have := hS i hh; omega)⟩
theorem mapF_ne_cell {P : Program} {k : TypeId} {α : Type} {E : KeyEnc P k α} {e : TypeId} {w : World} {b n : Nat} {f : α → Option Int} (h : MapF E e w b n f) {g o : Nat} {v : Value} (hc : w.cell? ⟨g, o, none⟩ = some v) : g ≠ b := by
  rintro rfl
  obtain ⟨D, ⟨es, clock, hb, _⟩, _⟩ := h
  simp [World.cell?, hb] at hc

theorem mapF_keep {P : Program} {k : TypeId} {α : Type} {E : KeyEnc P k α} {e : TypeId} {w w' : World} {b n : Nat} {f : α → Option Int} (h : MapF E e w b n f) {S : Nat → Prop} (hk : Keep S w w') (hS : ¬ S b) : MapF E e w' b n f := by
  have hlt := h.lt
  obtain ⟨D, ⟨es, clock, hb, hr⟩, hq⟩ := h
  exact ⟨D, ⟨es, clock, (hk.block b hlt hS).trans hb, hr⟩, hq⟩
theorem keep_mono {S T : Nat → Prop} {w w' : World} (h : Keep S w w') (hST : ∀ i, S i → T i) : Keep T w w' := ⟨h.os, h.tape, h.output, h.size, fun i hi hT => h.block i hi fun hS => hT (hST i hS)⟩
end Go.Proofs.YtojgiaemgpnfdaaM
