/- Rows of flat elements beside a block g that is written. Program-free. -/
import Derived.Test.YtojgiaemgpnfdaaWWords
import Derived.Test.YtojgiaemgpnfdaaMapF
import Derived.Deep.RegionLawGrows
set_option linter.unusedVariables false
set_option linter.unusedSimpArgs false
namespace Go.Proofs.YtojgiaemgpnfdaaX
open Go.RowKit Go.Proofs.YtojgiaemgpnfdaaM Go.Proofs.YtojgiaemgpnfdaaW.PrintWords

section
variable {α : Type} {d : Kd α} {e : TypeId} {w W : World} {g : Nat} {A : Option Addr} {xs : List α}

/-- The elements lead nowhere. -/
def FlatK (d : Kd α) : Prop := ∀ w w' x cs, d.K w x cs → d.K w' x cs
/-- A row that is read and doesn't lie in block g. -/
def CX (d : Kd α) (e : TypeId) (w : World) (g : Nat) (A : Option Addr) (xs : List α) : Prop := Kd.C d w A xs.length xs ∧ ∀ ad, A = some ad → 0 < xs.length → ad.block ≠ g ∧ ∃ cells fr, w.heap[ad.block]? = some (.cells cells e fr)

theorem block_of_add (a : Addr) (j : Nat) : (a.add j).block = a.block := by unfold Addr.add; split <;> rfl
theorem reads_kept {R : α → List Value → Prop} {size : Nat} {n : Nat} (h : ReadsRow R size w A n xs) (hc : ∀ (a : Addr) (v : Value), (∀ ad, A = some ad → 0 < n → a.block = ad.block) → 0 < n → w.cell? a = some v → W.cell? a = some v) : ReadsRow R size W A n xs :=
  ⟨h.1, h.2.1, fun hn => by
    obtain ⟨ad, e, hcell⟩ := h.2.2 hn
    refine ⟨ad, e, fun j p hj => ?_⟩
    obtain ⟨c, h1, h2, h3⟩ := hcell j p hj
    exact ⟨c, h1, h2, fun i u hu => hc _ u (fun ad' e' _ => by rw [e] at e'; cases e'; exact block_of_add _ _) hn (h3 i u hu)⟩⟩
theorem CX.keep (h : CX d e w g A xs) (hf : FlatK d) (k : Keep (fun i => i = g) w W) : CX d e W g A xs := by
  refine ⟨?_, fun ad e1 hn => ⟨(h.2 ad e1 hn).1, ?_⟩⟩
  rotate_left
  · obtain ⟨hne, cells, fr, hb⟩ := h.2 ad e1 hn
    exact ⟨cells, fr, (k.block ad.block (Array.getElem?_eq_some_iff.1 hb).1 hne).trans hb⟩
  have h1 : ReadsRow (d.K W) d.sz w A xs.length xs := h.1.imp_ (Below.refl _ _) (fun x c hx => hf _ _ _ _ hx)
  refine reads_kept h1 fun a v hb hn hv => ?_
  have hlt := World.block_lt_of_cell? w _ hv
  have hne : a.block ≠ g := by
    obtain ⟨ad, e, _⟩ := h.1.2.2 hn
    rw [hb ad e hn]; exact (h.2 ad e hn).1
  exact (World.cell?_of_block (k.block a.block hlt hne)).trans hv
theorem CX.inner {ad : Addr} (h : CX d e w g (some ad) xs) (hf : FlatK d) : ∃ inner, Reps (fun x c => ∀ W, d.K W x c) d.sz xs inner ∧ ∀ j u, inner[j]? = some u → w.cell? (ad.add j) = some u := by
  obtain ⟨inner, h1, h2⟩ := ReadsRow.inner_ h.1
  exact ⟨inner, h1.imp_ (fun x c hx W => hf _ _ _ _ hx), h2⟩
theorem CX.nil (d : Kd α) (e : TypeId) (w : World) (g : Nat) : CX d e w g none ([] : List α) := ⟨Kd.C_nil _ _, fun ad e1 => by cases e1⟩

theorem keep_drew {S : Nat → Prop} {a b : World} (h : Keep S a b) : Keep S a b.drew := h.same ⟨rfl, rfl, rfl, rfl⟩
theorem keep_drewN {S : Nat → Prop} {a b : World} (h : Keep S a b) (n : Nat) : Keep S a (b.drewN n) := h.same ⟨rfl, rfl, rfl, rfl⟩
theorem CX.drew (h : CX d e w g A xs) (hf : FlatK d) : CX d e w.drew g A xs := h.keep hf (keep_drew (Keep.refl _ _))
theorem CX.drewN (h : CX d e w g A xs) (hf : FlatK d) (n : Nat) : CX d e (w.drewN n) g A xs := h.keep hf (keep_drewN (Keep.refl _ _) n)
theorem cell_ad {w : World} {a : Addr} {v : Value} (h : w.cell? a = some v) (o : Obj) : (w.alloc o).drew.cell? a = some v :=
  (((Below.refl w.heap.size w).alloc (Nat.le_refl _) o).cell (World.block_lt_of_cell? w a h)).trans h
theorem own_typed {base : Nat} {v : Value} {size n : Nat} {inner : List Value} (ho : w.ownsRow base e size v n inner) (hn : 0 < n) : ∃ g' cap cells fr, v = .slice (some ⟨g', 0, none⟩) n cap ∧ base ≤ g' ∧ w.heap[g']? = some (.cells cells e fr) := by
  rcases ho.2 with ⟨_, h0⟩ | ⟨g', cap, cur, hv, hb, hg, _⟩
  · omega
  · exact ⟨g', cap, cur, _, hv, hb, hg⟩
/-- A row of the call's own is one that is read. -/
theorem own_cx {base : Nat} {v : Value} {inner : List Value} (ho : w.ownsRow base e d.sz v xs.length inner) (hr : Reps (fun x c => ∀ W, d.K W x c) d.sz xs inner) (hg : g < base) : ∃ A c, v = .slice A xs.length c ∧ xs.length ≤ c ∧ CX d e w g A xs := by
  obtain ⟨A, c, rfl, hl, hrow⟩ := OwnRow.reads ⟨inner, ho, hr⟩
  refine ⟨A, c, rfl, hl, hrow.imp_ (Below.refl _ _) (fun x c hx => hx _), ?_⟩
  rintro ad rfl hn
  obtain ⟨g', cap, cells, fr, he, hb, hbl⟩ := own_typed ho hn
  injection he with h1 _ _
  injection h1 with h1
  subst h1
  exact ⟨by simp only; omega, cells, fr, hbl⟩

/-- append(xs[:n:n], x): a new row always; as a step of a region that draws its order. -/
theorem step_cx {P : Program} {ops : Array Oper} {o : Oper} {a : Act} {K : Act → World → Prop} {Q : Exit → Act → World → Prop} {E : Prop}
    (hgd : o.guard = none) (s x : Operand) (t : TypeId) (hop : o.op = Op.call { callee := Callee.builtin Builtin.append, args := #[s, x], argTypes := #[t, t] })
    (d : Kd α) (hf : FlatK d) (e : TypeId) (z : Value) (bytes : Nat) (h1 : P.underlying t = some (.slice e)) (hinfo : (P.info? e).map (fun i => (i.zero, i.size, i.bytes)) = some (some z, d.sz, bytes)) (h6 : z.cells.size = d.sz) (h7 : 0 < d.sz)
    (g : Nat) (A : Option Addr) (xs : List α) (cap : Nat) (hs : a.eval s = .slice A xs.length cap) (hcap : cap = xs.length) (hcx : CX d e w g A xs) (hg : g < w.heap.size)
    (ys : List α) (hys : 0 < ys.length) (A2 : Option Addr) (c : Nat) (hx : a.eval x = .slice A2 ys.length c) (hcy : CX d e w g A2 ys)
    (b1 : xs.length + ys.length ≤ maxLen) (b2 : (xs.length + ys.length) * bytes ≤ 140737488355328)
    (hK : ∀ A' c' w', xs.length + ys.length ≤ c' → CX d e w' g A' (xs ++ ys) → w.grownBy w' none → K (a.put o.dst (.slice A' (xs.length + ys.length) c')) w') :
    if Region.wanted o (yielded ops a.tmps) = true then Oper.wp P o a w K Q else E := by
  obtain ⟨i0, hi, hzz⟩ := Option.map_eq_some_iff.1 hinfo
  simp only [Prod.mk.injEq] at hzz
  obtain ⟨hz0, hz1, hz2⟩ := hzz
  obtain ⟨ad2, rfl, _⟩ := hcy.1.2.2 hys
  obtain ⟨news, hn1, hn2⟩ := hcy.inner hf
  have hone : ∀ u ∈ news, u.oneCell' = true := by
    intro u hu
    obtain ⟨j, hj, hju⟩ := List.mem_iff_getElem.1 hu
    have hlen := hn1.1
    have hjl : j / d.sz < ys.length := by
      rw [Nat.div_lt_iff_lt_mul h7]; omega
    have hK1 := hn1.2 (j / d.sz) _ (List.getElem?_eq_getElem hjl)
    refine d.K_one (hK1 w) u ?_
    have : ((news.drop (j / d.sz * d.sz)).take d.sz)[j % d.sz]? = some u := by
      rw [List.getElem?_take_of_lt (Nat.mod_lt _ h7), List.getElem?_drop, Nat.mul_comm, Nat.div_add_mod, List.getElem?_eq_getElem hj, hju]
    exact List.mem_of_getElem? this
  have holds : ∃ olds, Reps (fun x c => ∀ W, d.K W x c) d.sz xs olds ∧ ∀ b, A = some b → ∀ j u, olds[j]? = some u → w.cell? (b.add j) = some u := by
    cases A with
    | none =>
      have : xs = [] := by
        cases xs with
        | nil => rfl
        | cons a l =>
          obtain ⟨ad, e, _⟩ := hcx.1.2.2 (by simp)
          cases e
      subst this
      exact ⟨[], Reps.none _ _, fun b e => by cases e⟩
    | some b =>
      obtain ⟨olds, ho1, ho2⟩ := hcx.inner hf
      exact ⟨olds, ho1, fun b' e => by cases e; exact ho2⟩
  obtain ⟨olds, ho1, ho2⟩ := holds
  subst hcap
  refine step_append_grows hgd s x t hop e i0 z d.sz bytes h1 hi hz0 hz1 hz2 h6 h7 A xs.length xs.length olds hs (fun e => ?_) ho1.1 ho2 ad2 ys.length c news hx hn1.1 hn2 hone (by omega) b1 b2 ?_
  · have : xs = [] := by
      cases xs with
      | nil => rfl
      | cons a l =>
        obtain ⟨ad, e', _⟩ := hcx.1.2.2 (by simp)
        rw [e] at e'; cases e'
    subst this
    exact ⟨rfl, rfl⟩
  · intro v' w' hown hgr
    have hlen : xs.length + ys.length = (xs ++ ys).length := by simp
    obtain ⟨A', c', rfl, hl, hc⟩ := own_cx (xs := xs ++ ys) (g := g) (by rw [← hlen]; exact hown) (Kd.reps_append ho1 hn1) hg
    rw [← hlen]
    exact hK A' c' w' (by omega) hc hgr
end
end Go.Proofs.YtojgiaemgpnfdaaX
