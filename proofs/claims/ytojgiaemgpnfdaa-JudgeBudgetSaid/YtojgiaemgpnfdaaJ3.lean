import Derived.Test.YtojgiaemgpnfdaaJ2
set_option linter.unusedVariables false
set_option linter.unusedSimpArgs false
namespace Go.Proofs.Ytojgiaemgpnfdaa.J
open Go.RowKit Go.Maps Go.Proofs.YtojgiaemgpnfdaaM

set_option maxHeartbeats 1600000 in
set_option maxRecDepth 100000 in
theorem del_no (sb ob : Nat) (a t v nd : Int) (W : World) (h1 : W.cell? ⟨sb, 1, none⟩ = some (.int .i64 nd)) (hne : (a == nd) = false) :
    Calls Try.prog 45 #[.agg #[.int .i64 a, .int .i64 t], .int .i64 v, .pointer (some ⟨sb, 0, none⟩), .pointer (some ⟨ob, 0, none⟩)] W fun e w' => e = .returned (.bool false) ∧ W.grownBy w' none := by
  have hc : ∀ o, (W.alloc o).cell? ⟨sb, 1, none⟩ = some (.int .i64 nd) := fun o => ((Below.refl _ _).alloc (Nat.le_refl _) o).cell (p := ⟨sb, 1, none⟩) (World.block_lt_of_cell? W _ h1) |>.trans h1
  go_enter Try.func45, Try.ntmps45
  go_wp2
  go_ret
  exact ⟨rfl, World.grownBy_alloc _ _ _⟩

set_option maxHeartbeats 1600000 in
set_option maxRecDepth 100000 in
theorem del_yes (sb ob g bo m : Nat) (t v nd : Int) (fo : Int → Option Int) (W : World) (h1 : W.cell? ⟨sb, 1, none⟩ = some (.int .i64 nd)) (h2 : W.cell? ⟨ob, 0, none⟩ = some (.pointer (some ⟨g, 0, none⟩)))
    (h3 : W.cell? ⟨g, 1, none⟩ = some (.map (some bo))) (ho : MapF EI 3 W bo m fo) (wt : I64 t) :
    Calls Try.prog 45 #[.agg #[.int .i64 nd, .int .i64 t], .int .i64 v, .pointer (some ⟨sb, 0, none⟩), .pointer (some ⟨ob, 0, none⟩)] W fun e w' => e = .returned (.bool true) ∧ MapF EI 3 w' bo m (upd fo t none) ∧ W.grownBy w' (some bo) := by
  have hb : ∀ o, Below W.heap.size W (W.alloc o) := fun o => (Below.refl _ _).alloc (Nat.le_refl _) o
  have hc1 : ∀ o, (W.alloc o).cell? ⟨sb, 1, none⟩ = some (.int .i64 nd) := fun o => ((hb o).cell (p := ⟨sb, 1, none⟩) (World.block_lt_of_cell? W _ h1)).trans h1
  have hc2 : ∀ o, (W.alloc o).cell? ⟨ob, 0, none⟩ = some (.pointer (some ⟨g, 0, none⟩)) := fun o => ((hb o).cell (p := ⟨ob, 0, none⟩) (World.block_lt_of_cell? W _ h2)).trans h2
  have hc3 : ∀ o, (W.alloc o).cell? ⟨g, 1, none⟩ = some (.map (some bo)) := fun o => ((hb o).cell (p := ⟨g, 1, none⟩) (World.block_lt_of_cell? W _ h3)).trans h3
  have ho1 := ho.alloc (.cells #[.int .i64 nd, .int .i64 t] 55)
  have k0 : (W.alloc (.cells #[.int .i64 nd, .int .i64 t] 55)).cell? ⟨W.heap.size, 0, none⟩ = some (.int .i64 nd) := by simp [go_sem]
  have k1 : (W.alloc (.cells #[.int .i64 nd, .int .i64 t] 55)).cell? ⟨W.heap.size, 1, none⟩ = some (.int .i64 t) := by simp [go_sem]
  have HO := Lib.hid ho1
  clear ho ho1 hb
  go_enter Try.func45, Try.ntmps45
  go_wp2
  refine wp_region_tail 6 (by kernel_rfl) (by kernel_rfl) (fun W1 hS => ?_)
  have d1 := hS.cell (hc1 _)
  have d2 := hS.cell (hc2 _)
  have d3 := hS.cell (hc3 _)
  have d4 := hS.cell k0
  have d5 := hS.cell k1
  have ho2 := HO.out.same hS
  have hgr := (World.grownBy_alloc W (.cells #[.int .i64 nd, .int .i64 t] 55) none).trans hS.grown
  have HG := Lib.hid hgr
  clear hS hc1 hc2 hc3 k0 k1 h1 h2 h3 hgr
  simp only [List.take_succ_cons, List.take_zero, List.drop_succ_cons, List.drop_zero]
  repeat still_step
  refine wpStill_nil ?_
  clear d2 d3
  refine wpList_del_F _ rfl _ _ 74 rfl EI 3 Try.underlying74 bo m fo rfl ho2 t rfl wt ?_
  intro W2 ho3 ht1
  have e1 := turned_cell ht1 d1
  have e4 := turned_cell ht1 d4
  have HF := Lib.hid (And.intro ho3 ((HG.out.but (some bo)).trans ht1.grown))
  clear d1 d4 d5 ho2 ho3 ht1
  go_wp2
  go_ret
  exact ⟨rfl, HF.out⟩

def Struck (nd : Int) (fc : Int × Int → Option Int) (left : Lit → Bool) (x : Int × Int) : Prop := (I64 x.1 ∧ I64 x.2) ∧ (fc x).isSome = true ∧ left (clit x) = false ∧ x.1 = nd
/-- How far the deletion has come. -/
structure DelInv (nd : Int) (fc : Int × Int → Option Int) (fo fo' : Int → Option Int) (D : DataW Unit) (left : Lit → Bool) : Prop where
  c : ∀ x, (I64 x.1 ∧ I64 x.2) → ∀ z, D.atKey (clit x) z = rdAt (if left (clit x) = false ∧ x.1 = nd then none else fc x) z
  o1 : ∀ t, I64 t → (∃ x, Struck nd fc left x ∧ x.2 = t) → fo' t = none
  o2 : ∀ t, I64 t → (¬ ∃ x, Struck nd fc left x ∧ x.2 = t) → fo' t = fo t

theorem sameKey_clit {x y : Int × Int} (hx : I64 x.1 ∧ I64 x.2) (hy : I64 y.1 ∧ I64 y.2) : (clit x).sameKey (clit y) = decide (x = y) := by
  by_cases h : x = y
  · subst h
    simp [clit, Lit.sameKey]
  · have : clit x ≠ clit y := fun e => h (EC.lit_inj hx hy e)
    rw [Maps.sameKey_ne this]; simp [h]

theorem DelInv.step {nd : Int} {fc : Int × Int → Option Int} {fo fo' : Int → Option Int} {D : DataW Unit} {left : Lit → Bool} (h : DelInv nd fc fo fo' D left) {x : Int × Int} (hx : I64 x.1 ∧ I64 x.2) (hl : left (clit x) = true) (hs : (fc x).isSome = true) :
    if x.1 = nd then DelInv nd fc fo (upd fo' x.2 none) (D.del (clit x)) (fun z => left z && !z.sameKey (clit x)) else DelInv nd fc fo fo' D (fun z => left z && !z.sameKey (clit x)) := by
  have hst : ∀ y, Struck nd fc (fun z => left z && !z.sameKey (clit x)) y ↔ Struck nd fc left y ∨ (y = x ∧ x.1 = nd) := by
    intro y
    unfold Struck
    constructor
    · rintro ⟨hy, h1, h2, h3⟩
      simp only at h2
      rw [sameKey_clit hy hx] at h2
      by_cases e : y = x
      · subst e; exact .inr ⟨rfl, h3⟩
      · simp [e] at h2; exact .inl ⟨hy, h1, h2, h3⟩
    · rintro (⟨hy, h1, h2, h3⟩ | ⟨rfl, h3⟩)
      · exact ⟨hy, h1, by simp [h2], h3⟩
      · exact ⟨hx, hs, by simp [sameKey_clit hx hx], h3⟩
  split
  · rename_i hnd
    refine ⟨fun y hy z => ?_, fun t ht => ?_, fun t ht => ?_⟩
    · by_cases e : y = x
      · subst e
        rw [Maps.atKey_del_same, sameKey_clit hy hy]; simp [hnd, rdAt]
      · rw [Maps.atKey_del_other (show clit y ≠ clit x from fun hh => e (EC.lit_inj hy hx hh)), h.c y hy, sameKey_clit hy hx]
        simp [e]
    · rintro ⟨y, hy, rfl⟩
      rw [hst] at hy
      unfold upd
      split
      · rfl
      · rename_i e
        rcases hy with hy | ⟨rfl, _⟩
        · exact h.o1 _ ht ⟨y, hy, rfl⟩
        · exact absurd rfl e
    · intro hn
      unfold upd
      rw [if_neg]
      · exact h.o2 t ht fun ⟨y, hy, e⟩ => hn ⟨y, (hst y).2 (.inl hy), e⟩
      · rintro rfl
        exact hn ⟨x, (hst x).2 (.inr ⟨rfl, hnd⟩), rfl⟩
  · rename_i hnd
    refine ⟨fun y hy z => ?_, fun t ht => ?_, fun t ht => ?_⟩
    · rw [h.c y hy, sameKey_clit hy hx]
      by_cases e : y = x
      · subst e; simp [hnd]
      · simp [e]
    · rintro ⟨y, hy, rfl⟩
      rw [hst] at hy
      rcases hy with hy | ⟨rfl, e⟩
      · exact h.o1 _ ht ⟨y, hy, rfl⟩
      · exact absurd e hnd
    · intro hn
      exact h.o2 t ht fun ⟨y, hy, e⟩ => hn ⟨y, (hst y).2 (.inl hy), e⟩

set_option maxHeartbeats 4000000 in
set_option maxRecDepth 100000 in
theorem deleteFunc_calls (sb ob g bc bo m : Nat) (nd : Int) (fc : Int × Int → Option Int) (fo : Int → Option Int) (w : World) (h1 : w.cell? ⟨sb, 1, none⟩ = some (.int .i64 nd)) (h2 : w.cell? ⟨ob, 0, none⟩ = some (.pointer (some ⟨g, 0, none⟩)))
    (h3 : w.cell? ⟨g, 1, none⟩ = some (.map (some bo))) (hc : MapF EC 3 w bc m fc) (ho : MapF EI 3 w bo m fo) (hne : bc ≠ bo) (hsb : sb ≠ bc ∧ sb ≠ bo) (hob : ob ≠ bc ∧ ob ≠ bo) (hg : g ≠ bc ∧ g ≠ bo) :
    Calls Try.prog 44 #[.map (some bc), .func (.func 45) #[] #[.pointer (some ⟨sb, 0, none⟩), .pointer (some ⟨ob, 0, none⟩)]] w fun e w' => e = .returned (.tuple #[]) ∧
      MapF EC 3 w' bc m (fun x => if x.1 = nd then none else fc x) ∧ (∃ fo', MapF EI 3 w' bo m fo' ∧ ∀ t, I64 t → ((∃ x, (I64 x.1 ∧ I64 x.2) ∧ (fc x).isSome = true ∧ x.1 = nd ∧ x.2 = t) → fo' t = none) ∧ ((¬ ∃ x, (I64 x.1 ∧ I64 x.2) ∧ (fc x).isSome = true ∧ x.1 = nd ∧ x.2 = t) → fo' t = fo t)) ∧ Keep (fun i => i = bc ∨ i = bo) w w' := by
  obtain ⟨D0, hown, hq⟩ := hc
  have HQ : Hid (∀ x : Int × Int, (I64 x.1 ∧ I64 x.2) → ∀ z, D0.atKey (clit x) z = rdAt (fc x) z) := Lib.hid hq
  clear hq
  have bcl := hown.lt
  have bol := ho.lt
  go_enter Try.func44, Try.ntmps44
  go_wp2_with (first
    | (at_range; refine wpList_range_own _ rfl _ 73 rfl 55 3 law55 Try.underlying73 (plainElem Try.prog 3) bc m _ rfl hown ?_; intro w0 hrg0 hg0 hs0)
    | fail)
  go_frame
  go_loopw [8] (fun _ wr => ∃ (D : DataW Unit) (left : Lit → Bool) (cnt : Nat) (fo' : Int → Option Int), wr.ranges Try.prog 55 (plainElem Try.prog 3) bc w.heap.size m D left cnt ∧ DelInv nd fc fo fo' D left ∧ MapF EI 3 wr bo m fo' ∧ Keep (fun i => i = bc ∨ i = bo) w wr)
    (fun _ wr => wr.rangeLeft bc w.heap.size)
  case atStart =>
    refine ⟨D0, _, _, fo, hrg0, ⟨fun x hx z => ?_, fun t ht => ?_, fun t ht _ => rfl⟩, ho.kept hg0 (by simp), (Keep.refl _ _).grown hg0 (fun _ e => by cases e)⟩
    · rw [HQ.out x hx]
      split
      · rename_i hh
        have := HQ.out x hx
        have e0 : fc x = none := by
          cases hf : fc x with
          | none => rfl
          | some v =>
            have h4 := Maps.has_true_of_atKey (D := D0) (k := clit x) (y := .lit (.int .i64 v)) (fun z => by rw [HQ.out x hx, hf]; rfl)
            rw [hh.1] at h4; cases h4
        rw [e0]
      · rfl
    · rintro ⟨x, ⟨hx, hs, hl, _⟩, _⟩
      exfalso
      obtain ⟨v, hv⟩ := Option.isSome_iff_exists.1 hs
      have h4 := Maps.has_true_of_atKey (D := D0) (k := clit x) (y := .lit (.int .i64 v)) (fun z => by rw [HQ.out x hx, hv]; rfl)
      rw [hl] at h4; cases h4
  case round =>
    obtain ⟨D, left, cnt, fo', hrg, hI, ho1, hK⟩ := hrel
    have k1 := hK.cell (g := sb) (o := 1) (by rintro (h | h); exact hsb.1 h; exact hsb.2 h) h1
    have k2 := hK.cell (g := ob) (o := 0) (by rintro (h | h); exact hob.1 h; exact hob.2 h) h2
    have k3 := hK.cell (g := g) (o := 1) (by rintro (h | h); exact hg.1 h; exact hg.2 h) h3
    have HI := Lib.hid hI
    have HKE := Lib.hid hK
    clear hI hK
    go_wp2_with (first
      | (at_next; refine wpList_next_ranges _ rfl _ rfl 55 law55 (plainElem Try.prog 3) (fun x : Int × Int => .agg #[.int .i64 x.1, .int .i64 x.2]) (Value.int .i64) (fun key kl hk => by obtain ⟨x, _, rfl, _⟩ := keyOf_c_inv hk; exact ⟨x, rfl⟩) (fun v y hv => by obtain ⟨c, rfl, _⟩ := plainElem_int_inv Try.underlying3 hv; exact ⟨c, rfl⟩) bc w.heap.size m _ _ _ rfl hrg ?_ ?_)
      | fail)
    · -- nothing is left
      intro _ hl0
      have hown1 := hrg.owns
      have HF : Hid (MapF EC 3 wr bc m (fun x => if x.1 = nd then none else fc x) ∧ (∃ fo', MapF EI 3 wr bo m fo' ∧ ∀ t, I64 t → ((∃ x : Int × Int, (I64 x.1 ∧ I64 x.2) ∧ (fc x).isSome = true ∧ x.1 = nd ∧ x.2 = t) → fo' t = none) ∧ ((¬ ∃ x : Int × Int, (I64 x.1 ∧ I64 x.2) ∧ (fc x).isSome = true ∧ x.1 = nd ∧ x.2 = t) → fo' t = fo t)) ∧ Keep (fun i => i = bc ∨ i = bo) w wr) := by
        refine Lib.hid ⟨⟨D, hown1, fun x hx z => ?_⟩, ⟨fo', ho1, fun t ht => ⟨?_, ?_⟩⟩, HKE.out⟩
        · have := HI.out.c x hx z
          rw [hl0] at this
          have h7 : D.atKey (clit x) z = rdAt (if x.1 = nd then none else fc x) z := by simpa using this
          exact h7
        · rintro ⟨x, hx, hs, hnd, e⟩
          exact HI.out.o1 t ht ⟨x, ⟨hx, hs, hl0 _, hnd⟩, e⟩
        · intro hn
          exact HI.out.o2 t ht fun ⟨x, ⟨hx, hs, _, hnd⟩, e⟩ => hn ⟨x, hx, hs, hnd, e⟩
      clear hown1 ho1 hrg HI HKE k1 k2 k3
      go_wp2
      go_end0
      exact ⟨rfl, HF.out⟩
    · -- an entry has come
      intro a b c kl yd yp w1 cnt1 hkey hlx hv hat hrg1 hlt hg1 hs1 hen
      obtain ⟨⟨a', b'⟩, hx, ex, rfl⟩ := keyOf_c_inv hkey
      obtain ⟨rfl, rfl⟩ : a = a' ∧ b = b' := by simpa [cval] using ex
      clear ex hkey
      have hsome : (fc (a, b)).isSome = true := by
        cases hf : fc (a, b) with
        | some v => rfl
        | none =>
          exfalso
          have h5 := HI.out.c (a, b) hx DataW.nil
          have h6 := HI.out.c (a, b) hx (DataW.lit (.int .i64 c))
          simp only [hf, ite_self, rdAt] at h5 h6
          have h7 := hat DataW.nil
          have h8 := hat (DataW.lit (.int .i64 c))
          rw [h5] at h7
          rw [h6] at h8
          rw [← h7] at h8
          cases h8
      have hstep := HI.out.step hx hlx hsome
      have HST := Lib.hid hstep
      have hK1 := HKE.out.grown hg1 (fun j e => by cases e; exact .inr (Nat.le_refl _))
      have HK1 := Lib.hid hK1
      have hrl := hrg1.lt
      have hrne := hrg1.ne
      have ho2 := ho1.kept hg1 (by simp; omega)
      have m1 := hK1.cell (g := sb) (o := 1) (by rintro (h | h); exact hsb.1 h; exact hsb.2 h) h1
      have m2 := hK1.cell (g := ob) (o := 0) (by rintro (h | h); exact hob.1 h; exact hob.2 h) h2
      have m3 := hK1.cell (g := g) (o := 1) (by rintro (h | h); exact hg.1 h; exact hg.2 h) h3
      have HM := Lib.hid (And.intro m1 (And.intro m2 m3))
      clear hstep hat hsome hK1 k1 k2 k3 hg1 hv ho1 HI HKE m1 m2 m3 hs1
      by_cases hnd : (a == nd) = true
      · obtain rfl : a = nd := by simpa using hnd
        have hST : DelInv a fc fo (upd fo' b none) (D.del (clit (a, b))) (fun z => left z && !z.sameKey (clit (a, b))) := by simpa using HST.out
        have HST2 := Lib.hid hST
        have hrg1' := hrg1.alloc (.cells #[.int .i64 a, .int .i64 b] 55)
        have ho2' := ho2.alloc (.cells #[.int .i64 a, .int .i64 b] 55)
        have hKa := HK1.out.alloc (.cells #[.int .i64 a, .int .i64 b] 55)
        have n1 := hKa.cell (g := sb) (o := 1) (by rintro (h | h); exact hsb.1 h; exact hsb.2 h) h1
        have n2 := hKa.cell (g := ob) (o := 0) (by rintro (h | h); exact hob.1 h; exact hob.2 h) h2
        have n3 := hKa.cell (g := g) (o := 1) (by rintro (h | h); exact hg.1 h; exact hg.2 h) h3
        have q0 : (w1.alloc (.cells #[.int .i64 a, .int .i64 b] 55)).cell? ⟨w1.heap.size, 0, none⟩ = some (.int .i64 a) := by simp [go_sem]
        have q1 : (w1.alloc (.cells #[.int .i64 a, .int .i64 b] 55)).cell? ⟨w1.heap.size, 1, none⟩ = some (.int .i64 b) := by simp [go_sem]
        have hcon := del_yes sb ob g bo m b c a fo' _ n1 n2 n3 ho2' hx.2
        have HC1 := Lib.hid hcon
        have HQ0 := Lib.hid q0
        have HQ1 := Lib.hid q1
        have HRG := Lib.hid hrg1'
        have HKA := Lib.hid hKa
        have bo1 := ho2.lt
        clear hST hrg1 hrg1' ho2 ho2' hKa n1 n2 n3 q0 q1 hcon HST HK1 HM hnd
        go_wp2_with fail
        refine HC1.out.mono ?_
        rintro e w2 ⟨rfl, ho3, hg2⟩
        have q0 := hg2.cell HQ0.out (by simp; omega)
        have q1 := hg2.cell HQ1.out (by simp; omega)
        have hrg2 := HRG.out.kept hg2 (by simpa using hne) (by simp; omega)
        have hK2 := HKA.out.grown hg2 (fun j e => by cases e; exact .inl (.inr rfl))
        have HK2 := Lib.hid hK2
        clear hK2 hg2
        go_wp2_with (first | (at_delete; refine wpList_delete_ranges _ rfl _ _ 73 55 rfl 3 law55 Try.underlying73 (plainElem Try.prog 3) bc w.heap.size m _ _ _ rfl hrg2 (.agg #[.int .i64 a, .int .i64 b]) _ rfl (show keyOf Try.prog 55 (.agg #[.int .i64 a, .int .i64 b]) = some (clit (a, b)) from keyOf_c (x := (a, b)) hx) ?_; intro w3 cnt3 hrg3 hle hturn; go_frame) | fail)
        have hle2 : w3.rangeLeft bc w.heap.size < wr.rangeLeft bc w.heap.size := by rw [hrg3.left_eq, hrg.left_eq]; omega
        rw [strike_twice] at hrg3
        have ho4 := ho3.kept hturn.grown (by simpa using fun h => hne h.symm)
        have hK3 := HK2.out.grown hturn.grown (fun j e => by cases e; exact .inl (.inl rfl))
        go_roundw
        case rel => exact ⟨_, _, cnt3, _, hrg3, HST2.out, ho4, hK3⟩
        case measure => exact hle2
      · have hnd' : (a == nd) = false := by simpa using hnd
        have hST : DelInv nd fc fo fo' D (fun z => left z && !z.sameKey (clit (a, b))) := by
          have h9 := HST.out
          rw [if_neg (show ¬ (a, b).1 = nd from by simpa using hnd)] at h9
          exact h9
        have HST2 := Lib.hid hST
        have hrg1' := hrg1.alloc (.cells #[.int .i64 a, .int .i64 b] 55)
        have ho2' := ho2.alloc (.cells #[.int .i64 a, .int .i64 b] 55)
        have hKa := HK1.out.alloc (.cells #[.int .i64 a, .int .i64 b] 55)
        have n1 := hKa.cell (g := sb) (o := 1) (by rintro (h | h); exact hsb.1 h; exact hsb.2 h) h1
        have hcon := del_no sb ob a b c nd _ n1 hnd'
        have HC1 := Lib.hid hcon
        have HRG := Lib.hid hrg1'
        have HKA := Lib.hid hKa
        have HO2 := Lib.hid ho2'
        clear hST hrg1 hrg1' ho2 ho2' hKa n1 hcon HST HK1 HM hnd hnd'
        go_wp2_with fail
        refine HC1.out.mono ?_
        rintro e w2 ⟨rfl, hg2⟩
        have hrg2 := HRG.out.kept hg2 (by simp) (by simp)
        have ho3 := HO2.out.kept hg2 (by simp)
        have hK2 := HKA.out.grown hg2 (fun j e => by cases e)
        have hle2 : w2.rangeLeft bc w.heap.size < wr.rangeLeft bc w.heap.size := by rw [hrg2.left_eq, hrg.left_eq]; omega
        have HF := Lib.hid (And.intro hrg2 (And.intro ho3 hK2))
        clear hrg2 ho3 hK2 hg2
        go_wp2
        go_roundw
        case rel => exact ⟨_, _, cnt1, _, HF.out.1, HST2.out, HF.out.2.1, HF.out.2.2⟩
        case measure => exact hle2
end Go.Proofs.Ytojgiaemgpnfdaa.J
