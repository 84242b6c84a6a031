/- The walk of judge.take where a node fell. -/
import Derived.Test.YtojgiaemgpnfdaaJ3
set_option linter.unusedVariables false
set_option linter.unusedSimpArgs false
namespace Go.Proofs.Ytojgiaemgpnfdaa.J
open Go.RowKit Go.Maps Go.Proofs.YtojgiaemgpnfdaaM

theorem Held.keep {w w' : World} {g bc bo bm ob sb cb : Nat} {k n t : Int} (h : Held w g bc bo bm ob sb cb k n t) {S : Nat → Prop} (hk : Keep S w w') (hg : ¬ S g) (ho : ¬ S ob) (hs : ¬ S sb) (hc : ¬ S cb) : Held w' g bc bo bm ob sb cb k n t :=
  ⟨hk.cell hg h.g0, hk.cell hg h.g1, hk.cell hg h.g2, hk.cell ho h.o0, hk.cell hs h.s0, hk.cell hs h.s1, hk.cell hs h.s2, hk.cell hc h.c0, hk.cell hc h.c1⟩

set_option maxHeartbeats 1600000 in
set_option maxRecDepth 100000 in
theorem take_f (limit n : Int) (g bc bo bm m : Nat) (fc : Int × Int → Option Int) (fo fm : Int → Option Int) (w : World)
    (h0 : w.cell? ⟨g, 0, none⟩ = some (.map (some bc))) (h1 : w.cell? ⟨g, 1, none⟩ = some (.map (some bo))) (h2 : w.cell? ⟨g, 2, none⟩ = some (.map (some bm)))
    (hc : MapF EC 3 w bc m fc) (ho : MapF EI 3 w bo m fo) (hm : MapF EI 3 w bm m fm) (hne : bc ≠ bo ∧ bc ≠ bm ∧ bo ≠ bm) (hmm : m < 100000) (hb1 : 1 ≤ limit) (hn1 : 1 ≤ n) (hn7 : n ≤ 7) :
    Calls Try.prog 37 #[.pointer (some ⟨g, 0, none⟩), .int .i64 limit, .agg #[.int .i64 3, .int .i64 n, .int .i64 0]] w fun e w' => e = .returned (.int .i64 0) ∧
      (MapF EC 3 w' bc m (fun x => if x.1 = n then none else fc x) ∧ (∃ fo', MapF EI 3 w' bo m fo' ∧ ∀ t, I64 t → ((∃ x : Int × Int, (I64 x.1 ∧ I64 x.2) ∧ (fc x).isSome = true ∧ x.1 = n ∧ x.2 = t) → fo' t = none) ∧ ((¬ ∃ x : Int × Int, (I64 x.1 ∧ I64 x.2) ∧ (fc x).isSome = true ∧ x.1 = n ∧ x.2 = t) → fo' t = fo t)) ∧ MapF EI 3 w' bm (m + 1) (upd fm n (some 0))) ∧
      Keep (fun i => i = bc ∨ i = bo ∨ i = bm) w w' := by
  have fin : ∀ o1 o2 o3 : Obj, Keep (fun i => i = bc ∨ i = bo ∨ i = bm) w (((w.alloc o1).alloc o2).alloc o3) := fun o1 o2 o3 => (((Keep.refl _ _).alloc _).alloc _).alloc _
  have wn : I64 n := by unfold I64; omega
  have hs := held_start w 3 n 0 g bc bo bm h0 h1 h2
  obtain ⟨ne1, ne2, ne3⟩ := hne
  have bcl := hc.lt
  have bol := ho.lt
  have bml := hm.lt
  have gc := mapF_ne_cell hc h0
  have go' := mapF_ne_cell ho h0
  have gm := mapF_ne_cell hm h0
  have hcc := (((hc.alloc (.cells #[.pointer (some ⟨g, 0, none⟩)] 57)).alloc (.cells #[.int .i64 3, .int .i64 n, .int .i64 0] 28)).alloc (.cells #[.int .i64 n, .int .i64 0] 55))
  have hoo := (((ho.alloc (.cells #[.pointer (some ⟨g, 0, none⟩)] 57)).alloc (.cells #[.int .i64 3, .int .i64 n, .int .i64 0] 28)).alloc (.cells #[.int .i64 n, .int .i64 0] 55))
  have hmm2 := (((hm.alloc (.cells #[.pointer (some ⟨g, 0, none⟩)] 57)).alloc (.cells #[.int .i64 3, .int .i64 n, .int .i64 0] 28)).alloc (.cells #[.int .i64 n, .int .i64 0] 55))
  have HS := Lib.hid hs
  have hcon := deleteFunc_calls (w.heap.size + 1) w.heap.size g bc bo m n fc fo _ hs.s1 hs.o0 hs.g1 hcc hoo ne1 ⟨by omega, by omega⟩ ⟨by omega, by omega⟩ ⟨gc, go'⟩
  have HCON := Lib.hid hcon
  have HM := Lib.hid hmm2
  obtain ⟨g0, g1, g2, o0, s0, s1, s2, c0, c1⟩ := hs
  clear hc ho hm hcc hoo hmm2 hcon
  go_enter Try.func37, Try.ntmps37
  go_wp2_with fail
  refine HCON.out.mono ?_
  rintro e w1 ⟨rfl, hc1, ⟨fo', ho1, hfo⟩, hk⟩
  have hm1 := mapF_keep HM.out hk (by rintro (h | h); exact ne2 h.symm; exact ne3 h.symm)
  have HS1 := HS.out.keep hk (by rintro (h | h); exact gc h; exact go' h) (by rintro (h | h) <;> omega) (by rintro (h | h) <;> omega) (by rintro (h | h) <;> omega)
  have hK1 := (fin (.cells #[.pointer (some ⟨g, 0, none⟩)] 57) (.cells #[.int .i64 3, .int .i64 n, .int .i64 0] 28) (.cells #[.int .i64 n, .int .i64 0] 55)).trans (keep_mono hk (fun i h => by rcases h with h | h; exact .inl h; exact .inr (.inl h)))
  have HK1 := Lib.hid hK1
  have HS2 := Lib.hid HS1
  have HFO := Lib.hid hfo
  clear hk hK1 g0 g1 g2 o0 s0 s1 s2 c0 c1 hfo
  obtain ⟨g0, g1, g2, o0, s0, s1, s2, c0, c1⟩ := HS1
  go_wp2
  clear g0 g1 g2 o0 s0 s1 s2 c0 c1
  refine wp_region_tail 6 (by kernel_rfl) (by kernel_rfl) (fun W2 hS => ?_)
  have HS6 := HS2.out.same hS
  have hc4 := hc1.same hS
  have ho4 := ho1.same hS
  have hm4 := hm1.same hS
  have hK2 := HK1.out.same hS
  have HK2 := Lib.hid hK2
  clear hS hc1 ho1 hm1 hK2
  obtain ⟨g0, g1, g2, o0, s0, s1, s2, c0, c1⟩ := HS6
  simp only [List.take_succ_cons, List.take_zero, List.drop_succ_cons, List.drop_zero]
  repeat still_step
  refine wpStill_nil ?_
  clear g0 g1 g2 o0 s0 s1 s2 c0 c1
  refine wpList_put_F _ rfl _ _ _ 74 rfl EI 3 Try.underlying74 Try.underlying3 bm m fm rfl hm4 (by unfold maxLen; omega) n rfl wn 0 rfl (by decide) ?_
  intro W3 hm5 ht1
  have hc5 := hc4.kept ht1.grown (by simpa using ne2)
  have ho5 := ho4.kept ht1.grown (by simpa using ne3)
  have hK3 := HK2.out.grown ht1.grown (fun j e => by cases e; exact .inl (.inr (.inr rfl)))
  have H1 := Lib.hid hc5
  have H2 := Lib.hid ho5
  have H3 := Lib.hid hm5
  have H4 := Lib.hid hK3
  clear hc4 ho4 hm4 hc5 ho5 hm5 hK3 ht1
  go_wp2
  go_ret
  exact ⟨rfl, ⟨H1.out, ⟨fo', H2.out, HFO.out⟩, H3.out⟩, H4.out⟩
end Go.Proofs.Ytojgiaemgpnfdaa.J
