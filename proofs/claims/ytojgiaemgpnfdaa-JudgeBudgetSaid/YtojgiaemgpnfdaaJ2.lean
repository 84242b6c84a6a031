/- The walks of judge.take, a theorem a way. -/
import Derived.Test.YtojgiaemgpnfdaaJ1
set_option linter.unusedVariables false
set_option linter.unusedSimpArgs false
namespace Go.Proofs.Ytojgiaemgpnfdaa.J
open Go.RowKit Go.Maps Go.Proofs.YtojgiaemgpnfdaaM
/-- What take's own boxes and the struct of the three maps hold. -/
structure Held (w : World) (g bc bo bm ob sb cb : Nat) (k n t : Int) : Prop where
  g0 : w.cell? ⟨g, 0, none⟩ = some (.map (some bc))
  g1 : w.cell? ⟨g, 1, none⟩ = some (.map (some bo))
  g2 : w.cell? ⟨g, 2, none⟩ = some (.map (some bm))
  o0 : w.cell? ⟨ob, 0, none⟩ = some (.pointer (some ⟨g, 0, none⟩))
  s0 : w.cell? ⟨sb, 0, none⟩ = some (.int .i64 k)
  s1 : w.cell? ⟨sb, 1, none⟩ = some (.int .i64 n)
  s2 : w.cell? ⟨sb, 2, none⟩ = some (.int .i64 t)
  c0 : w.cell? ⟨cb, 0, none⟩ = some (.int .i64 n)
  c1 : w.cell? ⟨cb, 1, none⟩ = some (.int .i64 t)

variable {w w' : World} {g bc bo bm ob sb cb : Nat} {k n t : Int}
theorem Held.turned (h : Held w g bc bo bm ob sb cb k n t) {b : Nat} (ht : w.mapTurned w' b) : Held w' g bc bo bm ob sb cb k n t :=
  ⟨turned_cell ht h.g0, turned_cell ht h.g1, turned_cell ht h.g2, turned_cell ht h.o0, turned_cell ht h.s0, turned_cell ht h.s1, turned_cell ht h.s2, turned_cell ht h.c0, turned_cell ht h.c1⟩
theorem Held.same {W : World} (h : Held w g bc bo bm ob sb cb k n t) (hs : Same w W) : Held W g bc bo bm ob sb cb k n t :=
  ⟨hs.cell h.g0, hs.cell h.g1, hs.cell h.g2, hs.cell h.o0, hs.cell h.s0, hs.cell h.s1, hs.cell h.s2, hs.cell h.c0, hs.cell h.c1⟩
theorem held_start (w : World) (k n t : Int) (g bc bo bm : Nat) (h0 : w.cell? ⟨g, 0, none⟩ = some (.map (some bc))) (h1 : w.cell? ⟨g, 1, none⟩ = some (.map (some bo))) (h2 : w.cell? ⟨g, 2, none⟩ = some (.map (some bm))) :
    Held (((w.alloc (.cells #[.pointer (some ⟨g, 0, none⟩)] 57)).alloc (.cells #[.int .i64 k, .int .i64 n, .int .i64 t] 28)).alloc (.cells #[.int .i64 n, .int .i64 t] 55)) g bc bo bm w.heap.size (w.heap.size + 1) (w.heap.size + 1 + 1) k n t := by
  have hg : g < w.heap.size := World.block_lt_of_cell? w _ h0
  have hb : ∀ o1 o2 o3 : Obj, Below w.heap.size w (((w.alloc o1).alloc o2).alloc o3) := fun o1 o2 o3 => (((Below.refl _ _).alloc (Nat.le_refl _) _).alloc (by simp) _).alloc (by simp; omega) _
  refine ⟨?_, ?_, ?_, ?_, ?_, ?_, ?_, ?_, ?_⟩
  · exact ((hb _ _ _).cell (p := ⟨g, 0, none⟩) hg).trans h0
  · exact ((hb _ _ _).cell (p := ⟨g, 1, none⟩) hg).trans h1
  · exact ((hb _ _ _).cell (p := ⟨g, 2, none⟩) hg).trans h2
  all_goals simp [go_sem]

set_option maxHeartbeats 1600000 in
set_option maxRecDepth 100000 in
theorem take_o1 (limit n t : Int) (g bc bo bm m : Nat) (fc : Int × Int → Option Int) (fo fm : Int → Option Int) (w : World)
    (h0 : w.cell? ⟨g, 0, none⟩ = some (.map (some bc))) (h1 : w.cell? ⟨g, 1, none⟩ = some (.map (some bo))) (h2 : w.cell? ⟨g, 2, none⟩ = some (.map (some bm)))
    (hc : MapF EC 3 w bc m fc) (ho : MapF EI 3 w bo m fo) (hm : MapF EI 3 w bm m fm) (hb1 : 1 ≤ limit) (hn1 : 1 ≤ n) (hn7 : n ≤ 7) (ht1 : 1 ≤ t) (ht : t ≤ limit) (hl : limit ≤ 9223372036854775807)
    (hin : (fc (n, t)).getD 0 = 1) :
    Calls Try.prog 37 #[.pointer (some ⟨g, 0, none⟩), .int .i64 limit, .agg #[.int .i64 1, .int .i64 n, .int .i64 t]] w fun e w' => e = .returned (.int .i64 3) ∧ Below w.heap.size w w' := by
  have fin : ∀ o1 o2 o3 : Obj, Below w.heap.size w (((w.alloc o1).alloc o2).alloc o3) := fun o1 o2 o3 => (((Below.refl _ _).alloc (Nat.le_refl _) _).alloc (by simp) _).alloc (by simp; omega) _
  have wn : I64 n := by unfold I64; omega
  have wt : I64 t := by unfold I64; omega
  have hs := held_start w 1 n t g bc bo bm h0 h1 h2
  have hlk1 : ∀ o1 o2 o3 q, (Instr.lookup 73 (.map (some bc)) (.agg #[.int .i64 n, .int .i64 t]) false).run Try.prog ((((w.alloc o1).alloc o2).alloc o3).drewN q) = .ok (.int .i64 1) ((((w.alloc o1).alloc o2).alloc o3).drewN q) := by
    intro o1 o2 o3 q
    have := ((((hc.alloc o1).alloc o2).alloc o3).drewN q).look (t := 73) Try.underlying73 Try.underlying3 zero3 (x := (n, t)) ⟨wn, wt⟩
    rw [hin] at this
    exact this
  have HI := Lib.hid hin
  clear hin
  obtain ⟨g0, g1, g2, o0, s0, s1, s2, c0, c1⟩ := hs
  have FIN : Hid (∀ W, Same (((w.alloc (.cells #[.pointer (some ⟨g, 0, none⟩)] 57)).alloc (.cells #[.int .i64 1, .int .i64 n, .int .i64 t] 28)).alloc (.cells #[.int .i64 n, .int .i64 t] 55)) W → Below w.heap.size w W) := Lib.hid fun W h => h.below (fin _ _ _)
  clear hc ho hm fin
  go_enter Try.func37, Try.ntmps37
  go_wp2
  go_quiet (fail)
  go_wp2
  go_ret
  exact ⟨rfl, FIN.out _ (same_drewN _ _)⟩
set_option maxHeartbeats 1600000 in
set_option maxRecDepth 100000 in
theorem take_o2 (limit n t : Int) (g bc bo bm m : Nat) (fc : Int × Int → Option Int) (fo fm : Int → Option Int) (w : World)
    (h0 : w.cell? ⟨g, 0, none⟩ = some (.map (some bc))) (h1 : w.cell? ⟨g, 1, none⟩ = some (.map (some bo))) (h2 : w.cell? ⟨g, 2, none⟩ = some (.map (some bm)))
    (hc : MapF EC 3 w bc m fc) (ho : MapF EI 3 w bo m fo) (hm : MapF EI 3 w bm m fm) (hb1 : 1 ≤ limit) (hn1 : 1 ≤ n) (hn7 : n ≤ 7) (ht1 : 1 ≤ t) (ht : t ≤ limit) (hl : limit ≤ 9223372036854775807)
    (hin : (fc (n, t)).getD 0 = 0) (v : Int) (hown : (fo t).getD 0 = v) (hv : (v == 0) = false) (hv2 : (v != 0) = true) :
    Calls Try.prog 37 #[.pointer (some ⟨g, 0, none⟩), .int .i64 limit, .agg #[.int .i64 1, .int .i64 n, .int .i64 t]] w fun e w' => e = .returned (.int .i64 220) ∧ Below w.heap.size w w' := by
  have fin : ∀ o1 o2 o3 : Obj, Below w.heap.size w (((w.alloc o1).alloc o2).alloc o3) := fun o1 o2 o3 => (((Below.refl _ _).alloc (Nat.le_refl _) _).alloc (by simp) _).alloc (by simp; omega) _
  have wn : I64 n := by unfold I64; omega
  have wt : I64 t := by unfold I64; omega
  have hs := held_start w 1 n t g bc bo bm h0 h1 h2
  have hlk1 : ∀ o1 o2 o3 q, (Instr.lookup 73 (.map (some bc)) (.agg #[.int .i64 n, .int .i64 t]) false).run Try.prog ((((w.alloc o1).alloc o2).alloc o3).drewN q) = .ok (.int .i64 0) ((((w.alloc o1).alloc o2).alloc o3).drewN q) := by
    intro o1 o2 o3 q
    have := ((((hc.alloc o1).alloc o2).alloc o3).drewN q).look (t := 73) Try.underlying73 Try.underlying3 zero3 (x := (n, t)) ⟨wn, wt⟩
    rw [hin] at this
    exact this
  have HI := Lib.hid hin
  clear hin
  have hlk2 : ∀ o1 o2 o3 q, (Instr.lookup 74 (.map (some bo)) (.int .i64 t) false).run Try.prog ((((w.alloc o1).alloc o2).alloc o3).drewN q) = .ok (.int .i64 v) ((((w.alloc o1).alloc o2).alloc o3).drewN q) := by
    intro o1 o2 o3 q
    have := ((((ho.alloc o1).alloc o2).alloc o3).drewN q).look (t := 74) Try.underlying74 Try.underlying3 zero3 (x := t) wt
    rw [hown] at this
    exact this
  have HI2 := Lib.hid hown
  clear hown
  obtain ⟨g0, g1, g2, o0, s0, s1, s2, c0, c1⟩ := hs
  have FIN : Hid (∀ W, Same (((w.alloc (.cells #[.pointer (some ⟨g, 0, none⟩)] 57)).alloc (.cells #[.int .i64 1, .int .i64 n, .int .i64 t] 28)).alloc (.cells #[.int .i64 n, .int .i64 t] 55)) W → Below w.heap.size w W) := Lib.hid fun W h => h.below (fin _ _ _)
  clear hc ho hm fin
  go_enter Try.func37, Try.ntmps37
  go_wp2
  go_quiet (fail)
  go_wp2
  go_quiet (fail)
  go_wp2
  go_ret
  exact ⟨rfl, FIN.out _ ((same_drewN _ _).trans (same_drewN _ _))⟩
set_option maxHeartbeats 1600000 in
set_option maxRecDepth 100000 in
theorem take_o3 (limit n t : Int) (g bc bo bm m : Nat) (fc : Int × Int → Option Int) (fo fm : Int → Option Int) (w : World)
    (h0 : w.cell? ⟨g, 0, none⟩ = some (.map (some bc))) (h1 : w.cell? ⟨g, 1, none⟩ = some (.map (some bo))) (h2 : w.cell? ⟨g, 2, none⟩ = some (.map (some bm)))
    (hc : MapF EC 3 w bc m fc) (ho : MapF EI 3 w bo m fo) (hm : MapF EI 3 w bm m fm) (hb1 : 1 ≤ limit) (hn1 : 1 ≤ n) (hn7 : n ≤ 7) (ht1 : 1 ≤ t) (ht : t ≤ limit) (hl : limit ≤ 9223372036854775807)
    (hin : (fc (n, t)).getD 0 = 0) (hown : (fo t).getD 0 = 0) (c : Int) (hmany : (fm n).getD 0 = c) (hc8 : 8 ≤ c) :
    Calls Try.prog 37 #[.pointer (some ⟨g, 0, none⟩), .int .i64 limit, .agg #[.int .i64 1, .int .i64 n, .int .i64 t]] w fun e w' => e = .returned (.int .i64 6) ∧ Below w.heap.size w w' := by
  have fin : ∀ o1 o2 o3 : Obj, Below w.heap.size w (((w.alloc o1).alloc o2).alloc o3) := fun o1 o2 o3 => (((Below.refl _ _).alloc (Nat.le_refl _) _).alloc (by simp) _).alloc (by simp; omega) _
  have wn : I64 n := by unfold I64; omega
  have wt : I64 t := by unfold I64; omega
  have hs := held_start w 1 n t g bc bo bm h0 h1 h2
  have hlk1 : ∀ o1 o2 o3 q, (Instr.lookup 73 (.map (some bc)) (.agg #[.int .i64 n, .int .i64 t]) false).run Try.prog ((((w.alloc o1).alloc o2).alloc o3).drewN q) = .ok (.int .i64 0) ((((w.alloc o1).alloc o2).alloc o3).drewN q) := by
    intro o1 o2 o3 q
    have := ((((hc.alloc o1).alloc o2).alloc o3).drewN q).look (t := 73) Try.underlying73 Try.underlying3 zero3 (x := (n, t)) ⟨wn, wt⟩
    rw [hin] at this
    exact this
  have HI := Lib.hid hin
  clear hin
  have hlk2 : ∀ o1 o2 o3 q, (Instr.lookup 74 (.map (some bo)) (.int .i64 t) false).run Try.prog ((((w.alloc o1).alloc o2).alloc o3).drewN q) = .ok (.int .i64 0) ((((w.alloc o1).alloc o2).alloc o3).drewN q) := by
    intro o1 o2 o3 q
    have := ((((ho.alloc o1).alloc o2).alloc o3).drewN q).look (t := 74) Try.underlying74 Try.underlying3 zero3 (x := t) wt
    rw [hown] at this
    exact this
  have HI2 := Lib.hid hown
  clear hown
  have hlk3 : ∀ o1 o2 o3 q, (Instr.lookup 74 (.map (some bm)) (.int .i64 n) false).run Try.prog ((((w.alloc o1).alloc o2).alloc o3).drewN q) = .ok (.int .i64 c) ((((w.alloc o1).alloc o2).alloc o3).drewN q) := by
    intro o1 o2 o3 q
    have := ((((hm.alloc o1).alloc o2).alloc o3).drewN q).look (t := 74) Try.underlying74 Try.underlying3 zero3 (x := n) wn
    rw [hmany] at this
    exact this
  have HI3 := Lib.hid hmany
  clear hmany
  obtain ⟨g0, g1, g2, o0, s0, s1, s2, c0, c1⟩ := hs
  have FIN : Hid (∀ W, Same (((w.alloc (.cells #[.pointer (some ⟨g, 0, none⟩)] 57)).alloc (.cells #[.int .i64 1, .int .i64 n, .int .i64 t] 28)).alloc (.cells #[.int .i64 n, .int .i64 t] 55)) W → Below w.heap.size w W) := Lib.hid fun W h => h.below (fin _ _ _)
  clear hc ho hm fin
  go_enter Try.func37, Try.ntmps37
  go_wp2
  go_quiet (fail)
  go_wp2
  go_quiet (fail)
  go_wp2
  go_quiet (fail)
  go_wp2
  go_ret
  exact ⟨rfl, FIN.out _ ((same_drewN _ _).trans ((same_drewN _ _).trans (same_drewN _ _)))⟩
set_option maxHeartbeats 1600000 in
set_option maxRecDepth 100000 in
theorem take_o4 (limit n t : Int) (g bc bo bm m : Nat) (fc : Int × Int → Option Int) (fo fm : Int → Option Int) (w : World)
    (h0 : w.cell? ⟨g, 0, none⟩ = some (.map (some bc))) (h1 : w.cell? ⟨g, 1, none⟩ = some (.map (some bo))) (h2 : w.cell? ⟨g, 2, none⟩ = some (.map (some bm)))
    (hc : MapF EC 3 w bc m fc) (ho : MapF EI 3 w bo m fo) (hm : MapF EI 3 w bm m fm) (hne : bc ≠ bo ∧ bc ≠ bm ∧ bo ≠ bm) (hmm : m < 100000) (hb1 : 1 ≤ limit) (hn1 : 1 ≤ n) (hn7 : n ≤ 7) (ht1 : 1 ≤ t) (ht : t ≤ limit) (hl : limit ≤ 9223372036854775807)
    (hin : (fc (n, t)).getD 0 = 0) (hown : (fo t).getD 0 = 0) (c : Int) (hmany : (fm n).getD 0 = c) (hc8 : c < 8) (hc0 : 0 ≤ c) :
    Calls Try.prog 37 #[.pointer (some ⟨g, 0, none⟩), .int .i64 limit, .agg #[.int .i64 1, .int .i64 n, .int .i64 t]] w fun e w' => e = .returned (.int .i64 0) ∧
      (MapF EC 3 w' bc (m + 1) (upd fc (n, t) (some 1)) ∧ MapF EI 3 w' bo (m + 1) (upd fo t (some n)) ∧ MapF EI 3 w' bm (m + 1) (upd fm n (some (c + 1)))) ∧ Keep (fun i => i = bc ∨ i = bo ∨ i = bm) w w' := by
  have fin : ∀ o1 o2 o3 : Obj, Below w.heap.size w (((w.alloc o1).alloc o2).alloc o3) := fun o1 o2 o3 => (((Below.refl _ _).alloc (Nat.le_refl _) _).alloc (by simp) _).alloc (by simp; omega) _
  have wn : I64 n := by unfold I64; omega
  have wt : I64 t := by unfold I64; omega
  have hs := held_start w 1 n t g bc bo bm h0 h1 h2
  have hlk1 : ∀ o1 o2 o3 q, (Instr.lookup 73 (.map (some bc)) (.agg #[.int .i64 n, .int .i64 t]) false).run Try.prog ((((w.alloc o1).alloc o2).alloc o3).drewN q) = .ok (.int .i64 0) ((((w.alloc o1).alloc o2).alloc o3).drewN q) := by
    intro o1 o2 o3 q
    have := ((((hc.alloc o1).alloc o2).alloc o3).drewN q).look (t := 73) Try.underlying73 Try.underlying3 zero3 (x := (n, t)) ⟨wn, wt⟩
    rw [hin] at this
    exact this
  have hlk2 : ∀ o1 o2 o3 q, (Instr.lookup 74 (.map (some bo)) (.int .i64 t) false).run Try.prog ((((w.alloc o1).alloc o2).alloc o3).drewN q) = .ok (.int .i64 0) ((((w.alloc o1).alloc o2).alloc o3).drewN q) := by
    intro o1 o2 o3 q
    have := ((((ho.alloc o1).alloc o2).alloc o3).drewN q).look (t := 74) Try.underlying74 Try.underlying3 zero3 (x := t) wt
    rw [hown] at this
    exact this
  have hlk3 : ∀ o1 o2 o3 q, (Instr.lookup 74 (.map (some bm)) (.int .i64 n) false).run Try.prog ((((w.alloc o1).alloc o2).alloc o3).drewN q) = .ok (.int .i64 c) ((((w.alloc o1).alloc o2).alloc o3).drewN q) := by
    intro o1 o2 o3 q
    have := ((((hm.alloc o1).alloc o2).alloc o3).drewN q).look (t := 74) Try.underlying74 Try.underlying3 zero3 (x := n) wn
    rw [hmany] at this
    exact this
  have HS := Lib.hid hs
  obtain ⟨ne1, ne2, ne3⟩ := hne
  have bcl := hc.lt
  have bol := ho.lt
  have bml := hm.lt
  have hcc := (((hc.alloc (.cells #[.pointer (some ⟨g, 0, none⟩)] 57)).alloc (.cells #[.int .i64 1, .int .i64 n, .int .i64 t] 28)).alloc (.cells #[.int .i64 n, .int .i64 t] 55))
  have hoo := (((ho.alloc (.cells #[.pointer (some ⟨g, 0, none⟩)] 57)).alloc (.cells #[.int .i64 1, .int .i64 n, .int .i64 t] 28)).alloc (.cells #[.int .i64 n, .int .i64 t] 55))
  have hmm2 := (((hm.alloc (.cells #[.pointer (some ⟨g, 0, none⟩)] 57)).alloc (.cells #[.int .i64 1, .int .i64 n, .int .i64 t] 28)).alloc (.cells #[.int .i64 n, .int .i64 t] 55))
  obtain ⟨g0, g1, g2, o0, s0, s1, s2, c0, c1⟩ := hs
  have HC := Lib.hid hcc
  have HO := Lib.hid hoo
  have HM := Lib.hid hmm2
  have HI3 := Lib.hid hmany
  clear hc ho hm hin hown hmany hcc hoo hmm2
  go_enter Try.func37, Try.ntmps37
  go_wp2
  go_quiet (fail)
  go_wp2
  go_quiet (fail)
  go_wp2
  go_quiet (fail)
  go_wp2
  clear hlk1 hlk2 hlk3 g0 g1 g2 o0 s0 s1 s2 c0 c1
  refine wp_region_tail 5 (by kernel_rfl) (by kernel_rfl) (fun W hS => ?_)
  have hS' := ((same_drewN _ _).trans ((same_drewN _ _).trans (same_drewN _ _))).trans hS
  have HS2 := HS.out.same hS'
  have HS4 := Lib.hid HS2
  have hc2 := HC.out.same hS'
  have ho2 := HO.out.same hS'
  have hm2 := HM.out.same hS'
  have hb2 : Keep (fun i => i = bc ∨ i = bo ∨ i = bm) w W := ((((Keep.refl _ _).alloc _).alloc _).alloc _).same hS'
  clear hS' hS
  obtain ⟨g0, g1, g2, o0, s0, s1, s2, c0, c1⟩ := HS2
  simp only [List.take_succ_cons, List.take_zero, List.drop_succ_cons, List.drop_zero]
  repeat still_step
  refine wpStill_nil ?_
  clear g0 g1 g2 o0 s0 s1 s2 c0 c1
  refine wpList_put_F _ rfl _ _ _ 73 rfl EC 3 Try.underlying73 Try.underlying3 bc m fc rfl hc2 (by unfold maxLen; omega) (n, t) rfl ⟨wn, wt⟩ 1 rfl (by decide) ?_
  intro W1 hc3 ht1
  have HS3 := HS4.out.turned ht1
  have HS5 := Lib.hid HS3
  have ho3 := ho2.kept ht1.grown (by simpa using fun h => ne1 h.symm)
  have hm3 := hm2.kept ht1.grown (by simpa using fun h => ne2 h.symm)
  have hb3 := hb2.grown ht1.grown (fun j e => by cases e; exact .inl (.inl rfl))
  have HB3 := Lib.hid hb3
  clear ht1 ho2 hm2 hc2 hb2 hb3 HS4
  obtain ⟨g0, g1, g2, o0, s0, s1, s2, c0, c1⟩ := HS3
  go_wp2
  clear g0 g1 g2 o0 s0 s1 s2 c0 c1
  refine wp_region_tail 8 (by kernel_rfl) (by kernel_rfl) (fun W2 hS => ?_)
  have HS6 := HS5.out.same hS
  have HS7 := Lib.hid HS6
  have hc4 := hc3.same hS
  have ho4 := ho3.same hS
  have hm4 := hm3.same hS
  have hb4 := HB3.out.same hS
  have HB4 := Lib.hid hb4
  clear hS hc3 ho3 hm3 hb4 HB3
  obtain ⟨g0, g1, g2, o0, s0, s1, s2, c0, c1⟩ := HS6
  simp only [List.take_succ_cons, List.take_zero, List.drop_succ_cons, List.drop_zero]
  repeat still_step
  refine wpStill_nil ?_
  clear g0 g1 g2 o0 s0 s1 s2 c0 c1
  refine wpList_put_F _ rfl _ _ _ 74 rfl EI 3 Try.underlying74 Try.underlying3 bo m fo rfl ho4 (by unfold maxLen; omega) t rfl wt n rfl (wf_of wn) ?_
  intro W3 ho5 ht1
  have HS8 := HS7.out.turned ht1
  have HS9 := Lib.hid HS8
  have hc5 := hc4.kept ht1.grown (by simpa using ne1)
  have hm5 := hm4.kept ht1.grown (by simpa using fun h => ne3 h.symm)
  have hb5 := HB4.out.grown ht1.grown (fun j e => by cases e; exact .inl (.inr (.inl rfl)))
  have HB5 := Lib.hid hb5
  clear ht1 hc4 ho4 hm4 HB4 hb5 HS7
  obtain ⟨g0, g1, g2, o0, s0, s1, s2, c0, c1⟩ := HS8
  go_wp2
  clear g0 g1 g2 o0 s0 s1 s2 c0 c1
  refine wp_region_tail 8 (by kernel_rfl) (by kernel_rfl) (fun W4 hS => ?_)
  have HS6 := HS9.out.same hS
  have hc6 := hc5.same hS
  have ho6 := ho5.same hS
  have hm6 := hm5.same hS
  have hb6 := HB5.out.same hS
  have HB6 := Lib.hid hb6
  have hlk := hm6.look (t := 74) Try.underlying74 Try.underlying3 zero3 (x := n) wn
  rw [HI3.out] at hlk
  simp only [EI] at hlk
  have hwr : IntKind.i64.wrap (c + 1) = c + 1 := IntWalk.i64_in _ (by omega)
  clear hS hc5 ho5 hm5 hb6 HB5
  obtain ⟨g0, g1, g2, o0, s0, s1, s2, c0, c1⟩ := HS6
  simp only [List.take_succ_cons, List.take_zero, List.drop_succ_cons, List.drop_zero]
  repeat still_step
  refine wpStill_nil ?_
  clear g0 g1 g2 o0 s0 s1 s2 c0 c1 hlk hwr
  refine wpList_put_F _ rfl _ _ _ 74 rfl EI 3 Try.underlying74 Try.underlying3 bm m fm rfl hm6 (by unfold maxLen; omega) n rfl wn (c + 1) rfl (wf_of (by unfold I64; omega)) ?_
  intro W5 hm7 ht1
  have hc7 := hc6.kept ht1.grown (by simpa using ne2)
  have ho7 := ho6.kept ht1.grown (by simpa using ne3)
  have hb7 := HB6.out.grown ht1.grown (fun j e => by cases e; exact .inl (.inr (.inr rfl)))
  have HB7 := Lib.hid hb7
  have HF := Lib.hid (And.intro hc7 (And.intro ho7 hm7))
  clear hb7 hc7 ho7 hm7 ht1 hc6 ho6 hm6
  go_wp2
  go_ret
  exact ⟨rfl, HF.out, HB7.out⟩
set_option maxHeartbeats 1600000 in
set_option maxRecDepth 100000 in
theorem take_c1 (limit n t : Int) (g bc bo bm m : Nat) (fc : Int × Int → Option Int) (fo fm : Int → Option Int) (w : World)
    (h0 : w.cell? ⟨g, 0, none⟩ = some (.map (some bc))) (h1 : w.cell? ⟨g, 1, none⟩ = some (.map (some bo))) (h2 : w.cell? ⟨g, 2, none⟩ = some (.map (some bm)))
    (hc : MapF EC 3 w bc m fc) (ho : MapF EI 3 w bo m fo) (hm : MapF EI 3 w bm m fm) (hb1 : 1 ≤ limit) (hn1 : 1 ≤ n) (hn7 : n ≤ 7) (ht1 : 1 ≤ t) (ht : t ≤ limit) (hl : limit ≤ 9223372036854775807)
    (hin : (fc (n, t)).getD 0 = 0) :
    Calls Try.prog 37 #[.pointer (some ⟨g, 0, none⟩), .int .i64 limit, .agg #[.int .i64 2, .int .i64 n, .int .i64 t]] w fun e w' => e = .returned (.int .i64 4) ∧ Below w.heap.size w w' := by
  have fin : ∀ o1 o2 o3 : Obj, Below w.heap.size w (((w.alloc o1).alloc o2).alloc o3) := fun o1 o2 o3 => (((Below.refl _ _).alloc (Nat.le_refl _) _).alloc (by simp) _).alloc (by simp; omega) _
  have wn : I64 n := by unfold I64; omega
  have wt : I64 t := by unfold I64; omega
  have hs := held_start w 2 n t g bc bo bm h0 h1 h2
  have hlk1 : ∀ o1 o2 o3 q, (Instr.lookup 73 (.map (some bc)) (.agg #[.int .i64 n, .int .i64 t]) false).run Try.prog ((((w.alloc o1).alloc o2).alloc o3).drewN q) = .ok (.int .i64 0) ((((w.alloc o1).alloc o2).alloc o3).drewN q) := by
    intro o1 o2 o3 q
    have := ((((hc.alloc o1).alloc o2).alloc o3).drewN q).look (t := 73) Try.underlying73 Try.underlying3 zero3 (x := (n, t)) ⟨wn, wt⟩
    rw [hin] at this
    exact this
  have HI := Lib.hid hin
  clear hin
  obtain ⟨g0, g1, g2, o0, s0, s1, s2, c0, c1⟩ := hs
  have FIN : Hid (∀ W, Same (((w.alloc (.cells #[.pointer (some ⟨g, 0, none⟩)] 57)).alloc (.cells #[.int .i64 2, .int .i64 n, .int .i64 t] 28)).alloc (.cells #[.int .i64 n, .int .i64 t] 55)) W → Below w.heap.size w W) := Lib.hid fun W h => h.below (fin _ _ _)
  clear hc ho hm fin
  go_enter Try.func37, Try.ntmps37
  go_wp2
  go_quiet (fail)
  go_wp2
  go_ret
  exact ⟨rfl, FIN.out _ (same_drewN _ _)⟩
set_option maxHeartbeats 1600000 in
set_option maxRecDepth 100000 in
theorem take_c2 (limit n t : Int) (g bc bo bm m : Nat) (fc : Int × Int → Option Int) (fo fm : Int → Option Int) (w : World)
    (h0 : w.cell? ⟨g, 0, none⟩ = some (.map (some bc))) (h1 : w.cell? ⟨g, 1, none⟩ = some (.map (some bo))) (h2 : w.cell? ⟨g, 2, none⟩ = some (.map (some bm)))
    (hc : MapF EC 3 w bc m fc) (ho : MapF EI 3 w bo m fo) (hm : MapF EI 3 w bm m fm) (hne : bc ≠ bo ∧ bc ≠ bm ∧ bo ≠ bm) (hmm : m < 100000) (hb1 : 1 ≤ limit) (hn1 : 1 ≤ n) (hn7 : n ≤ 7) (ht1 : 1 ≤ t) (ht : t ≤ limit) (hl : limit ≤ 9223372036854775807)
    (hin : (fc (n, t)).getD 0 = 1) (c : Int) (hmany : (fm n).getD 0 = c) (hc8 : c ≤ 8) (hc0 : 1 ≤ c) :
    Calls Try.prog 37 #[.pointer (some ⟨g, 0, none⟩), .int .i64 limit, .agg #[.int .i64 2, .int .i64 n, .int .i64 t]] w fun e w' => e = .returned (.int .i64 0) ∧
      (MapF EC 3 w' bc m (upd fc (n, t) none) ∧ MapF EI 3 w' bo m (upd fo t none) ∧ MapF EI 3 w' bm (m + 1) (upd fm n (some (c - 1)))) ∧ Keep (fun i => i = bc ∨ i = bo ∨ i = bm) w w' := by
  have fin : ∀ o1 o2 o3 : Obj, Below w.heap.size w (((w.alloc o1).alloc o2).alloc o3) := fun o1 o2 o3 => (((Below.refl _ _).alloc (Nat.le_refl _) _).alloc (by simp) _).alloc (by simp; omega) _
  have wn : I64 n := by unfold I64; omega
  have wt : I64 t := by unfold I64; omega
  have hs := held_start w 2 n t g bc bo bm h0 h1 h2
  have hlk1 : ∀ o1 o2 o3 q, (Instr.lookup 73 (.map (some bc)) (.agg #[.int .i64 n, .int .i64 t]) false).run Try.prog ((((w.alloc o1).alloc o2).alloc o3).drewN q) = .ok (.int .i64 1) ((((w.alloc o1).alloc o2).alloc o3).drewN q) := by
    intro o1 o2 o3 q
    have := ((((hc.alloc o1).alloc o2).alloc o3).drewN q).look (t := 73) Try.underlying73 Try.underlying3 zero3 (x := (n, t)) ⟨wn, wt⟩
    rw [hin] at this
    exact this
  have HS := Lib.hid hs
  obtain ⟨ne1, ne2, ne3⟩ := hne
  have bcl := hc.lt
  have bol := ho.lt
  have bml := hm.lt
  have hcc := (((hc.alloc (.cells #[.pointer (some ⟨g, 0, none⟩)] 57)).alloc (.cells #[.int .i64 2, .int .i64 n, .int .i64 t] 28)).alloc (.cells #[.int .i64 n, .int .i64 t] 55))
  have hoo := (((ho.alloc (.cells #[.pointer (some ⟨g, 0, none⟩)] 57)).alloc (.cells #[.int .i64 2, .int .i64 n, .int .i64 t] 28)).alloc (.cells #[.int .i64 n, .int .i64 t] 55))
  have hmm2 := (((hm.alloc (.cells #[.pointer (some ⟨g, 0, none⟩)] 57)).alloc (.cells #[.int .i64 2, .int .i64 n, .int .i64 t] 28)).alloc (.cells #[.int .i64 n, .int .i64 t] 55))
  obtain ⟨g0, g1, g2, o0, s0, s1, s2, c0, c1⟩ := hs
  have HC := Lib.hid hcc
  have HO := Lib.hid hoo
  have HM := Lib.hid hmm2
  have HI3 := Lib.hid hmany
  clear hc ho hm hin hmany hcc hoo hmm2
  go_enter Try.func37, Try.ntmps37
  go_wp2
  go_quiet (fail)
  go_wp2
  clear hlk1 g0 g1 g2 o0 s0 s1 s2 c0 c1
  refine wp_region_tail 5 (by kernel_rfl) (by kernel_rfl) (fun W hS => ?_)
  have hS' := (same_drewN _ _).trans hS
  have HS2 := HS.out.same hS'
  have HS4 := Lib.hid HS2
  have hc2 := HC.out.same hS'
  have ho2 := HO.out.same hS'
  have hm2 := HM.out.same hS'
  have hb2 : Keep (fun i => i = bc ∨ i = bo ∨ i = bm) w W := ((((Keep.refl _ _).alloc _).alloc _).alloc _).same hS'
  clear hS' hS
  obtain ⟨g0, g1, g2, o0, s0, s1, s2, c0, c1⟩ := HS2
  simp only [List.take_succ_cons, List.take_zero, List.drop_succ_cons, List.drop_zero]
  repeat still_step
  refine wpStill_nil ?_
  clear g0 g1 g2 o0 s0 s1 s2 c0 c1
  refine wpList_del_F _ rfl _ _ 73 rfl EC 3 Try.underlying73 bc m fc rfl hc2 (n, t) rfl ⟨wn, wt⟩ ?_
  intro W1 hc3 ht1
  have HS3 := HS4.out.turned ht1
  have HS5 := Lib.hid HS3
  have ho3 := ho2.kept ht1.grown (by simpa using fun h => ne1 h.symm)
  have hm3 := hm2.kept ht1.grown (by simpa using fun h => ne2 h.symm)
  have hb3 := hb2.grown ht1.grown (fun j e => by cases e; exact .inl (.inl rfl))
  have HB3 := Lib.hid hb3
  clear ht1 ho2 hm2 hc2 hb2 hb3 HS4
  obtain ⟨g0, g1, g2, o0, s0, s1, s2, c0, c1⟩ := HS3
  go_wp2
  clear g0 g1 g2 o0 s0 s1 s2 c0 c1
  refine wp_region_tail 6 (by kernel_rfl) (by kernel_rfl) (fun W2 hS => ?_)
  have HS6 := HS5.out.same hS
  have HS7 := Lib.hid HS6
  have hc4 := hc3.same hS
  have ho4 := ho3.same hS
  have hm4 := hm3.same hS
  have hb4 := HB3.out.same hS
  have HB4 := Lib.hid hb4
  clear hS hc3 ho3 hm3 hb4 HB3
  obtain ⟨g0, g1, g2, o0, s0, s1, s2, c0, c1⟩ := HS6
  simp only [List.take_succ_cons, List.take_zero, List.drop_succ_cons, List.drop_zero]
  repeat still_step
  refine wpStill_nil ?_
  clear g0 g1 g2 o0 s0 s1 s2 c0 c1
  refine wpList_del_F _ rfl _ _ 74 rfl EI 3 Try.underlying74 bo m fo rfl ho4 t rfl wt ?_
  intro W3 ho5 ht1
  have HS8 := HS7.out.turned ht1
  have HS9 := Lib.hid HS8
  have hc5 := hc4.kept ht1.grown (by simpa using ne1)
  have hm5 := hm4.kept ht1.grown (by simpa using fun h => ne3 h.symm)
  have hb5 := HB4.out.grown ht1.grown (fun j e => by cases e; exact .inl (.inr (.inl rfl)))
  have HB5 := Lib.hid hb5
  clear ht1 hc4 ho4 hm4 HB4 hb5 HS7
  obtain ⟨g0, g1, g2, o0, s0, s1, s2, c0, c1⟩ := HS8
  go_wp2
  clear g0 g1 g2 o0 s0 s1 s2 c0 c1
  refine wp_region_tail 8 (by kernel_rfl) (by kernel_rfl) (fun W4 hS => ?_)
  have HS6 := HS9.out.same hS
  have hc6 := hc5.same hS
  have ho6 := ho5.same hS
  have hm6 := hm5.same hS
  have hb6 := HB5.out.same hS
  have HB6 := Lib.hid hb6
  have hlk := hm6.look (t := 74) Try.underlying74 Try.underlying3 zero3 (x := n) wn
  rw [HI3.out] at hlk
  simp only [EI] at hlk
  have hwr : IntKind.i64.wrap (c - 1) = c - 1 := IntWalk.i64_in _ (by omega)
  clear hS hc5 ho5 hm5 hb6 HB5
  obtain ⟨g0, g1, g2, o0, s0, s1, s2, c0, c1⟩ := HS6
  simp only [List.take_succ_cons, List.take_zero, List.drop_succ_cons, List.drop_zero]
  repeat still_step
  refine wpStill_nil ?_
  clear g0 g1 g2 o0 s0 s1 s2 c0 c1 hlk hwr
  refine wpList_put_F _ rfl _ _ _ 74 rfl EI 3 Try.underlying74 Try.underlying3 bm m fm rfl hm6 (by unfold maxLen; omega) n rfl wn (c - 1) rfl (wf_of (by unfold I64; omega)) ?_
  intro W5 hm7 ht1
  have hc7 := hc6.kept ht1.grown (by simpa using ne2)
  have ho7 := ho6.kept ht1.grown (by simpa using ne3)
  have hb7 := HB6.out.grown ht1.grown (fun j e => by cases e; exact .inl (.inr (.inr rfl)))
  have HB7 := Lib.hid hb7
  have HF := Lib.hid (And.intro hc7 (And.intro ho7 hm7))
  clear hb7 hc7 ho7 hm7 ht1 hc6 ho6 hm6
  go_wp2
  go_ret
  exact ⟨rfl, HF.out, HB7.out⟩
end Go.Proofs.Ytojgiaemgpnfdaa.J
