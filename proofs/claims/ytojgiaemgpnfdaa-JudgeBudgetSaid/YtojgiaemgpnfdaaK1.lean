/- slices.AppendSeq and slices.Collect of connections, over what an iterator gives. -/
import Derived.Test.YtojgiaemgpnfdaaK0
set_option linter.unusedVariables false
set_option linter.unusedSimpArgs false
namespace Go.Proofs.Ytojgiaemgpnfdaa.K
open Go.RowKit Go.Maps Go.Shelf Go.Proofs.YtojgiaemgpnfdaaM Go.Proofs.Ytojgiaemgpnfdaa.J
attribute [local go_sem] Oper.semAt_some

def flat (ss : List (Int × Int)) : List Value := ss.flatMap fun x => [.int .i64 x.1, .int .i64 x.2]
theorem flat_len (ss : List (Int × Int)) : (flat ss).length = ss.length * 2 := by
  induction ss with
  | nil => rfl
  | cons a l ih => unfold flat at *; simp [List.flatMap_cons, ih]; omega
theorem flat_snoc (ss : List (Int × Int)) (x : Int × Int) : flat (ss ++ [x]) = flat ss ++ [.int .i64 x.1, .int .i64 x.2] := by simp [flat]
theorem cell_two_new (W : World) (a b : Value) (e : TypeId) : ∀ (j : Nat) (u : Value), [a, b][j]? = some u → (W.alloc (.cells #[a, b] e)).cell? ((⟨W.heap.size, 0, none⟩ : Addr).add j) = some u := by
  intro j u h
  match j, h with
  | 0, h => cases h; simp [go_sem]
  | 1, h => cases h; simp [go_sem, Addr.add]
theorem info55 : (Try.prog.info? 55).map (fun i => (i.zero, i.size, i.bytes)) = some (some (.agg #[.int .i64 0, .int .i64 0]), 2, 16) := by kernel_rfl

set_option maxHeartbeats 4000000 in
set_option maxRecDepth 100000 in
theorem appendSeq_in (F : Fence) (n : Nat) (h46 : F.fn 46) (h42 : F.fn 42) (hro : F.round = none) (hn : 2 ≤ n) (lb : Array Value) (S : List (Int × Int) → Prop) (N : Nat) (hN : N ≤ 100000) (w : World)
    (hseq : SeqStops F (n - 1) Try.prog 42 lb (fun x : Int × Int => .agg #[.int .i64 x.1, .int .i64 x.2]) S (fun _ => True) N w) :
    CallsIn F n Try.prog 46 #[.slice none 0 0, .func (.func 42) #[] lb] w fun e w' => ∃ (v : Value) (ss : List (Int × Int)), e = .returned v ∧ S ss ∧ w'.ownsRow w.heap.size 55 2 v ss.length (flat ss) ∧ Below w.heap.size w w' := by
  have h1 : 1 ≤ n := by omega
  refine callsIn_of_wp_marks Try.func46 rfl h46 ?_ hro
  simp only [Try.ntmps46, List.size_toArray, List.length_cons, List.length_nil, Nat.reduceAdd, Nat.reduceSub, Array.replicate_succ, Array.replicate_zero, List.push_toArray, List.append_toArray, List.nil_append, List.cons_append]
  obtain ⟨i0, hi, hz0, hz1, hz2⟩ := info_parts info55
  gi_wp2
  have bS := Boxed.new w 51 (.slice none 0 0)
  have hB0 : Below w.heap.size w (w.alloc (.cells #[.slice none 0 0] 51)) := (Below.refl _ w).alloc (Nat.le_refl _) _
  have hsz : (w.alloc (.cells #[.slice none 0 0] 51)).heap.size = w.heap.size + 1 := by simp
  obtain ⟨W0, hW0⟩ : ∃ W0, w.alloc (.cells #[.slice none 0 0] 51) = W0 := ⟨_, rfl⟩
  rw [hW0] at bS hB0 hsz ⊢
  clear hW0
  have hseqK : SeqStopsK F (n - 1) Try.prog 42 lb (fun x : Int × Int => #[Value.agg #[.int .i64 x.1, .int .i64 x.2]]) KeepsWalks S (fun _ => True) N w := hseq
  refine wpIn_rangeFunc_ownH hro h1 (gf := 42) (lb := lb) rfl h42 (enters_of Try.func42 (by kernel_rfl) rfl) hseqK walksK_t walksK_b hB0 (fun _ => rfl)
    (fun pre W => (∃ v, Boxed W w.heap.size 51 v ∧ W.ownsRow w.heap.size 55 2 v pre.length (flat pre) ∧ True) ∧ Below w.heap.size w W)
    (fun _ _ _ => False)
    (OwnFrom.and (Own.from (holdsRow_own w.heap.size w.heap.size 51 55 2 (fun pre : List (Int × Int) => pre.length) flat (fun _ _ => True)) _) (ownFrom_below (Nat.le_refl _) (by omega)))
    (fun _ _ _ _ _ hs _ _ => hs)
    ⟨⟨_, bS, World.ownsRow_nil _ _ _ _, trivial⟩, hB0⟩
    (fun x a' W => ∃ Bx, W.heap[Bx]? = some (.cells #[.int .i64 x.1, .int .i64 x.2] 55 (0, 0)) ∧ a' = { tmps := #[.slice none 0 0, .func (.func 42) #[] lb, .pointer (some ⟨w.heap.size, 0, none⟩), undef, .slice none 0 0, .pointer (some ⟨Bx, 0, none⟩), .func (.func 42) #[] lb, .agg #[.int .i64 x.1, .int .i64 x.2], undef, undef, undef, undef, undef], defers := [] })
    (fun x a' _ X Y row hs hg hr => by
      obtain ⟨Bx, h2, h3⟩ := hs
      refine ⟨Bx, (hg.block Bx (Array.getElem?_eq_some_iff.1 h2).1 (fun e' => ?_)).trans h2, h3⟩
      obtain ⟨o, ho, hc⟩ := (hr Bx e'.symm).2
      rw [h2] at ho; cases ho; cases hc)
    ?assign ?body ?done ?stop
  case assign =>
    rintro l pre x W K ⟨⟨v, bV, hrow, _⟩, hB1⟩ hK
    gi_wp2
    exact hK _ _ ((KeepsOthers.alloc _ _).from _) (KeepsWalks.alloc _ _) ⟨⟨v, bV.alloc _, hrow.alloc _, trivial⟩, hB1.alloc hB1.size _⟩ ⟨W.heap.size, World.alloc_heap_new W _, rfl⟩
  case body =>
    rintro l pre x a' W hl ⟨r, hr⟩ ⟨⟨v, bV, hrow, _⟩, hB1⟩ ⟨Bx, hBx, rfl⟩ hlt
    have cV := bV.cell
    have fV := bV.frozen
    have cx0 : W.cell? ⟨Bx, 0, none⟩ = some (.int .i64 x.1) := by simp [World.cell?, hBx]
    have cx1 : W.cell? ⟨Bx, 1, none⟩ = some (.int .i64 x.2) := by simp [World.cell?, hBx]
    gi_wp2_with (first
      | (gi_at_builtin; refine wpListIn_append_own _ rfl _ _ 51 rfl w.heap.size 55 i0 (.agg #[.int .i64 0, .int .i64 0]) 2 16 Try.underlying51 hi hz0 hz1 hz2 rfl (by decide) _ _ _ rfl (hrow.alloc _) ⟨W.heap.size, 0, none⟩ 1 1 [.int .i64 x.1, .int .i64 x.2] rfl rfl (cell_two_new W _ _ _) (by simp [Value.oneCell']) (by unfold maxLen; omega) (by omega) (by have := hB1.size; simp; omega) ?_; intro v' w1 hown' hgrow _; obtain ⟨g', cap', rfl⟩ := ownsRow_succ hown'; obtain ⟨hv1, hv2, hr2, hk2, hb2⟩ := bV.appended (by decide) hrow hB1.size (Nat.le_refl _) hown' hgrow; have hc1 := hv1.cell; have hf1 := hv1.frozen)
      | gi_in)
    refine ⟨hk2.from _, ?_, ⟨_, hv2, ?_, trivial⟩, hB1.trans hb2⟩
    · exact hk2.walks
    · have e : (pre ++ [x]).length = pre.length + 1 := by simp
      rw [e, flat_snoc]; exact hr2
  case done =>
    rintro D ys W hD hS ⟨⟨v, bV, hrow, _⟩, hB1⟩ hK
    have cV := bV.cell
    gi_wp2
    refine ⟨by simp, .inl ⟨_, _, rfl, run_takeDeferred hK, ?_⟩⟩
    exact ⟨_, results_tmp rfl _ _ _, v, ys, rfl, hS, ownsRow_putObj hrow _ hK rfl, hB1.trans (belowK_b (w := w) (Nat.le_refl _) W D _ _ (by omega) hK rfl rfl)⟩
  case stop =>
    rintro D c pre W _ _ hf _
    exact hf.elim

def fen : Fence := Fence.list [40, 42, 46] none
set_option maxHeartbeats 1000000 in
set_option maxRecDepth 100000 in
theorem collect_in (n : Nat) (hn : 3 ≤ n) (lb : Array Value) (S : List (Int × Int) → Prop) (N : Nat) (hN : N ≤ 100000) (w : World)
    (hseq : SeqStops fen (n - 1 - 1) Try.prog 42 lb (fun x : Int × Int => .agg #[.int .i64 x.1, .int .i64 x.2]) S (fun _ => True) N w) :
    CallsIn fen n Try.prog 40 #[.func (.func 42) #[] lb] w fun e w' => ∃ (v : Value) (ss : List (Int × Int)), e = .returned v ∧ S ss ∧ w'.ownsRow w.heap.size 55 2 v ss.length (flat ss) ∧ Below w.heap.size w w' := by
  have h40 : fen.fn 40 := by simp [fen, Fence.list]
  have h42 : fen.fn 42 := by simp [fen, Fence.list]
  have h46 : fen.fn 46 := by simp [fen, Fence.list]
  have hro : fen.round = none := rfl
  refine callsIn_of_wp Try.func40 rfl h40 ?_ hro
  simp only [Try.ntmps40, List.size_toArray, List.length_cons, List.length_nil, Nat.reduceAdd, Nat.reduceSub, Array.replicate_succ, Array.replicate_zero, List.push_toArray, List.append_toArray, List.nil_append, List.cons_append]
  have h1 : 1 ≤ n := by omega
  gi_wp2_with (gi_at_call 46; refine (appendSeq_in fen (n - 1) h46 h42 hro (by omega) lb S N hN _ hseq).mono ?_; rintro e w' ⟨v, ss, rfl, hS, hrow, hb⟩)
  go_ret
  exact ⟨v, ss, rfl, hS, hrow, hb⟩
theorem collect_calls (Bm b m : Nat) (fc : Int × Int → Option Int) (hm : m ≤ 100000) (w : World) (hBm : Bm < w.heap.size) (hmc : w.cell? ⟨Bm, 0, none⟩ = some (.map (some b))) (hc : MapF EC 3 w b m fc) :
    Calls Try.prog 40 #[.func (.func 42) #[] #[.pointer (some ⟨Bm, 0, none⟩)]] w fun e w' => ∃ (v : Value) (ss : List (Int × Int)), e = .returned v ∧ Came fc (fun _ => false) ss ∧ w'.ownsRow w.heap.size 55 2 v ss.length (flat ss) ∧ Below w.heap.size w w' :=
  (collect_in 5 (by omega) _ _ m hm w (keys_stops fen 3 (by simp [fen, Fence.list]) rfl (by omega) Bm b m fc w hBm hmc hc)).calls (fun k => by unfold Fence.room; simp [fen, Fence.list])
end Go.Proofs.Ytojgiaemgpnfdaa.K
