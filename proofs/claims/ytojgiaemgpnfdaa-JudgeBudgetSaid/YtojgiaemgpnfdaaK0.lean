/- maps.Keys over the map of connections: each key once, in some order. -/
import Derived.Test.YtojgiaemgpnfdaaJ3
import Derived.RangeFuncGives
import Derived.RangeFuncNested
import Derived.RangeFuncBound
import Derived.RangeFuncCalls
import Derived.RangeFuncLeaves
import Derived.Shelf.SlIter.Keys
import Derived.Shelf.RegionOpen
import Derived.OwnWalkIn
import Derived.TacticsInMore
import Derived.LoopNIn
import Derived.LoopIn
import Derived.Maps.OwnIn
import Derived.Maps.AppendAt
set_option linter.unusedVariables false
set_option linter.unusedSimpArgs false
namespace Go.Proofs.Ytojgiaemgpnfdaa.K
open Go.RowKit Go.Maps Go.Shelf Go.Proofs.YtojgiaemgpnfdaaM Go.Proofs.Ytojgiaemgpnfdaa.J
attribute [local go_sem] Oper.semAt_some

/-- The keys that have come. -/
structure Came (fc : Int × Int → Option Int) (left : Lit → Bool) (ss : List (Int × Int)) : Prop where
  nodup : ss.Nodup
  ok : ∀ x ∈ ss, I64 x.1 ∧ I64 x.2
  mem : ∀ x, (I64 x.1 ∧ I64 x.2) → (x ∈ ss ↔ (fc x).isSome = true ∧ left (clit x) = false)

set_option maxHeartbeats 4000000 in
set_option maxRecDepth 100000 in
theorem keys1_in (F : Fence) (n : Nat) (h42 : F.fn 42) (hro : F.round = none) (hn : 1 ≤ n) (l Bm b m N : Nat) (fc : Int × Int → Option Int) (J Jx : List (Int × Int) → World → Prop)
    (hY : ∀ pre x W, J pre W → pre.length < N → YieldAt F (n - 1) Try.prog l #[.agg #[.int .i64 x.1, .int .i64 x.2]] W fun e W' => (e = .returned (.bool true) ∧ J (pre ++ [x]) W' ∧ KeepsWalks W W') ∨ (e = .returned (.bool false) ∧ Jx (pre ++ [x]) W'))
    (W : World) (hJ : AbidesFrom W.heap.size J) (hmc : W.cell? ⟨Bm, 0, none⟩ = some (.map (some b))) (hc : MapF EC 3 W b m fc) (hmN : m ≤ N) (h0 : J [] W) :
    CallsIn F n Try.prog 42 #[.func (.yield l) #[] #[], .pointer (some ⟨Bm, 0, none⟩)] W fun e W' => (∃ v, e = .returned v) ∧ ((∃ ss, Came fc (fun _ => false) ss ∧ J ss W') ∨ (∃ pre, True ∧ Jx pre W')) := by
  obtain ⟨D0, hown, hq⟩ := hc
  refine callsIn_of_wp Try.func42 rfl h42 ?_ hro
  simp only [Try.ntmps42, List.size_toArray, List.length_cons, List.length_nil, Nat.reduceAdd, Nat.reduceSub, Array.replicate_succ, Array.replicate_zero, List.push_toArray, List.append_toArray, List.nil_append, List.cons_append]
  have HQ : Hid (∀ x : Int × Int, (I64 x.1 ∧ I64 x.2) → ∀ z, D0.atKey (clit x) z = rdAt (fc x) z) := Lib.hid hq
  have HY := Lib.hid hY
  have hsize : size D0 ≤ N := Nat.le_trans hown.size_le hmN
  have HJ := Lib.hid hJ
  have HM := Lib.hid hmc
  clear hq hY hJ
  gi_wp2_with (first
    | (gi_at_range; refine wpListIn_range_own _ rfl _ 73 rfl 55 3 law55 Try.underlying73 (plainElem Try.prog 3) b m _ rfl hown ?_; intro w0 hrg0 hg0 hs0)
    | gi_in)
  go_frame
  gi_loopw [3] (fun _ wr => ∃ (left : Lit → Bool) (cnt : Nat) (ss : List (Int × Int)), wr.ranges Try.prog 55 (plainElem Try.prog 3) b W.heap.size m D0 left cnt ∧ ss.length + cnt ≤ N ∧ Hid (Came fc left ss) ∧ J ss wr)
    (fun _ wr => wr.rangeLeft b W.heap.size)
  case atStart =>
    refine ⟨_, _, [], hrg0, by simpa using hsize, Lib.hid ⟨List.nodup_nil, by simp, fun x hx => ?_⟩, HJ.out [] W w0 none h0 hg0 (fun r e => by cases e)⟩
    constructor
    · intro h; cases h
    · rintro ⟨hs, hl⟩
      exfalso
      obtain ⟨v, hv⟩ := Option.isSome_iff_exists.1 hs
      have h4 := Maps.has_true_of_atKey (D := D0) (k := clit x) (y := .lit (.int .i64 v)) (fun z => by rw [HQ.out x hx, hv]; rfl)
      rw [hl] at h4; cases h4
  case round =>
    obtain ⟨left, cnt, ss, hrg, hcs, hC, hJs⟩ := hrel
    clear h0
    gi_wp2_with (first
      | (gi_at_next; refine wpListIn_next_ranges _ rfl _ rfl 55 law55 (plainElem Try.prog 3) (fun x : Int × Int => .agg #[.int .i64 x.1, .int .i64 x.2]) (Value.int .i64) (fun key kl hk => by obtain ⟨x, _, rfl, _⟩ := keyOf_c_inv hk; exact ⟨x, rfl⟩) (fun v y hv => by obtain ⟨c, rfl, _⟩ := plainElem_int_inv Try.underlying3 hv; exact ⟨c, rfl⟩) b W.heap.size m _ _ _ rfl hrg ?_ ?_)
      | gi_in)
    · intro hc0 hl0
      have HF : Hid (Came fc (fun _ => false) ss) := Lib.hid ⟨hC.out.nodup, hC.out.ok, fun x hx => by rw [hC.out.mem x hx, hl0]⟩
      have HJS := Lib.hid hJs
      clear hJs hrg hcs hC
      gi_wp2
      go_end0
      exact ⟨⟨_, rfl⟩, .inl ⟨ss, HF.out, HJS.out⟩⟩
    · intro x y c kl yd yp w2 cnt2 hkey hlk hv hat hrg2 hlt hg2 hs2 hen
      obtain ⟨⟨a', b'⟩, hx, ex, rfl⟩ := keyOf_c_inv hkey
      obtain ⟨rfl, rfl⟩ : x = a' ∧ y = b' := by simpa [cval] using ex
      clear ex hkey
      have hsome : (fc (x, y)).isSome = true := by
        cases hf : fc (x, y) with
        | some v => rfl
        | none =>
          exfalso
          have h5 := HQ.out (x, y) hx DataW.nil
          have h6 := HQ.out (x, y) hx (DataW.lit (.int .i64 c))
          simp only [hf, rdAt] at h5 h6
          have h7 := hat DataW.nil
          have h8 := hat (DataW.lit (.int .i64 c))
          rw [h5] at h7
          rw [h6] at h8
          rw [← h7] at h8
          cases h8
      have hJ2 : J ss w2 := HJ.out ss wr w2 (some W.heap.size) hJs hg2 (fun r e => by cases e; exact ⟨Nat.le_refl _, hrg.iter_walk⟩)
      have hJ3 : J ss (w2.alloc (.cells #[.int .i64 x, .int .i64 y] 55)) := HJ.out ss w2 _ none hJ2 (World.grownBy_alloc _ _ _) (fun r e => by cases e)
      obtain ⟨fn, tmps, assign, body, hy, hR⟩ := HY.out ss (x, y) _ hJ3 (by omega)
      have HR := Lib.hid hR
      have hC2 : Came fc (fun z => left z && !z.sameKey (clit (x, y))) (ss ++ [(x, y)]) := by
        refine ⟨?_, ?_, ?_⟩
        · rw [List.nodup_append]
          refine ⟨hC.out.nodup, by simp, fun a ha b' hb' => ?_⟩
          rw [List.mem_singleton] at hb'
          subst hb'
          rintro rfl
          have := ((hC.out.mem _ hx).1 ha).2
          rw [hlk] at this; cases this
        · intro a ha
          rcases List.mem_append.1 ha with h | h
          · exact hC.out.ok a h
          · rw [List.mem_singleton.1 h]; exact hx
        · intro a ha
          rw [List.mem_append, List.mem_singleton, hC.out.mem a ha]
          simp only [sameKey_clit ha hx]
          by_cases e : a = (x, y)
          · subst e; simp [hsome]
          · simp [e]
      have HC2 := Lib.hid hC2
      have hrgA := hrg2.alloc (.cells #[.int .i64 x, .int .i64 y] 55)
      have HRG := Lib.hid hrgA
      have b0 : (w2.alloc (.cells #[.int .i64 x, .int .i64 y] 55)).cell? ⟨w2.heap.size, 0, none⟩ = some (.int .i64 x) := by simp [go_sem]
      have b1 : (w2.alloc (.cells #[.int .i64 x, .int .i64 y] 55)).cell? ⟨w2.heap.size, 1, none⟩ = some (.int .i64 y) := by simp [go_sem]
      have hlt2 : w2.rangeLeft b W.heap.size < wr.rangeLeft b W.heap.size := by rw [hrg2.left_eq, hrg.left_eq]; exact hlt
      have HLT := Lib.hid hlt
      have HEQ := Lib.hid hrg.left_eq
      have HCS := Lib.hid hcs
      clear hs2 hR hC2 hrgA hJ2 hJ3 hJs hC hsome hat hv hlk hg2 hlt hlt2 hcs
      gi_wp2
      refine HR.out.mono ?_
      rintro e W3 (⟨rfl, hJ4, hk3⟩ | ⟨rfl, hJ4⟩)
      · have HJ4 := Lib.hid hJ4
        have hrg3 := HRG.out.of_walks hk3
        clear hJ4 hk3 b0 b1
        gi_wp2
        go_roundw
        case rel => exact ⟨_, cnt2, ss ++ [(x, y)], hrg3, by have := HCS.out; have := HLT.out; simp; omega, HC2, HJ4.out⟩
        case measure => rw [hrg3.left_eq, HEQ.out]; exact HLT.out
      · have HJ4 := Lib.hid hJ4
        clear hJ4 b0 b1
        gi_wp2
        refine bodyPost_ret (results_none rfl _ _ _) rfl ?_
        exact ⟨⟨_, rfl⟩, .inr ⟨_, trivial, HJ4.out⟩⟩

/-- maps.Keys' iterator, as the caller's law wants it. -/
theorem keys_stops (F : Fence) (n : Nat) (h42 : F.fn 42) (hro : F.round = none) (hn : 1 ≤ n) (Bm b m : Nat) (fc : Int × Int → Option Int) (w : World) (hBm : Bm < w.heap.size) (hmc : w.cell? ⟨Bm, 0, none⟩ = some (.map (some b))) (hc : MapF EC 3 w b m fc) :
    SeqStops F n Try.prog 42 #[.pointer (some ⟨Bm, 0, none⟩)] (fun x : Int × Int => .agg #[.int .i64 x.1, .int .i64 x.2]) (Came fc (fun _ => false)) (fun _ => True) m w := fun l J Jx W hW hJ hJx hY h0 => by
  have hc' : MapF EC 3 W b m fc := by
    have hlt := hc.lt
    obtain ⟨D, ⟨es, clock, hb, hr⟩, hq⟩ := hc
    exact ⟨D, ⟨es, clock, (hW.block b hlt).trans hb, hr⟩, hq⟩
  exact keys1_in F n h42 hro hn l Bm b m m fc J Jx hY W hJ ((hW.cell (p := ⟨Bm, 0, none⟩) hBm).trans hmc) hc' (Nat.le_refl _) h0

set_option maxHeartbeats 400000 in
set_option maxRecDepth 100000 in
theorem keys_calls (b : Nat) (w : World) : Calls Try.prog 32 #[.map (some b)] w fun e w' => e = .returned (.func (.func 42) #[] #[.pointer (some ⟨w.heap.size, 0, none⟩)]) ∧ w' = w.alloc (.cells #[.map (some b)] 73) := by
  go_enter Try.func32, Try.ntmps32
  go_wp2
  go_ret
  exact ⟨rfl, rfl⟩
end Go.Proofs.Ytojgiaemgpnfdaa.K
