/- The walk of the law JudgeBudget. -/
import Derived.Test.YtojgiaemgpnfdaaK5
import Derived.Test.YtojgiaemgpnfdaaJ8
import Derived.Test.YtojgiaemgpnfdaaMapB
set_option linter.unusedVariables false
set_option linter.unusedSimpArgs false
namespace Go.Proofs.Ytojgiaemgpnfdaa.K
open Go.RowKit Go.Maps Go.Proofs.YtojgiaemgpnfdaaM Go.Proofs.Ytojgiaemgpnfdaa.J Go.Proofs.Ytojgiaemgpnfdaa.JP Go.Proofs.YtojgiaemgpnfdaaW.PrintWords Go.Proofs.YtojgiaemgpnfdaaW.PrintLast Go.Proofs.Ytojgiaemgpnfdaa.PJudgeJudges

theorem play_ok (limit : Int) (l : List (Int × Int × Int)) : ∀ (C : List (Int × Int)) (i : Int), (play limit C i l).2 = 0 → (play limit C i l).1 = -1 := by
  induction l with
  | nil => intro C i _; rfl
  | cons s l ih =>
    obtain ⟨k, n, t⟩ := s
    intro C i h
    rw [play] at h ⊢
    by_cases h0 : stepE limit C k n t = 0
    · rw [if_pos h0] at h ⊢; exact ih _ _ h
    · rw [if_neg h0] at h; exact absurd h h0
theorem play_bad (limit : Int) (l : List (Int × Int × Int)) : ∀ (C : List (Int × Int)) (i : Int), (play limit C i l).2 ≠ 0 → i ≤ (play limit C i l).1 ∧ (play limit C i l).1 < i + l.length := by
  induction l with
  | nil => intro C i h; exact absurd rfl h
  | cons s l ih =>
    obtain ⟨k, n, t⟩ := s
    intro C i h
    rw [play] at h ⊢
    by_cases h0 : stepE limit C k n t = 0
    · rw [if_pos h0] at h ⊢
      have := ih _ _ h
      simp only [List.length_cons]; omega
    · rw [if_neg h0]; simp only [List.length_cons]; omega
theorem play_take (limit : Int) (l : List (Int × Int × Int)) : ∀ (C : List (Int × Int)) (i : Int) (k : Nat), ((play limit C i l).2 = 0 ∨ i + k ≤ (play limit C i l).1) → (play limit C i (l.take k)).2 = 0 := by
  induction l with
  | nil => intro C i k _; simp [play]
  | cons s l ih =>
    obtain ⟨a, n, t⟩ := s
    intro C i k h
    cases k with
    | zero => rfl
    | succ k =>
      rw [List.take_succ_cons]
      rw [play] at h ⊢
      by_cases h0 : stepE limit C a n t = 0
      · rw [if_pos h0] at h ⊢
        exact ih _ _ k (h.imp (fun h => h) (fun h => by omega))
      · rw [if_neg h0] at h
        rcases h with h | h
        · exact absurd h h0
        · simp only at h; omega
theorem play_limit (limit : Int) (l : List (Int × Int × Int)) (hl : l ≠ []) (h : (play limit [] 0 l).2 = 0) : 1 ≤ limit := by
  cases l with
  | nil => exact absurd rfl hl
  | cons s l =>
    obtain ⟨a, n, t⟩ := s
    rw [play] at h
    by_cases h0 : stepE limit [] a n t = 0
    · unfold stepE at h0
      by_cases hb : Bad limit a n t
      · rw [if_pos hb] at h0; cases h0
      · unfold Bad at hb; omega
    · rw [if_neg h0] at h; exact absurd h h0

/-- What the law asks of what Replay tells. -/
structure Within (limit : Int) (S : List (Int × Int)) : Prop where
  tok : S.Pairwise fun a b => a.2 ≠ b.2
  rng : ∀ x ∈ S, 1 ≤ x.2 ∧ x.2 ≤ limit
theorem within_of {limit : Int} {C S : List (Int × Int)} (hT : Told C S) (hI : Inv limit C) : Within limit S := by
  refine ⟨?_, fun x hx => ?_⟩
  · have : S.Pairwise fun a b => ltC a b ∧ a ∈ S ∧ b ∈ S := by
      have h2 : S.Pairwise fun a b => a ∈ S ∧ b ∈ S := by rw [List.pairwise_iff_forall_sublist]; intro a b h; exact ⟨h.subset (by simp), h.subset (by simp)⟩
      exact List.Pairwise.and hT.lt h2
    refine this.imp ?_
    rintro ⟨a, t⟩ ⟨b, u⟩ ⟨h1, h2, h3⟩ e
    simp only at e
    subst e
    have := tok_inj hI ((hT.mem _).1 h2) ((hT.mem _).1 h3)
    subst this
    unfold ltC at h1; omega
  · have := hI.rng x ((hT.mem x).1 hx); omega
theorem Within.len {limit : Int} {S : List (Int × Int)} (h : Within limit S) (hl : 0 ≤ limit) : (S.length : Int) ≤ limit := by
  have h1 : (S.map (·.2)).Nodup := by
    rw [List.nodup_iff_pairwise_ne, List.pairwise_map]; exact h.tok
  have := nodup_le (S.map (·.2)) ((List.range limit.toNat).map fun i : Nat => (i : Int) + 1) h1 (fun x hx => by
    obtain ⟨c, hc, rfl⟩ := List.mem_map.1 hx
    have := h.rng c hc
    refine List.mem_map.2 ⟨(c.2 - 1).toNat, List.mem_range.2 (by omega), by omega⟩)
  simp at this; omega
theorem Within.fresh {limit : Int} {S : List (Int × Int)} (h : Within limit S) (j : Nat) (hj : j < S.length) : decide ((S[j]).2 ∈ (S.take j).map (·.2)) = false := by
  rw [decide_eq_false_iff_not]
  intro hm
  obtain ⟨c, hc, e⟩ := List.mem_map.1 hm
  obtain ⟨i, hi, rfl⟩ := List.getElem_of_mem hc
  rw [List.length_take] at hi
  have := List.pairwise_iff_getElem.1 h.tok i j (by omega) hj (by omega)
  simp only [List.getElem_take] at e
  exact this e

theorem zero4 (w : World) : (zeroValue 4).run Try.prog w = .ok (.bool false) w := by kernel_rfl
theorem slice22 (A : Option Addr) (n c k : Nat) (hk : k ≤ c) (W : World) : (Instr.slice 22 (.slice A n c) none (some (.int .i64 (k : Int))) none).run Try.prog W = .ok (.slice A k c) W := by
  have he : Try.prog.elem 22 = 28 := by kernel_rfl
  rw [run_slice_h W 22 A n c (by rw [he]; exact Try.underlying22) .i64 k (by omega) (by omega)]
  rw [he, Try.sizeOf28]
  simp only [Result.andThen, sliced]
  cases A with
  | none => simp
  | some a => simp [Addr.add]
theorem C_take28 {w : World} {A : Option Addr} {n : Nat} {l : List S28} (h : Kd.C k28 w A n l) (k : Nat) (hk : k ≤ n) : Kd.C k28 w A (l.take k).length (l.take k) := by
  obtain ⟨h1, h2, h3⟩ := h
  refine ⟨rfl, by rw [List.length_take]; omega, fun hp => ?_⟩
  obtain ⟨ad, rfl, hr⟩ := h3 (by rw [List.length_take] at hp; omega)
  refine ⟨ad, rfl, fun j p hj => hr j p ?_⟩
  rw [List.getElem?_take] at hj
  split at hj
  · exact hj
  · cases hj
theorem rd_map (S : List (Int × Int)) (j : Nat) (hj : j < S.length) : (rd_T55 (S.map mk55) j).f0 = (S[j]).1 ∧ (rd_T55 (S.map mk55) j).f1 = (S[j]).2 := by
  have h : j < (S.map mk55).length := by simpa using hj
  rw [rd55 h]; simp [mk55]
/-- What a round's Replay tells. -/
theorem round_told {limit : Int} {l : List S28} {k : Nat} {S : List (Int × Int)} (hk : k ≤ l.length) (hp : (play limit [] 0 (steps (l.take k))).2 = 0) (hT : Told (after [] (steps (l.take k))) S) (hI : Inv limit (after [] (steps (l.take k)))) :
    Within limit S ∧ (0 < k → (S.length : Int) ≤ limit) := by
  have hW := within_of hT hI
  refine ⟨hW, fun h0 => ?_⟩
  have : steps (l.take k) ≠ [] := by
    intro e
    have : (steps (l.take k)).length = 0 := by rw [e]; rfl
    rw [steps, List.length_map, List.length_take] at this; omega
  have := play_limit limit _ this hp
  exact hW.len (by omega)
theorem steps_take (l : List S28) (k : Nat) : steps (l.take k) = (steps l).take k := by simp [steps, List.map_take]

/-- One round: Replay of the first k. -/
theorem replay_take (limit : Int) (A1 : Option Addr) (c1 : Nat) (l : List S28) (k : Nat) (w : World) (hl : I64 limit) (hr : Kd.C k28 w A1 l.length l) (hcap : l.length ≤ c1) (hlen : l.length ≤ 100) (hk : k ≤ l.length) (hp : (play limit [] 0 (steps (l.take k))).2 = 0) :
    Calls Try.prog 20 #[.int .i64 limit, .slice A1 k c1] w fun e w' => Below w.heap.size w w' ∧ ∃ A c S, e = .returned (.tuple #[.slice A S.length c, .int .i64 0]) ∧ Kd.C k55 w' A S.length (S.map mk55) ∧ Within limit S ∧ (0 < k → (S.length : Int) ≤ limit) ∧ S.length ≤ 1000 := by
  have hlt : (l.take k).length = k := by rw [List.length_take]; omega
  have h := replay_calls limit A1 c1 (l.take k) w hl (C_take28 hr k hk) (by rw [hlt]; omega) (by rw [hlt]; omega)
  rw [hlt] at h
  refine h.mono ?_
  rintro e w' ⟨hb, A, c, S, rfl, _, hC, h1, _⟩
  obtain ⟨hT, hI⟩ := h1 hp
  obtain ⟨g1, g2⟩ := round_told hk hp hT hI
  refine ⟨hb, A, c, S, by rw [hp], hC, g1, g2, ?_⟩
  have h2 := after_length (steps (l.take k)) []
  have h3 : (steps (l.take k)).length = k := by simp [steps]; omega
  simp only [List.length_nil] at h2
  have := nodup_le S _ (hT.lt.imp (by rintro a b h rfl; unfold ltC at h; omega)) (fun x hx => (hT.mem x).1 hx)
  omega

set_option maxHeartbeats 1600000 in
set_option maxRecDepth 100000 in
theorem law6_long (limit : Int) (A1 : Option Addr) (c1 : Nat) (l : List S28) (w : World) (hcap : l.length ≤ c1) (hmax : l.length ≤ 9223372036854775807) (hlen : 100 < l.length) :
    Calls Try.prog 6 #[.int .i64 limit, .slice A1 l.length c1] w fun e w' => e = .returned (.bool true) ∧ Below w.heap.size w w' := by
  have hj := judges_calls w
  have HJ := Lib.hid hj
  clear hj
  go_enter Try.func6, Try.ntmps6
  go_wp2_with fail
  refine HJ.out.mono ?_
  rintro e w1 ⟨rfl, hb⟩
  have HB := Lib.hid hb
  clear hb
  go_wp2
  go_ret
  exact ⟨rfl, HB.out⟩

set_option maxHeartbeats 4000000 in
set_option maxRecDepth 100000 in
theorem law6_good (limit : Int) (A1 : Option Addr) (c1 : Nat) (l : List S28) (w : World) (hl : I64 limit) (hr : Kd.C k28 w A1 l.length l) (hcap : l.length ≤ c1) (hlen : l.length ≤ 100) (h0 : (play limit [] 0 (steps l)).2 = 0) :
    Calls Try.prog 6 #[.int .i64 limit, .slice A1 l.length c1] w fun e w' => e = .returned (.bool true) ∧ Below w.heap.size w w' := by
  have hM : l.length ≤ l.length ∧ ∀ k, k ≤ l.length → (play limit [] 0 (steps (l.take k))).2 = 0 := ⟨Nat.le_refl _, fun k _ => by rw [steps_take]; exact play_take _ _ _ _ _ (.inl h0)⟩
  have hpm : play limit [] 0 (steps l) = (-1, 0) := Prod.ext (play_ok _ _ _ _ h0) h0
  have HJ := Lib.hid (judges_calls w)
  have HR := Lib.hid hr
  have HJ2 := Lib.hid fun (W : World) (hb : Below w.heap.size w W) => judge_calls limit A1 c1 l W hl (Kd.C_below hr hb) hcap (by omega)
  obtain ⟨m, hm⟩ : ∃ m, m = l.length := ⟨_, rfl⟩
  rw [hpm] at HJ2
  rw [← hm] at hM
  have HM : Hid (m ≤ l.length ∧ ∀ k, k ≤ m → (play limit [] 0 (steps (l.take k))).2 = 0) := Lib.hid (by rw [← hm]; exact hM)
  have HE := Lib.hid hm
  have hm100 : m ≤ 100 := by omega
  clear hr hpm h0 hM hm
  go_enter Try.func6, Try.ntmps6
  go_wp2_with fail
  refine HJ.out.mono ?_
  rintro e w1 ⟨rfl, hb⟩
  have HJ3 := Lib.hid (HJ2.out w1 hb)
  have HB := Lib.hid hb
  clear hb HJ2 HJ
  go_wp2_with fail
  refine HJ3.out.mono ?_
  rintro e w2 ⟨rfl, hb⟩
  have HB2 := Lib.hid (HB.out.trans (hb.mono HB.out.size))
  clear hb HJ3 HB
  obtain rfl : m = l.length := HE.out
  go_wp2
  go_loopw [9] (fun i wr => ∃ k : Nat, k ≤ l.length + 1 ∧ i = .int .i64 k ∧ Below w.heap.size w wr) (fun i _ => l.length + 1 - (intOf i).toNat)
  case atStart => exact ⟨0, Nat.zero_le _, rfl, HB2.out⟩
  case round =>
    obtain ⟨k, hk, rfl, hbr⟩ := hrel
    have HBR := Lib.hid hbr
    clear hbr
    by_cases hlt : k ≤ l.length
    · have hrt := replay_take limit A1 c1 l k wr hl (Kd.C_below HR.out HBR.out) hcap hlen (by have := HM.out.1; omega) (HM.out.2 k hlt)
      have hsl : ∀ W, (Instr.slice 22 (.slice A1 l.length c1) none (some (.int .i64 (k : Int))) none).run Try.prog W = .ok (.slice A1 k c1) W := slice22 A1 l.length c1 k (by have := HM.out.1; omega)
      have HRT := Lib.hid hrt
      clear hrt
      go_wp2_with fail
      refine HRT.out.mono ?_
      rintro e w3 ⟨hb3, A, c, S, rfl, hC, hW, hSl, hS1⟩
      have HB3 := Lib.hid (HBR.out.trans (hb3.mono HBR.out.size))
      have HC := Lib.hid hC
      have HW := Lib.hid hW
      clear hb3 hC hW HRT hsl
      have hmm := @run_makeMap Try.prog
      obtain ⟨g, hg⟩ : ∃ g, g = w3.heap.size := ⟨_, rfl⟩
      have hm0 : MapB EI 4 (w3.alloc (.map #[] 0)) g 0 (fun _ => false) := by rw [hg]; exact MapB.made w3
      have HM0 := Lib.hid hm0
      have HG := Lib.hid hg
      clear hg hm0
      by_cases hk0 : 0 < k
      all_goals
        have HSl := Lib.hid hSl
        (try have hSl2 : (S.length : Int) ≤ limit := HSl.out hk0)
        clear hSl
        go_wp2
        go_loopw [68] (fun i wr => ∃ j : Nat, j ≤ S.length ∧ i = .int .i64 j ∧ MapB EI 4 wr w3.heap.size j (fun y => decide (y ∈ (S.take j).map (·.2))) ∧ Below w3.heap.size w3 wr) (fun i _ => S.length - (intOf i).toNat)
        case atStart => exact ⟨0, Nat.zero_le _, rfl, by rw [← HG.out]; exact HM0.out.congr (fun x _ => by simp), (Below.refl _ _).alloc (Nat.le_refl _) _⟩
        case round =>
          obtain ⟨j, hj, rfl, hmb, hbi⟩ := hrel
          have HMB := Lib.hid hmb
          have HBI := Lib.hid hbi
          by_cases hjl : j < S.length
          · obtain ⟨ad, rfl, r0, r1⟩ := at_T55 HC.out j (by omega) (by omega)
            simp only [Int.toNat_natCast] at r0 r1
            obtain ⟨q0, q1⟩ := rd_map S j hjl
            have hrg := HW.out.rng S[j] (List.getElem_mem hjl)
            have hfr := HW.out.fresh j hjl
            have HTK : Hid ((S.take (j + 1)).map (·.2) = (S.take j).map (·.2) ++ [(S[j]).2]) := Lib.hid (by rw [List.take_succ_eq_append_getElem hjl, List.map_append]; rfl)
            rw [q0] at r0
            rw [q1] at r1
            clear q0 q1
            generalize (S[j]).1 = x0 at *
            generalize (S[j]).2 = x1 at *
            replace r0 := (hbi.cell (World.block_lt_of_cell? w3 _ r0)).trans r0
            replace r1 := (hbi.cell (World.block_lt_of_cell? w3 _ r1)).trans r1
            have hx1 : I64 x1 := by unfold I64 at hl ⊢; omega
            have hmb2 := HMB.out.alloc (.cells #[.int .i64 x0, .int .i64 x1] 55)
            have hlook : (Instr.lookup 56 (.map (some w3.heap.size)) (.int .i64 x1) false).run Try.prog (wr.alloc (.cells #[.int .i64 x0, .int .i64 x1] 55)) = .ok (.bool false) (wr.alloc (.cells #[.int .i64 x0, .int .i64 x1] 55)) := by
              exact (hmb2.look Try.underlying56 Try.underlying4 zero4 (x := x1) hx1).trans (by rw [hfr])
            have HX1 := Lib.hid hx1
            have HMB2 := Lib.hid hmb2
            have HBI2 := Lib.hid (hbi.alloc hbi.size (.cells #[.int .i64 x0, .int .i64 x1] 55))
            obtain ⟨hr1, hr2⟩ := hrg
            clear hmb hbi hx1 hmb2 hfr
            go_wp2_with (first
              | (at_mapUpdate; refine wpList_put_B _ rfl _ _ _ 56 rfl EI 4 Try.underlying56 Try.underlying4 w3.heap.size j _ rfl HMB2.out (by unfold maxLen; omega) x1 rfl HX1.out rfl ?_; intro w5 hm5 ht5)
              | fail)
            have HM5 := Lib.hid hm5
            have HB5 := Lib.hid (turned_below HBI2.out ht5 (Nat.le_refl _) HBI2.out.size)
            clear hm5 ht5
            go_wp2
            go_roundw
            case rel => exact ⟨j + 1, by omega, by go_num, HM5.out.congr (fun y _ => by rw [HTK.out]; simp [Bool.or_comm, eq_comm]), HB5.out⟩
            case measure => simp [intOf]; omega
          · obtain rfl : j = S.length := by omega
            clear hmb hbi
            go_wp2
            go_roundw
            case rel => exact ⟨k + 1, by omega, by go_num, HB3.out.trans (HBI.out.mono HB3.out.size)⟩
            case measure => simp [intOf]; omega
    · go_wp2
      go_ret
      exact ⟨rfl, HBR.out⟩

set_option maxHeartbeats 4000000 in
set_option maxRecDepth 100000 in
theorem law6_bad (limit : Int) (A1 : Option Addr) (c1 : Nat) (l : List S28) (w : World) (hl : I64 limit) (hr : Kd.C k28 w A1 l.length l) (hcap : l.length ≤ c1) (hlen : l.length ≤ 100) (h0 : (play limit [] 0 (steps l)).2 ≠ 0) :
    Calls Try.prog 6 #[.int .i64 limit, .slice A1 l.length c1] w fun e w' => e = .returned (.bool true) ∧ Below w.heap.size w w' := by
  obtain ⟨hp1, hp2⟩ := play_bad limit (steps l) [] 0 h0
  obtain ⟨m, hm⟩ : ∃ m : Nat, (play limit [] 0 (steps l)).1 = m := ⟨(play limit [] 0 (steps l)).1.toNat, by omega⟩
  have hsl : (steps l).length = l.length := by simp [steps]
  have hml : m < l.length := by omega
  have HM : Hid (m ≤ l.length ∧ ∀ k, k ≤ m → (play limit [] 0 (steps (l.take k))).2 = 0) := Lib.hid ⟨by omega, fun k hk => by rw [steps_take]; exact play_take _ _ _ _ _ (.inr (by omega))⟩
  obtain ⟨E, hE⟩ : ∃ E, E = (play limit [] 0 (steps l)).2 := ⟨_, rfl⟩
  have b1 : (E != 0) = true := bne_iff_ne.2 (by rw [hE]; exact h0)
  have HJ := Lib.hid (judges_calls w)
  have HR := Lib.hid hr
  have HJ2 := Lib.hid fun (W : World) (hb : Below w.heap.size w W) => judge_calls limit A1 c1 l W hl (Kd.C_below hr hb) hcap (by omega)
  rw [← hE, hm] at HJ2
  have d1 : decide (l.length ≤ m) = false := by simp; omega
  clear hr h0 hE hm hp1 hp2 hsl
  go_enter Try.func6, Try.ntmps6
  go_wp2_with fail
  refine HJ.out.mono ?_
  rintro e w1 ⟨rfl, hb⟩
  have HJ3 := Lib.hid (HJ2.out w1 hb)
  have HB := Lib.hid hb
  clear hb HJ2 HJ
  go_wp2_with fail
  refine HJ3.out.mono ?_
  rintro e w2 ⟨rfl, hb⟩
  have HB2 := Lib.hid (HB.out.trans (hb.mono HB.out.size))
  clear hb HJ3 HB
  go_wp2
  go_loopw [9] (fun i wr => ∃ k : Nat, k ≤ m + 1 ∧ i = .int .i64 k ∧ Below w.heap.size w wr) (fun i _ => m + 1 - (intOf i).toNat)
  case atStart => exact ⟨0, Nat.zero_le _, rfl, HB2.out⟩
  case round =>
    obtain ⟨k, hk, rfl, hbr⟩ := hrel
    have HBR := Lib.hid hbr
    clear hbr
    by_cases hlt : k ≤ m
    · have hrt := replay_take limit A1 c1 l k wr hl (Kd.C_below HR.out HBR.out) hcap hlen (by have := HM.out.1; omega) (HM.out.2 k hlt)
      have hsl : ∀ W, (Instr.slice 22 (.slice A1 l.length c1) none (some (.int .i64 (k : Int))) none).run Try.prog W = .ok (.slice A1 k c1) W := slice22 A1 l.length c1 k (by have := HM.out.1; omega)
      have HRT := Lib.hid hrt
      clear hrt
      go_wp2_with fail
      refine HRT.out.mono ?_
      rintro e w3 ⟨hb3, A, c, S, rfl, hC, hW, hSl, hS1⟩
      have HB3 := Lib.hid (HBR.out.trans (hb3.mono HBR.out.size))
      have HC := Lib.hid hC
      have HW := Lib.hid hW
      clear hb3 hC hW HRT hsl
      have hmm := @run_makeMap Try.prog
      obtain ⟨g, hg⟩ : ∃ g, g = w3.heap.size := ⟨_, rfl⟩
      have hm0 : MapB EI 4 (w3.alloc (.map #[] 0)) g 0 (fun _ => false) := by rw [hg]; exact MapB.made w3
      have HM0 := Lib.hid hm0
      have HG := Lib.hid hg
      clear hg hm0
      by_cases hk0 : 0 < k
      all_goals
        have HSl := Lib.hid hSl
        (try have hSl2 : (S.length : Int) ≤ limit := HSl.out hk0)
        clear hSl
        go_wp2
        go_loopw [68] (fun i wr => ∃ j : Nat, j ≤ S.length ∧ i = .int .i64 j ∧ MapB EI 4 wr w3.heap.size j (fun y => decide (y ∈ (S.take j).map (·.2))) ∧ Below w3.heap.size w3 wr) (fun i _ => S.length - (intOf i).toNat)
        case atStart => exact ⟨0, Nat.zero_le _, rfl, by rw [← HG.out]; exact HM0.out.congr (fun x _ => by simp), (Below.refl _ _).alloc (Nat.le_refl _) _⟩
        case round =>
          obtain ⟨j, hj, rfl, hmb, hbi⟩ := hrel
          have HMB := Lib.hid hmb
          have HBI := Lib.hid hbi
          by_cases hjl : j < S.length
          · obtain ⟨ad, rfl, r0, r1⟩ := at_T55 HC.out j (by omega) (by omega)
            simp only [Int.toNat_natCast] at r0 r1
            obtain ⟨q0, q1⟩ := rd_map S j hjl
            have hrg := HW.out.rng S[j] (List.getElem_mem hjl)
            have hfr := HW.out.fresh j hjl
            have HTK : Hid ((S.take (j + 1)).map (·.2) = (S.take j).map (·.2) ++ [(S[j]).2]) := Lib.hid (by rw [List.take_succ_eq_append_getElem hjl, List.map_append]; rfl)
            rw [q0] at r0
            rw [q1] at r1
            clear q0 q1
            generalize (S[j]).1 = x0 at *
            generalize (S[j]).2 = x1 at *
            replace r0 := (hbi.cell (World.block_lt_of_cell? w3 _ r0)).trans r0
            replace r1 := (hbi.cell (World.block_lt_of_cell? w3 _ r1)).trans r1
            have hx1 : I64 x1 := by unfold I64 at hl ⊢; omega
            have hmb2 := HMB.out.alloc (.cells #[.int .i64 x0, .int .i64 x1] 55)
            have hlook : (Instr.lookup 56 (.map (some w3.heap.size)) (.int .i64 x1) false).run Try.prog (wr.alloc (.cells #[.int .i64 x0, .int .i64 x1] 55)) = .ok (.bool false) (wr.alloc (.cells #[.int .i64 x0, .int .i64 x1] 55)) := by
              exact (hmb2.look Try.underlying56 Try.underlying4 zero4 (x := x1) hx1).trans (by rw [hfr])
            have HX1 := Lib.hid hx1
            have HMB2 := Lib.hid hmb2
            have HBI2 := Lib.hid (hbi.alloc hbi.size (.cells #[.int .i64 x0, .int .i64 x1] 55))
            obtain ⟨hr1, hr2⟩ := hrg
            clear hmb hbi hx1 hmb2 hfr
            go_wp2_with (first
              | (at_mapUpdate; refine wpList_put_B _ rfl _ _ _ 56 rfl EI 4 Try.underlying56 Try.underlying4 w3.heap.size j _ rfl HMB2.out (by unfold maxLen; omega) x1 rfl HX1.out rfl ?_; intro w5 hm5 ht5)
              | fail)
            have HM5 := Lib.hid hm5
            have HB5 := Lib.hid (turned_below HBI2.out ht5 (Nat.le_refl _) HBI2.out.size)
            clear hm5 ht5
            go_wp2
            go_roundw
            case rel => exact ⟨j + 1, by omega, by go_num, HM5.out.congr (fun y _ => by rw [HTK.out]; simp [Bool.or_comm, eq_comm]), HB5.out⟩
            case measure => simp [intOf]; omega
          · obtain rfl : j = S.length := by omega
            clear hmb hbi
            go_wp2
            go_roundw
            case rel => exact ⟨k + 1, by omega, by go_num, HB3.out.trans (HBI.out.mono HB3.out.size)⟩
            case measure => simp [intOf]; omega
    · go_wp2
      go_ret
      exact ⟨rfl, HBR.out⟩

theorem law6_short (limit : Int) (A1 : Option Addr) (c1 : Nat) (l : List S28) (w : World) (hl : I64 limit) (hr : Kd.C k28 w A1 l.length l) (hcap : l.length ≤ c1) (hlen : l.length ≤ 100) :
    Calls Try.prog 6 #[.int .i64 limit, .slice A1 l.length c1] w fun e w' => e = .returned (.bool true) ∧ Below w.heap.size w w' := by
  by_cases h0 : (play limit [] 0 (steps l)).2 = 0
  · exact law6_good limit A1 c1 l w hl hr hcap hlen h0
  · exact law6_bad limit A1 c1 l w hl hr hcap hlen h0
end Go.Proofs.Ytojgiaemgpnfdaa.K
