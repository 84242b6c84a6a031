/- judge.take, one contract for every input. -/
import Derived.Test.YtojgiaemgpnfdaaJ4
set_option linter.unusedVariables false
set_option linter.unusedSimpArgs false
namespace Go.Proofs.Ytojgiaemgpnfdaa.J
open Go.RowKit Go.Maps Go.Proofs.YtojgiaemgpnfdaaM Go.Proofs.Ytojgiaemgpnfdaa.JP

/-- What the struct of three maps stands for: the connections that are open. -/
structure IsOpen (w : World) (g bc bo bm m : Nat) (C : List (Int × Int)) : Prop where
  h0 : w.cell? ⟨g, 0, none⟩ = some (.map (some bc))
  h1 : w.cell? ⟨g, 1, none⟩ = some (.map (some bo))
  h2 : w.cell? ⟨g, 2, none⟩ = some (.map (some bm))
  ne : bc ≠ bo ∧ bc ≠ bm ∧ bo ≠ bm
  c : ∃ fc, MapF EC 3 w bc m fc ∧ ∀ x, (I64 x.1 ∧ I64 x.2) → fc x = if x ∈ C then some 1 else none
  o : ∃ fo, MapF EI 3 w bo m fo ∧ ∀ t, I64 t → ((∀ n, (n, t) ∉ C) ∧ fo t = none) ∨ ∃ n, (n, t) ∈ C ∧ fo t = some n
  mm : ∃ fm, MapF EI 3 w bm m fm ∧ ∀ n, I64 n → (fm n).getD 0 = cnt C n

def Three (bc bo bm i : Nat) : Prop := i = bc ∨ i = bo ∨ i = bm
theorem keep_of_below {w w' : World} (h : Below w.heap.size w w') (S : Nat → Prop) : Keep S w w' := ⟨h.os, h.tape, h.output, h.size, fun i hi _ => h.block i hi⟩

theorem take_calls (limit k n t : Int) (g bc bo bm m : Nat) (C : List (Int × Int)) (w : World) (hI : IsOpen w g bc bo bm m C) (hC : Inv limit C) (hl : I64 limit) (hm : m < 100000) (B : Nat) (hB : B ≤ bc ∧ B ≤ bo ∧ B ≤ bm ∧ B ≤ w.heap.size) (hgB : B ≤ g) :
    Calls Try.prog 37 #[.pointer (some ⟨g, 0, none⟩), .int .i64 limit, .agg #[.int .i64 k, .int .i64 n, .int .i64 t]] w fun e w' => e = .returned (.int .i64 (stepE limit C k n t)) ∧ (stepE limit C k n t = 0 → IsOpen w' g bc bo bm (m + 1) (stepC C k n t)) ∧ Below B w w' := by
  obtain ⟨h0, h1, h2, ne, ⟨fc, hc, qc⟩, ⟨fo, ho, qo⟩, ⟨fm, hmm, qm⟩⟩ := hI
  obtain ⟨B1, B2, B3, B4⟩ := hB
  have hE : ∃ E, E = stepE limit C k n t := ⟨_, rfl⟩
  obtain ⟨E, hE⟩ := hE
  rw [← hE]
  have hE0 := hE
  unfold stepE at hE
  unfold I64 at hl
  by_cases hb : Bad limit k n t
  · rw [if_pos hb] at hE
    subst hE
    exact (take_bad limit k n t g w hb).mono fun e w' ⟨h, hb⟩ => ⟨h, (fun h => by cases h), hb.mono B4⟩
  rw [if_neg hb] at hE
  by_cases h3 : k = 3
  · rw [if_pos h3] at hE
    subst h3
    subst hE
    unfold Bad lowOf highOf at hb
    simp only [if_true] at hb
    obtain rfl : t = 0 := by omega
    refine (take_f limit n g bc bo bm m fc fo fm w h0 h1 h2 hc ho hmm ne hm (by omega) (by omega) (by omega)).mono ?_
    rintro e w' ⟨rfl, ⟨r1, ⟨fo', r2, r3⟩, r4⟩, hk⟩
    refine ⟨rfl, fun _ => ?_, hk.below B4 (by rintro i (rfl | rfl | rfl) <;> assumption)⟩
    have nb : ∀ {o v}, w.cell? ⟨g, o, none⟩ = some v → w'.cell? ⟨g, o, none⟩ = some v := fun h => hk.cell (by
      rintro (e | e | e)
      · exact mapF_ne_cell hc h0 e
      · exact mapF_ne_cell ho h0 e
      · exact mapF_ne_cell hmm h0 e) h
    refine ⟨nb h0, nb h1, nb h2, ne, ⟨_, r1.mono (by omega), fun x hx => ?_⟩, ⟨fo', r2.mono (by omega), fun t ht => ?_⟩, ⟨_, r4, fun x hx => ?_⟩⟩
    · have hst : stepC C 3 n 0 = C.filter fun c => decide (c.1 ≠ n) := by simp [stepC]
      rw [hst, qc x hx]
      by_cases e1 : x.1 = n <;> by_cases e2 : x ∈ C <;> simp [e1, e2]
    · have hst : stepC C 3 n 0 = C.filter fun c => decide (c.1 ≠ n) := by simp [stepC]
      rw [hst]
      have hcase : (∃ x : Int × Int, (I64 x.1 ∧ I64 x.2) ∧ (fc x).isSome = true ∧ x.1 = n ∧ x.2 = t) ↔ (n, t) ∈ C := by
        constructor
        · rintro ⟨⟨a, b⟩, hx, hs, e1, e2⟩
          simp only at e1 e2
          subst e1; subst e2
          rw [qc _ hx] at hs
          by_cases hm : (a, b) ∈ C
          · exact hm
          · simp [hm] at hs
        · intro hm
          have hx : I64 (n, t).1 ∧ I64 (n, t).2 := ⟨by unfold I64; simp only; omega, ht⟩
          exact ⟨(n, t), hx, by rw [qc _ hx, if_pos hm]; rfl, rfl, rfl⟩
      by_cases hin : (n, t) ∈ C
      · left
        refine ⟨fun a ha => ?_, (r3 t ht).1 (hcase.2 hin)⟩
        obtain ⟨h5, h6⟩ := List.mem_filter.1 ha
        have := tok_inj hC hin h5
        simp at h6
        exact h6 this.symm
      · rw [(r3 t ht).2 (fun h => hin (hcase.1 h))]
        rcases qo t ht with ⟨h5, h6⟩ | ⟨a, h5, h6⟩
        · exact .inl ⟨fun a ha => h5 a (List.mem_filter.1 ha).1, h6⟩
        · refine .inr ⟨a, List.mem_filter.2 ⟨h5, ?_⟩, h6⟩
          have : a ≠ n := fun e => hin (e ▸ h5)
          simpa using this
    · have hst : stepC C 3 n 0 = C.filter fun c => decide (c.1 ≠ n) := by simp [stepC]
      rw [hst]
      unfold upd
      by_cases e1 : x = n
      · rw [if_pos e1]
        unfold cnt
        rw [List.filter_filter]
        have : (C.filter fun a => (decide (a.1 = x) && decide (a.1 ≠ n))) = [] := by
          rw [List.filter_eq_nil_iff]
          intro a _; subst e1; simp
        rw [this]; rfl
      · rw [if_neg e1, qm x hx]
        unfold cnt
        rw [List.filter_filter]
        have : (C.filter fun a => (decide (a.1 = x) && decide (a.1 ≠ n))) = C.filter fun c => decide (c.1 = x) := by
          congr 1; funext a
          by_cases e2 : a.1 = x <;> simp [e2, e1]
        rw [this]
  rw [if_neg h3] at hE
  have hr : 1 ≤ k ∧ k ≤ 3 ∧ 1 ≤ limit ∧ 1 ≤ n ∧ n ≤ 7 ∧ 1 ≤ t ∧ t ≤ limit := by
    unfold Bad lowOf highOf at hb
    rw [if_neg h3, if_neg h3] at hb
    omega
  obtain ⟨r1, r2, r3, r4, r5, r6, r7⟩ := hr
  have wn : I64 n := by unfold I64; omega
  have wt : I64 t := by unfold I64; omega
  have hfc := qc (n, t) ⟨wn, wt⟩
  by_cases h2k : k = 2
  · rw [if_pos h2k] at hE
    subst h2k
    by_cases hin : (n, t) ∈ C
    · rw [if_pos hin] at hE
      rw [if_pos hin] at hfc
      subst hE
      have hcn := qm n wn
      refine (take_c2 limit n t g bc bo bm m fc fo fm w h0 h1 h2 hc ho hmm ne hm r3 r4 r5 r6 r7 hl.2 (by rw [hfc]; rfl) (cnt C n) hcn (hC.many n) (cnt_pos hin)).mono ?_
      rintro e w' ⟨rfl, ⟨q1, q2, q3⟩, hk⟩
      have nb : ∀ {o v}, w.cell? ⟨g, o, none⟩ = some v → w'.cell? ⟨g, o, none⟩ = some v := fun h => hk.cell (by
        rintro (e | e | e)
        · exact mapF_ne_cell hc h0 e
        · exact mapF_ne_cell ho h0 e
        · exact mapF_ne_cell hmm h0 e) h
      have hst : stepC C 2 n t = C.filter fun c => decide (c ≠ (n, t)) := by simp [stepC]
      rw [hst]
      refine ⟨rfl, fun _ => ⟨nb h0, nb h1, nb h2, ne, ⟨_, q1.mono (by omega), fun x hx => ?_⟩, ⟨_, q2.mono (by omega), fun u hu => ?_⟩, ⟨_, q3, fun x hx => ?_⟩⟩, hk.below B4 (by rintro i (rfl | rfl | rfl) <;> assumption)⟩
      · unfold upd
        by_cases e1 : x = (n, t)
        · simp [e1]
        · rw [if_neg e1, qc x hx]; by_cases e2 : x ∈ C <;> simp [e1, e2]
      · unfold upd
        by_cases e1 : u = t
        · subst e1
          left
          refine ⟨fun a ha => ?_, by simp⟩
          obtain ⟨h5, h6⟩ := List.mem_filter.1 ha
          have := tok_inj hC hin h5
          subst this
          simp at h6
        · rw [if_neg e1]
          rcases qo u hu with ⟨h5, h6⟩ | ⟨a, h5, h6⟩
          · exact .inl ⟨fun a ha => h5 a (List.mem_filter.1 ha).1, h6⟩
          · refine .inr ⟨a, List.mem_filter.2 ⟨h5, ?_⟩, h6⟩
            simp [e1]
      · unfold upd
        rw [cnt_remove hC hin]
        by_cases e1 : x = n
        · subst e1; simp
        · rw [if_neg e1, qm x hx, if_neg (fun h => e1 h.symm)]; omega
    · rw [if_neg hin] at hE
      rw [if_neg hin] at hfc
      subst hE
      exact (take_c1 limit n t g bc bo bm m fc fo fm w h0 h1 h2 hc ho hmm r3 r4 r5 r6 r7 hl.2 (by rw [hfc]; rfl)).mono fun e w' ⟨h, hb⟩ => ⟨h, (fun h => by cases h), hb.mono B4⟩
  rw [if_neg h2k] at hE
  obtain rfl : k = 1 := by omega
  by_cases hin : (n, t) ∈ C
  · rw [if_pos hin] at hE
    rw [if_pos hin] at hfc
    subst hE
    exact (take_o1 limit n t g bc bo bm m fc fo fm w h0 h1 h2 hc ho hmm r3 r4 r5 r6 r7 hl.2 (by rw [hfc]; rfl)).mono fun e w' ⟨h, hb⟩ => ⟨h, (fun h => by cases h), hb.mono B4⟩
  rw [if_neg hin] at hE
  rw [if_neg hin] at hfc
  by_cases htok : hasTok C t = true
  · rw [if_pos htok] at hE
    subst hE
    obtain ⟨a, ha⟩ := (hasTok_iff C t).1 htok
    rcases qo t wt with ⟨h5, h6⟩ | ⟨b, h5, h6⟩
    · exact absurd ha (h5 a)
    · have hb := hC.rng _ h5
      simp only at hb
      exact (take_o2 limit n t g bc bo bm m fc fo fm w h0 h1 h2 hc ho hmm r3 r4 r5 r6 r7 hl.2 (by rw [hfc]; rfl) b (by rw [h6]; rfl) (beq_eq_false_iff_ne.2 (by omega)) (bne_iff_ne.2 (by omega))).mono fun e w' ⟨h, hb⟩ => ⟨h, (fun h => by cases h), hb.mono B4⟩
  rw [if_neg htok] at hE
  have hfo : fo t = none := by
    rcases qo t wt with ⟨_, h6⟩ | ⟨b, h5, _⟩
    · exact h6
    · exact absurd ((hasTok_iff C t).2 ⟨b, h5⟩) htok
  by_cases h8 : 8 ≤ cnt C n
  · rw [if_pos h8] at hE
    subst hE
    exact (take_o3 limit n t g bc bo bm m fc fo fm w h0 h1 h2 hc ho hmm r3 r4 r5 r6 r7 hl.2 (by rw [hfc]; rfl) (by rw [hfo]; rfl) (cnt C n) (qm n wn) h8).mono fun e w' ⟨h, hb⟩ => ⟨h, (fun h => by cases h), hb.mono B4⟩
  rw [if_neg h8] at hE
  subst hE
  refine (take_o4 limit n t g bc bo bm m fc fo fm w h0 h1 h2 hc ho hmm ne hm r3 r4 r5 r6 r7 hl.2 (by rw [hfc]; rfl) (by rw [hfo]; rfl) (cnt C n) (qm n wn) (by omega) (cnt_nonneg C n)).mono ?_
  rintro e w' ⟨rfl, ⟨q1, q2, q3⟩, hk⟩
  have nb : ∀ {o v}, w.cell? ⟨g, o, none⟩ = some v → w'.cell? ⟨g, o, none⟩ = some v := fun h => hk.cell (by
    rintro (e | e | e)
    · exact mapF_ne_cell hc h0 e
    · exact mapF_ne_cell ho h0 e
    · exact mapF_ne_cell hmm h0 e) h
  have hst : stepC C 1 n t = C ++ [(n, t)] := by simp [stepC]
  rw [hst]
  refine ⟨rfl, fun _ => ⟨nb h0, nb h1, nb h2, ne, ⟨_, q1, fun x hx => ?_⟩, ⟨_, q2, fun u hu => ?_⟩, ⟨_, q3, fun x hx => ?_⟩⟩, hk.below B4 (by rintro i (rfl | rfl | rfl) <;> assumption)⟩
  · unfold upd
    by_cases e1 : x = (n, t)
    · simp [e1]
    · rw [if_neg e1, qc x hx]; by_cases e2 : x ∈ C <;> simp [e1, e2]
  · unfold upd
    by_cases e1 : u = t
    · subst e1
      exact .inr ⟨n, by simp, by simp⟩
    · rw [if_neg e1]
      rcases qo u hu with ⟨h5, h6⟩ | ⟨a, h5, h6⟩
      · refine .inl ⟨fun a ha => ?_, h6⟩
        rcases List.mem_append.1 ha with h7 | h7
        · exact h5 a h7
        · simp at h7; exact e1 h7.2
      · exact .inr ⟨a, List.mem_append.2 (.inl h5), h6⟩
  · unfold upd
    rw [cnt_append]
    by_cases e1 : x = n
    · subst e1; simp
    · rw [if_neg e1, qm x hx, if_neg (fun h => e1 h.symm)]; omega
end Go.Proofs.Ytojgiaemgpnfdaa.J
