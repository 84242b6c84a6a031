/- The document's Replay is the plain list. -/
import Derived.Test.YtojgiaemgpnfdaaK5
import Derived.Test.YtojgiaemgpnfdaaRp
set_option linter.unusedVariables false
set_option linter.unusedSimpArgs false
namespace Go.Proofs.Ytojgiaemgpnfdaa.K
open Go.RowKit Go.Proofs.Ytojgiaemgpnfdaa.J Go.Proofs.Ytojgiaemgpnfdaa.JP Go.Proofs.YtojgiaemgpnfdaaW.PrintWords Go.Proofs.Ytojgiaemgpnfdaa.PJudgeJudges

theorem open_after (limit : Int) (l : List S28) : ∀ (C : List (Int × Int)) (i : Int), (play limit C i (steps l)).2 = 0 → l.foldl openR (C.map mk55) = (after C (steps l)).map mk55 := by
  induction l with
  | nil => intro C i _; rfl
  | cons s l ih =>
    intro C i h
    have e : steps (s :: l) = (s.f0, s.f1, s.f2) :: steps l := rfl
    rw [e, play] at h
    by_cases h0 : stepE limit C s.f0 s.f1 s.f2 = 0
    · rw [if_pos h0] at h
      rw [List.foldl_cons, openR_step C s (stepE_kind h0), ih _ _ h]
      rfl
    · rw [if_neg h0] at h
      exact absurd h h0

/-- The least token of a node above one, or what was there. -/
def least (n last : Int) (best : Int) (c : Int × Int) : Int := if c.1 = n ∧ last < c.2 ∧ (best = 0 ∨ c.2 < best) then c.2 else best
theorem least_spec (n last : Int) (hl : 0 ≤ last) : ∀ (C : List (Int × Int)) (b : Int), (b = 0 ∨ last < b) →
    (C.foldl (least n last) b = 0 ∨ last < C.foldl (least n last) b) ∧
    (C.foldl (least n last) b = 0 → b = 0 ∧ ∀ c ∈ C, c.1 = n → c.2 ≤ last) ∧
    (C.foldl (least n last) b ≠ 0 → (C.foldl (least n last) b = b ∨ (n, C.foldl (least n last) b) ∈ C) ∧ (b ≠ 0 → C.foldl (least n last) b ≤ b) ∧ ∀ c ∈ C, c.1 = n → last < c.2 → C.foldl (least n last) b ≤ c.2) := by
  intro C
  induction C with
  | nil =>
    intro b hb
    exact ⟨hb, fun h => ⟨h, by simp⟩, fun h => ⟨.inl rfl, fun _ => Int.le_refl _, by simp⟩⟩
  | cons a C ih =>
    intro b hb
    rw [List.foldl_cons]
    have hb' : least n last b a = 0 ∨ last < least n last b a := by
      unfold least; split
      · right; omega
      · exact hb
    obtain ⟨h1, h2, h3⟩ := ih (least n last b a) hb'
    refine ⟨h1, fun h => ?_, fun h => ?_⟩
    · obtain ⟨g1, g2⟩ := h2 h
      unfold least at g1
      by_cases hc : a.1 = n ∧ last < a.2 ∧ (b = 0 ∨ a.2 < b)
      · rw [if_pos hc] at g1; omega
      · rw [if_neg hc] at g1
        refine ⟨g1, fun c hcm => ?_⟩
        rcases List.mem_cons.1 hcm with e | e
        · subst e; intro hn; omega
        · exact g2 c e
    · obtain ⟨g1, g2, g3⟩ := h3 h
      by_cases hc : a.1 = n ∧ last < a.2 ∧ (b = 0 ∨ a.2 < b)
      · have e : least n last b a = a.2 := by unfold least; rw [if_pos hc]
        rw [e] at g1 g2 g3 h ⊢
        have hne : a.2 ≠ 0 := by omega
        refine ⟨.inr ?_, fun hb0 => ?_, fun c hcm hcn hcl => ?_⟩
        · rcases g1 with q | q
          · rw [q, ← hc.1]; exact List.mem_cons_self ..
          · exact List.mem_cons_of_mem _ q
        · have := g2 hne; omega
        · rcases List.mem_cons.1 hcm with e2 | e2
          · subst e2; exact g2 hne
          · exact g3 c e2 hcn hcl
      · have e : least n last b a = b := by unfold least; rw [if_neg hc]
        rw [e] at g1 g2 g3 h ⊢
        refine ⟨?_, g2, fun c hcm hcn hcl => ?_⟩
        · rcases g1 with q | q
          · exact .inl q
          · exact .inr (List.mem_cons_of_mem _ q)
        · rcases List.mem_cons.1 hcm with e2 | e2
          · subst e2
            have hb0 : b ≠ 0 := by omega
            have := g2 hb0; omega
          · exact g3 c e2 hcn hcl

theorem replay_l2 (X : List (Int × Int)) (x9 : List S55) (n last : Int) (r : List S55 × Int) (hX : X.length ≤ 1000) (h9 : x9.length ≤ 1000) (d : Nat) : ∀ (i : Nat) (b : Int), i + d = X.length →
    Ev (fun k => if (X.drop i).foldl (least n last) b = 0 then stopcockref22_Replay.l0 k (X.map mk55) x9 (wrap64 (n + 1)) else stopcockref22_Replay.l1 k (X.map mk55) (x9 ++ [⟨n, (X.drop i).foldl (least n last) b⟩]) n ((X.drop i).foldl (least n last) b)) r →
    Ev (fun k => stopcockref22_Replay.l2 k (X.map mk55) x9 n last b (X.map mk55) ((X.map mk55).length : Int) i) r := by
  induction d with
  | zero =>
    intro i b hi h
    rw [List.drop_of_length_le (by omega), List.foldl_nil] at h
    refine Ev.step (fun k => ?_) h
    rw [stopcockref22_Replay.l2, if_neg (by simp; omega)]
    by_cases hb : b = 0
    · rw [if_pos hb, if_pos hb]
    · rw [if_neg hb, if_neg hb, if_pos (by omega)]
  | succ d ih =>
    intro i b hi h
    have hlt : i < X.length := by omega
    have hlt2 : i < (X.map mk55).length := by simpa using hlt
    have hd : X.drop i = X[i] :: X.drop (i + 1) := List.drop_eq_getElem_cons hlt
    have hrd : rd_T55 (X.map mk55) i = mk55 X[i] := by rw [rd55 hlt2]; simp
    have hw : wrap64 ((i : Int) + 1) = ((i + 1 : Nat) : Int) := by rw [w64 (by omega) (by omega)]; omega
    rw [hd, List.foldl_cons] at h
    refine Ev.step (fun k => ?_) (ih (i + 1) (least n last b X[i]) (by omega) h)
    rw [stopcockref22_Replay.l2, if_pos (by omega), if_pos (by omega), if_pos (by omega), hrd, hw]
    obtain ⟨c, hc⟩ : ∃ c, c = X[i] := ⟨_, rfl⟩
    rw [← hc]
    show (if c.1 = n then (if c.2 > last then (if b = 0 then _ else (if c.2 < b then _ else _)) else _) else _) = _
    unfold least
    by_cases f1 : c.1 = n
    · rw [if_pos f1]
      by_cases f2 : last < c.2
      · rw [if_pos f2]
        by_cases f3 : b = 0
        · rw [if_pos f3, if_pos ⟨f1, f2, .inl f3⟩]; rfl
        · rw [if_neg f3]
          by_cases f4 : c.2 < b
          · rw [if_pos f4, if_pos ⟨f1, f2, .inr f4⟩]; rfl
          · rw [if_neg f4, if_neg (by omega)]
      · rw [if_neg f2, if_neg (by omega)]
    · rw [if_neg f1, if_neg (by omega)]

/-- How far Replay has come: all below (n, t). -/
structure Upto (C O : List (Int × Int)) (n t : Int) : Prop where
  lt : O.Pairwise ltC
  mem : ∀ x, x ∈ O ↔ x ∈ C ∧ (x.1 < n ∨ x.1 = n ∧ x.2 ≤ t)
theorem Upto.nodup {C O : List (Int × Int)} {n t : Int} (h : Upto C O n t) : O.Nodup := h.lt.imp (by
  rintro a b h rfl
  unfold ltC at h; omega)
theorem Upto.len {C O : List (Int × Int)} {n t : Int} (h : Upto C O n t) : O.length ≤ C.length := nodup_le O C h.nodup fun x hx => ((h.mem x).1 hx).1
theorem Upto.add {C O : List (Int × Int)} {n t b : Int} (h : Upto C O n t) (hb : t < b) (hm : (n, b) ∈ C) (hl : ∀ c ∈ C, c.1 = n → t < c.2 → b ≤ c.2) : Upto C (O ++ [(n, b)]) n b := by
  refine ⟨?_, fun x => ?_⟩
  · rw [List.pairwise_append]
    refine ⟨h.lt, by simp, fun a ha c hc => ?_⟩
    rw [List.mem_singleton] at hc
    subst hc
    have := ((h.mem a).1 ha).2
    unfold ltC
    simp only
    omega
  · rw [List.mem_append, List.mem_singleton, h.mem]
    constructor
    · rintro (⟨h1, h2⟩ | rfl)
      · exact ⟨h1, by omega⟩
      · exact ⟨hm, .inr ⟨rfl, Int.le_refl _⟩⟩
    · rintro ⟨h1, h2 | ⟨h2, h3⟩⟩
      · exact .inl ⟨h1, .inl h2⟩
      · by_cases h4 : x.2 ≤ t
        · exact .inl ⟨h1, .inr ⟨h2, h4⟩⟩
        · have := hl x h1 h2 (by omega)
          exact .inr (Prod.ext h2 (by simp only; omega))
theorem Upto.next {C O : List (Int × Int)} {n t : Int} (h : Upto C O n t) (hl : ∀ c ∈ C, c.1 = n → c.2 ≤ t) (hpos : ∀ c ∈ C, 1 ≤ c.2) : Upto C O (n + 1) 0 := by
  refine ⟨h.lt, fun x => ?_⟩
  rw [h.mem]
  constructor
  · rintro ⟨h1, h2⟩; exact ⟨h1, by omega⟩
  · rintro ⟨h1, h2⟩
    refine ⟨h1, ?_⟩
    have := hpos x h1
    by_cases e : x.1 = n
    · have := hl x h1 e; omega
    · omega

theorem replay_l1 (C S : List (Int × Int)) (hC : C.length ≤ 1000) (hpos : ∀ c ∈ C, 1 ≤ c.2) (n : Int) (hn : 1 ≤ n ∧ n ≤ 7) (hnext : ∀ O, Upto C O (n + 1) 0 → Ev (fun k => stopcockref22_Replay.l0 k (C.map mk55) (O.map mk55) (n + 1)) (S.map mk55, 0)) (d : Nat) :
    ∀ (O : List (Int × Int)) (t : Int), 0 ≤ t → Upto C O n t → C.length = O.length + d → Ev (fun k => stopcockref22_Replay.l1 k (C.map mk55) (O.map mk55) n t) (S.map mk55, 0) := by
  induction d with
  | zero =>
    intro O t ht hO hd
    refine Ev.step (f := fun k => stopcockref22_Replay.l2 k (C.map mk55) (O.map mk55) n t 0 (C.map mk55) ((C.map mk55).length : Int) 0) (fun k => ?_) ?_
    · rw [stopcockref22_Replay.l1]
    · have hlen := hO.len
      obtain ⟨h1, h2, h3⟩ := least_spec n t ht C 0 (.inl rfl)
      refine replay_l2 C (O.map mk55) n t _ hC (by simp; omega) C.length 0 0 (by omega) ?_
      rw [List.drop_zero]
      by_cases h0 : C.foldl (least n t) 0 = 0
      · simp only [if_pos h0]
        rw [w64 (by omega) (by omega)]
        exact hnext O (hO.next (h2 h0).2 hpos)
      · obtain ⟨g1, _, g3⟩ := h3 h0
        have g4 : (n, C.foldl (least n t) 0) ∈ C := by
          rcases g1 with q | q
          · exact absurd q h0
          · exact q
        have hO' := hO.add (by omega) g4 g3
        have := hO'.len
        simp at this; omega
  | succ d ih =>
    intro O t ht hO hd
    refine Ev.step (f := fun k => stopcockref22_Replay.l2 k (C.map mk55) (O.map mk55) n t 0 (C.map mk55) ((C.map mk55).length : Int) 0) (fun k => ?_) ?_
    · rw [stopcockref22_Replay.l1]
    · have hlen := hO.len
      obtain ⟨h1, h2, h3⟩ := least_spec n t ht C 0 (.inl rfl)
      refine replay_l2 C (O.map mk55) n t _ hC (by simp; omega) C.length 0 0 (by omega) ?_
      rw [List.drop_zero]
      by_cases h0 : C.foldl (least n t) 0 = 0
      · simp only [if_pos h0]
        rw [w64 (by omega) (by omega)]
        exact hnext O (hO.next (h2 h0).2 hpos)
      · obtain ⟨g1, _, g3⟩ := h3 h0
        have g4 : (n, C.foldl (least n t) 0) ∈ C := by
          rcases g1 with q | q
          · exact absurd q h0
          · exact q
        have hO' := hO.add (by omega) g4 g3
        simp only [if_neg h0]
        have := ih _ _ (by omega) hO' (by simp; omega)
        simpa [mk55] using this

theorem replay_l0 (C S : List (Int × Int)) (hC : C.length ≤ 1000) (hpos : ∀ c ∈ C, 1 ≤ c.2) (hrng : ∀ c ∈ C, 1 ≤ c.1 ∧ c.1 ≤ 7) (hS : Told C S) (d : Nat) :
    ∀ (O : List (Int × Int)) (n : Int), 1 ≤ n → n + d = 8 → Upto C O n 0 → Ev (fun k => stopcockref22_Replay.l0 k (C.map mk55) (O.map mk55) n) (S.map mk55, 0) := by
  induction d with
  | zero =>
    intro O n hn hd hO
    refine Ev.step (f := fun _ => some (O.map mk55, 0)) (fun k => ?_) ?_
    · rw [stopcockref22_Replay.l0, if_neg (by omega)]
    · have : O = S := told_uniq (C := C) ⟨hO.lt, fun x => by
        rw [hO.mem]
        constructor
        · exact fun h => h.1
        · intro h; exact ⟨h, .inl (by have := hrng x h; omega)⟩⟩ hS
      rw [this]; exact Ev.now _
  | succ d ih =>
    intro O n hn hd hO
    refine Ev.step (f := fun k => stopcockref22_Replay.l1 k (C.map mk55) (O.map mk55) n 0) (fun k => ?_) ?_
    · rw [stopcockref22_Replay.l0, if_pos (by omega)]
    · have hlen := hO.len
      exact replay_l1 C S hC hpos n (by omega) (fun O' hO' => ih O' (n + 1) (by omega) (by omega) hO') (C.length - O.length) O 0 (by omega) hO (by omega)

theorem judge_ev (limit : Int) (l : List S28) (hlen : l.length ≤ 1000) : Ev (fun k => stopcockref22_Judge.f k limit l) (play limit [] 0 (steps l)) := by
  have := judge_l0 limit l hlen l.length 0 [] (by omega) (by simp) (by simp)
  simpa [stopcockref22_Judge.f] using this

/-- The document's Replay. -/
theorem replay_f (limit : Int) (l : List S28) (hlen : l.length ≤ 1000) (S : List (Int × Int)) (h1 : (play limit [] 0 (steps l)).2 = 0 → Told (after [] (steps l)) S ∧ Inv limit (after [] (steps l))) (h2 : (play limit [] 0 (steps l)).2 ≠ 0 → S = []) :
    ∃ k, stopcockref22_Replay.f k limit l = some (S.map mk55, (play limit [] 0 (steps l)).2) := by
  have key : Ev (fun k => stopcockref22_Replay.f k limit l) (S.map mk55, (play limit [] 0 (steps l)).2) := by
    unfold stopcockref22_Replay.f
    refine Ev.bind (judge_ev limit l hlen) ?_
    by_cases h0 : (play limit [] 0 (steps l)).2 = 0
    · obtain ⟨hT, hI⟩ := h1 h0
      simp only [if_pos h0]
      have ho := open_f l hlen
      have hoa := open_after limit l [] 0 h0
      simp only [List.map_nil] at hoa
      rw [hoa] at ho
      refine Ev.bind ho ?_
      rw [h0]
      have hl := after_length (steps l) []
      have h3 : (steps l).length = l.length := by simp [steps]
      simp only [List.length_nil] at hl
      exact replay_l0 _ S (by omega) (fun c hc => (hI.rng c hc).2.2.1) (fun c hc => ⟨(hI.rng c hc).1, (hI.rng c hc).2.1⟩) hT 7 [] 1 (by omega) (by omega) ⟨List.Pairwise.nil, fun x => by
        constructor
        · intro h; cases h
        · rintro ⟨h, h'⟩; have := hI.rng x h; omega⟩
    · rw [h2 h0]
      simp only [if_neg h0]
      exact Ev.now _
  obtain ⟨k, hk⟩ := key.rounds
  exact ⟨k, hk⟩
end Go.Proofs.Ytojgiaemgpnfdaa.K
