/- The judge as plain Lean: one step over the connections that are open. -/
set_option linter.unusedVariables false
set_option linter.unusedSimpArgs false
namespace Go.Proofs.Ytojgiaemgpnfdaa.JP

def lowOf (k : Int) : Int := if k = 3 then 0 else 1
def highOf (limit k : Int) : Int := if k = 3 then 0 else limit
def Bad (limit k n t : Int) : Prop := k < 1 ∨ 3 < k ∨ limit < 1 ∨ n < 1 ∨ 7 < n ∨ t < lowOf k ∨ highOf limit k < t
instance (limit k n t : Int) : Decidable (Bad limit k n t) := by unfold Bad; exact inferInstance

def cnt (C : List (Int × Int)) (x : Int) : Int := ((C.filter fun c => decide (c.1 = x)).length : Int)
def hasTok (C : List (Int × Int)) (t : Int) : Bool := C.any fun c => decide (c.2 = t)
/-- What a step comes to. -/
def stepE (limit : Int) (C : List (Int × Int)) (k n t : Int) : Int :=
  if Bad limit k n t then 1
  else if k = 3 then 0
  else if k = 2 then (if (n, t) ∈ C then 0 else 4)
  else if (n, t) ∈ C then 3
  else if hasTok C t then 220
  else if 8 ≤ cnt C n then 6
  else 0
/-- What is open behind it. -/
def stepC (C : List (Int × Int)) (k n t : Int) : List (Int × Int) :=
  if k = 3 then C.filter fun c => decide (c.1 ≠ n)
  else if k = 2 then C.filter fun c => decide (c ≠ (n, t))
  else C ++ [(n, t)]

structure Inv (limit : Int) (C : List (Int × Int)) : Prop where
  tok : C.Pairwise fun a b => a.2 ≠ b.2
  rng : ∀ c ∈ C, 1 ≤ c.1 ∧ c.1 ≤ 7 ∧ 1 ≤ c.2 ∧ c.2 ≤ limit
  many : ∀ x, cnt C x ≤ 8

theorem Inv.nil (limit : Int) : Inv limit [] := ⟨List.Pairwise.nil, by simp, by simp [cnt]⟩
theorem cnt_nonneg (C : List (Int × Int)) (x : Int) : 0 ≤ cnt C x := by unfold cnt; omega
theorem cnt_pos {C : List (Int × Int)} {n t : Int} (h : (n, t) ∈ C) : 1 ≤ cnt C n := by
  unfold cnt
  have : (n, t) ∈ C.filter fun c => decide (c.1 = n) := by simp [h]
  have := List.length_pos_of_mem this
  omega
theorem cnt_filter_le (C : List (Int × Int)) (p : Int × Int → Bool) (x : Int) : cnt (C.filter p) x ≤ cnt C x := by
  unfold cnt
  rw [List.filter_filter]
  have h : (C.filter fun a => (decide (a.1 = x) && p a)).length ≤ (C.filter fun c => decide (c.1 = x)).length := by
    have : (C.filter fun a => (decide (a.1 = x) && p a)) = (C.filter fun c => decide (c.1 = x)).filter p := by rw [List.filter_filter]; congr 1; funext a; rw [Bool.and_comm]
    rw [this]; exact List.length_filter_le _ _
  omega
theorem tok_inj {limit : Int} {C : List (Int × Int)} (h : Inv limit C) {a b t : Int} (ha : (a, t) ∈ C) (hb : (b, t) ∈ C) : a = b := by
  have hp := h.tok
  clear h
  induction C with
  | nil => cases ha
  | cons c C ih =>
    rw [List.pairwise_cons] at hp
    rcases List.mem_cons.1 ha with e1 | h1
    · rcases List.mem_cons.1 hb with e2 | h2
      · rw [← e1] at e2; cases e2; rfl
      · exact absurd (by rw [← e1]) (hp.1 _ h2)
    · rcases List.mem_cons.1 hb with e2 | h2
      · exact absurd (by rw [← e2]) (hp.1 _ h1)
      · exact ih h1 h2 hp.2
theorem hasTok_iff (C : List (Int × Int)) (t : Int) : hasTok C t = true ↔ ∃ n, (n, t) ∈ C := by
  unfold hasTok
  rw [List.any_eq_true]
  constructor
  · rintro ⟨⟨a, b⟩, h, e⟩
    have : b = t := by simpa using e
    exact ⟨a, this ▸ h⟩
  · rintro ⟨n, h⟩
    exact ⟨(n, t), h, by simp⟩
theorem cnt_append (C : List (Int × Int)) (n t x : Int) : cnt (C ++ [(n, t)]) x = cnt C x + if n = x then 1 else 0 := by
  unfold cnt
  rw [List.filter_append]
  by_cases h : n = x <;> simp [List.filter_cons, h]
theorem cnt_remove {limit : Int} {C : List (Int × Int)} (h : Inv limit C) {n t : Int} (hm : (n, t) ∈ C) (x : Int) : cnt (C.filter fun c => decide (c ≠ (n, t))) x = cnt C x - if n = x then 1 else 0 := by
  have hp := h.tok
  clear h
  unfold cnt
  induction C with
  | nil => cases hm
  | cons c C ih =>
    rw [List.pairwise_cons] at hp
    rcases List.mem_cons.1 hm with e1 | h1
    · subst e1
      have hn : ∀ d ∈ C, d ≠ (n, t) := fun d hd e => hp.1 d hd (by rw [e])
      have hf : C.filter (fun c => decide (c ≠ (n, t))) = C := List.filter_eq_self.2 fun d hd => by simpa using hn d hd
      simp only [List.filter_cons]
      simp only [ne_eq, not_true_eq_false, decide_false, Bool.false_eq_true, if_false]
      have hf' : C.filter (fun c => decide (¬ c = (n, t))) = C := hf
      rw [hf']
      by_cases e : n = x <;> simp [e]
    · have hne : c ≠ (n, t) := fun e => hp.1 _ h1 (by rw [e])
      have ih' := ih h1 hp.2
      simp only [List.filter_cons]
      rw [if_pos (by simpa using hne)]
      simp only [List.filter_cons]
      by_cases e : c.1 = x
      · simp only [e, decide_true, if_true, List.length_cons]; simp only [ne_eq] at ih' ⊢; omega
      · simp only [e, decide_false, Bool.false_eq_true, if_false]; simp only [ne_eq] at ih' ⊢; omega

theorem Inv.step {limit : Int} {C : List (Int × Int)} (h : Inv limit C) {k n t : Int} (hs : stepE limit C k n t = 0) : Inv limit (stepC C k n t) := by
  unfold stepE at hs
  split at hs
  · cases hs
  rename_i hb
  unfold stepC
  by_cases h3 : k = 3
  · rw [if_pos h3]
    exact ⟨h.tok.sublist List.filter_sublist, fun c hc => h.rng c (List.mem_filter.1 hc).1, fun x => Int.le_trans (cnt_filter_le _ _ _) (h.many x)⟩
  rw [if_neg h3]
  rw [if_neg h3] at hs
  by_cases h2 : k = 2
  · rw [if_pos h2]
    exact ⟨h.tok.sublist List.filter_sublist, fun c hc => h.rng c (List.mem_filter.1 hc).1, fun x => Int.le_trans (cnt_filter_le _ _ _) (h.many x)⟩
  rw [if_neg h2]
  rw [if_neg h2] at hs
  split at hs
  · cases hs
  split at hs
  · cases hs
  rename_i hin htok
  split at hs
  · cases hs
  rename_i h8
  unfold Bad lowOf highOf at hb
  rw [if_neg h3, if_neg h3] at hb
  refine ⟨?_, ?_, ?_⟩
  · rw [List.pairwise_append]
    refine ⟨h.tok, by simp, fun a ha b hbm => ?_⟩
    simp only [List.mem_singleton] at hbm
    subst hbm
    intro e
    exact htok ((hasTok_iff C t).2 ⟨a.1, by have e' : a.2 = t := e; rw [← e']; exact ha⟩)
  · intro c hc
    rcases List.mem_append.1 hc with h1 | h1
    · exact h.rng c h1
    · simp only [List.mem_singleton] at h1
      subst h1
      simp only
      omega
  · intro x
    rw [cnt_append]
    have := h.many x
    by_cases e : n = x
    · subst e; simp; omega
    · simp [e]; omega

/-- All the steps: the place and what it comes to. -/
def play (limit : Int) : List (Int × Int) → Int → List (Int × Int × Int) → Int × Int
  | _, _, [] => (-1, 0)
  | C, i, (k, n, t) :: l => if stepE limit C k n t = 0 then play limit (stepC C k n t) (i + 1) l else (i, stepE limit C k n t)
def after (C : List (Int × Int)) (l : List (Int × Int × Int)) : List (Int × Int) := l.foldl (fun C s => stepC C s.1 s.2.1 s.2.2) C

/-- How far play has come. -/
structure PlayInv (limit : Int) (l : List (Int × Int × Int)) (k : Nat) (C : List (Int × Int)) : Prop where
  inv : Inv limit C
  now : play limit [] 0 l = play limit C k (l.drop k)
  aft : after [] l = after C (l.drop k)

theorem PlayInv.start (limit : Int) (l : List (Int × Int × Int)) : PlayInv limit l 0 [] := ⟨Inv.nil limit, rfl, rfl⟩
theorem PlayInv.step {limit : Int} {l : List (Int × Int × Int)} {k : Nat} {C : List (Int × Int)} (h : PlayInv limit l k C) {a n t : Int} (hk : l[k]? = some (a, n, t)) (hs : stepE limit C a n t = 0) : PlayInv limit l (k + 1) (stepC C a n t) := by
  have hlt : k < l.length := by
    rcases Nat.lt_or_ge k l.length with h | h
    · exact h
    · rw [List.getElem?_eq_none h] at hk; cases hk
  have hd : l.drop k = (a, n, t) :: l.drop (k + 1) := by
    rw [List.drop_eq_getElem_cons hlt]
    rw [List.getElem?_eq_getElem hlt] at hk
    rw [Option.some.inj hk]
  refine ⟨h.inv.step hs, ?_, ?_⟩
  · rw [h.now, hd, play, if_pos hs]; rfl
  · rw [h.aft, hd]; rfl
theorem PlayInv.stop {limit : Int} {l : List (Int × Int × Int)} {k : Nat} {C : List (Int × Int)} (h : PlayInv limit l k C) {a n t : Int} (hk : l[k]? = some (a, n, t)) (hs : stepE limit C a n t ≠ 0) : play limit [] 0 l = ((k : Int), stepE limit C a n t) := by
  have hlt : k < l.length := by
    rcases Nat.lt_or_ge k l.length with h | h
    · exact h
    · rw [List.getElem?_eq_none h] at hk; cases hk
  have hd : l.drop k = (a, n, t) :: l.drop (k + 1) := by
    rw [List.drop_eq_getElem_cons hlt]
    rw [List.getElem?_eq_getElem hlt] at hk
    rw [Option.some.inj hk]
  rw [h.now, hd, play, if_neg hs]
theorem PlayInv.finish {limit : Int} {l : List (Int × Int × Int)} {C : List (Int × Int)} (h : PlayInv limit l l.length C) : play limit [] 0 l = (-1, 0) ∧ after [] l = C := by
  have h1 := h.now
  have h2 := h.aft
  rw [List.drop_length] at h1 h2
  exact ⟨h1, h2⟩
end Go.Proofs.Ytojgiaemgpnfdaa.JP
