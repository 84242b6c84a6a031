/- The document's answer for the judge is the plain judge. -/
import Derived.Test.YtojgiaemgpnfdaaJS
import Derived.Test.YtojgiaemgpnfdaaPJudgeJudgesx3
set_option linter.unusedVariables false
set_option linter.unusedSimpArgs false
namespace Go.Proofs.Ytojgiaemgpnfdaa.J
open Go.RowKit Go.Proofs.Ytojgiaemgpnfdaa.JP Go.Proofs.YtojgiaemgpnfdaaW.PrintWords Go.Proofs.Ytojgiaemgpnfdaa.PJudgeJudges

def keepR (a b c : Int) (x : S55) : Bool := decide (x.f0 ≠ b ∨ (a = 2 ∧ x.f1 ≠ c))
/-- What the document's open makes of one that was seen. -/
def openR (out : List S55) (s : S28) : List S55 := if s.f0 = 1 then out ++ [⟨s.f1, s.f2⟩] else out.filter (keepR s.f0 s.f1 s.f2)
theorem w64 {i : Int} (h0 : 0 ≤ i) (h : i ≤ 100000) : wrap64 (i + 1) = i + 1 := by unfold wrap64; omega
theorem rd55 {l : List S55} {i : Nat} (h : i < l.length) : rd_T55 l i = l[i] := by unfold rd_T55; simp [List.getElem?_eq_getElem h]
theorem rd28 {l : List S28} {i : Nat} (h : i < l.length) : rd_T28 l i = l[i] := by unfold rd_T28; simp [List.getElem?_eq_getElem h]

theorem open_l1 (x9 : List S28) (x10 x11 : Int) (x26 : List S55) (a b c : Int) (r : List S55) (hlen : x26.length ≤ 1000) (d : Nat) : ∀ (i : Nat) (x6 : List S55), i + d = x26.length → x6.length ≤ i →
    Ev (fun k => stopcockref22_open.l0 k (x6 ++ (x26.drop i).filter (keepR a b c)) x9 x10 (wrap64 (x11 + 1))) r →
    Ev (fun k => stopcockref22_open.l1 k x6 x9 x10 x11 x26 (x26.length : Int) i a b c) r := by
  induction d with
  | zero =>
    intro i x6 hi h6 h
    refine Ev.step (f := fun k => stopcockref22_open.l0 k x6 x9 x10 (wrap64 (x11 + 1))) (fun k => ?_) ?_
    · rw [stopcockref22_open.l1, if_neg (by omega)]
    · rw [List.drop_of_length_le (by omega)] at h
      simpa using h
  | succ d ih =>
    intro i x6 hi h6 h
    have hlt : i < x26.length := by omega
    have hd : x26.drop i = x26[i] :: x26.drop (i + 1) := List.drop_eq_getElem_cons hlt
    have hrd := rd55 hlt
    have hw : wrap64 ((i : Int) + 1) = ((i + 1 : Nat) : Int) := by rw [w64 (by omega) (by omega)]; omega
    rw [hd, List.filter_cons] at h
    by_cases hk : keepR a b c x26[i] = true
    · rw [if_pos hk] at h
      refine Ev.step (f := fun k => stopcockref22_open.l1 k (x6 ++ [x26[i]]) x9 x10 x11 x26 (x26.length : Int) (i + 1 : Nat) a b c) (fun k => ?_) (ih (i + 1) (x6 ++ [x26[i]]) (by omega) (by simp; omega) (by simpa using h))
      rw [stopcockref22_open.l1, if_pos (by omega), if_pos (by omega), if_pos (by omega), hrd]
      unfold keepR at hk
      simp only [decide_eq_true_eq] at hk
      by_cases e1 : (x26[i]).f0 = b
      · rw [if_pos e1]
        obtain ⟨e2, e3⟩ : a = 2 ∧ (x26[i]).f1 ≠ c := by rcases hk with hk | hk; exact absurd e1 hk; exact hk
        rw [if_pos e2, if_neg e3, if_pos (by omega), hw]
      · rw [if_neg e1, if_pos (by omega), hw]
    · rw [if_neg hk] at h
      refine Ev.step (f := fun k => stopcockref22_open.l1 k x6 x9 x10 x11 x26 (x26.length : Int) (i + 1 : Nat) a b c) (fun k => ?_) (ih (i + 1) _ (by omega) (by omega) h)
      rw [stopcockref22_open.l1, if_pos (by omega), if_pos (by omega), if_pos (by omega), hrd]
      unfold keepR at hk
      simp only [decide_eq_true_eq] at hk
      have e1 : (x26[i]).f0 = b := Decidable.byContradiction fun e => hk (.inl e)
      rw [if_pos e1]
      by_cases e2 : a = 2
      · have e3 : (x26[i]).f1 = c := Decidable.byContradiction fun e => hk (.inr ⟨e2, e⟩)
        rw [if_pos e2, if_pos e3, hw]
      · rw [if_neg e2, hw]

theorem openR_length (out : List S55) (s : S28) : (openR out s).length ≤ out.length + 1 := by
  unfold openR
  split
  · simp
  · have := List.length_filter_le (keepR s.f0 s.f1 s.f2) out; omega

theorem open_l0 (l : List S28) (hlen : l.length ≤ 1000) (d : Nat) : ∀ (i : Nat) (out : List S55), i + d = l.length → out.length ≤ i →
    Ev (fun k => stopcockref22_open.l0 k out l (l.length : Int) i) ((l.drop i).foldl openR out) := by
  induction d with
  | zero =>
    intro i out hi ho
    rw [List.drop_of_length_le (by omega)]
    refine Ev.step (f := fun _ => some out) (fun k => ?_) (Ev.now _)
    rw [stopcockref22_open.l0, if_neg (by omega)]
  | succ d ih =>
    intro i out hi ho
    have hlt : i < l.length := by omega
    have hd : l.drop i = l[i] :: l.drop (i + 1) := List.drop_eq_getElem_cons hlt
    have hrd := rd28 hlt
    have hw : wrap64 ((i : Int) + 1) = ((i + 1 : Nat) : Int) := by rw [w64 (by omega) (by omega)]; omega
    rw [hd, List.foldl_cons]
    have hl := openR_length out l[i]
    have h := ih (i + 1) (openR out l[i]) (by omega) (by omega)
    by_cases h1 : (l[i]).f0 = 1
    · have ho1 : openR out l[i] = out ++ [⟨(l[i]).f1, (l[i]).f2⟩] := by unfold openR; rw [if_pos h1]
      refine Ev.step (f := fun k => stopcockref22_open.l0 k (openR out l[i]) l (l.length : Int) (i + 1 : Nat)) (fun k => ?_) h
      rw [stopcockref22_open.l0, if_pos (by omega), if_pos (by omega), if_pos (by omega), hrd, if_pos h1, if_pos (by omega), hw, ho1]
    · have ho1 : openR out l[i] = out.filter (keepR (l[i]).f0 (l[i]).f1 (l[i]).f2) := by unfold openR; rw [if_neg h1]
      refine Ev.step (f := fun k => stopcockref22_open.l1 k [] l (l.length : Int) i out (out.length : Int) 0 (l[i]).f0 (l[i]).f1 (l[i]).f2) (fun k => ?_) ?_
      · rw [stopcockref22_open.l0, if_pos (by omega), if_pos (by omega), if_pos (by omega), hrd, if_neg h1]
      · refine open_l1 l _ _ out _ _ _ _ (by omega) out.length 0 [] (by omega) (by simp) ?_
        rw [hw]
        simpa [ho1] using h
theorem open_f (l : List S28) (hlen : l.length ≤ 1000) : Ev (fun k => stopcockref22_open.f k l) (l.foldl openR []) := by
  have := open_l0 l hlen l.length 0 [] (by omega) (by simp)
  simpa [stopcockref22_open.f] using this

def mk55 (c : Int × Int) : S55 := ⟨c.1, c.2⟩
def isR (n t : Int) (l : List S55) : Bool := l.any fun c => c.f0 == n && c.f1 == t
def otR (n t : Int) (l : List S55) : Bool := l.any fun c => c.f0 != n && c.f1 == t
def mnR (n : Int) (l : List S55) : Int := ((l.filter fun c => c.f0 == n).length : Int)

theorem wrong_l0 (x60 : List S55) (kd n t : Int) (r : Int) (hlen : x60.length ≤ 1000) (d : Nat) : ∀ (i : Nat) (x9 x10 : Bool) (x11 : Int), i + d = x60.length → 0 ≤ x11 → x11 ≤ i →
    Ev (fun k => if kd = 1 then stopcockref22_wrong.j4 k (x9 || isR n t (x60.drop i)) (x10 || otR n t (x60.drop i)) (x11 + mnR n (x60.drop i)) (x9 || isR n t (x60.drop i)) kd n t else stopcockref22_wrong.j4 k (x9 || isR n t (x60.drop i)) (x10 || otR n t (x60.drop i)) (x11 + mnR n (x60.drop i)) false kd n t) r →
    Ev (fun k => stopcockref22_wrong.l0 k x9 x10 x11 x60 (x60.length : Int) i kd n t) r := by
  induction d with
  | zero =>
    intro i x9 x10 x11 hi h0 h1 h
    rw [List.drop_of_length_le (by omega)] at h
    refine Ev.step (fun k => ?_) h
    rw [stopcockref22_wrong.l0, if_neg (by omega)]
    simp [isR, otR, mnR]
  | succ d ih =>
    intro i x9 x10 x11 hi h0 h1 h
    have hlt : i < x60.length := by omega
    have hd : x60.drop i = x60[i] :: x60.drop (i + 1) := List.drop_eq_getElem_cons hlt
    have hrd := rd55 hlt
    have hw : wrap64 ((i : Int) + 1) = ((i + 1 : Nat) : Int) := by rw [w64 (by omega) (by omega)]; omega
    have hw2 : wrap64 (x11 + 1) = x11 + 1 := w64 h0 (by omega)
    rw [hd] at h
    obtain ⟨c, hc⟩ : ∃ c, c = x60[i] := ⟨_, rfl⟩
    rw [← hc] at h hrd
    have e1 : isR n t (c :: x60.drop (i + 1)) = ((c.f0 == n && c.f1 == t) || isR n t (x60.drop (i + 1))) := rfl
    have e2 : otR n t (c :: x60.drop (i + 1)) = ((c.f0 != n && c.f1 == t) || otR n t (x60.drop (i + 1))) := rfl
    have e3 : mnR n (c :: x60.drop (i + 1)) = (if c.f0 = n then 1 else 0) + mnR n (x60.drop (i + 1)) := by
      unfold mnR
      rw [List.filter_cons]
      by_cases e : c.f0 = n
      · simp [e]; omega
      · simp [e]
    rw [e1, e2, e3] at h
    have hih := ih (i + 1) (x9 || (c.f0 == n && c.f1 == t)) (x10 || (c.f0 != n && c.f1 == t)) (x11 + if c.f0 = n then 1 else 0) (by omega) (by split <;> omega) (by split <;> omega) (by simpa [Bool.or_assoc, Int.add_assoc] using h)
    refine Ev.step (fun k => ?_) hih
    rw [stopcockref22_wrong.l0, if_pos (by omega), if_pos (by omega), if_pos (by omega), hrd, hw, hw2]
    by_cases f1 : c.f0 = n
    · cases x9 <;> cases x10 <;> simp [f1]
    · have g1 : (c.f0 == n) = false := beq_eq_false_iff_ne.2 f1
      have g2 : (c.f0 != n) = true := bne_iff_ne.2 f1
      cases x9 <;> cases x10 <;> simp [f1, g1, g2]

theorem wrong_end (kd n t : Int) (is ot : Bool) (mn : Int) : Ev (fun k => if kd = 1 then stopcockref22_wrong.j4 k is ot mn is kd n t else stopcockref22_wrong.j4 k is ot mn false kd n t)
    (if kd = 1 ∧ is = true then 3 else if kd = 1 ∧ ot = true then 220 else if kd = 1 ∧ 8 ≤ mn then 6 else if kd = 2 ∧ is = false then 4 else 0) := by
  refine ⟨3, fun k hk => ?_⟩
  obtain ⟨k, rfl⟩ : ∃ m, k = m + 3 := ⟨k - 3, by omega⟩
  simp only [stopcockref22_wrong.j4, stopcockref22_wrong.j5, stopcockref22_wrong.j6]
  by_cases h1 : kd = 1
  · subst h1
    cases is <;> cases ot <;> by_cases h8 : 8 ≤ mn <;> simp [h8]
  · by_cases h2 : kd = 2
    · subst h2
      cases is <;> simp
    · simp [h1, h2]

theorem isR_map (C : List (Int × Int)) (n t : Int) : isR n t (C.map mk55) = decide ((n, t) ∈ C) := by
  unfold isR
  rw [List.any_map, Bool.eq_iff_iff, List.any_eq_true, decide_eq_true_iff]
  constructor
  · rintro ⟨⟨a, b⟩, h, e⟩
    simp [mk55] at e
    rw [← e.1, ← e.2]; exact h
  · intro h
    exact ⟨(n, t), h, by simp [mk55]⟩
theorem otR_map (C : List (Int × Int)) (n t : Int) (h : (n, t) ∉ C) : otR n t (C.map mk55) = hasTok C t := by
  unfold otR
  rw [List.any_map, Bool.eq_iff_iff, List.any_eq_true, hasTok_iff]
  constructor
  · rintro ⟨⟨a, b⟩, hm, e⟩
    simp [mk55] at e
    exact ⟨a, by rw [← e.2]; exact hm⟩
  · rintro ⟨a, hm⟩
    refine ⟨(a, t), hm, ?_⟩
    simp [mk55]
    rintro rfl
    exact h hm
theorem mnR_map (C : List (Int × Int)) (n : Int) : mnR n (C.map mk55) = cnt C n := by
  unfold mnR cnt
  rw [List.filter_map, List.length_map]
  congr 2

theorem wrong_f (limit : Int) (l : List S28) (hlen : l.length ≤ 1000) (i : Nat) (hi : i < l.length) (C : List (Int × Int)) (hC : (l.take i).foldl openR [] = C.map mk55) (hC1 : C.length ≤ 1000) :
    Ev (fun k => stopcockref22_wrong.f k limit l i) (stepE limit C (l[i]).f0 (l[i]).f1 (l[i]).f2) := by
  have hrd := rd28 hi
  obtain ⟨s, hs⟩ : ∃ s, s = l[i] := ⟨_, rfl⟩
  rw [← hs] at hrd ⊢
  obtain ⟨kd, n, t⟩ := s
  simp only at hrd ⊢
  -- what stands behind the tests
  have hgood : ∀ b : Bool, Ev (fun k => stopcockref22_wrong.j2 k l i b kd n t) (if b = true then (if kd = 1 ∧ isR n t (C.map mk55) = true then 3 else if kd = 1 ∧ otR n t (C.map mk55) = true then 220 else if kd = 1 ∧ 8 ≤ mnR n (C.map mk55) then 6 else if kd = 2 ∧ isR n t (C.map mk55) = false then 4 else 0) else 1) := by
    intro b
    cases b with
    | false =>
      refine Ev.step (f := fun _ => some 1) (fun k => ?_) (Ev.now _)
      rw [stopcockref22_wrong.j2]; simp
    | true =>
      have h1 := open_f (l.take i) (by simp; omega)
      rw [hC] at h1
      have h2 := wrong_l0 (C.map mk55) kd n t _ (by simpa using hC1) (C.map mk55).length 0 false false 0 (by omega) (by omega) (by omega) (by simpa using wrong_end kd n t _ _ _)
      rw [if_pos rfl]
      refine Ev.step (fun k => ?_) (Ev.bind (f := fun k t123 => stopcockref22_wrong.l0 k false false 0 t123 (t123.length : Int) 0 kd n t) h1 h2)
      rw [stopcockref22_wrong.j2, if_pos rfl, if_pos (by omega), if_pos (by omega)]
      simp
  obtain ⟨K1, hT⟩ := hgood true
  obtain ⟨K2, hF⟩ := hgood false
  simp only [if_true] at hT
  simp only [Bool.false_eq_true, if_false] at hF
  refine ⟨K1 + K2 + 2, fun k hk => ?_⟩
  obtain ⟨k, rfl⟩ : ∃ m, k = m + 2 := ⟨k - 2, by omega⟩
  replace hT := hT k (by omega)
  replace hF := hF k (by omega)
  rw [mnR_map, isR_map] at hT
  have hb : Bad limit kd n t ↔ ¬ (1 ≤ limit ∧ 1 ≤ n ∧ n ≤ 7 ∧ ((kd = 1 ∨ kd = 2) ∧ 1 ≤ t ∧ t ≤ limit ∨ kd = 3 ∧ t = 0)) := by
    unfold Bad lowOf highOf
    by_cases h3 : kd = 3
    · rw [if_pos h3, if_pos h3]; omega
    · rw [if_neg h3, if_neg h3]; omega
  have hgoodT : (1 ≤ limit ∧ 1 ≤ n ∧ n ≤ 7 ∧ ((kd = 1 ∨ kd = 2) ∧ 1 ≤ t ∧ t ≤ limit ∨ kd = 3 ∧ t = 0)) → stopcockref22_wrong.j2 k l i true kd n t = some (stepE limit C kd n t) := by
    intro hg
    rw [hT]
    congr 1
    unfold stepE
    rw [if_neg (fun h => hb.1 h hg)]
    by_cases hin : (n, t) ∈ C
    · obtain h | h | h : kd = 1 ∨ kd = 2 ∨ kd = 3 := by omega
      all_goals subst h; simp [hin]
    · rw [otR_map C n t hin]
      obtain h | h | h : kd = 1 ∨ kd = 2 ∨ kd = 3 := by omega
      all_goals subst h; simp [hin]
  have hbadF : ¬ (1 ≤ limit ∧ 1 ≤ n ∧ n ≤ 7 ∧ ((kd = 1 ∨ kd = 2) ∧ 1 ≤ t ∧ t ≤ limit ∨ kd = 3 ∧ t = 0)) → stopcockref22_wrong.j2 k l i false kd n t = some (stepE limit C kd n t) := by
    intro hg
    rw [hF]
    unfold stepE
    rw [if_pos (hb.2 hg)]
  have hj2 : ∀ b : Bool, (b = true ↔ (1 ≤ limit ∧ 1 ≤ n ∧ n ≤ 7 ∧ ((kd = 1 ∨ kd = 2) ∧ 1 ≤ t ∧ t ≤ limit ∨ kd = 3 ∧ t = 0))) → stopcockref22_wrong.j2 k l i b kd n t = some (stepE limit C kd n t) := by
    intro b hb'
    cases b with
    | true => exact hgoodT (hb'.1 rfl)
    | false => exact hbadF fun h => by have := hb'.2 h; cases this
  clear hT hF hgoodT hbadF hgood
  unfold stopcockref22_wrong.f
  show (if (0 : Int) ≤ (i : Int) then _ else _) = _
  rw [if_pos (by omega), if_pos (by omega), hrd]
  simp only [stopcockref22_wrong.j0, stopcockref22_wrong.j1]
  repeat' split
  all_goals first
    | (exact hj2 _ (by simp only [decide_eq_true_eq, beq_iff_eq, Bool.false_eq_true, false_iff] at *; omega))
    | (exfalso; simp at *; done)
    | (exfalso; simp at *; omega)

theorem openR_step (C : List (Int × Int)) (s : S28) (h : s.f0 = 1 ∨ s.f0 = 2 ∨ s.f0 = 3) : openR (C.map mk55) s = (stepC C s.f0 s.f1 s.f2).map mk55 := by
  obtain ⟨k, n, t⟩ := s
  simp only at h ⊢
  unfold openR stepC
  simp only
  rcases h with rfl | rfl | rfl
  · simp [mk55]
  · simp only [Int.reduceEq, if_false, if_true]
    rw [List.filter_map]
    congr 1
    apply List.filter_congr
    rintro ⟨a, b⟩ _
    by_cases e1 : a = n <;> by_cases e2 : b = t <;> simp [keepR, mk55, e1, e2]
  · simp only [Int.reduceEq, if_false, if_true]
    rw [List.filter_map]
    congr 1
    apply List.filter_congr
    rintro ⟨a, b⟩ _
    by_cases e1 : a = n <;> simp [keepR, mk55, e1]
theorem stepE_kind {limit : Int} {C : List (Int × Int)} {k n t : Int} (h : stepE limit C k n t = 0) : k = 1 ∨ k = 2 ∨ k = 3 := by
  unfold stepE at h
  split at h
  · cases h
  · rename_i hb
    unfold Bad at hb
    omega
theorem stepC_length (C : List (Int × Int)) (k n t : Int) : (stepC C k n t).length ≤ C.length + 1 := by
  unfold stepC
  split
  · have := List.length_filter_le (fun c : Int × Int => decide (c.1 ≠ n)) C; omega
  · split
    · have := List.length_filter_le (fun c : Int × Int => decide (c ≠ (n, t))) C; omega
    · simp

theorem judge_l0 (limit : Int) (l : List S28) (hlen : l.length ≤ 1000) (d : Nat) : ∀ (i : Nat) (C : List (Int × Int)), i + d = l.length → C.length ≤ i → (l.take i).foldl openR [] = C.map mk55 →
    Ev (fun k => stopcockref22_Judge.l0 k limit l (l.length : Int) i) (play limit C i ((steps l).drop i)) := by
  induction d with
  | zero =>
    intro i C hi hc hC
    rw [List.drop_of_length_le (by simp [steps]; omega)]
    refine Ev.step (f := fun _ => some (-1, 0)) (fun k => ?_) (Ev.now _)
    rw [stopcockref22_Judge.l0, if_neg (by omega)]
  | succ d ih =>
    intro i C hi hc hC
    have hlt : i < l.length := by omega
    have hd : (steps l).drop i = ((l[i]).f0, (l[i]).f1, (l[i]).f2) :: (steps l).drop (i + 1) := by
      have : i < (steps l).length := by simp [steps]; omega
      rw [List.drop_eq_getElem_cons this]
      simp [steps]
    have hw : wrap64 ((i : Int) + 1) = ((i + 1 : Nat) : Int) := by rw [w64 (by omega) (by omega)]; omega
    have h1 := wrong_f limit l hlen i hlt C hC (by omega)
    rw [hd, play]
    by_cases h0 : stepE limit C (l[i]).f0 (l[i]).f1 (l[i]).f2 = 0
    · rw [if_pos h0]
      have h2 := ih (i + 1) (stepC C (l[i]).f0 (l[i]).f1 (l[i]).f2) (by omega) (by have := stepC_length C (l[i]).f0 (l[i]).f1 (l[i]).f2; omega) (by
        rw [List.take_succ_eq_append_getElem hlt, List.foldl_append, hC]
        exact openR_step C l[i] (stepE_kind h0))
      refine Ev.step (fun k => ?_) (Ev.bind (f := fun k t => if t = 0 then stopcockref22_Judge.l0 k limit l (l.length : Int) (wrap64 ((i : Int) + 1)) else some ((i : Int), t)) h1 (by rw [h0]; simp only [if_true]; rw [hw]; exact h2))
      rw [stopcockref22_Judge.l0, if_pos (by omega)]
    · rw [if_neg h0]
      refine Ev.step (fun k => ?_) (Ev.bind (f := fun k t => if t = 0 then stopcockref22_Judge.l0 k limit l (l.length : Int) (wrap64 ((i : Int) + 1)) else some ((i : Int), t)) h1 (by simp only [if_neg h0]; exact Ev.now _))
      rw [stopcockref22_Judge.l0, if_pos (by omega)]
theorem judge_f (limit : Int) (l : List S28) (hlen : l.length ≤ 1000) : ∃ k, stopcockref22_Judge.f k limit l = some (play limit [] 0 (steps l)) := by
  have := judge_l0 limit l hlen l.length 0 [] (by omega) (by simp) (by simp)
  obtain ⟨k, hk⟩ := this.rounds
  exact ⟨k, by simpa [stopcockref22_Judge.f] using hk⟩
end Go.Proofs.Ytojgiaemgpnfdaa.J
