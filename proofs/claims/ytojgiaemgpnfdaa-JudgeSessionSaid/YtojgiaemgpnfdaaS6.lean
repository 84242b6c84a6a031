/- The plain law: what the document's session tells fits what it was sent. -/
import Derived.Test.YtojgiaemgpnfdaaS5
set_option linter.unusedVariables false
set_option linter.unusedSimpArgs false
namespace Go.Proofs.Ytojgiaemgpnfdaa.S
open Go.RowKit Go.Proofs.YtojgiaemgpnfdaaW.PrintWords Go.Proofs.Ytojgiaemgpnfdaa.PJudgeSession

def goodF (f : S62) : Prop := (f.f0 = 66 ∨ f.f0 = 69) ∧ f.f1.toList = ([] : List UInt8) ∨ f.f0 = 81 ∧ f.f1.size ≤ 48
def res (T : List S44) : List ByteArray := (T.filter (fun r => r.f0 == 2)).map (fun r => r.f2)
def mayL (w : Bool) (k : Int) : List Int := if k = 66 then (if w then [7, 6] else [1, 4, 5]) else if k = 81 then (if w then [2, 6] else [2, 4, 5, 6]) else if w then [3, 6] else [7]
def nextW (w : Bool) (k : Int) : Bool := if k = 1 then true else if k = 3 then false else if k = 6 then false else w
def wEnd (w : Bool) (T : List S44) : Bool := T.foldl (fun w r => nextW w r.f0) w
def okFrom (l : List S62) (w : Bool) (i : Nat) : List S44 → Prop
  | [] => True
  | r :: T => (∃ f, l[i]? = some f ∧ r.f0 ∈ mayL w f.f0) ∧ r.f1 = 0 ∧ (r.f0 = 2 ∨ r.f2.toList = ([] : List UInt8)) ∧ r.f0 ≠ 5 ∧ okFrom l (nextW w r.f0) (i + 1) T

theorem wEnd_snoc (w : Bool) (T : List S44) (r : S44) : wEnd w (T ++ [r]) = nextW (wEnd w T) r.f0 := by simp [wEnd]
theorem res_snoc (T : List S44) (r : S44) : res (T ++ [r]) = if r.f0 = 2 then res T ++ [r.f2] else res T := by
  unfold res
  by_cases h : r.f0 = 2 <;> simp [List.filter_append, h]
theorem ok_snoc {l : List S62} {r : S44} : ∀ {T : List S44} {w : Bool} {i : Nat}, okFrom l w i T → (∃ f, l[i + T.length]? = some f ∧ r.f0 ∈ mayL (wEnd w T) f.f0) → r.f1 = 0 → (r.f0 = 2 ∨ r.f2.toList = ([] : List UInt8)) → r.f0 ≠ 5 → okFrom l w i (T ++ [r])
  | [], w, i, _, h1, h2, h3, h4 => ⟨by simpa [wEnd] using h1, h2, h3, h4, trivial⟩
  | a :: T, w, i, h, h1, h2, h3, h4 => by
    obtain ⟨a1, a2, a3, a4, a5⟩ := h
    refine ⟨a1, a2, a3, a4, ok_snoc a5 ?_ h2 h3 h4⟩
    obtain ⟨f, hf, hm⟩ := h1
    refine ⟨f, ?_, by simpa [wEnd] using hm⟩
    rw [← hf]; congr 1; simp; omega
theorem ok_len {l : List S62} : ∀ {T : List S44} {w : Bool} {i : Nat}, okFrom l w i T → i ≤ l.length → i + T.length ≤ l.length
  | [], _, i, _, hi => by simpa using hi
  | a :: T, w, i, h, hi => by
    obtain ⟨⟨f, hf, _⟩, _, _, _, h5⟩ := h
    have h1 : i < l.length := (List.getElem?_eq_some_iff.1 hf).1
    have := ok_len h5 (by omega)
    simp; omega
theorem res_len (T : List S44) : (res T).length ≤ T.length := by
  unfold res; simpa using List.length_filter_le _ _

def stInv (l : List S62) (T : List S44) (s : SS) : Prop :=
  (s.st = 0 ∧ wEnd false T = false ∧ s.ahead = l.drop T.length) ∨
  (s.st = 1 ∧ wEnd false T = false ∧ s.ahead = l.drop (T.length + 1) ∧ ∃ f, l[T.length]? = some f ∧ f.f0 = if s.alone then 81 else 66) ∨
  (s.st = 2 ∧ wEnd false T = true ∧ s.ahead = l.drop T.length) ∨
  (s.st = 3 ∧ wEnd false T = false ∧ s.alone = true ∧ s.ahead = l.drop (T.length + 1) ∧ ∃ f, l[T.length]? = some f ∧ f.f0 = 81) ∨
  (s.st = 4 ∧ wEnd false T = (!s.alone) ∧ s.ahead = l.drop (T.length + 1) ∧ ∃ f, l[T.length]? = some f ∧ f.f0 = 81) ∨
  (s.st = 5 ∧ wEnd false T = false ∧ s.ahead = l.drop T.length) ∨
  (s.st = 6 ∧ wEnd false T = true ∧ s.ahead = l.drop T.length)
structure PP (l : List S62) (T : List S44) (V : List ByteArray) (s : SS) : Prop where
  ok : okFrom l false 0 T
  v : V = res T
  st : stInv l T s

section
variable {l : List S62} {T0 : List S44} {V : List ByteArray} {s : SS}
theorem emptyL : (⟨#[]⟩ : ByteArray).toList = ([] : List UInt8) := by unfold ByteArray.toList ByteArray.toList.loop; rfl
theorem tell_ok {T : List S44} {k : Int} {f : S62} (h : okFrom l false 0 T) (hf : l[T.length]? = some f) (hk : k ∈ mayL (wEnd false T) f.f0) (h5 : k ≠ 5) : okFrom l false 0 (T ++ [rep k]) :=
  ok_snoc h ⟨f, by simpa using hf, hk⟩ rfl (.inr emptyL) h5
theorem tell_res {T : List S44} {k : Int} (h2 : k ≠ 2) : res (T ++ [rep k]) = res T := by rw [res_snoc]; simp [rep, h2]
theorem tell_wEnd {T : List S44} {k : Int} : wEnd false (T ++ [rep k]) = nextW (wEnd false T) k := by rw [wEnd_snoc]; rfl

theorem got_PP (h : PP l (T0 ++ s.told) V s) (h1 : s.st = 1) : PP l (T0 ++ (gotS s).2.told) V (gotS s).2 := by
  obtain ⟨ho, hv, hs⟩ := h
  simp [stInv, h1] at hs
  obtain ⟨hw, ha, f, hf, hk⟩ := hs
  unfold gotS
  rw [if_neg (by simp [h1])]
  cases hal : s.alone
  · simp [hal] at hk
    simp only [Bool.false_eq_true, if_false, tellS, ← List.append_assoc]
    refine ⟨tell_ok ho (by simpa using hf) (by simp [hw, hk, mayL]) (by decide), hv.trans (tell_res (by decide)).symm, ?_⟩
    simp [-List.append_assoc, stInv, tell_wEnd, nextW, ha, Nat.add_assoc]
  · simp [hal] at hk
    simp only [if_true]
    refine ⟨ho, hv, ?_⟩
    simp [stInv, hw, hal, ha]
    exact ⟨f, hf, hk⟩
theorem turn_PP (h : PP l (T0 ++ s.told) V s) (h1 : s.st = 1) : PP l (T0 ++ (turnS s).2.told) V (turnS s).2 := by
  obtain ⟨ho, hv, hs⟩ := h
  simp [stInv, h1] at hs
  obtain ⟨hw, ha, f, hf, hk⟩ := hs
  unfold turnS
  rw [if_neg (by simp [h1])]
  simp only [tellS, ← List.append_assoc]
  refine ⟨tell_ok ho (by simpa using hf) (by cases hal : s.alone <;> simp [hal] at hk <;> simp [hw, hk, mayL]) (by decide), hv.trans (tell_res (by decide)).symm, ?_⟩
  simp [-List.append_assoc, stInv, tell_wEnd, nextW, ha, hw, Nat.add_assoc]
theorem lost2_PP (h : PP l (T0 ++ s.told) V s) (h1 : s.st = 2) : PP l (T0 ++ (lostS s).2.told) V (lostS s).2 := by
  obtain ⟨ho, hv, hs⟩ := h
  simp [stInv, h1] at hs
  unfold lostS
  rw [if_pos h1]
  exact ⟨ho, hv, by simp [stInv, hs.1, hs.2]⟩
theorem lost4_PP (h : PP l (T0 ++ s.told) V s) (h1 : s.st = 4) : PP l (T0 ++ (lostS s).2.told) V (lostS s).2 := by
  obtain ⟨ho, hv, hs⟩ := h
  simp [stInv, h1] at hs
  obtain ⟨hw, ha, f, hf, hk⟩ := hs
  unfold lostS
  rw [if_neg (by simp [h1]), if_pos (by simp [h1])]
  simp only [tellS, ← List.append_assoc]
  refine ⟨tell_ok ho (by simpa using hf) (by rw [hw, hk]; cases s.alone <;> decide) (by decide), hv.trans (tell_res (by decide)).symm, ?_⟩
  simp [-List.append_assoc, stInv, tell_wEnd, nextW, ha, Nat.add_assoc]
theorem answer_PP (t : ByteArray) (h : PP l (T0 ++ s.told) V s) (h1 : s.st = 4) : PP l (T0 ++ (answerS s t).2.told) (V ++ [t]) (answerS s t).2 := by
  obtain ⟨ho, hv, hs⟩ := h
  simp [stInv, h1] at hs
  obtain ⟨hw, ha, f, hf, hk⟩ := hs
  unfold answerS
  rw [if_neg (by simp [h1])]
  simp only [tellS, ← List.append_assoc]
  refine ⟨ok_snoc ho ⟨f, by simpa using hf, by rw [hw, hk]; cases s.alone <;> (show (2 : Int) ∈ _) <;> decide⟩ rfl (.inl rfl) (show (2 : Int) ≠ 5 by decide), by rw [res_snoc, if_pos rfl, hv], ?_⟩
  cases hal : s.alone <;> simp [hal] at hw <;> simp [-List.append_assoc, stInv, wEnd_snoc, nextW, ha, hw, hal, Nat.add_assoc]
theorem take_PP {f : S62} {rest : List S62} (hg : ∀ f ∈ l, goodF f) (h : PP l (T0 ++ s.told) V s) (ha : s.ahead = f :: rest) (h1 : s.st = 0 ∨ s.st = 2 ∨ s.st = 6) : PP l (T0 ++ (takeS s f rest).2.told) V (takeS s f rest).2 := by
  obtain ⟨ho, hv, hs⟩ := h
  have hd : s.ahead = l.drop (T0 ++ s.told).length := by
    rcases h1 with h1 | h1 | h1 <;> simp [stInv, h1] at hs <;> simp [hs.2]
  have hf : l[(T0 ++ s.told).length]? = some f := by
    rw [ha] at hd
    have := congrArg (fun x => x[0]?) hd
    simpa [List.getElem?_drop] using this.symm
  have hr : rest = l.drop ((T0 ++ s.told).length + 1) := by
    rw [ha] at hd
    have := congrArg List.tail hd
    simpa using this
  have hgf := hg f (List.mem_of_getElem? hf)
  have hlen : ∀ k, ((T0 ++ s.told) ++ [rep k]).length = (T0 ++ s.told).length + 1 := fun k => List.length_append
  unfold takeS
  rcases h1 with h1 | h1 | h1
  · rw [if_pos h1]
    have hw : wEnd false (T0 ++ s.told) = false := by simp [stInv, h1] at hs; exact hs.1
    unfold freeS
    by_cases k1 : f.f0 = 66 ∨ f.f0 = 81
    · rw [if_pos k1]
      refine ⟨ho, hv, .inr (.inl ⟨rfl, hw, hr, f, hf, ?_⟩)⟩
      rcases k1 with k1 | k1 <;> simp [k1]
    · rw [if_neg k1]
      have k69 : f.f0 = 69 := by
        simp only [not_or] at k1
        rcases hgf with ⟨h2 | h2, _⟩ | ⟨h2, _⟩
        · exact absurd h2 k1.1
        · exact h2
        · exact absurd h2 k1.2
      rw [if_pos k69]
      simp only [tellS, ← List.append_assoc]
      refine ⟨tell_ok ho hf (by rw [hw, k69]; decide) (by decide), hv.trans (tell_res (by decide)).symm, .inl ⟨h1, ?_, ?_⟩⟩
      · rw [tell_wEnd, hw]; rfl
      · rw [hlen]; exact hr
  · rw [if_neg (by simp [h1]), if_pos h1]
    have hw : wEnd false (T0 ++ s.told) = true := by simp [stInv, h1] at hs; exact hs.1
    unfold boundS
    by_cases k66 : f.f0 = 66
    · rw [if_pos k66]
      simp only [tellS, ← List.append_assoc]
      refine ⟨tell_ok ho hf (by rw [hw, k66]; decide) (by decide), hv.trans (tell_res (by decide)).symm, .inr (.inr (.inl ⟨h1, ?_, ?_⟩))⟩
      · rw [tell_wEnd, hw]; rfl
      · rw [hlen]; exact hr
    · rw [if_neg k66]
      by_cases k81 : f.f0 = 81
      · rw [if_pos k81]
        exact ⟨ho, hv, .inr (.inr (.inr (.inr (.inl ⟨rfl, by simpa using hw, hr, f, hf, k81⟩))))⟩
      · rw [if_neg k81]
        have k69 : f.f0 = 69 := by
          rcases hgf with ⟨h2 | h2, _⟩ | ⟨h2, _⟩
          · exact absurd h2 k66
          · exact h2
          · exact absurd h2 k81
        rw [if_pos k69]
        simp only [tellS, ← List.append_assoc]
        refine ⟨tell_ok ho hf (by rw [hw, k69]; decide) (by decide), hv.trans (tell_res (by decide)).symm, .inl ⟨rfl, ?_, ?_⟩⟩
        · rw [tell_wEnd, hw]; rfl
        · rw [hlen]; exact hr
  · rw [if_neg (by simp [h1]), if_neg (by simp [h1])]
    have hw : wEnd false (T0 ++ s.told) = true := by simp [stInv, h1] at hs; exact hs.1
    unfold deadS
    have k0 : ¬ f.f0 = 0 := by rcases hgf with ⟨h2 | h2, _⟩ | ⟨h2, _⟩ <;> omega
    rw [if_neg k0]
    simp only [tellS, ← List.append_assoc]
    refine ⟨tell_ok ho hf ?_ (by decide), hv.trans (tell_res (by decide)).symm, .inl ⟨rfl, ?_, ?_⟩⟩
    · rw [hw]; rcases hgf with ⟨h2 | h2, _⟩ | ⟨h2, _⟩ <;> rw [h2] <;> decide
    · rw [tell_wEnd, hw]; rfl
    · rw [hlen]; exact hr
theorem nextL_PP (hg : ∀ f ∈ l, goodF f) : ∀ (k : Nat) (s : SS), PP l (T0 ++ s.told) V s → PP l (T0 ++ (nextL k s).told) V (nextL k s)
  | 0, s, h => h
  | k + 1, s, h => by
    unfold nextL
    cases ha : s.ahead with
    | nil => exact h
    | cons f rest =>
      simp only
      split
      · rename_i h1
        have h2 := take_PP hg h ha h1
        split
        · exact nextL_PP hg k _ h2
        · exact h2
      · exact h
theorem next_PP (hg : ∀ f ∈ l, goodF f) (h : PP l (T0 ++ s.told) V s) : PP l (T0 ++ (nextS s).told) V (nextS s) := by
  unfold nextS
  split
  · rename_i h3
    obtain ⟨ho, hv, hs⟩ := h
    simp [stInv, h3] at hs
    obtain ⟨hw, hal, ha, f, hf, hk⟩ := hs
    refine ⟨ho, hv, ?_⟩
    simp [stInv, hw, hal, ha]
    exact ⟨f, hf, hk⟩
  · split
    · rename_i h5
      obtain ⟨ho, hv, hs⟩ := h
      simp [stInv, h5] at hs
      exact ⟨ho, hv, by simp [stInv, hs.1, hs.2]⟩
    · exact nextL_PP hg _ s h
theorem PP.bound (h : PP l (T0 ++ s.told) V s) : (T0 ++ s.told).length + s.ahead.length ≤ l.length := by
  have h1 := ok_len h.ok (Nat.zero_le _)
  rcases h.st with ⟨_, _, e⟩ | ⟨_, _, e, _⟩ | ⟨_, _, e⟩ | ⟨_, _, _, e, _⟩ | ⟨_, _, e, _⟩ | ⟨_, _, e⟩ | ⟨_, _, e⟩ <;> rw [e, List.length_drop] <;> omega
end

/-- The invariant of the law's rounds. -/
structure InvS (l : List S62) (i : Nat) (r : RS) : Prop where
  none : r.s.told = []
  p : PP l r.told r.served r.s
  n : r.n = r.served.length

theorem act_PP {l : List S62} {r : RS} (wy : Int) (t : ByteArray) (h0 : r.s.told = []) (h : PP l r.told r.served r.s) : PP l (r.told ++ (actS wy t r).s.told) (actS wy t r).served (actS wy t r).s := by
  have h' : PP l (r.told ++ r.s.told) r.served r.s := by rw [h0]; simpa using h
  unfold actS
  split
  · rename_i h1
    split
    · exact turn_PP h' h1
    · exact got_PP h' h1
  · split
    · rename_i h4
      split
      · exact lost4_PP h' h4
      · exact answer_PP t h' h4
    · split
      · rename_i h2
        split
        · exact lost2_PP h' h2
        · exact h'
      · exact h'
theorem act_n {r : RS} (wy : Int) (t : ByteArray) (h : r.n = r.served.length) : (actS wy t r).n = (actS wy t r).served.length := by
  unfold actS
  (repeat' split) <;> simp [h]
theorem stInv_told {l : List S62} {T : List S44} {s : SS} (x : List S44) (h : stInv l T s) : stInv l T { s with told := x } := h
theorem round_inv {l : List S62} {ways : List Int} {texts : List ByteArray} (hg : ∀ f ∈ l, goodF f) (i : Nat) (r : RS) (h : InvS l i r) : InvS l (i + 1) (roundS ways texts i r) := by
  have h1 := act_PP (wayOf ways i) (textOf texts r.n) h.none h.p
  have h2 := next_PP hg h1
  refine ⟨rfl, ?_, act_n _ _ h.n⟩
  have e : (roundS ways texts i r).told = r.told ++ (nextS (actS (wayOf ways i) (textOf texts r.n) r).s).told := round_told rfl rfl
  rw [e]
  exact ⟨h2.ok, h2.v, h2.st⟩
end Go.Proofs.Ytojgiaemgpnfdaa.S
