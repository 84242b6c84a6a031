/- The plain law: judge.Fits answers (-1, 0) to what fits. -/
import Derived.Test.YtojgiaemgpnfdaaS6
set_option linter.unusedVariables false
set_option linter.unusedSimpArgs false
namespace Go.Proofs.Ytojgiaemgpnfdaa.S
open Go.RowKit Go.Proofs.YtojgiaemgpnfdaaW.PrintWords Go.Proofs.Ytojgiaemgpnfdaa.PJudgeSession

theorem empty_iff {b : ByteArray} : b.toList = ([] : List UInt8) ↔ b = ⟨#[]⟩ := by
  rw [ByteArray.toList_eq]
  constructor
  · intro h
    cases b with
    | mk d => have : d = #[] := by simpa using h
              rw [this]
  · rintro rfl; rfl
theorem wrap_i {i : Nat} (h : i ≤ 100000) : wrap64 ((i : Int) + 1) = ((i + 1 : Nat) : Int) := by unfold wrap64; omega
theorem index_ev (x : Int) (xs : List Int) (hl : xs.length ≤ 1000) : ∀ (d i : Nat), i + d = xs.length → x ∈ xs.drop i → ∃ j : Int, 0 ≤ j ∧ Ev (fun k => slices_Index_int_int.l0 k xs x (xs.length : Int) i) j
  | 0, i, hi, hx => by rw [List.drop_of_length_le (by omega)] at hx; simp at hx
  | d + 1, i, hi, hx => by
    have hlt : i < xs.length := by omega
    have hrd : rd xs i = xs[i] := by unfold rd; simp [List.getElem?_eq_getElem hlt]
    rw [List.drop_eq_getElem_cons hlt] at hx
    by_cases e : x = xs[i]
    · refine ⟨i, by omega, Ev.step (f := fun _ => some (i : Int)) (fun k => ?_) (Ev.now _)⟩
      rw [slices_Index_int_int.l0, if_pos (by omega), if_pos (by omega), if_pos (by omega), hrd, if_pos e]
    · have hx' : x ∈ xs.drop (i + 1) := by
        rcases List.mem_cons.1 hx with h | h
        · exact absurd h e
        · exact h
      obtain ⟨j, hj, h⟩ := index_ev x xs hl d (i + 1) (by omega) hx'
      refine ⟨j, hj, Ev.step (f := fun k => slices_Index_int_int.l0 k xs x (xs.length : Int) (i + 1 : Nat)) (fun k => ?_) h⟩
      rw [slices_Index_int_int.l0, if_pos (by omega), if_pos (by omega), if_pos (by omega), hrd, if_neg e, wrap_i (by omega)]
theorem contains_ev {x : Int} {xs : List Int} (hl : xs.length ≤ 1000) (hx : x ∈ xs) : Ev (fun k => slices_Contains_int_int.f k xs x) true := by
  obtain ⟨j, hj, h⟩ := index_ev x xs hl xs.length 0 (by simp) (by simpa using hx)
  unfold slices_Contains_int_int.f slices_Index_int_int.f
  refine Ev.bind (a := j) h ?_
  have : decide (j ≥ 0) = true := by simp [hj]
  rw [this]
  exact Ev.now _
theorem may_ev (w : Bool) {kd : Int} (hk : kd = 66 ∨ kd = 81 ∨ kd = 69) : Ev (fun k => judge_may.f k w kd) (mayL w kd) := by
  refine ⟨3, fun k hk3 => ?_⟩
  obtain ⟨m, rfl⟩ : ∃ m, k = m + 3 := ⟨k - 3, by omega⟩
  rcases hk with rfl | rfl | rfl <;> cases w <;> simp [judge_may.f, judge_may.j0, judge_may.j1, mayL]
theorem res_cons (r : S44) (T : List S44) : res (r :: T) = if r.f0 = 2 then r.f2 :: res T else res T := by unfold res; by_cases h : r.f0 = 2 <;> simp [h]
theorem mayL_len (w : Bool) (kd : Int) : (mayL w kd).length ≤ 1000 := by unfold mayL; (repeat' split) <;> simp

theorem rd62 {l : List S62} {i : Nat} {f : S62} (h : l[i]? = some f) : rd_T62 l i = f := by unfold rd_T62; simp [h]
theorem rd44 {l : List S44} {i : Nat} {f : S44} (h : l[i]? = some f) : rd_T44 l i = f := by unfold rd_T44; simp [h]

section
variable {l : List S62} {T0 : List S44}
theorem fits_j4 {i : Nat} {w : Bool} {V : List ByteArray} {kd nd : Int} {tx : ByteArray} (hi : i ≤ 100000) (h : Ev (fun k => judge_Fits.l0 k l V (nextW w kd) T0 (T0.length : Int) ((i + 1 : Nat) : Int)) (-1, 0)) :
    Ev (fun k => judge_Fits.j4 k l V w T0 (T0.length : Int) i kd nd tx) (-1, 0) := by
  refine Ev.step (fun k => ?_) h
  rw [judge_Fits.j4, wrap_i hi]
  unfold nextW
  by_cases h1 : kd = 1
  · simp [h1]
  · rw [if_neg h1, if_neg h1]
    by_cases h3 : kd = 3
    · simp [h3]
    · rw [if_neg h3, if_neg h3]
      by_cases h6 : kd = 6
      · simp [h6]
      · rw [if_neg h6, if_neg h6]
theorem fits_j3 {i : Nat} {w : Bool} {V V' : List ByteArray} {kd nd : Int} {tx : ByteArray} (hi : i ≤ 100000) (hV : V = if kd = 2 then tx :: V' else V') (h : Ev (fun k => judge_Fits.l0 k l V' (nextW w kd) T0 (T0.length : Int) ((i + 1 : Nat) : Int)) (-1, 0)) :
    Ev (fun k => judge_Fits.j3 k l V w i T0 (T0.length : Int) i false kd nd tx) (-1, 0) := by
  refine Ev.step (fun k => ?_) (fits_j4 (tx := tx) (nd := nd) hi h)
  rw [judge_Fits.j3, if_neg (by decide)]
  by_cases h2 : kd = 2
  · rw [if_pos h2] at hV
    subst hV
    rw [if_pos h2, if_neg (by simp <;> omega), if_pos (by simp <;> omega), if_pos (by simp [rdOf]), if_pos (by simp <;> omega)]
    rfl
  · rw [if_neg h2] at hV
    subst hV
    rw [if_neg h2]
theorem fits_j1 {i : Nat} {w : Bool} {V V' : List ByteArray} {r : S44} {f : S62} (hi : i ≤ 100000) (hk : f.f0 = 66 ∨ f.f0 = 81 ∨ f.f0 = 69) (hm : r.f0 ∈ mayL w f.f0) (h1 : r.f1 = 0) (ht : r.f0 = 2 ∨ r.f2.toList = ([] : List UInt8)) (h5 : r.f0 ≠ 5)
    (hV : V = if r.f0 = 2 then r.f2 :: V' else V') (h : Ev (fun k => judge_Fits.l0 k l V' (nextW w r.f0) T0 (T0.length : Int) ((i + 1 : Nat) : Int)) (-1, 0)) :
    Ev (fun k => judge_Fits.j1 k l V w i T0 (T0.length : Int) i false r.f0 r.f1 r.f2 f.f0 f.f1) (-1, 0) := by
  have h3 := fits_j3 (tx := r.f2) (nd := r.f1) hi hV h
  refine Ev.step (f := fun k => judge_Fits.j2 k l V w i true T0 (T0.length : Int) i r.f0 r.f1 r.f2 f.f0 f.f1) (fun k => ?_) ?_
  · rw [judge_Fits.j1, if_neg (by decide), if_neg h5, show (r.f1 == 0) = true from by simp [h1]]
  refine Ev.step (fun k => ?_) (Ev.bind (f := fun k t125 => (slices_Contains_int_int.f k t125 r.f0).bind fun t128 => (if t128 = true then judge_Fits.j3 k l V w i T0 (T0.length : Int) i false r.f0 r.f1 r.f2 else judge_Fits.j3 k l V w i T0 (T0.length : Int) i true r.f0 r.f1 r.f2)) (may_ev w hk) (Ev.bind (f := fun k t128 => if t128 = true then judge_Fits.j3 k l V w i T0 (T0.length : Int) i false r.f0 r.f1 r.f2 else judge_Fits.j3 k l V w i T0 (T0.length : Int) i true r.f0 r.f1 r.f2) (contains_ev (mayL_len _ _) hm) (by simpa using h3)))
  rw [judge_Fits.j2]
  congr 1; funext t
  congr 1; funext t2
  by_cases e : t2 = true
  · rw [if_pos e, if_pos e, if_pos rfl]
    by_cases h2 : r.f0 = 2
    · rw [if_pos h2]
    · rw [if_neg h2]
      have : r.f2.toList = ([] : List UInt8) := ht.resolve_left h2
      rw [this]
      rfl
  · rw [if_neg e, if_neg e]
theorem fits_l0 (hg : ∀ f ∈ l, goodF f) (hT : T0.length ≤ 1000) : ∀ (d i : Nat) (w : Bool) (V : List ByteArray), i + d = T0.length → okFrom l w i (T0.drop i) → V = res (T0.drop i) → Ev (fun k => judge_Fits.l0 k l V w T0 (T0.length : Int) i) (-1, 0)
  | 0, i, w, V, hi, _, _ => by
    refine Ev.step (f := fun _ => some (-1, 0)) (fun k => ?_) (Ev.now _)
    rw [judge_Fits.l0, if_neg (by omega)]
  | d + 1, i, w, V, hi, ho, hV => by
    have hlt : i < T0.length := by omega
    rw [List.drop_eq_getElem_cons hlt] at ho hV
    obtain ⟨⟨f, hf, hm⟩, h1, ht, h5, hrest⟩ := ho
    have hil : i < l.length := (List.getElem?_eq_some_iff.1 hf).1
    have hgf := hg f (List.mem_of_getElem? hf)
    have hk : f.f0 = 66 ∨ f.f0 = 81 ∨ f.f0 = 69 := by rcases hgf with ⟨h | h, _⟩ | ⟨h, _⟩ <;> simp [h]
    have ih := fits_l0 hg hT d (i + 1) (nextW w T0[i].f0) (res (T0.drop (i + 1))) (by omega) hrest rfl
    have hV' : V = if T0[i].f0 = 2 then T0[i].f2 :: res (T0.drop (i + 1)) else res (T0.drop (i + 1)) := by
      rw [hV, res_cons]
    have hj := fits_j1 (f := f) (i := i) (by omega) hk hm h1 ht h5 hV' ih
    have hr4 : rd_T44 T0 i = T0[i] := rd44 (List.getElem?_eq_getElem hlt)
    have hsz : decide ((f.f1.size : Int) > 48) = false := by
      rcases hgf with ⟨_, h⟩ | ⟨_, h⟩
      · rw [empty_iff.1 h]; rfl
      · simp; omega
    refine Ev.step (fun k => ?_) hj
    rw [judge_Fits.l0, if_pos (by omega), if_pos (by omega), if_pos (by omega), if_neg (by omega), if_pos (by omega), rd62 hf, hr4, hsz]
    rcases hgf with ⟨h | h, he⟩ | ⟨h, _⟩
    · rw [if_neg (by omega), if_pos h, if_pos he]
    · rw [if_neg (by omega), if_neg (by omega), if_pos h, if_pos he]
    · rw [if_pos h]
end

theorem owes {l : List S62} {ways : List Int} {texts : List ByteArray} (hg : ∀ f ∈ l, goodF f) (hl : l.length ≤ 60) : Owes l ways texts (InvS l) where
  start := ⟨rfl, ⟨trivial, rfl, .inl ⟨rfl, rfl, rfl⟩⟩, rfl⟩
  step := fun i r _ h => round_inv hg i r h
  few := fun i r h => by
    have hb := PP.bound (T0 := r.told) (s := r.s) (l := l) (V := r.served) (by rw [h.none]; simpa using h.p)
    have h2 := res_len r.told
    rw [← h.p.v] at h2
    have h3 := h.n
    rw [h.none] at hb
    simp at hb
    exact ⟨h.none, by omega, by omega, by omega, by omega⟩
  few2 := fun i r _ h => by
    have h1 := act_PP (wayOf ways i) (textOf texts r.n) h.none h.p
    have h2 := next_PP hg h1
    have b1 := h1.bound
    have b2 := h2.bound
    simp at b1 b2
    omega
  fits := fun i r h => by
    have hb := ok_len h.p.ok (Nat.zero_le _)
    have := fits_l0 hg (T0 := r.told) (by omega) r.told.length 0 false r.served (by simp) (by simpa using h.p.ok) (by simpa using h.p.v)
    exact this.rounds
end Go.Proofs.Ytojgiaemgpnfdaa.S
