/- The plain law: Bytes and the Reader. -/
import Derived.Test.YtojgiaemgpnfdaaS7
set_option linter.unusedVariables false
set_option linter.unusedSimpArgs false
namespace Go.Proofs.Ytojgiaemgpnfdaa.S
open Go.RowKit Go.Proofs.YtojgiaemgpnfdaaW.PrintWords Go.Proofs.Ytojgiaemgpnfdaa.PJudgeSession

def encF (f : S62) : ByteArray := if f.f0 = 81 then strOfNums [81, (f.f1.size : Int) % 256] ++ f.f1 else strOfNums [f.f0]
def encR : List S62 → ByteArray
  | [] => ⟨#[]⟩
  | f :: t => encF f ++ encR t

theorem ba_empty_append (b : ByteArray) : (⟨#[]⟩ : ByteArray) ++ b = b := by apply ByteArray.ext; simp
theorem ba_append_empty (b : ByteArray) : b ++ (⟨#[]⟩ : ByteArray) = b := by apply ByteArray.ext; simp
theorem bt_append {A R : ByteArray} {i : Nat} (h : i < A.size) : bt (A ++ R) i = bt A i := by
  unfold bt
  have h2 : (i : Int).toNat < (A ++ R).size := by rw [ByteArray.size_append]; simp; omega
  have h3 : (i : Int).toNat < A.size := by simpa using h
  rw [dif_pos h2, dif_pos h3]
  simp only [ByteArray.getElem_eq_getElem_data, ByteArray.data_append]
  rw [Array.getElem_append_left]
theorem extract_right {A R : ByteArray} {n m : Nat} (hn : n = A.size) (hm : m = (A ++ R).size) : (A ++ R).extract n m = R := by
  subst hn hm
  rw [ByteArray.extract_append]
  apply ByteArray.ext
  simp [ByteArray.size_append]
theorem extract_left {A B R : ByteArray} {n m : Nat} (hn : n = A.size) (hm : m = A.size + B.size) : (A ++ B ++ R).extract n m = B := by
  subst hn hm
  rw [ByteArray.append_assoc, ByteArray.extract_append]
  apply ByteArray.ext
  simp [ByteArray.size_append, ByteArray.extract_append]
theorem two_size (n : Int) : (strOfNums [81, n]).size = 2 := rfl
theorem one_size (n : Int) : (strOfNums [n]).size = 1 := rfl
theorem encF_size {f : S62} (h : goodF f) : 0 < (encF f).size ∧ (encF f).size ≤ 50 := by
  unfold encF
  rcases h with ⟨h | h, _⟩ | ⟨h, h2⟩
  · rw [if_neg (by omega), one_size]; omega
  · rw [if_neg (by omega), one_size]; omega
  · rw [if_pos h, ByteArray.size_append, two_size]; omega

theorem wrap_big {i : Nat} (h : i ≤ 1000000000000000000) : wrap64 ((i : Int) + 1) = ((i + 1 : Nat) : Int) := by unfold wrap64; omega
theorem bytes_ev {l : List S62} (hl : l.length ≤ 100000000000000000) : ∀ (d i : Nat) (acc : ByteArray), i + d = l.length → acc.size + d * 50 ≤ 9223372036854775807 →
    ∃ b e, Ev (fun k => stopcockref09_Bytes.l0 k acc l (l.length : Int) i) (b, e) ∧ (e = 0 → (∀ f ∈ l.drop i, goodF f) ∧ b = acc ++ encR (l.drop i))
  | 0, i, acc, hi, hs => by
    refine ⟨acc, 0, Ev.step (f := fun _ => some (acc, 0)) (fun k => ?_) (Ev.now _), fun _ => ?_⟩
    · rw [stopcockref09_Bytes.l0, if_neg (by omega)]
    · rw [List.drop_of_length_le (by omega)]; exact ⟨by simp, (ba_append_empty _).symm⟩
  | d + 1, i, acc, hi, hs => by
    have hlt : i < l.length := by omega
    have hr : rd_T62 l i = l[i] := rd62 (List.getElem?_eq_getElem hlt)
    rw [List.drop_eq_getElem_cons hlt]
    have bad : Ev (fun _ : Nat => some ((⟨#[]⟩ : ByteArray), (90 : Int))) (⟨#[]⟩, 90) := Ev.now _
    by_cases hgood : goodF l[i]
    · have he := encF_size hgood
      obtain ⟨b, e, hE, hq⟩ := bytes_ev hl d (i + 1) (acc ++ encF l[i]) (by omega) (by rw [ByteArray.size_append]; omega)
      refine ⟨b, e, ?_, fun h0 => ?_⟩
      · rcases hgood with ⟨h | h, h2⟩ | ⟨h, h2⟩
        · have en : encF l[i] = strOfNums [l[i].f0] := by unfold encF; rw [if_neg (by omega)]
          rw [en] at hE
          refine Ev.step (f := fun k => stopcockref09_Bytes.j1 k acc l (l.length : Int) i true l[i].f0 l[i].f1) (fun k => ?_) (Ev.step (fun k => ?_) hE)
          · rw [stopcockref09_Bytes.l0, if_pos (by omega), if_pos (by omega), if_pos (by omega), hr, if_pos h, h2]; rfl
          · rw [stopcockref09_Bytes.j1, if_pos rfl, Option.bind_some, one_size, if_pos (by omega), wrap_big (by omega)]
        · have en : encF l[i] = strOfNums [l[i].f0] := by unfold encF; rw [if_neg (by omega)]
          rw [en] at hE
          refine Ev.step (f := fun k => stopcockref09_Bytes.j1 k acc l (l.length : Int) i true l[i].f0 l[i].f1) (fun k => ?_) (Ev.step (fun k => ?_) hE)
          · rw [stopcockref09_Bytes.l0, if_pos (by omega), if_pos (by omega), if_pos (by omega), hr, if_neg (by omega), if_pos h, h2]; rfl
          · rw [stopcockref09_Bytes.j1, if_pos rfl, Option.bind_some, one_size, if_pos (by omega), wrap_big (by omega)]
        · have en : encF l[i] = strOfNums [81, (l[i].f1.size : Int) % 256] ++ l[i].f1 := by unfold encF; rw [if_pos h]
          rw [en] at hE
          refine Ev.step (f := fun k => stopcockref09_Bytes.j1 k acc l (l.length : Int) i false l[i].f0 l[i].f1) (fun k => ?_) (Ev.step (fun k => ?_) hE)
          · rw [stopcockref09_Bytes.l0, if_pos (by omega), if_pos (by omega), if_pos (by omega), hr, if_neg (by omega), if_neg (by omega)]
          · rw [stopcockref09_Bytes.j1, if_neg (by decide), if_pos h, if_pos (by omega), Option.bind_some, ByteArray.size_append, two_size, if_pos (by omega), if_pos (by omega), wrap_big (by omega)]
      · obtain ⟨q1, q2⟩ := hq h0
        refine ⟨fun f hf => ?_, ?_⟩
        · rcases List.mem_cons.1 hf with rfl | h
          · exact hgood
          · exact q1 f h
        · rw [q2, encR, ByteArray.append_assoc]
    · refine ⟨⟨#[]⟩, 90, ?_, fun h => absurd h (by decide)⟩
      refine Ev.step (f := fun k => stopcockref09_Bytes.j1 k acc l (l.length : Int) i false l[i].f0 l[i].f1) (fun k => ?_) (Ev.step (fun k => ?_) bad)
      · rw [stopcockref09_Bytes.l0, if_pos (by omega), if_pos (by omega), if_pos (by omega), hr]
        by_cases h66 : l[i].f0 = 66
        · rw [if_pos h66]
          have : (l[i].f1.toList == ([] : List UInt8)) = false := by
            rw [beq_eq_false_iff_ne]; intro h; exact hgood (.inl ⟨.inl h66, h⟩)
          rw [this]
        · rw [if_neg h66]
          by_cases h69 : l[i].f0 = 69
          · rw [if_pos h69]
            have : (l[i].f1.toList == ([] : List UInt8)) = false := by
              rw [beq_eq_false_iff_ne]; intro h; exact hgood (.inl ⟨.inr h69, h⟩)
            rw [this]
          · rw [if_neg h69]
      · rw [stopcockref09_Bytes.j1, if_neg (by decide)]
        by_cases h81 : l[i].f0 = 81
        · rw [if_pos h81, if_neg (fun h => hgood (.inr ⟨h81, by omega⟩))]
        · rw [if_neg h81]

theorem wrap_small {x : Int} (h0 : 0 ≤ x) (h1 : x ≤ 1000) : wrap64 x = x := by unfold wrap64; omega
theorem feed_ev : ∀ (l2 out : List S62), (∀ f ∈ l2, goodF f) → (out ++ l2).length ≤ 1000 → Ev (fun k => stopcockref09_Reader_Feed.l0 k out (encR l2) false) (out ++ l2, ⟨#[]⟩, false)
  | [], out, _, _ => by
    refine Ev.step (f := fun _ => some (out, ⟨#[]⟩, false)) (fun k => ?_) (by simpa using Ev.now _)
    rw [stopcockref09_Reader_Feed.l0, encR, if_pos emptyL]
  | f :: t, out, hg, hl => by
    have hgf := hg f (by simp)
    have he := encF_size hgf
    have hsz : (encR (f :: t)).size = (encF f).size + (encR t).size := by rw [encR, ByteArray.size_append]
    have hlo : out.length ≤ 1000 := by simp at hl; omega
    have ih := feed_ev t (out ++ [f]) (fun x hx => hg x (by simp [hx])) (by simpa using hl)
    rw [List.append_assoc, List.singleton_append] at ih
    have hne : ¬ (encR (f :: t)).toList = ([] : List UInt8) := by
      intro h
      have := congrArg ByteArray.size (empty_iff.1 h)
      rw [hsz] at this
      have h0 : (⟨#[]⟩ : ByteArray).size = 0 := rfl
      omega
    have hext : ∀ n, n = (encF f).size → (encR (f :: t)).extract n (encR (f :: t)).size = encR t := fun n hn => by rw [encR]; exact extract_right hn rfl
    rcases hgf with ⟨h, h2⟩ | ⟨h, h2⟩
    · have hf1 := empty_iff.1 h2
      have en : encF f = strOfNums [f.f0] := by unfold encF; rw [if_neg (by omega)]
      have hb : bt (encR (f :: t)) 0 = f.f0 := by
        rw [encR]
        have := bt_append (A := encF f) (R := encR t) (i := 0) he.1
        rw [show ((0 : Nat) : Int) = 0 from rfl] at this
        rw [this, en]
        rcases h with h | h <;> rw [h] <;> rfl
      have hx := hext 1 (by rw [en]; rfl)
      have hfe : (⟨f.f0, ⟨#[]⟩⟩ : S62) = f := by cases f; simp at hf1 ⊢; exact hf1.symm
      refine Ev.step (f := fun k => stopcockref09_Reader_Feed.j1 k out f.f0 true (encR (f :: t)) false) (fun k => ?_) (Ev.step (fun k => ?_) ih)
      · rw [stopcockref09_Reader_Feed.l0, if_neg hne, if_pos (by omega), hb]
        rcases h with h | h
        · rw [if_pos h]
        · rw [if_neg (by omega), show (f.f0 == 69) = true from by simp [h]]
      · rw [stopcockref09_Reader_Feed.j1, if_pos rfl, if_pos (by omega), if_pos (by omega), hx, hfe]
    · have en : encF f = strOfNums [81, (f.f1.size : Int) % 256] ++ f.f1 := by unfold encF; rw [if_pos h]
      have hb : bt (encR (f :: t)) 0 = 81 := by
        rw [encR]
        have := bt_append (A := encF f) (R := encR t) (i := 0) he.1
        rw [show ((0 : Nat) : Int) = 0 from rfl] at this
        rw [this, en]
        have := bt_append (A := strOfNums [81, (f.f1.size : Int) % 256]) (R := f.f1) (i := 0) (by rw [two_size]; omega)
        rw [show ((0 : Nat) : Int) = 0 from rfl] at this
        rw [this]; rfl
      have h2s : (encF f).size = 2 + f.f1.size := by rw [en, ByteArray.size_append, two_size]
      have hb1 : bt (encR (f :: t)) 1 = f.f1.size := by
        rw [encR]
        have := bt_append (A := encF f) (R := encR t) (i := 1) (by omega)
        rw [show ((1 : Nat) : Int) = 1 from rfl] at this
        rw [this, en]
        have := bt_append (A := strOfNums [81, (f.f1.size : Int) % 256]) (R := f.f1) (i := 1) (by rw [two_size]; omega)
        rw [show ((1 : Nat) : Int) = 1 from rfl] at this
        rw [this]
        have e1 : bt (strOfNums [81, (f.f1.size : Int) % 256]) 1 = ((UInt8.ofNat ((f.f1.size : Int) % 256).toNat).toNat : Int) := rfl
        rw [e1]
        simp only [UInt8.toNat_ofNat']
        omega
      have hw : wrap64 (2 + wrap64 (f.f1.size : Int)) = ((2 + f.f1.size : Nat) : Int) := by
        rw [wrap_small (x := (f.f1.size : Int)) (by omega) (by omega), wrap_small (by omega) (by omega)]; omega
      have hx := hext (2 + f.f1.size) (by omega)
      have hm : (encR (f :: t)).extract 2 (2 + f.f1.size) = f.f1 := by rw [encR, en]; exact extract_left rfl rfl
      have hfe : (⟨81, f.f1⟩ : S62) = f := by cases f; simp at h ⊢; exact h.symm
      refine Ev.step (f := fun k => stopcockref09_Reader_Feed.j1 k out 81 false (encR (f :: t)) false) (fun k => ?_) (Ev.step (f := fun k => stopcockref09_Reader_Feed.j2 k out false (encR (f :: t)) false) (fun k => ?_) (Ev.step (fun k => ?_) ih))
      · rw [stopcockref09_Reader_Feed.l0, if_neg hne, if_pos (by omega), hb, if_neg (by omega), show ((81 : Int) == 69) = false from by decide]
      · rw [stopcockref09_Reader_Feed.j1, if_neg (by decide), if_pos rfl, if_pos (by omega), if_pos (by omega), hb1, show decide ((f.f1.size : Int) > 48) = false from by simp; omega]
      · rw [stopcockref09_Reader_Feed.j2, if_neg (by decide), if_neg (by omega), if_pos (by omega), hb1, hw, if_neg (by omega), if_pos (by omega), if_pos (by omega), if_pos (by omega), if_pos (by omega), Int.toNat_natCast, hm, hx, hfe]

theorem feed_all {l : List S62} (hg : ∀ f ∈ l, goodF f) (hl : l.length ≤ 60) : ∃ k, stopcockref09_Reader_Feed.f k ⟨#[]⟩ false (encR l) = some (l, ⟨#[]⟩, false) := by
  obtain ⟨K, h⟩ := feed_ev l [] hg (by simpa using Nat.le_trans hl (by omega))
  refine ⟨K, ?_⟩
  have hs : (encR l).size ≤ l.length * 50 := by
    clear h hl
    induction l with
    | nil => simp [encR]; rfl
    | cons f t ih =>
      have := encF_size (hg f (by simp))
      have := ih (fun x hx => hg x (by simp [hx]))
      rw [encR, ByteArray.size_append]; simp; omega
  have h0 : (⟨#[]⟩ : ByteArray).size = 0 := rfl
  rw [stopcockref09_Reader_Feed.f, if_neg (by decide), if_pos (by omega), ba_empty_append]
  simpa using h K (Nat.le_refl _)
theorem bytes_all {l : List S62} (hl : l.length ≤ 100000000000000000) : ∃ k b e, stopcockref09_Bytes.f k l = some (b, e) ∧ (e = 0 → (∀ f ∈ l, goodF f) ∧ b = encR l) := by
  have h0 : (⟨#[]⟩ : ByteArray).size = 0 := rfl
  obtain ⟨b, e, ⟨K, h⟩, hq⟩ := bytes_ev hl l.length 0 ⟨#[]⟩ (by simp) (by omega)
  refine ⟨K, b, e, h K (Nat.le_refl _), fun h0 => ?_⟩
  have := hq h0
  simpa [ba_empty_append] using this
theorem fits_true : ∃ k, stopcocklaw22_fits.f k = some true := by
  have e1 : judge_Fits.f 16 [(⟨66, (⟨#[]⟩ : ByteArray)⟩ : S62), (⟨81, (⟨#[120]⟩ : ByteArray)⟩ : S62)] [(⟨#[121]⟩ : ByteArray)] [(⟨1, 0, (⟨#[]⟩ : ByteArray)⟩ : S44), (⟨2, 0, (⟨#[121]⟩ : ByteArray)⟩ : S44)] = some (-1, 0) := by
    simp [judge_Fits.f, judge_Fits.l0, judge_Fits.j1, judge_Fits.j2, judge_Fits.j3, judge_Fits.j4, judge_may.f, judge_may.j0, judge_may.j1, slices_Contains_int_int.f, slices_Index_int_int.f, slices_Index_int_int.l0, ByteArray.toList_eq, rd_T62, rd_T44, rd, rdOf, wrap64, ByteArray.size]
  have e2 : judge_Fits.f 16 [(⟨66, (⟨#[]⟩ : ByteArray)⟩ : S62), (⟨81, (⟨#[120]⟩ : ByteArray)⟩ : S62)] [(⟨#[121]⟩ : ByteArray)] [(⟨1, 0, (⟨#[]⟩ : ByteArray)⟩ : S44), (⟨2, 0, (⟨#[122]⟩ : ByteArray)⟩ : S44)] = some (1, 220) := by
    simp [judge_Fits.f, judge_Fits.l0, judge_Fits.j1, judge_Fits.j2, judge_Fits.j3, judge_Fits.j4, judge_may.f, judge_may.j0, judge_may.j1, slices_Contains_int_int.f, slices_Index_int_int.f, slices_Index_int_int.l0, ByteArray.toList_eq, rd_T62, rd_T44, rd, rdOf, wrap64, ByteArray.size]
  refine ⟨16, ?_⟩
  unfold stopcocklaw22_fits.f
  simp only [Option.bind_some]
  rw [e1, e2]
  rfl
end Go.Proofs.Ytojgiaemgpnfdaa.S
