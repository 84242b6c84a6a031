/- slices.SortedFunc over the keys of the map, and judge.Replay. -/
import Derived.Test.YtojgiaemgpnfdaaK4
import Derived.Test.YtojgiaemgpnfdaaJ6
import Derived.Test.YtojgiaemgpnfdaaJ7
set_option linter.unusedVariables false
set_option linter.unusedSimpArgs false
namespace Go.Proofs.Ytojgiaemgpnfdaa.K
open Go.Shelf Go.RowKit Go.Lib Go.Sort Go.Maps Go.Proofs.YtojgiaemgpnfdaaM Go.Proofs.Ytojgiaemgpnfdaa.J Go.Proofs.Ytojgiaemgpnfdaa.JP Go.Proofs.YtojgiaemgpnfdaaW.PrintWords Go.Proofs.Ytojgiaemgpnfdaa.PJudgeJudges

theorem below_sortW {α : Type} [Inhabited α] (enc : α → List Value) (k : Nat) (w : World) (blk off n : Nat) (d : Array α) (os : Array Obj) (B : Nat) (hB : B ≤ blk) (hs : B ≤ w.heap.size) : Below B w (sortWorldK enc k w blk off n d os) := by
  unfold sortWorldK putRowK Sort.putRow Sort.mapBlock Sort.grow Sort.ahead
  refine ⟨rfl, rfl, rfl, by simp, fun i hi => ?_⟩
  have h1 : i < w.heap.size := by omega
  have h2 : ¬ blk = i := by omega
  simp [Array.getElem?_append, h1, Array.getElem_modify, h2]

theorem flat_at (ss : List (Int × Int)) : ∀ (i : Nat) (x : Int × Int), ss[i]? = some x → (flat ss)[2 * i]? = some (.int .i64 x.1) ∧ (flat ss)[2 * i + 1]? = some (.int .i64 x.2) := by
  induction ss with
  | nil => intro i x h; simp at h
  | cons a l ih =>
    intro i x h
    have e : flat (a :: l) = .int .i64 a.1 :: .int .i64 a.2 :: flat l := by simp [flat]
    rw [e]
    cases i with
    | zero => simp at h; subst h; simp
    | succ i =>
      have := ih i x (by simpa using h)
      rw [show 2 * (i + 1) = 2 * i + 1 + 1 by omega]
      simpa using this

/-- What a row holds, by its elements. -/
theorem holdsC_iff (w : World) (blk off : Nat) (ss : List (Int × Int)) : HoldsK encC 2 w blk off ss.toArray ↔ ∀ (i : Nat) (x : Int × Int), ss[i]? = some x →
    w.cell? ⟨blk, off + 2 * i, none⟩ = some (.int .i64 x.1) ∧ w.frozen? ⟨blk, off + 2 * i, none⟩ = false ∧ w.cell? ⟨blk, off + (2 * i + 1), none⟩ = some (.int .i64 x.2) ∧ w.frozen? ⟨blk, off + (2 * i + 1), none⟩ = false := by
  have hget : ∀ (i : Nat) (x : Int × Int), ss[i]? = some x → ∀ t, t / 2 = i → (flatK encC 2 ss.toArray)[t]! = [Value.int .i64 x.1, .int .i64 x.2][t % 2]! := by
    intro i x hx t ht
    have hlt : i < ss.length := by
      rcases Nat.lt_or_ge i ss.length with h | h
      · exact h
      · rw [List.getElem?_eq_none h] at hx; cases hx
    rw [get_flatK _ _ _ _ (by simp; omega), ht]
    have : (ss.toArray)[i]! = x := by
      rw [getElem!_pos _ _ (by simpa using hlt)]
      rw [List.getElem?_eq_getElem hlt] at hx
      simpa using hx
    rw [this]; rfl
  constructor
  · intro h i x hx
    have hlt : i < ss.length := by
      rcases Nat.lt_or_ge i ss.length with h | h
      · exact h
      · rw [List.getElem?_eq_none h] at hx; cases hx
    have h0 := h (2 * i) (by simp; omega)
    have h1 := h (2 * i + 1) (by simp; omega)
    rw [hget i x hx (2 * i) (by omega)] at h0
    rw [hget i x hx (2 * i + 1) (by omega)] at h1
    rw [show (2 * i) % 2 = 0 by omega] at h0
    rw [show (2 * i + 1) % 2 = 1 by omega] at h1
    exact ⟨h0.1, h0.2, h1.1, h1.2⟩
  · intro h t ht
    have ht' : t < ss.length * 2 := by simpa using ht
    have hlt : t / 2 < ss.length := by omega
    have := h (t / 2) ss[t / 2] (List.getElem?_eq_getElem hlt)
    rw [hget (t / 2) _ (List.getElem?_eq_getElem hlt) t rfl]
    rcases Nat.mod_two_eq_zero_or_one t with e | e
    · rw [e]; rw [show 2 * (t / 2) = t by omega] at this; exact ⟨this.1, this.2.1⟩
    · rw [e]; rw [show 2 * (t / 2) + 1 = t by omega] at this; exact ⟨this.2.2.1, this.2.2.2⟩

theorem holds_of_row {W : World} {base g cap n : Nat} {ss : List (Int × Int)} (hn : n = ss.length) (h : W.ownsRow base 55 2 (.slice (some ⟨g, 0, none⟩) n cap) n (flat ss)) (hp : 0 < ss.length) : HoldsK encC 2 W g 0 ss.toArray ∧ g < W.heap.size ∧ base ≤ g ∧ ss.length ≤ cap := by
  obtain ⟨hl, ⟨h1, _⟩ | ⟨g', cap', cur, he, hb, hg, hc, hm, hs, ht⟩⟩ := h
  · cases h1
  obtain ⟨rfl, rfl⟩ : g = g' ∧ cap = cap' := by simpa using he
  refine ⟨(holdsC_iff _ _ _ _).2 fun i x hx => ?_, ?_, hb, by omega⟩
  · have hlt : i < ss.length := by
      rcases Nat.lt_or_ge i ss.length with h | h
      · exact h
      · rw [List.getElem?_eq_none h] at hx; cases hx
    obtain ⟨f0, f1⟩ := flat_at ss i x hx
    rw [← ht, List.getElem?_take] at f0 f1
    rw [if_pos (by omega)] at f0 f1
    simp only [Array.getElem?_toList] at f0 f1
    refine ⟨?_, ?_, ?_, ?_⟩
    · simp [World.cell?, hg, f0]
    · simp [World.frozen?, hg]
    · simp [World.cell?, hg, f1]
    · simp [World.frozen?, hg]
  · exact (Array.getElem?_eq_some_iff.1 hg).1

theorem reads_of_holds {W : World} {g : Nat} {ss : List (Int × Int)} (h : HoldsK encC 2 W g 0 ss.toArray) (hm : ss.length ≤ 100000) : Kd.C k55 W (some ⟨g, 0, none⟩) ss.length (ss.map mk55) := by
  refine ⟨by simp, by omega, fun _ => ⟨_, rfl, fun j p hj => ?_⟩⟩
  rw [List.getElem?_map, Option.map_eq_some_iff] at hj
  obtain ⟨x, hx, rfl⟩ := hj
  obtain ⟨c0, _, c1, _⟩ := (holdsC_iff _ _ _ _).1 h j x hx
  refine ⟨_, rfl, k55_mk _ (mk55 x), fun i u hu => ?_⟩
  rw [add_plain]
  match i, hu with
  | 0, hu => cases hu; rw [show j * k55.sz + 0 = 0 + 2 * j by show j * 2 + 0 = _; omega]; exact c0
  | 1, hu => cases hu; rw [show j * k55.sz + 1 = 0 + (2 * j + 1) by show j * 2 + 1 = _; omega]; exact c1

theorem sorted_calls (Bm b m : Nat) (fc : Int × Int → Option Int) (hm : m ≤ 100000) (w : World) (hBm : Bm < w.heap.size) (hmc : w.cell? ⟨Bm, 0, none⟩ = some (.map (some b))) (hc : MapF EC 3 w b m fc) (hlen : ∀ ss, Came fc (fun _ => false) ss → ss.length ≤ 100000) :
    Calls Try.prog 31 #[.func (.func 42) #[] #[.pointer (some ⟨Bm, 0, none⟩)], .func (.func 33) #[] #[]] w fun e w' => ∃ (A : Option Addr) (c : Nat) (ss : List (Int × Int)), e = .returned (.slice A ss.length c) ∧ ss.length ≤ c ∧ Came fc (fun _ => false) ss ∧
      Kd.C k55 w' A ss.length ((sortedC ss).map mk55) ∧ Below w.heap.size w w' := by
  have hcol := collect_calls Bm b m fc hm w hBm hmc hc
  have HCOL := Lib.hid hcol
  have HLEN := Lib.hid hlen
  clear hcol hc hmc hlen
  go_enter Try.func31, Try.ntmps31
  go_wp2_with fail
  refine HCOL.out.mono ?_
  rintro e w1 ⟨v, ss, rfl, hS, hrow, hb⟩
  have HS := Lib.hid hS
  have HB := Lib.hid hb
  have hle : ss.length ≤ 100000 := HLEN.out ss hS
  by_cases h0 : ss.length = 0
  · obtain rfl : ss = [] := List.eq_nil_of_length_eq_zero h0
    obtain ⟨A, c, rfl⟩ : ∃ A c, v = .slice A 0 c := by
      rcases hrow.2 with ⟨h1, _⟩ | ⟨g, c, _, h1, _⟩
      · exact ⟨_, _, h1⟩
      · exact ⟨_, _, h1⟩
    clear hS hb hrow
    go_wp2_with fail
    refine (sortC_none _ _ _ _).mono ?_
    rintro e w2 ⟨rfl, rfl⟩
    go_wp2
    go_ret
    exact ⟨A, c, [], rfl, Nat.zero_le _, HS.out, ⟨by simp [sortedC], by simp, fun h => by simp at h⟩, HB.out⟩
  · obtain ⟨g, c, rfl⟩ : ∃ g c, v = .slice (some ⟨g, 0, none⟩) ss.length c := by
      rcases hrow.2 with ⟨_, h1⟩ | ⟨g, c, _, h1, _⟩
      · exact absurd h1 h0
      · exact ⟨_, _, h1⟩
    obtain ⟨hH, hg, hbase, hcap⟩ := holds_of_row rfl hrow (by omega)
    have hsort := sortC_calls g 0 c ss w1 hH hg hle
    have HSORT := Lib.hid hsort
    have HH := Lib.hid hH
    clear hsort hS hb hrow hH
    go_wp2_with fail
    refine HSORT.out.mono ?_
    rintro e w2 ⟨rfl, n, os, hw2⟩
    have hB2 : Below w.heap.size w w2 := by rw [hw2]; exact HB.out.trans (below_sortW _ _ _ _ _ _ _ _ _ hbase HB.out.size)
    have hR : Kd.C k55 w2 (some ⟨g, 0, none⟩) ss.length ((sortedC ss).map mk55) := by
      have hl : (sortedC ss).length = ss.length := (sortedC_perm ss).length_eq
      have h2 : HoldsK encC 2 w2 g 0 (sortedC ss).toArray := by
        rw [hw2]
        exact holdsK_sortWorldK encC 2 w1 g 0 n ss.toArray _ os hg HH.out (by simp [hl])
      have := reads_of_holds h2 (by omega)
      rw [hl] at this
      exact this
    have HB2 := Lib.hid hB2
    have HR := Lib.hid hR
    clear hB2 hR hw2
    go_wp2
    go_ret
    exact ⟨_, c, ss, rfl, hcap, HS.out, HR.out, HB2.out⟩

theorem nodup_le {α : Type} [DecidableEq α] (ss : List α) : ∀ (C : List α), ss.Nodup → (∀ x ∈ ss, x ∈ C) → ss.length ≤ C.length := by
  induction ss with
  | nil => intro C _ _; exact Nat.zero_le _
  | cons a l ih =>
    intro C hn hs
    rw [List.nodup_cons] at hn
    have ha := hs a (List.mem_cons_self ..)
    have := ih (C.erase a) hn.2 (fun x hx => (List.mem_erase_of_ne (by rintro rfl; exact hn.1 hx)).2 (hs x (List.mem_cons_of_mem _ hx)))
    rw [List.length_erase_of_mem ha] at this
    have := List.length_pos_of_mem ha
    simp only [List.length_cons]; omega
theorem after_length (l : List (Int × Int × Int)) : ∀ C : List (Int × Int), (after C l).length ≤ C.length + l.length := by
  induction l with
  | nil => intro C; simp [after]
  | cons s l ih =>
    intro C
    have h1 := ih (stepC C s.1 s.2.1 s.2.2)
    have h2 := stepC_length C s.1 s.2.1 s.2.2
    have e : after C (s :: l) = after (stepC C s.1 s.2.1 s.2.2) l := rfl
    rw [e, List.length_cons]; omega
/-- What Replay tells: the open connections, by node and token. -/
structure Told (C S : List (Int × Int)) : Prop where
  lt : S.Pairwise ltC
  mem : ∀ x, x ∈ S ↔ x ∈ C
theorem told_of_came {limit : Int} {C ss : List (Int × Int)} {fc : Int × Int → Option Int} (hl : I64 limit) (hC : Inv limit C) (hfc : ∀ x, (I64 x.1 ∧ I64 x.2) → fc x = if x ∈ C then some 1 else none) (hS : Came fc (fun _ => false) ss) : Told C (sortedC ss) := by
  refine ⟨sortedC_lt ss hS.nodup, fun x => ?_⟩
  rw [(sortedC_perm ss).mem_iff]
  constructor
  · intro h
    have hx := hS.ok x h
    have := ((hS.mem x hx).1 h).1
    rw [hfc x hx] at this
    by_cases hm : x ∈ C
    · exact hm
    · rw [if_neg hm] at this; cases this
  · intro h
    have hr := hC.rng x h
    unfold I64 at hl
    have hx : I64 x.1 ∧ I64 x.2 := by unfold I64; omega
    rw [hS.mem x hx, hfc x hx, if_pos h]
    exact ⟨rfl, rfl⟩
theorem told_uniq {C S T : List (Int × Int)} (hS : Told C S) (hT : Told C T) : S = T := by
  have key : ∀ (S T : List (Int × Int)), S.Pairwise ltC → T.Pairwise ltC → (∀ x, x ∈ S ↔ x ∈ T) → S = T := by
    intro S
    induction S with
    | nil =>
      intro T _ _ h
      cases T with
      | nil => rfl
      | cons b T => exact absurd ((h b).2 (List.mem_cons_self ..)) (by simp)
    | cons a S ih =>
      intro T h1 h2 h
      cases T with
      | nil => exact absurd ((h a).1 (List.mem_cons_self ..)) (by simp)
      | cons b T =>
        rw [List.pairwise_cons] at h1 h2
        have hab : a = b := by
          rcases List.mem_cons.1 ((h a).1 (List.mem_cons_self ..)) with e | e
          · exact e
          · rcases List.mem_cons.1 ((h b).2 (List.mem_cons_self ..)) with e2 | e2
            · exact e2.symm
            · have q1 := h2.1 a e
              have q2 := h1.1 b e2
              unfold ltC at q1 q2; omega
        subst hab
        congr 1
        refine ih T h1.2 h2.2 fun x => ?_
        have hx := h x
        rw [List.mem_cons, List.mem_cons] at hx
        constructor
        · intro hm
          rcases hx.1 (.inr hm) with e | e
          · subst e; have := h1.1 x hm; unfold ltC at this; omega
          · exact e
        · intro hm
          rcases hx.2 (.inr hm) with e | e
          · subst e; have := h2.1 x hm; unfold ltC at this; omega
          · exact e
  exact key S T hS.lt hT.lt fun x => (hS.mem x).trans (hT.mem x).symm

/-- What Replay leaves. -/
def ReplayPost (limit : Int) (l : List (Int × Int × Int)) (w : World) (e : Ending) (w' : World) : Prop :=
  Below w.heap.size w w' ∧ ∃ (A : Option Addr) (c : Nat) (S : List (Int × Int)), e = .returned (.tuple #[.slice A S.length c, .int .i64 (play limit [] 0 l).2]) ∧ S.length ≤ c ∧ Kd.C k55 w' A S.length (S.map mk55) ∧
    ((play limit [] 0 l).2 = 0 → Told (after [] l) S ∧ Inv limit (after [] l)) ∧ ((play limit [] 0 l).2 ≠ 0 → S = [])

set_option maxHeartbeats 1600000 in
set_option maxRecDepth 100000 in
theorem replay_calls (limit : Int) (A1 : Option Addr) (c1 : Nat) (l : List S28) (w : World) (hl : I64 limit) (hr : Kd.C k28 w A1 l.length l) (hcap : l.length ≤ c1) (hlen : l.length ≤ 1000) :
    Calls Try.prog 20 #[.int .i64 limit, .slice A1 l.length c1] w (ReplayPost limit (steps l) w) := by
  have hcon := play_calls limit A1 c1 l w hl hr hcap hlen
  have HCON := Lib.hid hcon
  clear hcon hr
  obtain ⟨E, hE⟩ : ∃ E, E = (play limit [] 0 (steps l)).2 := ⟨_, rfl⟩
  have HE := Lib.hid hE
  unfold PlayPost at HCON
  rw [← hE] at HCON
  clear hE
  go_enter Try.func20, Try.ntmps20
  go_wp2_with fail
  refine HCON.out.mono ?_
  rintro e w1 ⟨hb, v, rfl, hv⟩
  have HB := Lib.hid hb
  have HV := Lib.hid hv
  clear hb hv
  by_cases h0 : E = 0
  · obtain ⟨g, bc, bo, bm, rfl, hO, hI, hbc, _, _, hg⟩ := HV.out h0
    obtain ⟨fc, hF, hfc⟩ := hO.c
    have c0 := hO.h0
    subst h0
    have hbel : Below w1.heap.size w1 (w1.alloc (.cells #[.map (some bc)] 73)) := (Below.refl _ _).alloc (Nat.le_refl _) _
    have hss := sorted_calls w1.heap.size bc 1000 fc (by omega) (w1.alloc (.cells #[.map (some bc)] 73)) (by simp) (by simp [go_sem]) (hF.alloc _) (fun ss hS => by
      have := nodup_le ss (after [] (steps l)) hS.nodup (fun x hx => by
        have hx' := hS.ok x hx
        have := ((hS.mem x hx').1 hx).1
        rw [hfc x hx'] at this
        by_cases hm : x ∈ after [] (steps l)
        · exact hm
        · rw [if_neg hm] at this; cases this)
      have h2 := after_length (steps l) []
      have h3 : (steps l).length = l.length := by simp [steps]
      simp only [List.length_nil] at h2
      omega)
    have HSS := Lib.hid hss
    have HT := Lib.hid (fun ss (hS : Came fc (fun _ => false) ss) => told_of_came hl hI hfc hS)
    have HI := Lib.hid hI
    clear hss hO hF hfc hI hbel
    go_wp2_with fail
    refine (keys_calls bc w1).mono ?_
    rintro e w2 ⟨rfl, rfl⟩
    go_wp2_with fail
    refine HSS.out.mono ?_
    rintro e w3 ⟨A, c, ss, rfl, hcap2, hS, hC, hb3⟩
    have HF := Lib.hid (And.intro hcap2 (And.intro hS (And.intro hC hb3)))
    clear hcap2 hS hC hb3 HSS c0
    go_wp2
    go_ret2
    have hl2 : (sortedC ss).length = ss.length := (sortedC_perm ss).length_eq
    refine ⟨(HB.out.alloc HB.out.size _).trans (HF.out.2.2.2.mono (by have := HB.out.size; simp; omega)), A, c, sortedC ss, ?_, by rw [hl2]; exact HF.out.1, by rw [hl2]; exact HF.out.2.2.1, fun _ => ⟨HT.out ss HF.out.2.1, HI.out⟩, fun h => absurd HE.out.symm h⟩
    rw [hl2, ← HE.out]; rfl
  · have b1 : (E != 0) = true := bne_iff_ne.2 h0
    have H0 := Lib.hid h0
    clear h0
    go_wp2
    go_ret2
    exact ⟨HB.out, none, 0, [], by rw [← HE.out]; rfl, Nat.le_refl _, ⟨rfl, by simp, fun h => by simp at h⟩, fun h => absurd (HE.out.trans h) H0.out, fun _ => rfl⟩
end Go.Proofs.Ytojgiaemgpnfdaa.K
