/- judge.play and judge.Judge. -/
import Derived.Test.YtojgiaemgpnfdaaJ5
import Derived.Test.YtojgiaemgpnfdaaJS
set_option linter.unusedVariables false
set_option linter.unusedSimpArgs false
namespace Go.Proofs.Ytojgiaemgpnfdaa.J
open Go.RowKit Go.Maps Go.Proofs.YtojgiaemgpnfdaaM Go.Proofs.Ytojgiaemgpnfdaa.JP Go.Proofs.YtojgiaemgpnfdaaW.PrintWords Go.Proofs.Ytojgiaemgpnfdaa.PJudgeJudges

/-- What play leaves. -/
def PlayPost (limit : Int) (l : List (Int × Int × Int)) (w : World) (e : Ending) (w' : World) : Prop :=
  Below w.heap.size w w' ∧ ∃ v, e = .returned (.tuple #[v, .int .i64 (play limit [] 0 l).1, .int .i64 (play limit [] 0 l).2]) ∧
    ((play limit [] 0 l).2 = 0 → ∃ g bc bo bm, v = .pointer (some ⟨g, 0, none⟩) ∧ IsOpen w' g bc bo bm 1000 (after [] l) ∧ Inv limit (after [] l) ∧ w.heap.size ≤ bc ∧ w.heap.size ≤ bo ∧ w.heap.size ≤ bm ∧ w.heap.size ≤ g)

theorem IsOpen.mono {w : World} {g bc bo bm m : Nat} {C : List (Int × Int)} (h : IsOpen w g bc bo bm m C) {m' : Nat} (hm : m ≤ m') : IsOpen w g bc bo bm m' C :=
  ⟨h.h0, h.h1, h.h2, h.ne, let ⟨f, a, b⟩ := h.c; ⟨f, a.mono hm, b⟩, let ⟨f, a, b⟩ := h.o; ⟨f, a.mono hm, b⟩, let ⟨f, a, b⟩ := h.mm; ⟨f, a.mono hm, b⟩⟩
theorem IsOpen.below {w w' : World} {g bc bo bm m : Nat} {C : List (Int × Int)} (h : IsOpen w g bc bo bm m C) (hb : Below w.heap.size w w') : IsOpen w' g bc bo bm m C := by
  have hk : Keep (fun _ => False) w w' := keep_of_below hb _
  exact ⟨hk.cell (fun h => h) h.h0, hk.cell (fun h => h) h.h1, hk.cell (fun h => h) h.h2, h.ne, let ⟨f, a, b⟩ := h.c; ⟨f, mapF_keep a hk (fun h => h), b⟩, let ⟨f, a, b⟩ := h.o; ⟨f, mapF_keep a hk (fun h => h), b⟩, let ⟨f, a, b⟩ := h.mm; ⟨f, mapF_keep a hk (fun h => h), b⟩⟩
theorem isOpen_start (w : World) : IsOpen ((((w.alloc (.map #[] 0)).alloc (.map #[] 0)).alloc (.map #[] 0)).alloc (.cells #[.map (some w.heap.size), .map (some (w.heap.size + 1)), .map (some (w.heap.size + 1 + 1))] 76)) (w.heap.size + 1 + 1 + 1) w.heap.size (w.heap.size + 1) (w.heap.size + 1 + 1) 0 [] := by
  have f1 : MapF EC 3 (w.alloc (.map #[] 0)) w.heap.size 0 (fun _ => none) := MapF.made w
  have f2 : MapF EI 3 ((w.alloc (.map #[] 0)).alloc (.map #[] 0)) (w.heap.size + 1) 0 (fun _ => none) := by
    have := MapF.made (E := EI) (e := 3) (w.alloc (.map #[] 0))
    simpa using this
  have f3 : MapF EI 3 (((w.alloc (.map #[] 0)).alloc (.map #[] 0)).alloc (.map #[] 0)) (w.heap.size + 1 + 1) 0 (fun _ => none) := by
    have := MapF.made (E := EI) (e := 3) ((w.alloc (.map #[] 0)).alloc (.map #[] 0))
    simpa using this
  refine ⟨by simp [go_sem], by simp [go_sem], by simp [go_sem], ⟨by omega, by omega, by omega⟩, ⟨_, ((f1.alloc _).alloc _).alloc _, by simp⟩, ⟨_, (f2.alloc _).alloc _, fun t _ => .inl ⟨by simp, rfl⟩⟩, ⟨_, f3.alloc _, fun n _ => by simp [cnt]⟩⟩

theorem steps_get {l : List S28} {k : Nat} (hk : k < l.length) : (steps l)[k]? = some ((rd_T28 l k).f0, (rd_T28 l k).f1, (rd_T28 l k).f2) := by
  unfold steps rd_T28
  simp [List.getElem?_eq_getElem hk]

set_option maxHeartbeats 1600000 in
set_option maxRecDepth 100000 in
theorem play_calls (limit : Int) (A1 : Option Addr) (c1 : Nat) (l : List S28) (w : World) (hl : I64 limit) (hr : Kd.C k28 w A1 l.length l) (hcap : l.length ≤ c1) (hlen : l.length ≤ 1000) :
    Calls Try.prog 22 #[.int .i64 limit, .slice A1 l.length c1] w (PlayPost limit (steps l) w) := by
  have hmm := @run_makeMap Try.prog
  have hstart := Lib.hid (isOpen_start w)
  have HR := Lib.hid hr
  clear hr
  go_enter Try.func22, Try.ntmps22
  go_wp2
  go_loopw [18] (fun i wr => ∃ k : Nat, k ≤ l.length ∧ i = .int .i64 k ∧ ∃ C, IsOpen wr (w.heap.size + 1 + 1 + 1) w.heap.size (w.heap.size + 1) (w.heap.size + 1 + 1) k C ∧ PlayInv limit (steps l) k C ∧ Below w.heap.size w wr)
    (fun i _ => l.length - (intOf i).toNat)
  case atStart => exact ⟨0, Nat.zero_le _, rfl, [], hstart.out, PlayInv.start _ _, ((((Below.refl _ _).alloc (Nat.le_refl _) _).alloc (by simp) _).alloc (by simp; omega) _).alloc (by simp; omega) _⟩
  case round =>
    obtain ⟨k, hk, rfl, C, hO, hP, hB⟩ := hrel
    have HP := Lib.hid hP
    clear hP
    by_cases hlt : k < l.length
    · obtain ⟨ad, rfl, r0, r1, r2⟩ := at_T28 HR.out k (by omega) (by omega)
      simp only [Int.toNat_natCast] at r0 r1 r2
      have HST := Lib.hid (steps_get hlt)
      obtain ⟨x0, hx0⟩ : ∃ x, x = (rd_T28 l k).f0 := ⟨_, rfl⟩
      obtain ⟨x1, hx1⟩ : ∃ x, x = (rd_T28 l k).f1 := ⟨_, rfl⟩
      obtain ⟨x2, hx2⟩ : ∃ x, x = (rd_T28 l k).f2 := ⟨_, rfl⟩
      rw [← hx0] at r0
      rw [← hx1] at r1
      rw [← hx2] at r2
      have HST : Hid ((steps l)[k]? = some (x0, x1, x2)) := Lib.hid (by rw [hx0, hx1, hx2]; exact HST.out)
      clear hx0 hx1 hx2
      replace r0 := (hB.cell (World.block_lt_of_cell? w _ r0)).trans r0
      replace r1 := (hB.cell (World.block_lt_of_cell? w _ r1)).trans r1
      replace r2 := (hB.cell (World.block_lt_of_cell? w _ r2)).trans r2
      have HO := Lib.hid hO
      have HBB := Lib.hid hB
      clear hO hB
      have hcon := take_calls limit x0 x1 x2 (w.heap.size + 1 + 1 + 1) w.heap.size (w.heap.size + 1) (w.heap.size + 1 + 1) k C (wr.alloc (.cells #[.int .i64 x0, .int .i64 x1, .int .i64 x2] 28)) (HO.out.below ((Below.refl _ _).alloc (Nat.le_refl _) _)) HP.out.inv hl (by omega) w.heap.size ⟨by omega, by omega, by omega, by have := HBB.out.size; simp; omega⟩ (by omega)
      have HCON := Lib.hid hcon
      clear hcon
      go_wp2_with fail
      refine HCON.out.mono ?_
      rintro e w1 ⟨rfl, hOk, hbl⟩
      have hB1 : Below w.heap.size w w1 := (HBB.out.alloc HBB.out.size _).trans hbl
      have HOK := Lib.hid hOk
      have HB1 := Lib.hid hB1
      clear hOk hB1 hbl r0 r1 r2 HCON
      obtain ⟨E, hE⟩ : ∃ E, E = stepE limit C x0 x1 x2 := ⟨_, rfl⟩
      rw [← hE]
      have HE := Lib.hid hE
      clear hE
      by_cases h0 : E = 0
      · have hO1 := HOK.out (HE.out ▸ h0)
        have hP1 := HP.out.step HST.out (HE.out ▸ h0)
        subst h0
        have HF := Lib.hid (And.intro hO1 hP1)
        clear hO1 hP1
        go_wp2
        go_roundw
        case rel => exact ⟨k + 1, by omega, by go_num, _, HF.out.1, HF.out.2, HB1.out⟩
        case measure => simp [intOf]; omega
      · have hP1 := HP.out.stop HST.out (HE.out ▸ h0)
        have HF := Lib.hid hP1
        clear hP1
        have b1 : (E != 0) = true := bne_iff_ne.2 h0
        go_wp2
        go_ret3
        refine ⟨HB1.out, .pointer none, ?_, ?_⟩
        · rw [HF.out, ← HE.out]; rfl
        · intro h
          rw [HF.out, ← HE.out] at h
          exact absurd h h0
    · obtain rfl : k = l.length := by omega
      have hfin : play limit [] 0 (steps l) = (-1, 0) ∧ after [] (steps l) = C := by
        have hlen2 : (steps l).length = l.length := by simp [steps]
        exact PlayInv.finish (hlen2 ▸ HP.out)
      have HF := Lib.hid hfin
      have HO := Lib.hid hO
      have HBB := Lib.hid hB
      clear hfin hO hB
      go_wp2
      go_ret3
      refine ⟨HBB.out, .pointer (some ⟨w.heap.size + 1 + 1 + 1, 0, none⟩), ?_, fun _ => ⟨w.heap.size + 1 + 1 + 1, w.heap.size, w.heap.size + 1, w.heap.size + 1 + 1, rfl, ?_, ?_, Nat.le_refl _, by omega, by omega, by omega⟩⟩
      · rw [HF.out.1]; rfl
      · rw [HF.out.2]; exact HO.out.mono (by omega)
      · rw [HF.out.2]; exact HP.out.inv

set_option maxHeartbeats 1600000 in
set_option maxRecDepth 100000 in
theorem judge_calls (limit : Int) (A1 : Option Addr) (c1 : Nat) (l : List S28) (w : World) (hl : I64 limit) (hr : Kd.C k28 w A1 l.length l) (hcap : l.length ≤ c1) (hlen : l.length ≤ 1000) :
    Calls Try.prog 8 #[.int .i64 limit, .slice A1 l.length c1] w fun e w' => e = .returned (.tuple #[.int .i64 (play limit [] 0 (steps l)).1, .int .i64 (play limit [] 0 (steps l)).2]) ∧ Below w.heap.size w w' := by
  have hcon := play_calls limit A1 c1 l w hl hr hcap hlen
  have HCON := Lib.hid hcon
  clear hcon hr
  go_enter Try.func8, Try.ntmps8
  go_wp2_with fail
  refine HCON.out.mono ?_
  rintro e w1 ⟨hb, v, rfl, _⟩
  have HB := Lib.hid hb
  clear hb
  go_wp2
  go_ret2
  exact ⟨rfl, HB.out⟩
end Go.Proofs.Ytojgiaemgpnfdaa.J
