/- JudgeJudges: the walk of the law. -/
import Derived.Test.YtojgiaemgpnfdaaJ6
import Derived.Test.YtojgiaemgpnfdaaJ7
set_option linter.unusedVariables false
set_option linter.unusedSimpArgs false
namespace Go.Proofs.Ytojgiaemgpnfdaa.J
open Go.RowKit Go.Maps Go.Proofs.YtojgiaemgpnfdaaM Go.Proofs.Ytojgiaemgpnfdaa.JP Go.Proofs.YtojgiaemgpnfdaaW.PrintWords Go.Proofs.Ytojgiaemgpnfdaa.PJudgeJudges

theorem eqA28 (d : Nat) (w : World) (x0 y0 : Int) (x1 y1 : Int) (x2 y2 : Int) :
    (Op.equalIn (d + 2) 28 (.agg #[.int .i64 x0, .int .i64 x1, .int .i64 x2]) (.agg #[.int .i64 y0, .int .i64 y1, .int .i64 y2])).run Try.prog w = .ok (x0 == y0 && (x1 == y1 && (x2 == y2))) w := by
  refine eqA_of Try.underlying28 (by kernel_rfl) ?_
  refine eqf_cons (by rfl) (by go_simp; rfl) (by go_simp; rfl) (by go_simp) ?_
  refine eqf_cons (by rfl) (by go_simp; rfl) (by go_simp; rfl) (by go_simp) ?_
  exact eqf_last (by rfl) (by go_simp; rfl) (by go_simp; rfl) (by go_simp)

theorem blk_some {w : World} {cs : Array Value} {t : TypeId} {j : Nat} {v : Value} (h : cs[j]? = some v) : (w.alloc (.cells cs t)).cell? ⟨w.heap.size, j, none⟩ = some v := by rw [World.cell?_alloc_at _ _ _ _ (by simp)]; exact h

theorem C28_two (w : World) (a b : S28) : Kd.C k28 (w.alloc (.cells #[.int .i64 a.f0, .int .i64 a.f1, .int .i64 a.f2, .int .i64 b.f0, .int .i64 b.f1, .int .i64 b.f2] 28)) (some ⟨w.heap.size, 0, none⟩) [a, b].length [a, b] := by
  refine ⟨rfl, by simp, fun _ => ⟨_, rfl, fun j p hj => ?_⟩⟩
  match j, hj with
  | 0, hj =>
    obtain rfl : a = p := by simpa using hj
    refine ⟨_, rfl, k28_mk _ a, fun i u hu => ?_⟩
    rw [add_plain]
    match i, hu with
    | 0, hu => exact blk_some hu
    | 1, hu => exact blk_some hu
    | 2, hu => exact blk_some hu
  | 1, hj =>
    obtain rfl : b = p := by simpa using hj
    refine ⟨_, rfl, k28_mk _ b, fun i u hu => ?_⟩
    rw [add_plain]
    match i, hu with
    | 0, hu => exact blk_some hu
    | 1, hu => exact blk_some hu
    | 2, hu => exact blk_some hu
theorem C28_three (w : World) (a b c : S28) : Kd.C k28 (w.alloc (.cells #[.int .i64 a.f0, .int .i64 a.f1, .int .i64 a.f2, .int .i64 b.f0, .int .i64 b.f1, .int .i64 b.f2, .int .i64 c.f0, .int .i64 c.f1, .int .i64 c.f2] 28)) (some ⟨w.heap.size, 0, none⟩) [a, b, c].length [a, b, c] := by
  refine ⟨rfl, by simp, fun _ => ⟨_, rfl, fun j p hj => ?_⟩⟩
  match j, hj with
  | 0, hj =>
    obtain rfl : a = p := by simpa using hj
    refine ⟨_, rfl, k28_mk _ a, fun i u hu => ?_⟩
    rw [add_plain]
    match i, hu with
    | 0, hu => exact blk_some hu
    | 1, hu => exact blk_some hu
    | 2, hu => exact blk_some hu
  | 1, hj =>
    obtain rfl : b = p := by simpa using hj
    refine ⟨_, rfl, k28_mk _ b, fun i u hu => ?_⟩
    rw [add_plain]
    match i, hu with
    | 0, hu => exact blk_some hu
    | 1, hu => exact blk_some hu
    | 2, hu => exact blk_some hu
  | 2, hj =>
    obtain rfl : c = p := by simpa using hj
    refine ⟨_, rfl, k28_mk _ c, fun i u hu => ?_⟩
    rw [add_plain]
    match i, hu with
    | 0, hu => exact blk_some hu
    | 1, hu => exact blk_some hu
    | 2, hu => exact blk_some hu

set_option maxHeartbeats 1600000 in
set_option maxRecDepth 100000 in
theorem judges_calls (w : World) : Calls Try.prog 7 #[] w fun e w' => e = .returned (.bool true) ∧ Below w.heap.size w w' := by
  have hj1 : ∀ W, Kd.C k28 W (some ⟨w.heap.size, 0, none⟩) 2 [⟨1, 1, 1⟩, ⟨1, 2, 1⟩] → Calls Try.prog 8 #[.int .i64 2, .slice (some ⟨w.heap.size, 0, none⟩) 2 2] W fun e w' => e = .returned (.tuple #[.int .i64 1, .int .i64 220]) ∧ Below W.heap.size W w' := fun W h =>
    (judge_calls 2 _ 2 [⟨1, 1, 1⟩, ⟨1, 2, 1⟩] W (by unfold I64; omega) h (by simp) (by simp)).mono fun e w' ⟨h1, h2⟩ => ⟨by rw [h1]; rfl, h2⟩
  have hj2 : ∀ W g, Kd.C k28 W (some ⟨g, 0, none⟩) 3 [⟨1, 1, 1⟩, ⟨3, 1, 0⟩, ⟨1, 2, 1⟩] → Calls Try.prog 8 #[.int .i64 2, .slice (some ⟨g, 0, none⟩) 3 3] W fun e w' => e = .returned (.tuple #[.int .i64 (-1), .int .i64 0]) ∧ Below W.heap.size W w' := fun W g h =>
    (judge_calls 2 _ 3 [⟨1, 1, 1⟩, ⟨3, 1, 0⟩, ⟨1, 2, 1⟩] W (by unfold I64; omega) h (by simp) (by simp)).mono fun e w' ⟨h1, h2⟩ => ⟨by rw [h1]; rfl, h2⟩
  have h1 := hj1 _ (C28_two w ⟨1, 1, 1⟩ ⟨1, 2, 1⟩)
  have H1 := Lib.hid h1
  have H2 := Lib.hid hj2
  clear h1 hj1 hj2
  go_enter Try.func7, Try.ntmps7
  go_wp2_with fail
  refine H1.out.mono ?_
  rintro e w1 ⟨rfl, hb1⟩
  have hB := ((Below.refl w.heap.size w).alloc (Nat.le_refl _) _).trans (hb1.mono (by simp))
  have HB := Lib.hid hB
  clear hb1 hB
  go_wp2_with fail
  refine (H2.out _ _ (C28_three w1 ⟨1, 1, 1⟩ ⟨3, 1, 0⟩ ⟨1, 2, 1⟩)).mono ?_
  rintro e w2 ⟨rfl, hb2⟩
  have hB2 := (HB.out.alloc HB.out.size _).trans (hb2.mono (by have := HB.out.size; simp; omega))
  have HB2 := Lib.hid hB2
  clear hb2 hB2
  go_wp2
  go_ret
  exact ⟨rfl, HB2.out⟩

theorem neq28 (w : World) (a b c : Int) : (binOp .neq 28 (.agg #[.int .i64 a, .int .i64 b, .int .i64 c]) (.agg #[.int .i64 a, .int .i64 b, .int .i64 c])).run Try.prog w = .ok (.bool false) w := by
  have h := eqA28 9998 w a a b b c c
  simp only [beq_self_eq_true, Bool.and_self] at h
  simp only [binOp]
  simp [Op.equal, Op.maxDepth, h]

set_option maxHeartbeats 1600000 in
set_option maxRecDepth 100000 in
theorem law_long (limit : Int) (A1 : Option Addr) (c1 : Nat) (l : List S28) (w : World) (hcap : l.length ≤ c1) (hmax : l.length ≤ 9223372036854775807) (hlen : 300 < l.length) :
    Calls Try.prog 3 #[.int .i64 limit, .slice A1 l.length c1] w fun e w' => e = .returned (.bool true) ∧ Below w.heap.size w w' := by
  have hj := judges_calls w
  have HJ := Lib.hid hj
  clear hj
  go_enter Try.func3, Try.ntmps3
  go_wp2_with fail
  refine HJ.out.mono ?_
  rintro e w1 ⟨rfl, hb⟩
  have HB := Lib.hid hb
  clear hb
  go_wp2
  go_ret
  exact ⟨rfl, HB.out⟩

set_option maxHeartbeats 1600000 in
set_option maxRecDepth 100000 in
theorem law_short (limit : Int) (A1 : Option Addr) (c1 : Nat) (l : List S28) (w : World) (hl : I64 limit) (hr : Kd.C k28 w A1 l.length l) (hcap : l.length ≤ c1) (hlen : l.length ≤ 300) :
    Calls Try.prog 3 #[.int .i64 limit, .slice A1 l.length c1] w fun e w' => e = .returned (.bool true) ∧ Below w.heap.size w w' := by
  have HR := Lib.hid hr
  clear hr
  go_enter Try.func3, Try.ntmps3
  go_wp2_with (first
    | (at_builtin; refine Kd.R_append_rows k28 (w0 := w) w.heap.size rfl _ _ 22 28 (.agg #[(.int .i64 0), (.int .i64 0), (.int .i64 0)]) 24 rfl Try.underlying22 info28 rfl (by decide) (by omega) (.slice none 0 0) [] l A1 l.length c1 (fun _ => True) (fun _ => False) rfl rfl (Kd.R_nil _ _ _ _ _) HR.out ?hKM (fun _ h => h.elim) (fun _ _ => trivial) (Below.refl _ _) (Nat.le_refl _) ?hl ?_)
    | fail)
  case hKM =>
    intro x cs h
    rw [k28_open h]
    exact k28_mkM _ _ _ x
  case hl => simp; omega
  intro v1 w1 hR hB _ _
  obtain ⟨A2, c2, rfl, hcap2, hC2⟩ := Kd.R_reads hR
  have hj := judge_calls limit A2 c2 l w1 hl hC2 hcap2 (by omega)
  have HJ := Lib.hid hj
  have HB := Lib.hid hB
  have HC2 := Lib.hid hC2
  clear hj hB hC2 hR
  go_wp2_with fail
  refine HJ.out.mono ?_
  rintro e w2 ⟨rfl, hb⟩
  have HB2 := Lib.hid (HB.out.trans (hb.mono HB.out.size))
  have HC3 := Lib.hid (Kd.C_below HC2.out hb)
  clear HJ HB HC2 hb
  obtain ⟨kk, hkk⟩ := judge_f limit l (by omega)
  have hr1 := stopcockref22_Judge.calls kk limit A1 c1 l (play limit [] 0 (steps l)).1 (play limit [] 0 (steps l)).2 w2 (Kd.C_below HR.out (HB2.out.mono (Nat.le_refl _))) hcap hkk
  have HR1 := Lib.hid hr1
  clear hr1 hkk
  go_wp2_with fail
  refine HR1.out.mono ?_
  rintro e w3 ⟨rfl, hb⟩
  have HB3 := Lib.hid (HB2.out.trans (hb.mono HB2.out.size))
  have HC4 := Lib.hid (Kd.C_below HC3.out hb)
  clear HR1 HB2 HC3 hb
  go_wp2
  go_loopw [31] (fun i wr => ∃ k : Nat, k ≤ l.length ∧ i = .int .i64 k ∧ Below w3.heap.size w3 wr) (fun i _ => l.length - (intOf i).toNat)
  case atStart => exact ⟨0, Nat.zero_le _, rfl, Below.refl _ _⟩
  case round =>
    obtain ⟨k, hk, rfl, hbr⟩ := hrel
    by_cases hlt : k < l.length
    · obtain ⟨ad1, e1, r0, r1, r2⟩ := at_T28 HR.out k (by omega) (by omega)
      obtain ⟨ad2, e2, q0, q1, q2⟩ := at_T28 HC4.out k (by omega) (by omega)
      simp only [Int.toNat_natCast] at r0 r1 r2 q0 q1 q2
      cases e1
      cases e2
      have hbw := HB3.out
      replace r0 := (hbw.cell (World.block_lt_of_cell? w _ r0)).trans r0
      replace r1 := (hbw.cell (World.block_lt_of_cell? w _ r1)).trans r1
      replace r2 := (hbw.cell (World.block_lt_of_cell? w _ r2)).trans r2
      clear hbw
      replace r0 := (hbr.cell (World.block_lt_of_cell? w3 _ r0)).trans r0
      replace r1 := (hbr.cell (World.block_lt_of_cell? w3 _ r1)).trans r1
      replace r2 := (hbr.cell (World.block_lt_of_cell? w3 _ r2)).trans r2
      replace q0 := (hbr.cell (World.block_lt_of_cell? w3 _ q0)).trans q0
      replace q1 := (hbr.cell (World.block_lt_of_cell? w3 _ q1)).trans q1
      replace q2 := (hbr.cell (World.block_lt_of_cell? w3 _ q2)).trans q2
      have hneq : ∀ W, (binOp .neq 28 (.agg #[.int .i64 (rd_T28 l k).f0, .int .i64 (rd_T28 l k).f1, .int .i64 (rd_T28 l k).f2]) (.agg #[.int .i64 (rd_T28 l k).f0, .int .i64 (rd_T28 l k).f1, .int .i64 (rd_T28 l k).f2])).run Try.prog W = .ok (.bool false) W := fun W => neq28 W _ _ _
      generalize (rd_T28 l k).f0 = x0 at *
      generalize (rd_T28 l k).f1 = x1 at *
      generalize (rd_T28 l k).f2 = x2 at *
      have HBR := Lib.hid hbr
      clear hbr
      go_wp2
      go_quiet (fail)
      go_wp2
      go_roundw
      case rel => exact ⟨k + 1, by omega, by go_num, pw_below_drewN HBR.out _⟩
      case measure => simp [intOf]; omega
    · obtain rfl : k = l.length := by omega
      have hj2 := judges_calls wr
      have HJ2 := Lib.hid hj2
      have HBR := Lib.hid (HB3.out.trans (hbr.mono HB3.out.size))
      clear hj2 hbr
      generalize play limit [] 0 (steps l) = pl at *
      go_wp2_with fail
      refine HJ2.out.mono ?_
      rintro e w4 ⟨rfl, hb4⟩
      have HB4 := Lib.hid (HBR.out.trans (hb4.mono HBR.out.size))
      clear hb4
      go_wp2
      go_ret
      exact ⟨rfl, HB4.out⟩
end Go.Proofs.Ytojgiaemgpnfdaa.J
