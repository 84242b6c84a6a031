/- The walk of the law JudgeReplays. -/
import Derived.Test.YtojgiaemgpnfdaaK6
import Derived.Test.YtojgiaemgpnfdaaJ8
set_option linter.unusedVariables false
set_option linter.unusedSimpArgs false
namespace Go.Proofs.Ytojgiaemgpnfdaa.K
open Go.RowKit Go.Maps Go.Proofs.YtojgiaemgpnfdaaM Go.Proofs.Ytojgiaemgpnfdaa.J Go.Proofs.Ytojgiaemgpnfdaa.JP Go.Proofs.YtojgiaemgpnfdaaW.PrintWords Go.Proofs.YtojgiaemgpnfdaaW.PrintLast Go.Proofs.Ytojgiaemgpnfdaa.PJudgeJudges

theorem eqA55 (d : Nat) (w : World) (x0 y0 : Int) (x1 y1 : Int) :
    (Op.equalIn (d + 2) 55 (.agg #[.int .i64 x0, .int .i64 x1]) (.agg #[.int .i64 y0, .int .i64 y1])).run Try.prog w = .ok (x0 == y0 && (x1 == y1)) w := by
  refine eqA_of Try.underlying55 (by kernel_rfl) ?_
  refine eqf_cons (by rfl) (by go_simp; rfl) (by go_simp; rfl) (by go_simp) ?_
  exact eqf_last (by rfl) (by go_simp; rfl) (by go_simp; rfl) (by go_simp)
theorem neq55 (w : World) (a b : Int) : (binOp .neq 55 (.agg #[.int .i64 a, .int .i64 b]) (.agg #[.int .i64 a, .int .i64 b])).run Try.prog w = .ok (.bool false) w := by
  have h := eqA55 9998 w a a b b
  simp only [beq_self_eq_true, Bool.and_self] at h
  simp only [binOp]
  simp [Op.equal, Op.maxDepth, h]

set_option maxHeartbeats 1600000 in
set_option maxRecDepth 100000 in
theorem law5_long (limit : Int) (A1 : Option Addr) (c1 : Nat) (l : List S28) (w : World) (hcap : l.length ≤ c1) (hmax : l.length ≤ 9223372036854775807) (hlen : 300 < l.length) :
    Calls Try.prog 5 #[.int .i64 limit, .slice A1 l.length c1] w fun e w' => e = .returned (.bool true) ∧ Below w.heap.size w w' := by
  have hj := judges_calls w
  have HJ := Lib.hid hj
  clear hj
  go_enter Try.func5, Try.ntmps5
  go_wp2_with fail
  refine HJ.out.mono ?_
  rintro e w1 ⟨rfl, hb⟩
  have HB := Lib.hid hb
  clear hb
  go_wp2
  go_ret
  exact ⟨rfl, HB.out⟩

theorem C28_one (w : World) (a : S28) : Kd.C k28 (w.alloc (.cells #[.int .i64 a.f0, .int .i64 a.f1, .int .i64 a.f2] 28)) (some ⟨w.heap.size, 0, none⟩) [a].length [a] := by
  refine ⟨rfl, by simp, fun _ => ⟨_, rfl, fun j p hj => ?_⟩⟩
  match j, hj with
  | 0, hj =>
    obtain rfl : a = p := by simpa using hj
    refine ⟨_, rfl, k28_mk _ a, fun i u hu => ?_⟩
    rw [add_plain]
    match i, hu with
    | 0, hu => exact blk_some hu
    | 1, hu => exact blk_some hu
    | 2, hu => exact blk_some hu

theorem replay_one (w : World) : Calls Try.prog 20 #[.int .i64 2, .slice (some ⟨w.heap.size, 0, none⟩) 1 1] (w.alloc (.cells #[.int .i64 1, .int .i64 1, .int .i64 1] 28)) fun e w' => ∃ A c, e = .returned (.tuple #[.slice A 1 c, .int .i64 0]) ∧ Below w.heap.size w w' := by
  refine (replay_calls 2 _ 1 [⟨1, 1, 1⟩] _ (by unfold I64; omega) (C28_one w ⟨1, 1, 1⟩) (by simp) (by simp)).mono ?_
  rintro e w' ⟨hb, A, c, S, rfl, hc, hC, h1, _⟩
  have hp : (play 2 [] 0 (steps [⟨1, 1, 1⟩])).2 = 0 := by rfl
  have hT := (h1 hp).1
  have ha : after [] (steps [⟨1, 1, 1⟩]) = [(1, 1)] := by rfl
  rw [ha] at hT
  have : S = [(1, 1)] := told_uniq hT ⟨by simp, by simp⟩
  subst this
  exact ⟨A, c, by rw [hp]; rfl, ((Below.refl _ _).alloc (Nat.le_refl _) _).trans (hb.mono (by simp))⟩

set_option maxHeartbeats 1600000 in
set_option maxRecDepth 100000 in
theorem law5_short (limit : Int) (A1 : Option Addr) (c1 : Nat) (l : List S28) (w : World) (hl : I64 limit) (hr : Kd.C k28 w A1 l.length l) (hcap : l.length ≤ c1) (hlen : l.length ≤ 300) :
    Calls Try.prog 5 #[.int .i64 limit, .slice A1 l.length c1] w fun e w' => e = .returned (.bool true) ∧ Below w.heap.size w w' := by
  have HR := Lib.hid hr
  have hj := replay_calls limit A1 c1 l w hl hr hcap (by omega)
  have HJ := Lib.hid hj
  clear hr hj
  go_enter Try.func5, Try.ntmps5
  go_wp2_with fail
  refine HJ.out.mono ?_
  rintro e w1 ⟨hb1, A2, c2, S, rfl, hc2, hC2, hp1, hp2⟩
  obtain ⟨kk, hkk⟩ := replay_f limit l (by omega) S hp1 hp2
  obtain ⟨E, hE⟩ : ∃ E, E = (play limit [] 0 (steps l)).2 := ⟨_, rfl⟩
  rw [← hE] at hkk ⊢
  have hSl : S.length ≤ 100000 := by
    by_cases h0 : (play limit [] 0 (steps l)).2 = 0
    · have hT := (hp1 h0).1
      have h2 := after_length (steps l) []
      have h3 : (steps l).length = l.length := by simp [steps]
      simp only [List.length_nil] at h2
      have := nodup_le S (after [] (steps l)) (hT.lt.imp (by rintro a b h rfl; unfold ltC at h; omega)) (fun x hx => (hT.mem x).1 hx)
      omega
    · rw [hp2 h0]; simp
  have hr1 := stopcockref22_Replay.calls kk limit A1 c1 l (S.map mk55) E w1 (Kd.C_below HR.out hb1) hcap hkk
  have HR1 := Lib.hid hr1
  have HB1 := Lib.hid hb1
  have HC2 := Lib.hid hC2
  clear hE hp1 hp2 hkk hb1 hC2 hr1 HJ
  go_wp2_with fail
  refine HR1.out.mono ?_
  rintro e w2 ⟨v, rfl, hR2, hb2⟩
  obtain ⟨A3, c3, rfl, hc3, hC3⟩ := Kd.R_reads hR2
  have hml : (S.map mk55).length = S.length := by simp
  rw [hml] at hc3 hC3 ⊢
  have hC2' := Kd.C_below HC2.out hb2
  have HB2 := Lib.hid (HB1.out.trans (hb2.mono HB1.out.size))
  have HC3 := Lib.hid hC3
  have HC2' := Lib.hid hC2'
  clear HR1 hR2 hb2 hC3 hC2' HC2 hml HB1
  go_wp2
  go_loopw [40] (fun i wr => ∃ k : Nat, k ≤ S.length ∧ i = .int .i64 k ∧ Below w2.heap.size w2 wr) (fun i _ => S.length - (intOf i).toNat)
  case atStart => exact ⟨0, Nat.zero_le _, rfl, Below.refl _ _⟩
  case round =>
    obtain ⟨k, hk, rfl, hbr⟩ := hrel
    by_cases hlt : k < S.length
    · obtain ⟨ad1, e1, r0, r1⟩ := at_T55 HC2'.out k (by omega) (by omega)
      obtain ⟨ad2, e2, q0, q1⟩ := at_T55 HC3.out k (by omega) (by omega)
      simp only [Int.toNat_natCast] at r0 r1 q0 q1
      cases e1
      cases e2
      replace r0 := (hbr.cell (World.block_lt_of_cell? w2 _ r0)).trans r0
      replace r1 := (hbr.cell (World.block_lt_of_cell? w2 _ r1)).trans r1
      replace q0 := (hbr.cell (World.block_lt_of_cell? w2 _ q0)).trans q0
      replace q1 := (hbr.cell (World.block_lt_of_cell? w2 _ q1)).trans q1
      have hneq : ∀ W, (binOp .neq 55 (.agg #[.int .i64 (rd_T55 (S.map mk55) k).f0, .int .i64 (rd_T55 (S.map mk55) k).f1]) (.agg #[.int .i64 (rd_T55 (S.map mk55) k).f0, .int .i64 (rd_T55 (S.map mk55) k).f1])).run Try.prog W = .ok (.bool false) W := fun W => neq55 W _ _
      generalize (rd_T55 (S.map mk55) k).f0 = x0 at *
      generalize (rd_T55 (S.map mk55) k).f1 = x1 at *
      have HBR := Lib.hid hbr
      clear hbr
      go_wp2
      go_quiet (fail)
      go_wp2
      go_roundw
      case rel => exact ⟨k + 1, by omega, by go_num, pw_below_drewN HBR.out _⟩
      case measure => simp [intOf]; omega
    · obtain rfl : k = S.length := by omega
      have hj2 := replay_one wr
      have HJ2 := Lib.hid hj2
      have HBR := Lib.hid (HB2.out.trans (hbr.mono HB2.out.size))
      clear hj2 hbr
      go_wp2_with fail
      refine HJ2.out.mono ?_
      rintro e w4 ⟨A, c, rfl, hb4⟩
      have HB4 := Lib.hid (HBR.out.trans (hb4.mono HBR.out.size))
      clear hb4
      go_wp2
      go_ret
      exact ⟨rfl, HB4.out⟩
end Go.Proofs.Ytojgiaemgpnfdaa.K
