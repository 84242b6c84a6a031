/- The law JudgeSession: its short ways, and the whole. -/
import Derived.Test.YtojgiaemgpnfdaaS8
set_option linter.unusedVariables false
set_option linter.unusedSimpArgs false
namespace Go.Proofs.Ytojgiaemgpnfdaa.S
open Go.RowKit Go.Proofs.YtojgiaemgpnfdaaW.PrintWords Go.Proofs.Ytojgiaemgpnfdaa.PJudgeSession

set_option maxHeartbeats 1600000 in
set_option maxRecDepth 100000 in
theorem session_short (w : World) (A0 : Option Addr) (c0 : Nat) (l : List S62) (A1 : Option Addr) (c1 n1 : Nat) (A2 : Option Addr) (c2 n2 : Nat) (up : Bool) (b : ByteArray) (e : Int) (ku kb : Nat)
    (hr0 : Kd.C k62 w A0 l.length l) (hc0 : l.length ≤ c0) (hup : stopcocklaw22_fits.f ku = some up) (hbytes : stopcockref09_Bytes.f kb l = some (b, e)) (hs : e ≠ 0 ∨ 60 < l.length ∨ 200 < n1) :
    Calls Try.prog 4 #[.slice A0 l.length c0, .slice A1 n1 c1, .slice A2 n2 c2] w fun e w' => e = .returned (.bool up) ∧ Below w.heap.size w w' := by
  have H0 := Lib.hid hr0
  have HC0 := Lib.hid hc0
  have HU := Lib.hid hup
  have HBy := Lib.hid hbytes
  have HSS := Lib.hid hs
  clear hr0 hc0 hup hbytes hs
  have hcalls : Calls Try.prog 4 #[.slice A0 l.length c0, .slice A1 n1 c1, .slice A2 n2 c2] w fun e w' => e = .returned (.bool up) ∧ Below w.heap.size w w' := by
    by_cases he : (e != 0) = true
    · go_enter Try.func4, Try.ntmps4
      go_wp2_with fail
      refine (stopcocklaw22_fits.calls ku up w HU.out).mono ?_
      rintro e w1 ⟨rfl, hb1⟩
      have B1 := Lib.hid hb1
      clear hb1
      go_wp2_with fail
      refine (stopcockref09_Bytes.calls kb A0 c0 l b _ w1 (Kd.C_below H0.out B1.out) HC0.out HBy.out).mono ?_
      rintro e w2 ⟨rfl, hb2⟩
      have B2 := Lib.hid (B1.out.trans (hb2.mono (B1.out.size)))
      clear hb2
      go_wp2
      go_ret
      exact ⟨rfl, B2.out⟩
    have he : (e != 0) = false := by simpa using he
    by_cases h60 : decide ((60 : Int) < l.length) = true
    · have h60n : (60 < l.length) = True := eq_true (by have := of_decide_eq_true h60; omega)
      go_enter Try.func4, Try.ntmps4
      go_wp2_with fail
      refine (stopcocklaw22_fits.calls ku up w HU.out).mono ?_
      rintro e w1 ⟨rfl, hb1⟩
      have B1 := Lib.hid hb1
      clear hb1
      go_wp2_with fail
      refine (stopcockref09_Bytes.calls kb A0 c0 l b _ w1 (Kd.C_below H0.out B1.out) HC0.out HBy.out).mono ?_
      rintro e w2 ⟨rfl, hb2⟩
      have B2 := Lib.hid (B1.out.trans (hb2.mono (B1.out.size)))
      clear hb2
      go_wp2
      go_ret
      exact ⟨rfl, B2.out⟩
    have h60 : decide ((60 : Int) < l.length) = false := by simpa using h60
    have h200' : 200 < n1 := by
      rcases HSS.out with h | h | h
      · exact absurd he (by simpa using h)
      · simp at h60; omega
      · exact h
    have h60n : (60 < l.length) = False := eq_false (by have := of_decide_eq_false h60; omega)
    have h200 : decide ((200 : Int) < n1) = true := by simp; omega
    have h200n : (200 < n1) = True := by simpa using h200'
    clear h200'
    go_enter Try.func4, Try.ntmps4
    go_wp2_with fail
    refine (stopcocklaw22_fits.calls ku up w HU.out).mono ?_
    rintro e w1 ⟨rfl, hb1⟩
    have B1 := Lib.hid hb1
    clear hb1
    go_wp2_with fail
    refine (stopcockref09_Bytes.calls kb A0 c0 l b _ w1 (Kd.C_below H0.out B1.out) HC0.out HBy.out).mono ?_
    rintro e w2 ⟨rfl, hb2⟩
    have B2 := Lib.hid (B1.out.trans (hb2.mono (B1.out.size)))
    clear hb2
    go_wp2
    go_ret
    exact ⟨rfl, B2.out⟩
  exact hcalls

theorem session_law (w : World) (A0 : Option Addr) (c0 : Nat) (l : List S62) (A1 : Option Addr) (c1 : Nat) (ways : List Int) (A2 : Option Addr) (c2 : Nat) (texts : List ByteArray)
    (hr0 : Kd.C k62 w A0 l.length l) (hc0 : l.length ≤ c0) (hr1 : Kd.C (Kd.int .i64) w A1 ways.length ways) (hc1 : ways.length ≤ c1) (hr2 : Kd.C Kd.string w A2 texts.length texts) (hc2 : texts.length ≤ c2) (hl : l.length ≤ 100000000000000000) :
    Calls Try.prog 4 #[.slice A0 l.length c0, .slice A1 ways.length c1, .slice A2 texts.length c2] w fun e w' => e = .returned (.bool true) ∧ Below w.heap.size w w' := by
  obtain ⟨ku, hup⟩ := fits_true
  obtain ⟨kb, b, e, hb, hq⟩ := bytes_all hl
  by_cases hs : e ≠ 0 ∨ 60 < l.length ∨ 200 < ways.length
  · exact session_short w A0 c0 l A1 c1 ways.length A2 c2 texts.length true b e ku kb hr0 hc0 hup hb hs
  · have he : e = 0 := by by_cases h : e = 0; exact h; exact absurd (.inl h) hs
    have h60 : l.length ≤ 60 := by by_cases h : 60 < l.length; exact absurd (.inr (.inl h)) hs; omega
    have h200 : ways.length ≤ 200 := by by_cases h : 200 < ways.length; exact absurd (.inr (.inr h)) hs; omega
    obtain ⟨hg, rfl⟩ := hq he
    subst he
    obtain ⟨kf, hf⟩ := feed_all hg h60
    exact session_walk w A0 c0 l A1 c1 ways A2 c2 texts true (encR l) ku kb kf (InvS l) hr0 hc0 hr1 hc1 hr2 hc2 hup hb h60 h200 hf (owes hg h60)
end Go.Proofs.Ytojgiaemgpnfdaa.S
