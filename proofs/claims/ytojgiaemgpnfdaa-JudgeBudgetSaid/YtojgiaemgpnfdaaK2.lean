/- The comparing closure of judge.Replay. -/
import Derived.Test.YtojgiaemgpnfdaaJ0
import Derived.Test.YtojgiaemgpnfdaaWLast
import Derived.Deep.QuietTactic
import Derived.BigQuiet
import Derived.Lib.Hide
import Derived.Deep.LoopGhost
set_option linter.unusedVariables false
set_option linter.unusedSimpArgs false
namespace Go.Proofs.Ytojgiaemgpnfdaa.K
open Go.Proofs.YtojgiaemgpnfdaaW.PrintLast Go.RowKit Go.Maps Go.Proofs.YtojgiaemgpnfdaaM Go.Proofs.Ytojgiaemgpnfdaa.J

def cmpI (a b : Int) : Int := if a < b then -1 else if b < a then 1 else 0
theorem nan_calls (a : Int) (W : World) : Calls Try.prog 43 #[.int .i64 a] W fun e w' => e = .returned (.bool false) ∧ w' = W := by
  go_enter Try.func43, Try.ntmps43
  go_wp2
  go_ret
  exact ⟨rfl, rfl⟩
set_option maxHeartbeats 1000000 in
theorem compare_calls (a b : Int) (W : World) : Calls Try.prog 35 #[.int .i64 a, .int .i64 b] W fun e w' => e = .returned (.int .i64 (cmpI a b)) ∧ w' = W := by
  by_cases h1 : decide (a < b) = true
  · have e1 := Lib.hid (of_decide_eq_true h1)
    go_enter Try.func35, Try.ntmps35
    go_wp2_with fail
    refine (nan_calls a W).mono ?_
    rintro e w1 ⟨rfl, rfl⟩
    go_wp2_with fail
    refine (nan_calls b w1).mono ?_
    rintro e w2 ⟨rfl, rfl⟩
    go_wp2
    go_ret
    exact ⟨by simp [cmpI, e1.out], rfl⟩
  have h1 : decide (a < b) = false := by simpa using h1
  have e1 := Lib.hid (Int.not_lt.1 (of_decide_eq_false h1))
  by_cases h2 : decide (b < a) = true
  · have e2 := Lib.hid (of_decide_eq_true h2)
    go_enter Try.func35, Try.ntmps35
    go_wp2_with fail
    refine (nan_calls a W).mono ?_
    rintro e w1 ⟨rfl, rfl⟩
    go_wp2_with fail
    refine (nan_calls b w1).mono ?_
    rintro e w2 ⟨rfl, rfl⟩
    go_wp2
    go_ret
    exact ⟨by show Ending.returned (.int .i64 1) = _; rw [cmpI, if_neg (Int.not_lt.2 e1.out), if_pos e2.out], rfl⟩
  have h2 : decide (b < a) = false := by simpa using h2
  have e2 := Lib.hid (Int.not_lt.1 (of_decide_eq_false h2))
  go_enter Try.func35, Try.ntmps35
  go_wp2_with fail
  refine (nan_calls a W).mono ?_
  rintro e w1 ⟨rfl, rfl⟩
  go_wp2_with fail
  refine (nan_calls b w1).mono ?_
  rintro e w2 ⟨rfl, rfl⟩
  go_wp2
  go_ret
  exact ⟨by show Ending.returned (.int .i64 0) = _; rw [cmpI, if_neg (Int.not_lt.2 e1.out), if_neg (Int.not_lt.2 e2.out)], rfl⟩

def orI (x y : Int) : Int := if x = 0 then y else x
set_option maxHeartbeats 1000000 in
set_option maxRecDepth 100000 in
theorem or_calls (x y : Int) (b : Nat) (W : World) (h0 : W.cell? ⟨b, 0, none⟩ = some (.int .i64 x)) (h1 : W.cell? ⟨b, 1, none⟩ = some (.int .i64 y)) :
    Calls Try.prog 34 #[.slice (some ⟨b, 0, none⟩) 2 2] W fun e w' => e = .returned (.int .i64 (orI x y)) ∧ w' = W := by
  go_enter Try.func34, Try.ntmps34
  go_wp2
  go_loopg [8] 2 (fun kq v8 w' => w' = W ∧ ((kq = 2 ∧ v8 = .int .i64 0) ∨ (kq = 1 ∧ v8 = .int .i64 1 ∧ x = 0) ∨ (kq = 0 ∧ v8 = .int .i64 2 ∧ x = 0 ∧ y = 0)))
  case atStart => exact ⟨rfl, .inl ⟨rfl, rfl⟩⟩
  case round =>
    obtain ⟨rfl, ⟨rfl, rfl⟩ | ⟨rfl, rfl, hx⟩ | ⟨rfl, rfl, hx, hy⟩⟩ := hrel
    · by_cases hx : (x != 0) = true
      · have e := Lib.hid (show ¬ x = 0 from by simpa using hx)
        go_wp2
        go_ret
        exact ⟨by rw [orI, if_neg e.out]; rfl, rfl⟩
      · have hx' : (x != 0) = false := by simpa using hx
        have e := Lib.hid (show x = 0 from by simpa using hx)
        clear hx
        go_wp2
        go_roundg 1
        case measure => omega
        case rel => exact ⟨rfl, .inr (.inl ⟨rfl, rfl, e.out⟩)⟩
    · have EX := Lib.hid hx
      clear hx
      by_cases hy : (y != 0) = true
      · go_wp2
        go_ret
        exact ⟨by rw [orI, if_pos EX.out]; rfl, rfl⟩
      · have hy' : (y != 0) = false := by simpa using hy
        have e := Lib.hid (show y = 0 from by simpa using hy)
        clear hy
        go_wp2
        go_roundg 0
        case measure => omega
        case rel => exact ⟨rfl, .inr (.inr ⟨rfl, rfl, EX.out, e.out⟩)⟩
    · have EX := Lib.hid (And.intro hx hy)
      clear hx hy
      go_wp2
      go_ret
      exact ⟨by rw [orI, if_pos EX.out.1, EX.out.2]; rfl, rfl⟩
end Go.Proofs.Ytojgiaemgpnfdaa.K
