/- append(xs[:n:n], ys...) with ys empty too; Sess.Feed. -/
import Derived.Test.YtojgiaemgpnfdaaS2
set_option linter.unusedVariables false
set_option linter.unusedSimpArgs false
namespace Go.Proofs.YtojgiaemgpnfdaaX
open Go.RowKit Go.Proofs.YtojgiaemgpnfdaaM Go.Proofs.YtojgiaemgpnfdaaW.PrintWords
theorem run_append_zero {P : Program} {w : World} (t ty e : TypeId) (i : TypeInfo) (ht : P.underlying t = some (.slice e)) (hi : P.info? e = some i)
    (A B : Option Addr) (n cap c : Nat) (hn : n ≤ cap) (hA : A = none → cap = 0) (hB : B = none → c = 0) :
    (Builtin.append_ #[t, t] ty #[.slice A n cap, .slice B 0 c]).run P w = .ok (.slice A n cap) w := by
  cases A with
  | none =>
    obtain rfl := hA rfl
    obtain rfl : n = 0 := by omega
    cases B <;> simp [Builtin.append_, run_underlying ht, sizeOf, typeInfo, hi, Builtin.lenOf, Builtin.firstCells, loadCells, loadCellsFrom, storeCells]
  | some a =>
    cases B <;> simp [Builtin.append_, run_underlying ht, sizeOf, typeInfo, hi, Builtin.lenOf, Builtin.firstCells, hn, storeCells, loadCells, loadCellsFrom, storeCells]

theorem step_cx_any {α : Type} {w : World} {P : Program} {ops : Array Oper} {o : Oper} {a : Act} {K : Act → World → Prop} {Q : Exit → Act → World → Prop} {E : Prop}
    (hgd : o.guard = none) (s x : Operand) (t : TypeId) (hop : o.op = Op.call { callee := Callee.builtin Builtin.append, args := #[s, x], argTypes := #[t, t] })
    (d : Kd α) (hf : FlatK d) (e : TypeId) (z : Value) (bytes : Nat) (h1 : P.underlying t = some (.slice e)) (hinfo : (P.info? e).map (fun i => (i.zero, i.size, i.bytes)) = some (some z, d.sz, bytes)) (h6 : z.cells.size = d.sz) (h7 : 0 < d.sz)
    (g : Nat) (A : Option Addr) (xs : List α) (cap : Nat) (hs : a.eval s = .slice A xs.length cap) (hcap : cap = xs.length) (hcx : CX d e w g A xs) (hg : g < w.heap.size)
    (ys : List α) (A2 : Option Addr) (c : Nat) (hx : a.eval x = .slice A2 ys.length c) (hcy : CX d e w g A2 ys) (hA2 : A2 = none → c = 0)
    (b1 : xs.length + ys.length ≤ maxLen) (b2 : (xs.length + ys.length) * bytes ≤ 140737488355328)
    (hK : ∀ A' c' w', xs.length + ys.length ≤ c' → CX d e w' g A' (xs ++ ys) → w.grownBy w' none → K (a.put o.dst (.slice A' (xs.length + ys.length) c')) w') :
    if Region.wanted o (yielded ops a.tmps) = true then Oper.wp P o a w K Q else E := by
  cases ys with
  | cons y ys => exact step_cx hgd s x t hop d hf e z bytes h1 hinfo h6 h7 g A xs cap hs hcap hcx hg (y :: ys) (by simp) A2 c hx hcy b1 b2 hK
  | nil =>
    have hw : Region.wanted o (yielded ops a.tmps) = true := by simp [Region.wanted, hgd]
    rw [if_pos hw]
    obtain ⟨i0, hi, _⟩ := Option.map_eq_some_iff.1 hinfo
    subst hcap
    have hrun := run_append_zero (P := P) (w := w) t o.type e i0 h1 hi A A2 xs.length xs.length c (Nat.le_refl _) (fun hA => by
      cases xs with
      | nil => rfl
      | cons u l => obtain ⟨ad, e', _⟩ := hcx.1.2.2 (by simp); rw [hA] at e'; cases e') hA2
    have hK' := hK A xs.length w (by simp) (by simpa using hcx) (World.grownBy.refl w none)
    unfold Oper.wp
    simp [execOp, hop, resolve, invoke, builtin, hs, hx, hrun, Result.andThen]
    have h2 : K (a.put o.dst (.slice A xs.length xs.length)) w := by simpa using hK'
    exact h2
end Go.Proofs.YtojgiaemgpnfdaaX
namespace Go.Proofs.Ytojgiaemgpnfdaa.S
open Go.Proofs.YtojgiaemgpnfdaaW.PrintLast Go.RowKit Go.Proofs.YtojgiaemgpnfdaaM Go.Proofs.YtojgiaemgpnfdaaX Go.Proofs.YtojgiaemgpnfdaaW.PrintWords Go.Proofs.Ytojgiaemgpnfdaa.PJudgeSession

theorem R_cx {α : Type} {d : Kd α} (hf : FlatK d) {e : Nat} {w : World} {base g : Nat} {ok : Nat → Prop} {v : Value} {xs : List α} (h : d.R e w base ok v xs) (hg : g < base) : ∃ A c, v = .slice A xs.length c ∧ xs.length ≤ c ∧ CX d e w g A xs ∧ (A = none → c = 0) := by
  obtain ⟨A, c, rfl, hl, hC⟩ := Kd.R_reads h
  obtain ⟨inner, ho⟩ := Kd.R_own h
  refine ⟨A, c, rfl, hl, ⟨hC, ?_⟩, ?_⟩
  · rintro ad rfl hn
    obtain ⟨g', cap, cells, fr, he, hb, hbl⟩ := own_typed ho hn
    injection he with h1 _ _
    injection h1 with h1
    subst h1
    exact ⟨by simp only; omega, cells, fr, hbl⟩
  · rintro rfl
    rcases ho.2 with ⟨h1, _⟩ | ⟨g', cap, cur, h1, _⟩
    · injection h1
    · injection h1 with h1; cases h1

def bareW (w : World) : World := { w with heap := #[] }
theorem bare_below {w W : World} (k : Keep (fun _ => False) w W) : Below (bareW w).heap.size (bareW w) W := ⟨k.os, k.tape, k.output, by simp [bareW], fun i hi => by simp [bareW] at hi⟩
theorem keep_of {w W : World} {g : Nat} (hb : Below (bareW w).heap.size (bareW w) W) (hk : KeepBut w W g none) : Keep (fun i => i = g) w W := ⟨hb.os, hb.tape, hb.output, hk.1, fun i hi hne => hk.2 i hi hne (by simp)⟩
def restOf (s : SS) (A : Option Addr) (c : Nat) (A' : Option Addr) (c' : Nat) : Rest := ⟨.slice A s.ahead.length c, .int .i64 s.st, .bool s.alone, .string s.text, .slice A' s.told.length c'⟩

theorem rc2 (s : SS) (A : Option Addr) (c : Nat) (A' : Option Addr) (c' : Nat) (b : ByteArray) (bad : Bool) : (restCells (restOf s A c A' c') b bad)[2]? = some (.slice A s.ahead.length c) := rfl

set_option maxHeartbeats 1600000 in
set_option maxRecDepth 100000 in
theorem sfeed_calls (w : World) (g : Nat) (s : SS) (tx : ByteArray) (k : Nat) (r1 : List S62) (r2 : ByteArray) (h : IsSess w g s) (hst : s.st ≠ 7) (hah : s.ahead.length < 4) (hbad : s.bad = false)
    (hf : stopcockref09_Reader_Feed.f k s.b false tx = some (r1, r2, false)) (hr : r1.length ≤ 1000) :
    Calls Try.prog 12 #[.pointer (some ⟨g, 0, none⟩), .string tx] w fun e w' => e = .returned (.int .i64 0) ∧ IsSess w' g { s with b := r2, ahead := s.ahead ++ r1 } ∧ Keep (fun i => i = g) w w' := by
  obtain ⟨A, c, A', c', hg, h1, h2, h3, h4⟩ := h
  have hgl := blk_lt hg
  have c3 := (blk_cell' hg 3).trans (show _ = some (.int .i64 s.st) from rfl)
  have c2 := (blk_cell' hg 2).trans (show _ = some (.slice A s.ahead.length c) from rfl)
  have c1 := (blk_cell' hg 1).trans (show _ = some (.bool false) from by rw [← hbad]; rfl)
  have e7 : (s.st == 7) = false := by simpa using hst
  have e4 : decide ((4 : Int) ≤ s.ahead.length) = false := by simp; omega
  have HE := Lib.hid (show IsE (restOf s A c A' c') (bareW w) w g s.b false from ⟨by rw [← hbad]; exact hg, by simp [bareW]⟩)
  have HB0 := Lib.hid (bare_below (keep_drew (Keep.refl (fun _ => False) w)))
  have HF := Lib.hid hf
  have HX := Lib.hid h3
  have HY := Lib.hid h4
  have HN := Lib.hid hah
  have HR := Lib.hid hr
  have C2 := Lib.hid c2
  have HT := Lib.hid hbad
  clear hst hf h3 h4 hg hah hr hbad
  go_enter Try.func12, Try.ntmps12
  go_wp2
  clear c2
  refine start_ (n := 25) (S := fun w' => w'.cell? ⟨g, 2, none⟩ = some (.slice A s.ahead.length c)) (ds := [24]) #[false, false, false, false, false, false, false, false, false, false, false, false, false, false, false, false, false, false, false, false, false, false, false, false, false] (by kernel_rfl) rfl rfl (C2.out) (fun hHeld => ?_)
  refine pure_ (i := 0) (N := some 22) (v := ?_) (a' := ?_) #[true, false, false, false, false, false, false, false, false, false, false, false, false, false, false, false, false, false, false, false, false, false, false, false, false] rfl rfl (by kernel_rfl) (fun _ _ _ h => h) (Or.inl ⟨by rfl, ?_⟩) ?_ ?_
  rotate_left
  · intro w'
    go_simp
    with_reducible rfl
  rotate_left
  · simp only [Act.put, List.setIfInBounds_toArray, List.set_cons_zero, List.set_cons_succ, i64_w, i32_w]
    rfl
  refine pure_ (i := 1) (N := some 23) (v := ?_) (a' := ?_) #[true, true, false, false, false, false, false, false, false, false, false, false, false, false, false, false, false, false, false, false, false, false, false, false, false] rfl rfl (by kernel_rfl) (fun _ _ _ h => h) (Or.inl ⟨by rfl, ?_⟩) ?_ ?_
  rotate_left
  · intro w'
    go_simp
    with_reducible rfl
  rotate_left
  · simp only [Act.put, List.setIfInBounds_toArray, List.set_cons_zero, List.set_cons_succ, i64_w, i32_w]
    rfl
  refine pure_ (i := 2) (N := some 24) (v := ?_) (a' := ?_) #[true, true, true, false, false, false, false, false, false, false, false, false, false, false, false, false, false, false, false, false, false, false, false, false, false] rfl rfl (by kernel_rfl) (fun _ _ _ h => h) (Or.inl ⟨by rfl, ?_⟩) ?_ ?_
  rotate_left
  · intro w'
    go_simp
    with_reducible rfl
  rotate_left
  · simp only [Act.put, List.setIfInBounds_toArray, List.set_cons_zero, List.set_cons_succ, i64_w, i32_w]
    rfl
  refine pure_ (i := 3) (N := some 25) (v := ?_) (a' := ?_) #[true, true, true, true, false, false, false, false, false, false, false, false, false, false, false, false, false, false, false, false, false, false, false, false, false] rfl rfl (by kernel_rfl) (fun _ _ _ h => h) (Or.inl ⟨by rfl, ?_⟩) ?_ ?_
  rotate_left
  · intro w'
    go_simp
    with_reducible rfl
  rotate_left
  · simp only [Act.put, List.setIfInBounds_toArray, List.set_cons_zero, List.set_cons_succ, i64_w, i32_w]
    rfl
  refine pure_ (i := 5) (N := some 27) (v := ?_) (a' := ?_) #[true, true, true, true, false, true, false, false, false, false, false, false, false, false, false, false, false, false, false, false, false, false, false, false, false] rfl rfl (by kernel_rfl) (fun _ _ _ h => h) (Or.inl ⟨by rfl, ?_⟩) ?_ ?_
  rotate_left
  · intro w'
    go_simp
    with_reducible rfl
  rotate_left
  · simp only [Act.put, List.setIfInBounds_toArray, List.set_cons_zero, List.set_cons_succ, i64_w, i32_w]
    rfl
  refine pure_ (i := 6) (N := some 28) (v := ?_) (a' := ?_) #[true, true, true, true, false, true, true, false, false, false, false, false, false, false, false, false, false, false, false, false, false, false, false, false, false] rfl rfl (by kernel_rfl) (fun _ _ _ h => h) (Or.inl ⟨by rfl, ?_⟩) ?_ ?_
  rotate_left
  · intro w'
    go_simp
    with_reducible rfl
  rotate_left
  · simp only [Act.put, List.setIfInBounds_toArray, List.set_cons_zero, List.set_cons_succ, i64_w, i32_w]
    rfl
  refine pure_ (i := 7) (N := some 29) (v := ?_) (a' := ?_) #[true, true, true, true, false, true, true, true, false, false, false, false, false, false, false, false, false, false, false, false, false, false, false, false, false] rfl rfl (by kernel_rfl) (fun _ _ _ h => h) (Or.inl ⟨by rfl, ?_⟩) ?_ ?_
  rotate_left
  · intro w'
    go_simp
    with_reducible rfl
  rotate_left
  · simp only [Act.put, List.setIfInBounds_toArray, List.set_cons_zero, List.set_cons_succ, i64_w, i32_w]
    rfl
  refine pure_ (i := 10) (N := some 32) (v := ?_) (a' := ?_) #[true, true, true, true, false, true, true, true, false, false, true, false, false, false, false, false, false, false, false, false, false, false, false, false, false] rfl rfl (by kernel_rfl) (fun _ _ _ h => h) (Or.inl ⟨by rfl, ?_⟩) ?_ ?_
  rotate_left
  · intro w'
    go_simp
    with_reducible rfl
  rotate_left
  · simp only [Act.put, List.setIfInBounds_toArray, List.set_cons_zero, List.set_cons_succ, i64_w, i32_w]
    rfl
  refine pure_ (i := 11) (N := some 33) (v := ?_) (a' := ?_) #[true, true, true, true, false, true, true, true, false, false, true, true, false, false, false, false, false, false, false, false, false, false, false, false, false] rfl rfl (by kernel_rfl) (fun _ _ _ h => h) (Or.inl ⟨by rfl, ?_⟩) ?_ ?_
  rotate_left
  · intro w'
    go_simp
    with_reducible rfl
  rotate_left
  · simp only [Act.put, List.setIfInBounds_toArray, List.set_cons_zero, List.set_cons_succ, i64_w, i32_w]
    rfl
  refine pure_ (i := 12) (N := some 34) (v := ?_) (a' := ?_) #[true, true, true, true, false, true, true, true, false, false, true, true, true, false, false, false, false, false, false, false, false, false, false, false, false] rfl rfl (by kernel_rfl) (fun _ _ _ h => h) (Or.inl ⟨by rfl, ?_⟩) ?_ ?_
  rotate_left
  · intro w'
    go_simp
    with_reducible rfl
  rotate_left
  · simp only [Act.put, List.setIfInBounds_toArray, List.set_cons_zero, List.set_cons_succ, i64_w, i32_w]
    rfl
  refine pure_ (i := 16) (N := some 38) (v := ?_) (a' := ?_) #[true, true, true, true, false, true, true, true, false, false, true, true, true, false, false, false, true, false, false, false, false, false, false, false, false] rfl rfl (by kernel_rfl) (fun _ _ _ h => h) (Or.inl ⟨by rfl, ?_⟩) ?_ ?_
  rotate_left
  · intro w'
    go_simp
    with_reducible rfl
  rotate_left
  · simp only [Act.put, List.setIfInBounds_toArray, List.set_cons_zero, List.set_cons_succ, i64_w, i32_w]
    rfl
  refine pure_ (i := 17) (N := some 39) (v := ?_) (a' := ?_) #[true, true, true, true, false, true, true, true, false, false, true, true, true, false, false, false, true, true, false, false, false, false, false, false, false] rfl rfl (by kernel_rfl) (fun _ _ _ h => h) (Or.inl ⟨by rfl, ?_⟩) ?_ ?_
  rotate_left
  · intro w'
    go_simp
    with_reducible rfl
  rotate_left
  · simp only [Act.put, List.setIfInBounds_toArray, List.set_cons_zero, List.set_cons_succ, i64_w, i32_w]
    rfl
  refine pure_ (i := 18) (N := some 40) (v := ?_) (a' := ?_) #[true, true, true, true, false, true, true, true, false, false, true, true, true, false, false, false, true, true, true, false, false, false, false, false, false] rfl rfl (by kernel_rfl) (fun _ _ _ h => h) (Or.inl ⟨by rfl, ?_⟩) ?_ ?_
  rotate_left
  · intro w'
    go_simp
    with_reducible rfl
  rotate_left
  · simp only [Act.put, List.setIfInBounds_toArray, List.set_cons_zero, List.set_cons_succ, i64_w, i32_w]
    rfl
  refine pure_ (i := 19) (N := some 41) (v := ?_) (a' := ?_) #[true, true, true, true, false, true, true, true, false, false, true, true, true, false, false, false, true, true, true, true, false, false, false, false, false] rfl rfl (by kernel_rfl) (fun _ _ _ h => h) (Or.inl ⟨by rfl, ?_⟩) ?_ ?_
  rotate_left
  · intro w'
    go_simp
    with_reducible rfl
  rotate_left
  · simp only [Act.put, List.setIfInBounds_toArray, List.set_cons_zero, List.set_cons_succ, i64_w, i32_w]
    rfl
  refine take_ (i := 4) (N := some 26) (v := ?_) (a' := ?_) #[true, true, true, true, true, true, true, true, false, false, true, true, true, false, false, false, true, true, true, true, false, false, false, false, false] rfl rfl (by kernel_rfl) (fun _ _ _ h => h) (Or.inl ⟨by rfl, ?_⟩) hHeld ?_ ?_
  rotate_left
  · intro w' s0
    go_simp
    with_reducible rfl
  rotate_left
  · simp only [Act.put, List.setIfInBounds_toArray, List.set_cons_zero, List.set_cons_succ, i64_w, i32_w]
    rfl
  refine take_ (i := 8) (N := some 30) (v := ?_) (a' := ?_) #[true, true, true, true, true, true, true, true, true, false, true, true, true, false, false, false, true, true, true, true, false, false, false, false, false] rfl rfl (by kernel_rfl) (fun _ _ _ h => h) (Or.inl ⟨by rfl, ?_⟩) hHeld ?_ ?_
  rotate_left
  · intro w' s0
    go_simp
    with_reducible rfl
  rotate_left
  · simp only [Act.put, List.setIfInBounds_toArray, List.set_cons_zero, List.set_cons_succ, i64_w, i32_w]
    rfl
  refine pure_ (i := 9) (N := some 31) (v := ?_) (a' := ?_) #[true, true, true, true, true, true, true, true, true, true, true, true, true, false, false, false, true, true, true, true, false, false, false, false, false] rfl rfl (by kernel_rfl) (fun _ _ _ h => h) (Or.inl ⟨by rfl, ?_⟩) ?_ ?_
  rotate_left
  · intro w'
    go_simp
    with_reducible rfl
  rotate_left
  · simp only [Act.put, List.setIfInBounds_toArray, List.set_cons_zero, List.set_cons_succ, i64_w, i32_w]
    rfl
  refine take_ (i := 13) (N := some 35) (v := ?_) (a' := ?_) #[true, true, true, true, true, true, true, true, true, true, true, true, true, true, false, false, true, true, true, true, false, false, false, false, false] rfl rfl (by kernel_rfl) (fun _ _ _ h => h) (Or.inl ⟨by rfl, ?_⟩) hHeld ?_ ?_
  rotate_left
  · intro w' s0
    go_simp
    with_reducible rfl
  rotate_left
  · simp only [Act.put, List.setIfInBounds_toArray, List.set_cons_zero, List.set_cons_succ, i64_w, i32_w]
    rfl
  refine pure_ (i := 14) (N := some 36) (v := ?_) (a' := ?_) #[true, true, true, true, true, true, true, true, true, true, true, true, true, true, true, false, true, true, true, true, false, false, false, false, false] rfl rfl (by kernel_rfl) (fun _ _ _ h => h) (Or.inl ⟨by rfl, ?_⟩) ?_ ?_
  rotate_left
  · intro w'
    go_simp
    with_reducible rfl
  rotate_left
  · simp only [Act.put, List.setIfInBounds_toArray, List.set_cons_zero, List.set_cons_succ, i64_w, i32_w]
    rfl
  refine pure_ (i := 15) (N := some 37) (v := ?_) (a' := ?_) #[true, true, true, true, true, true, true, true, true, true, true, true, true, true, true, true, true, true, true, true, false, false, false, false, false] rfl rfl (by kernel_rfl) (fun _ _ _ h => h) (Or.inl ⟨by rfl, ?_⟩) ?_ ?_
  rotate_left
  · intro w'
    go_simp
    with_reducible rfl
  rotate_left
  · simp only [Act.put, List.setIfInBounds_toArray, List.set_cons_zero, List.set_cons_succ, i64_w, i32_w]
    rfl
  refine one_ (i := 20) (N := some 42) #[true, true, true, true, true, true, true, true, true, true, true, true, true, true, true, true, true, true, true, true, true, false, false, false, false] rfl rfl (by kernel_rfl) (by decide) (fun K hK => ?_)
  refine goes_ Try.func24 (by kernel_rfl) rfl #[.pointer (some ⟨g, 0, none⟩), .string tx] (by rfl) rfl rfl (by simp only [List.map_toArray, List.map_cons, List.map_nil]; rfl) ?_
  with_reducible refine (Feed_calls (restOf s A c A' c') k g s.b false tx r1 r2 false (bareW w) _ (IsE.drew HE.out) HB0.out HF.out).mono ?_
  rintro e w3 ⟨v0, rfl, hR, hE, hB3, hKB⟩
  refine ⟨_, rfl, ?_⟩
  obtain ⟨A3, c3', rfl, hl3, hX3, hA3⟩ := R_cx flat62 hR (show g < w.drew.heap.size from hgl)
  have HK3 := Lib.hid (keep_of (w := w) hB3 (show KeepBut w _ g none from hKB))
  have HE3 := Lib.hid hE
  have HX3 := Lib.hid hX3
  have HA3 := Lib.hid hA3
  clear hR hB3 hKB hE hX3 hA3
  refine hK.out _ _ ((blk_cell' HE3.out.1 2).trans (rc2 s A c A' c' _ _)) (fun hHeld => ?_)
  clear hK K
  refine norm_ (a' := ?_) ?_ ?_
  rotate_left
  · show Act.put _ (some 42) _ = _
    simp only [Act.put, List.setIfInBounds_toArray, List.set_cons_zero, List.set_cons_succ, i64_w, i32_w]
    rfl
  refine one_ (i := 21) (N := some 43) #[true, true, true, true, true, true, true, true, true, true, true, true, true, true, true, true, true, true, true, true, true, true, false, false, false] rfl rfl (by kernel_rfl) (by decide) (fun K hK => ?_)
  refine step_cx_any rfl (.tmp 37) (.tmp 42) 30 rfl k62 flat62 62 (.agg #[.int .u8 0, .string ⟨#[]⟩]) 24 Try.underlying30 info62 rfl (by decide) g A s.ahead s.ahead.length rfl rfl (HX.out.keep flat62 HK3.out) HE3.out.lt r1 A3 c3' rfl HX3.out HA3.out (by have := HN.out; have := HR.out; unfold maxLen; simp; omega) (by have := HN.out; have := HR.out; simp; omega) ?_
  intro A2 c2 w2 hc2 hcx2 hgr2
  have HK4 := Lib.hid (HK3.out.grown hgr2 (fun j e => by cases e))
  have HX4 := Lib.hid hcx2
  have HL4 := Lib.hid hc2
  have HB4 := Lib.hid ((hgr2.block g HE3.out.lt (by simp)).trans HE3.out.1)
  clear hcx2 hc2
  refine hK.out _ _ (hgr2.cell ((blk_cell' HE3.out.1 2).trans (rc2 s A c A' c' _ _)) (by simp)) (fun hHeld => ?_)
  clear hK K
  refine norm_ (a' := ?_) ?_ ?_
  rotate_left
  · show Act.put _ (some 43) _ = _
    simp only [Act.put, List.setIfInBounds_toArray, List.set_cons_zero, List.set_cons_succ, i64_w, i32_w]
    rfl
  refine pure_ (i := 22) (N := some 44) (v := ?_) (a' := ?_) #[true, true, true, true, true, true, true, true, true, true, true, true, true, true, true, true, true, true, true, true, true, true, true, false, false] rfl rfl (by kernel_rfl) (fun _ _ _ h => h) (Or.inl ⟨by rfl, ?_⟩) ?_ ?_
  rotate_left
  · intro w'
    go_simp
    with_reducible rfl
  rotate_left
  · simp only [Act.put, List.setIfInBounds_toArray, List.set_cons_zero, List.set_cons_succ, i64_w, i32_w]
    rfl
  refine pure_ (i := 23) (N := some 45) (v := ?_) (a' := ?_) #[true, true, true, true, true, true, true, true, true, true, true, true, true, true, true, true, true, true, true, true, true, true, true, true, false] rfl rfl (by kernel_rfl) (fun _ _ _ h => h) (Or.inl ⟨by rfl, ?_⟩) ?_ ?_
  rotate_left
  · intro w'
    go_simp
    with_reducible rfl
  rotate_left
  · simp only [Act.put, List.setIfInBounds_toArray, List.set_cons_zero, List.set_cons_succ, i64_w, i32_w]
    rfl
  refine last_ (i := 24) (N := none) #[true, true, true, true, true, true, true, true, true, true, true, true, true, true, true, true, true, true, true, true, true, true, true, true, true] rfl rfl (by kernel_rfl) (by decide) (fun K hK => ?_)
  have q2 := (blk_cell' HB4.out 2).trans (rc2 s A c A' c' _ _)
  have f2 := blk_frozen' HB4.out 2
  refine skip_ (w1 := ?_) (by rfl) rfl ?_ ?_
  rotate_left
  · go_simp
    rfl
  refine hK.out _ _ ?_
  clear hK K
  refine done_ (by kernel_rfl) ?_
  have HS4 := Lib.hid (show IsSess w2 g { s with b := r2 } from ⟨A, c, A', c', HB4.out.trans (by rw [← HT.out]; rfl), h1, h2, HX.out.keep flat62 HK4.out, HY.out.keep flat44 HK4.out⟩)
  have HS5 := Lib.hid (HS4.out.setahead (s.ahead ++ r1) A2 c2 (s.ahead.length + r1.length) (by simp) (by simpa using HL4.out) HX4.out)
  have z1 := HS5.out.c1
  rw [show ({ s with b := r2, ahead := s.ahead ++ r1 } : SS).bad = s.bad from rfl, HT.out] at z1
  clear hHeld q2 f2 hgr2
  go_wp2
  go_ret
  exact ⟨rfl, by simpa using HS5.out, keep_set HK4.out _ _⟩
end Go.Proofs.Ytojgiaemgpnfdaa.S
