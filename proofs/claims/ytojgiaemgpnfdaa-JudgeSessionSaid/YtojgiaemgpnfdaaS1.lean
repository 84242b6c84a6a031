/- The small functions of the document's session. -/
import Derived.Test.YtojgiaemgpnfdaaS0
set_option linter.unusedVariables false
set_option linter.unusedSimpArgs false
namespace Go.Proofs.Ytojgiaemgpnfdaa.S
open Go.RowKit Go.Proofs.YtojgiaemgpnfdaaM Go.Proofs.YtojgiaemgpnfdaaX Go.Proofs.YtojgiaemgpnfdaaW.PrintWords Go.Proofs.Ytojgiaemgpnfdaa.PJudgeSession

def tellS (s : SS) (r : S44) : SS := { s with told := s.told ++ [r] }
def rep (k : Int) : S44 := ⟨k, 0, ⟨#[]⟩⟩
def endS (s : SS) : SS := { s with st := 7, ahead := [], text := ⟨#[]⟩ }
def freeS (s : SS) (f : S62) : Int × SS :=
  if f.f0 = 66 ∨ f.f0 = 81 then (1, { s with st := 1, alone := f.f0 == 81, text := f.f1 })
  else if f.f0 = 69 then (0, tellS s (rep 7)) else (0, endS (tellS s (rep 8)))
def boundS (s : SS) (f : S62) : Int × SS :=
  if f.f0 = 66 then (0, tellS s (rep 7))
  else if f.f0 = 81 then (2, { s with st := 4, alone := false, text := f.f1 })
  else if f.f0 = 69 then (3, { tellS s (rep 3) with st := 0 }) else (3, endS (tellS s (rep 8)))
def deadS (s : SS) (f : S62) : Int × SS :=
  if f.f0 = 0 then (0, endS (tellS s (rep 8))) else (0, { tellS s (rep 6) with st := 0 })

def gotS (s : SS) : Int × SS := if s.st ≠ 1 then (3, s) else if s.alone then (0, { s with st := 3 }) else (0, tellS { s with st := 2 } (rep 1))
def turnS (s : SS) : Int × SS := if s.st ≠ 1 then (3, s) else (0, tellS { s with st := 0 } (rep 4))
def lostS (s : SS) : Int × SS := if s.st = 2 then (0, { s with st := 6 }) else if s.st = 3 ∨ s.st = 4 then (0, { tellS s (rep 6) with st := 0 }) else if s.st = 5 then (0, { s with st := 0 }) else (3, s)
def answerS (s : SS) (t : ByteArray) : Int × SS := if s.st ≠ 4 then (3, s) else (0, { tellS s ⟨2, 0, t⟩ with st := if s.alone then 5 else 2 })

section
variable {w W : World} {g : Nat} {s : SS}
theorem IsSess.kept (h : IsSess w g s) {S : Nat → Prop} (k : Keep S w W) (hS : ¬ S g) (hS2 : ∀ i, S i → w.heap.size ≤ i) : IsSess W g s := by
  obtain ⟨A, c, A', c', hg, h1, h2, h3, h4⟩ := h
  have k2 : Keep (fun i => i = g) w W := ⟨k.os, k.tape, k.output, k.size, fun i hi hne => k.block i hi fun hs => by have := hS2 i hs; omega⟩
  exact ⟨A, c, A', c', (k.block g (blk_lt hg) hS).trans hg, h1, h2, h3.keep flat62 k2, h4.keep flat44 k2⟩
theorem IsSess.alloc (h : IsSess w g s) (o : Obj) : IsSess (w.alloc o) g s := h.kept (S := fun _ => False) ((Keep.refl _ _).alloc o) (fun h => h) (fun _ h => h.elim)
theorem IsSess.same (h : IsSess w g s) (hs : Same w W) : IsSess W g s := h.kept (S := fun _ => False) ((Keep.refl _ _).same hs) (fun h => h) (fun _ h => h.elim)
theorem IsSess.lt (h : IsSess w g s) : g < w.heap.size := by obtain ⟨A, c, A', c', hg, _⟩ := h; exact blk_lt hg
theorem IsSess.fz (h : IsSess w g s) (j : Nat) : w.frozen? ⟨g, j, none⟩ = false := by obtain ⟨A, c, A', c', hg, _⟩ := h; exact blk_frozen' hg j
theorem IsSess.c0 (h : IsSess w g s) : w.cell? ⟨g, 0, none⟩ = some (.string s.b) := by obtain ⟨A, c, A', c', hg, _⟩ := h; exact (blk_cell' hg 0).trans rfl
theorem IsSess.c1 (h : IsSess w g s) : w.cell? ⟨g, 1, none⟩ = some (.bool s.bad) := by obtain ⟨A, c, A', c', hg, _⟩ := h; exact (blk_cell' hg 1).trans rfl
theorem IsSess.c2 (h : IsSess w g s) : ∃ A c, w.cell? ⟨g, 2, none⟩ = some (.slice A s.ahead.length c) ∧ s.ahead.length ≤ c ∧ CX k62 62 w g A s.ahead := by obtain ⟨A, c, A', c', hg, h1, h2, h3, h4⟩ := h; exact ⟨A, c, (blk_cell' hg 2).trans rfl, h1, h3⟩
theorem IsSess.c3 (h : IsSess w g s) : w.cell? ⟨g, 3, none⟩ = some (.int .i64 s.st) := by obtain ⟨A, c, A', c', hg, _⟩ := h; exact (blk_cell' hg 3).trans rfl
theorem IsSess.c4 (h : IsSess w g s) : w.cell? ⟨g, 4, none⟩ = some (.bool s.alone) := by obtain ⟨A, c, A', c', hg, _⟩ := h; exact (blk_cell' hg 4).trans rfl
theorem IsSess.c5 (h : IsSess w g s) : w.cell? ⟨g, 5, none⟩ = some (.string s.text) := by obtain ⟨A, c, A', c', hg, _⟩ := h; exact (blk_cell' hg 5).trans rfl
theorem IsSess.c6 (h : IsSess w g s) : ∃ A c, w.cell? ⟨g, 6, none⟩ = some (.slice A s.told.length c) ∧ s.told.length ≤ c ∧ CX k44 44 w g A s.told := by obtain ⟨A, c, A', c', hg, h1, h2, h3, h4⟩ := h; exact ⟨A', c', (blk_cell' hg 6).trans rfl, h2, h4⟩
theorem IsSess.setb (h : IsSess w g s) (x : ByteArray) : IsSess (w.setCell ⟨g, 0, none⟩ (.string x)) g { s with b := x } := by
  obtain ⟨A, c, A', c', hg, h1, h2, h3, h4⟩ := h
  exact ⟨A, c, A', c', heap_set hg 0 _, h1, h2, h3.keep flat62 (keep_set (Keep.refl _ _) _ _), h4.keep flat44 (keep_set (Keep.refl _ _) _ _)⟩
theorem IsSess.setbad (h : IsSess w g s) (x : Bool) : IsSess (w.setCell ⟨g, 1, none⟩ (.bool x)) g { s with bad := x } := by
  obtain ⟨A, c, A', c', hg, h1, h2, h3, h4⟩ := h
  exact ⟨A, c, A', c', heap_set hg 1 _, h1, h2, h3.keep flat62 (keep_set (Keep.refl _ _) _ _), h4.keep flat44 (keep_set (Keep.refl _ _) _ _)⟩
theorem IsSess.setst (h : IsSess w g s) (x : Int) : IsSess (w.setCell ⟨g, 3, none⟩ (.int .i64 x)) g { s with st := x } := by
  obtain ⟨A, c, A', c', hg, h1, h2, h3, h4⟩ := h
  exact ⟨A, c, A', c', heap_set hg 3 _, h1, h2, h3.keep flat62 (keep_set (Keep.refl _ _) _ _), h4.keep flat44 (keep_set (Keep.refl _ _) _ _)⟩
theorem IsSess.setalone (h : IsSess w g s) (x : Bool) : IsSess (w.setCell ⟨g, 4, none⟩ (.bool x)) g { s with alone := x } := by
  obtain ⟨A, c, A', c', hg, h1, h2, h3, h4⟩ := h
  exact ⟨A, c, A', c', heap_set hg 4 _, h1, h2, h3.keep flat62 (keep_set (Keep.refl _ _) _ _), h4.keep flat44 (keep_set (Keep.refl _ _) _ _)⟩
theorem IsSess.settext (h : IsSess w g s) (x : ByteArray) : IsSess (w.setCell ⟨g, 5, none⟩ (.string x)) g { s with text := x } := by
  obtain ⟨A, c, A', c', hg, h1, h2, h3, h4⟩ := h
  exact ⟨A, c, A', c', heap_set hg 5 _, h1, h2, h3.keep flat62 (keep_set (Keep.refl _ _) _ _), h4.keep flat44 (keep_set (Keep.refl _ _) _ _)⟩
theorem IsSess.setahead (h : IsSess w g s) (x : List S62) (A2 : Option Addr) (c2 n : Nat) (hn : n = x.length) (hc : x.length ≤ c2) (hx : CX k62 62 w g A2 x) : IsSess (w.setCell ⟨g, 2, none⟩ (.slice A2 n c2)) g { s with ahead := x } := by
  obtain ⟨A, c, A', c', hg, h1, h2, h3, h4⟩ := h
  exact ⟨A2, c2, A', c', (heap_set hg 2 _).trans (by rw [sc2 s A c A' c' x n hn]), hc, h2, hx.keep flat62 (keep_set (Keep.refl _ _) _ _), h4.keep flat44 (keep_set (Keep.refl _ _) _ _)⟩
theorem IsSess.settold (h : IsSess w g s) (x : List S44) (A2 : Option Addr) (c2 n : Nat) (hn : n = x.length) (hc : x.length ≤ c2) (hx : CX k44 44 w g A2 x) : IsSess (w.setCell ⟨g, 6, none⟩ (.slice A2 n c2)) g { s with told := x } := by
  obtain ⟨A, c, A', c', hg, h1, h2, h3, h4⟩ := h
  exact ⟨A, c, A2, c2, (heap_set hg 6 _).trans (by rw [sc6 s A c A' c' x n hn]), h1, hc, h3.keep flat62 (keep_set (Keep.refl _ _) _ _), hx.keep flat44 (keep_set (Keep.refl _ _) _ _)⟩
theorem keep_in {w W : World} {g : Nat} {o : Obj} (h : Keep (fun i => i = g) (w.alloc o) W) : Keep (fun i => i = g) w W := ((Keep.refl _ w).alloc o).trans h
end

set_option maxHeartbeats 1600000 in
set_option maxRecDepth 100000 in
theorem end_calls (w : World) (g : Nat) (s : SS) (h : IsSess w g s) :
    Calls Try.prog 38 #[.pointer (some ⟨g, 0, none⟩)] w fun e w' => e = .returned (.tuple #[]) ∧ IsSess w' g (endS s) ∧ Keep (fun i => i = g) w w' := by
  have H := Lib.hid h
  have c3 := h.c3
  obtain ⟨A, c, c2, _⟩ := h.c2
  have c5 := h.c5
  have f3 := h.fz 3
  have f2 := h.fz 2
  have f5 := h.fz 5
  clear h
  go_enter Try.func38, Try.ntmps38
  go_wp2
  go_end0
  refine ⟨rfl, ((H.out.setst 7).setahead [] none 0 0 rfl (Nat.le_refl _) (CX.nil _ _ _ _)).settext _, keep_set (keep_set (keep_set (Keep.refl _ _) _ _) _ _) _ _⟩

set_option maxHeartbeats 1600000 in
set_option maxRecDepth 100000 in
theorem free_calls (w : World) (g : Nat) (s : SS) (f : S62) (h : IsSess w g s) (hb : s.told.length ≤ 1000) :
    Calls Try.prog 26 #[.pointer (some ⟨g, 0, none⟩), .agg #[.int .u8 f.f0, .string f.f1]] w fun e w' => e = .returned (.int .i64 (freeS s f).1) ∧ IsSess w' g (freeS s f).2 ∧ Keep (fun i => i = g) w w' := by
  have h1 := h.alloc (.cells #[.int .u8 f.f0, .string f.f1] 62)
  have H := Lib.hid h1
  have b0 : (w.alloc (.cells #[.int .u8 f.f0, .string f.f1] 62)).cell? ⟨w.heap.size, 0, none⟩ = some (.int .u8 f.f0) := by simp [go_sem]
  have b1 : (w.alloc (.cells #[.int .u8 f.f0, .string f.f1] 62)).cell? ⟨w.heap.size, 1, none⟩ = some (.string f.f1) := by simp [go_sem]
  have c3 := h1.c3
  have c4 := h1.c4
  have c5 := h1.c5
  have f3 := h1.fz 3
  have f4 := h1.fz 4
  have f5 := h1.fz 5
  have hgl := h.lt
  have hne : w.heap.size ≠ g := by omega
  have hne' : g ≠ w.heap.size := by omega
  have K := Lib.hid ((Keep.refl (fun i => i = g) w).alloc (.cells #[.int .u8 f.f0, .string f.f1] 62))
  clear h1
  generalize hW : w.alloc (.cells #[.int .u8 f.f0, .string f.f1] 62) = W at *
  have HB := Lib.hid hb
  clear h hb
  by_cases h66 : (f.f0 == 66) = true
  · have e66 := Lib.hid (show f.f0 = 66 from by simpa using h66)
    have h81 : (f.f0 == 81) = false := by simp [e66.out]
    go_enter Try.func26, Try.ntmps26
    go_wp2
    go_ret
    refine ⟨by simp [freeS, e66.out], ?_, keep_set (keep_set (keep_set (K.out) _ _) _ _) _ _⟩
    simpa [freeS, e66.out] using ((H.out.setst 1).setalone false).settext f.f1
  by_cases h81 : (f.f0 == 81) = true
  · have e81 := Lib.hid (show f.f0 = 81 from by simpa using h81)
    have h66 : (f.f0 == 66) = false := by simp [e81.out]
    go_enter Try.func26, Try.ntmps26
    go_wp2
    go_ret
    refine ⟨by simp [freeS, e81.out], ?_, keep_set (keep_set (keep_set (K.out) _ _) _ _) _ _⟩
    simpa [freeS, e81.out] using ((H.out.setst 1).setalone true).settext f.f1
  have h66 : (f.f0 == 66) = false := by simpa using h66
  have h81 : (f.f0 == 81) = false := by simpa using h81
  have e66 := Lib.hid (show ¬ f.f0 = 66 from by simpa using h66)
  have e81 := Lib.hid (show ¬ f.f0 = 81 from by simpa using h81)
  by_cases h69 : (f.f0 == 69) = true
  · have e69 := Lib.hid (show f.f0 = 69 from by simpa using h69)
    go_enter Try.func26, Try.ntmps26
    go_wp2_with fail
    refine (tell_calls _ g s (rep 7) H.out HB.out).mono ?_
    rintro e w2 ⟨rfl, h2, k2⟩
    go_wp2
    go_ret
    exact ⟨by simp [freeS, e66.out, e81.out, e69.out], by simpa [freeS, e66.out, e81.out, e69.out, tellS] using h2, K.out.trans k2⟩
  · have h69 : (f.f0 == 69) = false := by simpa using h69
    have e69 := Lib.hid (show ¬ f.f0 = 69 from by simpa using h69)
    go_enter Try.func26, Try.ntmps26
    go_wp2_with fail
    refine (tell_calls _ g s (rep 8) H.out HB.out).mono ?_
    rintro e w2 ⟨rfl, h2, k2⟩
    go_wp2_with fail
    refine (end_calls _ g _ h2).mono ?_
    rintro e w3 ⟨rfl, h3, k3⟩
    go_wp2
    go_ret
    exact ⟨by simp [freeS, e66.out, e81.out, e69.out], by simpa [freeS, e66.out, e81.out, e69.out, tellS] using h3, K.out.trans (k2.trans k3)⟩
set_option maxHeartbeats 1600000 in
set_option maxRecDepth 100000 in
theorem bound_calls (w : World) (g : Nat) (s : SS) (f : S62) (h : IsSess w g s) (hb : s.told.length ≤ 1000) :
    Calls Try.prog 27 #[.pointer (some ⟨g, 0, none⟩), .agg #[.int .u8 f.f0, .string f.f1]] w fun e w' => e = .returned (.int .i64 (boundS s f).1) ∧ IsSess w' g (boundS s f).2 ∧ Keep (fun i => i = g) w w' := by
  have h1 := h.alloc (.cells #[.int .u8 f.f0, .string f.f1] 62)
  have H := Lib.hid h1
  have b0 : (w.alloc (.cells #[.int .u8 f.f0, .string f.f1] 62)).cell? ⟨w.heap.size, 0, none⟩ = some (.int .u8 f.f0) := by simp [go_sem]
  have b1 : (w.alloc (.cells #[.int .u8 f.f0, .string f.f1] 62)).cell? ⟨w.heap.size, 1, none⟩ = some (.string f.f1) := by simp [go_sem]
  have c3 := h1.c3
  have c4 := h1.c4
  have c5 := h1.c5
  have f3 := h1.fz 3
  have f4 := h1.fz 4
  have f5 := h1.fz 5
  have hgl := h.lt
  have hne : w.heap.size ≠ g := by omega
  have hne' : g ≠ w.heap.size := by omega
  have K := Lib.hid ((Keep.refl (fun i => i = g) w).alloc (.cells #[.int .u8 f.f0, .string f.f1] 62))
  clear h1
  generalize hW : w.alloc (.cells #[.int .u8 f.f0, .string f.f1] 62) = W at *
  have HB := Lib.hid hb
  clear h hb
  by_cases h66 : (f.f0 == 66) = true
  · have e66 := Lib.hid (show f.f0 = 66 from by simpa using h66)
    go_enter Try.func27, Try.ntmps27
    go_wp2_with fail
    refine (tell_calls _ g _ (rep 7) H.out HB.out).mono ?_
    rintro e w2 ⟨rfl, h2, k2⟩
    go_wp2
    go_ret
    exact ⟨by simp [boundS, e66.out], by simpa [boundS, e66.out, tellS] using h2, K.out.trans k2⟩
  have h66 : (f.f0 == 66) = false := by simpa using h66
  have e66 := Lib.hid (show ¬ f.f0 = 66 from by simpa using h66)
  by_cases h81 : (f.f0 == 81) = true
  · have e81 := Lib.hid (show f.f0 = 81 from by simpa using h81)
    go_enter Try.func27, Try.ntmps27
    go_wp2
    go_ret
    refine ⟨by simp [boundS, e66.out, e81.out], ?_, keep_set (keep_set (keep_set K.out _ _) _ _) _ _⟩
    simpa [boundS, e66.out, e81.out] using ((H.out.setst 4).setalone false).settext f.f1
  have h81 : (f.f0 == 81) = false := by simpa using h81
  have e81 := Lib.hid (show ¬ f.f0 = 81 from by simpa using h81)
  by_cases h69 : (f.f0 == 69) = true
  · have e69 := Lib.hid (show f.f0 = 69 from by simpa using h69)
    go_enter Try.func27, Try.ntmps27
    go_wp2_with fail
    refine (tell_calls _ g _ (rep 3) H.out HB.out).mono ?_
    rintro e w2 ⟨rfl, h2, k2⟩
    have H2 := Lib.hid h2
    have z3 := h2.c3
    have y3 := h2.fz 3
    clear h2
    go_wp2
    go_ret
    exact ⟨by simp [boundS, e66.out, e81.out, e69.out], by simpa [boundS, e66.out, e81.out, e69.out, tellS] using H2.out.setst 0, keep_set (K.out.trans k2) _ _⟩
  have h69 : (f.f0 == 69) = false := by simpa using h69
  have e69 := Lib.hid (show ¬ f.f0 = 69 from by simpa using h69)
  go_enter Try.func27, Try.ntmps27
  go_wp2_with fail
  refine (tell_calls _ g _ (rep 8) H.out HB.out).mono ?_
  rintro e w2 ⟨rfl, h2, k2⟩
  go_wp2_with fail
  refine (end_calls _ g _ h2).mono ?_
  rintro e w3 ⟨rfl, h3, k3⟩
  go_wp2
  go_ret
  exact ⟨by simp [boundS, e66.out, e81.out, e69.out], by simpa [boundS, e66.out, e81.out, e69.out, tellS] using h3, K.out.trans (k2.trans k3)⟩

set_option maxHeartbeats 1600000 in
set_option maxRecDepth 100000 in
theorem dead_calls (w : World) (g : Nat) (s : SS) (f : S62) (h : IsSess w g s) (hb : s.told.length ≤ 1000) :
    Calls Try.prog 28 #[.pointer (some ⟨g, 0, none⟩), .agg #[.int .u8 f.f0, .string f.f1]] w fun e w' => e = .returned (.int .i64 (deadS s f).1) ∧ IsSess w' g (deadS s f).2 ∧ Keep (fun i => i = g) w w' := by
  have h1 := h.alloc (.cells #[.int .u8 f.f0, .string f.f1] 62)
  have H := Lib.hid h1
  have b0 : (w.alloc (.cells #[.int .u8 f.f0, .string f.f1] 62)).cell? ⟨w.heap.size, 0, none⟩ = some (.int .u8 f.f0) := by simp [go_sem]
  have b1 : (w.alloc (.cells #[.int .u8 f.f0, .string f.f1] 62)).cell? ⟨w.heap.size, 1, none⟩ = some (.string f.f1) := by simp [go_sem]
  have c3 := h1.c3
  have c4 := h1.c4
  have c5 := h1.c5
  have f3 := h1.fz 3
  have f4 := h1.fz 4
  have f5 := h1.fz 5
  have hgl := h.lt
  have hne : w.heap.size ≠ g := by omega
  have hne' : g ≠ w.heap.size := by omega
  have K := Lib.hid ((Keep.refl (fun i => i = g) w).alloc (.cells #[.int .u8 f.f0, .string f.f1] 62))
  clear h1
  generalize hW : w.alloc (.cells #[.int .u8 f.f0, .string f.f1] 62) = W at *
  have HB := Lib.hid hb
  clear h hb
  by_cases h0 : (f.f0 == 0) = true
  · have e0 := Lib.hid (show f.f0 = 0 from by simpa using h0)
    go_enter Try.func28, Try.ntmps28
    go_wp2_with fail
    refine (tell_calls _ g _ (rep 8) H.out HB.out).mono ?_
    rintro e w2 ⟨rfl, h2, k2⟩
    go_wp2_with fail
    refine (end_calls _ g _ h2).mono ?_
    rintro e w3 ⟨rfl, h3, k3⟩
    go_wp2
    go_ret
    exact ⟨by simp [deadS, e0.out], by simpa [deadS, e0.out, tellS] using h3, K.out.trans (k2.trans k3)⟩
  have h0 : (f.f0 == 0) = false := by simpa using h0
  have e0 := Lib.hid (show ¬ f.f0 = 0 from by simpa using h0)
  go_enter Try.func28, Try.ntmps28
  go_wp2_with fail
  refine (tell_calls _ g _ (rep 6) H.out HB.out).mono ?_
  rintro e w2 ⟨rfl, h2, k2⟩
  have H2 := Lib.hid h2
  have z3 := h2.c3
  have y3 := h2.fz 3
  clear h2
  go_wp2
  go_ret
  exact ⟨by simp [deadS, e0.out], by simpa [deadS, e0.out, tellS] using H2.out.setst 0, keep_set (K.out.trans k2) _ _⟩

set_option maxHeartbeats 1600000 in
set_option maxRecDepth 100000 in
theorem got_calls (w : World) (g : Nat) (s : SS) (h : IsSess w g s) (hb : s.told.length ≤ 1000) :
    Calls Try.prog 14 #[.pointer (some ⟨g, 0, none⟩)] w fun e w' => e = .returned (.int .i64 (gotS s).1) ∧ IsSess w' g (gotS s).2 ∧ Keep (fun i => i = g) w w' := by
  have H := Lib.hid h
  have c3 := h.c3
  have c4 := h.c4
  have f3 := h.fz 3
  have HB := Lib.hid hb
  clear h hb
  by_cases h1 : (s.st == 1) = true
  · have e1 := Lib.hid (show s.st = 1 from by simpa using h1)
    have h1' : (s.st != 1) = false := by simp [e1.out]
    cases ha : s.alone
    · rw [ha] at c4
      have HA := Lib.hid ha
      clear ha
      go_enter Try.func14, Try.ntmps14
      go_wp2_with fail
      refine (tell_calls _ g _ (rep 1) (H.out.setst 2) HB.out).mono ?_
      rintro e w2 ⟨rfl, h2, k2⟩
      go_wp2
      go_ret
      exact ⟨by simp [gotS, e1.out, HA.out], by simpa [gotS, e1.out, HA.out, tellS] using h2, (keep_set (Keep.refl _ _) _ _).trans k2⟩
    · rw [ha] at c4
      have HA := Lib.hid ha
      clear ha
      go_enter Try.func14, Try.ntmps14
      go_wp2
      go_ret
      exact ⟨by simp [gotS, e1.out, HA.out], by simpa [gotS, e1.out, HA.out] using H.out.setst 3, keep_set (Keep.refl _ _) _ _⟩
  · have h1' : (s.st != 1) = true := by simpa using h1
    have e1 := Lib.hid (show ¬ s.st = 1 from by simpa using h1)
    clear h1
    go_enter Try.func14, Try.ntmps14
    go_wp2
    go_ret
    exact ⟨by simp [gotS, e1.out], by simpa [gotS, e1.out] using H.out, Keep.refl _ _⟩

set_option maxHeartbeats 1600000 in
set_option maxRecDepth 100000 in
theorem turn_calls (w : World) (g : Nat) (s : SS) (h : IsSess w g s) (hb : s.told.length ≤ 1000) :
    Calls Try.prog 13 #[.pointer (some ⟨g, 0, none⟩), .agg #[.int .i64 4, .int .i64 0, .string ⟨#[]⟩]] w fun e w' => e = .returned (.int .i64 (turnS s).1) ∧ IsSess w' g (turnS s).2 ∧ Keep (fun i => i = g) w w' := by
  have K := Lib.hid ((Keep.refl (fun i => i = g) w).alloc (.cells #[.int .i64 4, .int .i64 0, .string ⟨#[]⟩] 44))
  have b0 : (w.alloc (.cells #[.int .i64 4, .int .i64 0, .string ⟨#[]⟩] 44)).cell? ⟨w.heap.size, 0, none⟩ = some (.int .i64 4) := by simp [go_sem]
  have b1 : (w.alloc (.cells #[.int .i64 4, .int .i64 0, .string ⟨#[]⟩] 44)).cell? ⟨w.heap.size, 1, none⟩ = some (.int .i64 0) := by simp [go_sem]
  have b2 : (w.alloc (.cells #[.int .i64 4, .int .i64 0, .string ⟨#[]⟩] 44)).cell? ⟨w.heap.size, 2, none⟩ = some (.string ⟨#[]⟩) := by simp [go_sem]
  have hne : w.heap.size ≠ g := by have := h.lt; omega
  have hne' : g ≠ w.heap.size := by omega
  replace h := h.alloc (.cells #[.int .i64 4, .int .i64 0, .string ⟨#[]⟩] 44)
  generalize hW : w.alloc (.cells #[.int .i64 4, .int .i64 0, .string ⟨#[]⟩] 44) = W at *
  have H := Lib.hid h
  have c3 := h.c3
  have c4 := h.c4
  have f3 := h.fz 3
  have HB := Lib.hid hb
  clear h hb
  by_cases h1 : (s.st == 1) = true
  · have e1 := Lib.hid (show s.st = 1 from by simpa using h1)
    have h1' : (s.st != 1) = false := by simp [e1.out]
    go_enter Try.func13, Try.ntmps13
    go_wp2_with fail
    refine (tell_calls _ g _ (rep 4) (H.out.setst 0) HB.out).mono ?_
    rintro e w2 ⟨rfl, h2, k2⟩
    go_wp2
    go_ret
    exact ⟨by simp [turnS, e1.out], by simpa [turnS, e1.out, tellS] using h2, (keep_set K.out _ _).trans k2⟩
  · have h1' : (s.st != 1) = true := by simpa using h1
    have e1 := Lib.hid (show ¬ s.st = 1 from by simpa using h1)
    clear h1
    go_enter Try.func13, Try.ntmps13
    go_wp2
    go_ret
    exact ⟨by simp [turnS, e1.out], by simpa [turnS, e1.out] using H.out, K.out⟩

set_option maxHeartbeats 1600000 in
set_option maxRecDepth 100000 in
theorem lost_calls (w : World) (g : Nat) (s : SS) (h : IsSess w g s) (hb : s.told.length ≤ 1000) :
    Calls Try.prog 15 #[.pointer (some ⟨g, 0, none⟩)] w fun e w' => e = .returned (.int .i64 (lostS s).1) ∧ IsSess w' g (lostS s).2 ∧ Keep (fun i => i = g) w w' := by
  have H := Lib.hid h
  have c3 := h.c3
  have c4 := h.c4
  have f3 := h.fz 3
  have HB := Lib.hid hb
  clear h hb
  by_cases h2 : (s.st == 2) = true
  · have e2 := Lib.hid (show s.st = 2 from by simpa using h2)
    go_enter Try.func15, Try.ntmps15
    go_wp2
    go_ret
    exact ⟨by simp [lostS, e2.out], by simpa [lostS, e2.out] using H.out.setst 6, keep_set (Keep.refl _ _) _ _⟩
  have h2 : (s.st == 2) = false := by simpa using h2
  have e2 := Lib.hid (show ¬ s.st = 2 from by simpa using h2)
  by_cases h3 : (s.st == 3) = true
  · have e3 := Lib.hid (show s.st = 3 from by simpa using h3)
    go_enter Try.func15, Try.ntmps15
    go_wp2_with fail
    refine (tell_calls _ g _ (rep 6) H.out HB.out).mono ?_
    rintro e w2 ⟨rfl, h2, k2⟩
    have H2 := Lib.hid h2
    have z3 := h2.c3
    have z4 := h2.c4
    have y3 := h2.fz 3
    clear h2
    go_wp2
    go_ret
    exact ⟨by simp [lostS, e2.out, e3.out], by simpa [lostS, e2.out, e3.out, tellS] using H2.out.setst 0, keep_set k2 _ _⟩
  have h3 : (s.st == 3) = false := by simpa using h3
  have e3 := Lib.hid (show ¬ s.st = 3 from by simpa using h3)
  by_cases h4 : (s.st == 4) = true
  · have e4 := Lib.hid (show s.st = 4 from by simpa using h4)
    go_enter Try.func15, Try.ntmps15
    go_wp2_with fail
    refine (tell_calls _ g _ (rep 6) H.out HB.out).mono ?_
    rintro e w2 ⟨rfl, h2, k2⟩
    have H2 := Lib.hid h2
    have z3 := h2.c3
    have z4 := h2.c4
    have y3 := h2.fz 3
    clear h2
    go_wp2
    go_ret
    exact ⟨by simp [lostS, e2.out, e3.out, e4.out], by simpa [lostS, e2.out, e3.out, e4.out, tellS] using H2.out.setst 0, keep_set k2 _ _⟩
  have h4 : (s.st == 4) = false := by simpa using h4
  have e4 := Lib.hid (show ¬ s.st = 4 from by simpa using h4)
  by_cases h5 : (s.st == 5) = true
  · have e5 := Lib.hid (show s.st = 5 from by simpa using h5)
    go_enter Try.func15, Try.ntmps15
    go_wp2
    go_ret
    exact ⟨by simp [lostS, e2.out, e3.out, e4.out, e5.out], by simpa [lostS, e2.out, e3.out, e4.out, e5.out] using H.out.setst 0, keep_set (Keep.refl _ _) _ _⟩
  have h5 : (s.st == 5) = false := by simpa using h5
  have e5 := Lib.hid (show ¬ s.st = 5 from by simpa using h5)
  go_enter Try.func15, Try.ntmps15
  go_wp2
  go_ret
  exact ⟨by simp [lostS, e2.out, e3.out, e4.out, e5.out], by simpa [lostS, e2.out, e3.out, e4.out, e5.out] using H.out, Keep.refl _ _⟩

set_option maxHeartbeats 1600000 in
set_option maxRecDepth 100000 in
theorem answer_calls (w : World) (g : Nat) (s : SS) (t : ByteArray) (h : IsSess w g s) (hb : s.told.length ≤ 1000) :
    Calls Try.prog 16 #[.pointer (some ⟨g, 0, none⟩), .string t] w fun e w' => e = .returned (.int .i64 (answerS s t).1) ∧ IsSess w' g (answerS s t).2 ∧ Keep (fun i => i = g) w w' := by
  have H := Lib.hid h
  have c3 := h.c3
  have c4 := h.c4
  have f3 := h.fz 3
  have HB := Lib.hid hb
  clear h hb
  by_cases h1 : (s.st == 4) = true
  · have e1 := Lib.hid (show s.st = 4 from by simpa using h1)
    have h1' : (s.st != 4) = false := by simp [e1.out]
    go_enter Try.func16, Try.ntmps16
    go_wp2_with fail
    refine (tell_calls _ g _ ⟨2, 0, t⟩ H.out HB.out).mono ?_
    rintro e w2 ⟨rfl, h2, k2⟩
    have H2 := Lib.hid h2
    have z3 := h2.c3
    have z4 := h2.c4
    have y3 := h2.fz 3
    clear h2
    cases ha : s.alone
    · have z4' : w2.cell? ⟨g, 4, none⟩ = some (.bool false) := z4.trans (by rw [show ({ s with told := s.told ++ [⟨2, 0, t⟩] } : SS).alone = s.alone from rfl, ha])
      have HA := Lib.hid ha
      clear ha z4
      go_wp2
      go_ret
      exact ⟨by simp [answerS, e1.out], by simpa [answerS, e1.out, HA.out, tellS] using H2.out.setst 2, keep_set k2 _ _⟩
    · have z4' : w2.cell? ⟨g, 4, none⟩ = some (.bool true) := z4.trans (by rw [show ({ s with told := s.told ++ [⟨2, 0, t⟩] } : SS).alone = s.alone from rfl, ha])
      have HA := Lib.hid ha
      clear ha z4
      go_wp2
      go_ret
      exact ⟨by simp [answerS, e1.out], by simpa [answerS, e1.out, HA.out, tellS] using H2.out.setst 5, keep_set k2 _ _⟩
  · have h1' : (s.st != 4) = true := by simpa using h1
    have e1 := Lib.hid (show ¬ s.st = 4 from by simpa using h1)
    clear h1
    go_enter Try.func16, Try.ntmps16
    go_wp2
    go_ret
    exact ⟨by simp [answerS, e1.out], by simpa [answerS, e1.out] using H.out, Keep.refl _ _⟩

set_option maxHeartbeats 1600000 in
set_option maxRecDepth 100000 in
theorem replies_calls (w : World) (g : Nat) (s : SS) (h : IsSess w g s) :
    Calls Try.prog 18 #[.pointer (some ⟨g, 0, none⟩)] w fun e w' => ∃ A c, e = .returned (.slice A s.told.length c) ∧ s.told.length ≤ c ∧ CX k44 44 w' g A s.told ∧ IsSess w' g { s with told := [] } ∧ Keep (fun i => i = g) w w' := by
  obtain ⟨A, c, c6, hc, hx⟩ := h.c6
  have H := Lib.hid h
  have f6 := h.fz 6
  have HX := Lib.hid hx
  have HC := Lib.hid hc
  clear h hx hc
  go_enter Try.func18, Try.ntmps18
  go_wp2
  go_ret
  exact ⟨A, c, rfl, HC.out, HX.out.keep flat44 (keep_set (Keep.refl _ _) _ _), H.out.settold [] none 0 0 rfl (Nat.le_refl _) (CX.nil _ _ _ _), keep_set (Keep.refl _ _) _ _⟩
end Go.Proofs.Ytojgiaemgpnfdaa.S
