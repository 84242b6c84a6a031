/- What a *Sess in memory stands for; tell. -/
import Derived.Test.YtojgiaemgpnfdaaRows
import Derived.Test.YtojgiaemgpnfdaaMapF
import Derived.Test.YtojgiaemgpnfdaaCX
import Derived.Test.YtojgiaemgpnfdaaWLast
import Derived.Test.YtojgiaemgpnfdaaPJudgeSessionx0
import Derived.Deep.QuietTactic
import Derived.BigQuiet
import Derived.Deep.RegionHeld3
import Derived.Deep.RegionLawGrows
import Derived.Lib.Hide
set_option linter.unusedVariables false
set_option linter.unusedSimpArgs false
namespace Go.Proofs.Ytojgiaemgpnfdaa.S
open Go.Proofs.YtojgiaemgpnfdaaW.PrintLast Go.RowKit Go.Proofs.YtojgiaemgpnfdaaM Go.Proofs.YtojgiaemgpnfdaaX Go.Proofs.YtojgiaemgpnfdaaW.PrintWords Go.Proofs.Ytojgiaemgpnfdaa.PJudgeSession

/-- The document's session, as plain Lean. -/
structure SS where
  b : ByteArray
  bad : Bool
  ahead : List S62
  st : Int
  alone : Bool
  text : ByteArray
  told : List S44

theorem flat44 : FlatK k44 := fun w w' x cs h => by rw [k44_open h]; exact k44_mk _ x
theorem flat62 : FlatK k62 := fun w w' x cs h => by rw [k62_open h]; exact k62_mk _ x

def sessCells (s : SS) (A : Option Addr) (c : Nat) (A' : Option Addr) (c' : Nat) : Array Value := #[.string s.b, .bool s.bad, .slice A s.ahead.length c, .int .i64 s.st, .bool s.alone, .string s.text, .slice A' s.told.length c']
/-- What a *Sess stands for. -/
def IsSess (w : World) (g : Nat) (s : SS) : Prop :=
  ∃ A c A' c', w.heap[g]? = some (.cells (sessCells s A c A' c') 40 (0, 0)) ∧ s.ahead.length ≤ c ∧ s.told.length ≤ c' ∧ CX k62 62 w g A s.ahead ∧ CX k44 44 w g A' s.told

theorem heap_set {w : World} {g : Nat} {cs : Array Value} {t : TypeId} {fr : Nat × Nat} (h : w.heap[g]? = some (.cells cs t fr)) (j : Nat) (v : Value) : (w.setCell ⟨g, j, none⟩ v).heap[g]? = some (.cells (cs.setIfInBounds j v) t fr) := by
  unfold World.setCell
  simp [Array.getElem?_modify, h]
theorem keep_set {w W : World} {g : Nat} (h : Keep (fun i => i = g) w W) (j : Nat) (v : Value) : Keep (fun i => i = g) w (W.setCell ⟨g, j, none⟩ v) :=
  ⟨h.os, h.tape, h.output, by simpa [World.setCell] using h.size, fun i hi hne => by
    have : (W.setCell ⟨g, j, none⟩ v).heap[i]? = W.heap[i]? := by
      unfold World.setCell
      simp [Array.getElem?_modify, show ¬ g = i from fun e => hne e.symm]
    rw [this]; exact h.block i hi hne⟩
theorem blk_cell' {w : World} {g : Nat} {cs : Array Value} {t : TypeId} {fr : Nat × Nat} (h : w.heap[g]? = some (.cells cs t fr)) (j : Nat) : w.cell? ⟨g, j, none⟩ = cs[j]? := by simp [World.cell?, h]
theorem blk_frozen' {w : World} {g : Nat} {cs : Array Value} {t : TypeId} (h : w.heap[g]? = some (.cells cs t (0, 0))) (j : Nat) : w.frozen? ⟨g, j, none⟩ = false := by simp [World.frozen?, h]
theorem blk_lt {w : World} {g : Nat} {o : Obj} (h : w.heap[g]? = some o) : g < w.heap.size := (Array.getElem?_eq_some_iff.1 h).1

theorem cell_al {w : World} {a : Addr} {v : Value} (h : w.cell? a = some v) (o : Obj) : (w.drew.alloc o).cell? a = some v := (((Below.refl w.heap.size w.drew).alloc (Nat.le_refl _) o).cell (World.block_lt_of_cell? w a h)).trans h
section
variable (s : SS) (A : Option Addr) (c : Nat) (A' : Option Addr) (c' : Nat)
theorem sc0 (x : ByteArray) : (sessCells s A c A' c').setIfInBounds 0 (.string x) = sessCells { s with b := x } A c A' c' := rfl
theorem sc1 (x : Bool) : (sessCells s A c A' c').setIfInBounds 1 (.bool x) = sessCells { s with bad := x } A c A' c' := rfl
theorem sc2 (x : List S62) (n : Nat) (hn : n = x.length) (A2 : Option Addr) (c2 : Nat) : (sessCells s A c A' c').setIfInBounds 2 (.slice A2 n c2) = sessCells { s with ahead := x } A2 c2 A' c' := by subst hn; rfl
theorem sc3 (x : Int) : (sessCells s A c A' c').setIfInBounds 3 (.int .i64 x) = sessCells { s with st := x } A c A' c' := rfl
theorem sc4 (x : Bool) : (sessCells s A c A' c').setIfInBounds 4 (.bool x) = sessCells { s with alone := x } A c A' c' := rfl
theorem sc5 (x : ByteArray) : (sessCells s A c A' c').setIfInBounds 5 (.string x) = sessCells { s with text := x } A c A' c' := rfl
theorem sc6 (x : List S44) (n : Nat) (hn : n = x.length) (A2 : Option Addr) (c2 : Nat) : (sessCells s A c A' c').setIfInBounds 6 (.slice A2 n c2) = sessCells { s with told := x } A c A2 c2 := by subst hn; rfl
end
/-- One element in a block of its own. -/
theorem cx44_one (w : World) (g : Nat) (r : S44) (hg : g < w.heap.size) : CX k44 44 (w.alloc (.cells #[.int .i64 r.f0, .int .i64 r.f1, .string r.f2] 44)) g (some ⟨w.heap.size, 0, none⟩) [r] := by
  refine ⟨⟨rfl, by simp, fun _ => ⟨_, rfl, fun j p hj => ?_⟩⟩, fun ad e _ => by cases e; exact ⟨by simp only; omega, _, _, heap_alloc_new w _⟩⟩
  match j, hj with
  | 0, hj =>
    obtain rfl : r = p := by simpa using hj
    refine ⟨_, rfl, k44_mk _ r, fun i u hu => ?_⟩
    rw [add_plain]
    match i, hu with
    | 0, hu => rw [World.cell?_alloc_at _ _ _ _ (by simp)]; exact hu
    | 1, hu => rw [World.cell?_alloc_at _ _ _ _ (by simp)]; exact hu
    | 2, hu => rw [World.cell?_alloc_at _ _ _ _ (by simp)]; exact hu

set_option maxHeartbeats 1600000 in
set_option maxRecDepth 100000 in
theorem tell_calls (w : World) (g : Nat) (s : SS) (r : S44) (h : IsSess w g s) (hb : s.told.length ≤ 1000) :
    Calls Try.prog 25 #[.pointer (some ⟨g, 0, none⟩), .agg #[.int .i64 r.f0, .int .i64 r.f1, .string r.f2]] w fun e w' => e = .returned (.tuple #[]) ∧ IsSess w' g { s with told := s.told ++ [r] } ∧ Keep (fun i => i = g) w w' := by
  obtain ⟨A, c, A', c', hg, h1, h2, h3, h4⟩ := h
  have hgl := blk_lt hg
  have hW0 : (w.alloc (.cells #[.int .i64 r.f0, .int .i64 r.f1, .string r.f2] 44)).heap[g]? = some (.cells (sessCells s A c A' c') 40 (0, 0)) := (((Below.refl w.heap.size w).alloc (Nat.le_refl _) _).block g hgl).trans hg
  have b0 : (w.alloc (.cells #[.int .i64 r.f0, .int .i64 r.f1, .string r.f2] 44)).cell? ⟨w.heap.size, 0, none⟩ = some (.int .i64 r.f0) := by simp [go_sem]
  have b1 : (w.alloc (.cells #[.int .i64 r.f0, .int .i64 r.f1, .string r.f2] 44)).cell? ⟨w.heap.size, 1, none⟩ = some (.int .i64 r.f1) := by simp [go_sem]
  have b2 : (w.alloc (.cells #[.int .i64 r.f0, .int .i64 r.f1, .string r.f2] 44)).cell? ⟨w.heap.size, 2, none⟩ = some (.string r.f2) := by simp [go_sem]
  have hK0 : Keep (fun i => i = g) w (w.alloc (.cells #[.int .i64 r.f0, .int .i64 r.f1, .string r.f2] 44)) := (Keep.refl _ _).alloc _
  have HK0 := Lib.hid hK0
  have HW0 := Lib.hid hW0
  have H3 := Lib.hid h3
  have H4 := Lib.hid h4
  have q6 := blk_cell' hW0 6
  have Q6 : Hid ((w.alloc (.cells #[.int .i64 r.f0, .int .i64 r.f1, .string r.f2] 44)).cell? ⟨g, 6, none⟩ = some (.slice A' s.told.length c')) := Lib.hid q6
  replace q6 := Q6.out
  clear hg h3 h4 hW0 hK0
  go_enter Try.func25, Try.ntmps25
  go_wp2
  generalize hW : w.alloc (.cells #[.int .i64 r.f0, .int .i64 r.f1, .string r.f2] 44) = W at *
  have hgW : g < W.heap.size := blk_lt HW0.out
  have hwW : w.heap.size < W.heap.size := by rw [← hW]; simp
  clear hW
  have B0 := Lib.hid b0
  have B1 := Lib.hid b1
  have B2 := Lib.hid b2
  clear b0 b1 b2 q6
  refine start_ (n := 22) (S := fun w' => w'.cell? ⟨g, 6, none⟩ = some (.slice A' s.told.length c') ∧ w'.cell? ⟨w.heap.size, 0, none⟩ = some (.int .i64 r.f0) ∧ w'.cell? ⟨w.heap.size, 1, none⟩ = some (.int .i64 r.f1) ∧ w'.cell? ⟨w.heap.size, 2, none⟩ = some (.string r.f2)) (ds := [21]) #[false, false, false, false, false, false, false, false, false, false, false, false, false, false, false, false, false, false, false, false, false, false] (by kernel_rfl) rfl rfl ⟨Q6.out, B0.out, B1.out, B2.out⟩ (fun hHeld => ?_)
  refine pure_ (i := 0) (N := some 4) (v := ?_) (a' := ?_) #[true, false, false, false, false, false, false, false, false, false, false, false, false, false, false, false, false, false, false, false, false, false] rfl rfl (by kernel_rfl) (fun _ _ _ h => h) (Or.inl ⟨by rfl, ?_⟩) ?_ ?_
  rotate_left
  · intro w'
    go_simp
    with_reducible rfl
  rotate_left
  · simp only [Act.put, List.setIfInBounds_toArray, List.set_cons_zero, List.set_cons_succ, i64_w, i32_w]
    rfl
  refine pure_ (i := 1) (N := some 5) (v := ?_) (a' := ?_) #[true, true, false, false, false, false, false, false, false, false, false, false, false, false, false, false, false, false, false, false, false, false] rfl rfl (by kernel_rfl) (fun _ _ _ h => h) (Or.inl ⟨by rfl, ?_⟩) ?_ ?_
  rotate_left
  · intro w'
    go_simp
    with_reducible rfl
  rotate_left
  · simp only [Act.put, List.setIfInBounds_toArray, List.set_cons_zero, List.set_cons_succ, i64_w, i32_w]
    rfl
  refine pure_ (i := 2) (N := some 6) (v := ?_) (a' := ?_) #[true, true, true, false, false, false, false, false, false, false, false, false, false, false, false, false, false, false, false, false, false, false] rfl rfl (by kernel_rfl) (fun _ _ _ h => h) (Or.inl ⟨by rfl, ?_⟩) ?_ ?_
  rotate_left
  · intro w'
    go_simp
    with_reducible rfl
  rotate_left
  · simp only [Act.put, List.setIfInBounds_toArray, List.set_cons_zero, List.set_cons_succ, i64_w, i32_w]
    rfl
  refine pure_ (i := 3) (N := some 7) (v := ?_) (a' := ?_) #[true, true, true, true, false, false, false, false, false, false, false, false, false, false, false, false, false, false, false, false, false, false] rfl rfl (by kernel_rfl) (fun _ _ _ h => h) (Or.inl ⟨by rfl, ?_⟩) ?_ ?_
  rotate_left
  · intro w'
    go_simp
    with_reducible rfl
  rotate_left
  · simp only [Act.put, List.setIfInBounds_toArray, List.set_cons_zero, List.set_cons_succ, i64_w, i32_w]
    rfl
  refine pure_ (i := 5) (N := some 9) (v := ?_) (a' := ?_) #[true, true, true, true, false, true, false, false, false, false, false, false, false, false, false, false, false, false, false, false, false, false] rfl rfl (by kernel_rfl) (fun _ _ _ h => h) (Or.inl ⟨by rfl, ?_⟩) ?_ ?_
  rotate_left
  · intro w'
    go_simp
    with_reducible rfl
  rotate_left
  · simp only [Act.put, List.setIfInBounds_toArray, List.set_cons_zero, List.set_cons_succ, i64_w, i32_w]
    rfl
  refine pure_ (i := 6) (N := some 10) (v := ?_) (a' := ?_) #[true, true, true, true, false, true, true, false, false, false, false, false, false, false, false, false, false, false, false, false, false, false] rfl rfl (by kernel_rfl) (fun _ _ _ h => h) (Or.inl ⟨by rfl, ?_⟩) ?_ ?_
  rotate_left
  · intro w'
    go_simp
    with_reducible rfl
  rotate_left
  · simp only [Act.put, List.setIfInBounds_toArray, List.set_cons_zero, List.set_cons_succ, i64_w, i32_w]
    rfl
  refine pure_ (i := 7) (N := some 11) (v := ?_) (a' := ?_) #[true, true, true, true, false, true, true, true, false, false, false, false, false, false, false, false, false, false, false, false, false, false] rfl rfl (by kernel_rfl) (fun _ _ _ h => h) (Or.inl ⟨by rfl, ?_⟩) ?_ ?_
  rotate_left
  · intro w'
    go_simp
    with_reducible rfl
  rotate_left
  · simp only [Act.put, List.setIfInBounds_toArray, List.set_cons_zero, List.set_cons_succ, i64_w, i32_w]
    rfl
  refine pure_ (i := 10) (N := some 14) (v := ?_) (a' := ?_) #[true, true, true, true, false, true, true, true, false, false, true, false, false, false, false, false, false, false, false, false, false, false] rfl rfl (by kernel_rfl) (fun _ _ _ h => h) (Or.inl ⟨by rfl, ?_⟩) ?_ ?_
  rotate_left
  · intro w'
    go_simp
    with_reducible rfl
  rotate_left
  · simp only [Act.put, List.setIfInBounds_toArray, List.set_cons_zero, List.set_cons_succ, i64_w, i32_w]
    rfl
  refine pure_ (i := 11) (N := some 15) (v := ?_) (a' := ?_) #[true, true, true, true, false, true, true, true, false, false, true, true, false, false, false, false, false, false, false, false, false, false] rfl rfl (by kernel_rfl) (fun _ _ _ h => h) (Or.inl ⟨by rfl, ?_⟩) ?_ ?_
  rotate_left
  · intro w'
    go_simp
    with_reducible rfl
  rotate_left
  · simp only [Act.put, List.setIfInBounds_toArray, List.set_cons_zero, List.set_cons_succ, i64_w, i32_w]
    rfl
  refine pure_ (i := 12) (N := some 16) (v := ?_) (a' := ?_) #[true, true, true, true, false, true, true, true, false, false, true, true, true, false, false, false, false, false, false, false, false, false] rfl rfl (by kernel_rfl) (fun _ _ _ h => h) (Or.inl ⟨by rfl, ?_⟩) ?_ ?_
  rotate_left
  · intro w'
    go_simp
    with_reducible rfl
  rotate_left
  · simp only [Act.put, List.setIfInBounds_toArray, List.set_cons_zero, List.set_cons_succ, i64_w, i32_w]
    rfl
  refine take_ (i := 4) (N := some 8) (v := ?_) (a' := ?_) #[true, true, true, true, true, true, true, true, false, false, true, true, true, false, false, false, false, false, false, false, false, false] rfl rfl (by kernel_rfl) (fun _ _ _ h => h) (Or.inl ⟨by rfl, ?_⟩) hHeld ?_ ?_
  rotate_left
  · rintro w' ⟨s0, s1, s2, s3⟩
    go_simp
    with_reducible rfl
  rotate_left
  · simp only [Act.put, List.setIfInBounds_toArray, List.set_cons_zero, List.set_cons_succ, i64_w, i32_w]
    rfl
  refine take_ (i := 8) (N := some 12) (v := ?_) (a' := ?_) #[true, true, true, true, true, true, true, true, true, false, true, true, true, false, false, false, false, false, false, false, false, false] rfl rfl (by kernel_rfl) (fun _ _ _ h => h) (Or.inl ⟨by rfl, ?_⟩) hHeld ?_ ?_
  rotate_left
  · rintro w' ⟨s0, s1, s2, s3⟩
    go_simp
    with_reducible rfl
  rotate_left
  · simp only [Act.put, List.setIfInBounds_toArray, List.set_cons_zero, List.set_cons_succ, i64_w, i32_w]
    rfl
  refine pure_ (i := 9) (N := some 13) (v := ?_) (a' := ?_) #[true, true, true, true, true, true, true, true, true, true, true, true, true, false, false, false, false, false, false, false, false, false] rfl rfl (by kernel_rfl) (fun _ _ _ h => h) (Or.inl ⟨by rfl, ?_⟩) ?_ ?_
  rotate_left
  · intro w'
    go_simp
    with_reducible rfl
  rotate_left
  · simp only [Act.put, List.setIfInBounds_toArray, List.set_cons_zero, List.set_cons_succ, i64_w, i32_w]
    rfl
  refine take_ (i := 13) (N := some 17) (v := ?_) (a' := ?_) #[true, true, true, true, true, true, true, true, true, true, true, true, true, true, false, false, false, false, false, false, false, false] rfl rfl (by kernel_rfl) (fun _ _ _ h => h) (Or.inl ⟨by rfl, ?_⟩) hHeld ?_ ?_
  rotate_left
  · rintro w' ⟨s0, s1, s2, s3⟩
    go_simp
    with_reducible rfl
  rotate_left
  · simp only [Act.put, List.setIfInBounds_toArray, List.set_cons_zero, List.set_cons_succ, i64_w, i32_w]
    rfl
  refine pure_ (i := 14) (N := some 18) (v := ?_) (a' := ?_) #[true, true, true, true, true, true, true, true, true, true, true, true, true, true, true, false, false, false, false, false, false, false] rfl rfl (by kernel_rfl) (fun _ _ _ h => h) (Or.inl ⟨by rfl, ?_⟩) ?_ ?_
  rotate_left
  · intro w'
    go_simp
    with_reducible rfl
  rotate_left
  · simp only [Act.put, List.setIfInBounds_toArray, List.set_cons_zero, List.set_cons_succ, i64_w, i32_w]
    rfl
  refine pure_ (i := 15) (N := some 19) (v := ?_) (a' := ?_) #[true, true, true, true, true, true, true, true, true, true, true, true, true, true, true, true, false, false, false, false, false, false] rfl rfl (by kernel_rfl) (fun _ _ _ h => h) (Or.inl ⟨by rfl, ?_⟩) ?_ ?_
  rotate_left
  · intro w'
    go_simp
    with_reducible rfl
  rotate_left
  · simp only [Act.put, List.setIfInBounds_toArray, List.set_cons_zero, List.set_cons_succ, i64_w, i32_w]
    rfl
  refine take_ (i := 16) (N := some 20) (v := ?_) (a' := ?_) #[true, true, true, true, true, true, true, true, true, true, true, true, true, true, true, true, true, false, false, false, false, false] rfl rfl (by kernel_rfl) (fun _ _ _ h => h) (Or.inl ⟨by rfl, ?_⟩) hHeld ?_ ?_
  rotate_left
  · rintro w' ⟨s0, s1, s2, s3⟩
    go_simp
    with_reducible rfl
  rotate_left
  · simp only [Act.put, List.setIfInBounds_toArray, List.set_cons_zero, List.set_cons_succ, i64_w, i32_w]
    rfl
  refine one_ (i := 17) (N := some 21) #[true, true, true, true, true, true, true, true, true, true, true, true, true, true, true, true, true, true, false, false, false, false] rfl rfl (by kernel_rfl) (by decide) (fun K hK => ?_)
  refine value_ (w1 := ?_) (v := ?_) (by rfl) rfl ?_ ?_
  rotate_left 2
  · go_simp
    constructor
    · rfl
    · rfl
  refine hK.out _ _ ⟨cell_al Q6.out _, cell_al B0.out _, cell_al B1.out _, cell_al B2.out _⟩ (fun hHeld => ?_)
  clear hK K
  refine norm_ (a' := ?_) ?_ ?_
  rotate_left
  · show Act.put _ (some 21) _ = _
    simp only [Act.put, List.setIfInBounds_toArray, List.set_cons_zero, List.set_cons_succ, i64_w, i32_w]
    rfl
  refine one_ (i := 18) (N := some 22) #[true, true, true, true, true, true, true, true, true, true, true, true, true, true, true, true, true, true, true, false, false, false] rfl rfl (by kernel_rfl) (by decide) (fun K hK => ?_)
  refine step_cx rfl (.tmp 19) (.tmp 21) 38 rfl k44 flat44 44 (.agg #[.int .i64 0, .int .i64 0, .string ⟨#[]⟩]) 32 Try.underlying38 info44 rfl (by decide) g A' s.told s.told.length rfl rfl (H4.out.keep flat44 ((keep_drew HK0.out).alloc _)) (by simp; omega) [r] (by simp) _ 1 rfl (cx44_one _ g r hgW) (by unfold maxLen; simp; omega) (by simp; omega) ?_
  intro A2 c2 w2 hc2 hcx2 hgr2
  have HG2 := Lib.hid ((((keep_drew HK0.out).alloc _)).grown hgr2 (fun j e => by cases e))
  have HX2 := Lib.hid hcx2
  have HL2 := Lib.hid hc2
  have HB2 := Lib.hid ((hgr2.block g (by simp; exact Nat.lt_succ_of_lt hgW) (by simp)).trans ((((Below.refl w.heap.size W.drew).alloc (Nat.le_of_lt (by simpa using hwW)) _).block g hgl).trans HW0.out))
  refine hK.out _ _ ⟨hgr2.cell (cell_al Q6.out _) (by simp), hgr2.cell (cell_al B0.out _) (by simp), hgr2.cell (cell_al B1.out _) (by simp), hgr2.cell (cell_al B2.out _) (by simp)⟩ (fun hHeld => ?_)
  clear hK K
  refine norm_ (a' := ?_) ?_ ?_
  rotate_left
  · show Act.put _ (some 22) _ = _
    simp only [Act.put, List.setIfInBounds_toArray, List.set_cons_zero, List.set_cons_succ, i64_w, i32_w]
    rfl
  refine pure_ (i := 19) (N := some 23) (v := ?_) (a' := ?_) #[true, true, true, true, true, true, true, true, true, true, true, true, true, true, true, true, true, true, true, true, false, false] rfl rfl (by kernel_rfl) (fun _ _ _ h => h) (Or.inl ⟨by rfl, ?_⟩) ?_ ?_
  rotate_left
  · intro w'
    go_simp
    with_reducible rfl
  rotate_left
  · simp only [Act.put, List.setIfInBounds_toArray, List.set_cons_zero, List.set_cons_succ, i64_w, i32_w]
    rfl
  refine pure_ (i := 20) (N := some 24) (v := ?_) (a' := ?_) #[true, true, true, true, true, true, true, true, true, true, true, true, true, true, true, true, true, true, true, true, true, false] rfl rfl (by kernel_rfl) (fun _ _ _ h => h) (Or.inl ⟨by rfl, ?_⟩) ?_ ?_
  rotate_left
  · intro w'
    go_simp
    with_reducible rfl
  rotate_left
  · simp only [Act.put, List.setIfInBounds_toArray, List.set_cons_zero, List.set_cons_succ, i64_w, i32_w]
    rfl
  refine last_ (i := 21) (N := none) #[true, true, true, true, true, true, true, true, true, true, true, true, true, true, true, true, true, true, true, true, true, true] rfl rfl (by kernel_rfl) (by decide) (fun K hK => ?_)
  have q6 := blk_cell' HB2.out 6
  replace q6 := q6.trans (show _ = some (.slice A' s.told.length c') from rfl)
  have f6 := blk_frozen' HB2.out 6
  refine skip_ (w1 := ?_) (by rfl) rfl ?_ ?_
  rotate_left
  · go_simp
    rfl
  refine hK.out _ _ ?_
  clear hK K
  refine done_ (by kernel_rfl) ?_
  clear hHeld hcx2 hgr2 hc2 q6 f6
  go_end0
  refine ⟨rfl, ?_, keep_set HG2.out 6 _⟩
  refine ⟨A, c, A2, c2, (heap_set HB2.out 6 _).trans (by rw [sc6 s A c A' c' (s.told ++ [r]) _ (by simp)]), h1, by simpa using HL2.out, ?_, HX2.out.keep flat44 (keep_set (Keep.refl _ _) 6 _)⟩
  exact H3.out.keep flat62 (keep_set HG2.out 6 _)
end Go.Proofs.Ytojgiaemgpnfdaa.S
