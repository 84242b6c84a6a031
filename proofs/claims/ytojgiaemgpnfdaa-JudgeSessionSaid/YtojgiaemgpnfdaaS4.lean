/- Sess.Next. -/
import Derived.Test.YtojgiaemgpnfdaaS3
set_option linter.unusedVariables false
set_option linter.unusedSimpArgs false
namespace Go.Proofs.Ytojgiaemgpnfdaa.S
open Go.RowKit Go.Proofs.YtojgiaemgpnfdaaM Go.Proofs.YtojgiaemgpnfdaaX Go.Proofs.YtojgiaemgpnfdaaW.PrintWords Go.Proofs.Ytojgiaemgpnfdaa.PJudgeSession

def takeS (s : SS) (f : S62) (rest : List S62) : Int × SS :=
  if s.st = 0 then freeS { s with ahead := rest } f else if s.st = 2 then boundS { s with ahead := rest } f else deadS { s with ahead := rest } f
def nextL : Nat → SS → SS
  | 0, s => s
  | k + 1, s => match s.ahead with
    | [] => s
    | f :: rest => if s.st = 0 ∨ s.st = 2 ∨ s.st = 6 then (if (takeS s f rest).1 = 0 then nextL k (takeS s f rest).2 else (takeS s f rest).2) else s
def nextS (s : SS) : SS := if s.st = 3 then { s with st := 4 } else if s.st = 5 then { s with st := 0 } else nextL s.ahead.length s

theorem tail_cx {w : World} {g : Nat} {A : Option Addr} {f : S62} {rest : List S62} (h : CX k62 62 w g A (f :: rest)) {c : Nat} (hc : (f :: rest).length ≤ c) : Kd.C k62 w (if c = 1 then A else A.map (·.add 2)) rest.length rest := by
  have := Kd.C_drop h.1 (m := 1) (by simp) hc
  simpa [show k62.sz = 2 from rfl] using this
theorem add_zero' (ad : Addr) : ad.add 0 = ad := by unfold Addr.add; split <;> simp_all
theorem head_cx {w : World} {g : Nat} {A : Option Addr} {f : S62} {rest : List S62} (h : CX k62 62 w g A (f :: rest)) : ∃ ad, A = some ad ∧ w.cell? ad = some (.int .u8 f.f0) ∧ w.cell? ⟨ad.block, ad.off + 1, none⟩ = some (.string f.f1) ∧ ad.block ≠ g := by
  obtain ⟨ad, e, h1, h2⟩ := at_T62 h.1 0 (by omega) (by simp)
  exact ⟨ad, e, by simpa [rd_T62, add_zero'] using h1, by simpa [rd_T62, add_zero'] using h2, (h.2 ad e (by simp)).1⟩

/-- What is known behind the box of the frame that is taken. -/
structure Pack8 (w W : World) (g gb base : Nat) (s : SS) (ad : Addr) (n c : Nat) (rest : List S62) (v1 v2 : Value) : Prop where
  s : IsSess W g s
  k : Keep (fun i => i = g) w W
  glt : g < base
  size : base ≤ W.heap.size
  row : ∀ A, A = (if c = 1 then some ad else (some ad).map (·.add 2)) → ReadsRow (fun x cs => ∀ W, k62.K W x cs) 2 W A rest.length rest
  c2 : W.cell? ⟨g, 2, none⟩ = some (.slice (some ad) n c)
  b0 : W.cell? ⟨gb, 0, none⟩ = some v1
  b1 : W.cell? ⟨gb, 1, none⟩ = some v2
structure Pack9 (w W : World) (g gb : Nat) (s : SS) (v1 v2 : Value) : Prop where
  s : IsSess W g s
  k : Keep (fun i => i = g) w W
  b0 : W.cell? ⟨gb, 0, none⟩ = some v1
  b1 : W.cell? ⟨gb, 1, none⟩ = some v2
theorem Pack8.on {w W W' : World} {g gb base : Nat} {s : SS} {ad : Addr} {n c : Nat} {rest : List S62} {v1 v2 : Value} (h : Pack8 w W g gb base s ad n c rest v1 v2) (hg : W.grownBy W' none) : Pack9 w W' g gb s v1 v2 :=
  ⟨h.s.kept (S := fun _ => False) ((Keep.refl _ W).grown hg (fun _ e => by cases e)) (fun h => h) (fun _ h => h.elim), h.k.grown hg (fun _ e => by cases e), hg.cell h.b0 (by simp), hg.cell h.b1 (by simp)⟩
theorem box_pack {w wr w8 : World} {g gb : Nat} {s : SS} {ad : Addr} {n c : Nat} {rest : List S62} {v1 v2 : Value} (H : IsSess wr g s) (HK : Keep (fun i => i = g) w wr) (HT : Kd.C k62 wr (if c = 1 then some ad else (some ad).map (·.add 2)) rest.length rest)
    (hc : wr.cell? ⟨g, 2, none⟩ = some (.slice (some ad) n c)) (hgb : gb = wr.heap.size) (hbox : w8.heap[gb]? = some (.cells #[.int .u8 0, .string ⟨#[]⟩] 62 (0, 0))) (hb : Below wr.heap.size wr w8) :
    Pack8 w ((w8.setCell ⟨gb, 0, none⟩ v1).setCell ⟨gb, 1, none⟩ v2) g gb w8.heap.size s ad n c rest v1 v2 := by
  have hB : Below wr.heap.size wr ((w8.setCell ⟨gb, 0, none⟩ v1).setCell ⟨gb, 1, none⟩ v2) := (hb.setCell (p := ⟨gb, 0, none⟩) (by simp [hgb]) _).setCell (p := ⟨gb, 1, none⟩) (by simp [hgb]) _
  have hk : Keep (fun _ => False) wr ((w8.setCell ⟨gb, 0, none⟩ v1).setCell ⟨gb, 1, none⟩ v2) := ⟨hB.os, hB.tape, hB.output, hB.size, fun i hi _ => hB.block i hi⟩
  have hgl : gb < w8.heap.size := blk_lt hbox
  refine ⟨H.kept hk (fun h => h) (fun _ h => h.elim), HK.trans (keep_mono hk (fun _ h => h.elim)), ?_, by simp, ?_, ?_, ?_, ?_⟩
  · have := H.lt; omega
  · rintro A rfl; exact (Kd.C_below HT hB).imp_ (Below.refl _ _) (fun x c hx W => flat62 _ _ _ _ hx)
  · exact (hB.cell (World.block_lt_of_cell? wr _ hc)).trans hc
  · have h2 := heap_set (heap_set hbox 0 v1) 1 v2
    exact (blk_cell' h2 0).trans rfl
  · have h2 := heap_set (heap_set hbox 0 v1) 1 v2
    exact (blk_cell' h2 1).trans rfl
theorem next_step {k : Nat} {s T : SS} {f : S62} {rest : List S62} (h : nextL (k + 1) s = T) (ha : s.ahead = f :: rest) (hs : s.st = 0 ∨ s.st = 2 ∨ s.st = 6) : (if (takeS s f rest).1 = 0 then nextL k (takeS s f rest).2 else (takeS s f rest).2) = T := by
  rw [← h]; simp [nextL, ha, hs]
theorem step_two {k : Nat} {d : Int} {s2 T : SS} (h : (if d = 0 then nextL k s2 else s2) = T) (hd : (d == 2) = true) : s2 = T := by
  have : d = 2 := by simpa using hd
  subst this; simpa using h
theorem step_zero {k : Nat} {d : Int} {s2 T : SS} (h : (if d = 0 then nextL k s2 else s2) = T) (hd : (d == 0) = true) : nextL k s2 = T := by
  have : d = 0 := by simpa using hd
  subst this; simpa using h
theorem step_other {k : Nat} {d : Int} {s2 T : SS} (h : (if d = 0 then nextL k s2 else s2) = T) (hd : (d != 0) = true) : s2 = T := by
  have : ¬ d = 0 := by simpa using hd
  simpa [this] using h
theorem take_len (s : SS) (f : S62) (rest : List S62) : (takeS s f rest).2.ahead.length ≤ rest.length ∧ (takeS s f rest).2.told.length ≤ s.told.length + 1 := by
  unfold takeS freeS boundS deadS
  (repeat' split) <;> simp [tellS, endS]

set_option maxHeartbeats 3200000 in
set_option maxRecDepth 100000 in
theorem next_calls (w : World) (g : Nat) (s : SS) (h : IsSess w g s) (hb : s.told.length + s.ahead.length ≤ 900) :
    Calls Try.prog 17 #[.pointer (some ⟨g, 0, none⟩)] w fun e w' => (∃ a b, e = .returned (.tuple #[a, b])) ∧ IsSess w' g (nextS s) ∧ Keep (fun i => i = g) w w' := by
  have H := Lib.hid h
  have c3 := h.c3
  have c5 := h.c5
  have f3 := h.fz 3
  have HB := Lib.hid hb
  clear h hb
  by_cases h3 : (s.st == 3) = true
  · have e3 := Lib.hid (show s.st = 3 from by simpa using h3)
    go_enter Try.func17, Try.ntmps17
    go_wp2
    go_quiet (fail)
    go_wp2
    go_ret2
    exact ⟨⟨_, _, rfl⟩, by simpa [nextS, e3.out] using (H.out.setst 4).same (same_drewN _ _), keep_drewN (keep_set (Keep.refl _ _) _ _) _⟩
  have h3 : (s.st == 3) = false := by simpa using h3
  have e3 := Lib.hid (show ¬ s.st = 3 from by simpa using h3)
  by_cases h5 : (s.st == 5) = true
  · have e5 := Lib.hid (show s.st = 5 from by simpa using h5)
    go_enter Try.func17, Try.ntmps17
    go_wp2
    go_ret2
    exact ⟨⟨_, _, rfl⟩, by simpa [nextS, e3.out, e5.out] using H.out.setst 0, keep_set (Keep.refl _ _) _ _⟩
  have h5 : (s.st == 5) = false := by simpa using h5
  have e5 := Lib.hid (show ¬ s.st = 5 from by simpa using h5)
  have hgoal : nextS s = nextL s.ahead.length s := by simp [nextS, e3.out, e5.out]
  rw [hgoal]
  obtain ⟨T, hT⟩ : ∃ T, nextL s.ahead.length s = T := ⟨_, rfl⟩
  have HN := Lib.hid hT
  rw [hT]
  have HK0 := Lib.hid (Keep.refl (fun i => i = g) w)
  have HL := Lib.hid (Nat.le_refl s.ahead.length)
  clear hgoal hT c3 c5 f3 h3 h5
  go_enter Try.func17, Try.ntmps17
  have c3 := H.out.c3
  have h3 : (s.st == 3) = false := by simpa using e3.out
  have h5 : (s.st == 5) = false := by simpa using e5.out
  go_wp2
  clear c3 h3 h5
  go_loopg [] s.ahead.length (fun kq w' => ∃ s1 : SS, Hid (nextL kq s1 = T) ∧ Hid (s1.ahead.length ≤ kq) ∧ Hid (s1.told.length + s1.ahead.length ≤ 900) ∧ Hid (IsSess w' g s1) ∧ Hid (Keep (fun i => i = g) w w'))
  case atStart => exact ⟨s, HN, HL, HB, H, HK0⟩
  case round =>
    clear HN HL HB H HK0
    obtain ⟨s1, HN, HL, HB, H, HK⟩ := hrel
    obtain ⟨A, c, hc2, hlc, hx⟩ := H.out.c2
    have c3 := H.out.c3
    cases hah : s1.ahead with
    | nil =>
      have hT2 : nextL gk s1 = s1 := by cases gk <;> simp [nextL, hah]
      have HN2 := Lib.hid (hT2.symm.trans HN.out)
      rw [hah] at hc2
      clear hx hlc
      have HAH := Lib.hid hah
      clear hah hT2
      go_wp2
      go_ret2
      exact ⟨⟨_, _, rfl⟩, by rw [← HN2.out]; exact H.out, HK.out⟩
    | cons f rest =>
      cases gk with
      | zero => have := HL.out; rw [hah] at this; simp at this
      | succ k1 =>
      rw [hah] at hc2 hx hlc
      obtain ⟨ad, rfl, hf0, hf1, hadg⟩ := head_cx hx
      have HTL := Lib.hid (tail_cx hx hlc)
      have HX := Lib.hid hx
      have HLC := Lib.hid hlc
      have HAH := Lib.hid hah
      clear hx hlc hah
      have hlen0 : decide ((0 : Int) < ((f :: rest).length : Nat)) = true := by simp
      by_cases hs0 : (s1.st == 0) = true
      · have e0 := Lib.hid (show s1.st = 0 from by simpa using hs0)
        go_wp2_with (first
          | ((with_reducible refine gate_dst (N := 4) rfl ?_); refine box_event ?hg (N := 4) ?hd (cs := #[.int .u8 0, .string ⟨#[]⟩]) (t := 62) ?hr ?_; (case hd => rfl); (case hg => rfl); (case hr => first | (go_simp; done) | (go_simp; rfl)); intro gb hgb w8 hbox hb8; have hgne : gb ≠ g := (by rw [hgb]; exact Nat.ne_of_gt H.out.lt); have hgne' : g ≠ gb := Ne.symm hgne; have bx0 := (blk_cell' hbox 0).trans (show _ = some (Value.int .u8 0) from rfl); have bx1 := (blk_cell' hbox 1).trans (show _ = some (Value.string ⟨#[]⟩) from rfl); have bf0 := blk_frozen' hbox 0; have bf1 := blk_frozen' hbox 1; have c28 := (hb8.cell (World.block_lt_of_cell? wr _ hc2)).trans hc2; have P8 := Lib.hid (box_pack (v1 := .int .u8 f.f0) (v2 := .string f.f1) H.out HK.out HTL.out hc2 hgb hbox hb8); clear hgb hb8 hbox; clear c3 hf0 hf1)
          | (at_builtin; go_loud (refine Kd.R_append_rows (Rr := fun x cs => ∀ W, k62.K W x cs) k62 (w8.heap.size) rfl (.const (.slice none 0 0)) (.tmp 62) 30 62 (.agg #[.int .u8 0, .string ⟨#[]⟩]) 24 rfl Try.underlying30 info62 rfl (by decide) (by omega) (.slice none 0 0) [] rest _ _ _ (fun _ => True) (fun _ => False) rfl rfl (Kd.R_nil _ _ _ _ _) ?hr (fun x cs h => by rw [k62_open (h w8)]; exact k62_mkM _ _ _ x) (fun _ h => h.elim) (fun _ _ => trivial) (Below.refl _ _) ?hs ?hl ?_; (case hr => exact P8.out.row _ (by simp [*, Addr.add])); (case hs => exact P8.out.size); (case hl => have := HB.out; rw [HAH.out] at this; simp at this ⊢; omega); intro v1 w9 ho hb9 hg9 hat; obtain ⟨A1, c1, rfl, hl1, hx1, _⟩ := R_cx flat62 ho P8.out.glt; have Q9 := Lib.hid (P8.out.on hg9); have HX1 := Lib.hid hx1; have HL1 := Lib.hid hl1; have y2 := Q9.out.s.c2; have c29 := (World.grownBy.cell (row := none) hg9 P8.out.c2 (by simp)); have f29 := Q9.out.s.fz 2; have c39 := Q9.out.s.c3; have b09 := Q9.out.b0; have b19 := Q9.out.b1; clear ho hb9 hg9 hat hl1 hx1 y2 c28 bx0 bx1 bf0 bf1)))
        all_goals (
          refine (free_calls _ g { s1 with ahead := rest } f (Q9.out.s.setahead rest A1 c1 rest.length rfl HL1.out HX1.out) (by have := HB.out; rw [HAH.out] at this; simp at this ⊢; omega)).mono ?_
          have htk : takeS s1 f rest = freeS { s1 with ahead := rest } f := by simp [takeS, e0.out]
          rw [← htk]
          have HTK := Lib.hid (next_step HN.out HAH.out (by simp [e0.out]))
          have HTL2 := Lib.hid (take_len s1 f rest)
          obtain ⟨d, hd⟩ : ∃ d, (takeS s1 f rest).1 = d := ⟨_, rfl⟩
          obtain ⟨s2, hs2'⟩ : ∃ s2, (takeS s1 f rest).2 = s2 := ⟨_, rfl⟩
          rw [hd, hs2'] at HTK
          rw [hs2'] at HTL2
          rw [hd, hs2']
          clear hd hs2' htk
          rintro e w10 ⟨rfl, hS10, hK10⟩
          have H10 := Lib.hid hS10
          have c510 := hS10.c5
          have K10 := Lib.hid ((keep_set Q9.out.k 2 _).trans hK10)
          clear hS10 hK10 c29 f29 c39 b09 b19
          by_cases hd2 : (d == 2) = true
          · have ed : Hid (s2 = T) := Lib.hid (step_two HTK.out hd2)
            go_wp2
            go_quiet (fail)
            go_wp2
            go_ret2
            exact ⟨⟨_, _, rfl⟩, by rw [← ed.out]; exact H10.out.same (same_drewN _ _), keep_drewN K10.out _⟩
          have hd2 : (d == 2) = false := by simpa using hd2
          by_cases hd0 : (d == 0) = true
          · have hd0' : (d != 0) = false := by simpa using hd0
            have ed := Lib.hid (step_zero HTK.out hd0)
            go_wp2
            go_roundg k1
            case measure => omega
            case rel => exact ⟨s2, ed, Lib.hid (by have := HL.out; have := HTL2.out; rw [HAH.out] at *; simp at *; omega), Lib.hid (by have := HB.out; have := HTL2.out; rw [HAH.out] at *; simp at *; omega), H10, K10⟩
          · have hd0' : (d != 0) = true := by simpa using hd0
            have ed := Lib.hid (step_other HTK.out hd0')
            clear hd0
            go_wp2
            go_ret2
            exact ⟨⟨_, _, rfl⟩, by rw [← ed.out]; exact H10.out, K10.out⟩)
      by_cases hs2 : (s1.st == 2) = true
      · have e2 := Lib.hid (show s1.st = 2 from by simpa using hs2)
        have hs0 : (s1.st == 0) = false := by simpa using hs0
        have e0 := Lib.hid (show ¬ s1.st = 0 from by simpa using hs0)
        go_wp2_with (first
          | ((with_reducible refine gate_dst (N := 4) rfl ?_); refine box_event ?hg (N := 4) ?hd (cs := #[.int .u8 0, .string ⟨#[]⟩]) (t := 62) ?hr ?_; (case hd => rfl); (case hg => rfl); (case hr => first | (go_simp; done) | (go_simp; rfl)); intro gb hgb w8 hbox hb8; have hgne : gb ≠ g := (by rw [hgb]; exact Nat.ne_of_gt H.out.lt); have hgne' : g ≠ gb := Ne.symm hgne; have bx0 := (blk_cell' hbox 0).trans (show _ = some (Value.int .u8 0) from rfl); have bx1 := (blk_cell' hbox 1).trans (show _ = some (Value.string ⟨#[]⟩) from rfl); have bf0 := blk_frozen' hbox 0; have bf1 := blk_frozen' hbox 1; have c28 := (hb8.cell (World.block_lt_of_cell? wr _ hc2)).trans hc2; have P8 := Lib.hid (box_pack (v1 := .int .u8 f.f0) (v2 := .string f.f1) H.out HK.out HTL.out hc2 hgb hbox hb8); clear hgb hb8 hbox; clear c3 hf0 hf1)
          | (at_builtin; go_loud (refine Kd.R_append_rows (Rr := fun x cs => ∀ W, k62.K W x cs) k62 (w8.heap.size) rfl (.const (.slice none 0 0)) (.tmp 62) 30 62 (.agg #[.int .u8 0, .string ⟨#[]⟩]) 24 rfl Try.underlying30 info62 rfl (by decide) (by omega) (.slice none 0 0) [] rest _ _ _ (fun _ => True) (fun _ => False) rfl rfl (Kd.R_nil _ _ _ _ _) ?hr (fun x cs h => by rw [k62_open (h w8)]; exact k62_mkM _ _ _ x) (fun _ h => h.elim) (fun _ _ => trivial) (Below.refl _ _) ?hs ?hl ?_; (case hr => exact P8.out.row _ (by simp [*, Addr.add])); (case hs => exact P8.out.size); (case hl => have := HB.out; rw [HAH.out] at this; simp at this ⊢; omega); intro v1 w9 ho hb9 hg9 hat; obtain ⟨A1, c1, rfl, hl1, hx1, _⟩ := R_cx flat62 ho P8.out.glt; have Q9 := Lib.hid (P8.out.on hg9); have HX1 := Lib.hid hx1; have HL1 := Lib.hid hl1; have y2 := Q9.out.s.c2; have c29 := (World.grownBy.cell (row := none) hg9 P8.out.c2 (by simp)); have f29 := Q9.out.s.fz 2; have c39 := Q9.out.s.c3; have b09 := Q9.out.b0; have b19 := Q9.out.b1; clear ho hb9 hg9 hat hl1 hx1 y2 c28 bx0 bx1 bf0 bf1)))
        all_goals (
          refine (bound_calls _ g { s1 with ahead := rest } f (Q9.out.s.setahead rest A1 c1 rest.length rfl HL1.out HX1.out) (by have := HB.out; rw [HAH.out] at this; simp at this ⊢; omega)).mono ?_
          have htk : takeS s1 f rest = boundS { s1 with ahead := rest } f := by simp [takeS, e0.out, e2.out]
          rw [← htk]
          have HTK := Lib.hid (next_step HN.out HAH.out (by simp [e2.out]))
          have HTL2 := Lib.hid (take_len s1 f rest)
          obtain ⟨d, hd⟩ : ∃ d, (takeS s1 f rest).1 = d := ⟨_, rfl⟩
          obtain ⟨s2, hs2'⟩ : ∃ s2, (takeS s1 f rest).2 = s2 := ⟨_, rfl⟩
          rw [hd, hs2'] at HTK
          rw [hs2'] at HTL2
          rw [hd, hs2']
          clear hd hs2' htk
          rintro e w10 ⟨rfl, hS10, hK10⟩
          have H10 := Lib.hid hS10
          have c510 := hS10.c5
          have K10 := Lib.hid ((keep_set Q9.out.k 2 _).trans hK10)
          clear hS10 hK10 c29 f29 c39 b09 b19
          by_cases hd2 : (d == 2) = true
          · have ed : Hid (s2 = T) := Lib.hid (step_two HTK.out hd2)
            go_wp2
            go_quiet (fail)
            go_wp2
            go_ret2
            exact ⟨⟨_, _, rfl⟩, by rw [← ed.out]; exact H10.out.same (same_drewN _ _), keep_drewN K10.out _⟩
          have hd2 : (d == 2) = false := by simpa using hd2
          by_cases hd0 : (d == 0) = true
          · have hd0' : (d != 0) = false := by simpa using hd0
            have ed := Lib.hid (step_zero HTK.out hd0)
            go_wp2
            go_roundg k1
            case measure => omega
            case rel => exact ⟨s2, ed, Lib.hid (by have := HL.out; have := HTL2.out; rw [HAH.out] at *; simp at *; omega), Lib.hid (by have := HB.out; have := HTL2.out; rw [HAH.out] at *; simp at *; omega), H10, K10⟩
          · have hd0' : (d != 0) = true := by simpa using hd0
            have ed := Lib.hid (step_other HTK.out hd0')
            clear hd0
            go_wp2
            go_ret2
            exact ⟨⟨_, _, rfl⟩, by rw [← ed.out]; exact H10.out, K10.out⟩)
      by_cases hs6 : (s1.st == 6) = true
      · have e6 := Lib.hid (show s1.st = 6 from by simpa using hs6)
        have hs0 : (s1.st == 0) = false := by simpa using hs0
        have e0 := Lib.hid (show ¬ s1.st = 0 from by simpa using hs0)
        have hs2 : (s1.st == 2) = false := by simpa using hs2
        have e2 := Lib.hid (show ¬ s1.st = 2 from by simpa using hs2)
        go_wp2_with (first
          | ((with_reducible refine gate_dst (N := 4) rfl ?_); refine box_event ?hg (N := 4) ?hd (cs := #[.int .u8 0, .string ⟨#[]⟩]) (t := 62) ?hr ?_; (case hd => rfl); (case hg => rfl); (case hr => first | (go_simp; done) | (go_simp; rfl)); intro gb hgb w8 hbox hb8; have hgne : gb ≠ g := (by rw [hgb]; exact Nat.ne_of_gt H.out.lt); have hgne' : g ≠ gb := Ne.symm hgne; have bx0 := (blk_cell' hbox 0).trans (show _ = some (Value.int .u8 0) from rfl); have bx1 := (blk_cell' hbox 1).trans (show _ = some (Value.string ⟨#[]⟩) from rfl); have bf0 := blk_frozen' hbox 0; have bf1 := blk_frozen' hbox 1; have c28 := (hb8.cell (World.block_lt_of_cell? wr _ hc2)).trans hc2; have P8 := Lib.hid (box_pack (v1 := .int .u8 f.f0) (v2 := .string f.f1) H.out HK.out HTL.out hc2 hgb hbox hb8); clear hgb hb8 hbox; clear c3 hf0 hf1)
          | (at_builtin; go_loud (refine Kd.R_append_rows (Rr := fun x cs => ∀ W, k62.K W x cs) k62 (w8.heap.size) rfl (.const (.slice none 0 0)) (.tmp 62) 30 62 (.agg #[.int .u8 0, .string ⟨#[]⟩]) 24 rfl Try.underlying30 info62 rfl (by decide) (by omega) (.slice none 0 0) [] rest _ _ _ (fun _ => True) (fun _ => False) rfl rfl (Kd.R_nil _ _ _ _ _) ?hr (fun x cs h => by rw [k62_open (h w8)]; exact k62_mkM _ _ _ x) (fun _ h => h.elim) (fun _ _ => trivial) (Below.refl _ _) ?hs ?hl ?_; (case hr => exact P8.out.row _ (by simp [*, Addr.add])); (case hs => exact P8.out.size); (case hl => have := HB.out; rw [HAH.out] at this; simp at this ⊢; omega); intro v1 w9 ho hb9 hg9 hat; obtain ⟨A1, c1, rfl, hl1, hx1, _⟩ := R_cx flat62 ho P8.out.glt; have Q9 := Lib.hid (P8.out.on hg9); have HX1 := Lib.hid hx1; have HL1 := Lib.hid hl1; have y2 := Q9.out.s.c2; have c29 := (World.grownBy.cell (row := none) hg9 P8.out.c2 (by simp)); have f29 := Q9.out.s.fz 2; have c39 := Q9.out.s.c3; have b09 := Q9.out.b0; have b19 := Q9.out.b1; clear ho hb9 hg9 hat hl1 hx1 y2 c28 bx0 bx1 bf0 bf1)))
        all_goals (
          refine (dead_calls _ g { s1 with ahead := rest } f (Q9.out.s.setahead rest A1 c1 rest.length rfl HL1.out HX1.out) (by have := HB.out; rw [HAH.out] at this; simp at this ⊢; omega)).mono ?_
          have htk : takeS s1 f rest = deadS { s1 with ahead := rest } f := by simp [takeS, e0.out, e2.out, e6.out]
          rw [← htk]
          have HTK := Lib.hid (next_step HN.out HAH.out (by simp [e6.out]))
          have HTL2 := Lib.hid (take_len s1 f rest)
          obtain ⟨d, hd⟩ : ∃ d, (takeS s1 f rest).1 = d := ⟨_, rfl⟩
          obtain ⟨s2, hs2'⟩ : ∃ s2, (takeS s1 f rest).2 = s2 := ⟨_, rfl⟩
          rw [hd, hs2'] at HTK
          rw [hs2'] at HTL2
          rw [hd, hs2']
          clear hd hs2' htk
          rintro e w10 ⟨rfl, hS10, hK10⟩
          have H10 := Lib.hid hS10
          have c510 := hS10.c5
          have K10 := Lib.hid ((keep_set Q9.out.k 2 _).trans hK10)
          clear hS10 hK10 c29 f29 c39 b09 b19
          by_cases hd2 : (d == 2) = true
          · have ed : Hid (s2 = T) := Lib.hid (step_two HTK.out hd2)
            go_wp2
            go_quiet (fail)
            go_wp2
            go_ret2
            exact ⟨⟨_, _, rfl⟩, by rw [← ed.out]; exact H10.out.same (same_drewN _ _), keep_drewN K10.out _⟩
          have hd2 : (d == 2) = false := by simpa using hd2
          by_cases hd0 : (d == 0) = true
          · have hd0' : (d != 0) = false := by simpa using hd0
            have ed := Lib.hid (step_zero HTK.out hd0)
            go_wp2
            go_roundg k1
            case measure => omega
            case rel => exact ⟨s2, ed, Lib.hid (by have := HL.out; have := HTL2.out; rw [HAH.out] at *; simp at *; omega), Lib.hid (by have := HB.out; have := HTL2.out; rw [HAH.out] at *; simp at *; omega), H10, K10⟩
          · have hd0' : (d != 0) = true := by simpa using hd0
            have ed := Lib.hid (step_other HTK.out hd0')
            clear hd0
            go_wp2
            go_ret2
            exact ⟨⟨_, _, rfl⟩, by rw [← ed.out]; exact H10.out, K10.out⟩)
      have hs0 : (s1.st == 0) = false := by simpa using hs0
      have hs2 : (s1.st == 2) = false := by simpa using hs2
      have hs6 : (s1.st == 6) = false := by simpa using hs6
      have hT2 : nextL (k1 + 1) s1 = s1 := by
        have e0 : ¬ s1.st = 0 := by simpa using hs0
        have e2 : ¬ s1.st = 2 := by simpa using hs2
        have e6 : ¬ s1.st = 6 := by simpa using hs6
        simp [nextL, HAH.out, e0, e2, e6]
      have HN2 := Lib.hid (hT2.symm.trans HN.out)
      clear hT2
      go_wp2
      go_ret2
      exact ⟨⟨_, _, rfl⟩, by rw [← HN2.out]; exact H.out, HK.out⟩
end Go.Proofs.Ytojgiaemgpnfdaa.S
