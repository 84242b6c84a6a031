/- The walk of JudgeSession, over any invariant. -/
import Derived.Test.YtojgiaemgpnfdaaS4
import Derived.Test.YtojgiaemgpnfdaaF3
set_option linter.unusedVariables false
set_option linter.unusedSimpArgs false
namespace Go.Proofs.Ytojgiaemgpnfdaa.S
open Go.Proofs.YtojgiaemgpnfdaaW.PrintLast Go.RowKit Go.Proofs.YtojgiaemgpnfdaaM Go.Proofs.YtojgiaemgpnfdaaX Go.Proofs.YtojgiaemgpnfdaaW.PrintWords Go.Proofs.YtojgiaemgpnfdaaW.PrintMore Go.Proofs.Ytojgiaemgpnfdaa.PJudgeSession

structure RS where
  s : SS
  told : List S44
  served : List ByteArray
  n : Nat
def wayOf (ways : List Int) (i : Nat) : Int := if ways = [] then 0 else ways.getD (i % ways.length) 0
def textOf (texts : List ByteArray) (n : Nat) : ByteArray := if texts = [] then ⟨#[]⟩ else texts.getD (n % texts.length) ByteArray.empty
def actS (way : Int) (t : ByteArray) (r : RS) : RS :=
  if r.s.st = 1 then { r with s := if way = 1 then (turnS r.s).2 else (gotS r.s).2 }
  else if r.s.st = 4 then (if way = 2 then { r with s := (lostS r.s).2 } else { s := (answerS r.s t).2, told := r.told, served := r.served ++ [t], n := r.n + 1 })
  else if r.s.st = 2 then (if way = 3 then { r with s := (lostS r.s).2 } else r) else r
def roundS (ways : List Int) (texts : List ByteArray) (i : Nat) (r : RS) : RS :=
  let a := actS (wayOf ways i) (textOf texts r.n) r
  { a with s := { nextS a.s with told := [] }, told := a.told ++ (nextS a.s).told }
def startS (l : List S62) : RS := ⟨⟨⟨#[]⟩, false, l, 0, false, ⟨#[]⟩, []⟩, [], [], 0⟩

/-- What the plain side owes the walk. -/
structure Owes (l : List S62) (ways : List Int) (texts : List ByteArray) (Inv : Nat → RS → Prop) : Prop where
  start : Inv 0 (startS l)
  step : ∀ i r, i < 300 → Inv i r → Inv (i + 1) (roundS ways texts i r)
  few : ∀ i r, Inv i r → r.s.told = [] ∧ r.s.ahead.length ≤ 60 ∧ r.told.length ≤ 61 ∧ r.served.length ≤ 300 ∧ r.n ≤ 300
  few2 : ∀ i r, i < 300 → Inv i r → (actS (wayOf ways i) (textOf texts r.n) r).s.told.length + (actS (wayOf ways i) (textOf texts r.n) r).s.ahead.length ≤ 100 ∧ (nextS (actS (wayOf ways i) (textOf texts r.n) r).s).told.length ≤ 100
  fits : ∀ i r, Inv i r → ∃ k, judge_Fits.f k l r.served r.told = some (-1, 0)

theorem cx_grow {α : Type} {d : Kd α} {e : TypeId} {w W : World} {g : Nat} {A : Option Addr} {xs : List α} (h : CX d e w g A xs) (hf : FlatK d) {row : Option Nat} (hg : w.grownBy W row)
    (hrow : ∀ j, row = some j → ∃ cells fr e', w.heap[j]? = some (.cells cells e' fr) ∧ e' ≠ e) : CX d e W g A xs := by
  have hne : ∀ ad, A = some ad → 0 < xs.length → some ad.block ≠ row := by
    intro ad ea hn er
    obtain ⟨_, cells, fr, hb⟩ := h.2 ad ea hn
    obtain ⟨cells', fr', e', hb', he⟩ := hrow _ er.symm
    rw [hb] at hb'
    injection hb' with h1
    injection h1 with _ h2 _
    exact he h2.symm
  refine ⟨?_, fun ad ea hn => ⟨(h.2 ad ea hn).1, ?_⟩⟩
  · have h1 : ReadsRow (d.K W) d.sz w A xs.length xs := h.1.imp_ (Below.refl _ _) (fun x c hx => hf _ _ _ _ hx)
    refine reads_kept h1 fun a v hb hn hv => ?_
    refine hg.cell hv ?_
    obtain ⟨ad, ea, _⟩ := h.1.2.2 hn
    rw [hb ad ea hn]; exact hne ad ea hn
  · obtain ⟨_, cells, fr, hb⟩ := h.2 ad ea hn
    exact ⟨cells, fr, (hg.block _ (blk_lt hb) (hne ad ea hn)).trans hb⟩
theorem IsSess.grownt {w W : World} {g : Nat} {s : SS} (h : IsSess w g s) {row : Option Nat} (hg : w.grownBy W row)
    (hrow : ∀ j, row = some j → j ≠ g ∧ ∃ cells fr e', w.heap[j]? = some (.cells cells e' fr) ∧ e' ≠ 62 ∧ (e' ≠ 44 ∨ s.told = [])) : IsSess W g s := by
  obtain ⟨A, c, A', c', hb, h1, h2, h3, h4⟩ := h
  refine ⟨A, c, A', c', (hg.block g (blk_lt hb) (fun e => (hrow g e.symm).1 rfl)).trans hb, h1, h2, cx_grow h3 flat62 hg (fun j e => ?_), ?_⟩
  · obtain ⟨_, cells, fr, e', hx, hy, _⟩ := hrow j e
    exact ⟨cells, fr, e', hx, hy⟩
  · cases ht : s.told with
    | nil => exact ⟨⟨rfl, Nat.zero_le _, fun h => absurd h (by simp)⟩, fun ad _ hn => absurd hn (by simp)⟩
    | cons a l =>
      rw [← ht]
      refine cx_grow h4 flat44 hg (fun j e => ?_)
      obtain ⟨_, cells, fr, e', hx, _, hy⟩ := hrow j e
      refine ⟨cells, fr, e', hx, hy.resolve_right (by rw [ht]; simp)⟩
theorem R_typed {α : Type} {d : Kd α} {e : Nat} {w : World} {base : Nat} {ok : Nat → Prop} {v : Value} {xs : List α} (h : d.R e w base ok v xs) {j : Nat} (hj : v.ownBlock = some j) : ok j ∧ ∃ cells, w.heap[j]? = some (.cells cells e (0, 0)) := by
  refine ⟨h.1 j hj, ?_⟩
  obtain ⟨inner, ho⟩ := Kd.R_own h
  rcases ho.2 with ⟨rfl, _⟩ | ⟨g', cap, cur, rfl, hb, hg, _⟩
  · simp [Value.ownBlock] at hj
  · simp [Value.ownBlock] at hj
    subst hj
    exact ⟨cur, hg⟩
theorem rows_grown {α β : Type} {d : Kd α} {d' : Kd β} {e e' g : Nat} {w W : World} {base base' : Nat} {ok : Nat → Prop} {v v' : Value} {xs : List α} {ys : List β} (h : d.R e w base (fun k => k ≠ g) v xs) (h' : d'.R e' w base' ok v' ys) (he : ∀ q, q ∈ e :: d.E → q ≠ e') (hg : w.grownBy W v'.ownBlock) : d.R e W base (fun k => k ≠ g) v xs := by
  cases hv : v'.ownBlock with
  | none => rw [hv] at hg; exact Kd.R_grown h hg (fun k _ => by simp)
  | some j =>
    rw [hv] at hg
    obtain ⟨cells, hb⟩ := (R_typed h' hv).2
    refine Kd.R_mono (Kd.R_grown (Kd.R_types h hb he) hg (fun k hk => by have := hk.2; simpa using this)) (fun k hk => hk.1)
theorem isSess_new (w : World) : IsSess (w.alloc (.cells #[.string ⟨#[]⟩, .bool false, .slice none 0 0, .int .i64 0, .bool false, .string ⟨#[]⟩, .slice none 0 0] 40)) w.heap.size ⟨⟨#[]⟩, false, [], 0, false, ⟨#[]⟩, []⟩ :=
  ⟨none, 0, none, 0, (heap_alloc_new w _).trans rfl, Nat.le_refl _, Nat.le_refl _, CX.nil _ _ _ _, CX.nil _ _ _ _⟩
theorem rows_keep {α : Type} {d : Kd α} {e base g : Nat} {w W : World} {v : Value} {xs : List α} (h : d.R e w base (fun k => k ≠ g) v xs) (k : Keep (fun i => i = g) w W) : d.R e W base (fun k => k ≠ g) v xs := Kd.R_step h (fun i hi hlt => k.block i hlt hi)
theorem below_keep {B g : Nat} {w w1 W : World} (h : Below B w w1) (k : Keep (fun i => i = g) w1 W) (hg : B ≤ g) (hB : B ≤ w1.heap.size) : Below B w W := h.trans (k.below hB (fun i hi => by omega))

theorem way_cell {w : World} {A : Option Addr} {xs : List Int} (h : Kd.C (Kd.int .i64) w A xs.length xs) (i : Int) (hpos : 0 < xs.length) : ∃ ad, A = some ad ∧ w.cell? (ad.add (i % (xs.length : Int)).toNat) = some (.int .i64 (xs.getD (i % (xs.length : Int)).toNat 0)) := by
  obtain ⟨ad, c, e, _, hk, hc⟩ := Kd.C_get h 0 (i % (xs.length : Int)) (Int.emod_nonneg _ (by omega)) (Int.emod_lt_of_pos _ (by omega))
  refine ⟨ad, e, ?_⟩
  have hk' : c = [.int .i64 (xs.getD (i % (xs.length : Int)).toNat 0)] := hk
  have := hc 0 _ (by rw [hk']; rfl)
  simpa [show (Kd.int .i64).sz = 1 from rfl] using this

theorem way_cell2 {w : World} {A : Option Addr} {xs : List Int} (h : Kd.C (Kd.int .i64) w A xs.length xs) (i : Nat) (hpos : 0 < xs.length) : ∃ ad, A = some ad ∧ w.cell? (ad.add (i % xs.length)) = some (.int .i64 (wayOf xs i)) := by
  obtain ⟨ad, e, h1⟩ := way_cell h i hpos
  have e1 : ((i : Int) % (xs.length : Int)).toNat = i % xs.length := by omega
  rw [e1] at h1
  have hne : xs ≠ [] := by rintro rfl; simp at hpos
  exact ⟨ad, e, by rw [h1]; simp [wayOf, hne]⟩
theorem text_cell2 {w : World} {A : Option Addr} {xs : List ByteArray} (h : Kd.C Kd.string w A xs.length xs) (i : Nat) (hpos : 0 < xs.length) : ∃ ad, A = some ad ∧ w.cell? (ad.add (i % xs.length)) = some (.string (textOf xs i)) := by
  obtain ⟨ad, c, e, _, hk, hc⟩ := Kd.C_get h ByteArray.empty (i % (xs.length : Int)) (Int.emod_nonneg _ (by omega)) (Int.emod_lt_of_pos _ (by omega))
  have e1 : ((i : Int) % (xs.length : Int)).toNat = i % xs.length := by omega
  rw [e1] at hk hc
  refine ⟨ad, e, ?_⟩
  have hk' : c = [.string (xs.getD (i % xs.length) ByteArray.empty)] := hk
  have h1 := hc 0 _ (by rw [hk']; rfl)
  have hne : xs ≠ [] := by rintro rfl; simp at hpos
  simpa [show Kd.string.sz = 1 from rfl, textOf, hne] using h1
theorem cx_rows {w : World} {g : Nat} {A : Option Addr} {xs : List S44} (h : CX k44 44 w g A xs) : ReadsRow (fun x cs => ∀ W, k44.K W x cs) k44.sz w A xs.length xs := h.1.imp_ (Below.refl _ _) (fun x c hx W => flat44 _ _ _ _ hx)

section
variable {l : List S62} {ways : List Int} {texts : List ByteArray} {Inv : Nat → RS → Prop} {i : Nat} {r : RS} {wy : Int} {tt : ByteArray} {Y : List ByteArray}
theorem act_told (wy : Int) (tt : ByteArray) (r : RS) : (actS wy tt r).told = r.told := by unfold actS; (repeat' split) <;> rfl
theorem round_told (hw : wayOf ways i = wy) (ht : textOf texts r.n = tt) : (roundS ways texts i r).told = r.told ++ (nextS (actS wy tt r).s).told := by simp [roundS, hw, ht, act_told]
theorem round_served (hw : wayOf ways i = wy) (ht : textOf texts r.n = tt) (hY : (actS wy tt r).served = Y) : (roundS ways texts i r).served = Y := by simp [roundS, hw, ht, hY]
theorem round_n (hw : wayOf ways i = wy) (ht : textOf texts r.n = tt) : (roundS ways texts i r).n = (actS wy tt r).n := by simp [roundS, hw, ht]
theorem round_s (hw : wayOf ways i = wy) (ht : textOf texts r.n = tt) : (roundS ways texts i r).s = { nextS (actS wy tt r).s with told := [] } := by simp [roundS, hw, ht]
theorem fits_of (ho : Owes l ways texts Inv) (hi : i < 300) (hI : Inv i r) (hw : wayOf ways i = wy) (ht : textOf texts r.n = tt) (hY : (actS wy tt r).served = Y) : ∃ k, judge_Fits.f k l Y (r.told ++ (nextS (actS wy tt r).s).told) = some (-1, 0) := by
  have := ho.fits _ _ (ho.step i r hi hI)
  rwa [round_told hw ht, round_served hw ht hY] at this
theorem few2_of (ho : Owes l ways texts Inv) (hi : i < 300) (hI : Inv i r) (hw : wayOf ways i = wy) (ht : textOf texts r.n = tt) : (actS wy tt r).s.told.length + (actS wy tt r).s.ahead.length ≤ 100 ∧ (nextS (actS wy tt r).s).told.length ≤ 100 := by
  have := ho.few2 i r hi hI
  rwa [hw, ht] at this
theorem told_bound (ho : Owes l ways texts Inv) (hI : Inv i r) {n : Nat} (hn : n ≤ 100) : (r.told.length + n) * 32 ≤ 140737488355328 := by have := (ho.few i r hI).2.2.1; omega
theorem wrap_succ (i : Nat) (h : i < 300) : IntKind.i64.wrap ((i : Int) + 1) = ((i + 1 : Nat) : Int) := by
  rw [i64_w]; unfold wrap64; omega
theorem wrap_n (ho : Owes l ways texts Inv) (hI : Inv i r) : IntKind.i64.wrap ((r.n : Int) + 1) = ((r.n + 1 : Nat) : Int) := by
  have := (ho.few i r hI).2.2.2.2
  rw [i64_w]; unfold wrap64; omega
theorem answer_ok {s : SS} {t : ByteArray} (h : s.st = 4) : (answerS s t).1 = 0 := by simp [answerS, h]
end
theorem told_row {w : World} {base g : Nat} {v : Value} {xs : List S44} {s : SS} (h : Kd.R k44 44 w base (fun k => k ≠ g) v xs) (hs : s.told = []) : ∀ j, v.ownBlock = some j → j ≠ g ∧ ∃ cells fr e', w.heap[j]? = some (.cells cells e' fr) ∧ e' ≠ 62 ∧ (e' ≠ 44 ∨ s.told = []) := by
  intro j hj
  obtain ⟨h1, cells, hb⟩ := R_typed h hj
  exact ⟨h1, cells, _, 44, hb, by decide, .inr hs⟩
theorem served_row {w : World} {base g : Nat} {v : Value} {xs : List ByteArray} {s : SS} (h : Kd.R Kd.string 9 w base (fun k => k ≠ g) v xs) : ∀ j, v.ownBlock = some j → j ≠ g ∧ ∃ cells fr e', w.heap[j]? = some (.cells cells e' fr) ∧ e' ≠ 62 ∧ (e' ≠ 44 ∨ s.told = []) := by
  intro j hj
  obtain ⟨h1, cells, hb⟩ := R_typed h hj
  exact ⟨h1, cells, _, 9, hb, by decide, .inl (by decide)⟩

set_option maxHeartbeats 64000000 in
set_option maxRecDepth 100000 in
theorem session_walk (w : World) (A0 : Option Addr) (c0 : Nat) (l : List S62) (A1 : Option Addr) (c1 : Nat) (ways : List Int) (A2 : Option Addr) (c2 : Nat) (texts : List ByteArray) (up : Bool) (b : ByteArray) (ku kb kf : Nat) (Inv : Nat → RS → Prop)
    (hr0 : Kd.C k62 w A0 l.length l) (hc0 : l.length ≤ c0) (hr1 : Kd.C (Kd.int .i64) w A1 ways.length ways) (hc1 : ways.length ≤ c1) (hr2 : Kd.C Kd.string w A2 texts.length texts) (hc2 : texts.length ≤ c2)
    (hup : stopcocklaw22_fits.f ku = some up) (hbytes : stopcockref09_Bytes.f kb l = some (b, 0)) (hl : l.length ≤ 60) (hw : ways.length ≤ 200)
    (hfeed : stopcockref09_Reader_Feed.f kf ⟨#[]⟩ false b = some (l, ⟨#[]⟩, false)) (ho : Owes l ways texts Inv) :
    Calls Try.prog 4 #[.slice A0 l.length c0, .slice A1 ways.length c1, .slice A2 texts.length c2] w fun e w' => e = .returned (.bool up) ∧ Below w.heap.size w w' := by
  have H0 := Lib.hid hr0
  have H1 := Lib.hid hr1
  have H2 := Lib.hid hr2
  have HC0 := Lib.hid hc0
  have HU := Lib.hid hup
  have HBy := Lib.hid hbytes
  have HL := Lib.hid hl
  have HF := Lib.hid hfeed
  have HO := Lib.hid ho
  have HW := Lib.hid hw
  have t60 : decide ((60 : Int) < l.length) = false := by simp; omega
  have t200 : decide ((200 : Int) < ways.length) = false := by simp; omega
  clear hr0 hr1 hr2 hc0 hup hbytes hl hfeed ho hw
  go_enter Try.func4, Try.ntmps4
  go_wp2_with fail
  refine (stopcocklaw22_fits.calls ku up w HU.out).mono ?_
  rintro e w1 ⟨rfl, hb1⟩
  have B1 := Lib.hid hb1
  clear hb1
  go_wp2_with fail
  refine (stopcockref09_Bytes.calls kb A0 c0 l b 0 w1 (Kd.C_below H0.out B1.out) HC0.out HBy.out).mono ?_
  rintro e w2 ⟨rfl, hb2⟩
  have B2 := Lib.hid (B1.out.trans (hb2.mono (B1.out.size)))
  clear hb2
  go_wp2_with fail
  have HN := Lib.hid (isSess_new w2)
  refine (sfeed_calls _ _ _ b kf l ⟨#[]⟩ HN.out (by simp) (by simp) rfl HF.out (by have := HL.out; omega)).mono ?_
  rintro e w3 ⟨rfl, hS3, hK3⟩
  have hlt := blk_lt HN.out.choose_spec.choose_spec.choose_spec.choose_spec.1
  obtain ⟨g, hg⟩ : ∃ g, g = w2.heap.size := ⟨_, rfl⟩
  rw [← hg] at hS3 hK3
  have HG := Lib.hid (show w.heap.size ≤ g from by rw [hg]; exact B2.out.size)
  have H3 := Lib.hid (show IsSess w3 g (startS l).s from hS3)
  have hBa := B2.out.alloc B2.out.size (.cells #[.string ⟨#[]⟩, .bool false, .slice none 0 0, .int .i64 0, .bool false, .string ⟨#[]⟩, .slice none 0 0] 40)
  have B3 := Lib.hid (below_keep hBa hK3 HG.out hBa.size)
  rw [← hg]
  clear hS3 hK3 hlt hBa hg
  have HI0 := Lib.hid HO.out.start
  clear t60 t200
  go_wp2
  go_loopg [11, 12, 13, 43] 300 (fun kq v11 v12 v13 v43 w' => ∃ (i : Nat) (r : RS), Hid (i + kq = 300) ∧ v43 = .int .i64 i ∧ v13 = .int .i64 r.n ∧ Hid (Inv i r) ∧ Hid (Kd.R k44 44 w' w.heap.size (fun k => k ≠ g) v11 r.told) ∧ Hid (Kd.R Kd.string 9 w' w.heap.size (fun k => k ≠ g) v12 r.served) ∧ Hid (IsSess w' g r.s) ∧ Hid (Below w.heap.size w w'))
  case atStart => exact ⟨0, startS l, Lib.hid rfl, rfl, rfl, HI0, Lib.hid (Kd.R_nil _ _ _ _ _), Lib.hid (Kd.R_nil _ _ _ _ _), H3, B3⟩
  case round =>
    clear HI0 H3 B3 HN HF HBy HU
    obtain ⟨i, r, HK, rfl, rfl, HI, HT, HS, H, HB⟩ := hrel
    cases gk with
    | zero =>
      have hlt : decide ((i : Int) < 300) = false := by have := HK.out; simp; omega
      go_wp2
      go_ret
      exact ⟨rfl, HB.out⟩
    | succ k1 =>
      have hlt : decide ((i : Int) < 300) = true := by have := HK.out; simp; omega
      obtain ⟨A11, c11, rfl⟩ := Kd.R_slice HT.out
      obtain ⟨A12, c12, rfl⟩ := Kd.R_slice HS.out
      have c3 := H.out.c3
      obtain ⟨wy, hwy⟩ : ∃ wy, wayOf ways i = wy := ⟨_, rfl⟩
      obtain ⟨tt, htt⟩ : ∃ tt, textOf texts r.n = tt := ⟨_, rfl⟩
      have HWY := Lib.hid hwy
      have HTT := Lib.hid htt
      have hst0 := Lib.hid (HO.out.few i r HI.out)
      by_cases hwe : ways = []
      · have hw0 : wy = 0 := by rw [← hwy, hwe]; rfl
        have t0 : decide ((0 : Int) < ways.length) = false := by simp [hwe]
        have t0n : (0 < ways.length) = False := by simp [hwe]
        have HWE := Lib.hid hwe
        clear hwy hwe
        subst hw0
        by_cases e1 : (r.s.st == 1) = true
        · have E1 := Lib.hid (show r.s.st = 1 from by simpa using e1)
          go_wp2_with fail
          refine (got_calls _ g _ H.out (by rw [hst0.out.1]; simp)).mono ?_
          rintro e w4 ⟨rfl, hS4, hK4⟩
          have HA : Hid (IsSess w4 g (actS (0 : Int) tt r).s) := Lib.hid (by simpa [actS, E1.out, show ¬ ((0 : Int) = 1) from by decide] using hS4)
          have HY : Hid ((actS (0 : Int) tt r).served = r.served) := Lib.hid (by simp [actS, E1.out, show ¬ ((0 : Int) = 1) from by decide])
          have HNn : Hid ((actS (0 : Int) tt r).n = r.n) := Lib.hid (by simp [actS, E1.out, show ¬ ((0 : Int) = 1) from by decide])
          have HBa := Lib.hid (below_keep HB.out hK4 HG.out HB.out.size)
          have HTa := Lib.hid (rows_keep HT.out hK4)
          have HSa := Lib.hid (rows_keep HS.out hK4)
          clear hS4 hK4
          go_wp2_with fail
          have HA2 := Lib.hid (few2_of HO.out (by have := HK.out; omega) HI.out HWY.out HTT.out)
          have HI2 := Lib.hid (HO.out.step i r (by have := HK.out; omega) HI.out)
          obtain ⟨kk, hfit⟩ := fits_of HO.out (by have := HK.out; omega) HI.out HWY.out HTT.out HY.out
          obtain ⟨tl, htl⟩ : ∃ tl, r.told ++ (nextS (actS (0 : Int) tt r).s).told = tl := ⟨_, rfl⟩
          rw [htl] at hfit
          have HTLs := Lib.hid htl
          have HFIT := Lib.hid hfit
          clear hfit htl
          refine (next_calls _ g _ HA.out (by have := HA2.out.1; omega)).mono ?_
          rintro e w5 ⟨⟨ra, rb, rfl⟩, hS5, hK5⟩
          have H5 := Lib.hid hS5
          have B5 := Lib.hid (below_keep HBa.out hK5 HG.out HBa.out.size)
          have T5 := Lib.hid (rows_keep HTa.out hK5)
          have S5 := Lib.hid (rows_keep HSa.out hK5)
          clear hS5 hK5 HTa HSa HBa
          go_wp2_with fail
          refine (replies_calls _ g _ H5.out).mono ?_
          rintro e w6 ⟨A6, c6, rfl, hc6, hX6, hS6, hK6⟩
          have H6 := Lib.hid hS6
          have X6 := Lib.hid hX6
          have B6 := Lib.hid (below_keep B5.out hK6 HG.out B5.out.size)
          have T6 := Lib.hid (rows_keep T5.out hK6)
          have S6 := Lib.hid (rows_keep S5.out hK6)
          clear hS6 hK6 hX6 hc6 H5 B5 T5 S5
          go_wp2_with (at_builtin; refine Kd.R_append_rows (Rr := fun x cs => ∀ W, k44.K W x cs) k44 w.heap.size rfl (.tmp 103) (.tmp 105) 38 44 (.agg #[.int .i64 0, .int .i64 0, .string ⟨#[]⟩]) 32 rfl Try.underlying38 info44 rfl (by decide) (by omega) (.slice A11 r.told.length c11) r.told (nextS (actS (0 : Int) tt r).s).told A6 _ c6 (fun k => k ≠ g) (fun _ => False) rfl rfl T6.out (cx_rows X6.out) (fun x cs h => by rw [k44_open (h w6)]; exact k44_mkM _ _ _ x) (fun _ h => h.elim) (fun k hk => Nat.ne_of_gt (Nat.lt_of_lt_of_le H6.out.lt hk)) (Below.refl _ _) B6.out.size (told_bound HO.out HI.out HA2.out.2) ?_; intro v7 w7 ho hb7 hg7 hat; rw [HTLs.out] at ho; have Q7 := Lib.hid (H6.out.grownt hg7 (told_row T6.out rfl)); have B7 := Lib.hid (B6.out.trans hb7); have S7 := Lib.hid (rows_grown S6.out T6.out (by decide) hg7); obtain ⟨A7, c7, hv7, hl7, hC7⟩ := Kd.R_reads ho; subst hv7; have T7 := Lib.hid ho; have HC7 := Lib.hid hC7; have HL7 := Lib.hid hl7; clear ho hb7 hg7 hat hC7 hl7)
          refine (judge_Fits.calls kk A0 c0 l (fun k => k ≠ g) A12 c12 r.served A7 c7 tl (-1) 0 w7 (Kd.C_below H0.out B7.out) HC0.out (Kd.R_V S7.out) HC7.out HL7.out HFIT.out).mono ?_
          rintro e w8 ⟨rfl, hb8⟩
          have B8 := Lib.hid (B7.out.trans (hb8.mono B7.out.size))
          have Q8 := Lib.hid (Q7.out.kept (S := fun _ => False) ⟨hb8.os, hb8.tape, hb8.output, hb8.size, fun i hi _ => hb8.block i hi⟩ (fun h => h) (fun _ h => h.elim))
          have T8 := Lib.hid (Kd.R_below T7.out hb8)
          have S8 := Lib.hid (Kd.R_below S7.out hb8)
          clear hb8 Q7 S7 T7 B7 HC7 HL7 HFIT H6 X6 B6 T6 S6
          have hwi := wrap_succ i (by have := HK.out; omega)
          go_wp2_with fail
          go_roundg k1
          case measure => omega
          case rel => exact ⟨i + 1, roundS ways texts i r, Lib.hid (by have := HK.out; omega), (by first | rfl | simp), by have hnn := (round_n (i := i) (ways := ways) HWY.out HTT.out).trans HNn.out; simp [hnn], HI2, Lib.hid (by rw [round_told HWY.out HTT.out, HTLs.out]; exact T8.out), Lib.hid (by rw [round_served HWY.out HTT.out HY.out]; exact S8.out), Lib.hid (by rw [round_s HWY.out HTT.out]; exact Q8.out), B8⟩
        have e1 : (r.s.st == 1) = false := by simpa using e1
        have E1 := Lib.hid (show ¬ r.s.st = 1 from by simpa using e1)
        by_cases e4 : (r.s.st == 4) = true
        · have E4 := Lib.hid (show r.s.st = 4 from by simpa using e4)
          by_cases hte : texts = []
          · have ht0 : tt = ⟨#[]⟩ := by rw [← htt, hte]; rfl
            have u0 : decide ((0 : Int) < texts.length) = false := by simp [hte]
            have u0n : (0 < texts.length) = False := by simp [hte]
            clear htt hte
            subst ht0
            obtain ⟨sl, hsl⟩ : ∃ sl, r.served ++ [(⟨#[]⟩ : ByteArray)] = sl := ⟨_, rfl⟩
            have HSL := Lib.hid hsl
            clear hsl
            have hwn := wrap_n HO.out HI.out
            go_wp2_with fail
            refine (answer_calls _ g _ (⟨#[]⟩ : ByteArray) H.out (by rw [hst0.out.1]; simp)).mono ?_
            rw [answer_ok E4.out]
            rintro e w4 ⟨rfl, hS4, hK4⟩
            have HA4 : Hid (IsSess w4 g (actS (0 : Int) (⟨#[]⟩ : ByteArray) r).s) := Lib.hid (by simpa [actS, E4.out, show ¬ ((0 : Int) = 2) from by decide] using hS4)
            have HY : Hid ((actS (0 : Int) (⟨#[]⟩ : ByteArray) r).served = sl) := Lib.hid (by rw [← HSL.out]; simp [actS, E4.out, show ¬ ((0 : Int) = 2) from by decide])
            have HNn : Hid ((actS (0 : Int) (⟨#[]⟩ : ByteArray) r).n = r.n + 1) := Lib.hid (by simp [actS, E4.out, show ¬ ((0 : Int) = 2) from by decide])
            have HB4 := Lib.hid (below_keep HB.out hK4 HG.out HB.out.size)
            have HT4 := Lib.hid (rows_keep HT.out hK4)
            have HS4 := Lib.hid (rows_keep HS.out hK4)
            clear hS4 hK4
            go_wp2_with (at_builtin; refine Kd.R_append Kd.string w.heap.size rfl (.tmp 91) (.tmp 93) 32 9 (.string ⟨#[]⟩) 16 rfl Try.underlying32 info9 rfl (by decide) (by omega) (.slice A12 r.served.length c12) r.served (⟨#[]⟩ : ByteArray) [.string (⟨#[]⟩ : ByteArray)] (fun k => k ≠ g) (fun _ => False) rfl rfl rfl (fun _ h => h.elim) (fun k hk => Nat.ne_of_gt (Nat.lt_of_lt_of_le HA4.out.lt hk)) HS4.out (Below.refl _ _) HB4.out.size (by have := hst0.out.2.2.2.1; omega) ?_; intro v9 w9 ho hb9 hg9 hat; rw [HSL.out] at ho; have HA := Lib.hid (HA4.out.grownt hg9 (served_row HS4.out)); have HBa := Lib.hid (HB4.out.trans hb9); have HTa := Lib.hid (rows_grown HT4.out HS4.out (by decide) hg9); obtain ⟨A13, c13, rfl⟩ := Kd.R_slice ho; have HSa := Lib.hid ho; clear ho hb9 hg9 hat HA4 HB4 HT4 HS4)
            have HA2 := Lib.hid (few2_of HO.out (by have := HK.out; omega) HI.out HWY.out HTT.out)
            have HI2 := Lib.hid (HO.out.step i r (by have := HK.out; omega) HI.out)
            obtain ⟨kk, hfit⟩ := fits_of HO.out (by have := HK.out; omega) HI.out HWY.out HTT.out HY.out
            obtain ⟨tl, htl⟩ : ∃ tl, r.told ++ (nextS (actS (0 : Int) (⟨#[]⟩ : ByteArray) r).s).told = tl := ⟨_, rfl⟩
            rw [htl] at hfit
            have HTLs := Lib.hid htl
            have HFIT := Lib.hid hfit
            clear hfit htl
            refine (next_calls _ g _ HA.out (by have := HA2.out.1; omega)).mono ?_
            rintro e w5 ⟨⟨ra, rb, rfl⟩, hS5, hK5⟩
            have H5 := Lib.hid hS5
            have B5 := Lib.hid (below_keep HBa.out hK5 HG.out HBa.out.size)
            have T5 := Lib.hid (rows_keep HTa.out hK5)
            have S5 := Lib.hid (rows_keep HSa.out hK5)
            clear hS5 hK5 HTa HSa HBa
            go_wp2_with fail
            refine (replies_calls _ g _ H5.out).mono ?_
            rintro e w6 ⟨A6, c6, rfl, hc6, hX6, hS6, hK6⟩
            have H6 := Lib.hid hS6
            have X6 := Lib.hid hX6
            have B6 := Lib.hid (below_keep B5.out hK6 HG.out B5.out.size)
            have T6 := Lib.hid (rows_keep T5.out hK6)
            have S6 := Lib.hid (rows_keep S5.out hK6)
            clear hS6 hK6 hX6 hc6 H5 B5 T5 S5
            go_wp2_with (at_builtin; refine Kd.R_append_rows (Rr := fun x cs => ∀ W, k44.K W x cs) k44 w.heap.size rfl (.tmp 103) (.tmp 105) 38 44 (.agg #[.int .i64 0, .int .i64 0, .string ⟨#[]⟩]) 32 rfl Try.underlying38 info44 rfl (by decide) (by omega) (.slice A11 r.told.length c11) r.told (nextS (actS (0 : Int) (⟨#[]⟩ : ByteArray) r).s).told A6 _ c6 (fun k => k ≠ g) (fun _ => False) rfl rfl T6.out (cx_rows X6.out) (fun x cs h => by rw [k44_open (h w6)]; exact k44_mkM _ _ _ x) (fun _ h => h.elim) (fun k hk => Nat.ne_of_gt (Nat.lt_of_lt_of_le H6.out.lt hk)) (Below.refl _ _) B6.out.size (told_bound HO.out HI.out HA2.out.2) ?_; intro v7 w7 ho hb7 hg7 hat; rw [HTLs.out] at ho; have Q7 := Lib.hid (H6.out.grownt hg7 (told_row T6.out rfl)); have B7 := Lib.hid (B6.out.trans hb7); have S7 := Lib.hid (rows_grown S6.out T6.out (by decide) hg7); obtain ⟨A7, c7, hv7, hl7, hC7⟩ := Kd.R_reads ho; subst hv7; have T7 := Lib.hid ho; have HC7 := Lib.hid hC7; have HL7 := Lib.hid hl7; clear ho hb7 hg7 hat hC7 hl7)
            refine (judge_Fits.calls kk A0 c0 l (fun k => k ≠ g) A13 c13 sl A7 c7 tl (-1) 0 w7 (Kd.C_below H0.out B7.out) HC0.out (Kd.R_V S7.out) HC7.out HL7.out HFIT.out).mono ?_
            rintro e w8 ⟨rfl, hb8⟩
            have B8 := Lib.hid (B7.out.trans (hb8.mono B7.out.size))
            have Q8 := Lib.hid (Q7.out.kept (S := fun _ => False) ⟨hb8.os, hb8.tape, hb8.output, hb8.size, fun i hi _ => hb8.block i hi⟩ (fun h => h) (fun _ h => h.elim))
            have T8 := Lib.hid (Kd.R_below T7.out hb8)
            have S8 := Lib.hid (Kd.R_below S7.out hb8)
            clear hb8 Q7 S7 T7 B7 HC7 HL7 HFIT H6 X6 B6 T6 S6
            have hwi := wrap_succ i (by have := HK.out; omega)
            go_wp2_with fail
            go_roundg k1
            case measure => omega
            case rel => exact ⟨i + 1, roundS ways texts i r, Lib.hid (by have := HK.out; omega), (by first | rfl | simp), by have hnn := (round_n (i := i) (ways := ways) HWY.out HTT.out).trans HNn.out; simp [hnn], HI2, Lib.hid (by rw [round_told HWY.out HTT.out, HTLs.out]; exact T8.out), Lib.hid (by rw [round_served HWY.out HTT.out HY.out]; exact S8.out), Lib.hid (by rw [round_s HWY.out HTT.out]; exact Q8.out), B8⟩
          · have hpos2 : 0 < texts.length := List.length_pos_iff.2 hte
            have u0 : decide ((0 : Int) < texts.length) = true := by simp; omega
            have p2 : (0 : Int) ≤ (r.n : Int) % (texts.length : Int) := Int.emod_nonneg _ (by omega)
            have q2 : (r.n : Int) % (texts.length : Int) < (texts.length : Int) := Int.emod_lt_of_pos _ (by omega)
            obtain ⟨ad2, rfl, ht1⟩ := text_cell2 (Kd.C_below H2.out HB.out) r.n hpos2
            rw [htt] at ht1
            clear htt hte
            obtain ⟨sl, hsl⟩ : ∃ sl, r.served ++ [tt] = sl := ⟨_, rfl⟩
            have HSL := Lib.hid hsl
            clear hsl
            have hwn := wrap_n HO.out HI.out
            go_wp2_with fail
            refine (answer_calls _ g _ tt H.out (by rw [hst0.out.1]; simp)).mono ?_
            rw [answer_ok E4.out]
            rintro e w4 ⟨rfl, hS4, hK4⟩
            have HA4 : Hid (IsSess w4 g (actS (0 : Int) tt r).s) := Lib.hid (by simpa [actS, E4.out, show ¬ ((0 : Int) = 2) from by decide] using hS4)
            have HY : Hid ((actS (0 : Int) tt r).served = sl) := Lib.hid (by rw [← HSL.out]; simp [actS, E4.out, show ¬ ((0 : Int) = 2) from by decide])
            have HNn : Hid ((actS (0 : Int) tt r).n = r.n + 1) := Lib.hid (by simp [actS, E4.out, show ¬ ((0 : Int) = 2) from by decide])
            have HB4 := Lib.hid (below_keep HB.out hK4 HG.out HB.out.size)
            have HT4 := Lib.hid (rows_keep HT.out hK4)
            have HS4 := Lib.hid (rows_keep HS.out hK4)
            clear hS4 hK4
            go_wp2_with (at_builtin; refine Kd.R_append Kd.string w.heap.size rfl (.tmp 91) (.tmp 93) 32 9 (.string ⟨#[]⟩) 16 rfl Try.underlying32 info9 rfl (by decide) (by omega) (.slice A12 r.served.length c12) r.served tt [.string tt] (fun k => k ≠ g) (fun _ => False) rfl rfl rfl (fun _ h => h.elim) (fun k hk => Nat.ne_of_gt (Nat.lt_of_lt_of_le HA4.out.lt hk)) HS4.out (Below.refl _ _) HB4.out.size (by have := hst0.out.2.2.2.1; omega) ?_; intro v9 w9 ho hb9 hg9 hat; rw [HSL.out] at ho; have HA := Lib.hid (HA4.out.grownt hg9 (served_row HS4.out)); have HBa := Lib.hid (HB4.out.trans hb9); have HTa := Lib.hid (rows_grown HT4.out HS4.out (by decide) hg9); obtain ⟨A13, c13, rfl⟩ := Kd.R_slice ho; have HSa := Lib.hid ho; clear ho hb9 hg9 hat HA4 HB4 HT4 HS4)
            have HA2 := Lib.hid (few2_of HO.out (by have := HK.out; omega) HI.out HWY.out HTT.out)
            have HI2 := Lib.hid (HO.out.step i r (by have := HK.out; omega) HI.out)
            obtain ⟨kk, hfit⟩ := fits_of HO.out (by have := HK.out; omega) HI.out HWY.out HTT.out HY.out
            obtain ⟨tl, htl⟩ : ∃ tl, r.told ++ (nextS (actS (0 : Int) tt r).s).told = tl := ⟨_, rfl⟩
            rw [htl] at hfit
            have HTLs := Lib.hid htl
            have HFIT := Lib.hid hfit
            clear hfit htl
            refine (next_calls _ g _ HA.out (by have := HA2.out.1; omega)).mono ?_
            rintro e w5 ⟨⟨ra, rb, rfl⟩, hS5, hK5⟩
            have H5 := Lib.hid hS5
            have B5 := Lib.hid (below_keep HBa.out hK5 HG.out HBa.out.size)
            have T5 := Lib.hid (rows_keep HTa.out hK5)
            have S5 := Lib.hid (rows_keep HSa.out hK5)
            clear hS5 hK5 HTa HSa HBa
            go_wp2_with fail
            refine (replies_calls _ g _ H5.out).mono ?_
            rintro e w6 ⟨A6, c6, rfl, hc6, hX6, hS6, hK6⟩
            have H6 := Lib.hid hS6
            have X6 := Lib.hid hX6
            have B6 := Lib.hid (below_keep B5.out hK6 HG.out B5.out.size)
            have T6 := Lib.hid (rows_keep T5.out hK6)
            have S6 := Lib.hid (rows_keep S5.out hK6)
            clear hS6 hK6 hX6 hc6 H5 B5 T5 S5
            go_wp2_with (at_builtin; refine Kd.R_append_rows (Rr := fun x cs => ∀ W, k44.K W x cs) k44 w.heap.size rfl (.tmp 103) (.tmp 105) 38 44 (.agg #[.int .i64 0, .int .i64 0, .string ⟨#[]⟩]) 32 rfl Try.underlying38 info44 rfl (by decide) (by omega) (.slice A11 r.told.length c11) r.told (nextS (actS (0 : Int) tt r).s).told A6 _ c6 (fun k => k ≠ g) (fun _ => False) rfl rfl T6.out (cx_rows X6.out) (fun x cs h => by rw [k44_open (h w6)]; exact k44_mkM _ _ _ x) (fun _ h => h.elim) (fun k hk => Nat.ne_of_gt (Nat.lt_of_lt_of_le H6.out.lt hk)) (Below.refl _ _) B6.out.size (told_bound HO.out HI.out HA2.out.2) ?_; intro v7 w7 ho hb7 hg7 hat; rw [HTLs.out] at ho; have Q7 := Lib.hid (H6.out.grownt hg7 (told_row T6.out rfl)); have B7 := Lib.hid (B6.out.trans hb7); have S7 := Lib.hid (rows_grown S6.out T6.out (by decide) hg7); obtain ⟨A7, c7, hv7, hl7, hC7⟩ := Kd.R_reads ho; subst hv7; have T7 := Lib.hid ho; have HC7 := Lib.hid hC7; have HL7 := Lib.hid hl7; clear ho hb7 hg7 hat hC7 hl7)
            refine (judge_Fits.calls kk A0 c0 l (fun k => k ≠ g) A13 c13 sl A7 c7 tl (-1) 0 w7 (Kd.C_below H0.out B7.out) HC0.out (Kd.R_V S7.out) HC7.out HL7.out HFIT.out).mono ?_
            rintro e w8 ⟨rfl, hb8⟩
            have B8 := Lib.hid (B7.out.trans (hb8.mono B7.out.size))
            have Q8 := Lib.hid (Q7.out.kept (S := fun _ => False) ⟨hb8.os, hb8.tape, hb8.output, hb8.size, fun i hi _ => hb8.block i hi⟩ (fun h => h) (fun _ h => h.elim))
            have T8 := Lib.hid (Kd.R_below T7.out hb8)
            have S8 := Lib.hid (Kd.R_below S7.out hb8)
            clear hb8 Q7 S7 T7 B7 HC7 HL7 HFIT H6 X6 B6 T6 S6
            have hwi := wrap_succ i (by have := HK.out; omega)
            go_wp2_with fail
            go_roundg k1
            case measure => omega
            case rel => exact ⟨i + 1, roundS ways texts i r, Lib.hid (by have := HK.out; omega), (by first | rfl | simp), by have hnn := (round_n (i := i) (ways := ways) HWY.out HTT.out).trans HNn.out; simp [hnn], HI2, Lib.hid (by rw [round_told HWY.out HTT.out, HTLs.out]; exact T8.out), Lib.hid (by rw [round_served HWY.out HTT.out HY.out]; exact S8.out), Lib.hid (by rw [round_s HWY.out HTT.out]; exact Q8.out), B8⟩
        have e4 : (r.s.st == 4) = false := by simpa using e4
        have E4 := Lib.hid (show ¬ r.s.st = 4 from by simpa using e4)
        by_cases e2 : (r.s.st == 2) = true
        · have E2 := Lib.hid (show r.s.st = 2 from by simpa using e2)
          go_wp2_with fail
          have HA : Hid (IsSess wr g (actS (0 : Int) tt r).s) := Lib.hid (by simpa [actS, E2.out, show ¬ ((0 : Int) = 3) from by decide] using H.out)
          have HY : Hid ((actS (0 : Int) tt r).served = r.served) := Lib.hid (by simp [actS, E2.out, show ¬ ((0 : Int) = 3) from by decide])
          have HNn : Hid ((actS (0 : Int) tt r).n = r.n) := Lib.hid (by simp [actS, E2.out, show ¬ ((0 : Int) = 3) from by decide])
          have HBa := HB
          have HTa := HT
          have HSa := HS
          have HA2 := Lib.hid (few2_of HO.out (by have := HK.out; omega) HI.out HWY.out HTT.out)
          have HI2 := Lib.hid (HO.out.step i r (by have := HK.out; omega) HI.out)
          obtain ⟨kk, hfit⟩ := fits_of HO.out (by have := HK.out; omega) HI.out HWY.out HTT.out HY.out
          obtain ⟨tl, htl⟩ : ∃ tl, r.told ++ (nextS (actS (0 : Int) tt r).s).told = tl := ⟨_, rfl⟩
          rw [htl] at hfit
          have HTLs := Lib.hid htl
          have HFIT := Lib.hid hfit
          clear hfit htl
          refine (next_calls _ g _ HA.out (by have := HA2.out.1; omega)).mono ?_
          rintro e w5 ⟨⟨ra, rb, rfl⟩, hS5, hK5⟩
          have H5 := Lib.hid hS5
          have B5 := Lib.hid (below_keep HBa.out hK5 HG.out HBa.out.size)
          have T5 := Lib.hid (rows_keep HTa.out hK5)
          have S5 := Lib.hid (rows_keep HSa.out hK5)
          clear hS5 hK5 HTa HSa HBa
          go_wp2_with fail
          refine (replies_calls _ g _ H5.out).mono ?_
          rintro e w6 ⟨A6, c6, rfl, hc6, hX6, hS6, hK6⟩
          have H6 := Lib.hid hS6
          have X6 := Lib.hid hX6
          have B6 := Lib.hid (below_keep B5.out hK6 HG.out B5.out.size)
          have T6 := Lib.hid (rows_keep T5.out hK6)
          have S6 := Lib.hid (rows_keep S5.out hK6)
          clear hS6 hK6 hX6 hc6 H5 B5 T5 S5
          go_wp2_with (at_builtin; refine Kd.R_append_rows (Rr := fun x cs => ∀ W, k44.K W x cs) k44 w.heap.size rfl (.tmp 103) (.tmp 105) 38 44 (.agg #[.int .i64 0, .int .i64 0, .string ⟨#[]⟩]) 32 rfl Try.underlying38 info44 rfl (by decide) (by omega) (.slice A11 r.told.length c11) r.told (nextS (actS (0 : Int) tt r).s).told A6 _ c6 (fun k => k ≠ g) (fun _ => False) rfl rfl T6.out (cx_rows X6.out) (fun x cs h => by rw [k44_open (h w6)]; exact k44_mkM _ _ _ x) (fun _ h => h.elim) (fun k hk => Nat.ne_of_gt (Nat.lt_of_lt_of_le H6.out.lt hk)) (Below.refl _ _) B6.out.size (told_bound HO.out HI.out HA2.out.2) ?_; intro v7 w7 ho hb7 hg7 hat; rw [HTLs.out] at ho; have Q7 := Lib.hid (H6.out.grownt hg7 (told_row T6.out rfl)); have B7 := Lib.hid (B6.out.trans hb7); have S7 := Lib.hid (rows_grown S6.out T6.out (by decide) hg7); obtain ⟨A7, c7, hv7, hl7, hC7⟩ := Kd.R_reads ho; subst hv7; have T7 := Lib.hid ho; have HC7 := Lib.hid hC7; have HL7 := Lib.hid hl7; clear ho hb7 hg7 hat hC7 hl7)
          refine (judge_Fits.calls kk A0 c0 l (fun k => k ≠ g) A12 c12 r.served A7 c7 tl (-1) 0 w7 (Kd.C_below H0.out B7.out) HC0.out (Kd.R_V S7.out) HC7.out HL7.out HFIT.out).mono ?_
          rintro e w8 ⟨rfl, hb8⟩
          have B8 := Lib.hid (B7.out.trans (hb8.mono B7.out.size))
          have Q8 := Lib.hid (Q7.out.kept (S := fun _ => False) ⟨hb8.os, hb8.tape, hb8.output, hb8.size, fun i hi _ => hb8.block i hi⟩ (fun h => h) (fun _ h => h.elim))
          have T8 := Lib.hid (Kd.R_below T7.out hb8)
          have S8 := Lib.hid (Kd.R_below S7.out hb8)
          clear hb8 Q7 S7 T7 B7 HC7 HL7 HFIT H6 X6 B6 T6 S6
          have hwi := wrap_succ i (by have := HK.out; omega)
          go_wp2_with fail
          go_roundg k1
          case measure => omega
          case rel => exact ⟨i + 1, roundS ways texts i r, Lib.hid (by have := HK.out; omega), (by first | rfl | simp), by have hnn := (round_n (i := i) (ways := ways) HWY.out HTT.out).trans HNn.out; simp [hnn], HI2, Lib.hid (by rw [round_told HWY.out HTT.out, HTLs.out]; exact T8.out), Lib.hid (by rw [round_served HWY.out HTT.out HY.out]; exact S8.out), Lib.hid (by rw [round_s HWY.out HTT.out]; exact Q8.out), B8⟩
        have e2 : (r.s.st == 2) = false := by simpa using e2
        have E2 := Lib.hid (show ¬ r.s.st = 2 from by simpa using e2)
        go_wp2_with fail
        have HA : Hid (IsSess wr g (actS (0 : Int) tt r).s) := Lib.hid (by simpa [actS, E1.out, E4.out, E2.out] using H.out)
        have HY : Hid ((actS (0 : Int) tt r).served = r.served) := Lib.hid (by simp [actS, E1.out, E4.out, E2.out])
        have HNn : Hid ((actS (0 : Int) tt r).n = r.n) := Lib.hid (by simp [actS, E1.out, E4.out, E2.out])
        have HBa := HB
        have HTa := HT
        have HSa := HS
        have HA2 := Lib.hid (few2_of HO.out (by have := HK.out; omega) HI.out HWY.out HTT.out)
        have HI2 := Lib.hid (HO.out.step i r (by have := HK.out; omega) HI.out)
        obtain ⟨kk, hfit⟩ := fits_of HO.out (by have := HK.out; omega) HI.out HWY.out HTT.out HY.out
        obtain ⟨tl, htl⟩ : ∃ tl, r.told ++ (nextS (actS (0 : Int) tt r).s).told = tl := ⟨_, rfl⟩
        rw [htl] at hfit
        have HTLs := Lib.hid htl
        have HFIT := Lib.hid hfit
        clear hfit htl
        refine (next_calls _ g _ HA.out (by have := HA2.out.1; omega)).mono ?_
        rintro e w5 ⟨⟨ra, rb, rfl⟩, hS5, hK5⟩
        have H5 := Lib.hid hS5
        have B5 := Lib.hid (below_keep HBa.out hK5 HG.out HBa.out.size)
        have T5 := Lib.hid (rows_keep HTa.out hK5)
        have S5 := Lib.hid (rows_keep HSa.out hK5)
        clear hS5 hK5 HTa HSa HBa
        go_wp2_with fail
        refine (replies_calls _ g _ H5.out).mono ?_
        rintro e w6 ⟨A6, c6, rfl, hc6, hX6, hS6, hK6⟩
        have H6 := Lib.hid hS6
        have X6 := Lib.hid hX6
        have B6 := Lib.hid (below_keep B5.out hK6 HG.out B5.out.size)
        have T6 := Lib.hid (rows_keep T5.out hK6)
        have S6 := Lib.hid (rows_keep S5.out hK6)
        clear hS6 hK6 hX6 hc6 H5 B5 T5 S5
        go_wp2_with (at_builtin; refine Kd.R_append_rows (Rr := fun x cs => ∀ W, k44.K W x cs) k44 w.heap.size rfl (.tmp 103) (.tmp 105) 38 44 (.agg #[.int .i64 0, .int .i64 0, .string ⟨#[]⟩]) 32 rfl Try.underlying38 info44 rfl (by decide) (by omega) (.slice A11 r.told.length c11) r.told (nextS (actS (0 : Int) tt r).s).told A6 _ c6 (fun k => k ≠ g) (fun _ => False) rfl rfl T6.out (cx_rows X6.out) (fun x cs h => by rw [k44_open (h w6)]; exact k44_mkM _ _ _ x) (fun _ h => h.elim) (fun k hk => Nat.ne_of_gt (Nat.lt_of_lt_of_le H6.out.lt hk)) (Below.refl _ _) B6.out.size (told_bound HO.out HI.out HA2.out.2) ?_; intro v7 w7 ho hb7 hg7 hat; rw [HTLs.out] at ho; have Q7 := Lib.hid (H6.out.grownt hg7 (told_row T6.out rfl)); have B7 := Lib.hid (B6.out.trans hb7); have S7 := Lib.hid (rows_grown S6.out T6.out (by decide) hg7); obtain ⟨A7, c7, hv7, hl7, hC7⟩ := Kd.R_reads ho; subst hv7; have T7 := Lib.hid ho; have HC7 := Lib.hid hC7; have HL7 := Lib.hid hl7; clear ho hb7 hg7 hat hC7 hl7)
        refine (judge_Fits.calls kk A0 c0 l (fun k => k ≠ g) A12 c12 r.served A7 c7 tl (-1) 0 w7 (Kd.C_below H0.out B7.out) HC0.out (Kd.R_V S7.out) HC7.out HL7.out HFIT.out).mono ?_
        rintro e w8 ⟨rfl, hb8⟩
        have B8 := Lib.hid (B7.out.trans (hb8.mono B7.out.size))
        have Q8 := Lib.hid (Q7.out.kept (S := fun _ => False) ⟨hb8.os, hb8.tape, hb8.output, hb8.size, fun i hi _ => hb8.block i hi⟩ (fun h => h) (fun _ h => h.elim))
        have T8 := Lib.hid (Kd.R_below T7.out hb8)
        have S8 := Lib.hid (Kd.R_below S7.out hb8)
        clear hb8 Q7 S7 T7 B7 HC7 HL7 HFIT H6 X6 B6 T6 S6
        have hwi := wrap_succ i (by have := HK.out; omega)
        go_wp2_with fail
        go_roundg k1
        case measure => omega
        case rel => exact ⟨i + 1, roundS ways texts i r, Lib.hid (by have := HK.out; omega), (by first | rfl | simp), by have hnn := (round_n (i := i) (ways := ways) HWY.out HTT.out).trans HNn.out; simp [hnn], HI2, Lib.hid (by rw [round_told HWY.out HTT.out, HTLs.out]; exact T8.out), Lib.hid (by rw [round_served HWY.out HTT.out HY.out]; exact S8.out), Lib.hid (by rw [round_s HWY.out HTT.out]; exact Q8.out), B8⟩
      · have hpos : 0 < ways.length := List.length_pos_iff.2 hwe
        have t0 : decide ((0 : Int) < ways.length) = true := by simp; omega
        have p0 : (0 : Int) ≤ (i : Int) % (ways.length : Int) := Int.emod_nonneg _ (by omega)
        have q0 : (i : Int) % (ways.length : Int) < (ways.length : Int) := Int.emod_lt_of_pos _ (by omega)
        obtain ⟨ad1, rfl, hw1⟩ := way_cell2 (Kd.C_below H1.out HB.out) i hpos
        rw [hwy] at hw1
        clear hwy hwe
        by_cases e1 : (r.s.st == 1) = true
        · have E1 := Lib.hid (show r.s.st = 1 from by simpa using e1)
          by_cases hw : (wy == 1) = true
          · have EW := Lib.hid (show wy = 1 from by simpa using hw)
            go_wp2_with fail
            refine (turn_calls _ g _ H.out (by rw [hst0.out.1]; simp)).mono ?_
            rintro e w4 ⟨rfl, hS4, hK4⟩
            have HA : Hid (IsSess w4 g (actS wy tt r).s) := Lib.hid (by simpa [actS, E1.out, EW.out] using hS4)
            have HY : Hid ((actS wy tt r).served = r.served) := Lib.hid (by simp [actS, E1.out, EW.out])
            have HNn : Hid ((actS wy tt r).n = r.n) := Lib.hid (by simp [actS, E1.out, EW.out])
            have HBa := Lib.hid (below_keep HB.out hK4 HG.out HB.out.size)
            have HTa := Lib.hid (rows_keep HT.out hK4)
            have HSa := Lib.hid (rows_keep HS.out hK4)
            clear hS4 hK4
            go_wp2_with fail
            have HA2 := Lib.hid (few2_of HO.out (by have := HK.out; omega) HI.out HWY.out HTT.out)
            have HI2 := Lib.hid (HO.out.step i r (by have := HK.out; omega) HI.out)
            obtain ⟨kk, hfit⟩ := fits_of HO.out (by have := HK.out; omega) HI.out HWY.out HTT.out HY.out
            obtain ⟨tl, htl⟩ : ∃ tl, r.told ++ (nextS (actS wy tt r).s).told = tl := ⟨_, rfl⟩
            rw [htl] at hfit
            have HTLs := Lib.hid htl
            have HFIT := Lib.hid hfit
            clear hfit htl
            refine (next_calls _ g _ HA.out (by have := HA2.out.1; omega)).mono ?_
            rintro e w5 ⟨⟨ra, rb, rfl⟩, hS5, hK5⟩
            have H5 := Lib.hid hS5
            have B5 := Lib.hid (below_keep HBa.out hK5 HG.out HBa.out.size)
            have T5 := Lib.hid (rows_keep HTa.out hK5)
            have S5 := Lib.hid (rows_keep HSa.out hK5)
            clear hS5 hK5 HTa HSa HBa
            go_wp2_with fail
            refine (replies_calls _ g _ H5.out).mono ?_
            rintro e w6 ⟨A6, c6, rfl, hc6, hX6, hS6, hK6⟩
            have H6 := Lib.hid hS6
            have X6 := Lib.hid hX6
            have B6 := Lib.hid (below_keep B5.out hK6 HG.out B5.out.size)
            have T6 := Lib.hid (rows_keep T5.out hK6)
            have S6 := Lib.hid (rows_keep S5.out hK6)
            clear hS6 hK6 hX6 hc6 H5 B5 T5 S5
            go_wp2_with (at_builtin; refine Kd.R_append_rows (Rr := fun x cs => ∀ W, k44.K W x cs) k44 w.heap.size rfl (.tmp 103) (.tmp 105) 38 44 (.agg #[.int .i64 0, .int .i64 0, .string ⟨#[]⟩]) 32 rfl Try.underlying38 info44 rfl (by decide) (by omega) (.slice A11 r.told.length c11) r.told (nextS (actS wy tt r).s).told A6 _ c6 (fun k => k ≠ g) (fun _ => False) rfl rfl T6.out (cx_rows X6.out) (fun x cs h => by rw [k44_open (h w6)]; exact k44_mkM _ _ _ x) (fun _ h => h.elim) (fun k hk => Nat.ne_of_gt (Nat.lt_of_lt_of_le H6.out.lt hk)) (Below.refl _ _) B6.out.size (told_bound HO.out HI.out HA2.out.2) ?_; intro v7 w7 ho hb7 hg7 hat; rw [HTLs.out] at ho; have Q7 := Lib.hid (H6.out.grownt hg7 (told_row T6.out rfl)); have B7 := Lib.hid (B6.out.trans hb7); have S7 := Lib.hid (rows_grown S6.out T6.out (by decide) hg7); obtain ⟨A7, c7, hv7, hl7, hC7⟩ := Kd.R_reads ho; subst hv7; have T7 := Lib.hid ho; have HC7 := Lib.hid hC7; have HL7 := Lib.hid hl7; clear ho hb7 hg7 hat hC7 hl7)
            refine (judge_Fits.calls kk A0 c0 l (fun k => k ≠ g) A12 c12 r.served A7 c7 tl (-1) 0 w7 (Kd.C_below H0.out B7.out) HC0.out (Kd.R_V S7.out) HC7.out HL7.out HFIT.out).mono ?_
            rintro e w8 ⟨rfl, hb8⟩
            have B8 := Lib.hid (B7.out.trans (hb8.mono B7.out.size))
            have Q8 := Lib.hid (Q7.out.kept (S := fun _ => False) ⟨hb8.os, hb8.tape, hb8.output, hb8.size, fun i hi _ => hb8.block i hi⟩ (fun h => h) (fun _ h => h.elim))
            have T8 := Lib.hid (Kd.R_below T7.out hb8)
            have S8 := Lib.hid (Kd.R_below S7.out hb8)
            clear hb8 Q7 S7 T7 B7 HC7 HL7 HFIT H6 X6 B6 T6 S6
            have hwi := wrap_succ i (by have := HK.out; omega)
            go_wp2_with fail
            go_roundg k1
            case measure => omega
            case rel => exact ⟨i + 1, roundS ways texts i r, Lib.hid (by have := HK.out; omega), (by first | rfl | simp), by have hnn := (round_n (i := i) (ways := ways) HWY.out HTT.out).trans HNn.out; simp [hnn], HI2, Lib.hid (by rw [round_told HWY.out HTT.out, HTLs.out]; exact T8.out), Lib.hid (by rw [round_served HWY.out HTT.out HY.out]; exact S8.out), Lib.hid (by rw [round_s HWY.out HTT.out]; exact Q8.out), B8⟩
          · have hw : (wy == 1) = false := by simpa using hw
            have EW := Lib.hid (show ¬ wy = 1 from by simpa using hw)
            go_wp2_with fail
            refine (got_calls _ g _ H.out (by rw [hst0.out.1]; simp)).mono ?_
            rintro e w4 ⟨rfl, hS4, hK4⟩
            have HA : Hid (IsSess w4 g (actS wy tt r).s) := Lib.hid (by simpa [actS, E1.out, EW.out] using hS4)
            have HY : Hid ((actS wy tt r).served = r.served) := Lib.hid (by simp [actS, E1.out, EW.out])
            have HNn : Hid ((actS wy tt r).n = r.n) := Lib.hid (by simp [actS, E1.out, EW.out])
            have HBa := Lib.hid (below_keep HB.out hK4 HG.out HB.out.size)
            have HTa := Lib.hid (rows_keep HT.out hK4)
            have HSa := Lib.hid (rows_keep HS.out hK4)
            clear hS4 hK4
            go_wp2_with fail
            have HA2 := Lib.hid (few2_of HO.out (by have := HK.out; omega) HI.out HWY.out HTT.out)
            have HI2 := Lib.hid (HO.out.step i r (by have := HK.out; omega) HI.out)
            obtain ⟨kk, hfit⟩ := fits_of HO.out (by have := HK.out; omega) HI.out HWY.out HTT.out HY.out
            obtain ⟨tl, htl⟩ : ∃ tl, r.told ++ (nextS (actS wy tt r).s).told = tl := ⟨_, rfl⟩
            rw [htl] at hfit
            have HTLs := Lib.hid htl
            have HFIT := Lib.hid hfit
            clear hfit htl
            refine (next_calls _ g _ HA.out (by have := HA2.out.1; omega)).mono ?_
            rintro e w5 ⟨⟨ra, rb, rfl⟩, hS5, hK5⟩
            have H5 := Lib.hid hS5
            have B5 := Lib.hid (below_keep HBa.out hK5 HG.out HBa.out.size)
            have T5 := Lib.hid (rows_keep HTa.out hK5)
            have S5 := Lib.hid (rows_keep HSa.out hK5)
            clear hS5 hK5 HTa HSa HBa
            go_wp2_with fail
            refine (replies_calls _ g _ H5.out).mono ?_
            rintro e w6 ⟨A6, c6, rfl, hc6, hX6, hS6, hK6⟩
            have H6 := Lib.hid hS6
            have X6 := Lib.hid hX6
            have B6 := Lib.hid (below_keep B5.out hK6 HG.out B5.out.size)
            have T6 := Lib.hid (rows_keep T5.out hK6)
            have S6 := Lib.hid (rows_keep S5.out hK6)
            clear hS6 hK6 hX6 hc6 H5 B5 T5 S5
            go_wp2_with (at_builtin; refine Kd.R_append_rows (Rr := fun x cs => ∀ W, k44.K W x cs) k44 w.heap.size rfl (.tmp 103) (.tmp 105) 38 44 (.agg #[.int .i64 0, .int .i64 0, .string ⟨#[]⟩]) 32 rfl Try.underlying38 info44 rfl (by decide) (by omega) (.slice A11 r.told.length c11) r.told (nextS (actS wy tt r).s).told A6 _ c6 (fun k => k ≠ g) (fun _ => False) rfl rfl T6.out (cx_rows X6.out) (fun x cs h => by rw [k44_open (h w6)]; exact k44_mkM _ _ _ x) (fun _ h => h.elim) (fun k hk => Nat.ne_of_gt (Nat.lt_of_lt_of_le H6.out.lt hk)) (Below.refl _ _) B6.out.size (told_bound HO.out HI.out HA2.out.2) ?_; intro v7 w7 ho hb7 hg7 hat; rw [HTLs.out] at ho; have Q7 := Lib.hid (H6.out.grownt hg7 (told_row T6.out rfl)); have B7 := Lib.hid (B6.out.trans hb7); have S7 := Lib.hid (rows_grown S6.out T6.out (by decide) hg7); obtain ⟨A7, c7, hv7, hl7, hC7⟩ := Kd.R_reads ho; subst hv7; have T7 := Lib.hid ho; have HC7 := Lib.hid hC7; have HL7 := Lib.hid hl7; clear ho hb7 hg7 hat hC7 hl7)
            refine (judge_Fits.calls kk A0 c0 l (fun k => k ≠ g) A12 c12 r.served A7 c7 tl (-1) 0 w7 (Kd.C_below H0.out B7.out) HC0.out (Kd.R_V S7.out) HC7.out HL7.out HFIT.out).mono ?_
            rintro e w8 ⟨rfl, hb8⟩
            have B8 := Lib.hid (B7.out.trans (hb8.mono B7.out.size))
            have Q8 := Lib.hid (Q7.out.kept (S := fun _ => False) ⟨hb8.os, hb8.tape, hb8.output, hb8.size, fun i hi _ => hb8.block i hi⟩ (fun h => h) (fun _ h => h.elim))
            have T8 := Lib.hid (Kd.R_below T7.out hb8)
            have S8 := Lib.hid (Kd.R_below S7.out hb8)
            clear hb8 Q7 S7 T7 B7 HC7 HL7 HFIT H6 X6 B6 T6 S6
            have hwi := wrap_succ i (by have := HK.out; omega)
            go_wp2_with fail
            go_roundg k1
            case measure => omega
            case rel => exact ⟨i + 1, roundS ways texts i r, Lib.hid (by have := HK.out; omega), (by first | rfl | simp), by have hnn := (round_n (i := i) (ways := ways) HWY.out HTT.out).trans HNn.out; simp [hnn], HI2, Lib.hid (by rw [round_told HWY.out HTT.out, HTLs.out]; exact T8.out), Lib.hid (by rw [round_served HWY.out HTT.out HY.out]; exact S8.out), Lib.hid (by rw [round_s HWY.out HTT.out]; exact Q8.out), B8⟩
        have e1 : (r.s.st == 1) = false := by simpa using e1
        have E1 := Lib.hid (show ¬ r.s.st = 1 from by simpa using e1)
        by_cases e4 : (r.s.st == 4) = true
        · have E4 := Lib.hid (show r.s.st = 4 from by simpa using e4)
          by_cases hw : (wy == 2) = true
          · have EW := Lib.hid (show wy = 2 from by simpa using hw)
            go_wp2_with fail
            refine (lost_calls _ g _ H.out (by rw [hst0.out.1]; simp)).mono ?_
            rintro e w4 ⟨rfl, hS4, hK4⟩
            have HA : Hid (IsSess w4 g (actS wy tt r).s) := Lib.hid (by simpa [actS, E4.out, EW.out] using hS4)
            have HY : Hid ((actS wy tt r).served = r.served) := Lib.hid (by simp [actS, E4.out, EW.out])
            have HNn : Hid ((actS wy tt r).n = r.n) := Lib.hid (by simp [actS, E4.out, EW.out])
            have HBa := Lib.hid (below_keep HB.out hK4 HG.out HB.out.size)
            have HTa := Lib.hid (rows_keep HT.out hK4)
            have HSa := Lib.hid (rows_keep HS.out hK4)
            clear hS4 hK4
            go_wp2_with fail
            have HA2 := Lib.hid (few2_of HO.out (by have := HK.out; omega) HI.out HWY.out HTT.out)
            have HI2 := Lib.hid (HO.out.step i r (by have := HK.out; omega) HI.out)
            obtain ⟨kk, hfit⟩ := fits_of HO.out (by have := HK.out; omega) HI.out HWY.out HTT.out HY.out
            obtain ⟨tl, htl⟩ : ∃ tl, r.told ++ (nextS (actS wy tt r).s).told = tl := ⟨_, rfl⟩
            rw [htl] at hfit
            have HTLs := Lib.hid htl
            have HFIT := Lib.hid hfit
            clear hfit htl
            refine (next_calls _ g _ HA.out (by have := HA2.out.1; omega)).mono ?_
            rintro e w5 ⟨⟨ra, rb, rfl⟩, hS5, hK5⟩
            have H5 := Lib.hid hS5
            have B5 := Lib.hid (below_keep HBa.out hK5 HG.out HBa.out.size)
            have T5 := Lib.hid (rows_keep HTa.out hK5)
            have S5 := Lib.hid (rows_keep HSa.out hK5)
            clear hS5 hK5 HTa HSa HBa
            go_wp2_with fail
            refine (replies_calls _ g _ H5.out).mono ?_
            rintro e w6 ⟨A6, c6, rfl, hc6, hX6, hS6, hK6⟩
            have H6 := Lib.hid hS6
            have X6 := Lib.hid hX6
            have B6 := Lib.hid (below_keep B5.out hK6 HG.out B5.out.size)
            have T6 := Lib.hid (rows_keep T5.out hK6)
            have S6 := Lib.hid (rows_keep S5.out hK6)
            clear hS6 hK6 hX6 hc6 H5 B5 T5 S5
            go_wp2_with (at_builtin; refine Kd.R_append_rows (Rr := fun x cs => ∀ W, k44.K W x cs) k44 w.heap.size rfl (.tmp 103) (.tmp 105) 38 44 (.agg #[.int .i64 0, .int .i64 0, .string ⟨#[]⟩]) 32 rfl Try.underlying38 info44 rfl (by decide) (by omega) (.slice A11 r.told.length c11) r.told (nextS (actS wy tt r).s).told A6 _ c6 (fun k => k ≠ g) (fun _ => False) rfl rfl T6.out (cx_rows X6.out) (fun x cs h => by rw [k44_open (h w6)]; exact k44_mkM _ _ _ x) (fun _ h => h.elim) (fun k hk => Nat.ne_of_gt (Nat.lt_of_lt_of_le H6.out.lt hk)) (Below.refl _ _) B6.out.size (told_bound HO.out HI.out HA2.out.2) ?_; intro v7 w7 ho hb7 hg7 hat; rw [HTLs.out] at ho; have Q7 := Lib.hid (H6.out.grownt hg7 (told_row T6.out rfl)); have B7 := Lib.hid (B6.out.trans hb7); have S7 := Lib.hid (rows_grown S6.out T6.out (by decide) hg7); obtain ⟨A7, c7, hv7, hl7, hC7⟩ := Kd.R_reads ho; subst hv7; have T7 := Lib.hid ho; have HC7 := Lib.hid hC7; have HL7 := Lib.hid hl7; clear ho hb7 hg7 hat hC7 hl7)
            refine (judge_Fits.calls kk A0 c0 l (fun k => k ≠ g) A12 c12 r.served A7 c7 tl (-1) 0 w7 (Kd.C_below H0.out B7.out) HC0.out (Kd.R_V S7.out) HC7.out HL7.out HFIT.out).mono ?_
            rintro e w8 ⟨rfl, hb8⟩
            have B8 := Lib.hid (B7.out.trans (hb8.mono B7.out.size))
            have Q8 := Lib.hid (Q7.out.kept (S := fun _ => False) ⟨hb8.os, hb8.tape, hb8.output, hb8.size, fun i hi _ => hb8.block i hi⟩ (fun h => h) (fun _ h => h.elim))
            have T8 := Lib.hid (Kd.R_below T7.out hb8)
            have S8 := Lib.hid (Kd.R_below S7.out hb8)
            clear hb8 Q7 S7 T7 B7 HC7 HL7 HFIT H6 X6 B6 T6 S6
            have hwi := wrap_succ i (by have := HK.out; omega)
            go_wp2_with fail
            go_roundg k1
            case measure => omega
            case rel => exact ⟨i + 1, roundS ways texts i r, Lib.hid (by have := HK.out; omega), (by first | rfl | simp), by have hnn := (round_n (i := i) (ways := ways) HWY.out HTT.out).trans HNn.out; simp [hnn], HI2, Lib.hid (by rw [round_told HWY.out HTT.out, HTLs.out]; exact T8.out), Lib.hid (by rw [round_served HWY.out HTT.out HY.out]; exact S8.out), Lib.hid (by rw [round_s HWY.out HTT.out]; exact Q8.out), B8⟩
          · have hw : (wy == 2) = false := by simpa using hw
            have EW := Lib.hid (show ¬ wy = 2 from by simpa using hw)
            by_cases hte : texts = []
            · have ht0 : tt = ⟨#[]⟩ := by rw [← htt, hte]; rfl
              have u0 : decide ((0 : Int) < texts.length) = false := by simp [hte]
              have u0n : (0 < texts.length) = False := by simp [hte]
              clear htt hte
              subst ht0
              obtain ⟨sl, hsl⟩ : ∃ sl, r.served ++ [(⟨#[]⟩ : ByteArray)] = sl := ⟨_, rfl⟩
              have HSL := Lib.hid hsl
              clear hsl
              have hwn := wrap_n HO.out HI.out
              go_wp2_with fail
              refine (answer_calls _ g _ (⟨#[]⟩ : ByteArray) H.out (by rw [hst0.out.1]; simp)).mono ?_
              rw [answer_ok E4.out]
              rintro e w4 ⟨rfl, hS4, hK4⟩
              have HA4 : Hid (IsSess w4 g (actS wy (⟨#[]⟩ : ByteArray) r).s) := Lib.hid (by simpa [actS, E4.out, EW.out] using hS4)
              have HY : Hid ((actS wy (⟨#[]⟩ : ByteArray) r).served = sl) := Lib.hid (by rw [← HSL.out]; simp [actS, E4.out, EW.out])
              have HNn : Hid ((actS wy (⟨#[]⟩ : ByteArray) r).n = r.n + 1) := Lib.hid (by simp [actS, E4.out, EW.out])
              have HB4 := Lib.hid (below_keep HB.out hK4 HG.out HB.out.size)
              have HT4 := Lib.hid (rows_keep HT.out hK4)
              have HS4 := Lib.hid (rows_keep HS.out hK4)
              clear hS4 hK4
              go_wp2_with (at_builtin; refine Kd.R_append Kd.string w.heap.size rfl (.tmp 91) (.tmp 93) 32 9 (.string ⟨#[]⟩) 16 rfl Try.underlying32 info9 rfl (by decide) (by omega) (.slice A12 r.served.length c12) r.served (⟨#[]⟩ : ByteArray) [.string (⟨#[]⟩ : ByteArray)] (fun k => k ≠ g) (fun _ => False) rfl rfl rfl (fun _ h => h.elim) (fun k hk => Nat.ne_of_gt (Nat.lt_of_lt_of_le HA4.out.lt hk)) HS4.out (Below.refl _ _) HB4.out.size (by have := hst0.out.2.2.2.1; omega) ?_; intro v9 w9 ho hb9 hg9 hat; rw [HSL.out] at ho; have HA := Lib.hid (HA4.out.grownt hg9 (served_row HS4.out)); have HBa := Lib.hid (HB4.out.trans hb9); have HTa := Lib.hid (rows_grown HT4.out HS4.out (by decide) hg9); obtain ⟨A13, c13, rfl⟩ := Kd.R_slice ho; have HSa := Lib.hid ho; clear ho hb9 hg9 hat HA4 HB4 HT4 HS4)
              have HA2 := Lib.hid (few2_of HO.out (by have := HK.out; omega) HI.out HWY.out HTT.out)
              have HI2 := Lib.hid (HO.out.step i r (by have := HK.out; omega) HI.out)
              obtain ⟨kk, hfit⟩ := fits_of HO.out (by have := HK.out; omega) HI.out HWY.out HTT.out HY.out
              obtain ⟨tl, htl⟩ : ∃ tl, r.told ++ (nextS (actS wy (⟨#[]⟩ : ByteArray) r).s).told = tl := ⟨_, rfl⟩
              rw [htl] at hfit
              have HTLs := Lib.hid htl
              have HFIT := Lib.hid hfit
              clear hfit htl
              refine (next_calls _ g _ HA.out (by have := HA2.out.1; omega)).mono ?_
              rintro e w5 ⟨⟨ra, rb, rfl⟩, hS5, hK5⟩
              have H5 := Lib.hid hS5
              have B5 := Lib.hid (below_keep HBa.out hK5 HG.out HBa.out.size)
              have T5 := Lib.hid (rows_keep HTa.out hK5)
              have S5 := Lib.hid (rows_keep HSa.out hK5)
              clear hS5 hK5 HTa HSa HBa
              go_wp2_with fail
              refine (replies_calls _ g _ H5.out).mono ?_
              rintro e w6 ⟨A6, c6, rfl, hc6, hX6, hS6, hK6⟩
              have H6 := Lib.hid hS6
              have X6 := Lib.hid hX6
              have B6 := Lib.hid (below_keep B5.out hK6 HG.out B5.out.size)
              have T6 := Lib.hid (rows_keep T5.out hK6)
              have S6 := Lib.hid (rows_keep S5.out hK6)
              clear hS6 hK6 hX6 hc6 H5 B5 T5 S5
              go_wp2_with (at_builtin; refine Kd.R_append_rows (Rr := fun x cs => ∀ W, k44.K W x cs) k44 w.heap.size rfl (.tmp 103) (.tmp 105) 38 44 (.agg #[.int .i64 0, .int .i64 0, .string ⟨#[]⟩]) 32 rfl Try.underlying38 info44 rfl (by decide) (by omega) (.slice A11 r.told.length c11) r.told (nextS (actS wy (⟨#[]⟩ : ByteArray) r).s).told A6 _ c6 (fun k => k ≠ g) (fun _ => False) rfl rfl T6.out (cx_rows X6.out) (fun x cs h => by rw [k44_open (h w6)]; exact k44_mkM _ _ _ x) (fun _ h => h.elim) (fun k hk => Nat.ne_of_gt (Nat.lt_of_lt_of_le H6.out.lt hk)) (Below.refl _ _) B6.out.size (told_bound HO.out HI.out HA2.out.2) ?_; intro v7 w7 ho hb7 hg7 hat; rw [HTLs.out] at ho; have Q7 := Lib.hid (H6.out.grownt hg7 (told_row T6.out rfl)); have B7 := Lib.hid (B6.out.trans hb7); have S7 := Lib.hid (rows_grown S6.out T6.out (by decide) hg7); obtain ⟨A7, c7, hv7, hl7, hC7⟩ := Kd.R_reads ho; subst hv7; have T7 := Lib.hid ho; have HC7 := Lib.hid hC7; have HL7 := Lib.hid hl7; clear ho hb7 hg7 hat hC7 hl7)
              refine (judge_Fits.calls kk A0 c0 l (fun k => k ≠ g) A13 c13 sl A7 c7 tl (-1) 0 w7 (Kd.C_below H0.out B7.out) HC0.out (Kd.R_V S7.out) HC7.out HL7.out HFIT.out).mono ?_
              rintro e w8 ⟨rfl, hb8⟩
              have B8 := Lib.hid (B7.out.trans (hb8.mono B7.out.size))
              have Q8 := Lib.hid (Q7.out.kept (S := fun _ => False) ⟨hb8.os, hb8.tape, hb8.output, hb8.size, fun i hi _ => hb8.block i hi⟩ (fun h => h) (fun _ h => h.elim))
              have T8 := Lib.hid (Kd.R_below T7.out hb8)
              have S8 := Lib.hid (Kd.R_below S7.out hb8)
              clear hb8 Q7 S7 T7 B7 HC7 HL7 HFIT H6 X6 B6 T6 S6
              have hwi := wrap_succ i (by have := HK.out; omega)
              go_wp2_with fail
              go_roundg k1
              case measure => omega
              case rel => exact ⟨i + 1, roundS ways texts i r, Lib.hid (by have := HK.out; omega), (by first | rfl | simp), by have hnn := (round_n (i := i) (ways := ways) HWY.out HTT.out).trans HNn.out; simp [hnn], HI2, Lib.hid (by rw [round_told HWY.out HTT.out, HTLs.out]; exact T8.out), Lib.hid (by rw [round_served HWY.out HTT.out HY.out]; exact S8.out), Lib.hid (by rw [round_s HWY.out HTT.out]; exact Q8.out), B8⟩
            · have hpos2 : 0 < texts.length := List.length_pos_iff.2 hte
              have u0 : decide ((0 : Int) < texts.length) = true := by simp; omega
              have p2 : (0 : Int) ≤ (r.n : Int) % (texts.length : Int) := Int.emod_nonneg _ (by omega)
              have q2 : (r.n : Int) % (texts.length : Int) < (texts.length : Int) := Int.emod_lt_of_pos _ (by omega)
              obtain ⟨ad2, rfl, ht1⟩ := text_cell2 (Kd.C_below H2.out HB.out) r.n hpos2
              rw [htt] at ht1
              clear htt hte
              obtain ⟨sl, hsl⟩ : ∃ sl, r.served ++ [tt] = sl := ⟨_, rfl⟩
              have HSL := Lib.hid hsl
              clear hsl
              have hwn := wrap_n HO.out HI.out
              go_wp2_with fail
              refine (answer_calls _ g _ tt H.out (by rw [hst0.out.1]; simp)).mono ?_
              rw [answer_ok E4.out]
              rintro e w4 ⟨rfl, hS4, hK4⟩
              have HA4 : Hid (IsSess w4 g (actS wy tt r).s) := Lib.hid (by simpa [actS, E4.out, EW.out] using hS4)
              have HY : Hid ((actS wy tt r).served = sl) := Lib.hid (by rw [← HSL.out]; simp [actS, E4.out, EW.out])
              have HNn : Hid ((actS wy tt r).n = r.n + 1) := Lib.hid (by simp [actS, E4.out, EW.out])
              have HB4 := Lib.hid (below_keep HB.out hK4 HG.out HB.out.size)
              have HT4 := Lib.hid (rows_keep HT.out hK4)
              have HS4 := Lib.hid (rows_keep HS.out hK4)
              clear hS4 hK4
              go_wp2_with (at_builtin; refine Kd.R_append Kd.string w.heap.size rfl (.tmp 91) (.tmp 93) 32 9 (.string ⟨#[]⟩) 16 rfl Try.underlying32 info9 rfl (by decide) (by omega) (.slice A12 r.served.length c12) r.served tt [.string tt] (fun k => k ≠ g) (fun _ => False) rfl rfl rfl (fun _ h => h.elim) (fun k hk => Nat.ne_of_gt (Nat.lt_of_lt_of_le HA4.out.lt hk)) HS4.out (Below.refl _ _) HB4.out.size (by have := hst0.out.2.2.2.1; omega) ?_; intro v9 w9 ho hb9 hg9 hat; rw [HSL.out] at ho; have HA := Lib.hid (HA4.out.grownt hg9 (served_row HS4.out)); have HBa := Lib.hid (HB4.out.trans hb9); have HTa := Lib.hid (rows_grown HT4.out HS4.out (by decide) hg9); obtain ⟨A13, c13, rfl⟩ := Kd.R_slice ho; have HSa := Lib.hid ho; clear ho hb9 hg9 hat HA4 HB4 HT4 HS4)
              have HA2 := Lib.hid (few2_of HO.out (by have := HK.out; omega) HI.out HWY.out HTT.out)
              have HI2 := Lib.hid (HO.out.step i r (by have := HK.out; omega) HI.out)
              obtain ⟨kk, hfit⟩ := fits_of HO.out (by have := HK.out; omega) HI.out HWY.out HTT.out HY.out
              obtain ⟨tl, htl⟩ : ∃ tl, r.told ++ (nextS (actS wy tt r).s).told = tl := ⟨_, rfl⟩
              rw [htl] at hfit
              have HTLs := Lib.hid htl
              have HFIT := Lib.hid hfit
              clear hfit htl
              refine (next_calls _ g _ HA.out (by have := HA2.out.1; omega)).mono ?_
              rintro e w5 ⟨⟨ra, rb, rfl⟩, hS5, hK5⟩
              have H5 := Lib.hid hS5
              have B5 := Lib.hid (below_keep HBa.out hK5 HG.out HBa.out.size)
              have T5 := Lib.hid (rows_keep HTa.out hK5)
              have S5 := Lib.hid (rows_keep HSa.out hK5)
              clear hS5 hK5 HTa HSa HBa
              go_wp2_with fail
              refine (replies_calls _ g _ H5.out).mono ?_
              rintro e w6 ⟨A6, c6, rfl, hc6, hX6, hS6, hK6⟩
              have H6 := Lib.hid hS6
              have X6 := Lib.hid hX6
              have B6 := Lib.hid (below_keep B5.out hK6 HG.out B5.out.size)
              have T6 := Lib.hid (rows_keep T5.out hK6)
              have S6 := Lib.hid (rows_keep S5.out hK6)
              clear hS6 hK6 hX6 hc6 H5 B5 T5 S5
              go_wp2_with (at_builtin; refine Kd.R_append_rows (Rr := fun x cs => ∀ W, k44.K W x cs) k44 w.heap.size rfl (.tmp 103) (.tmp 105) 38 44 (.agg #[.int .i64 0, .int .i64 0, .string ⟨#[]⟩]) 32 rfl Try.underlying38 info44 rfl (by decide) (by omega) (.slice A11 r.told.length c11) r.told (nextS (actS wy tt r).s).told A6 _ c6 (fun k => k ≠ g) (fun _ => False) rfl rfl T6.out (cx_rows X6.out) (fun x cs h => by rw [k44_open (h w6)]; exact k44_mkM _ _ _ x) (fun _ h => h.elim) (fun k hk => Nat.ne_of_gt (Nat.lt_of_lt_of_le H6.out.lt hk)) (Below.refl _ _) B6.out.size (told_bound HO.out HI.out HA2.out.2) ?_; intro v7 w7 ho hb7 hg7 hat; rw [HTLs.out] at ho; have Q7 := Lib.hid (H6.out.grownt hg7 (told_row T6.out rfl)); have B7 := Lib.hid (B6.out.trans hb7); have S7 := Lib.hid (rows_grown S6.out T6.out (by decide) hg7); obtain ⟨A7, c7, hv7, hl7, hC7⟩ := Kd.R_reads ho; subst hv7; have T7 := Lib.hid ho; have HC7 := Lib.hid hC7; have HL7 := Lib.hid hl7; clear ho hb7 hg7 hat hC7 hl7)
              refine (judge_Fits.calls kk A0 c0 l (fun k => k ≠ g) A13 c13 sl A7 c7 tl (-1) 0 w7 (Kd.C_below H0.out B7.out) HC0.out (Kd.R_V S7.out) HC7.out HL7.out HFIT.out).mono ?_
              rintro e w8 ⟨rfl, hb8⟩
              have B8 := Lib.hid (B7.out.trans (hb8.mono B7.out.size))
              have Q8 := Lib.hid (Q7.out.kept (S := fun _ => False) ⟨hb8.os, hb8.tape, hb8.output, hb8.size, fun i hi _ => hb8.block i hi⟩ (fun h => h) (fun _ h => h.elim))
              have T8 := Lib.hid (Kd.R_below T7.out hb8)
              have S8 := Lib.hid (Kd.R_below S7.out hb8)
              clear hb8 Q7 S7 T7 B7 HC7 HL7 HFIT H6 X6 B6 T6 S6
              have hwi := wrap_succ i (by have := HK.out; omega)
              go_wp2_with fail
              go_roundg k1
              case measure => omega
              case rel => exact ⟨i + 1, roundS ways texts i r, Lib.hid (by have := HK.out; omega), (by first | rfl | simp), by have hnn := (round_n (i := i) (ways := ways) HWY.out HTT.out).trans HNn.out; simp [hnn], HI2, Lib.hid (by rw [round_told HWY.out HTT.out, HTLs.out]; exact T8.out), Lib.hid (by rw [round_served HWY.out HTT.out HY.out]; exact S8.out), Lib.hid (by rw [round_s HWY.out HTT.out]; exact Q8.out), B8⟩
        have e4 : (r.s.st == 4) = false := by simpa using e4
        have E4 := Lib.hid (show ¬ r.s.st = 4 from by simpa using e4)
        by_cases e2 : (r.s.st == 2) = true
        · have E2 := Lib.hid (show r.s.st = 2 from by simpa using e2)
          by_cases hw : (wy == 3) = true
          · have EW := Lib.hid (show wy = 3 from by simpa using hw)
            go_wp2_with fail
            refine (lost_calls _ g _ H.out (by rw [hst0.out.1]; simp)).mono ?_
            rintro e w4 ⟨rfl, hS4, hK4⟩
            have HA : Hid (IsSess w4 g (actS wy tt r).s) := Lib.hid (by simpa [actS, E2.out, EW.out] using hS4)
            have HY : Hid ((actS wy tt r).served = r.served) := Lib.hid (by simp [actS, E2.out, EW.out])
            have HNn : Hid ((actS wy tt r).n = r.n) := Lib.hid (by simp [actS, E2.out, EW.out])
            have HBa := Lib.hid (below_keep HB.out hK4 HG.out HB.out.size)
            have HTa := Lib.hid (rows_keep HT.out hK4)
            have HSa := Lib.hid (rows_keep HS.out hK4)
            clear hS4 hK4
            go_wp2_with fail
            have HA2 := Lib.hid (few2_of HO.out (by have := HK.out; omega) HI.out HWY.out HTT.out)
            have HI2 := Lib.hid (HO.out.step i r (by have := HK.out; omega) HI.out)
            obtain ⟨kk, hfit⟩ := fits_of HO.out (by have := HK.out; omega) HI.out HWY.out HTT.out HY.out
            obtain ⟨tl, htl⟩ : ∃ tl, r.told ++ (nextS (actS wy tt r).s).told = tl := ⟨_, rfl⟩
            rw [htl] at hfit
            have HTLs := Lib.hid htl
            have HFIT := Lib.hid hfit
            clear hfit htl
            refine (next_calls _ g _ HA.out (by have := HA2.out.1; omega)).mono ?_
            rintro e w5 ⟨⟨ra, rb, rfl⟩, hS5, hK5⟩
            have H5 := Lib.hid hS5
            have B5 := Lib.hid (below_keep HBa.out hK5 HG.out HBa.out.size)
            have T5 := Lib.hid (rows_keep HTa.out hK5)
            have S5 := Lib.hid (rows_keep HSa.out hK5)
            clear hS5 hK5 HTa HSa HBa
            go_wp2_with fail
            refine (replies_calls _ g _ H5.out).mono ?_
            rintro e w6 ⟨A6, c6, rfl, hc6, hX6, hS6, hK6⟩
            have H6 := Lib.hid hS6
            have X6 := Lib.hid hX6
            have B6 := Lib.hid (below_keep B5.out hK6 HG.out B5.out.size)
            have T6 := Lib.hid (rows_keep T5.out hK6)
            have S6 := Lib.hid (rows_keep S5.out hK6)
            clear hS6 hK6 hX6 hc6 H5 B5 T5 S5
            go_wp2_with (at_builtin; refine Kd.R_append_rows (Rr := fun x cs => ∀ W, k44.K W x cs) k44 w.heap.size rfl (.tmp 103) (.tmp 105) 38 44 (.agg #[.int .i64 0, .int .i64 0, .string ⟨#[]⟩]) 32 rfl Try.underlying38 info44 rfl (by decide) (by omega) (.slice A11 r.told.length c11) r.told (nextS (actS wy tt r).s).told A6 _ c6 (fun k => k ≠ g) (fun _ => False) rfl rfl T6.out (cx_rows X6.out) (fun x cs h => by rw [k44_open (h w6)]; exact k44_mkM _ _ _ x) (fun _ h => h.elim) (fun k hk => Nat.ne_of_gt (Nat.lt_of_lt_of_le H6.out.lt hk)) (Below.refl _ _) B6.out.size (told_bound HO.out HI.out HA2.out.2) ?_; intro v7 w7 ho hb7 hg7 hat; rw [HTLs.out] at ho; have Q7 := Lib.hid (H6.out.grownt hg7 (told_row T6.out rfl)); have B7 := Lib.hid (B6.out.trans hb7); have S7 := Lib.hid (rows_grown S6.out T6.out (by decide) hg7); obtain ⟨A7, c7, hv7, hl7, hC7⟩ := Kd.R_reads ho; subst hv7; have T7 := Lib.hid ho; have HC7 := Lib.hid hC7; have HL7 := Lib.hid hl7; clear ho hb7 hg7 hat hC7 hl7)
            refine (judge_Fits.calls kk A0 c0 l (fun k => k ≠ g) A12 c12 r.served A7 c7 tl (-1) 0 w7 (Kd.C_below H0.out B7.out) HC0.out (Kd.R_V S7.out) HC7.out HL7.out HFIT.out).mono ?_
            rintro e w8 ⟨rfl, hb8⟩
            have B8 := Lib.hid (B7.out.trans (hb8.mono B7.out.size))
            have Q8 := Lib.hid (Q7.out.kept (S := fun _ => False) ⟨hb8.os, hb8.tape, hb8.output, hb8.size, fun i hi _ => hb8.block i hi⟩ (fun h => h) (fun _ h => h.elim))
            have T8 := Lib.hid (Kd.R_below T7.out hb8)
            have S8 := Lib.hid (Kd.R_below S7.out hb8)
            clear hb8 Q7 S7 T7 B7 HC7 HL7 HFIT H6 X6 B6 T6 S6
            have hwi := wrap_succ i (by have := HK.out; omega)
            go_wp2_with fail
            go_roundg k1
            case measure => omega
            case rel => exact ⟨i + 1, roundS ways texts i r, Lib.hid (by have := HK.out; omega), (by first | rfl | simp), by have hnn := (round_n (i := i) (ways := ways) HWY.out HTT.out).trans HNn.out; simp [hnn], HI2, Lib.hid (by rw [round_told HWY.out HTT.out, HTLs.out]; exact T8.out), Lib.hid (by rw [round_served HWY.out HTT.out HY.out]; exact S8.out), Lib.hid (by rw [round_s HWY.out HTT.out]; exact Q8.out), B8⟩
          · have hw : (wy == 3) = false := by simpa using hw
            have EW := Lib.hid (show ¬ wy = 3 from by simpa using hw)
            go_wp2_with fail
            have HA : Hid (IsSess wr g (actS wy tt r).s) := Lib.hid (by simpa [actS, E2.out, EW.out] using H.out)
            have HY : Hid ((actS wy tt r).served = r.served) := Lib.hid (by simp [actS, E2.out, EW.out])
            have HNn : Hid ((actS wy tt r).n = r.n) := Lib.hid (by simp [actS, E2.out, EW.out])
            have HBa := HB
            have HTa := HT
            have HSa := HS
            have HA2 := Lib.hid (few2_of HO.out (by have := HK.out; omega) HI.out HWY.out HTT.out)
            have HI2 := Lib.hid (HO.out.step i r (by have := HK.out; omega) HI.out)
            obtain ⟨kk, hfit⟩ := fits_of HO.out (by have := HK.out; omega) HI.out HWY.out HTT.out HY.out
            obtain ⟨tl, htl⟩ : ∃ tl, r.told ++ (nextS (actS wy tt r).s).told = tl := ⟨_, rfl⟩
            rw [htl] at hfit
            have HTLs := Lib.hid htl
            have HFIT := Lib.hid hfit
            clear hfit htl
            refine (next_calls _ g _ HA.out (by have := HA2.out.1; omega)).mono ?_
            rintro e w5 ⟨⟨ra, rb, rfl⟩, hS5, hK5⟩
            have H5 := Lib.hid hS5
            have B5 := Lib.hid (below_keep HBa.out hK5 HG.out HBa.out.size)
            have T5 := Lib.hid (rows_keep HTa.out hK5)
            have S5 := Lib.hid (rows_keep HSa.out hK5)
            clear hS5 hK5 HTa HSa HBa
            go_wp2_with fail
            refine (replies_calls _ g _ H5.out).mono ?_
            rintro e w6 ⟨A6, c6, rfl, hc6, hX6, hS6, hK6⟩
            have H6 := Lib.hid hS6
            have X6 := Lib.hid hX6
            have B6 := Lib.hid (below_keep B5.out hK6 HG.out B5.out.size)
            have T6 := Lib.hid (rows_keep T5.out hK6)
            have S6 := Lib.hid (rows_keep S5.out hK6)
            clear hS6 hK6 hX6 hc6 H5 B5 T5 S5
            go_wp2_with (at_builtin; refine Kd.R_append_rows (Rr := fun x cs => ∀ W, k44.K W x cs) k44 w.heap.size rfl (.tmp 103) (.tmp 105) 38 44 (.agg #[.int .i64 0, .int .i64 0, .string ⟨#[]⟩]) 32 rfl Try.underlying38 info44 rfl (by decide) (by omega) (.slice A11 r.told.length c11) r.told (nextS (actS wy tt r).s).told A6 _ c6 (fun k => k ≠ g) (fun _ => False) rfl rfl T6.out (cx_rows X6.out) (fun x cs h => by rw [k44_open (h w6)]; exact k44_mkM _ _ _ x) (fun _ h => h.elim) (fun k hk => Nat.ne_of_gt (Nat.lt_of_lt_of_le H6.out.lt hk)) (Below.refl _ _) B6.out.size (told_bound HO.out HI.out HA2.out.2) ?_; intro v7 w7 ho hb7 hg7 hat; rw [HTLs.out] at ho; have Q7 := Lib.hid (H6.out.grownt hg7 (told_row T6.out rfl)); have B7 := Lib.hid (B6.out.trans hb7); have S7 := Lib.hid (rows_grown S6.out T6.out (by decide) hg7); obtain ⟨A7, c7, hv7, hl7, hC7⟩ := Kd.R_reads ho; subst hv7; have T7 := Lib.hid ho; have HC7 := Lib.hid hC7; have HL7 := Lib.hid hl7; clear ho hb7 hg7 hat hC7 hl7)
            refine (judge_Fits.calls kk A0 c0 l (fun k => k ≠ g) A12 c12 r.served A7 c7 tl (-1) 0 w7 (Kd.C_below H0.out B7.out) HC0.out (Kd.R_V S7.out) HC7.out HL7.out HFIT.out).mono ?_
            rintro e w8 ⟨rfl, hb8⟩
            have B8 := Lib.hid (B7.out.trans (hb8.mono B7.out.size))
            have Q8 := Lib.hid (Q7.out.kept (S := fun _ => False) ⟨hb8.os, hb8.tape, hb8.output, hb8.size, fun i hi _ => hb8.block i hi⟩ (fun h => h) (fun _ h => h.elim))
            have T8 := Lib.hid (Kd.R_below T7.out hb8)
            have S8 := Lib.hid (Kd.R_below S7.out hb8)
            clear hb8 Q7 S7 T7 B7 HC7 HL7 HFIT H6 X6 B6 T6 S6
            have hwi := wrap_succ i (by have := HK.out; omega)
            go_wp2_with fail
            go_roundg k1
            case measure => omega
            case rel => exact ⟨i + 1, roundS ways texts i r, Lib.hid (by have := HK.out; omega), (by first | rfl | simp), by have hnn := (round_n (i := i) (ways := ways) HWY.out HTT.out).trans HNn.out; simp [hnn], HI2, Lib.hid (by rw [round_told HWY.out HTT.out, HTLs.out]; exact T8.out), Lib.hid (by rw [round_served HWY.out HTT.out HY.out]; exact S8.out), Lib.hid (by rw [round_s HWY.out HTT.out]; exact Q8.out), B8⟩
        have e2 : (r.s.st == 2) = false := by simpa using e2
        have E2 := Lib.hid (show ¬ r.s.st = 2 from by simpa using e2)
        go_wp2_with fail
        have HA : Hid (IsSess wr g (actS wy tt r).s) := Lib.hid (by simpa [actS, E1.out, E4.out, E2.out] using H.out)
        have HY : Hid ((actS wy tt r).served = r.served) := Lib.hid (by simp [actS, E1.out, E4.out, E2.out])
        have HNn : Hid ((actS wy tt r).n = r.n) := Lib.hid (by simp [actS, E1.out, E4.out, E2.out])
        have HBa := HB
        have HTa := HT
        have HSa := HS
        have HA2 := Lib.hid (few2_of HO.out (by have := HK.out; omega) HI.out HWY.out HTT.out)
        have HI2 := Lib.hid (HO.out.step i r (by have := HK.out; omega) HI.out)
        obtain ⟨kk, hfit⟩ := fits_of HO.out (by have := HK.out; omega) HI.out HWY.out HTT.out HY.out
        obtain ⟨tl, htl⟩ : ∃ tl, r.told ++ (nextS (actS wy tt r).s).told = tl := ⟨_, rfl⟩
        rw [htl] at hfit
        have HTLs := Lib.hid htl
        have HFIT := Lib.hid hfit
        clear hfit htl
        refine (next_calls _ g _ HA.out (by have := HA2.out.1; omega)).mono ?_
        rintro e w5 ⟨⟨ra, rb, rfl⟩, hS5, hK5⟩
        have H5 := Lib.hid hS5
        have B5 := Lib.hid (below_keep HBa.out hK5 HG.out HBa.out.size)
        have T5 := Lib.hid (rows_keep HTa.out hK5)
        have S5 := Lib.hid (rows_keep HSa.out hK5)
        clear hS5 hK5 HTa HSa HBa
        go_wp2_with fail
        refine (replies_calls _ g _ H5.out).mono ?_
        rintro e w6 ⟨A6, c6, rfl, hc6, hX6, hS6, hK6⟩
        have H6 := Lib.hid hS6
        have X6 := Lib.hid hX6
        have B6 := Lib.hid (below_keep B5.out hK6 HG.out B5.out.size)
        have T6 := Lib.hid (rows_keep T5.out hK6)
        have S6 := Lib.hid (rows_keep S5.out hK6)
        clear hS6 hK6 hX6 hc6 H5 B5 T5 S5
        go_wp2_with (at_builtin; refine Kd.R_append_rows (Rr := fun x cs => ∀ W, k44.K W x cs) k44 w.heap.size rfl (.tmp 103) (.tmp 105) 38 44 (.agg #[.int .i64 0, .int .i64 0, .string ⟨#[]⟩]) 32 rfl Try.underlying38 info44 rfl (by decide) (by omega) (.slice A11 r.told.length c11) r.told (nextS (actS wy tt r).s).told A6 _ c6 (fun k => k ≠ g) (fun _ => False) rfl rfl T6.out (cx_rows X6.out) (fun x cs h => by rw [k44_open (h w6)]; exact k44_mkM _ _ _ x) (fun _ h => h.elim) (fun k hk => Nat.ne_of_gt (Nat.lt_of_lt_of_le H6.out.lt hk)) (Below.refl _ _) B6.out.size (told_bound HO.out HI.out HA2.out.2) ?_; intro v7 w7 ho hb7 hg7 hat; rw [HTLs.out] at ho; have Q7 := Lib.hid (H6.out.grownt hg7 (told_row T6.out rfl)); have B7 := Lib.hid (B6.out.trans hb7); have S7 := Lib.hid (rows_grown S6.out T6.out (by decide) hg7); obtain ⟨A7, c7, hv7, hl7, hC7⟩ := Kd.R_reads ho; subst hv7; have T7 := Lib.hid ho; have HC7 := Lib.hid hC7; have HL7 := Lib.hid hl7; clear ho hb7 hg7 hat hC7 hl7)
        refine (judge_Fits.calls kk A0 c0 l (fun k => k ≠ g) A12 c12 r.served A7 c7 tl (-1) 0 w7 (Kd.C_below H0.out B7.out) HC0.out (Kd.R_V S7.out) HC7.out HL7.out HFIT.out).mono ?_
        rintro e w8 ⟨rfl, hb8⟩
        have B8 := Lib.hid (B7.out.trans (hb8.mono B7.out.size))
        have Q8 := Lib.hid (Q7.out.kept (S := fun _ => False) ⟨hb8.os, hb8.tape, hb8.output, hb8.size, fun i hi _ => hb8.block i hi⟩ (fun h => h) (fun _ h => h.elim))
        have T8 := Lib.hid (Kd.R_below T7.out hb8)
        have S8 := Lib.hid (Kd.R_below S7.out hb8)
        clear hb8 Q7 S7 T7 B7 HC7 HL7 HFIT H6 X6 B6 T6 S6
        have hwi := wrap_succ i (by have := HK.out; omega)
        go_wp2_with fail
        go_roundg k1
        case measure => omega
        case rel => exact ⟨i + 1, roundS ways texts i r, Lib.hid (by have := HK.out; omega), (by first | rfl | simp), by have hnn := (round_n (i := i) (ways := ways) HWY.out HTT.out).trans HNn.out; simp [hnn], HI2, Lib.hid (by rw [round_told HWY.out HTT.out, HTLs.out]; exact T8.out), Lib.hid (by rw [round_served HWY.out HTT.out HY.out]; exact S8.out), Lib.hid (by rw [round_s HWY.out HTT.out]; exact Q8.out), B8⟩
end Go.Proofs.Ytojgiaemgpnfdaa.S
