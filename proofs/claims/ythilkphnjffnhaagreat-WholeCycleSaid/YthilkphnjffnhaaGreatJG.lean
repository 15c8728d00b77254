/- The walks of the package recurrence: weeks, years, dates. -/
import Derived.Test.YthilkphnjffnhaaGreatV3
import Derived.Test.YthilkphnjffnhaaGreatJA
namespace Go.Proofs.YthilkphnjffnhaaGreat
open Go.RowKit
set_option linter.unusedVariables false
set_option linter.unusedSimpArgs false
theorem rnewyear_any (y : Int) (w : World) (h1 : -10 ≤ y) (h2 : y ≤ 10010) :
    Calls Tryz.prog 58 #[.int .i64 y] w fun e w' => e = .returned (.int .i64 (ny y)) ∧ ∃ n, w' = w.drewN n := by
  have key : ny y = -719162 + 365 * (y - 1) + (y - 1) / 4 - (y - 1) / 100 + (y - 1) / 400 := rfl
  rw [key]
  clear key
  go_enter Tryz.func58, Tryz.ntmps58
  go_wp2_with fail
  refine (floor_any (y - 1) 4 _ (by omega) (by omega) (by omega) (by omega)).mono ?_
  rintro e w1 ⟨rfl, n1, rfl⟩
  go_wp2_with fail
  refine (floor_any (y - 1) 100 _ (by omega) (by omega) (by omega) (by omega)).mono ?_
  rintro e w1 ⟨rfl, n2, rfl⟩
  go_wp2_with fail
  refine (floor_any (y - 1) 400 _ (by omega) (by omega) (by omega) (by omega)).mono ?_
  rintro e w1 ⟨rfl, n3, rfl⟩
  go_wp2
  go_ret
  exact ⟨rfl, _, rfl⟩

theorem rweek_any (d s : Int) (w : World) (h1 : -10000000 ≤ d) (h2 : d < 10000000) (h3 : 1 ≤ s) (h4 : s ≤ 7) :
    Calls Tryz.prog 54 #[.int .i64 d, .int .i64 s] w fun e w' => e = .returned (.int .i64 (wkS d s)) ∧ ∃ n, w' = w.drewN n := by
  have key : wkS d s = d - (wkd d - s) % 7 := rfl
  rw [key]
  have hb := wkd_bd d
  clear key
  go_enter Tryz.func54, Tryz.ntmps54
  go_wp2_with fail
  refine (rweekday_any d _ (by omega) (by omega)).mono ?_
  rintro e w1 ⟨rfl, n1, rfl⟩
  go_wp2_with fail
  refine (mod_any (wkd d - s) 7 _ (by omega) (by omega) (by omega) (by omega)).mono ?_
  rintro e w1 ⟨rfl, n2, rfl⟩
  go_wp2
  go_ret
  exact ⟨rfl, _, rfl⟩

theorem firstweek_any (y s : Int) (w : World) (h1 : -10 ≤ y) (h2 : y ≤ 10010) (h3 : 1 ≤ s) (h4 : s ≤ 7) :
    Calls Tryz.prog 80 #[.int .i64 y, .int .i64 s] w fun e w' => e = .returned (.int .i64 (fw y s)) ∧ ∃ n, w' = w.drewN n := by
  have key : fw y s = wkS (ny y + 3) s := rfl
  rw [key]
  have hb : -1000000 ≤ ny y ∧ ny y ≤ 4000000 := by unfold ny; omega
  clear key
  go_enter Tryz.func80, Tryz.ntmps80
  go_wp2_with fail
  refine (rnewyear_any y _ (by omega) (by omega)).mono ?_
  rintro e w1 ⟨rfl, n1, rfl⟩
  go_wp2_with fail
  refine (rweek_any (ny y + 3) s _ (by omega) (by omega) (by omega) (by omega)).mono ?_
  rintro e w1 ⟨rfl, n2, rfl⟩
  go_wp2
  go_ret
  exact ⟨rfl, _, rfl⟩

set_option maxHeartbeats 2000000 in
theorem weekyear_any (d s : Int) (w : World) (h1 : -719000 ≤ d) (h2 : d < 2932897) (h3 : 1 ≤ s) (h4 : s ≤ 7) :
    Calls Tryz.prog 55 #[.int .i64 d, .int .i64 s] w fun e w' => e = .returned (.int .i64 (wyr d s)) ∧ Below w.heap.size w w' := by
  have hb := wkS_bd d s
  have hc := clampD_bd (wkS d s + 3) (by omega)
  have hy := yr_bd _ hc.1 hc.2
  have key : wyr d s = if wkS d s + 3 < ny (yr (clampD (wkS d s + 3))) then yr (clampD (wkS d s + 3)) - 1 else if ny (yr (clampD (wkS d s + 3)) + 1) ≤ wkS d s + 3 then yr (clampD (wkS d s + 3)) + 1 else yr (clampD (wkS d s + 3)) := rfl
  have hcl : clampD (wkS d s + 3) = if wkS d s + 3 < 2932897 then wkS d s + 3 else 2932896 := rfl
  have h3w := fun w => rweek_any d s w (by omega) (by omega) h3 h4
  have hD := fun w => date_any (clampD (wkS d s + 3)) w (by omega) (by omega)
  generalize wkS d s = a at hb hc hy key hcl h3w hD
  generalize clampD (a + 3) = c at hc hy key hcl hD
  have A3 := Lib.hid h3w
  have AD := Lib.hid hD
  have KEY := Lib.hid key
  clear h3w hD key
  generalize yr c = Y at hy KEY AD
  generalize mo c = mm at AD
  generalize dm c = dd at AD
  have AN := Lib.hid (fun w => rnewyear_any Y w (by omega) (by omega))
  have AN1 := Lib.hid (fun w => rnewyear_any (Y + 1) w (by omega) (by omega))
  generalize ny Y = n0 at AN KEY
  generalize ny (Y + 1) = n1 at AN1 KEY
  go_enter Tryz.func55, Tryz.ntmps55
  go_wp2_with fail
  refine (A3.out _).mono ?_
  rintro e w1 ⟨rfl, nd, rfl⟩
  have hmm : min (max (a + 3) (-719162)) 2932896 = c := by rw [hcl]; split <;> omega
  clear hcl
  go_wp2_with fail
  refine (AD.out _).mono ?_
  rintro e w1 ⟨rfl, hb1⟩; obtain ⟨x, rfl⟩ := hb1.toExt; clear hb1
  clear hmm
  by_cases q1 : a + 3 < n0
  · have K2 := Lib.hid (show wyr d s = Y - 1 by rw [KEY.out, if_pos q1])
    clear KEY
    go_wp2_with fail
    refine (AN.out _).mono ?_
    rintro e w2 ⟨rfl, n2, rfl⟩
    go_wp2
    go_ret
    exact ⟨by rw [K2.out]; rfl, (by repeat (first | (with_reducible exact Below.refl _ _) | (with_reducible assumption) | (with_reducible refine RowKit.Below.ext ?_ ?_ _) | (with_reducible refine Below.alloc ?_ ?_ _) | (with_reducible refine Below.drew ?_) | (with_reducible refine RowKit.Below.drawnN ?_ _) | (with_reducible refine Below.setCell ?_ ?_ _) | (exact (by first | (simp; done) | (simp; omega) | omega))))⟩
  by_cases q2 : n1 ≤ a + 3
  all_goals
    have K2 := KEY.out
    rw [if_neg q1] at K2
    first | rw [if_pos q2] at K2 | rw [if_neg q2] at K2
    clear KEY
    have KEY := Lib.hid K2
    clear K2
    go_wp2_with fail
    refine (AN.out _).mono ?_
    rintro e w2 ⟨rfl, n2, rfl⟩
    go_wp2_with fail
    refine (AN1.out _).mono ?_
    rintro e w3 ⟨rfl, n3, rfl⟩
    go_wp2
    go_ret
    exact ⟨by rw [KEY.out]; rfl, (by repeat (first | (with_reducible exact Below.refl _ _) | (with_reducible assumption) | (with_reducible refine RowKit.Below.ext ?_ ?_ _) | (with_reducible refine Below.alloc ?_ ?_ _) | (with_reducible refine Below.drew ?_) | (with_reducible refine RowKit.Below.drawnN ?_ _) | (with_reducible refine Below.setCell ?_ ?_ _) | (exact (by first | (simp; done) | (simp; omega) | omega))))⟩

/-- the struct with a date and what the filters ask -/
def DI.v (x : DI) : Value := .agg #[.int .i64 x.y, .int .i64 x.m, .int .i64 x.d, .int .i64 x.day, .int .i64 x.inY, .int .i64 x.ofY, .int .i64 x.inM, .int .i64 x.ofM]

set_option maxHeartbeats 2000000 in
theorem dateof_any (d : Int) (w : World) (h1 : -719162 ≤ d) (h2 : d < 2932897) :
    Calls Tryz.prog 32 #[.int .i64 d] w fun e w' => e = .returned (diP d).v ∧ Below w.heap.size w w' := by
  have hy := yr_bd d h1 h2
  have hd := date_of d h1 h2
  obtain ⟨_, _, hm1, hm2, _, _, _⟩ := hd
  have key : diP d = ⟨yr d, mo d, dm d, d, d - ny (yr d) + 1, ny (yr d + 1) - ny (yr d), dm d, mlen (yr d) (mo d)⟩ := rfl
  have AD := Lib.hid (fun w => date_any d w h1 h2)
  have AN := Lib.hid (fun w => rnewyear_any (yr d) w (by omega) (by omega))
  have AN1 := Lib.hid (fun w => rnewyear_any (yr d + 1) w (by omega) (by omega))
  have AL := Lib.hid (fun w => length_any (yr d) (mo d) w (by omega) (by omega) (by omega) (by omega))
  rw [key]
  clear key
  have hb1 : -719162 ≤ ny (yr d) ∧ ny (yr d) ≤ 4000000 := by unfold ny; omega
  have hb2 : -719162 ≤ ny (yr d + 1) ∧ ny (yr d + 1) ≤ 4000000 := by unfold ny; omega
  unfold DI.v
  dsimp only
  generalize mlen (yr d) (mo d) = lm at AL ⊢
  generalize ny (yr d) = n0 at AN hb1 ⊢
  generalize ny (yr d + 1) = n1 at AN1 hb2 ⊢
  obtain ⟨hy1, hy2, _, _⟩ := hy
  obtain ⟨hb11, hb12⟩ := hb1
  obtain ⟨hb21, hb22⟩ := hb2
  generalize yr d = Y at AD AN AN1 AL hy1 hy2 ⊢
  generalize mo d = mm at AD AL ⊢
  generalize dm d = dd at AD ⊢
  go_enter Tryz.func32, Tryz.ntmps32
  go_wp2_with fail
  refine (AD.out _).mono ?_
  rintro e w1 ⟨rfl, hb1⟩; obtain ⟨x, rfl⟩ := hb1.toExt; clear hb1
  go_wp2_with fail
  refine (AN.out _).mono ?_
  rintro e w1 ⟨rfl, nd, rfl⟩
  go_wp2_with (refine wp_region_calm_tail 20 (by kernel_rfl) (by kernel_rfl) ?_)
  simp only [List.take_succ_cons, List.take_zero, List.drop_succ_cons, List.drop_zero]
  repeat (go_big_quiet_step (first | (with_reducible exact Calls.calm_of_drew (AN1.out _)) | (with_reducible exact Calls.calm_of_same ((AL.out _).mono fun _ _ h => h))))
  refine wpQuiet_nil ?_
  rintro _ ⟨xx, rfl⟩
  go_wp2
  exact bodyPost_ret (v := .agg #[.int .i64 Y, .int .i64 mm, .int .i64 dd, .int .i64 d, .int .i64 (d - n0 + 1), .int .i64 (n1 - n0), .int .i64 dd, .int .i64 lm]) (by simp [results, Tryz.results32, go_sem]) rfl ⟨rfl, (by repeat (first | (with_reducible exact Below.refl _ _) | (with_reducible assumption) | (with_reducible refine RowKit.Below.ext ?_ ?_ _) | (with_reducible refine Below.alloc ?_ ?_ _) | (with_reducible refine Below.drew ?_) | (with_reducible refine RowKit.Below.drawnN ?_ _) | (with_reducible refine Below.setCell ?_ ?_ _) | (exact (by first | (simp; done) | (simp; omega) | omega))))⟩
end Go.Proofs.YthilkphnjffnhaaGreat
/- The walks of the package recurrence: what is given, numbers of periods. -/
namespace Go.Proofs.YthilkphnjffnhaaGreat
open Go.RowKit
set_option linter.unusedVariables false
set_option linter.unusedSimpArgs false
def locP (t : Int) : Prop := -62135596800 ≤ t ∧ t < 253402300800

theorem islocal_yes (a : Int) (w : World) (h : locP a) :
    Calls Tryz.prog 36 #[.int .i64 a] w fun e w' => e = .returned (.bool true) ∧ w = w' := by
  obtain ⟨h1, h2⟩ := h
  go_enter Tryz.func36, Tryz.ntmps36
  go_wp2
  go_ret
  exact ⟨rfl, rfl⟩

theorem local_yes (a : Int) (w : World) (h : locP a) :
    Calls Tryz.prog 24 #[.int .i64 a] w fun e w' => e = .returned (.bool true) ∧ w = w' := by
  obtain ⟨h1, h2⟩ := h
  go_enter Tryz.func24, Tryz.ntmps24
  go_wp2
  go_ret
  exact ⟨rfl, rfl⟩

set_option maxHeartbeats 2000000 in
theorem given_no (r : Rc) (t : Int) (w : World) (hr : r.In w) (hv : validB r = false) :
    Calls Tryz.prog 27 #[r.val, .int .i64 t] w fun e w' => e = .returned (.int .i64 1) ∧ Below w.heap.size w w' := by
  have C := Lib.hid (fun w (h : r.In w) => valid_any r w h)
  have HR := Lib.hid hr
  rw [hv] at C
  clear hr hv
  go_enter Tryz.func27, Tryz.ntmps27
  go_wp2_with fail
  refine (C.out _ (HR.out.below (by repeat (first | (with_reducible exact Below.refl _ _) | (with_reducible assumption) | (with_reducible refine RowKit.Below.ext ?_ ?_ _) | (with_reducible refine Below.alloc ?_ ?_ _) | (with_reducible refine Below.drew ?_) | (with_reducible refine RowKit.Below.drawnN ?_ _) | (with_reducible refine Below.setCell ?_ ?_ _) | (exact (by first | (simp; done) | (simp; omega) | omega)))))).mono ?_
  rintro e w1 ⟨rfl, hb1⟩; obtain ⟨x, rfl⟩ := hb1.toExt; clear hb1
  go_wp2
  go_ret
  exact ⟨rfl, (by repeat (first | (with_reducible exact Below.refl _ _) | (with_reducible assumption) | (with_reducible refine RowKit.Below.ext ?_ ?_ _) | (with_reducible refine Below.alloc ?_ ?_ _) | (with_reducible refine Below.drew ?_) | (with_reducible refine RowKit.Below.drawnN ?_ _) | (with_reducible refine Below.setCell ?_ ?_ _) | (exact (by first | (simp; done) | (simp; omega) | omega))))⟩

set_option maxHeartbeats 2000000 in
theorem given_yes (r : Rc) (t : Int) (w : World) (hr : r.In w) (hv : validB r = true) (ht : locP t) :
    Calls Tryz.prog 27 #[r.val, .int .i64 t] w fun e w' => e = .returned (.int .i64 0) ∧ Below w.heap.size w w' := by
  have C := Lib.hid (fun w (h : r.In w) => valid_any r w h)
  have HR := Lib.hid hr
  have HT := Lib.hid ht
  rw [hv] at C
  clear hr hv ht
  go_enter Tryz.func27, Tryz.ntmps27
  go_wp2_with fail
  refine (C.out _ (HR.out.below (by repeat (first | (with_reducible exact Below.refl _ _) | (with_reducible assumption) | (with_reducible refine RowKit.Below.ext ?_ ?_ _) | (with_reducible refine Below.alloc ?_ ?_ _) | (with_reducible refine Below.drew ?_) | (with_reducible refine RowKit.Below.drawnN ?_ _) | (with_reducible refine Below.setCell ?_ ?_ _) | (exact (by first | (simp; done) | (simp; omega) | omega)))))).mono ?_
  rintro e w1 ⟨rfl, hb1⟩; obtain ⟨x, rfl⟩ := hb1.toExt; clear hb1
  go_wp2_with fail
  refine (local_yes t _ HT.out).mono ?_
  rintro e w1 ⟨rfl, rfl⟩
  go_wp2
  go_ret
  exact ⟨rfl, (by repeat (first | (with_reducible exact Below.refl _ _) | (with_reducible assumption) | (with_reducible refine RowKit.Below.ext ?_ ?_ _) | (with_reducible refine Below.alloc ?_ ?_ _) | (with_reducible refine Below.drew ?_) | (with_reducible refine RowKit.Below.drawnN ?_ _) | (with_reducible refine Below.setCell ?_ ?_ _) | (exact (by first | (simp; done) | (simp; omega) | omega))))⟩

set_option maxHeartbeats 2000000 in
theorem check_no (r : Rc) (t : Int) (w : World) (hr : r.In w) (hv : validB r = false) :
    Calls Tryz.prog 15 #[r.val, .int .i64 t] w fun e w' => e = .returned (.int .i64 1) ∧ Below w.heap.size w w' := by
  have C := Lib.hid (fun w (h : r.In w) => valid_any r w h)
  have HR := Lib.hid hr
  rw [hv] at C
  clear hr hv
  go_enter Tryz.func15, Tryz.ntmps15
  go_wp2_with fail
  refine (C.out _ (HR.out.below (by repeat (first | (with_reducible exact Below.refl _ _) | (with_reducible assumption) | (with_reducible refine RowKit.Below.ext ?_ ?_ _) | (with_reducible refine Below.alloc ?_ ?_ _) | (with_reducible refine Below.drew ?_) | (with_reducible refine RowKit.Below.drawnN ?_ _) | (with_reducible refine Below.setCell ?_ ?_ _) | (exact (by first | (simp; done) | (simp; omega) | omega)))))).mono ?_
  rintro e w1 ⟨rfl, hb1⟩; obtain ⟨x, rfl⟩ := hb1.toExt; clear hb1
  go_wp2
  go_ret
  exact ⟨rfl, (by repeat (first | (with_reducible exact Below.refl _ _) | (with_reducible assumption) | (with_reducible refine RowKit.Below.ext ?_ ?_ _) | (with_reducible refine Below.alloc ?_ ?_ _) | (with_reducible refine Below.drew ?_) | (with_reducible refine RowKit.Below.drawnN ?_ _) | (with_reducible refine Below.setCell ?_ ?_ _) | (exact (by first | (simp; done) | (simp; omega) | omega))))⟩

set_option maxHeartbeats 2000000 in
theorem check_yes (r : Rc) (t : Int) (w : World) (hr : r.In w) (hv : validB r = true) (ht : locP t) :
    Calls Tryz.prog 15 #[r.val, .int .i64 t] w fun e w' => e = .returned (.int .i64 0) ∧ Below w.heap.size w w' := by
  have C := Lib.hid (fun w (h : r.In w) => valid_any r w h)
  have HR := Lib.hid hr
  have HT := Lib.hid ht
  rw [hv] at C
  clear hr hv ht
  go_enter Tryz.func15, Tryz.ntmps15
  go_wp2_with fail
  refine (C.out _ (HR.out.below (by repeat (first | (with_reducible exact Below.refl _ _) | (with_reducible assumption) | (with_reducible refine RowKit.Below.ext ?_ ?_ _) | (with_reducible refine Below.alloc ?_ ?_ _) | (with_reducible refine Below.drew ?_) | (with_reducible refine RowKit.Below.drawnN ?_ _) | (with_reducible refine Below.setCell ?_ ?_ _) | (exact (by first | (simp; done) | (simp; omega) | omega)))))).mono ?_
  rintro e w1 ⟨rfl, hb1⟩; obtain ⟨x, rfl⟩ := hb1.toExt; clear hb1
  go_wp2_with fail
  refine (islocal_yes t _ HT.out).mono ?_
  rintro e w1 ⟨rfl, rfl⟩
  go_wp2
  go_ret
  exact ⟨rfl, (by repeat (first | (with_reducible exact Below.refl _ _) | (with_reducible assumption) | (with_reducible refine RowKit.Below.ext ?_ ?_ _) | (with_reducible refine Below.alloc ?_ ?_ _) | (with_reducible refine Below.drew ?_) | (with_reducible refine RowKit.Below.drawnN ?_ _) | (with_reducible refine Below.setCell ?_ ?_ _) | (exact (by first | (simp; done) | (simp; omega) | omega))))⟩

/-- what is known of a valid rule -/
structure Rc.Ok (r : Rc) : Prop where
  f1 : 1 ≤ r.f
  f5 : r.f ≤ 5
  i1 : 1 ≤ r.iv
  i2 : r.iv ≤ 1000
  s1 : 1 ≤ r.ws
  s7 : r.ws ≤ 7
  c0 : 0 ≤ r.ct
  c1 : r.ct ≤ 1000
  un : r.un = 0 ∨ locP r.un ∧ r.ct = 0
  lh : r.ho.l.length ≤ 60
  lm : r.mi.l.length ≤ 60
  ls : r.se.l.length ≤ 60
  lp : r.po.l.length ≤ 60
  bh : ∀ x ∈ r.ho.l, 0 ≤ x ∧ x ≤ 23
  bm : ∀ x ∈ r.mi.l, 0 ≤ x ∧ x ≤ 59
  bs : ∀ x ∈ r.se.l, 0 ≤ x ∧ x ≤ 59
theorem Rc.Ok.of {r : Rc} (h : validB r = true) : r.Ok := by
  obtain ⟨⟨⟨a1, a2⟩, ⟨a3, a4⟩, ⟨a5, a6⟩, ⟨a7, a8⟩, a9⟩, b1, b2, b3, b4, b5, b6, b7⟩ := validB_split h
  exact ⟨a1, a2, a3, a4, a5, a6, a7, a8, a9, b1, b2, b3, b4, b5, b6, b7⟩

theorem times_ok (r : Rc) (t : Int) (w : World) (hr : r.In w) (hv : r.Ok) (ht : locP t) :
    Calls Tryz.prog 26 #[r.val, .int .i64 t] w (RetS (timesP r.f r.ho.l r.mi.l r.se.l (t % 86400)) w) :=
  times_any r t w hr (by have := ht.1; omega) (by have := ht.2; omega) hv.lh hv.lm hv.ls hv.bh hv.bm hv.bs

/-- the number of the period of a local time -/
noncomputable def numP (r : Rc) (l : Int) : Int :=
  if r.f = 3 then wkS (l / 86400) r.ws / 7 else if r.f = 4 then l / 86400 else if r.f = 5 then l / 3600
  else if r.f = 1 ∧ 0 < r.wk.l.length then wyr (l / 86400) r.ws else if r.f = 1 then yr (l / 86400) else 12 * yr (l / 86400) + mo (l / 86400)

set_option maxHeartbeats 4000000 in
theorem number_any (r : Rc) (l : Int) (w : World) (h1 : 1 ≤ r.f) (h2 : r.f ≤ 5) (h3 : 1 ≤ r.ws) (h4 : r.ws ≤ 7) (h5 : -62121600000 ≤ l) (h6 : l < 253402300800) :
    Calls Tryz.prog 28 #[r.val, .int .i64 l] w fun e w' => e = .returned (.int .i64 (numP r l)) ∧ Below w.heap.size w w' := by
  have q1 : -719000 ≤ l / 86400 := by omega
  have q2 : l / 86400 < 2932897 := by omega
  have key : numP r l = if r.f = 3 then wkS (l / 86400) r.ws / 7 else if r.f = 4 then l / 86400 else if r.f = 5 then l / 3600
    else if r.f = 1 ∧ 0 < r.wk.l.length then wyr (l / 86400) r.ws else if r.f = 1 then yr (l / 86400) else 12 * yr (l / 86400) + mo (l / 86400) := rfl
  have hc : r.f = 1 ∨ r.f = 2 ∨ r.f = 3 ∨ r.f = 4 ∨ r.f = 5 := by omega
  generalize numP r l = N at key ⊢
  clear h1 h2
  obtain ⟨f, iv, ct, un, mo1, md, yd, wk, dy, ho, mi, se, po, ws⟩ := r
  dsimp only [Rc.val, Rc.cells] at h3 h4 key hc ⊢
  rcases hc with rfl | rfl | rfl | rfl | rfl
  · by_cases hw : 0 < wk.l.length
    · have k2 : N = wyr (l / 86400) ws := by rw [key]; simp [hw]
      clear key
      subst k2
      go_enter Tryz.func28, Tryz.ntmps28
      go_wp2_with fail
      refine (floor_any l 86400 _ (by omega) (by omega) (by omega) (by omega)).mono ?_
      rintro e w1 ⟨rfl, nd, rfl⟩
      go_wp2_with fail
      refine (weekyear_any (l / 86400) ws _ q1 q2 h3 h4).mono ?_
      rintro e w1 ⟨rfl, hb1⟩; obtain ⟨x, rfl⟩ := hb1.toExt; clear hb1
      go_wp2
      go_ret
      exact ⟨rfl, (by repeat (first | (with_reducible exact Below.refl _ _) | (with_reducible assumption) | (with_reducible refine RowKit.Below.ext ?_ ?_ _) | (with_reducible refine Below.alloc ?_ ?_ _) | (with_reducible refine Below.drew ?_) | (with_reducible refine RowKit.Below.drawnN ?_ _) | (with_reducible refine Below.setCell ?_ ?_ _) | (exact (by first | (simp; done) | (simp; omega) | omega))))⟩
    · have k2 : N = yr (l / 86400) := by rw [key]; simp [hw]
      clear key
      subst k2
      have hy := yr_bd (l / 86400) (by omega) q2
      go_enter Tryz.func28, Tryz.ntmps28
      go_wp2_with fail
      refine (floor_any l 86400 _ (by omega) (by omega) (by omega) (by omega)).mono ?_
      rintro e w1 ⟨rfl, nd, rfl⟩
      go_wp2_with fail
      refine (date_any (l / 86400) _ (by omega) q2).mono ?_
      rintro e w1 ⟨rfl, hb1⟩; obtain ⟨x, rfl⟩ := hb1.toExt; clear hb1
      go_wp2
      go_ret
      exact ⟨rfl, (by repeat (first | (with_reducible exact Below.refl _ _) | (with_reducible assumption) | (with_reducible refine RowKit.Below.ext ?_ ?_ _) | (with_reducible refine Below.alloc ?_ ?_ _) | (with_reducible refine Below.drew ?_) | (with_reducible refine RowKit.Below.drawnN ?_ _) | (with_reducible refine Below.setCell ?_ ?_ _) | (exact (by first | (simp; done) | (simp; omega) | omega))))⟩
  · have k2 : N = 12 * yr (l / 86400) + mo (l / 86400) := by rw [key]; simp
    clear key
    subst k2
    have hy := date_of (l / 86400) (by omega) q2
    obtain ⟨y1, y2, m1, m2, _, _, _⟩ := hy
    have AD := Lib.hid (fun w => date_any (l / 86400) w (by omega) q2)
    generalize yr (l / 86400) = Y at y1 y2 AD ⊢
    generalize mo (l / 86400) = mm at m1 m2 AD ⊢
    go_enter Tryz.func28, Tryz.ntmps28
    go_wp2_with fail
    refine (floor_any l 86400 _ (by omega) (by omega) (by omega) (by omega)).mono ?_
    rintro e w1 ⟨rfl, nd, rfl⟩
    go_wp2_with fail
    refine (AD.out _).mono ?_
    rintro e w1 ⟨rfl, hb1⟩; obtain ⟨x, rfl⟩ := hb1.toExt; clear hb1
    go_wp2
    go_ret
    exact ⟨rfl, (by repeat (first | (with_reducible exact Below.refl _ _) | (with_reducible assumption) | (with_reducible refine RowKit.Below.ext ?_ ?_ _) | (with_reducible refine Below.alloc ?_ ?_ _) | (with_reducible refine Below.drew ?_) | (with_reducible refine RowKit.Below.drawnN ?_ _) | (with_reducible refine Below.setCell ?_ ?_ _) | (exact (by first | (simp; done) | (simp; omega) | omega))))⟩
  · have k2 : N = wkS (l / 86400) ws / 7 := by rw [key]; simp
    clear key
    subst k2
    have hb := wkS_bd (l / 86400) ws
    go_enter Tryz.func28, Tryz.ntmps28
    go_wp2_with fail
    refine (floor_any l 86400 _ (by omega) (by omega) (by omega) (by omega)).mono ?_
    rintro e w1 ⟨rfl, nd, rfl⟩
    go_wp2_with fail
    refine (rweek_any (l / 86400) ws _ (by omega) (by omega) h3 h4).mono ?_
    rintro e w2 ⟨rfl, n2, rfl⟩
    go_wp2_with fail
    refine (floor_any (wkS (l / 86400) ws) 7 _ (by omega) (by omega) (by omega) (by omega)).mono ?_
    rintro e w3 ⟨rfl, n3, rfl⟩
    go_wp2
    go_ret
    exact ⟨rfl, (by repeat (first | (with_reducible exact Below.refl _ _) | (with_reducible assumption) | (with_reducible refine RowKit.Below.ext ?_ ?_ _) | (with_reducible refine Below.alloc ?_ ?_ _) | (with_reducible refine Below.drew ?_) | (with_reducible refine RowKit.Below.drawnN ?_ _) | (with_reducible refine Below.setCell ?_ ?_ _) | (exact (by first | (simp; done) | (simp; omega) | omega))))⟩
  · have k2 : N = l / 86400 := by rw [key]; simp
    clear key
    subst k2
    go_enter Tryz.func28, Tryz.ntmps28
    go_wp2_with fail
    refine (floor_any l 86400 _ (by omega) (by omega) (by omega) (by omega)).mono ?_
    rintro e w1 ⟨rfl, nd, rfl⟩
    go_wp2
    go_ret
    exact ⟨rfl, (by repeat (first | (with_reducible exact Below.refl _ _) | (with_reducible assumption) | (with_reducible refine RowKit.Below.ext ?_ ?_ _) | (with_reducible refine Below.alloc ?_ ?_ _) | (with_reducible refine Below.drew ?_) | (with_reducible refine RowKit.Below.drawnN ?_ _) | (with_reducible refine Below.setCell ?_ ?_ _) | (exact (by first | (simp; done) | (simp; omega) | omega))))⟩
  · have k2 : N = l / 3600 := by rw [key]; simp
    clear key
    subst k2
    go_enter Tryz.func28, Tryz.ntmps28
    go_wp2_with fail
    refine (floor_any l 86400 _ (by omega) (by omega) (by omega) (by omega)).mono ?_
    rintro e w1 ⟨rfl, nd, rfl⟩
    go_wp2_with fail
    refine (floor_any l 3600 _ (by omega) (by omega) (by omega) (by omega)).mono ?_
    rintro e w2 ⟨rfl, n2, rfl⟩
    go_wp2
    go_ret
    exact ⟨rfl, (by repeat (first | (with_reducible exact Below.refl _ _) | (with_reducible assumption) | (with_reducible refine RowKit.Below.ext ?_ ?_ _) | (with_reducible refine Below.alloc ?_ ?_ _) | (with_reducible refine Below.drew ?_) | (with_reducible refine RowKit.Below.drawnN ?_ _) | (with_reducible refine Below.setCell ?_ ?_ _) | (exact (by first | (simp; done) | (simp; omega) | omega))))⟩

theorem numP_400 (r : Rc) (l u : Int) (g1 : 1 ≤ r.f) (g2 : r.f ≤ 5) (h1 : -62121600000 ≤ l) (h2 : l < 240000000000) : numP { r with un := u } (l + 12622780800) = numP r l + (if r.f = 1 then 400 else if r.f = 2 then 4800 else if r.f = 3 then 20871 else if r.f = 4 then 146097 else 3506328) := by
  have e1 : (l + 12622780800) / 86400 = l / 86400 + 146097 := by omega
  have e2 : (l + 12622780800) / 3600 = l / 3600 + 3506328 := by omega
  have q1 : -719000 ≤ l / 86400 := by omega
  have q2 : l / 86400 < 2786700 := by omega
  obtain ⟨d1, d2, _⟩ := dt_400 (l / 86400) (by omega) (by omega)
  unfold numP
  dsimp only
  rw [e1, e2, wkS_400, wyr_400 _ _ q1 q2, d1, d2]
  repeat' split
  all_goals omega
end Go.Proofs.YthilkphnjffnhaaGreat
/- The filters of a day as plain functions; a day passes again after 146097 days. -/
namespace Go.Proofs.YthilkphnjffnhaaGreat
set_option linter.unusedVariables false
set_option linter.unusedSimpArgs false
theorem wyr_fw (d s : Int) (h1 : -719000 ≤ d) (h2 : d < 2932897) (h3 : 1 ≤ s) (h4 : s ≤ 7) : fw (wyr d s) s ≤ d ∧ d < fw (wyr d s + 1) s := by
  have hc := clampD_bd (wkS d s + 3) (by have := wkS_bd d s; omega)
  have hy := yr_bd _ hc.1 hc.2
  have h9999 : ny 10000 = 2932897 := by unfold ny; omega
  have key : ny (wyr d s) ≤ wkS d s + 3 ∧ wkS d s + 3 < ny (wyr d s + 1) := by
    have hb := wkS_bd d s
    by_cases hq : wkS d s + 3 < 2932897
    · have hcl : clampD (wkS d s + 3) = wkS d s + 3 := by unfold clampD; rw [if_pos hq]
      unfold wyr
      rw [hcl] at hy ⊢
      rw [if_neg (by omega), if_neg (by omega)]
      exact ⟨hy.2.2.1, hy.2.2.2⟩
    · have hcl : clampD (wkS d s + 3) = 2932896 := by unfold clampD; rw [if_neg hq]
      have hY : yr 2932896 = 9999 := by
        rw [hcl] at hy
        have h1 := hy.2.2.2
        have hm := fun h : yr 2932896 + 1 ≤ 9999 => (show ny (yr 2932896 + 1) ≤ ny 9999 by unfold ny; omega)
        have h2 : ny 9999 = 2932532 := by unfold ny; omega
        omega
      unfold wyr
      rw [hcl, hY, if_neg (by unfold ny; omega), if_pos (by unfold ny; omega)]
      have : ny (9999 + 1 + 1) = 2932897 + 366 := by unfold ny; omega
      have e2 : ny (9999 + 1) = 2932897 := by unfold ny; omega
      omega
  generalize wyr d s = y at key ⊢
  unfold fw
  generalize ny y = n0 at key ⊢
  generalize ny (y + 1) = n1 at key ⊢
  unfold wkS wkd at *
  omega

def f1P (r : Rc) (x : DI) : Bool := decide (r.mo.l.length = 0) || r.mo.l.any (fun y => x.m == y)
def f2P (r : Rc) (x : DI) : Bool := cntP r.md.l x.inM x.ofM
def f3P (r : Rc) (x : DI) : Bool := cntP r.yd.l x.inY x.ofY
noncomputable def f4P (r : Rc) (x : DI) : Bool :=
  if r.wk.l.length = 0 then true else cntP r.wk.l ((x.day - fw (wyr x.day r.ws) r.ws) / 7 + 1) ((fw (wyr x.day r.ws + 1) r.ws - fw (wyr x.day r.ws) r.ws) / 7)
def f5P (r : Rc) (x : DI) : Bool :=
  if r.f = 2 ∨ 0 < r.mo.l.length then nthP r.dy.l (wkd x.day) x.inM x.ofM else nthP r.dy.l (wkd x.day) x.inY x.ofY
def f6P (r : Rc) (x s : DI) : Bool :=
  if 0 < r.md.l.length ∨ 0 < r.yd.l.length ∨ 0 < r.dy.l.length then true
  else if r.f = 1 ∧ 0 < r.wk.l.length ∨ r.f = 3 then wkd x.day == wkd s.day
  else if r.f = 1 then x.d == s.d && (decide (0 < r.mo.l.length) || x.m == s.m)
  else if r.f = 2 then x.d == s.d
  else true
noncomputable def passP (r : Rc) (s : DI) (day : Int) : Bool := f1P r (diP day) && (f2P r (diP day) && (f3P r (diP day) && (f4P r (diP day) && (f5P r (diP day) && f6P r (diP day) s))))

theorem passP_400 (r : Rc) (u s day : Int) (h1 : -719000 ≤ day) (h2 : day < 2786700) (h3 : -719000 ≤ s) (h4 : s < 2786700) :
    passP { r with un := u } (diP (s + 146097)) (day + 146097) = passP r (diP s) day := by
  unfold passP
  rw [diP_400 day (by omega) (by omega), diP_400 s (by omega) (by omega)]
  have a1 : f1P { r with un := u } { diP day with y := (diP day).y + 400, day := day + 146097 } = f1P r (diP day) := rfl
  have a2 : f2P { r with un := u } { diP day with y := (diP day).y + 400, day := day + 146097 } = f2P r (diP day) := rfl
  have a3 : f3P { r with un := u } { diP day with y := (diP day).y + 400, day := day + 146097 } = f3P r (diP day) := rfl
  have a4 : f4P { r with un := u } { diP day with y := (diP day).y + 400, day := day + 146097 } = f4P r (diP day) := by
    unfold f4P
    dsimp only
    rw [wyr_400 day _ h1 h2, fw_400, show wyr day r.ws + 400 + 1 = (wyr day r.ws + 1) + 400 by omega, fw_400]
    have e1 : day + 146097 - (fw (wyr day r.ws) r.ws + 146097) = day - fw (wyr day r.ws) r.ws := by omega
    have e2 : fw (wyr day r.ws + 1) r.ws + 146097 - (fw (wyr day r.ws) r.ws + 146097) = fw (wyr day r.ws + 1) r.ws - fw (wyr day r.ws) r.ws := by omega
    rw [e1, e2]
    rfl
  have a5 : f5P { r with un := u } { diP day with y := (diP day).y + 400, day := day + 146097 } = f5P r (diP day) := by
    unfold f5P
    dsimp only
    rw [wkd_400]
    rfl
  have a6 : f6P { r with un := u } { diP day with y := (diP day).y + 400, day := day + 146097 } { diP s with y := (diP s).y + 400, day := s + 146097 } = f6P r (diP day) (diP s) := by
    unfold f6P
    dsimp only
    rw [wkd_400, wkd_400]
    rfl
  rw [a1, a2, a3, a4, a5, a6]
end Go.Proofs.YthilkphnjffnhaaGreat
