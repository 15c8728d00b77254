/- The walk of WholeCycle. -/
import Derived.Test.YthilkphnjffnhaaGreatJW
import Derived.Deep.Cut
import Derived.Deep.CutRange
namespace Go.Proofs.YthilkphnjffnhaaGreat
open Go.RowKit
set_option linter.unusedVariables false
set_option linter.unusedSimpArgs false
theorem first_use {al X R : List Int} (e : al = X) {E : Nat → Prop}
    (h : E X.length → (∀ h : 0 < X.length, X[X.length - 1] < 240710400000) → R = mvL X) : E al.length → (∀ h : 0 < al.length, al[al.length - 1] < 240710400000) → R = mvL al := by
  subst e; exact h
theorem nextV_bd {M : List Int} {t : Int} (h : ∀ x ∈ M, t ≤ x) : (nextV M).2 = 0 → t ≤ (nextV M).1 := by
  rcases M with _ | ⟨x, M⟩
  · intro h; cases h
  · intro _; exact h x (List.mem_cons_self ..)
theorem Rc.In.un {r : Rc} {W : World} (u : Int) (h : r.In W) : Rc.In { r with un := u } W := ⟨h.mo, h.md, h.yd, h.wk, h.dy, h.ho, h.mi, h.se, h.po⟩
set_option maxRecDepth 100000 in
set_option maxHeartbeats 32000000 in
theorem whole_any (CMT : ∀ (r : Rc) (t l : Int) (w : World), r.In w → validB r = true → inP t → inP l → -62087040000 ≤ l → Calls Tryz.prog 10 #[r.val, .int .i64 t, .int .i64 l] w fun e w' => e = .returned (.tuple #[.bool (matchP r t l), .int .i64 0]) ∧ Below w.heap.size w w')
    (r : Rc) (t : Int) (s : Sl4) (day f mn n : Int) (w : World) (hr : r.In w) (hs : s.In w) (hn1 : -32768 ≤ n) (hn2 : n ≤ 32767) :
    Calls Tryz.prog 3 #[r.val, .int .i64 t, s.v, .int .i64 day, .agg #[.int .i64 f, .int .i64 mn], .int .i16 n] w fun e w' => e = .returned (.bool true) ∧ Below w.heap.size w w' := by
  have HR := Lib.hid hr
  have HS := Lib.hid hs
  have hrT : ∀ w, rT.In w := fun w => ⟨⟨Nat.le_refl _, by decide, fun h => absurd rfl h⟩, ⟨Nat.le_refl _, by decide, fun h => absurd rfl h⟩, ⟨Nat.le_refl _, by decide, fun h => absurd rfl h⟩, ⟨Nat.le_refl _, by decide, fun h => absurd rfl h⟩, ⟨Nat.le_refl _, by decide, fun h => absurd rfl h⟩, ⟨Nat.le_refl _, by decide, fun h => absurd rfl h⟩, ⟨Nat.le_refl _, by decide, fun h => absurd rfl h⟩, ⟨Nat.le_refl _, by decide, fun h => absurd rfl h⟩, ⟨Nat.le_refl _, by decide, fun h => absurd rfl h⟩⟩
  obtain ⟨LT, hLT⟩ := AllL.total rT 0 (-62135596800) 253402300800 (Rc.Ok.of rT_valid) (by omega) (by omega)
  have CT := Lib.hid (fun w => first_yes rT 0 3 w LT (hrT w) rT_valid (by omega) (by omega) (by omega) (by omega) hLT)
  rw [rT_first LT hLT] at CT
  have CD0 := Lib.hid (fun w => cycleday_any 20512 1 4 1 w (by omega) (by omega) (by omega) (by omega))
  clear hr hs hrT hLT
  obtain ⟨sA, sc, sl⟩ := s
  dsimp only [Sl4.v]
  go_enter Tryz.func3, Tryz.ntmps3
  go_wp2_with fail
  refine (CT.out _).mono ?_
  rintro e w1 ⟨so, rfl, hs1, hs2, hb1⟩
  obtain ⟨x1, rfl⟩ := hb1.toExt
  clear hb1
  have HS1 := Lib.hid hs1
  have HS2 := Lib.hid hs2
  clear hs1 hs2
  go_wp2_with fail
  refine (equal_same so ⟨some ⟨w.heap.size + 1 + 1 + x1.k, 0, none⟩, 3, [0, 864000, 1728000]⟩ _ (HS2.out.below (by repeat (first | (with_reducible exact Below.refl _ _) | (with_reducible assumption) | (with_reducible refine RowKit.Below.ext ?_ ?_ _) | (with_reducible refine Below.alloc ?_ ?_ _) | (with_reducible refine Below.drew ?_) | (with_reducible refine RowKit.Below.drawnN ?_ _) | (with_reducible refine Below.setCell ?_ ?_ _) | (exact (by first | (simp; done) | (simp; omega) | omega))))) ⟨by simp, by simp, fun _ => ⟨_, 0, rfl, fun i hi => ?cc⟩⟩ HS1.out).mono ?_
  case cc =>
    match i, hi with
    | 0, _ => go_simp
    | 1, _ => go_simp
    | 2, _ => go_simp
  rintro e w1 ⟨rfl, q1, rfl⟩
  clear HS1 HS2 CT
  go_wp2_with fail
  refine (iso_any _).mono ?_
  rintro e w1 ⟨rfl, hb1⟩
  obtain ⟨x2, rfl⟩ := hb1.toExt
  clear hb1
  go_wp2_with fail
  refine (CD0.out _).mono ?_
  rintro e w1 ⟨rfl, hb1⟩
  obtain ⟨x3, rfl⟩ := hb1.toExt
  clear hb1 CD0
  go_upto_region 5 with fail
  refine at_world (fun W => Below w.heap.size w W ∧ (∀ o, W.cell? ⟨w.heap.size, o, none⟩ = r.cells[o]?) ∧ W.cell? ⟨w.heap.size + 1, 0, none⟩ = some (.int .i64 f) ∧ W.cell? ⟨w.heap.size + 1, 1, none⟩ = some (.int .i64 mn)) ⟨(by repeat (first | (with_reducible exact Below.refl _ _) | (with_reducible assumption) | (with_reducible refine RowKit.Below.ext ?_ ?_ _) | (with_reducible refine Below.alloc ?_ ?_ _) | (with_reducible refine Below.drew ?_) | (with_reducible refine RowKit.Below.drawnN ?_ _) | (with_reducible refine Below.setCell ?_ ?_ _) | (exact (by first | (simp; done) | (simp; omega) | omega)))), fun o => kept_cells 25 (by repeat (first | (with_reducible exact Below.refl _ _) | (with_reducible assumption) | (with_reducible refine RowKit.Below.ext ?_ ?_ _) | (with_reducible refine Below.alloc ?_ ?_ _) | (with_reducible refine Below.drew ?_) | (with_reducible refine RowKit.Below.drawnN ?_ _) | (with_reducible refine Below.setCell ?_ ?_ _) | (exact (by first | (simp; done) | (simp; omega) | omega)))) rfl o, by go_simp, by go_simp⟩ ?_
  intro W ⟨hB, hcw, hcf, hcm⟩
  have QB := Lib.hid hB
  have QC := Lib.hid hcw
  have hBs := hB.size
  clear hB hcw
  go_cut [67] from 34 (fun s67 wx => s67 = .bool false ∧ Below W.heap.size W wx)
  case first => as_aux_lemma =>
    by_cases k1 : -718362 ≤ day
    · by_cases k2 : day < 2786000
      · have CD := Lib.hid (fun w => cycleday_any day f mn n w k1 k2 (by omega) (by omega))
        go_wp2_with fail
        refine (CD.out _).mono ?_
        rintro e w1 ⟨rfl, hb1⟩
        obtain ⟨x4, rfl⟩ := hb1.toExt
        clear hb1
        go_wp2_with fail
        go_meet
        case rel => exact ⟨rfl, (by repeat (first | (with_reducible exact Below.refl _ _) | (with_reducible assumption) | (with_reducible refine RowKit.Below.ext ?_ ?_ _) | (with_reducible refine Below.alloc ?_ ?_ _) | (with_reducible refine Below.drew ?_) | (with_reducible refine RowKit.Below.drawnN ?_ _) | (with_reducible refine Below.setCell ?_ ?_ _) | (exact (by first | (simp; done) | (simp; omega) | omega))))⟩
      · have k3 : 2786000 ≤ day := by omega
        go_wp2_with fail
        go_meet
        case rel => exact ⟨rfl, Below.refl _ _⟩
    · have k3 : day < -718362 := by omega
      go_wp2_with fail
      go_meet
      case rel => exact ⟨rfl, Below.refl _ _⟩
  case rest => as_aux_lemma =>
    obtain ⟨rfl, hBx⟩ := hcut
    obtain ⟨W1, rfl⟩ : ∃ W1 : World, W1 = wc := ⟨_, rfl⟩
    have hBw := QB.out.trans (hBx.mono hBs)
    have hcw : ∀ o, W1.cell? ⟨w.heap.size, o, none⟩ = r.cells[o]? := fun o => by
      have hq : w.heap.size < W.heap.size := by
        have := World.block_lt_of_cell? W _ hcf
        dsimp only at this
        omega
      exact (hBx.cell hq).trans (QC.out o)
    clear hBx hcf hcm QB QC hBs
    have QCW := Lib.hid hcw
    have QB := Lib.hid hBw
    have hBs := hBw.size
    clear hBw hcw
    have c0 := (QCW.out 0).trans (rfl : _ = some (Value.int .i64 r.f))
    have c1 := (QCW.out 1).trans (rfl : _ = some (Value.int .i64 r.iv))
    have c2 := (QCW.out 2).trans (rfl : _ = some (Value.int .i64 r.ct))
    have c3 := (QCW.out 3).trans (rfl : _ = some (Value.int .i64 r.un))
    have c4 := (QCW.out 4).trans (rfl : _ = some r.mo.v)
    have c5 := (QCW.out 5).trans (rfl : _ = some r.md.v)
    have c6 := (QCW.out 6).trans (rfl : _ = some r.yd.v)
    have c7 := (QCW.out 7).trans (rfl : _ = some r.wk.v)
    have c8 := (QCW.out 8).trans (rfl : _ = some r.dy.v)
    have c9 := (QCW.out 9).trans (rfl : _ = some r.ho.v)
    have c10 := (QCW.out 10).trans (rfl : _ = some r.mi.v)
    have c11 := (QCW.out 11).trans (rfl : _ = some r.se.v)
    have c12 := (QCW.out 12).trans (rfl : _ = some r.po.v)
    have c13 := (QCW.out 13).trans (rfl : _ = some (Value.int .i64 r.ws))
    by_cases t1 : t < -62066476800
    · as_aux_lemma =>
      go_wp2
      go_ret
      exact ⟨rfl, QB.out⟩
    by_cases t2 : 240710400000 ≤ t
    · as_aux_lemma =>
      go_wp2
      go_ret
      exact ⟨rfl, QB.out⟩
    by_cases t3 : 3 < (sl.length : Int)
    · as_aux_lemma =>
      go_wp2
      go_ret
      exact ⟨rfl, QB.out⟩
    go_upto_if 88 with fail
    go_cut [] from 86 (fun wx => Below W1.heap.size W1 wx ∧ ∃ u, UnRel r.un u ∧ (r.un = 0 ∨ (-62135596800 ≤ r.un ∧ r.un < 240779520000)) ∧ ∀ o, wx.cell? ⟨W1.heap.size, o, none⟩ = (Rc.cells { r with un := u })[o]?)
    case first => as_aux_lemma =>
      have hBw := QB.out
      by_cases u0 : r.un = 0
      · have hu1 : (r.un != 0) = false := by simp [u0]
        have HU := Lib.hid u0
        clear u0
        go_wp2_with fail
        go_meet
        case rel => exact ⟨(by repeat (first | (with_reducible exact Below.refl _ _) | (with_reducible assumption) | (with_reducible refine RowKit.Below.ext ?_ ?_ _) | (with_reducible refine Below.alloc ?_ ?_ _) | (with_reducible refine Below.drew ?_) | (with_reducible refine RowKit.Below.drawnN ?_ _) | (with_reducible refine Below.setCell ?_ ?_ _) | (exact (by first | (simp; done) | (simp; omega) | omega)))), r.un, .inl ⟨HU.out, HU.out⟩, .inl HU.out, fun o => kept_cells 25 (by repeat (first | (with_reducible exact Below.refl _ _) | (with_reducible assumption) | (with_reducible refine RowKit.Below.ext ?_ ?_ _) | (with_reducible refine Below.alloc ?_ ?_ _) | (with_reducible refine Below.drew ?_) | (with_reducible refine RowKit.Below.drawnN ?_ _) | (with_reducible refine Below.setCell ?_ ?_ _) | (exact (by first | (simp; done) | (simp; omega) | omega)))) rfl o⟩
      · have hu1 : (r.un != 0) = true := by simp [u0]
        by_cases v1 : r.un < -62135596800
        · go_wp2
          go_ret
          exact ⟨rfl, (by repeat (first | (with_reducible exact Below.refl _ _) | (with_reducible assumption) | (with_reducible refine RowKit.Below.ext ?_ ?_ _) | (with_reducible refine Below.alloc ?_ ?_ _) | (with_reducible refine Below.drew ?_) | (with_reducible refine RowKit.Below.drawnN ?_ _) | (with_reducible refine Below.setCell ?_ ?_ _) | (exact (by first | (simp; done) | (simp; omega) | omega))))⟩
        by_cases v2 : 240779520000 ≤ r.un
        · go_wp2
          go_ret
          exact ⟨rfl, (by repeat (first | (with_reducible exact Below.refl _ _) | (with_reducible assumption) | (with_reducible refine RowKit.Below.ext ?_ ?_ _) | (with_reducible refine Below.alloc ?_ ?_ _) | (with_reducible refine Below.drew ?_) | (with_reducible refine RowKit.Below.drawnN ?_ _) | (with_reducible refine Below.setCell ?_ ?_ _) | (exact (by first | (simp; done) | (simp; omega) | omega))))⟩
        by_cases v3 : r.un = -12622780800
        · have hu2 : (r.un == -12622780800) = true := by simp [v3]
          clear v3 u0
          go_wp2
          go_ret
          exact ⟨rfl, (by repeat (first | (with_reducible exact Below.refl _ _) | (with_reducible assumption) | (with_reducible refine RowKit.Below.ext ?_ ?_ _) | (with_reducible refine Below.alloc ?_ ?_ _) | (with_reducible refine Below.drew ?_) | (with_reducible refine RowKit.Below.drawnN ?_ _) | (with_reducible refine Below.setCell ?_ ?_ _) | (exact (by first | (simp; done) | (simp; omega) | omega))))⟩
        have hu2 : (r.un == -12622780800) = false := by simp [v3]
        have HUR : UnRel r.un (r.un + 12622780800) := .inr ⟨u0, by omega, rfl⟩
        have HUB := Lib.hid (show -62135596800 ≤ r.un ∧ r.un < 240779520000 by omega)
        have HUQ := Lib.hid HUR
        clear u0 v3 HUR
        go_wp2_with fail
        go_meet
        case rel => exact ⟨(by repeat (first | (with_reducible exact Below.refl _ _) | (with_reducible assumption) | (with_reducible refine RowKit.Below.ext ?_ ?_ _) | (with_reducible refine Below.alloc ?_ ?_ _) | (with_reducible refine Below.drew ?_) | (with_reducible refine RowKit.Below.drawnN ?_ _) | (with_reducible refine Below.setCell ?_ ?_ _) | (exact (by first | (simp; done) | (simp; omega) | omega)))), r.un + 12622780800, HUQ.out, .inr HUB.out, fun o => kept_cells 25 (by repeat (first | (with_reducible exact Below.refl _ _) | (with_reducible assumption) | (with_reducible refine RowKit.Below.ext ?_ ?_ _) | (with_reducible refine Below.alloc ?_ ?_ _) | (with_reducible refine Below.drew ?_) | (with_reducible refine RowKit.Below.drawnN ?_ _) | (with_reducible refine Below.setCell ?_ ?_ _) | (exact (by first | (simp; done) | (simp; omega) | omega)))) rfl o⟩
    case rest => as_aux_lemma =>
      obtain ⟨hBy, u, hur, hrg, hcy⟩ := hcut
      obtain ⟨W2, rfl⟩ : ∃ W2 : World, W2 = wc := ⟨_, rfl⟩
      have hB2 := QB.out.trans (hBy.mono hBs)
      have hs2 := hBy.size
      have hlt6 : w.heap.size < W1.heap.size := World.block_lt_of_cell? W1 _ c0
      have hlt7 : W1.heap.size < W2.heap.size := World.block_lt_of_cell? W2 _ ((hcy 0).trans (rfl : _ = some (Value.int .i64 r.f)))
      replace c0 := cell_of_below hBy c0
      replace c1 := cell_of_below hBy c1
      replace c2 := cell_of_below hBy c2
      replace c3 := cell_of_below hBy c3
      replace c4 := cell_of_below hBy c4
      replace c5 := cell_of_below hBy c5
      replace c6 := cell_of_below hBy c6
      replace c7 := cell_of_below hBy c7
      replace c8 := cell_of_below hBy c8
      replace c9 := cell_of_below hBy c9
      replace c10 := cell_of_below hBy c10
      replace c11 := cell_of_below hBy c11
      replace c12 := cell_of_below hBy c12
      replace c13 := cell_of_below hBy c13
      have e0 := (hcy 0).trans (rfl : _ = some (Value.int .i64 r.f))
      have e1 := (hcy 1).trans (rfl : _ = some (Value.int .i64 r.iv))
      have e2 := (hcy 2).trans (rfl : _ = some (Value.int .i64 r.ct))
      have e3 := (hcy 3).trans (rfl : _ = some (Value.int .i64 u))
      have e4 := (hcy 4).trans (rfl : _ = some r.mo.v)
      have e5 := (hcy 5).trans (rfl : _ = some r.md.v)
      have e6 := (hcy 6).trans (rfl : _ = some r.yd.v)
      have e7 := (hcy 7).trans (rfl : _ = some r.wk.v)
      have e8 := (hcy 8).trans (rfl : _ = some r.dy.v)
      have e9 := (hcy 9).trans (rfl : _ = some r.ho.v)
      have e10 := (hcy 10).trans (rfl : _ = some r.mi.v)
      have e11 := (hcy 11).trans (rfl : _ = some r.se.v)
      have e12 := (hcy 12).trans (rfl : _ = some r.po.v)
      have e13 := (hcy 13).trans (rfl : _ = some (Value.int .i64 r.ws))
      have hvu := validB_un r u hur hrg
      have HRW := Lib.hid (fun W (h : Below w.heap.size w W) => HR.out.below h)
      have HRW2 := Lib.hid (fun W (h : Below w.heap.size w W) => Rc.In.un u (HR.out.below h))
      have Q2 := Lib.hid hB2
      have HUR := Lib.hid hur
      clear hBy hcy QCW hrg hur QB
      clear hs2 hlt6 hBs
      generalize W1.heap.size = b7 at e0 e1 e2 e3 e4 e5 e6 e7 e8 e9 e10 e11 e12 e13 hlt7 ⊢
      have hs2 := hB2.size
      cases hv : validB r
      · as_aux_lemma =>
        rw [hv] at hvu
        have CF1 := Lib.hid (fun W (h : r.In W) => first_no r t 20 W h hv)
        have CF2 := Lib.hid (fun W (h : Rc.In { r with un := u } W) => first_no { r with un := u } (t + 12622780800) 20 W h hvu)
        have CV := Lib.hid (fun W (h : r.In W) => valid_any r W h)
        rw [hv] at CV
        clear hv hvu
        go_wp2_with fail
        refine (CF1.out _ (HRW.out _ hB2)).mono ?_
        rintro e w1 ⟨rfl, hb1⟩; obtain ⟨x, rfl⟩ := hb1.toExt; clear hb1
        go_wp2_with fail
        refine (CF2.out _ (HRW2.out _ (by repeat (first | (with_reducible exact Below.refl _ _) | (with_reducible assumption) | (with_reducible refine RowKit.Below.ext ?_ ?_ _) | (with_reducible refine Below.alloc ?_ ?_ _) | (with_reducible refine Below.drew ?_) | (with_reducible refine RowKit.Below.drawnN ?_ _) | (with_reducible refine Below.setCell ?_ ?_ _) | (exact (by first | (simp; done) | (simp; omega) | omega)))))).mono ?_
        rintro e w1 ⟨rfl, hb1⟩; obtain ⟨x5, rfl⟩ := hb1.toExt; clear hb1
        go_wp2_with fail
        refine (CV.out _ (HRW.out _ (by repeat (first | (with_reducible exact Below.refl _ _) | (with_reducible assumption) | (with_reducible refine RowKit.Below.ext ?_ ?_ _) | (with_reducible refine Below.alloc ?_ ?_ _) | (with_reducible refine Below.drew ?_) | (with_reducible refine RowKit.Below.drawnN ?_ _) | (with_reducible refine Below.setCell ?_ ?_ _) | (exact (by first | (simp; done) | (simp; omega) | omega)))))).mono ?_
        rintro e w1 ⟨rfl, hb1⟩; obtain ⟨x6, rfl⟩ := hb1.toExt; clear hb1
        go_wp2
        go_ret
        exact ⟨rfl, (by repeat (first | (with_reducible exact Below.refl _ _) | (with_reducible assumption) | (with_reducible refine RowKit.Below.ext ?_ ?_ _) | (with_reducible refine Below.alloc ?_ ?_ _) | (with_reducible refine Below.drew ?_) | (with_reducible refine RowKit.Below.drawnN ?_ _) | (with_reducible refine Below.setCell ?_ ?_ _) | (exact (by first | (simp; done) | (simp; omega) | omega))))⟩
      · as_aux_lemma =>
        have hk := Rc.Ok.of hv
        have hk2 := Rc.Ok.of (hvu.trans hv)
        obtain ⟨L, hL⟩ := AllL.total r t (-62135596800) 253402300800 hk (by omega) (by omega)
        obtain ⟨L', hL'⟩ := AllL.total { r with un := u } (t + 12622780800) (-62135596800) 253402300800 hk2 (by omega) (by omega)
        have CF1 := Lib.hid (fun W (h : r.In W) => first_yes r t 20 W L h hv (by omega) (by omega) (by omega) (by omega) hL)
        have CF2 := Lib.hid (fun W (h : Rc.In { r with un := u } W) => first_yes { r with un := u } (t + 12622780800) 20 W L' h (hvu.trans hv) (by omega) (by omega) (by omega) (by omega) hL')
        have CV := Lib.hid (fun W (h : r.In W) => valid_any r W h)
        rw [hv] at CV
        have HLAW := Lib.hid (first_law r t u hk (by omega) (by omega) HUR.out L L' hL hL')
        have hbd := hL.bd
        have HBD := Lib.hid (show ∀ x ∈ (takeC r L).take 20, -1000000000000 ≤ x ∧ x ≤ 1000000000000 from fun x hx => by have := hbd x (takeC_mem hx); omega)
        have HV := Lib.hid hv
        have HV2 := Lib.hid (hvu.trans hv)
        clear hv hvu hbd hL hL'
        go_wp2_with fail
        refine (CF1.out _ (HRW.out _ hB2)).mono ?_
        rintro e w1 ⟨sa, rfl, hsa1, hsa2, hb1⟩
        obtain ⟨x5, rfl⟩ := hb1.toExt
        clear hb1
        have HA1 := Lib.hid hsa1
        have HA2 := Lib.hid hsa2
        clear hsa1 hsa2
        go_wp2_with fail
        refine (CF2.out _ (HRW2.out _ (by repeat (first | (with_reducible exact Below.refl _ _) | (with_reducible assumption) | (with_reducible refine RowKit.Below.ext ?_ ?_ _) | (with_reducible refine Below.alloc ?_ ?_ _) | (with_reducible refine Below.drew ?_) | (with_reducible refine RowKit.Below.drawnN ?_ _) | (with_reducible refine Below.setCell ?_ ?_ _) | (exact (by first | (simp; done) | (simp; omega) | omega)))))).mono ?_
        rintro e w1 ⟨sb, rfl, hsb1, hsb2, hb1⟩
        obtain ⟨x6, rfl⟩ := hb1.toExt
        clear hb1
        have HB1 := Lib.hid hsb1
        have HB2 := Lib.hid hsb2
        clear hsb1 hsb2
        go_wp2_with fail
        refine (CV.out _ (HRW.out _ (by repeat (first | (with_reducible exact Below.refl _ _) | (with_reducible assumption) | (with_reducible refine RowKit.Below.ext ?_ ?_ _) | (with_reducible refine Below.alloc ?_ ?_ _) | (with_reducible refine Below.drew ?_) | (with_reducible refine RowKit.Below.drawnN ?_ _) | (with_reducible refine Below.setCell ?_ ?_ _) | (exact (by first | (simp; done) | (simp; omega) | omega)))))).mono ?_
        rintro e w1 ⟨rfl, hb1⟩; obtain ⟨x7, rfl⟩ := hb1.toExt; clear hb1
        go_upto_region 21 with fail
        obtain ⟨aA, ac, al⟩ := sa
        obtain ⟨bA, bc, bl⟩ := sb
        refine at_world (fun W => Below W2.heap.size W2 W ∧ SlI.In ⟨aA, ac, al⟩ W ∧ SlI.In ⟨bA, bc, bl⟩ W) ⟨(by repeat (first | (with_reducible exact Below.refl _ _) | (with_reducible assumption) | (with_reducible refine RowKit.Below.ext ?_ ?_ _) | (with_reducible refine Below.alloc ?_ ?_ _) | (with_reducible refine Below.drew ?_) | (with_reducible refine RowKit.Below.drawnN ?_ _) | (with_reducible refine Below.setCell ?_ ?_ _) | (exact (by first | (simp; done) | (simp; omega) | omega)))), HA2.out.below (by repeat (first | (with_reducible exact Below.refl _ _) | (with_reducible assumption) | (with_reducible refine RowKit.Below.ext ?_ ?_ _) | (with_reducible refine Below.alloc ?_ ?_ _) | (with_reducible refine Below.drew ?_) | (with_reducible refine RowKit.Below.drawnN ?_ _) | (with_reducible refine Below.setCell ?_ ?_ _) | (exact (by first | (simp; done) | (simp; omega) | omega)))), HB2.out.below (by repeat (first | (with_reducible exact Below.refl _ _) | (with_reducible assumption) | (with_reducible refine RowKit.Below.ext ?_ ?_ _) | (with_reducible refine Below.alloc ?_ ?_ _) | (with_reducible refine Below.drew ?_) | (with_reducible refine RowKit.Below.drawnN ?_ _) | (with_reducible refine Below.setCell ?_ ?_ _) | (exact (by first | (simp; done) | (simp; omega) | omega))))⟩ ?_
        intro W3 ⟨hQ, hA3, hB3⟩
        replace c0 := cell_of_below hQ c0
        replace c1 := cell_of_below hQ c1
        replace c2 := cell_of_below hQ c2
        replace c3 := cell_of_below hQ c3
        replace c4 := cell_of_below hQ c4
        replace c5 := cell_of_below hQ c5
        replace c6 := cell_of_below hQ c6
        replace c7 := cell_of_below hQ c7
        replace c8 := cell_of_below hQ c8
        replace c9 := cell_of_below hQ c9
        replace c10 := cell_of_below hQ c10
        replace c11 := cell_of_below hQ c11
        replace c12 := cell_of_below hQ c12
        replace c13 := cell_of_below hQ c13
        replace e0 := cell_of_below hQ e0
        replace e1 := cell_of_below hQ e1
        replace e2 := cell_of_below hQ e2
        replace e3 := cell_of_below hQ e3
        replace e4 := cell_of_below hQ e4
        replace e5 := cell_of_below hQ e5
        replace e6 := cell_of_below hQ e6
        replace e7 := cell_of_below hQ e7
        replace e8 := cell_of_below hQ e8
        replace e9 := cell_of_below hQ e9
        replace e10 := cell_of_below hQ e10
        replace e11 := cell_of_below hQ e11
        replace e12 := cell_of_below hQ e12
        replace e13 := cell_of_below hQ e13
        have hB4 := hB2.trans (hQ.mono hs2)
        have Q3 := Lib.hid hB4
        have HA3 := Lib.hid hA3
        have HB3 := Lib.hid hB3
        have hs3 := hB4.size
        dsimp only at HA1 HB1
        clear hQ hA3 hB3 hB4 HA2 HB2 hs2 hB2 Q2 hlt7 CF1 CF2 CV
        dsimp only [SlI.v]
        obtain ⟨ends, hends⟩ : ∃ ends : Bool, ends = decide (al.length = 20 ∨ (0 < r.ct ∧ (al.length : Int) = r.ct) ∨ (r.un ≠ 0 ∧ r.un < 240710400000)) := ⟨_, rfl⟩
        have HENDS := Lib.hid hends
        clear hends
        go_cut [21] from 122 (fun s21 wx => s21 = .bool ends ∧ wx = W3)
        case first => as_aux_lemma =>
          by_cases a1 : al.length = 20
          · have g1 : ((al.length : Int) == 20) = true := by simp [a1]
            have HX := Lib.hid (show ends = true by rw [HENDS.out]; exact decide_eq_true (.inl a1))
            clear a1
            go_wp2
            go_meet
            case rel => exact ⟨by rw [HX.out], rfl⟩
          have g1 : ((al.length : Int) == 20) = false := by simp; omega
          by_cases a2 : 0 < r.ct
          · by_cases a3 : (al.length : Int) = r.ct
            · have g3 : ((al.length : Int) == r.ct) = true := by simp [a3]
              have HX := Lib.hid (show ends = true by rw [HENDS.out]; exact decide_eq_true (.inr (.inl ⟨a2, a3⟩)))
              clear a3 a1
              go_wp2
              go_meet
              case rel => exact ⟨by rw [HX.out], rfl⟩
            have g3 : ((al.length : Int) == r.ct) = false := by simp [a3]
            by_cases a4 : r.un = 0
            · have g4 : (r.un != 0) = false := by simp [a4]
              have HX := Lib.hid (show ends = false by rw [HENDS.out]; exact decide_eq_false (by omega))
              clear a4 a1
              try clear a3
              go_wp2
              go_meet
              case rel => exact ⟨by rw [HX.out], rfl⟩
            have g4 : (r.un != 0) = true := by simp [a4]
            by_cases a5 : r.un < 240710400000
            · have HX := Lib.hid (show ends = true by rw [HENDS.out]; exact decide_eq_true (.inr (.inr ⟨a4, a5⟩)))
              clear a4 a1
              try clear a3
              go_wp2
              go_meet
              case rel => exact ⟨by rw [HX.out], rfl⟩
            have HX := Lib.hid (show ends = false by rw [HENDS.out]; exact decide_eq_false (by omega))
            clear a4 a1
            try clear a3
            go_wp2
            go_meet
            case rel => exact ⟨by rw [HX.out], rfl⟩
          · by_cases a4 : r.un = 0
            · have g4 : (r.un != 0) = false := by simp [a4]
              have HX := Lib.hid (show ends = false by rw [HENDS.out]; exact decide_eq_false (by omega))
              clear a4 a1
              try clear a3
              go_wp2
              go_meet
              case rel => exact ⟨by rw [HX.out], rfl⟩
            have g4 : (r.un != 0) = true := by simp [a4]
            by_cases a5 : r.un < 240710400000
            · have HX := Lib.hid (show ends = true by rw [HENDS.out]; exact decide_eq_true (.inr (.inr ⟨a4, a5⟩)))
              clear a4 a1
              try clear a3
              go_wp2
              go_meet
              case rel => exact ⟨by rw [HX.out], rfl⟩
            have HX := Lib.hid (show ends = false by rw [HENDS.out]; exact decide_eq_false (by omega))
            clear a4 a1
            try clear a3
            go_wp2
            go_meet
            case rel => exact ⟨by rw [HX.out], rfl⟩
        case rest => as_aux_lemma =>
          obtain ⟨rfl, hW⟩ := hcut
          subst hW
          obtain ⟨W3, rfl⟩ : ∃ W3 : World, W3 = wc := ⟨_, rfl⟩
          go_upto_region 22 with fail
          go_cut [21, 182] from 134 (fun _ s182 wx => s182 = .bool false ∧ Below W3.heap.size W3 wx)
          case first => as_aux_lemma =>
            cases hE : ends
            · clear hE
              go_wp2
              go_meet
              case rel => exact ⟨rfl, Below.refl _ _⟩
            have hend := of_decide_eq_true (HENDS.out.symm.trans hE)
            clear hE
            have hLW := first_use HA1.out (E := fun k => k = 20 ∨ (0 < r.ct ∧ (k : Int) = r.ct) ∨ (r.un ≠ 0 ∧ r.un < 240710400000)) HLAW.out
            have CMV := Lib.hid (fun W (h : SlI.In ⟨aA, ac, al⟩ W) => moves_any ⟨aA, ac, al⟩ W h (by dsimp only; rw [HA1.out]; exact HBD.out) (by
              have := congrArg List.length HA1.out
              rw [List.length_take] at this
              dsimp only
              omega))
            by_cases l0 : al = []
            · have g0 : ((al.length : Int) == 0) = true := by simp [l0]
              have HEQ := Lib.hid (show bl = mvL al by rw [HB1.out]; exact hLW hend (fun h => by rw [l0] at h; simp at h))
              clear l0 hend hLW
              go_wp2_with fail
              refine (CMV.out _ HA3.out).mono ?_
              rintro e w1 ⟨sm, rfl, hm1, hm2, hb1, _⟩
              obtain ⟨xm, rfl⟩ := hb1.toExt
              clear hb1
              have HM1 := Lib.hid hm1
              have HM2 := Lib.hid hm2
              clear hm1 hm2
              go_wp2_with fail
              refine (equal_same ⟨bA, bc, bl⟩ sm _ (HB3.out.below (by repeat (first | (with_reducible exact Below.refl _ _) | (with_reducible assumption) | (with_reducible refine RowKit.Below.ext ?_ ?_ _) | (with_reducible refine Below.alloc ?_ ?_ _) | (with_reducible refine Below.drew ?_) | (with_reducible refine RowKit.Below.drawnN ?_ _) | (with_reducible refine Below.setCell ?_ ?_ _) | (exact (by first | (simp; done) | (simp; omega) | omega))))) HM2.out (HEQ.out.trans HM1.out.symm)).mono ?_
              rintro e w1 ⟨rfl, q2, rfl⟩
              go_wp2
              go_meet
              case rel => exact ⟨rfl, (by repeat (first | (with_reducible exact Below.refl _ _) | (with_reducible assumption) | (with_reducible refine RowKit.Below.ext ?_ ?_ _) | (with_reducible refine Below.alloc ?_ ?_ _) | (with_reducible refine Below.drew ?_) | (with_reducible refine RowKit.Below.drawnN ?_ _) | (with_reducible refine Below.setCell ?_ ?_ _) | (exact (by first | (simp; done) | (simp; omega) | omega))))⟩
            have hpos : 0 < al.length := List.length_pos_iff.2 l0
            obtain ⟨bq, oq, rfl, hcq⟩ := HA3.out.2.2 l0
            obtain ⟨kk, hkk⟩ : ∃ kk : Nat, al.length = kk + 1 := ⟨al.length - 1, by omega⟩
            have hcl := hcq kk (by dsimp only; omega)
            dsimp only at hcl
            have hlast1 : al[al.length - 1] = al[kk] := by congr 1; omega
            generalize hlastv : al[kk] = lastv at hcl hlast1
            have hb20 : kk < 20 := by
              have := congrArg List.length HA1.out
              rw [List.length_take] at this
              omega
            have CMW := Lib.hid (fun W (h : SlI.In ⟨some ⟨bq, oq, none⟩, ac, al⟩ W) => (show Calls Tryz.prog 9 #[.slice (some ⟨bq, oq, none⟩) (kk + 1) ac] W (RetF (mvL al) W) by
              have := CMV.out W h
              dsimp only [SlI.v] at this
              rw [hkk] at this
              exact this))
            have g0 : (((kk : Int) + 1) == 0) = false := by simp; omega
            have HKK := Lib.hid hkk
            rw [hkk]
            by_cases hlast : lastv < 240710400000
            · have HEQ := Lib.hid (show bl = mvL al by rw [HB1.out]; exact hLW hend (fun h => by rw [hlast1]; exact hlast))
              clear l0 hend hLW hlastv hcq hlast1 hkk hpos CMV
              as_aux_lemma =>
                go_wp2_with fail
                refine (CMW.out _ HA3.out).mono ?_
                rintro e w1 ⟨sm, rfl, hm1, hm2, hb1, _⟩
                obtain ⟨xm, rfl⟩ := hb1.toExt
                clear hb1
                have HM1 := Lib.hid hm1
                have HM2 := Lib.hid hm2
                clear hm1 hm2
                go_wp2_with fail
                refine (equal_same ⟨bA, bc, bl⟩ sm _ (HB3.out.below (by repeat (first | (with_reducible exact Below.refl _ _) | (with_reducible assumption) | (with_reducible refine RowKit.Below.ext ?_ ?_ _) | (with_reducible refine Below.alloc ?_ ?_ _) | (with_reducible refine Below.drew ?_) | (with_reducible refine RowKit.Below.drawnN ?_ _) | (with_reducible refine Below.setCell ?_ ?_ _) | (exact (by first | (simp; done) | (simp; omega) | omega))))) HM2.out (HEQ.out.trans HM1.out.symm)).mono ?_
                rintro e w1 ⟨rfl, q2, rfl⟩
                go_wp2
                rw [← HKK.out]
                go_meet
                case rel => exact ⟨rfl, (by repeat (first | (with_reducible exact Below.refl _ _) | (with_reducible assumption) | (with_reducible refine RowKit.Below.ext ?_ ?_ _) | (with_reducible refine Below.alloc ?_ ?_ _) | (with_reducible refine Below.drew ?_) | (with_reducible refine RowKit.Below.drawnN ?_ _) | (with_reducible refine Below.setCell ?_ ?_ _) | (exact (by first | (simp; done) | (simp; omega) | omega))))⟩
            · have hlast2 : 240710400000 ≤ lastv := by omega
              clear l0 hend hLW hlastv hcq hlast1 hkk hpos CMV CMW hlast
              as_aux_lemma =>
                go_wp2
                rw [← HKK.out]
                go_meet
                case rel => exact ⟨rfl, Below.refl _ _⟩
          case rest => as_aux_lemma =>
            obtain ⟨rfl, hQ⟩ := hcut
            obtain ⟨W4, rfl⟩ : ∃ W4 : World, W4 = wc := ⟨_, rfl⟩
            replace c0 := cell_of_below hQ c0
            replace c1 := cell_of_below hQ c1
            replace c2 := cell_of_below hQ c2
            replace c3 := cell_of_below hQ c3
            replace c4 := cell_of_below hQ c4
            replace c5 := cell_of_below hQ c5
            replace c6 := cell_of_below hQ c6
            replace c7 := cell_of_below hQ c7
            replace c8 := cell_of_below hQ c8
            replace c9 := cell_of_below hQ c9
            replace c10 := cell_of_below hQ c10
            replace c11 := cell_of_below hQ c11
            replace c12 := cell_of_below hQ c12
            replace c13 := cell_of_below hQ c13
            replace e0 := cell_of_below hQ e0
            replace e1 := cell_of_below hQ e1
            replace e2 := cell_of_below hQ e2
            replace e3 := cell_of_below hQ e3
            replace e4 := cell_of_below hQ e4
            replace e5 := cell_of_below hQ e5
            replace e6 := cell_of_below hQ e6
            replace e7 := cell_of_below hQ e7
            replace e8 := cell_of_below hQ e8
            replace e9 := cell_of_below hQ e9
            replace e10 := cell_of_below hQ e10
            replace e11 := cell_of_below hQ e11
            replace e12 := cell_of_below hQ e12
            replace e13 := cell_of_below hQ e13
            have hB5 := Q3.out.trans (hQ.mono hs3)
            have Q5 := Lib.hid hB5
            have hs5 := hB5.size
            clear hQ hB5 Q3 hs3 HA3 HB3 HB1 HBD HENDS HLAW
            have HSL := Lib.hid (HS.out.2.2)
            have HSB := Lib.hid (HS.out.2.1)
            dsimp only at HSL HSB
            have hsl3 : sl.length ≤ 3 := by omega
            have hin1 : inP t := ⟨by omega, by omega⟩
            have hin2 : inP (t + 12622780800) := ⟨by omega, by omega⟩
            have HIN1 := Lib.hid hin1
            have HIN2 := Lib.hid hin2
            have HCMT := Lib.hid CMT
            clear hin1 hin2 CMT
            go_wp2_with fail
            go_loopg [185] sl.length (fun gg v185 wr => ∃ k : Nat, k ≤ sl.length ∧ sl.length - k ≤ gg ∧ v185 = .int .i64 k ∧ Hid (Below W4.heap.size W4 wr))
            case atStart => exact ⟨0, by omega, by omega, rfl, Below.refl _ _⟩
            case round =>
              obtain ⟨k, hk1, hk2, rfl, HBu⟩ := hrel
              have HHK := Lib.hid hk2
              clear hk2
              have hB6 := Q5.out.trans (HBu.out.mono hs5)
              by_cases hlt : k < sl.length
              · as_aux_lemma =>
                have hltz : (k : Int) < (sl.length : Int) := by omega
                obtain ⟨bs, os, rfl, hcl⟩ := HSL.out (by intro e; rw [e] at hlt; simp at hlt)
                have hc1 := cell_of_below hB6 (hcl k hlt)
                have hm := HSB.out sl[k] (List.getElem_mem hlt)
                clear hcl
                generalize sl[k] = m at hc1 hm
                obtain ⟨hm1, hm2⟩ := hm
                have hs6 := hB6.size
                replace c0 := cell_of_below HBu.out c0
                replace c1 := cell_of_below HBu.out c1
                replace c2 := cell_of_below HBu.out c2
                replace c3 := cell_of_below HBu.out c3
                replace c4 := cell_of_below HBu.out c4
                replace c5 := cell_of_below HBu.out c5
                replace c6 := cell_of_below HBu.out c6
                replace c7 := cell_of_below HBu.out c7
                replace c8 := cell_of_below HBu.out c8
                replace c9 := cell_of_below HBu.out c9
                replace c10 := cell_of_below HBu.out c10
                replace c11 := cell_of_below HBu.out c11
                replace c12 := cell_of_below HBu.out c12
                replace c13 := cell_of_below HBu.out c13
                replace e0 := cell_of_below HBu.out e0
                replace e1 := cell_of_below HBu.out e1
                replace e2 := cell_of_below HBu.out e2
                replace e3 := cell_of_below HBu.out e3
                replace e4 := cell_of_below HBu.out e4
                replace e5 := cell_of_below HBu.out e5
                replace e6 := cell_of_below HBu.out e6
                replace e7 := cell_of_below HBu.out e7
                replace e8 := cell_of_below HBu.out e8
                replace e9 := cell_of_below HBu.out e9
                replace e10 := cell_of_below HBu.out e10
                replace e11 := cell_of_below HBu.out e11
                replace e12 := cell_of_below HBu.out e12
                replace e13 := cell_of_below HBu.out e13
                have hBu := HBu.out
                go_upto_region 28 with fail
                clear hc1
                generalize t + m = l
                clear hm1 hm2
                by_cases p1 : l < -62066476800
                · as_aux_lemma =>
                  go_wp2
                  go_roundg (sl.length - (k + 1))
                  case measure => have := HHK.out; omega
                  case rel => exact ⟨k + 1, by omega, by omega, by go_num, hBu⟩
                by_cases p2 : 240710400000 ≤ l
                · as_aux_lemma =>
                  go_wp2
                  go_roundg (sl.length - (k + 1))
                  case measure => have := HHK.out; omega
                  case rel => exact ⟨k + 1, by omega, by omega, by go_num, hBu⟩
                have hk := Rc.Ok.of HV.out
                have hk2 := Rc.Ok.of HV2.out
                have em := matchP_400 r t l u hk HUR.out (by omega) (by omega) (by omega) (by omega)
                have ed := numP_same r t l u hk (by omega) (by omega) (by omega) (by omega)
                have nb1 := numP_bd r l hk.f1 hk.f5 hk.s1 hk.s7 (by omega) (by omega)
                have nb2 := numP_bd r t hk.f1 hk.f5 hk.s1 hk.s7 (by omega) (by omega)
                have nb3 := numP_bd { r with un := u } (l + 12622780800) hk.f1 hk.f5 hk.s1 hk.s7 (by omega) (by omega)
                have nb4 := numP_bd { r with un := u } (t + 12622780800) hk.f1 hk.f5 hk.s1 hk.s7 (by omega) (by omega)
                have ep := passP_400b r u (t / 86400) (l / 86400) (by omega) (by omega) (by omega) (by omega)
                rw [← day_400 t] at ep
                have M1 := fun W (h : r.In W) => HCMT.out r t l W h HV.out HIN1.out ⟨by omega, by omega⟩ (by omega)
                have M2 := fun W (h : Rc.In { r with un := u } W) => HCMT.out { r with un := u } (t + 12622780800) (l + 12622780800) W h HV2.out HIN2.out ⟨by omega, by omega⟩ (by omega)
                rw [em] at M2
                generalize matchP r t l = mb at M1 M2
                have P1 := fun W (h : r.In W) => period_yes r t l W h HV.out HIN1.out ⟨by omega, by omega⟩ (by omega) (by omega) (by omega) (by omega)
                have P2 := fun W (h : Rc.In { r with un := u } W) => period_yes { r with un := u } (t + 12622780800) (l + 12622780800) W h HV2.out HIN2.out ⟨by omega, by omega⟩ (by omega) (by omega) (by omega) (by omega)
                rw [ed] at P2
                generalize numP r l - numP r t = dd at P1 P2
                have D1 := fun W (h : r.In W) => rday_yes r t (l / 86400) W h HV.out HIN1.out (by omega) (by omega)
                have D2 := fun W (h : Rc.In { r with un := u } W) => rday_yes { r with un := u } (t + 12622780800) (l / 86400 + 146097) W h HV2.out HIN2.out (by omega) (by omega)
                rw [ep] at D2
                generalize passP r (diP (t / 86400)) (l / 86400) = pb at D1 D2
                have HM1 := Lib.hid M1
                have HM2 := Lib.hid M2
                have HP1 := Lib.hid P1
                have HP2 := Lib.hid P2
                have HD1 := Lib.hid D1
                have HD2 := Lib.hid D2
                clear M1 M2 P1 P2 D1 D2 em ed ep nb1 nb2 nb3 nb4 hk hk2
                go_wp2_with fail
                refine (HM1.out _ (HRW.out _ hB6)).mono ?_
                rintro e w1 ⟨rfl, hb1⟩; obtain ⟨xa, rfl⟩ := hb1.toExt; clear hb1
                go_wp2_with fail
                refine (HM2.out _ (HRW2.out _ (by repeat (first | (with_reducible exact Below.refl _ _) | (with_reducible assumption) | (with_reducible refine RowKit.Below.ext ?_ ?_ _) | (with_reducible refine Below.alloc ?_ ?_ _) | (with_reducible refine Below.drew ?_) | (with_reducible refine RowKit.Below.drawnN ?_ _) | (with_reducible refine Below.setCell ?_ ?_ _) | (exact (by first | (simp; done) | (simp; omega) | omega)))))).mono ?_
                rintro e w1 ⟨rfl, hb1⟩; obtain ⟨xb, rfl⟩ := hb1.toExt; clear hb1
                go_wp2_with fail
                refine (HP1.out _ (HRW.out _ (by repeat (first | (with_reducible exact Below.refl _ _) | (with_reducible assumption) | (with_reducible refine RowKit.Below.ext ?_ ?_ _) | (with_reducible refine Below.alloc ?_ ?_ _) | (with_reducible refine Below.drew ?_) | (with_reducible refine RowKit.Below.drawnN ?_ _) | (with_reducible refine Below.setCell ?_ ?_ _) | (exact (by first | (simp; done) | (simp; omega) | omega)))))).mono ?_
                rintro e w1 ⟨rfl, hb1⟩; obtain ⟨xc, rfl⟩ := hb1.toExt; clear hb1
                go_wp2_with fail
                refine (HP2.out _ (HRW2.out _ (by repeat (first | (with_reducible exact Below.refl _ _) | (with_reducible assumption) | (with_reducible refine RowKit.Below.ext ?_ ?_ _) | (with_reducible refine Below.alloc ?_ ?_ _) | (with_reducible refine Below.drew ?_) | (with_reducible refine RowKit.Below.drawnN ?_ _) | (with_reducible refine Below.setCell ?_ ?_ _) | (exact (by first | (simp; done) | (simp; omega) | omega)))))).mono ?_
                rintro e w1 ⟨rfl, hb1⟩; obtain ⟨xd, rfl⟩ := hb1.toExt; clear hb1
                clear HM1 HM2 HP1 HP2
                go_wp2_with fail
                refine (floor_any l 86400 _ (by omega) (by omega) (by omega) (by omega)).mono ?_
                rintro e w1 ⟨rfl, nd, rfl⟩
                go_wp2_with fail
                refine (HD1.out _ (HRW.out _ (by repeat (first | (with_reducible exact Below.refl _ _) | (with_reducible assumption) | (with_reducible refine RowKit.Below.ext ?_ ?_ _) | (with_reducible refine Below.alloc ?_ ?_ _) | (with_reducible refine Below.drew ?_) | (with_reducible refine RowKit.Below.drawnN ?_ _) | (with_reducible refine Below.setCell ?_ ?_ _) | (exact (by first | (simp; done) | (simp; omega) | omega)))))).mono ?_
                rintro e w1 ⟨rfl, hb1⟩; obtain ⟨xe, rfl⟩ := hb1.toExt; clear hb1
                go_wp2_with fail
                refine (HD2.out _ (HRW2.out _ (by repeat (first | (with_reducible exact Below.refl _ _) | (with_reducible assumption) | (with_reducible refine RowKit.Below.ext ?_ ?_ _) | (with_reducible refine Below.alloc ?_ ?_ _) | (with_reducible refine Below.drew ?_) | (with_reducible refine RowKit.Below.drawnN ?_ _) | (with_reducible refine Below.setCell ?_ ?_ _) | (exact (by first | (simp; done) | (simp; omega) | omega)))))).mono ?_
                rintro e w1 ⟨rfl, hb1⟩; obtain ⟨xf, rfl⟩ := hb1.toExt; clear hb1
                clear HD1 HD2
                go_upto_region 40 with fail
                refine at_world (fun W => Below wr.heap.size wr W) (by repeat (first | (with_reducible exact Below.refl _ _) | (with_reducible assumption) | (with_reducible refine RowKit.Below.ext ?_ ?_ _) | (with_reducible refine Below.alloc ?_ ?_ _) | (with_reducible refine Below.drew ?_) | (with_reducible refine RowKit.Below.drawnN ?_ _) | (with_reducible refine Below.setCell ?_ ?_ _) | (exact (by first | (simp; done) | (simp; omega) | omega)))) ?_
                intro W5 hQ5
                replace c0 := cell_of_below hQ5 c0
                replace c1 := cell_of_below hQ5 c1
                replace c2 := cell_of_below hQ5 c2
                replace c3 := cell_of_below hQ5 c3
                replace c4 := cell_of_below hQ5 c4
                replace c5 := cell_of_below hQ5 c5
                replace c6 := cell_of_below hQ5 c6
                replace c7 := cell_of_below hQ5 c7
                replace c8 := cell_of_below hQ5 c8
                replace c9 := cell_of_below hQ5 c9
                replace c10 := cell_of_below hQ5 c10
                replace c11 := cell_of_below hQ5 c11
                replace c12 := cell_of_below hQ5 c12
                replace c13 := cell_of_below hQ5 c13
                replace e0 := cell_of_below hQ5 e0
                replace e1 := cell_of_below hQ5 e1
                replace e2 := cell_of_below hQ5 e2
                replace e3 := cell_of_below hQ5 e3
                replace e4 := cell_of_below hQ5 e4
                replace e5 := cell_of_below hQ5 e5
                replace e6 := cell_of_below hQ5 e6
                replace e7 := cell_of_below hQ5 e7
                replace e8 := cell_of_below hQ5 e8
                replace e9 := cell_of_below hQ5 e9
                replace e10 := cell_of_below hQ5 e10
                replace e11 := cell_of_below hQ5 e11
                replace e12 := cell_of_below hQ5 e12
                replace e13 := cell_of_below hQ5 e13
                have hB7 := hB6.trans (hQ5.mono hs6)
                have hBv := hBu.trans (hQ5.mono hBu.size)
                have hs7 := hB7.size
                have hsv := hBv.size
                clear hQ5 hB6 hBu HBu hs6
                by_cases l0 : al = []
                · as_aux_lemma =>
                  have g0 : ((al.length : Int) == 0) = true := by simp [l0]
                  clear l0
                  go_wp2
                  go_roundg (sl.length - (k + 1))
                  case measure => have := HHK.out; omega
                  case rel => exact ⟨k + 1, by omega, by omega, by go_num, hBv⟩
                have hpos : 0 < al.length := List.length_pos_iff.2 l0
                have g0 : ((al.length : Int) == 0) = false := by simp; omega
                clear l0
                have hk := Rc.Ok.of HV.out
                have hk2 := Rc.Ok.of HV2.out
                obtain ⟨M, hM⟩ := FromL.total r t l 253402300800 hk (by omega) (by omega)
                obtain ⟨M', hM'⟩ := FromL.total { r with un := u } (t + 12622780800) (l + 12622780800) 253402300800 hk2 (by omega) (by omega)
                have law := next_law r t l u hk (by omega) (by omega) HUR.out M M' hM hM'
                have hbd := nextV_bd (fun x hx => (hM.bd x hx).1)
                have N1 := fun W (h : r.In W) => next_yes r t l W M h HV.out (by omega) (by omega) (by omega) (by omega) hM
                have N2 := fun W (h : Rc.In { r with un := u } W) => next_yes { r with un := u } (t + 12622780800) (l + 12622780800) W M' h HV2.out (by omega) (by omega) (by omega) (by omega) hM'
                generalize nextV M = z at N1 law hbd
                generalize nextV M' = z' at N2 law
                obtain ⟨pv, pe⟩ := z
                obtain ⟨qv, qe⟩ := z'
                dsimp only at N1 N2 law hbd
                clear hM hM' hk hk2
                have HN1 := Lib.hid N1
                have HN2 := Lib.hid N2
                clear N1 N2
                by_cases z0 : pe = 0
                · by_cases z1 : pv < 240710400000
                  · have hl := law z0 z1
                    have hb := hbd z0
                    clear law hbd
                    rw [Prod.mk.injEq] at hl
                    obtain ⟨rfl, rfl⟩ := hl
                    subst z0
                    as_aux_lemma =>
                      go_wp2_with fail
                      refine (HN1.out _ (HRW.out _ hB7)).mono ?_
                      rintro e w1 ⟨rfl, hb1⟩; obtain ⟨xa, rfl⟩ := hb1.toExt; clear hb1
                      go_wp2_with fail
                      refine (HN2.out _ (HRW2.out _ (by repeat (first | (with_reducible exact Below.refl _ _) | (with_reducible assumption) | (with_reducible refine RowKit.Below.ext ?_ ?_ _) | (with_reducible refine Below.alloc ?_ ?_ _) | (with_reducible refine Below.drew ?_) | (with_reducible refine RowKit.Below.drawnN ?_ _) | (with_reducible refine Below.setCell ?_ ?_ _) | (exact (by first | (simp; done) | (simp; omega) | omega)))))).mono ?_
                      rintro e w1 ⟨rfl, hb1⟩; obtain ⟨xb, rfl⟩ := hb1.toExt; clear hb1
                      have hBz : Below W4.heap.size W4 ((W5.ext xa).ext xb) := (by repeat (first | (with_reducible exact Below.refl _ _) | (with_reducible assumption) | (with_reducible refine RowKit.Below.ext ?_ ?_ _) | (with_reducible refine Below.alloc ?_ ?_ _) | (with_reducible refine Below.drew ?_) | (with_reducible refine RowKit.Below.drawnN ?_ _) | (with_reducible refine Below.setCell ?_ ?_ _) | (exact (by first | (simp; done) | (simp; omega) | omega))))
                      go_wp2
                      go_roundg (sl.length - (k + 1))
                      case measure => have := HHK.out; omega
                      case rel => exact ⟨k + 1, by omega, by omega, by go_num, hBz⟩
                  · clear law hbd
                    subst z0
                    as_aux_lemma =>
                      go_wp2_with fail
                      refine (HN1.out _ (HRW.out _ hB7)).mono ?_
                      rintro e w1 ⟨rfl, hb1⟩; obtain ⟨xa, rfl⟩ := hb1.toExt; clear hb1
                      go_wp2_with fail
                      refine (HN2.out _ (HRW2.out _ (by repeat (first | (with_reducible exact Below.refl _ _) | (with_reducible assumption) | (with_reducible refine RowKit.Below.ext ?_ ?_ _) | (with_reducible refine Below.alloc ?_ ?_ _) | (with_reducible refine Below.drew ?_) | (with_reducible refine RowKit.Below.drawnN ?_ _) | (with_reducible refine Below.setCell ?_ ?_ _) | (exact (by first | (simp; done) | (simp; omega) | omega)))))).mono ?_
                      rintro e w1 ⟨rfl, hb1⟩; obtain ⟨xb, rfl⟩ := hb1.toExt; clear hb1
                      have hBz : Below W4.heap.size W4 ((W5.ext xa).ext xb) := (by repeat (first | (with_reducible exact Below.refl _ _) | (with_reducible assumption) | (with_reducible refine RowKit.Below.ext ?_ ?_ _) | (with_reducible refine Below.alloc ?_ ?_ _) | (with_reducible refine Below.drew ?_) | (with_reducible refine RowKit.Below.drawnN ?_ _) | (with_reducible refine Below.setCell ?_ ?_ _) | (exact (by first | (simp; done) | (simp; omega) | omega))))
                      go_wp2
                      go_roundg (sl.length - (k + 1))
                      case measure => have := HHK.out; omega
                      case rel => exact ⟨k + 1, by omega, by omega, by go_num, hBz⟩
                · have g5 : (pe == 0) = false := by simp [z0]
                  clear law hbd z0
                  as_aux_lemma =>
                    go_wp2_with fail
                    refine (HN1.out _ (HRW.out _ hB7)).mono ?_
                    rintro e w1 ⟨rfl, hb1⟩; obtain ⟨xa, rfl⟩ := hb1.toExt; clear hb1
                    go_wp2_with fail
                    refine (HN2.out _ (HRW2.out _ (by repeat (first | (with_reducible exact Below.refl _ _) | (with_reducible assumption) | (with_reducible refine RowKit.Below.ext ?_ ?_ _) | (with_reducible refine Below.alloc ?_ ?_ _) | (with_reducible refine Below.drew ?_) | (with_reducible refine RowKit.Below.drawnN ?_ _) | (with_reducible refine Below.setCell ?_ ?_ _) | (exact (by first | (simp; done) | (simp; omega) | omega)))))).mono ?_
                    rintro e w1 ⟨rfl, hb1⟩; obtain ⟨xb, rfl⟩ := hb1.toExt; clear hb1
                    have hBz : Below W4.heap.size W4 ((W5.ext xa).ext xb) := (by repeat (first | (with_reducible exact Below.refl _ _) | (with_reducible assumption) | (with_reducible refine RowKit.Below.ext ?_ ?_ _) | (with_reducible refine Below.alloc ?_ ?_ _) | (with_reducible refine Below.drew ?_) | (with_reducible refine RowKit.Below.drawnN ?_ _) | (with_reducible refine Below.setCell ?_ ?_ _) | (exact (by first | (simp; done) | (simp; omega) | omega))))
                    go_wp2
                    go_roundg (sl.length - (k + 1))
                    case measure => have := HHK.out; omega
                    case rel => exact ⟨k + 1, by omega, by omega, by go_num, hBz⟩
              · as_aux_lemma =>
                have hltz : ¬ (k : Int) < (sl.length : Int) := by omega
                go_wp2
                go_ret
                exact ⟨rfl, hB6⟩
end Go.Proofs.YthilkphnjffnhaaGreat
