/- The walks of the package expand: periods. -/
import Derived.Test.YthilkphnjffnhaaGreatJJ
namespace Go.Proofs.YthilkphnjffnhaaGreat
open Go.RowKit
set_option linter.unusedVariables false
set_option linter.unusedSimpArgs false
/-- the place of a position in a list, and whether there is one -/
def posP (n k : Int) : Int × Bool := if 0 < n ∧ n ≤ k then (n - 1, true) else if n < 0 ∧ 0 < k ∧ -k ≤ n then (k + n, true) else (0, false)

set_option maxHeartbeats 2000000 in
theorem position_any (n k : Int) (w : World) (h1 : -1000000 ≤ n) (h2 : n ≤ 1000000) (h3 : 0 ≤ k) (h4 : k ≤ 1000000000000) :
    Calls Tryz.prog 92 #[.int .i64 n, .int .i64 k] w fun e w' => e = .returned (.tuple #[.int .i64 (posP n k).1, .bool (posP n k).2]) ∧ w = w' := by
  unfold posP
  by_cases a : 0 < n
  · by_cases b : n ≤ k
    · rw [if_pos ⟨a, b⟩]
      go_enter Tryz.func92, Tryz.ntmps92
      go_wp2
      go_ret2
      exact ⟨rfl, rfl⟩
    · have c : ¬ n < 0 := by omega
      rw [if_neg (by omega), if_neg (by omega)]
      go_enter Tryz.func92, Tryz.ntmps92
      go_wp2
      go_ret2
      exact ⟨rfl, rfl⟩
  · by_cases b : n < 0
    · by_cases c : 0 < k
      · by_cases d : -k ≤ n
        · rw [if_neg (by omega), if_pos ⟨b, c, d⟩]
          go_enter Tryz.func92, Tryz.ntmps92
          go_wp2
          go_ret2
          exact ⟨rfl, rfl⟩
        · rw [if_neg (by omega), if_neg (by omega)]
          go_enter Tryz.func92, Tryz.ntmps92
          go_wp2
          go_ret2
          exact ⟨rfl, rfl⟩
      · rw [if_neg (by omega), if_neg (by omega)]
        go_enter Tryz.func92, Tryz.ntmps92
        go_wp2
        go_ret2
        exact ⟨rfl, rfl⟩
    · rw [if_neg (by omega), if_neg (by omega)]
      go_enter Tryz.func92, Tryz.ntmps92
      go_wp2
      go_ret2
      exact ⟨rfl, rfl⟩

theorem weekof_any (d s : Int) (w : World) (h1 : -10000000 ≤ d) (h2 : d < 10000000) (h3 : 1 ≤ s) (h4 : s ≤ 7) :
    Calls Tryz.prog 91 #[.int .i64 d, .int .i64 s] w fun e w' => e = .returned (.int .i64 (wkS d s)) ∧ ∃ n, w' = w.drewN n := by
  have key : wkS d s = d - ((d + 3) % 7 + 1 - s) % 7 := rfl
  rw [key]
  clear key
  go_enter Tryz.func91, Tryz.ntmps91
  go_wp2_with fail
  refine (mod_any (d + 3) 7 _ (by omega) (by omega) (by omega) (by omega)).mono ?_
  rintro e w1 ⟨rfl, n1, rfl⟩
  go_wp2_with fail
  refine (mod_any ((d + 3) % 7 + 1 - s) 7 _ (by omega) (by omega) (by omega) (by omega)).mono ?_
  rintro e w2 ⟨rfl, n2, rfl⟩
  go_wp2
  go_ret
  exact ⟨rfl, _, rfl⟩

theorem fw_alt (y s : Int) (h3 : 1 ≤ s) (h4 : s ≤ 7) : fw y s = if 3 < ny y - wkS (ny y) s then wkS (ny y) s + 7 else wkS (ny y) s := by
  unfold fw
  generalize ny y = n
  unfold wkS wkd
  split <;> omega

theorem eweekyear_any (y s : Int) (w : World) (h1 : 1 ≤ y) (h2 : y ≤ 10000) (h3 : 1 ≤ s) (h4 : s ≤ 7) :
    Calls Tryz.prog 90 #[.int .i64 y, .int .i64 s] w fun e w' => e = .returned (.int .i64 (fw y s)) ∧ Below w.heap.size w w' := by
  rw [fw_alt y s h3 h4]
  have hb : -800000 ≤ ny y ∧ ny y ≤ 4000000 := by unfold ny; omega
  have CN := Lib.hid (fun w => enewyear_any y w h1 h2)
  have CW := Lib.hid (fun w => weekof_any (ny y) s w (by omega) (by omega) h3 h4)
  have hk := wkS_bd (ny y) s
  generalize wkS (ny y) s = k at *
  generalize ny y = n at *
  obtain ⟨k1, k2⟩ := hk
  obtain ⟨n1, n2⟩ := hb
  by_cases c : 3 < n - k
  · rw [if_pos c]
    go_enter Tryz.func90, Tryz.ntmps90
    go_wp2_with fail
    refine (CN.out _).mono ?_
    rintro e w1 ⟨rfl, hb1⟩; obtain ⟨x, rfl⟩ := hb1.toExt; clear hb1
    go_wp2_with fail
    refine (CW.out _).mono ?_
    rintro e w2 ⟨rfl, n2, rfl⟩
    go_wp2
    go_ret
    exact ⟨rfl, (by repeat (first | (with_reducible exact Below.refl _ _) | (with_reducible assumption) | (with_reducible refine RowKit.Below.ext ?_ ?_ _) | (with_reducible refine Below.alloc ?_ ?_ _) | (with_reducible refine Below.drew ?_) | (with_reducible refine RowKit.Below.drawnN ?_ _) | (with_reducible refine Below.setCell ?_ ?_ _) | (exact (by first | (simp; done) | (simp; omega) | omega))))⟩
  · rw [if_neg c]
    go_enter Tryz.func90, Tryz.ntmps90
    go_wp2_with fail
    refine (CN.out _).mono ?_
    rintro e w1 ⟨rfl, hb1⟩; obtain ⟨x, rfl⟩ := hb1.toExt; clear hb1
    go_wp2_with fail
    refine (CW.out _).mono ?_
    rintro e w2 ⟨rfl, n2, rfl⟩
    go_wp2
    go_ret
    exact ⟨rfl, (by repeat (first | (with_reducible exact Below.refl _ _) | (with_reducible assumption) | (with_reducible refine RowKit.Below.ext ?_ ?_ _) | (with_reducible refine Below.alloc ?_ ?_ _) | (with_reducible refine Below.drew ?_) | (with_reducible refine RowKit.Below.drawnN ?_ _) | (with_reducible refine Below.setCell ?_ ?_ _) | (exact (by first | (simp; done) | (simp; omega) | omega))))⟩

theorem span_any (a b : Int) (w : World) (h1 : -1000000000 ≤ a) (h2 : a ≤ 1000000000) (h3 : -1000000000 ≤ b) (h4 : b ≤ 1000000000) :
    Calls Tryz.prog 88 #[.int .i64 a, .int .i64 b] w fun e w' => e = .returned (.agg #[.int .i64 (86400 * a), .int .i64 (86400 * b)]) ∧ Below w.heap.size w w' := by
  go_enter Tryz.func88, Tryz.ntmps88
  go_wp2
  exact bodyPost_ret (v := .agg #[.int .i64 (86400 * a), .int .i64 (86400 * b)]) (by simp [results, Tryz.results88, go_sem]) rfl ⟨rfl, (by repeat (first | (with_reducible exact Below.refl _ _) | (with_reducible assumption) | (with_reducible refine RowKit.Below.ext ?_ ?_ _) | (with_reducible refine Below.alloc ?_ ?_ _) | (with_reducible refine Below.drew ?_) | (with_reducible refine RowKit.Below.drawnN ?_ _) | (with_reducible refine Below.setCell ?_ ?_ _) | (exact (by first | (simp; done) | (simp; omega) | omega))))⟩

/-- the days of the period of a day -/
noncomputable def perD (r : Rc) (d : Int) : Int × Int :=
  if r.f = 1 then
    if r.wk.l.length = 0 then (ny (yr d), ny (yr d + 1))
    else if d < fw (yr d) r.ws then (fw (yr d - 1) r.ws, fw (yr d) r.ws)
    else if fw (yr d + 1) r.ws ≤ d then (if yr d = 9999 then (fw (yr d + 1) r.ws, fw (yr d + 1) r.ws + 364) else (fw (yr d + 1) r.ws, fw (yr d + 2) r.ws))
    else (fw (yr d) r.ws, fw (yr d + 1) r.ws)
  else if r.f = 2 then (d - dm d + 1, d - dm d + 1 + mlen (yr d) (mo d))
  else if r.f = 3 then (wkS d r.ws, wkS d r.ws + 7)
  else (d, d + 1)
noncomputable def perP (r : Rc) (l : Int) : Int × Int :=
  if r.f = 5 then (3600 * (l / 3600), 3600 * (l / 3600) + 3600) else (86400 * (perD r (l / 86400)).1, 86400 * (perD r (l / 86400)).2)

theorem perD_bd (r : Rc) (d : Int) (h1 : -719000 ≤ d) (h2 : d < 2932897) (h3 : 1 ≤ r.ws) (h4 : r.ws ≤ 7) : (perD r d).1 ≤ d ∧ d < (perD r d).2 ∧ (perD r d).2 ≤ d + 372 ∧ d - 372 ≤ (perD r d).1 := by
  have hy := yr_bd d (by omega) h2
  have hd := date_of d (by omega) h2
  obtain ⟨y1, y2, m1, m2, d1, d2, _⟩ := hd
  have hm := mlen_bd (yr d) (mo d)
  have hb := wkS_bd d r.ws
  have g0 := fw_bd (yr d - 1) r.ws h3 h4
  have g1 := fw_bd (yr d) r.ws h3 h4
  have g2 := fw_bd (yr d + 1) r.ws h3 h4
  have g3 := fw_bd (yr d + 2) r.ws h3 h4
  have n0 : 365 ≤ ny (yr d) - ny (yr d - 1) ∧ ny (yr d) - ny (yr d - 1) ≤ 366 := by unfold ny; omega
  have n1 : ny (yr d + 1) - ny (yr d) ≤ 366 := by unfold ny; omega
  have n2 : 365 ≤ ny (yr d + 2) - ny (yr d + 1) ∧ ny (yr d + 2) - ny (yr d + 1) ≤ 366 := by unfold ny; omega
  unfold perD
  repeat' split
  all_goals (try dsimp only)
  all_goals omega
theorem perP_bd (r : Rc) (l : Int) (h1 : -62121600000 ≤ l) (h2 : l < 253402300800) (h3 : 1 ≤ r.ws) (h4 : r.ws ≤ 7) : (perP r l).1 ≤ l ∧ l < (perP r l).2 ∧ (perP r l).2 ≤ l + 32227200 ∧ l - 32227200 ≤ (perP r l).1 := by
  have := perD_bd r (l / 86400) (by omega) (by omega) h3 h4
  unfold perP
  split
  · dsimp only; omega
  · dsimp only; omega

set_option maxRecDepth 100000 in
set_option maxHeartbeats 8000000 in
theorem period1_any (r : Rc) (l : Int) (w : World) (hf : r.f = 1) (hw : r.wk.l.length = 0) (h5 : -62121600000 ≤ l) (h6 : l < 253402300800) :
    Calls Tryz.prog 65 #[r.val, .int .i64 l] w fun e w' => e = .returned (.agg #[.int .i64 (perP r l).1, .int .i64 (perP r l).2]) ∧ Below w.heap.size w w' := by
  have q1 : -719000 ≤ l / 86400 := by omega
  have q2 : l / 86400 < 2932897 := by omega
  have key : perP r l = (86400 * ny (yr (l / 86400)), 86400 * ny (yr (l / 86400) + 1)) := by
    unfold perP perD; rw [if_neg (by omega), if_pos hf, if_pos hw]
  rw [key]
  dsimp only
  clear key
  have hy := yr_bd (l / 86400) (by omega) q2
  obtain ⟨y1, y2, _, _⟩ := hy
  have AD := Lib.hid (fun w => date_any (l / 86400) w (by omega) q2)
  have eg : ∀ args w, (callFunc 88 args).run Tryz.prog w = .ok (.enter 88 args) w := enters_of Tryz.func88 (by kernel_rfl) rfl
  generalize yr (l / 86400) = Y at *
  generalize mo (l / 86400) = mm at *
  generalize dm (l / 86400) = dd at *
  have AN := Lib.hid (fun w => enewyear_any Y w (by omega) (by omega))
  have AN1 := Lib.hid (fun w => enewyear_any (Y + 1) w (by omega) (by omega))
  have b1 : -800000 ≤ ny Y ∧ ny Y ≤ 4000000 := by unfold ny; omega
  have b2 : -800000 ≤ ny (Y + 1) ∧ ny (Y + 1) ≤ 4000000 := by unfold ny; omega
  generalize ny (Y + 1) = n1 at *
  generalize ny Y = n0 at *
  have AS := Lib.hid (fun w => span_any n0 n1 w (by omega) (by omega) (by omega) (by omega))
  obtain ⟨b11, b12⟩ := b1
  obtain ⟨b21, b22⟩ := b2
  have hl : ((r.wk.l.length : Int) == 0) = true := by simp [hw]
  obtain ⟨f, iv, ct, un, mo1, md, yd, wk, dy, ho, mi, se, po, ws⟩ := r
  dsimp only [Rc.val, Rc.cells] at *
  subst hf
  clear hw
  obtain ⟨N1, hN1⟩ : ∃ N1, N1 = 86400 * n0 := ⟨_, rfl⟩
  obtain ⟨N2, hN2⟩ : ∃ N2, N2 = 86400 * n1 := ⟨_, rfl⟩
  rw [← hN1, ← hN2] at AS ⊢
  clear hN1 hN2
  go_enter Tryz.func65, Tryz.ntmps65
  go_wp2_with fail
  refine (floor_any l 86400 _ (by omega) (by omega) (by omega) (by omega)).mono ?_
  rintro e w1 ⟨rfl, nd, rfl⟩
  go_wp2_with fail
  refine (AD.out _).mono ?_
  rintro e w1 ⟨rfl, hb1⟩; obtain ⟨x, rfl⟩ := hb1.toExt; clear hb1
  go_wp2_with (refine wp_region_calm_tail 9 (by kernel_rfl) (by kernel_rfl) ?_)
  simp only [List.take_succ_cons, List.take_zero, List.drop_succ_cons, List.drop_zero]
  repeat (go_big_quiet_step (first | (with_reducible exact Calls.calm_of (AN.out _)) | (with_reducible exact Calls.calm_of (AN1.out _)) | (with_reducible exact Calls.calm_of (AS.out _))))
  refine wpQuiet_nil ?_
  rintro _ ⟨xx, rfl⟩
  go_wp2
  exact bodyPost_ret (v := .agg #[.int .i64 N1, .int .i64 N2]) (by simp [results, Tryz.results65, go_sem]) rfl ⟨rfl, (by repeat (first | (with_reducible exact Below.refl _ _) | (with_reducible assumption) | (with_reducible refine RowKit.Below.ext ?_ ?_ _) | (with_reducible refine Below.alloc ?_ ?_ _) | (with_reducible refine Below.drew ?_) | (with_reducible refine RowKit.Below.drawnN ?_ _) | (with_reducible refine Below.setCell ?_ ?_ _) | (exact (by first | (simp; done) | (simp; omega) | omega))))⟩
end Go.Proofs.YthilkphnjffnhaaGreat
/- The walk of expand.period: the years of weeks, months, weeks, days, hours. -/
namespace Go.Proofs.YthilkphnjffnhaaGreat
open Go.RowKit
set_option linter.unusedVariables false
set_option linter.unusedSimpArgs false
set_option maxRecDepth 100000 in
set_option maxHeartbeats 8000000 in
theorem period2_any (r : Rc) (l : Int) (w : World) (hf : r.f = 1) (hw : r.wk.l.length ≠ 0) (h3 : 1 ≤ r.ws) (h4 : r.ws ≤ 7) (h5 : -62121600000 ≤ l) (h6 : l < 253402300800) :
    Calls Tryz.prog 65 #[r.val, .int .i64 l] w fun e w' => e = .returned (.agg #[.int .i64 (perP r l).1, .int .i64 (perP r l).2]) ∧ Below w.heap.size w w' := by
  have q1 : -719000 ≤ l / 86400 := by omega
  have q2 : l / 86400 < 2932897 := by omega
  have key : perP r l = (86400 * (perD r (l / 86400)).1, 86400 * (perD r (l / 86400)).2) := by unfold perP; rw [if_neg (by omega)]
  have key2 : perD r (l / 86400) = if l / 86400 < fw (yr (l / 86400)) r.ws then (fw (yr (l / 86400) - 1) r.ws, fw (yr (l / 86400)) r.ws)
    else if fw (yr (l / 86400) + 1) r.ws ≤ l / 86400 then (if yr (l / 86400) = 9999 then (fw (yr (l / 86400) + 1) r.ws, fw (yr (l / 86400) + 1) r.ws + 364) else (fw (yr (l / 86400) + 1) r.ws, fw (yr (l / 86400) + 2) r.ws))
    else (fw (yr (l / 86400)) r.ws, fw (yr (l / 86400) + 1) r.ws) := by unfold perD; rw [if_pos hf, if_neg hw]
  rw [key, key2]
  clear key key2
  have hy := yr_bd (l / 86400) (by omega) q2
  obtain ⟨y1, y2, y3, y4⟩ := hy
  have AD := Lib.hid (fun w => date_any (l / 86400) w (by omega) q2)
  have eg : ∀ args w, (callFunc 88 args).run Tryz.prog w = .ok (.enter 88 args) w := enters_of Tryz.func88 (by kernel_rfl) rfl
  have hl : ((r.wk.l.length : Int) == 0) = false := by simp; intro h; exact hw (by simp [h])
  obtain ⟨f, iv, ct, un, mo1, md, yd, wk, dy, ho, mi, se, po, ws⟩ := r
  dsimp only [Rc.val, Rc.cells] at *
  subst hf
  clear hw
  generalize yr (l / 86400) = Y at *
  generalize mo (l / 86400) = mm at *
  generalize dm (l / 86400) = dd at *
  have g1 := fw_bd Y ws h3 h4
  have g2 := fw_bd (Y + 1) ws h3 h4
  have nb0 : -800000 ≤ ny Y ∧ ny Y ≤ 4000000 := by unfold ny; omega
  have nb1 : -800000 ≤ ny (Y + 1) ∧ ny (Y + 1) ≤ 4000000 := by unfold ny; omega
  have CA := Lib.hid (fun w => eweekyear_any Y ws w (by omega) (by omega) h3 h4)
  have CB := Lib.hid (fun w => eweekyear_any (Y + 1) ws w (by omega) (by omega) h3 h4)
  by_cases c1 : l / 86400 < fw Y ws
  · have hY1 : Y ≠ 1 := by
      intro h
      rw [h] at c1 g1
      have : ny 1 = -719162 := ny_1
      omega
    have hY2 : (Y == 1) = false := by simp [hY1]
    rw [if_pos c1]
    have g0 := fw_bd (Y - 1) ws h3 h4
    have nb2 : -800000 ≤ ny (Y - 1) ∧ ny (Y - 1) ≤ 4000000 := by unfold ny; omega
    have CZ := Lib.hid (fun w => eweekyear_any (Y - 1) ws w (by omega) (by omega) h3 h4)
    have ey : Y - 1 + 1 = Y := by omega
    have AS := Lib.hid (fun w => span_any (fw (Y - 1) ws) (fw Y ws) w (by omega) (by omega) (by omega) (by omega))
    clear g0 g1 g2 nb0 nb1 nb2 hY1 y3 y4
    generalize fw (Y - 1) ws = nz at *
    generalize fw Y ws = na at *
    obtain ⟨N1, hN1⟩ : ∃ N1, N1 = 86400 * nz := ⟨_, rfl⟩
    obtain ⟨N2, hN2⟩ : ∃ N2, N2 = 86400 * na := ⟨_, rfl⟩
    dsimp only
    rw [← hN1, ← hN2] at AS ⊢
    clear hN1 hN2
    go_enter Tryz.func65, Tryz.ntmps65
    go_wp2_with fail
    refine (floor_any l 86400 _ (by omega) (by omega) (by omega) (by omega)).mono ?_
    rintro e w1 ⟨rfl, nd, rfl⟩
    go_wp2_with fail
    refine (AD.out _).mono ?_
    rintro e w1 ⟨rfl, hb1⟩; obtain ⟨x, rfl⟩ := hb1.toExt; clear hb1
    go_wp2_with fail
    refine (CA.out _).mono ?_
    rintro e w2 ⟨rfl, hb2⟩; obtain ⟨x2, rfl⟩ := hb2.toExt; clear hb2
    go_wp2_with (refine wp_region_calm_tail 11 (by kernel_rfl) (by kernel_rfl) ?_)
    simp only [List.take_succ_cons, List.take_zero, List.drop_succ_cons, List.drop_zero]
    repeat (go_big_quiet_step (first | (with_reducible exact Calls.calm_of (CA.out _)) | (with_reducible exact Calls.calm_of (CB.out _)) | (with_reducible exact Calls.calm_of (CZ.out _)) | (with_reducible exact Calls.calm_of (AS.out _))))
    refine wpQuiet_nil ?_
    rintro _ ⟨xx, rfl⟩
    go_wp2
    exact bodyPost_ret (v := .agg #[.int .i64 N1, .int .i64 N2]) (by simp [results, Tryz.results65, go_sem]) rfl ⟨rfl, (by repeat (first | (with_reducible exact Below.refl _ _) | (with_reducible assumption) | (with_reducible refine RowKit.Below.ext ?_ ?_ _) | (with_reducible refine Below.alloc ?_ ?_ _) | (with_reducible refine Below.drew ?_) | (with_reducible refine RowKit.Below.drawnN ?_ _) | (with_reducible refine Below.setCell ?_ ?_ _) | (exact (by first | (simp; done) | (simp; omega) | omega))))⟩
  rw [if_neg c1]
  by_cases c2 : fw (Y + 1) ws ≤ l / 86400
  · rw [if_pos c2]
    by_cases c3 : Y = 9999
    · rw [if_pos c3]
      have hY2 : (Y == 9999) = true := by simp [c3]
      have AS := Lib.hid (fun w => span_any (fw (Y + 1) ws) (fw (Y + 1) ws + 364) w (by omega) (by omega) (by omega) (by omega))
      have nbb : -900000 ≤ fw (Y + 1) ws ∧ fw (Y + 1) ws ≤ 5000000 := by omega
      obtain ⟨nbb1, nbb2⟩ := nbb
      clear g1 g2 nb0 nb1 y3 y4 c3
      generalize fw Y ws = na at *
      generalize fw (Y + 1) ws = nb at *
      obtain ⟨N1, hN1⟩ : ∃ N1, N1 = 86400 * nb := ⟨_, rfl⟩
      obtain ⟨N2, hN2⟩ : ∃ N2, N2 = 86400 * (nb + 364) := ⟨_, rfl⟩
      dsimp only
      rw [← hN1, ← hN2] at AS ⊢
      clear hN1 hN2
      go_enter Tryz.func65, Tryz.ntmps65
      go_wp2_with fail
      refine (floor_any l 86400 _ (by omega) (by omega) (by omega) (by omega)).mono ?_
      rintro e w1 ⟨rfl, nd, rfl⟩
      go_wp2_with fail
      refine (AD.out _).mono ?_
      rintro e w1 ⟨rfl, hb1⟩; obtain ⟨x, rfl⟩ := hb1.toExt; clear hb1
      go_wp2_with fail
      refine (CA.out _).mono ?_
      rintro e w2 ⟨rfl, hb2⟩; obtain ⟨x2, rfl⟩ := hb2.toExt; clear hb2
      go_wp2_with fail
      refine (CB.out _).mono ?_
      rintro e w3 ⟨rfl, hb3⟩; obtain ⟨x3, rfl⟩ := hb3.toExt; clear hb3
      go_wp2_with (refine wp_region_calm_tail 13 (by kernel_rfl) (by kernel_rfl) ?_)
      simp only [List.take_succ_cons, List.take_zero, List.drop_succ_cons, List.drop_zero]
      repeat (go_big_quiet_step (first | (with_reducible exact Calls.calm_of (CA.out _)) | (with_reducible exact Calls.calm_of (CB.out _)) | (with_reducible exact Calls.calm_of (AS.out _))))
      refine wpQuiet_nil ?_
      rintro _ ⟨xx, rfl⟩
      go_wp2
      exact bodyPost_ret (v := .agg #[.int .i64 N1, .int .i64 N2]) (by simp [results, Tryz.results65, go_sem]) rfl ⟨rfl, (by repeat (first | (with_reducible exact Below.refl _ _) | (with_reducible assumption) | (with_reducible refine RowKit.Below.ext ?_ ?_ _) | (with_reducible refine Below.alloc ?_ ?_ _) | (with_reducible refine Below.drew ?_) | (with_reducible refine RowKit.Below.drawnN ?_ _) | (with_reducible refine Below.setCell ?_ ?_ _) | (exact (by first | (simp; done) | (simp; omega) | omega))))⟩
    · rw [if_neg c3]
      have hY2 : (Y == 9999) = false := by simp [c3]
      have g3 := fw_bd (Y + 2) ws h3 h4
      have nb3 : -800000 ≤ ny (Y + 2) ∧ ny (Y + 2) ≤ 4000000 := by unfold ny; omega
      have CZ := Lib.hid (fun w => eweekyear_any (Y + 2) ws w (by omega) (by omega) h3 h4)
      have CZ2 := CZ.out
      rw [show Y + 2 = Y + 1 + 1 by omega] at CZ2 ⊢
      rw [show Y + 2 = Y + 1 + 1 by omega] at g3 nb3
      replace CZ := Lib.hid CZ2
      clear CZ2
      have AS := Lib.hid (fun w => span_any (fw (Y + 1) ws) (fw (Y + 1 + 1) ws) w (by omega) (by omega) (by omega) (by omega))
      clear g1 g2 g3 nb0 nb1 nb3 y3 y4 
      generalize fw Y ws = na at *
      generalize fw (Y + 1 + 1) ws = nz at *
      generalize fw (Y + 1) ws = nb at *
      obtain ⟨N1, hN1⟩ : ∃ N1, N1 = 86400 * nb := ⟨_, rfl⟩
      obtain ⟨N2, hN2⟩ : ∃ N2, N2 = 86400 * nz := ⟨_, rfl⟩
      dsimp only
      rw [← hN1, ← hN2] at AS ⊢
      clear hN1 hN2
      go_enter Tryz.func65, Tryz.ntmps65
      go_wp2_with fail
      refine (floor_any l 86400 _ (by omega) (by omega) (by omega) (by omega)).mono ?_
      rintro e w1 ⟨rfl, nd, rfl⟩
      go_wp2_with fail
      refine (AD.out _).mono ?_
      rintro e w1 ⟨rfl, hb1⟩; obtain ⟨x, rfl⟩ := hb1.toExt; clear hb1
      go_wp2_with fail
      refine (CA.out _).mono ?_
      rintro e w2 ⟨rfl, hb2⟩; obtain ⟨x2, rfl⟩ := hb2.toExt; clear hb2
      go_wp2_with fail
      refine (CB.out _).mono ?_
      rintro e w3 ⟨rfl, hb3⟩; obtain ⟨x3, rfl⟩ := hb3.toExt; clear hb3
      go_wp2_with (refine wp_region_calm_tail 11 (by kernel_rfl) (by kernel_rfl) ?_)
      simp only [List.take_succ_cons, List.take_zero, List.drop_succ_cons, List.drop_zero]
      repeat (go_big_quiet_step (first | (with_reducible exact Calls.calm_of (CA.out _)) | (with_reducible exact Calls.calm_of (CB.out _)) | (with_reducible exact Calls.calm_of (CZ.out _)) | (with_reducible exact Calls.calm_of (AS.out _))))
      refine wpQuiet_nil ?_
      rintro _ ⟨xx, rfl⟩
      go_wp2
      exact bodyPost_ret (v := .agg #[.int .i64 N1, .int .i64 N2]) (by simp [results, Tryz.results65, go_sem]) rfl ⟨rfl, (by repeat (first | (with_reducible exact Below.refl _ _) | (with_reducible assumption) | (with_reducible refine RowKit.Below.ext ?_ ?_ _) | (with_reducible refine Below.alloc ?_ ?_ _) | (with_reducible refine Below.drew ?_) | (with_reducible refine RowKit.Below.drawnN ?_ _) | (with_reducible refine Below.setCell ?_ ?_ _) | (exact (by first | (simp; done) | (simp; omega) | omega))))⟩
  · rw [if_neg c2]
    have AS := Lib.hid (fun w => span_any (fw Y ws) (fw (Y + 1) ws) w (by omega) (by omega) (by omega) (by omega))
    have CZ := CA
    clear g1 g2 nb0 nb1 y3 y4
    generalize fw Y ws = na at *
    generalize fw (Y + 1) ws = nb at *
    obtain ⟨N1, hN1⟩ : ∃ N1, N1 = 86400 * na := ⟨_, rfl⟩
    obtain ⟨N2, hN2⟩ : ∃ N2, N2 = 86400 * nb := ⟨_, rfl⟩
    dsimp only
    rw [← hN1, ← hN2] at AS ⊢
    clear hN1 hN2
    go_enter Tryz.func65, Tryz.ntmps65
    go_wp2_with fail
    refine (floor_any l 86400 _ (by omega) (by omega) (by omega) (by omega)).mono ?_
    rintro e w1 ⟨rfl, nd, rfl⟩
    go_wp2_with fail
    refine (AD.out _).mono ?_
    rintro e w1 ⟨rfl, hb1⟩; obtain ⟨x, rfl⟩ := hb1.toExt; clear hb1
    go_wp2_with fail
    refine (CA.out _).mono ?_
    rintro e w2 ⟨rfl, hb2⟩; obtain ⟨x2, rfl⟩ := hb2.toExt; clear hb2
    go_wp2_with fail
    refine (CB.out _).mono ?_
    rintro e w3 ⟨rfl, hb3⟩; obtain ⟨x3, rfl⟩ := hb3.toExt; clear hb3
    go_wp2_with (refine wp_region_calm_tail 11 (by kernel_rfl) (by kernel_rfl) ?_)
    simp only [List.take_succ_cons, List.take_zero, List.drop_succ_cons, List.drop_zero]
    repeat (go_big_quiet_step (first | (with_reducible exact Calls.calm_of (CA.out _)) | (with_reducible exact Calls.calm_of (CB.out _)) | (with_reducible exact Calls.calm_of (CZ.out _)) | (with_reducible exact Calls.calm_of (AS.out _))))
    refine wpQuiet_nil ?_
    rintro _ ⟨xx, rfl⟩
    go_wp2
    exact bodyPost_ret (v := .agg #[.int .i64 N1, .int .i64 N2]) (by simp [results, Tryz.results65, go_sem]) rfl ⟨rfl, (by repeat (first | (with_reducible exact Below.refl _ _) | (with_reducible assumption) | (with_reducible refine RowKit.Below.ext ?_ ?_ _) | (with_reducible refine Below.alloc ?_ ?_ _) | (with_reducible refine Below.drew ?_) | (with_reducible refine RowKit.Below.drawnN ?_ _) | (with_reducible refine Below.setCell ?_ ?_ _) | (exact (by first | (simp; done) | (simp; omega) | omega))))⟩
end Go.Proofs.YthilkphnjffnhaaGreat
