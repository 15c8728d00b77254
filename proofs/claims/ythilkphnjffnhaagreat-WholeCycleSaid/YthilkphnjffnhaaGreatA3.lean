/- The walk of the iterator of the occurrences, an end, not hourly. -/
import Derived.Test.YthilkphnjffnhaaGreatJR
namespace Go.Proofs.YthilkphnjffnhaaGreat
open Go.RowKit
attribute [local go_sem] Oper.semAt_some
set_option linter.unusedVariables false
set_option linter.unusedSimpArgs false
set_option maxRecDepth 100000 in
set_option maxHeartbeats 16000000 in
theorem all_c (r : Rc) (t fr to : Int) (bR bS bF bT : Nat) (w0 w : World) (L : List Int) (hr : r.In w0) (hw0 : Below w0.heap.size w0 w) (hv : validB r = true)
    (ht1 : -62066476800 ≤ t) (ht2 : t < 253402300800) (hf1 : -62135596800 ≤ fr) (hf2 : fr < 253402300800) (ho1 : -62135596800 ≤ to) (ho2 : to ≤ 253402300800)
    (c1 : ∀ o, w.cell? ⟨bR, o, none⟩ = r.cells[o]?) (c2 : w.cell? ⟨bS, 0, none⟩ = some (.int .i64 t)) (c3 : w.cell? ⟨bF, 0, none⟩ = some (.int .i64 fr)) (c4 : w.cell? ⟨bT, 0, none⟩ = some (.int .i64 to))
    (hL : AllL r t fr to L) (hu : r.un ≠ 0) (h5 : r.f ≠ 5) :
    SeqS Tryz.prog 61 #[.pointer (some ⟨bR, 0, none⟩), .pointer (some ⟨bS, 0, none⟩), .pointer (some ⟨bF, 0, none⟩), .pointer (some ⟨bT, 0, none⟩)] (fun x : Int => #[.int .i64 x]) L (fun k => k < w0.heap.size ∨ k = bR ∨ k = bS ∨ k = bF ∨ k = bT) w := by
  have hu1 : (r.un == 0) = false := by simp [hu]
  have hu2 : (r.un != 0) = true := by simp [hu]
  have g5 : (r.f == 5) = false := by simp [h5]
  have HU := Lib.hid hu
  have H5 := Lib.hid h5
  clear hu h5
  intro l J Jx C W hW hC sJ sJx hY h0
  have hk := Rc.Ok.of hv
  have hBW : Below w0.heap.size w0 W := hw0.trans ⟨hW.os, hW.tape, hW.output, hW.size, fun k hk => hW.block k (Nat.lt_of_lt_of_le hk hw0.size) (fun h => h (.inl hk))⟩
  have d1 := hW.cell c2 (fun h => h (.inr (.inr (.inl rfl))))
  have d2 := hW.cell c3 (fun h => h (.inr (.inr (.inr (.inl rfl)))))
  have d3 := hW.cell c4 (fun h => h (.inr (.inr (.inr (.inr rfl)))))
  have cr : ∀ o v, r.cells[o]? = some v → W.cell? ⟨bR, o, none⟩ = some v := fun o v h => hW.cell ((c1 o).trans h) (fun h => h (.inr (.inl rfl)))
  have nR : ¬ C bR := fun h => (hC _ h).1 (.inr (.inl rfl))
  have nS : ¬ C bS := fun h => (hC _ h).1 (.inr (.inr (.inl rfl)))
  have nF : ¬ C bF := fun h => (hC _ h).1 (.inr (.inr (.inr (.inl rfl))))
  have nT : ¬ C bT := fun h => (hC _ h).1 (.inr (.inr (.inr (.inr rfl))))
  have n0 : ∀ k, C k → w0.heap.size ≤ k := fun k h => by
    have := (hC k h).1
    rcases Nat.lt_or_ge k w0.heap.size with h1 | h1
    · exact absurd (.inl h1) this
    · exact h1
  have fC : ∀ k, C k → k < W.heap.size := fun k h => (hC k h).2
  have hs0 : Step C C W W := Step.refl fC
  have HR := Lib.hid hr
  have HBW := Lib.hid hBW
  have HY := Lib.hid (hY 2)
  have HN0 := Lib.hid n0
  have CRW := Lib.hid cr
  have hwsz := hBW.size
  clear hW hC hr hw0 hBW c1 c2 c3 c4 cr n0 hY
  have a0 := (CRW.out 0 _ rfl)
  have a1 := (CRW.out 1 _ rfl)
  have a2 := (CRW.out 2 _ rfl)
  have a3 := (CRW.out 3 _ rfl)
  have a4 := (CRW.out 4 _ rfl)
  have a5 := (CRW.out 5 _ rfl)
  have a6 := (CRW.out 6 _ rfl)
  have a7 := (CRW.out 7 _ rfl)
  have a8 := (CRW.out 8 _ rfl)
  have a9 := (CRW.out 9 _ rfl)
  have a10 := (CRW.out 10 _ rfl)
  have a11 := (CRW.out 11 _ rfl)
  have a12 := (CRW.out 12 _ rfl)
  have a13 := (CRW.out 13 _ rfl)
  have CT := Lib.hid (fun w (h : r.In w) => rtimes_new r t w h hv ⟨by omega, ht2⟩)
  have CN := Lib.hid (fun (s : SlI) w (h : r.In w) (h2 : s.In w) (h3 : s.l = timesP r.f r.ho.l r.mi.l r.se.l (t % 86400)) => by
    have := never_any r s w h h2 hv (by rw [h3]; have := timesP_len (f := r.f) (t % 86400) hk.lh hk.lm hk.ls; omega) (by rw [h3]; exact timesP_in (f := r.f) (s := t % 86400) hk.bh hk.bm hk.bs (by omega) (by omega))
    rw [h3] at this
    exact this)
  have CY := Lib.hid (fun w => cycle_any r w hk.f1 hk.f5 hk.i1 hk.i2 (lens_of hv))
  have hcy := cycP_bd r hk.f1 hk.f5 hk.i1 hk.i2
  refine (callsIn_wide (n := 3)).1 ?_
  refine callsIn_of_wp Tryz.func61 rfl trivial ?_ rfl
  simp only [Tryz.ntmps61, List.size_toArray, List.length_cons, List.length_nil, Nat.reduceAdd, Nat.reduceSub, Array.replicate_succ, Array.replicate_zero, List.push_toArray, List.append_toArray, List.nil_append, List.cons_append]
  gi_wp2_with fail
  refine ⟨trivial, (callsIn_wide.2 (CT.out _ (HR.out.below HBW.out))).mono ?_⟩
  rintro e w1 ⟨so, rfl, hs1, hs2, hb1, hs3⟩
  obtain ⟨x, rfl⟩ := hb1.toExt
  clear hb1
  obtain ⟨sA, sc, sl⟩ := so
  dsimp only at hs1
  have HS1 := Lib.hid hs1
  have HS2 := Lib.hid hs2
  have HNW := Lib.hid hs3
  clear hs1 hs2 hs3
  gi_wp2_with fail
  have cn := CN.out ⟨sA, sc, sl⟩ _ (HR.out.below (HBW.out.trans ((RowKit.Below.ofExt W x).mono HBW.out.size))) HS2.out HS1.out
  rcases hL with ⟨hnv, hL0⟩ | ⟨hnv, hL1⟩
  · rw [hnv] at cn
    refine ⟨trivial, (callsIn_wide.2 cn).mono ?_⟩
    rintro e w1 ⟨rfl, hb1⟩
    obtain ⟨y, rfl⟩ := hb1.toExt
    clear hb1 cn hnv
    have hB2 : Below W.heap.size W ((W.ext x).ext y) := (by repeat (first | (with_reducible exact Below.refl _ _) | (with_reducible assumption) | (with_reducible refine RowKit.Below.ext ?_ ?_ _) | (with_reducible refine Below.alloc ?_ ?_ _) | (with_reducible refine Below.drew ?_) | (with_reducible refine RowKit.Below.drawnN ?_ _) | (with_reducible refine Below.setCell ?_ ?_ _) | (exact (by first | (simp; done) | (simp; omega) | omega))))
    have HX := Lib.hid (show J L C ((W.ext x).ext y) from hL0 ▸ sJ.below h0 fC (Nat.le_refl _) hB2)
    have HXS := Lib.hid (hs0.own hB2)
    clear hL0 hB2
    gi_wp2
    refine bodyPost_ret (results_none rfl _ _ _) rfl ?_
    exact ⟨⟨_, rfl⟩, C, HXS.out, .inl HX.out⟩
  rw [hnv] at cn
  refine ⟨trivial, (callsIn_wide.2 cn).mono ?_⟩
  rintro e w1 ⟨rfl, hb1⟩
  obtain ⟨y, rfl⟩ := hb1.toExt
  clear hb1 cn hnv
  gi_wp2_with fail
  refine ⟨trivial, (callsIn_wide.2 (CY.out _)).mono ?_⟩
  rintro e w1 ⟨rfl, hb1⟩
  obtain ⟨z, rfl⟩ := hb1.toExt
  clear hb1
  obtain ⟨m, hm⟩ : ∃ m, m = max t fr := ⟨_, rfl⟩
  have hmb : t ≤ m ∧ m < 253402300800 := by omega
  obtain ⟨hm1, hm2⟩ := hmb
  rw [← hm] at hL1 ⊢
  have HM := Lib.hid hm
  have HL1 := Lib.hid hL1
  have hMine : Mine ⟨sA, sc, sl⟩ C (((W.ext x).ext y).ext z) := (Mine.of (n := W.heap.size) HS2.out HNW.out fC).below (by repeat (first | (with_reducible exact Below.refl _ _) | (with_reducible assumption) | (with_reducible refine RowKit.Below.ext ?_ ?_ _) | (with_reducible refine Below.alloc ?_ ?_ _) | (with_reducible refine Below.drew ?_) | (with_reducible refine RowKit.Below.drawnN ?_ _) | (with_reducible refine Below.setCell ?_ ?_ _) | (exact (by first | (simp; done) | (simp; omega) | omega))))
  have hB2 : Below W.heap.size W (((W.ext x).ext y).ext z) := (by repeat (first | (with_reducible exact Below.refl _ _) | (with_reducible assumption) | (with_reducible refine RowKit.Below.ext ?_ ?_ _) | (with_reducible refine Below.alloc ?_ ?_ _) | (with_reducible refine Below.drew ?_) | (with_reducible refine RowKit.Below.drawnN ?_ _) | (with_reducible refine Below.setCell ?_ ?_ _) | (exact (by first | (simp; done) | (simp; omega) | omega))))
  have HMINE := Lib.hid hMine
  have HJ0 := Lib.hid (sJ.below h0 fC (Nat.le_refl _) hB2)
  have HST0 := Lib.hid (hs0.own hB2)
  have HB2 := Lib.hid hB2
  clear hm hL1 hMine hB2 HS2 HNW
  generalize Value.agg #[.int .i64 r.f, .int .i64 r.iv, .int .i64 r.ct, .int .i64 r.un, r.mo.v, r.md.v, r.yd.v, r.wk.v, r.dy.v, r.ho.v, r.mi.v, r.se.v, r.po.v, .int .i64 r.ws] = rv at ⊢
  dsimp only [SlI.v]
  gi_wp2
  clear a0 a1 a2 a3 a4 a5 a6 a7 a8 a9 a10 a11 a12 a13 CT CN CY
  gi_loopw [8, 9] (fun v8 v9 wr => ∃ (a lim : Int) (C' : FP) (pre rest : List Int), v8 = .int .i64 a ∧ v9 = .int .i64 lim ∧ m ≤ a ∧ a < 254100000000 ∧ -100000000000000 ≤ lim ∧ lim ≤ 100000000000000 ∧
    Hid (Gen r t fr to a lim rest) ∧ Hid (pre ++ rest = L) ∧ Hid (J pre C' wr) ∧ Hid (Step C C' W wr) ∧ Hid (Mine ⟨sA, sc, sl⟩ C' wr)) (fun v8 _ _ => (254200000000 - intOf v8).toNat)
  case atStart => exact ⟨m, m + cycP r, C, [], L, rfl, rfl, by omega, by omega, by omega, by omega, HL1.out, rfl, HJ0.out, HST0.out, HMINE.out⟩
  case round =>
    obtain ⟨a, lim, C', pre, rest, rfl, rfl, q1, q2, q3, q4, HG, HP, HJ, HST, HMI⟩ := hrel
    have e0 := HST.out.cell (CRW.out 0 _ rfl) nR
    have e1 := HST.out.cell (CRW.out 1 _ rfl) nR
    have e2 := HST.out.cell (CRW.out 2 _ rfl) nR
    have e3 := HST.out.cell (CRW.out 3 _ rfl) nR
    have e4 := HST.out.cell (CRW.out 4 _ rfl) nR
    have e5 := HST.out.cell (CRW.out 5 _ rfl) nR
    have e6 := HST.out.cell (CRW.out 6 _ rfl) nR
    have e7 := HST.out.cell (CRW.out 7 _ rfl) nR
    have e8 := HST.out.cell (CRW.out 8 _ rfl) nR
    have e9 := HST.out.cell (CRW.out 9 _ rfl) nR
    have e10 := HST.out.cell (CRW.out 10 _ rfl) nR
    have e11 := HST.out.cell (CRW.out 11 _ rfl) nR
    have e12 := HST.out.cell (CRW.out 12 _ rfl) nR
    have e13 := HST.out.cell (CRW.out 13 _ rfl) nR
    have eS := HST.out.cell d1 nS
    have eF := HST.out.cell d2 nF
    have eT := HST.out.cell d3 nT
    have HRB := Lib.hid (HBW.out.trans (HST.out.below hwsz HN0.out))
    by_cases hc : condG r to a lim
    rotate_left
    · have hrest := HG.out.inv_stop hc
      have HX := Lib.hid (show J L C' wr by have h1 := HP.out; rw [hrest, List.append_nil] at h1; exact h1 ▸ HJ.out)
      by_cases hlt2 : a < to ∧ a < lim
      · have hmin : a < min to lim := by omega
        have hun2 : r.un < a := by
          unfold condG at hc
          have := HU.out
          omega
        clear hrest hc hlt2
        gi_wp2
        go_end0
        exact ⟨⟨_, rfl⟩, C', HST.out, .inl HX.out⟩
      · have hmin : min to lim ≤ a := by omega
        clear hrest hc hlt2
        gi_wp2
        go_end0
        exact ⟨⟨_, rfl⟩, C', HST.out, .inl HX.out⟩
    · obtain ⟨⟨hlo1, hlo2⟩, hun⟩ := id hc
      have hmin : a < min to lim := by omega
      have hun2 : a ≤ r.un := by
        have := HU.out
        omega
      clear hun
      have hb := perP_bd r a (by omega) (by omega) hk.s1 hk.s7
      have hnb := nextG_bd r t a hk (by omega) (by omega)
      have hinv := HG.out.inv hc
      have hrb := restG_bd r t a hk.i1
      have hnum1 := numP_bd r (max (perP r a).1 (-62135596800)) hk.f1 hk.f5 hk.s1 hk.s7 (by omega) (by omega)
      have hnum2 := numP_bd r t hk.f1 hk.f5 hk.s1 hk.s7 (by omega) (by omega)
      have i1 := hk.i1
      have i2 := hk.i2
      have CP := Lib.hid (fun w => period_any r a w hk.f1 hk.f5 hk.s1 hk.s7 (by omega) (by omega))
      have CNU := Lib.hid (fun w (h : r.In w) => period_yes r t (max (perP r a).1 (-62135596800)) w h hv ⟨by omega, ht2⟩ ⟨by omega, by omega⟩ (by omega) (by omega) (by omega) (by omega))
      have CM := Lib.hid (fun w => mod_pos (numP r (max (perP r a).1 (-62135596800)) - numP r t) r.iv w (by omega) (by omega) (by omega) (by omega))
      have kr : restG r t a = (numP r (max (perP r a).1 (-62135596800)) - numP r t) % r.iv := rfl
      rw [← kr] at CM
      have HINV := Lib.hid hinv
      clear hinv kr hnum1 hnum2 HG hc
      generalize hnumv : numP r (max (perP r a).1 (-62135596800)) - numP r t = nv at CNU CM
      clear hnumv
      obtain ⟨mx, hmx⟩ : ∃ mx, mx = max (perP r a).1 (-62135596800) := ⟨_, rfl⟩
      rw [← hmx] at CNU
      obtain ⟨p1, hp1⟩ : ∃ p1, p1 = (perP r a).1 := ⟨_, rfl⟩
      obtain ⟨p2, hp2⟩ : ∃ p2, p2 = (perP r a).2 := ⟨_, rfl⟩
      rw [← hp1] at hb CP hmx
      rw [← hp2] at hb CP
      have HP1 := Lib.hid hp1
      have HP2 := Lib.hid hp2
      have HMX := Lib.hid hmx
      clear hp1 hp2 hmx
      gi_wp2_with fail
      refine ⟨trivial, (callsIn_wide.2 (CP.out _)).mono ?_⟩
      rintro e w1 ⟨rfl, hb1⟩
      obtain ⟨xp, rfl⟩ := hb1.toExt
      clear hb1
      have HRW := Lib.hid (fun W' (h : Below wr.heap.size wr W') => HR.out.below (HRB.out.trans (h.mono HRB.out.size)))
      gi_wp2_with fail
      rw [← HMX.out]
      refine ⟨trivial, (callsIn_wide.2 (CNU.out _ (HRW.out _ (by repeat (first | (with_reducible exact Below.refl _ _) | (with_reducible assumption) | (with_reducible refine RowKit.Below.ext ?_ ?_ _) | (with_reducible refine Below.alloc ?_ ?_ _) | (with_reducible refine Below.drew ?_) | (with_reducible refine RowKit.Below.drawnN ?_ _) | (with_reducible refine Below.setCell ?_ ?_ _) | (exact (by first | (simp; done) | (simp; omega) | omega))))))).mono ?_⟩
      rintro e w1 ⟨rfl, hb1⟩
      obtain ⟨xn, rfl⟩ := hb1.toExt
      clear hb1
      have hBV : Below wr.heap.size wr (((wr.ext xp).alloc (.cells #[.int .i64 p1, .int .i64 p2] 95)).ext xn) := (by repeat (first | (with_reducible exact Below.refl _ _) | (with_reducible assumption) | (with_reducible refine RowKit.Below.ext ?_ ?_ _) | (with_reducible refine Below.alloc ?_ ?_ _) | (with_reducible refine Below.drew ?_) | (with_reducible refine RowKit.Below.drawnN ?_ _) | (with_reducible refine Below.setCell ?_ ?_ _) | (exact (by first | (simp; done) | (simp; omega) | omega))))
      have x1 : (((wr.ext xp).alloc (.cells #[.int .i64 p1, .int .i64 p2] 95)).ext xn).cell? ⟨wr.heap.size + xp.k, 0, none⟩ = some (.int .i64 p1) := by go_simp
      have x2 : (((wr.ext xp).alloc (.cells #[.int .i64 p1, .int .i64 p2] 95)).ext xn).cell? ⟨wr.heap.size + xp.k, 1, none⟩ = some (.int .i64 p2) := by go_simp
      obtain ⟨B, hB⟩ : ∃ B, B = wr.heap.size + xp.k := ⟨_, rfl⟩
      rw [← hB] at x1 x2 ⊢
      have hB1 : wr.heap.size ≤ B := by omega
      generalize (((wr.ext xp).alloc (.cells #[.int .i64 p1, .int .i64 p2] 95)).ext xn) = V at hBV x1 x2 ⊢
      generalize Value.agg #[.int .i64 r.f, .int .i64 r.iv, .int .i64 r.ct, .int .i64 r.un, r.mo.v, r.md.v, r.yd.v, r.wk.v, r.dy.v, r.ho.v, r.mi.v, r.se.v, r.po.v, .int .i64 r.ws] = rv1 at ⊢
      replace e0 := cell_of_below hBV e0
      replace e1 := cell_of_below hBV e1
      replace e2 := cell_of_below hBV e2
      replace e3 := cell_of_below hBV e3
      replace e4 := cell_of_below hBV e4
      replace e5 := cell_of_below hBV e5
      replace e6 := cell_of_below hBV e6
      replace e7 := cell_of_below hBV e7
      replace e8 := cell_of_below hBV e8
      replace e9 := cell_of_below hBV e9
      replace e10 := cell_of_below hBV e10
      replace e11 := cell_of_below hBV e11
      replace e12 := cell_of_below hBV e12
      replace e13 := cell_of_below hBV e13
      replace eS := cell_of_below hBV eS
      replace eF := cell_of_below hBV eF
      replace eT := cell_of_below hBV eT
      have HBV := Lib.hid hBV
      clear hBV hB HMX CNU CP
      gi_wp2_with fail
      refine ⟨trivial, (callsIn_wide.2 (CM.out _)).mono ?_⟩
      rintro e w1 ⟨rfl, nd, rfl⟩
      by_cases hre : restG r t a = 0
      rotate_left
      · have hre2 : (restG r t a != 0) = true := by simp [hre]
        have kn : nextG r t a = skipP r (p1, p2) (r.iv - restG r t a) := by unfold nextG; rw [if_pos hre, HP1.out, HP2.out]
        have kl : listG r t a = [] := by unfold listG; rw [if_pos hre]
        have KL := Lib.hid kl
        have i1 := hk.i1
        have i2 := hk.i2
        have CSK := Lib.hid (fun w => skip_any r p1 p2 (r.iv - restG r t a) w hk.f1 hk.f5 hk.s1 hk.s7 (by omega) (by omega) (by omega) (by omega) (by omega) (by omega))
        rw [← kn] at CSK
        clear kn kl hre CM
        generalize restG r t a = rg at hrb hre2 CSK ⊢
        gi_wp2_with fail
        refine ⟨trivial, (callsIn_wide.2 (CSK.out _)).mono ?_⟩
        rintro e w1 ⟨rfl, hb1⟩
        obtain ⟨xs, rfl⟩ := hb1.toExt
        clear hb1
        gi_wp2
        go_roundw
        case rel =>
          have hg : ∃ L', rest = L' ∧ Gen r t fr to (nextG r t a) lim L' := by
            have h1 := HINV.out
            rw [KL.out] at h1
            rcases h1 with ⟨h1, _⟩ | ⟨_, L', h2, h3⟩
            · cases h1
            · exact ⟨L', by simpa [feed] using h2, by simpa [feed] using h3⟩
          obtain ⟨L', rfl, hg⟩ := hg
          exact ⟨nextG r t a, lim, C', pre, rest, rfl, rfl, by omega, by omega, q3, q4, hg, HP.out, sJ.below HJ.out HST.out.fin HST.out.lim.size (HBV.out.trans (Below.mono (by repeat (first | (with_reducible exact Below.refl _ _) | (with_reducible assumption) | (with_reducible refine RowKit.Below.ext ?_ ?_ _) | (with_reducible refine Below.alloc ?_ ?_ _) | (with_reducible refine Below.drew ?_) | (with_reducible refine RowKit.Below.drawnN ?_ _) | (with_reducible refine Below.setCell ?_ ?_ _) | (exact (by first | (simp; done) | (simp; omega) | omega)))) HBV.out.size)), HST.out.own (HBV.out.trans (Below.mono (by repeat (first | (with_reducible exact Below.refl _ _) | (with_reducible assumption) | (with_reducible refine RowKit.Below.ext ?_ ?_ _) | (with_reducible refine Below.alloc ?_ ?_ _) | (with_reducible refine Below.drew ?_) | (with_reducible refine RowKit.Below.drawnN ?_ _) | (with_reducible refine Below.setCell ?_ ?_ _) | (exact (by first | (simp; done) | (simp; omega) | omega)))) HBV.out.size)), HMI.out.below (HBV.out.trans (Below.mono (by repeat (first | (with_reducible exact Below.refl _ _) | (with_reducible assumption) | (with_reducible refine RowKit.Below.ext ?_ ?_ _) | (with_reducible refine Below.alloc ?_ ?_ _) | (with_reducible refine Below.drew ?_) | (with_reducible refine RowKit.Below.drawnN ?_ _) | (with_reducible refine Below.setCell ?_ ?_ _) | (exact (by first | (simp; done) | (simp; omega) | omega)))) HBV.out.size))⟩
        case measure => simp [intOf]; omega
      · have ho : ¬ offG r t a = true := by unfold offG; have := H5.out; simp [this]
        have kn : nextG r t a = p2 := by unfold nextG; rw [if_neg (by simp [hre]), if_neg ho, HP2.out]
        have kl : listG r t a = chosenP r (candG r t a) := by unfold listG; rw [if_neg (by simp [hre]), if_neg ho]
        clear ho
        have hre2 : (restG r t a != 0) = false := by simp [hre]
        have kc : candG r t a = candP r (diP (t / 86400)) p1 p2 sl (upL (max p1 (-62135596800) / 86400) ((min p2 253402300800 + 86399) / 86400)) := by unfold candG; rw [HP1.out, HP2.out, HS1.out]
        have hcl := candG_len r t a hk (by omega) (by omega)
        have hsl := timesP_len (f := r.f) (t % 86400) hk.lh hk.lm hk.ls
        have hsi := timesP_in (f := r.f) (s := t % 86400) hk.bh hk.bm hk.bs (by omega) (by omega)
        rw [← HS1.out] at hsl hsi
        have CC := Lib.hid (fun w (h : r.In w) (h2 : SlI.In ⟨sA, sc, sl⟩ w) => candidates_any r t p1 p2 ⟨sA, sc, sl⟩ w h h2 hv ⟨by omega, ht2⟩ (by omega) (by omega) (by omega) (by omega) hsl hsi)
        dsimp only at CC
        rw [← kc] at CC
        have CX := Lib.hid (fun (s : SlI) w (h : r.In w) (h2 : s.In w) (h3 : s.l = candG r t a) => by
          have := chosen_any r s w h h2 hv (by rw [h3]; omega)
          rw [h3, ← kl] at this
          exact this)
        have KN := Lib.hid kn
        clear kc hcl hsl hsi kl kn hre CM
        generalize candG r t a = CL at CC CX
        generalize hXL : listG r t a = XL at CX HINV
        clear hXL
        generalize restG r t a = rg at hrb hre2 ⊢
        have _ := trivial
        gi_wp2_with fail
        refine wpIn_wide.2 ?_
        go_region_held3 (fun w' => w'.cell? ⟨bR, 0, none⟩ = some (.int .i64 r.f) ∧ w'.cell? ⟨bR, 1, none⟩ = some (.int .i64 r.iv) ∧ w'.cell? ⟨bR, 2, none⟩ = some (.int .i64 r.ct) ∧ w'.cell? ⟨bR, 3, none⟩ = some (.int .i64 r.un) ∧ w'.cell? ⟨bR, 4, none⟩ = some (r.mo.v) ∧ w'.cell? ⟨bR, 5, none⟩ = some (r.md.v) ∧ w'.cell? ⟨bR, 6, none⟩ = some (r.yd.v) ∧ w'.cell? ⟨bR, 7, none⟩ = some (r.wk.v) ∧ w'.cell? ⟨bR, 8, none⟩ = some (r.dy.v) ∧ w'.cell? ⟨bR, 9, none⟩ = some (r.ho.v) ∧ w'.cell? ⟨bR, 10, none⟩ = some (r.mi.v) ∧ w'.cell? ⟨bR, 11, none⟩ = some (r.se.v) ∧ w'.cell? ⟨bR, 12, none⟩ = some (r.po.v) ∧ w'.cell? ⟨bR, 13, none⟩ = some (.int .i64 r.ws) ∧ w'.cell? ⟨bS, 0, none⟩ = some (.int .i64 t) ∧ w'.cell? ⟨B, 0, none⟩ = some (.int .i64 p1) ∧ w'.cell? ⟨B, 1, none⟩ = some (.int .i64 p2))
          (first | (refine ⟨cell_of_below (by repeat (first | (with_reducible exact Below.refl _ _) | (with_reducible assumption) | (with_reducible refine RowKit.Below.ext ?_ ?_ _) | (with_reducible refine Below.alloc ?_ ?_ _) | (with_reducible refine Below.drew ?_) | (with_reducible refine RowKit.Below.drawnN ?_ _) | (with_reducible refine Below.setCell ?_ ?_ _) | (exact (by first | (simp; done) | (simp; omega) | omega)))) e0, cell_of_below (by repeat (first | (with_reducible exact Below.refl _ _) | (with_reducible assumption) | (with_reducible refine RowKit.Below.ext ?_ ?_ _) | (with_reducible refine Below.alloc ?_ ?_ _) | (with_reducible refine Below.drew ?_) | (with_reducible refine RowKit.Below.drawnN ?_ _) | (with_reducible refine Below.setCell ?_ ?_ _) | (exact (by first | (simp; done) | (simp; omega) | omega)))) e1, cell_of_below (by repeat (first | (with_reducible exact Below.refl _ _) | (with_reducible assumption) | (with_reducible refine RowKit.Below.ext ?_ ?_ _) | (with_reducible refine Below.alloc ?_ ?_ _) | (with_reducible refine Below.drew ?_) | (with_reducible refine RowKit.Below.drawnN ?_ _) | (with_reducible refine Below.setCell ?_ ?_ _) | (exact (by first | (simp; done) | (simp; omega) | omega)))) e2, cell_of_below (by repeat (first | (with_reducible exact Below.refl _ _) | (with_reducible assumption) | (with_reducible refine RowKit.Below.ext ?_ ?_ _) | (with_reducible refine Below.alloc ?_ ?_ _) | (with_reducible refine Below.drew ?_) | (with_reducible refine RowKit.Below.drawnN ?_ _) | (with_reducible refine Below.setCell ?_ ?_ _) | (exact (by first | (simp; done) | (simp; omega) | omega)))) e3, cell_of_below (by repeat (first | (with_reducible exact Below.refl _ _) | (with_reducible assumption) | (with_reducible refine RowKit.Below.ext ?_ ?_ _) | (with_reducible refine Below.alloc ?_ ?_ _) | (with_reducible refine Below.drew ?_) | (with_reducible refine RowKit.Below.drawnN ?_ _) | (with_reducible refine Below.setCell ?_ ?_ _) | (exact (by first | (simp; done) | (simp; omega) | omega)))) e4, cell_of_below (by repeat (first | (with_reducible exact Below.refl _ _) | (with_reducible assumption) | (with_reducible refine RowKit.Below.ext ?_ ?_ _) | (with_reducible refine Below.alloc ?_ ?_ _) | (with_reducible refine Below.drew ?_) | (with_reducible refine RowKit.Below.drawnN ?_ _) | (with_reducible refine Below.setCell ?_ ?_ _) | (exact (by first | (simp; done) | (simp; omega) | omega)))) e5, cell_of_below (by repeat (first | (with_reducible exact Below.refl _ _) | (with_reducible assumption) | (with_reducible refine RowKit.Below.ext ?_ ?_ _) | (with_reducible refine Below.alloc ?_ ?_ _) | (with_reducible refine Below.drew ?_) | (with_reducible refine RowKit.Below.drawnN ?_ _) | (with_reducible refine Below.setCell ?_ ?_ _) | (exact (by first | (simp; done) | (simp; omega) | omega)))) e6, cell_of_below (by repeat (first | (with_reducible exact Below.refl _ _) | (with_reducible assumption) | (with_reducible refine RowKit.Below.ext ?_ ?_ _) | (with_reducible refine Below.alloc ?_ ?_ _) | (with_reducible refine Below.drew ?_) | (with_reducible refine RowKit.Below.drawnN ?_ _) | (with_reducible refine Below.setCell ?_ ?_ _) | (exact (by first | (simp; done) | (simp; omega) | omega)))) e7, cell_of_below (by repeat (first | (with_reducible exact Below.refl _ _) | (with_reducible assumption) | (with_reducible refine RowKit.Below.ext ?_ ?_ _) | (with_reducible refine Below.alloc ?_ ?_ _) | (with_reducible refine Below.drew ?_) | (with_reducible refine RowKit.Below.drawnN ?_ _) | (with_reducible refine Below.setCell ?_ ?_ _) | (exact (by first | (simp; done) | (simp; omega) | omega)))) e8, cell_of_below (by repeat (first | (with_reducible exact Below.refl _ _) | (with_reducible assumption) | (with_reducible refine RowKit.Below.ext ?_ ?_ _) | (with_reducible refine Below.alloc ?_ ?_ _) | (with_reducible refine Below.drew ?_) | (with_reducible refine RowKit.Below.drawnN ?_ _) | (with_reducible refine Below.setCell ?_ ?_ _) | (exact (by first | (simp; done) | (simp; omega) | omega)))) e9, cell_of_below (by repeat (first | (with_reducible exact Below.refl _ _) | (with_reducible assumption) | (with_reducible refine RowKit.Below.ext ?_ ?_ _) | (with_reducible refine Below.alloc ?_ ?_ _) | (with_reducible refine Below.drew ?_) | (with_reducible refine RowKit.Below.drawnN ?_ _) | (with_reducible refine Below.setCell ?_ ?_ _) | (exact (by first | (simp; done) | (simp; omega) | omega)))) e10, cell_of_below (by repeat (first | (with_reducible exact Below.refl _ _) | (with_reducible assumption) | (with_reducible refine RowKit.Below.ext ?_ ?_ _) | (with_reducible refine Below.alloc ?_ ?_ _) | (with_reducible refine Below.drew ?_) | (with_reducible refine RowKit.Below.drawnN ?_ _) | (with_reducible refine Below.setCell ?_ ?_ _) | (exact (by first | (simp; done) | (simp; omega) | omega)))) e11, cell_of_below (by repeat (first | (with_reducible exact Below.refl _ _) | (with_reducible assumption) | (with_reducible refine RowKit.Below.ext ?_ ?_ _) | (with_reducible refine Below.alloc ?_ ?_ _) | (with_reducible refine Below.drew ?_) | (with_reducible refine RowKit.Below.drawnN ?_ _) | (with_reducible refine Below.setCell ?_ ?_ _) | (exact (by first | (simp; done) | (simp; omega) | omega)))) e12, cell_of_below (by repeat (first | (with_reducible exact Below.refl _ _) | (with_reducible assumption) | (with_reducible refine RowKit.Below.ext ?_ ?_ _) | (with_reducible refine Below.alloc ?_ ?_ _) | (with_reducible refine Below.drew ?_) | (with_reducible refine RowKit.Below.drawnN ?_ _) | (with_reducible refine Below.setCell ?_ ?_ _) | (exact (by first | (simp; done) | (simp; omega) | omega)))) e13, cell_of_below (by repeat (first | (with_reducible exact Below.refl _ _) | (with_reducible assumption) | (with_reducible refine RowKit.Below.ext ?_ ?_ _) | (with_reducible refine Below.alloc ?_ ?_ _) | (with_reducible refine Below.drew ?_) | (with_reducible refine RowKit.Below.drawnN ?_ _) | (with_reducible refine Below.setCell ?_ ?_ _) | (exact (by first | (simp; done) | (simp; omega) | omega)))) eS, cell_of_below (by repeat (first | (with_reducible exact Below.refl _ _) | (with_reducible assumption) | (with_reducible refine RowKit.Below.ext ?_ ?_ _) | (with_reducible refine Below.alloc ?_ ?_ _) | (with_reducible refine Below.drew ?_) | (with_reducible refine RowKit.Below.drawnN ?_ _) | (with_reducible refine Below.setCell ?_ ?_ _) | (exact (by first | (simp; done) | (simp; omega) | omega)))) x1, cell_of_below (by repeat (first | (with_reducible exact Below.refl _ _) | (with_reducible assumption) | (with_reducible refine RowKit.Below.ext ?_ ?_ _) | (with_reducible refine Below.alloc ?_ ?_ _) | (with_reducible refine Below.drew ?_) | (with_reducible refine RowKit.Below.drawnN ?_ _) | (with_reducible refine Below.setCell ?_ ?_ _) | (exact (by first | (simp; done) | (simp; omega) | omega)))) x2⟩) | go_keep)
          (first
            | (go_at_call 68; (with_reducible refine Calls.mono (CC.out _ ?hq ?hq2) ?_); (case hq => exact HRW.out _ (HBV.out.trans (Below.mono (by repeat (first | (with_reducible exact Below.refl _ _) | (with_reducible assumption) | (with_reducible refine RowKit.Below.ext ?_ ?_ _) | (with_reducible refine Below.alloc ?_ ?_ _) | (with_reducible refine Below.drew ?_) | (with_reducible refine RowKit.Below.drawnN ?_ _) | (with_reducible refine Below.setCell ?_ ?_ _) | (exact (by first | (simp; done) | (simp; omega) | omega)))) HBV.out.size))); (case hq2 => exact (HMI.out.below (HBV.out.trans (Below.mono (by repeat (first | (with_reducible exact Below.refl _ _) | (with_reducible assumption) | (with_reducible refine RowKit.Below.ext ?_ ?_ _) | (with_reducible refine Below.alloc ?_ ?_ _) | (with_reducible refine Below.drew ?_) | (with_reducible refine RowKit.Below.drawnN ?_ _) | (with_reducible refine Below.setCell ?_ ?_ _) | (exact (by first | (simp; done) | (simp; omega) | omega)))) HBV.out.size))).1); rintro e w1 ⟨⟨cA, cc, cl⟩, rfl, hs1, hs2, hb1, hs3⟩; dsimp only at hs1; obtain ⟨xc, rfl⟩ := hb1.toExt; have HC1 := Lib.hid hs1; have HC2 := Lib.hid hs2; have HC3 := Lib.hid hs3; clear hb1 hs1 hs2 hs3)
            | (go_at_call 67; (with_reducible refine Calls.mono (CX.out ⟨cA, cc, cl⟩ _ ?hq ?hq2 ?hq3) ?_); (case hq => exact HRW.out _ (HBV.out.trans (Below.mono (by repeat (first | (with_reducible exact Below.refl _ _) | (with_reducible assumption) | (with_reducible refine RowKit.Below.ext ?_ ?_ _) | (with_reducible refine Below.alloc ?_ ?_ _) | (with_reducible refine Below.drew ?_) | (with_reducible refine RowKit.Below.drawnN ?_ _) | (with_reducible refine Below.setCell ?_ ?_ _) | (exact (by first | (simp; done) | (simp; omega) | omega)))) HBV.out.size))); (case hq2 => exact HC2.out.below (by repeat (first | (with_reducible exact Below.refl _ _) | (with_reducible assumption) | (with_reducible refine RowKit.Below.ext ?_ ?_ _) | (with_reducible refine Below.alloc ?_ ?_ _) | (with_reducible refine Below.drew ?_) | (with_reducible refine RowKit.Below.drawnN ?_ _) | (with_reducible refine Below.setCell ?_ ?_ _) | (exact (by first | (simp; done) | (simp; omega) | omega))))); (case hq3 => exact HC1.out); rintro e w1 ⟨⟨xA, xc2, xl⟩, rfl, hs1, hs2, hb1, hs3⟩; dsimp only at hs1; obtain ⟨xe, rfl⟩ := hb1.toExt; have HX1 := Lib.hid hs1; have HX2 := Lib.hid hs2; have HX3 := Lib.hid hs3; clear hb1 hs1 hs2 hs3))
        have hxb : ∀ b, xA = some b → wr.heap.size ≤ b.block := fun b hb => by
          have hv := HBV.out.size
          rcases HX3.out b hb with h | h
          · have := HC3.out b h; simp at this; omega
          · simp at h; omega
        refine at_worldE (fun W => Below wr.heap.size wr W ∧ SlI.In ⟨xA, xc2, xl⟩ W ∧ W.cell? ⟨B, 1, none⟩ = some (.int .i64 p2)) ⟨HBV.out.trans (Below.mono (by repeat (first | (with_reducible exact Below.refl _ _) | (with_reducible assumption) | (with_reducible refine RowKit.Below.ext ?_ ?_ _) | (with_reducible refine Below.alloc ?_ ?_ _) | (with_reducible refine Below.drew ?_) | (with_reducible refine RowKit.Below.drawnN ?_ _) | (with_reducible refine Below.setCell ?_ ?_ _) | (exact (by first | (simp; done) | (simp; omega) | omega)))) HBV.out.size), HX2.out, cell_of_below (by repeat (first | (with_reducible exact Below.refl _ _) | (with_reducible assumption) | (with_reducible refine RowKit.Below.ext ?_ ?_ _) | (with_reducible refine Below.alloc ?_ ?_ _) | (with_reducible refine Below.drew ?_) | (with_reducible refine RowKit.Below.drawnN ?_ _) | (with_reducible refine Below.setCell ?_ ?_ _) | (exact (by first | (simp; done) | (simp; omega) | omega)))) x2⟩ ?_
        intro U ⟨hBU, hXU, hx2⟩
        have hnB : ¬ C' B := fun h => by have := HST.out.fin B h; omega
        have hMX := Mine.of hXU hxb HST.out.fin
        have hMU := HMI.out.below hBU
        have hJU := sJ.below HJ.out HST.out.fin HST.out.lim.size hBU
        have hSU := HST.out.own hBU
        have hx1 := HX1.out
        subst hx1
        have QMX := Lib.hid hMX
        have QMU := Lib.hid hMU
        have QJU := Lib.hid hJU
        have QSU := Lib.hid hSU
        have QP1 := Lib.hid hnb
        clear HX1 HX2 HX3 HC1 HC2 HC3 CC CX hxb hBU hXU HBV HRW HMI HJ HST e0 e1 e2 e3 e4 e5 e6 e7 e8 e9 e10 e11 e12 e13 eS eF eT x1 x2 hMX hMU hJU hSU HBW HR HS1 HJ0 HST0 HMINE HL1 hnb hmin hb
        generalize Value.agg #[.int .i64 r.f, .int .i64 r.iv, .int .i64 r.ct, .int .i64 r.un, r.mo.v, r.md.v, r.yd.v, r.wk.v, r.dy.v, r.ho.v, r.mi.v, r.se.v, r.po.v, .int .i64 r.ws] = rv2 at ⊢
        dsimp only [SlI.v]
        gi_wp2_with fail
        gi_loopw [9, 107] (fun v9 v107 wr => ∃ (k : Nat) (C2 : FP) (lim2 : Int), v107 = .int .i64 k ∧ v9 = .int .i64 lim2 ∧ k ≤ xl.length ∧ -100000000000000 ≤ lim2 ∧ lim2 ≤ 100000000000000 ∧
          Hid ((feed t fr r.un to (xl.take k)).2 = false) ∧ Hid (lim2 = if (feed t fr r.un to (xl.take k)).1 = [] then lim else 253402300800) ∧
          Hid (J (pre ++ (feed t fr r.un to (xl.take k)).1) C2 wr) ∧ Hid (Step C C2 W wr) ∧ Hid (Mine ⟨xA, xc2, xl⟩ C2 wr) ∧ Hid (Mine ⟨sA, sc, sl⟩ C2 wr) ∧ Hid (¬ C2 B) ∧
          Hid (wr.cell? ⟨B, 1, none⟩ = some (.int .i64 p2))) (fun _ v107 _ => xl.length - (intOf v107).toNat)
        case atStart => exact ⟨0, C', lim, rfl, rfl, Nat.zero_le _, q3, q4, rfl, rfl, by rw [List.take_zero, feed, List.append_nil]; exact QJU.out, QSU.out, QMX.out, QMU.out, hnB, hx2⟩
        case round =>
          clear QJU QSU QMX QMU hnB hx2
          obtain ⟨k, C2, lim2, rfl, rfl, hk1, k3, k4, HF, HLM, HJ, HST, HX, HMI, HNB, HX2⟩ := hrel
          have e3 := HST.out.cell (CRW.out 3 _ rfl) nR
          have eS := HST.out.cell d1 nS
          have eF := HST.out.cell d2 nF
          have eT := HST.out.cell d3 nT
          have hxl : xl.length * 8 ≤ 140737488351232 := HX.out.1.2.1
          by_cases hlt : k < xl.length
          · have hltz : (k : Int) < (xl.length : Int) := by omega
            obtain ⟨bx, ox, rfl, hcx⟩ := HX.out.1.2.2 (by intro e; dsimp only at e; rw [e] at hlt; simp at hlt)
            have hc1 := hcx k hlt
            have hcut := feed_cut hlt HF.out
            clear hcx
            dsimp only at hc1
            generalize xl[k] = x at hc1 hcut
            by_cases s1 : x < t ∨ x < fr
            · rw [feed_skip s1] at hcut
              have HT := Lib.hid hcut.1
              clear hcut
              by_cases s3 : x < t
              · clear s1
                gi_wp2
                go_roundw
                case rel => exact ⟨k + 1, C2, lim2, by go_num, rfl, by omega, k3, k4, by rw [HT.out]; exact rfl, by rw [HT.out, List.append_nil]; exact HLM.out, by rw [HT.out, List.append_nil]; exact HJ.out, HST.out, HX.out, HMI.out, HNB.out, HX2.out⟩
                case measure => simp [intOf]; omega
              · have s4 : x < fr := by omega
                have s5 : t ≤ x := by omega
                clear s1 s3
                gi_wp2
                go_roundw
                case rel => exact ⟨k + 1, C2, lim2, by go_num, rfl, by omega, k3, k4, by rw [HT.out]; exact rfl, by rw [HT.out, List.append_nil]; exact HLM.out, by rw [HT.out, List.append_nil]; exact HJ.out, HST.out, HX.out, HMI.out, HNB.out, HX2.out⟩
                case measure => simp [intOf]; omega
            · by_cases s2 : (r.un ≠ 0 ∧ r.un < x) ∨ to ≤ x
              · rw [feed_stop s1 s2] at hcut
                have hfull := hcut.2.1 rfl
                have s3 : t ≤ x := by omega
                have s4 : fr ≤ x := by omega
                have hJL : J L C2 wr := by
                  rcases HINV.out with ⟨h1, h2⟩ | ⟨h1, _⟩
                  · rw [hfull] at h2; rw [← HP.out, h2]; exact HJ.out
                  · rw [hfull] at h1; cases h1
                have HJL := Lib.hid hJL
                clear hJL hfull hcut s1
                by_cases s6 : r.un < x
                · clear s2
                  gi_wp2
                  refine ⟨(by intro f hf; cases hf), ?_⟩
                  gi_wp2
                  refine bodyPost_ret (results_none rfl _ _ _) rfl ?_
                  exact ⟨⟨_, rfl⟩, C2, HST.out, .inl HJL.out⟩
                · have s5 : to ≤ x := by omega
                  have s7 : x ≤ r.un := by omega
                  clear s2 s6
                  gi_wp2
                  refine ⟨(by intro f hf; cases hf), ?_⟩
                  gi_wp2
                  refine bodyPost_ret (results_none rfl _ _ _) rfl ?_
                  exact ⟨⟨_, rfl⟩, C2, HST.out, .inl HJL.out⟩
              · rw [feed_go s1 s2] at hcut
                have hpre : (pre ++ (feed t fr r.un to (xl.take k)).1 ++ [x]) <+: L := by
                  obtain ⟨R, hR⟩ := hcut.2.2
                  rcases HINV.out with ⟨h1, h2⟩ | ⟨h1, L', h2, _⟩
                  · exact ⟨R, by rw [← HP.out, h2, hR]; simp⟩
                  · exact ⟨R ++ L', by rw [← HP.out, h2, hR]; simp⟩
                have s3 : t ≤ x := by omega
                have s4 : fr ≤ x := by omega
                have s5 : x < to := by omega
                obtain ⟨fn, tmps, assign, body, hy, hR⟩ := HY.out _ x C2 wr HJ.out HST.out.fin HST.out.lim.size hpre
                have HRR := Lib.hid hR
                have HT := Lib.hid hcut.1
                have HPRE := Lib.hid hpre
                clear hR hcut hpre s1
                have s7 : x ≤ r.un := by have := HU.out; omega
                clear s2
                gi_wp2
                refine HRR.out.mono ?_
                rintro e W3 ⟨C3, hs3, (⟨rfl, hJ3⟩ | ⟨rfl, hJx3⟩)⟩
                · have HS3 := Lib.hid (HST.out.trans hs3)
                  have HM3 := Lib.hid (HMI.out.step hs3)
                  have HX3 := Lib.hid (HX.out.step hs3)
                  have HB3 := Lib.hid (show ¬ C3 B from fun h => HNB.out (hs3.old B h (World.block_lt_of_cell? wr _ HX2.out)))
                  have HC3 := Lib.hid (hs3.cell HX2.out HNB.out)
                  have HJ3 := Lib.hid hJ3
                  clear hs3 hJ3
                  gi_wp2
                  go_roundw
                  case rel => exact ⟨k + 1, C3, 253402300800, by go_num, rfl, by omega, by omega, by omega, by rw [HT.out]; exact rfl, by rw [HT.out, if_neg (by simp)]; exact rfl, by rw [HT.out, ← List.append_assoc]; exact HJ3.out, HS3.out, HX3.out, HM3.out, HB3.out, HC3.out⟩
                  case measure => simp [intOf]; omega
                · have HS3 := Lib.hid (HST.out.trans hs3)
                  have HJ3 := Lib.hid hJx3
                  clear hs3 hJx3
                  gi_wp2
                  refine bodyPost_ret (results_none rfl _ _ _) rfl ?_
                  exact ⟨⟨_, rfl⟩, C3, HS3.out, .inr ⟨_, HPRE.out, HJ3.out⟩⟩
          · have hltz : ¬ (k : Int) < (xl.length : Int) := by omega
            have hK : xl.take k = xl := List.take_of_length_le (by omega)
            have hF := HF.out
            have hLM := HLM.out
            have hJE := HJ.out
            rw [hK] at hF hLM hJE
            have hg : ∃ L', rest = (feed t fr r.un to xl).1 ++ L' ∧ Gen r t fr to p2 lim2 L' := by
              rcases HINV.out with ⟨h1, _⟩ | ⟨_, L', h2, h3⟩
              · rw [hF] at h1; cases h1
              · rw [← KN.out, hLM]; exact ⟨L', h2, h3⟩
            obtain ⟨L', hrest, hg⟩ := hg
            have HGG := Lib.hid hg
            have HLL := Lib.hid (show (pre ++ (feed t fr r.un to xl).1) ++ L' = L by rw [List.append_assoc, ← hrest]; exact HP.out)
            have HJE := Lib.hid hJE
            have hpb : a < p2 ∧ p2 < 254100000000 := by have := QP1.out; rw [KN.out] at this; exact this
            have x2 := HX2.out
            clear hK hF hLM hJE hrest hg
            gi_wp2
            go_roundw
            case rel => exact ⟨p2, lim2, C2, _, L', rfl, rfl, by omega, by omega, k3, k4, HGG.out, HLL.out, HJE.out, HST.out, HMI.out⟩
            case measure => simp [intOf]; omega
end Go.Proofs.YthilkphnjffnhaaGreat
