/- The walk of place. -/
import Derived.Test.YthilkphnjffnhaaGreatQ2
import Derived.Test.YthilkphnjffnhaaGreatR7
import Derived.Test.YthilkphnjffnhaaGreatJJ
namespace Go.Proofs.YthilkphnjffnhaaGreat
open Go.RowKit
attribute [local go_sem] Oper.semAt_some
set_option linter.unusedVariables false
set_option linter.unusedSimpArgs false
/-- one more time of a day -/
def secC (r : Rc) (l d : Int) (acc : Int × Int) (s : Int) : Int × Int :=
  if r.f = 5 ∧ (d * 86400 + s) / 3600 ≠ l / 3600 then acc else (if d * 86400 + s ≤ l then acc.1 + 1 else acc.1, acc.2 + 1)
noncomputable def dayC (r : Rc) (X : DI) (secs : List Int) (l : Int) (acc : Int × Int) (d : Int) : Int × Int :=
  if passP r X d then secs.foldl (secC r l d) acc else acc
noncomputable def placeD (r : Rc) (X : DI) (secs : List Int) (l : Int) (ds : List Int) : Int × Int := ds.foldl (dayC r X secs l) (0, 0)
noncomputable def placeP (r : Rc) (t l : Int) : Int × Int :=
  placeD r (diP (t / 86400)) (timesP r.f r.ho.l r.mi.l r.se.l (t % 86400)) l (upL (max (dFrom r (l / 86400)) (-719162)) (min (dTo r (l / 86400)) 2932897))

theorem secC_bd (r : Rc) (l d : Int) (acc : Int × Int) (s N : Int) (h1 : 0 ≤ acc.1 ∧ acc.1 ≤ N) (h2 : 0 ≤ acc.2 ∧ acc.2 ≤ N) :
    (0 ≤ (secC r l d acc s).1 ∧ (secC r l d acc s).1 ≤ N + 1) ∧ (0 ≤ (secC r l d acc s).2 ∧ (secC r l d acc s).2 ≤ N + 1) := by
  unfold secC
  split
  · exact ⟨⟨h1.1, by omega⟩, ⟨h2.1, by omega⟩⟩
  · refine ⟨?_, ⟨by omega, by omega⟩⟩
    dsimp only
    split <;> omega
theorem secs_bd (r : Rc) (l d : Int) (secs : List Int) : ∀ (acc : Int × Int) (N : Int), (0 ≤ acc.1 ∧ acc.1 ≤ N) → (0 ≤ acc.2 ∧ acc.2 ≤ N) →
    (0 ≤ (secs.foldl (secC r l d) acc).1 ∧ (secs.foldl (secC r l d) acc).1 ≤ N + secs.length) ∧ (0 ≤ (secs.foldl (secC r l d) acc).2 ∧ (secs.foldl (secC r l d) acc).2 ≤ N + secs.length) := by
  induction secs with
  | nil => intro acc N h1 h2; simpa using ⟨h1, h2⟩
  | cons s secs ih =>
    intro acc N h1 h2
    have h := secC_bd r l d acc s N h1 h2
    have := ih (secC r l d acc s) (N + 1) h.1 h.2
    simp only [List.foldl_cons, List.length_cons]
    omega
theorem placeD_bd (r : Rc) (X : DI) (secs : List Int) (l : Int) (ds : List Int) : ∀ M : Nat, secs.length ≤ M →
    (0 ≤ (placeD r X secs l ds).1 ∧ (placeD r X secs l ds).1 ≤ ds.length * M) ∧ (0 ≤ (placeD r X secs l ds).2 ∧ (placeD r X secs l ds).2 ≤ ds.length * M) := by
  intro M hM
  unfold placeD
  suffices H : ∀ (acc : Int × Int) (N : Int), (0 ≤ acc.1 ∧ acc.1 ≤ N) → (0 ≤ acc.2 ∧ acc.2 ≤ N) →
      (0 ≤ (ds.foldl (dayC r X secs l) acc).1 ∧ (ds.foldl (dayC r X secs l) acc).1 ≤ N + ds.length * M) ∧ (0 ≤ (ds.foldl (dayC r X secs l) acc).2 ∧ (ds.foldl (dayC r X secs l) acc).2 ≤ N + ds.length * M) by
    have := H (0, 0) 0 (by simp) (by simp)
    simpa using this
  induction ds with
  | nil => intro acc N h1 h2; simpa using ⟨h1, h2⟩
  | cons d ds ih =>
    intro acc N h1 h2
    have hd : (0 ≤ (dayC r X secs l acc d).1 ∧ (dayC r X secs l acc d).1 ≤ N + M) ∧ (0 ≤ (dayC r X secs l acc d).2 ∧ (dayC r X secs l acc d).2 ≤ N + M) := by
      unfold dayC
      split
      · have := secs_bd r l d secs acc N h1 h2
        omega
      · omega
    have := ih (dayC r X secs l acc d) (N + M) hd.1 hd.2
    have e : ((ds.length + 1 : Nat) : Int) * M = ds.length * M + M := by rw [Int.natCast_add, Int.add_mul]; simp
    simp only [List.foldl_cons, List.length_cons]
    rw [e]
    omega

theorem dFrom_bd (r : Rc) (d : Int) (h1 : -719000 ≤ d) (h2 : d < 2932897) (h3 : 1 ≤ r.ws) (h4 : r.ws ≤ 7) : d - 400 ≤ dFrom r d ∧ dFrom r d ≤ d ∧ d < dTo r d ∧ dTo r d ≤ d + 400 := by
  have X := diP_ok d h1 h2
  obtain ⟨x1, x2, x3, x4, x5, x6, x7, x8, x9, x10, x11, x12⟩ := X
  have hb := wkS_bd d r.ws
  have hf := wyr_fw d r.ws h1 h2 h3 h4
  have g1 := fw_bd (wyr d r.ws) r.ws h3 h4
  have g2 := fw_bd (wyr d r.ws + 1) r.ws h3 h4
  have g4 : ny (wyr d r.ws + 1) - ny (wyr d r.ws) ≤ 366 := by unfold ny; omega
  unfold dFrom dTo
  repeat' split
  all_goals omega
theorem boxed_lim {S : FP} {W W' : World} {B : Nat} {t : TypeId} {v : Value} (h : Boxed W B t v) (hl : Lim S W W') (hn : ¬ S B) : Boxed W' B t v := (hl.block B h.lt hn).trans h
theorem boxed_ext {W : World} {B : Nat} {t : TypeId} {v : Value} (h : Boxed W B t v) (y : Ext) : Boxed (W.ext y) B t v := (World.heap_ext W y h.lt).trans h
theorem Step.ext_self {C : FP} {V : World} (hf : ∀ k, C k → k < V.heap.size) (y : Ext) : Step C C V (V.ext y) :=
  ⟨Lim.of_below (RowKit.Below.ofExt V y) (fun k h1 h2 => by omega), fun k hk => by have := hf k hk; simp; omega, fun k hk _ => hk⟩
theorem Step.set_self {C : FP} {V : World} (hf : ∀ k, C k → k < V.heap.size) (b : Nat) (v : Value) (hb : C b) : Step C C V (V.setCell ⟨b, 0, none⟩ v) := by
  have hg := grownBy_setCell' V b v
  exact ⟨⟨rfl, rfl, rfl, hg.size, fun k hk hn => hg.block k hk (fun e => hn (by cases e; exact hb))⟩, fun k hk => Nat.lt_of_lt_of_le (hf k hk) hg.size, fun k hk _ => hk⟩
theorem times_okF (r : Rc) (t : Int) (w : World) (hr : r.In w) (hv : r.Ok) (ht : locP t) :
    Calls Tryz.prog 26 #[r.val, .int .i64 t] w (RetF (timesP r.f r.ho.l r.mi.l r.se.l (t % 86400)) w) := by
  by_cases hx : r.ho.l = [] ∧ r.f = 5
  · exact times_new2 r t w hr (by have := ht.1; omega) (by have := ht.2; omega) hx hv.lh hv.lm hv.ls hv.bh hv.bm hv.bs
  · exact times_new1 r t w hr (by have := ht.1; omega) (by have := ht.2; omega) hx hv.lh hv.lm hv.ls hv.bh hv.bm hv.bs
theorem at_worldCI {F : Fence} {n : Nat} {P : Program} {f : FuncId} {args : Array Value} {R : Ending → World → Prop} {W0 : World} (C : World → Prop) (h : C W0) (hw : ∀ W, C W → CallsIn F n P f args W R) : CallsIn F n P f args W0 R := hw W0 h
theorem kept_box {w0 W : World} {v : Value} {b : Nat} (t : TypeId) (h : Below (w0.alloc (.cells #[v] t)).heap.size (w0.alloc (.cells #[v] t)) W) (hb : b = w0.heap.size) : Boxed W b t v := by
  subst hb
  exact (h.block _ (by simp)).trans (Boxed.new w0 t v)

set_option maxRecDepth 100000 in
set_option maxHeartbeats 8000000 in
theorem place_any (r : Rc) (t l : Int) (w : World) (hr : r.In w) (hk : r.Ok) (ht : inP t) (hl : inP l) (hl7 : -62087040000 ≤ l) :
    Calls Tryz.prog 33 #[r.val, .int .i64 t, .int .i64 l] w fun e w' => e = .returned (.tuple #[.int .i64 (placeP r t l).1, .int .i64 (placeP r t l).2]) ∧ Below w.heap.size w w' := by
  have key : placeP r t l = placeD r (diP (t / 86400)) (timesP r.f r.ho.l r.mi.l r.se.l (t % 86400)) l (upL (max (dFrom r (l / 86400)) (-719162)) (min (dTo r (l / 86400)) 2932897)) := rfl
  have hlo := ht.loc
  obtain ⟨t1, t2⟩ := ht
  obtain ⟨l1, l2⟩ := hl
  have hd := dFrom_bd r (l / 86400) (by omega) (by omega) hk.s1 hk.s7
  have hX := diP_ok (t / 86400) (by omega) (by omega)
  have CT := Lib.hid (fun w (h : r.In w) => times_okF r t w h hk hlo)
  have CD := Lib.hid (fun w => dateof_any (t / 86400) w (by omega) (by omega))
  have CY := Lib.hid (fun w => days_any r l w hk.f1 hk.f5 hk.s1 hk.s7 l1 l2)
  have CP := Lib.hid (fun w d (h : r.In w) (g1 : -719000 ≤ d) (g2 : d < 2932897) => passes_any r (diP (t / 86400)) d w h hX hk.s1 hk.s7 g1 g2)
  have LT := Lib.hid (timesP_len (f := r.f) (t % 86400) hk.lh hk.lm hk.ls)
  have LI := Lib.hid (timesP_in (f := r.f) (s := t % 86400) hk.bh hk.bm hk.bs (by omega) (by omega))
  rw [key]
  clear key hX
  generalize timesP r.f r.ho.l r.mi.l r.se.l (t % 86400) = secs at *
  generalize diP (t / 86400) = X at *
  generalize dFrom r (l / 86400) = A at *
  generalize dTo r (l / 86400) = B at *
  obtain ⟨L, hL⟩ : ∃ L, L = upL (max A (-719162)) (min B 2932897) := ⟨_, rfl⟩
  have LB := Lib.hid (show ∀ d ∈ L, -719000 ≤ d ∧ d < 2932897 by
    intro d hd2
    rw [hL] at hd2
    have := upL_mem hd2
    omega)
  have LN := Lib.hid (show L.length ≤ 801 by rw [hL, upL_length]; omega)
  rw [← hL]
  have HL := Lib.hid hL
  clear hL
  obtain ⟨hd1, hd2, hd3, hd4⟩ := hd
  have XV : X.v = .agg X.cells := rfl
  rw [XV] at CD CP
  clear XV
  have HR := Lib.hid hr
  clear hr hk hlo
  refine (callsIn_wide (n := 3)).1 ?_
  refine callsIn_of_wp_marks Tryz.func33 rfl trivial ?_ rfl
  simp only [Tryz.ntmps33, List.size_toArray, List.length_cons, List.length_nil, Nat.reduceAdd, Nat.reduceSub, Array.replicate_succ, Array.replicate_zero, List.push_toArray, List.append_toArray, List.nil_append, List.cons_append]
  refine wpIn_wide.2 ?_
  go_wp2_with fail
  refine (CT.out _ (HR.out.below (by repeat (first | (with_reducible exact Below.refl _ _) | (with_reducible assumption) | (with_reducible refine RowKit.Below.ext ?_ ?_ _) | (with_reducible refine Below.alloc ?_ ?_ _) | (with_reducible refine Below.drew ?_) | (with_reducible refine RowKit.Below.drawnN ?_ _) | (with_reducible refine Below.setCell ?_ ?_ _) | (exact (by first | (simp; done) | (simp; omega) | omega)))))).mono ?_
  rintro e w1 ⟨so, rfl, hs1, hs2, hb1, hs3⟩
  obtain ⟨x, rfl⟩ := hb1.toExt
  clear hb1
  obtain ⟨sA, sc, sl⟩ := so
  dsimp only at hs1
  subst hs1
  have HS := Lib.hid hs2
  have HNW := Lib.hid (show ∀ a, sA = some a → w.heap.size + 4 ≤ a.block by intro a ha; have := hs3 a ha; simp at this; omega)
  clear hs2 hs3
  go_wp2_with fail
  refine (floor_any t 86400 _ (by omega) (by omega) (by omega) (by omega)).mono ?_
  rintro e w1 ⟨rfl, nd, rfl⟩
  go_wp2_with fail
  refine (CD.out _).mono ?_
  rintro e w1 ⟨rfl, hb1⟩; obtain ⟨x2, rfl⟩ := hb1.toExt; clear hb1
  go_wp2_with fail
  refine at_worldC (fun W => Below w.heap.size w W ∧ (∀ o, W.cell? ⟨w.heap.size, o, none⟩ = r.cells[o]?) ∧ W.cell? ⟨w.heap.size + 1, 0, none⟩ = some (.int .i64 l) ∧ Boxed W (w.heap.size + 1 + 1) 3 (.int .i64 0) ∧ Boxed W (w.heap.size + 1 + 1 + 1) 3 (.int .i64 0) ∧
    W.cell? ⟨w.heap.size + 1 + 1 + 1 + 1 + x.k, 0, none⟩ = some (.slice sA sl.length sc) ∧ (∀ o, W.cell? ⟨w.heap.size + 1 + 1 + 1 + 1 + x.k + 1 + x2.k, o, none⟩ = X.cells[o]?) ∧ SlI.In ⟨sA, sc, sl⟩ W)
    ⟨(by repeat (first | (with_reducible exact Below.refl _ _) | (with_reducible assumption) | (with_reducible refine RowKit.Below.ext ?_ ?_ _) | (with_reducible refine Below.alloc ?_ ?_ _) | (with_reducible refine Below.drew ?_) | (with_reducible refine RowKit.Below.drawnN ?_ _) | (with_reducible refine Below.setCell ?_ ?_ _) | (exact (by first | (simp; done) | (simp; omega) | omega)))), fun o => kept_cells 25 (by repeat (first | (with_reducible exact Below.refl _ _) | (with_reducible assumption) | (with_reducible refine RowKit.Below.ext ?_ ?_ _) | (with_reducible refine Below.alloc ?_ ?_ _) | (with_reducible refine Below.drew ?_) | (with_reducible refine RowKit.Below.drawnN ?_ _) | (with_reducible refine Below.setCell ?_ ?_ _) | (exact (by first | (simp; done) | (simp; omega) | omega)))) rfl o, by go_simp, kept_box (w0 := (w.alloc (.cells r.cells 25)).alloc (.cells #[.int .i64 l] 3)) 3 (by repeat (first | (with_reducible exact Below.refl _ _) | (with_reducible assumption) | (with_reducible refine RowKit.Below.ext ?_ ?_ _) | (with_reducible refine Below.alloc ?_ ?_ _) | (with_reducible refine Below.drew ?_) | (with_reducible refine RowKit.Below.drawnN ?_ _) | (with_reducible refine Below.setCell ?_ ?_ _) | (exact (by first | (simp; done) | (simp; omega) | omega)))) (by simp), kept_box (w0 := ((w.alloc (.cells r.cells 25)).alloc (.cells #[.int .i64 l] 3)).alloc (.cells #[.int .i64 0] 3)) 3 (by repeat (first | (with_reducible exact Below.refl _ _) | (with_reducible assumption) | (with_reducible refine RowKit.Below.ext ?_ ?_ _) | (with_reducible refine Below.alloc ?_ ?_ _) | (with_reducible refine Below.drew ?_) | (with_reducible refine RowKit.Below.drawnN ?_ _) | (with_reducible refine Below.setCell ?_ ?_ _) | (exact (by first | (simp; done) | (simp; omega) | omega)))) (by simp), by go_simp, fun o => kept_cells 70 (by repeat (first | (with_reducible exact Below.refl _ _) | (with_reducible assumption) | (with_reducible refine RowKit.Below.ext ?_ ?_ _) | (with_reducible refine Below.alloc ?_ ?_ _) | (with_reducible refine Below.drew ?_) | (with_reducible refine RowKit.Below.drawnN ?_ _) | (with_reducible refine Below.setCell ?_ ?_ _) | (exact (by first | (simp; done) | (simp; omega) | omega)))) (by simp) o, HS.out.below (by repeat (first | (with_reducible exact Below.refl _ _) | (with_reducible assumption) | (with_reducible refine RowKit.Below.ext ?_ ?_ _) | (with_reducible refine Below.alloc ?_ ?_ _) | (with_reducible refine Below.drew ?_) | (with_reducible refine RowKit.Below.drawnN ?_ _) | (with_reducible refine Below.setCell ?_ ?_ _) | (exact (by first | (simp; done) | (simp; omega) | omega))))⟩ ?_
  intro U ⟨hB, hcr, hcl, hbn, hbo, hcs, hcx, hsi⟩
  refine (CY.out _).mono ?_
  rintro e W ⟨b1, b2, rfl, hc1, hc2, hg1, hg2, hbW⟩
  have n1 := hbn.lt
  have n2 := hbo.lt
  have QB := Lib.hid (hB.trans (hbW.mono hB.size))
  have QR := Lib.hid (fun o v (h : r.cells[o]? = some v) => cell_of_below hbW ((hcr o).trans h))
  have QX := Lib.hid (fun o v (h : X.cells[o]? = some v) => cell_of_below hbW ((hcx o).trans h))
  have QL := Lib.hid (cell_of_below hbW hcl)
  have QS := Lib.hid (cell_of_below hbW hcs)
  have QN := Lib.hid ((hbW.block _ n1).trans hbn)
  have QO := Lib.hid ((hbW.block _ n2).trans hbo)
  have QI := Lib.hid (hsi.below hbW)
  have DS := days_seq b1 b2 A B W hc1 hc2 (by omega) (by omega) (by omega) (by omega)
  rw [← HL.out] at DS
  replace DS := Lib.hid DS
  have hsW := hbW.size
  have d1 : ¬ (w.heap.size + 1 + 1 = b1 ∨ w.heap.size + 1 + 1 = b2) := by omega
  have d2 : ¬ (w.heap.size + 1 + 1 + 1 = b1 ∨ w.heap.size + 1 + 1 + 1 = b2) := by omega
  have DC := Lib.hid (show ∀ k, (k = w.heap.size + 1 + 1 ∨ k = w.heap.size + 1 + 1 + 1) → ¬ (k = b1 ∨ k = b2) ∧ k < W.heap.size by
    rintro k (rfl | rfl)
    · exact ⟨d1, by omega⟩
    · exact ⟨d2, by omega⟩)
  have DR := Lib.hid (show ∀ k, (k = b1 ∨ k = b2) → k < W.heap.size by
    rintro k (rfl | rfl)
    · exact World.block_lt_of_cell? W _ hc1
    · exact World.block_lt_of_cell? W _ hc2)
  clear hB hcr hcl hbn hbo hcs hcx hsi hbW hc1 hc2 hg1 hg2 n1 n2 d1 d2 hsW
  go_wp2
  refine (wpIn_wide (n := 3)).1 ?_
  refine wp_rangeFunc_sep (gf := 84) (lb := #[.pointer (some ⟨b1, 0, none⟩), .pointer (some ⟨b2, 0, none⟩)]) rfl (enters_of Tryz.func84 (by kernel_rfl) rfl) DS.out DR.out (fun _ => rfl) (fun k => k = w.heap.size + 1 + 1 ∨ k = w.heap.size + 1 + 1 + 1) DC.out
    (fun pre C V => C = (fun k => k = w.heap.size + 1 + 1 ∨ k = w.heap.size + 1 + 1 + 1) ∧ Boxed V (w.heap.size + 1 + 1) 3 (.int .i64 (placeD r X sl l pre).1) ∧ Boxed V (w.heap.size + 1 + 1 + 1) 3 (.int .i64 (placeD r X sl l pre).2))
    (fun _ _ _ _ => False) ?hI ?hIx ⟨rfl, QN.out, QO.out⟩ ?round ?done ?stop
  case hI =>
    rintro pre C V V' ⟨rfl, h1, h2⟩ _ _ hl
    exact ⟨rfl, boxed_lim h1 hl (fun c => c.2 (.inl rfl)), boxed_lim h2 hl (fun c => c.2 (.inr rfl))⟩
  case hIx => exact fun _ _ _ _ _ h => h.elim
  case stop => exact fun _ _ _ _ _ h => h.elim
  case done =>
    rintro C V ⟨rfl, h1, h2⟩ hst hnd hK
    have hBV : Below w.heap.size w V := QB.out.trans (hst.below QB.out.size (by rintro k (rfl | rfl) <;> omega))
    have HBV := Lib.hid hBV
    have HK := Lib.hid hK
    have cn := h1.cell
    have co := h2.cell
    have fn := h1.frozen
    have fo := h2.frozen
    have hsW := QB.out.size
    have hsV := hst.lim.size
    clear hBV hK hst hnd
    dsimp only [Exit.inBlock, Exit.then]
    go_wp2_with go_region
    have hb1 : Boxed ((V.setCell ⟨w.heap.size + 1 + 1, 0, none⟩ (.int .i64 (placeD r X sl l L).1)).setCell ⟨w.heap.size + 1 + 1 + 1, 0, none⟩ (.int .i64 (placeD r X sl l L).2)).drew (w.heap.size + 1 + 1) 3 (.int .i64 (placeD r X sl l L).1) :=
      Boxed.other (h1.set _) (by omega) _
    have hb2 : Boxed ((V.setCell ⟨w.heap.size + 1 + 1, 0, none⟩ (.int .i64 (placeD r X sl l L).1)).setCell ⟨w.heap.size + 1 + 1 + 1, 0, none⟩ (.int .i64 (placeD r X sl l L).2)).drew (w.heap.size + 1 + 1 + 1) 3 (.int .i64 (placeD r X sl l L).2) :=
      Boxed.set _ (Boxed.other h2 (by omega) _)
    have hbl : Below w.heap.size w ((V.setCell ⟨w.heap.size + 1 + 1, 0, none⟩ (.int .i64 (placeD r X sl l L).1)).setCell ⟨w.heap.size + 1 + 1 + 1, 0, none⟩ (.int .i64 (placeD r X sl l L).2)).drew :=
      Below.drew (Below.setCell (Below.setCell HBV.out (p := ⟨w.heap.size + 1 + 1, 0, none⟩) (by simp; omega) _) (p := ⟨w.heap.size + 1 + 1 + 1, 0, none⟩) (by simp; omega) _)
    have hk1 : ((V.setCell ⟨w.heap.size + 1 + 1, 0, none⟩ (.int .i64 (placeD r X sl l L).1)).setCell ⟨w.heap.size + 1 + 1 + 1, 0, none⟩ (.int .i64 (placeD r X sl l L).2)).drew.heap[W.heap.size]? = some (.deferred (some [])) :=
      (Below.heap_setCell _ _ _ _ (by have := (DC.out _ (.inr rfl)).2; simp; omega)).trans ((Below.heap_setCell _ _ _ _ (by have := (DC.out _ (.inl rfl)).2; simp; omega)).trans HK.out)
    generalize ((V.setCell ⟨w.heap.size + 1 + 1, 0, none⟩ (.int .i64 (placeD r X sl l L).1)).setCell ⟨w.heap.size + 1 + 1 + 1, 0, none⟩ (.int .i64 (placeD r X sl l L).2)).drew = V2 at hb1 hb2 hbl hk1 ⊢
    have ha1 : Boxed (V2.putObj W.heap.size (.deferred none)) (w.heap.size + 1 + 1) 3 (.int .i64 (placeD r X sl l L).1) := (World.putObj_heap_other (by have := (DC.out _ (.inl rfl)).2; omega)).trans hb1
    have ha2 : Boxed (V2.putObj W.heap.size (.deferred none)) (w.heap.size + 1 + 1 + 1) 3 (.int .i64 (placeD r X sl l L).2) := (World.putObj_heap_other (by have := (DC.out _ (.inr rfl)).2; omega)).trans hb2
    have c1 := ha1.cell
    have c2 := ha2.cell
    refine ⟨by simp, .inl ⟨_, _, rfl, run_takeDeferred hk1, ?_⟩⟩
    refine ⟨.tuple #[.int .i64 (placeD r X sl l L).1, .int .i64 (placeD r X sl l L).2], ?_, rfl, ?_⟩
    · simp [results, Tryz.results33, go_sem, c1, c2]
    · exact hbl.grown (grownBy_putObj' V2 W.heap.size _) hbl.size (fun k e => by cases e; omega)
  case round =>
    intro lr m pre d hpre
    apply Exists.intro
    constructor
    · intro V K hK
      gi_wp2
      exact hK
    · rintro C V ⟨rfl, hbn, hbo⟩ hst
      have hd := LB.out d (hpre.subset (by simp))
      have hplen : pre.length ≤ 800 := by
        have h1 := hpre.length_le
        have h2 := LN.out
        simp at h1
        omega
      have hacc := placeD_bd r X sl l pre 216000 LT.out
      have hnext : placeD r X sl l (pre ++ [d]) = dayC r X sl l (placeD r X sl l pre) d := by unfold placeD; rw [List.foldl_append]; rfl
      generalize placeD r X sl l pre = acc at hbn hbo hacc hnext
      have ha1 : 0 ≤ acc.1 ∧ acc.1 ≤ 172800000 := by omega
      have ha2 : 0 ≤ acc.2 ∧ acc.2 ≤ 172800000 := by omega
      have HN := Lib.hid hnext
      have HFIN := Lib.hid hst.fin
      have hBV : Below w.heap.size w V := QB.out.trans (hst.below QB.out.size (by rintro k (rfl | rfl) <;> omega))
      have cp := CP.out V d (HR.out.below hBV) hd.1 hd.2
      have c0 := hst.cell (QR.out 0 _ rfl) (by first | (simp; done) | (simp; omega) | omega)
      have c1 := hst.cell (QR.out 1 _ rfl) (by first | (simp; done) | (simp; omega) | omega)
      have c2 := hst.cell (QR.out 2 _ rfl) (by first | (simp; done) | (simp; omega) | omega)
      have c3 := hst.cell (QR.out 3 _ rfl) (by first | (simp; done) | (simp; omega) | omega)
      have c4 := hst.cell (QR.out 4 _ rfl) (by first | (simp; done) | (simp; omega) | omega)
      have c5 := hst.cell (QR.out 5 _ rfl) (by first | (simp; done) | (simp; omega) | omega)
      have c6 := hst.cell (QR.out 6 _ rfl) (by first | (simp; done) | (simp; omega) | omega)
      have c7 := hst.cell (QR.out 7 _ rfl) (by first | (simp; done) | (simp; omega) | omega)
      have c8 := hst.cell (QR.out 8 _ rfl) (by first | (simp; done) | (simp; omega) | omega)
      have c9 := hst.cell (QR.out 9 _ rfl) (by first | (simp; done) | (simp; omega) | omega)
      have c10 := hst.cell (QR.out 10 _ rfl) (by first | (simp; done) | (simp; omega) | omega)
      have c11 := hst.cell (QR.out 11 _ rfl) (by first | (simp; done) | (simp; omega) | omega)
      have c12 := hst.cell (QR.out 12 _ rfl) (by first | (simp; done) | (simp; omega) | omega)
      have c13 := hst.cell (QR.out 13 _ rfl) (by first | (simp; done) | (simp; omega) | omega)
      have e0 := hst.cell (QX.out 0 _ rfl) (by first | (simp; done) | (simp; omega) | omega)
      have e1 := hst.cell (QX.out 1 _ rfl) (by first | (simp; done) | (simp; omega) | omega)
      have e2 := hst.cell (QX.out 2 _ rfl) (by first | (simp; done) | (simp; omega) | omega)
      have e3 := hst.cell (QX.out 3 _ rfl) (by first | (simp; done) | (simp; omega) | omega)
      have e4 := hst.cell (QX.out 4 _ rfl) (by first | (simp; done) | (simp; omega) | omega)
      have e5 := hst.cell (QX.out 5 _ rfl) (by first | (simp; done) | (simp; omega) | omega)
      have e6 := hst.cell (QX.out 6 _ rfl) (by first | (simp; done) | (simp; omega) | omega)
      have e7 := hst.cell (QX.out 7 _ rfl) (by first | (simp; done) | (simp; omega) | omega)
      have cS := hst.cell QS.out (by first | (simp; done) | (simp; omega) | omega)
      have cL := hst.cell QL.out (by first | (simp; done) | (simp; omega) | omega)
      have HST := Lib.hid hst
      have HBN := Lib.hid hbn
      have HBO := Lib.hid hbo
      clear hnext hacc hplen hst hbn hbo hBV
      cases hp : passP r X d
      · rw [hp] at cp
        have CC := Lib.hid cp
        have HP := Lib.hid hp
        clear cp hp
        gi_wp2_with fail
        refine ⟨trivial, (by intro h; cases h), (CallsIn.inRound lr (callsIn_wide.2 CC.out)).mono ?_⟩
        rintro e w1 ⟨rfl, hb1⟩; obtain ⟨y, rfl⟩ := hb1.toExt; clear hb1
        gi_wp2
        have hz : placeD r X sl l (pre ++ [d]) = acc := by rw [HN.out]; unfold dayC; rw [HP.out]; rfl
        exact ⟨_, Step.ext_self HFIN.out y, rfl, by rw [hz]; exact boxed_ext HBN.out y, by rw [hz]; exact boxed_ext HBO.out y⟩
      · rw [hp] at cp
        have CC := Lib.hid cp
        have HP := Lib.hid hp
        clear cp hp
        gi_wp2_with fail
        refine ⟨trivial, (by intro h; cases h), (CallsIn.inRound lr (callsIn_wide.2 CC.out)).mono ?_⟩
        rintro e w1 ⟨rfl, hb1⟩; obtain ⟨y, rfl⟩ := hb1.toExt; clear hb1
        gi_wp2
        gi_loopw [31] (fun v31 wr => ∃ k : Nat, k ≤ sl.length ∧ v31 = .int .i64 k ∧ Hid (Step (fun k => k = w.heap.size + 1 + 1 ∨ k = w.heap.size + 1 + 1 + 1) (fun k => k = w.heap.size + 1 + 1 ∨ k = w.heap.size + 1 + 1 + 1) V wr) ∧
          Hid (Boxed wr (w.heap.size + 1 + 1) 3 (.int .i64 ((sl.take k).foldl (secC r l d) acc).1)) ∧ Hid (Boxed wr (w.heap.size + 1 + 1 + 1) 3 (.int .i64 ((sl.take k).foldl (secC r l d) acc).2))) (fun v31 _ => sl.length - (intOf v31).toNat)
        case atStart => exact ⟨0, by omega, rfl, Step.ext_self HFIN.out y, boxed_ext HBN.out y, boxed_ext HBO.out y⟩
        case round =>
          obtain ⟨k, hk, rfl, HS2, HN2, HO2⟩ := hrel
          by_cases hlt : k < sl.length
          · have hltz : (k : Int) < (sl.length : Int) := by omega
            obtain ⟨b, off, rfl, hcc⟩ := QI.out.2.2 (by intro h; dsimp only at h; rw [h] at hlt; simp at hlt)
            have hfr := HNW.out _ rfl
            dsimp only at hfr
            have hc1 := (HST.out.trans HS2.out).cell (hcc k hlt) (by first | (simp; done) | (simp; omega) | omega)
            have hs1 := LI.out sl[k] (List.getElem_mem hlt)
            have hT : (sl.take (k + 1)).foldl (secC r l d) acc = secC r l d ((sl.take k).foldl (secC r l d) acc) sl[k] := by
              rw [← List.take_append_getElem hlt, List.foldl_append]; rfl
            have hbd := secs_bd r l d (sl.take k) acc 172800000 ha1 ha2
            have htl : (sl.take k).length ≤ 216000 := by have := LT.out; rw [List.length_take]; omega
            clear hcc
            dsimp only at hc1
            generalize sl[k] = s at hc1 hs1 hT
            generalize (sl.take k).foldl (secC r l d) acc = acck at HN2 HO2 hT hbd
            have k1 : 0 ≤ acck.1 ∧ acck.1 ≤ 180000000 := by omega
            have k2 : 0 ≤ acck.2 ∧ acck.2 ≤ 180000000 := by omega
            have HT := Lib.hid hT
            have hlb : sl.length ≤ 216000 := LT.out
            have cn := HN2.out.cell
            have co := HO2.out.cell
            have fn := HN2.out.frozen
            have fo := HO2.out.frozen
            have cL2 := HS2.out.cell cL (by first | (simp; done) | (simp; omega) | omega)
            have cf := HS2.out.cell c0 (by first | (simp; done) | (simp; omega) | omega)
            clear hT hbd htl
            by_cases f5 : r.f = 5
            · have f5' : (r.f == 5) = true := by simp [f5]
              have CF1 := Lib.hid (fun w => floor_any (d * 86400 + s) 3600 w (by omega) (by omega) (by omega) (by omega))
              have CF2 := Lib.hid (fun w => floor_any l 3600 w (by omega) (by omega) (by omega) (by omega))
              by_cases h36 : (d * 86400 + s) / 3600 = l / 3600
              · have q36 : ((d * 86400 + s) / 3600 != l / 3600) = false := by simp [h36]
                have hsec : ∀ a, secC r l d a s = (if d * 86400 + s ≤ l then a.1 + 1 else a.1, a.2 + 1) := fun a => by unfold secC; rw [if_neg (by omega)]
                have HSEC := Lib.hid hsec
                clear hsec f5 h36
                by_cases hle : d * 86400 + s ≤ l
                · gi_wp2
                  refine wpIn_region_calm_tail 9 (by kernel_rfl) (by kernel_rfl) (by kernel_rfl) (by rintro ⟨_, _, h⟩; exact h) ?_
                  simp only [List.take_succ_cons, List.take_zero, List.drop_succ_cons, List.drop_zero]
                  repeat (go_big_quiet_step (first | (with_reducible exact Calls.calm_of_drew (CF1.out _)) | (with_reducible exact Calls.calm_of_drew (CF2.out _))))
                  refine wpQuiet_nil ?_
                  rintro _ ⟨xx, rfl⟩
                  have cn2 := (boxed_ext HN2.out xx).cell
                  have co2 := (boxed_ext HO2.out xx).cell
                  have fn2 := (boxed_ext HN2.out xx).frozen
                  have fo2 := (boxed_ext HO2.out xx).frozen
                  go_wp2
                  gi_wp2
                  go_roundw
                  case rel =>
                    have hfx : ∀ k, (k = w.heap.size + 1 + 1 ∨ k = w.heap.size + 1 + 1 + 1) → k < (wr.ext xx).heap.size := (Step.ext_self HS2.out.fin xx).fin
                    have g1 := Step.set_self hfx (w.heap.size + 1 + 1 + 1) (.int .i64 (acck.2 + 1)) (.inr rfl)
                    have g2 := Step.set_self g1.fin (w.heap.size + 1 + 1) (.int .i64 (acck.1 + 1)) (.inl rfl)
                    refine ⟨k + 1, by omega, by go_num, HS2.out.trans ((Step.ext_self HS2.out.fin xx).trans (g1.trans g2)), ?_, ?_⟩
                    · rw [HT.out, HSEC.out]; dsimp only; rw [if_pos hle]
                      exact Boxed.set _ (Boxed.other (boxed_ext HN2.out xx) (by omega) _)
                    · rw [HT.out, HSEC.out]; dsimp only
                      exact Boxed.other (Boxed.set _ (boxed_ext HO2.out xx)) (by omega) _
                  case measure => simp [intOf]; omega
                · gi_wp2
                  refine wpIn_region_calm_tail 9 (by kernel_rfl) (by kernel_rfl) (by kernel_rfl) (by rintro ⟨_, _, h⟩; exact h) ?_
                  simp only [List.take_succ_cons, List.take_zero, List.drop_succ_cons, List.drop_zero]
                  repeat (go_big_quiet_step (first | (with_reducible exact Calls.calm_of_drew (CF1.out _)) | (with_reducible exact Calls.calm_of_drew (CF2.out _))))
                  refine wpQuiet_nil ?_
                  rintro _ ⟨xx, rfl⟩
                  have cn2 := (boxed_ext HN2.out xx).cell
                  have co2 := (boxed_ext HO2.out xx).cell
                  have fn2 := (boxed_ext HN2.out xx).frozen
                  have fo2 := (boxed_ext HO2.out xx).frozen
                  go_wp2
                  gi_wp2
                  go_roundw
                  case rel =>
                    have hfx : ∀ k, (k = w.heap.size + 1 + 1 ∨ k = w.heap.size + 1 + 1 + 1) → k < (wr.ext xx).heap.size := (Step.ext_self HS2.out.fin xx).fin
                    have g1 := Step.set_self hfx (w.heap.size + 1 + 1 + 1) (.int .i64 (acck.2 + 1)) (.inr rfl)
                    refine ⟨k + 1, by omega, by go_num, HS2.out.trans ((Step.ext_self HS2.out.fin xx).trans g1), ?_, ?_⟩
                    · rw [HT.out, HSEC.out]; dsimp only; rw [if_neg (by omega)]
                      exact Boxed.other (boxed_ext HN2.out xx) (by omega) _
                    · rw [HT.out, HSEC.out]; dsimp only
                      exact Boxed.set _ (boxed_ext HO2.out xx)
                  case measure => simp [intOf]; omega
              · have q36 : ((d * 86400 + s) / 3600 != l / 3600) = true := by simp [h36]
                have hsec : ∀ a, secC r l d a s = a := fun a => by unfold secC; rw [if_pos ⟨f5, h36⟩]
                have HSEC := Lib.hid hsec
                clear hsec f5 h36
                gi_wp2
                refine wpIn_region_calm_tail 9 (by kernel_rfl) (by kernel_rfl) (by kernel_rfl) (by rintro ⟨_, _, h⟩; exact h) ?_
                simp only [List.take_succ_cons, List.take_zero, List.drop_succ_cons, List.drop_zero]
                repeat (go_big_quiet_step (first | (with_reducible exact Calls.calm_of_drew (CF1.out _)) | (with_reducible exact Calls.calm_of_drew (CF2.out _))))
                refine wpQuiet_nil ?_
                rintro _ ⟨xx, rfl⟩
                go_wp2
                gi_wp2
                go_roundw
                case rel =>
                  refine ⟨k + 1, by omega, by go_num, HS2.out.trans (Step.ext_self HS2.out.fin xx), ?_, ?_⟩
                  · rw [HT.out, HSEC.out]; exact boxed_ext HN2.out xx
                  · rw [HT.out, HSEC.out]; exact boxed_ext HO2.out xx
                case measure => simp [intOf]; omega
            · have f5' : (r.f == 5) = false := by simp [f5]
              have hsec : ∀ a, secC r l d a s = (if d * 86400 + s ≤ l then a.1 + 1 else a.1, a.2 + 1) := fun a => by unfold secC; rw [if_neg (by omega)]
              have HSEC := Lib.hid hsec
              have CF1 := Lib.hid (fun w => floor_any (d * 86400 + s) 3600 w (by omega) (by omega) (by omega) (by omega))
              have CF2 := Lib.hid (fun w => floor_any l 3600 w (by omega) (by omega) (by omega) (by omega))
              clear hsec f5
              by_cases hle : d * 86400 + s ≤ l
              · gi_wp2
                refine wpIn_region_calm_tail 9 (by kernel_rfl) (by kernel_rfl) (by kernel_rfl) (by rintro ⟨_, _, h⟩; exact h) ?_
                simp only [List.take_succ_cons, List.take_zero, List.drop_succ_cons, List.drop_zero]
                repeat (go_big_quiet_step (first | (with_reducible exact Calls.calm_of_drew (CF1.out _)) | (with_reducible exact Calls.calm_of_drew (CF2.out _))))
                refine wpQuiet_nil ?_
                rintro _ ⟨xx, rfl⟩
                have cn2 := (boxed_ext HN2.out xx).cell
                have co2 := (boxed_ext HO2.out xx).cell
                have fn2 := (boxed_ext HN2.out xx).frozen
                have fo2 := (boxed_ext HO2.out xx).frozen
                go_wp2
                gi_wp2
                go_roundw
                case rel =>
                  have hfx : ∀ k, (k = w.heap.size + 1 + 1 ∨ k = w.heap.size + 1 + 1 + 1) → k < (wr.ext xx).heap.size := (Step.ext_self HS2.out.fin xx).fin
                  have g1 := Step.set_self hfx (w.heap.size + 1 + 1 + 1) (.int .i64 (acck.2 + 1)) (.inr rfl)
                  have g2 := Step.set_self g1.fin (w.heap.size + 1 + 1) (.int .i64 (acck.1 + 1)) (.inl rfl)
                  refine ⟨k + 1, by omega, by go_num, HS2.out.trans ((Step.ext_self HS2.out.fin xx).trans (g1.trans g2)), ?_, ?_⟩
                  · rw [HT.out, HSEC.out]; dsimp only; rw [if_pos hle]
                    exact Boxed.set _ (Boxed.other (boxed_ext HN2.out xx) (by omega) _)
                  · rw [HT.out, HSEC.out]; dsimp only
                    exact Boxed.other (Boxed.set _ (boxed_ext HO2.out xx)) (by omega) _
                case measure => simp [intOf]; omega
              · gi_wp2
                refine wpIn_region_calm_tail 9 (by kernel_rfl) (by kernel_rfl) (by kernel_rfl) (by rintro ⟨_, _, h⟩; exact h) ?_
                simp only [List.take_succ_cons, List.take_zero, List.drop_succ_cons, List.drop_zero]
                repeat (go_big_quiet_step (first | (with_reducible exact Calls.calm_of_drew (CF1.out _)) | (with_reducible exact Calls.calm_of_drew (CF2.out _))))
                refine wpQuiet_nil ?_
                rintro _ ⟨xx, rfl⟩
                have cn2 := (boxed_ext HN2.out xx).cell
                have co2 := (boxed_ext HO2.out xx).cell
                have fn2 := (boxed_ext HN2.out xx).frozen
                have fo2 := (boxed_ext HO2.out xx).frozen
                go_wp2
                gi_wp2
                go_roundw
                case rel =>
                  have hfx : ∀ k, (k = w.heap.size + 1 + 1 ∨ k = w.heap.size + 1 + 1 + 1) → k < (wr.ext xx).heap.size := (Step.ext_self HS2.out.fin xx).fin
                  have g1 := Step.set_self hfx (w.heap.size + 1 + 1 + 1) (.int .i64 (acck.2 + 1)) (.inr rfl)
                  refine ⟨k + 1, by omega, by go_num, HS2.out.trans ((Step.ext_self HS2.out.fin xx).trans g1), ?_, ?_⟩
                  · rw [HT.out, HSEC.out]; dsimp only; rw [if_neg (by omega)]
                    exact Boxed.other (boxed_ext HN2.out xx) (by omega) _
                  · rw [HT.out, HSEC.out]; dsimp only
                    exact Boxed.set _ (boxed_ext HO2.out xx)
                case measure => simp [intOf]; omega
          · have hltz : ¬ (k : Int) < (sl.length : Int) := by omega
            have HK := Lib.hid (show k = sl.length by omega)
            gi_wp2
            have hz : placeD r X sl l (pre ++ [d]) = (sl.take k).foldl (secC r l d) acc := by rw [HN.out]; unfold dayC; rw [HP.out, HK.out, List.take_length]; rfl
            exact ⟨_, HS2.out, rfl, by rw [hz]; exact HN2.out, by rw [hz]; exact HO2.out⟩
end Go.Proofs.YthilkphnjffnhaaGreat
