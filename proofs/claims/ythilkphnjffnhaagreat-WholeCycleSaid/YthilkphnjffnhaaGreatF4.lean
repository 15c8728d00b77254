/- The walk of expand.Next. -/
import Derived.Test.YthilkphnjffnhaaGreatJT
namespace Go.Proofs.YthilkphnjffnhaaGreat
open Go.RowKit
attribute [local go_sem] Oper.semAt_some
set_option linter.unusedVariables false
set_option linter.unusedSimpArgs false
def nextV (M : List Int) : Int × Int := match M with | [] => (0, 7) | x :: _ => (x, 0)
set_option maxRecDepth 100000 in
set_option maxHeartbeats 16000000 in
theorem next_yes (r : Rc) (t q : Int) (w : World) (M : List Int) (hr : r.In w) (hv : validB r = true) (ht1 : -62066476800 ≤ t) (ht2 : t < 253402300800) (hq1 : -62135596800 ≤ q) (hq2 : q < 253402300800)
    (hM : FromL r t q 253402300800 M) :
    Calls Tryz.prog 14 #[r.val, .int .i64 t, .int .i64 q] w fun e w' => e = .returned (.tuple #[.int .i64 (nextV M).1, .int .i64 (nextV M).2]) ∧ Below w.heap.size w w' := by
  have HR := Lib.hid hr
  have CK := Lib.hid (fun w (h : r.In w) => check_yes r t w h hv ⟨by omega, ht2⟩)
  have CL := Lib.hid (fun w => islocal_yes q w ⟨hq1, hq2⟩)
  have CF := Lib.hid (fun w1 (h : Below w.heap.size w w1) => from_any r t q 253402300800 w w1 M hr h hv ht1 ht2 hq1 hq2 (by omega) (by omega) hM)
  obtain ⟨res, hres⟩ : ∃ res, res = nextV M := ⟨_, rfl⟩
  rw [← hres]
  have HRES := Lib.hid hres
  clear hr hv hM hres
  refine (callsIn_wide (n := 3)).1 ?_
  refine callsIn_of_wp_marks Tryz.func14 rfl trivial ?_ rfl
  simp only [Tryz.ntmps14, List.size_toArray, List.length_cons, List.length_nil, Nat.reduceAdd, Nat.reduceSub, Array.replicate_succ, Array.replicate_zero, List.push_toArray, List.append_toArray, List.nil_append, List.cons_append]
  refine wpIn_wide.2 ?_
  go_wp2_with fail
  refine (CK.out _ (HR.out.below (by repeat (first | (with_reducible exact Below.refl _ _) | (with_reducible assumption) | (with_reducible refine RowKit.Below.ext ?_ ?_ _) | (with_reducible refine Below.alloc ?_ ?_ _) | (with_reducible refine Below.drew ?_) | (with_reducible refine RowKit.Below.drawnN ?_ _) | (with_reducible refine Below.setCell ?_ ?_ _) | (exact (by first | (simp; done) | (simp; omega) | omega)))))).mono ?_
  rintro e w1 ⟨rfl, hb1⟩; obtain ⟨x, rfl⟩ := hb1.toExt; clear hb1
  go_wp2_with fail
  refine (CL.out _).mono ?_
  rintro e w1 ⟨rfl, rfl⟩
  go_wp2_with fail
  refine (CF.out _ (by repeat (first | (with_reducible exact Below.refl _ _) | (with_reducible assumption) | (with_reducible refine RowKit.Below.ext ?_ ?_ _) | (with_reducible refine Below.alloc ?_ ?_ _) | (with_reducible refine Below.drew ?_) | (with_reducible refine RowKit.Below.drawnN ?_ _) | (with_reducible refine Below.setCell ?_ ?_ _) | (exact (by first | (simp; done) | (simp; omega) | omega))))).mono ?_
  rintro e V0 ⟨gf, lb, R, rfl, hent, hseq, hR1, hR2, hb⟩
  have hB0 : Below w.heap.size w ((((w.alloc (.cells r.cells 25)).alloc (.cells #[.int .i64 0] 3)).alloc (.cells #[.int .i64 0] 30)).ext x) := (by repeat (first | (with_reducible exact Below.refl _ _) | (with_reducible assumption) | (with_reducible refine RowKit.Below.ext ?_ ?_ _) | (with_reducible refine Below.alloc ?_ ?_ _) | (with_reducible refine Below.drew ?_) | (with_reducible refine RowKit.Below.drawnN ?_ _) | (with_reducible refine Below.setCell ?_ ?_ _) | (exact (by first | (simp; done) | (simp; omega) | omega))))
  have hBV : Below w.heap.size w V0 := hB0.trans (hb.mono hB0.size)
  have hx6 : Boxed V0 (w.heap.size + 1) 3 (.int .i64 0) := (hb.block _ (by simp)).trans (by
    rw [World.heap_ext _ _ (by simp), Below.heap_alloc _ _ _ (by simp)]
    have := World.alloc_heap_new (w.alloc (.cells r.cells 25)) (.cells #[.int .i64 0] 3)
    rw [World.size_alloc] at this
    exact this)
  have hx7 : Boxed V0 (w.heap.size + 1 + 1) 30 (.int .i64 0) := (hb.block _ (by simp)).trans (by
    rw [World.heap_ext _ _ (by simp)]
    have := World.alloc_heap_new ((w.alloc (.cells r.cells 25)).alloc (.cells #[.int .i64 0] 3)) (.cells #[.int .i64 0] 30)
    rw [World.size_alloc, World.size_alloc] at this
    exact this)
  have hs0 := hB0.size
  have hsV := hBV.size
  have q6 := hx6.lt
  have q7 := hx7.lt
  have HC0 := Lib.hid (show ∀ k, (k = (w.heap.size + 1) ∨ k = (w.heap.size + 1 + 1)) → ¬ R k ∧ k < V0.heap.size by
    rintro k (rfl | rfl)
    · exact ⟨fun c => by have := hR2 _ c; simp at this; omega, by omega⟩
    · exact ⟨fun c => by have := hR2 _ c; simp at this; omega, by omega⟩)
  have HBV := Lib.hid hBV
  have HX6 := Lib.hid hx6
  have HX7 := Lib.hid hx7
  have HSEQ := Lib.hid hseq
  have HENT := Lib.hid hent
  have HR1 := Lib.hid hR1
  clear hB0 hBV hx6 hx7 hseq hent hR1 hR2 hb CK CL CF hs0
  go_wp2
  refine (wpIn_wide (n := 3)).1 ?_
  refine wp_rangeFunc_sep (gf := gf) (lb := lb) rfl HENT.out HSEQ.out HR1.out (fun _ => rfl) (fun k => k = (w.heap.size + 1) ∨ k = (w.heap.size + 1 + 1)) HC0.out
    (fun pre Cx V => pre = [] ∧ Cx = (fun k => k = (w.heap.size + 1) ∨ k = (w.heap.size + 1 + 1)) ∧ Boxed V (w.heap.size + 1) 3 (.int .i64 0) ∧ Boxed V (w.heap.size + 1 + 1) 30 (.int .i64 0))
    (fun c pre Cx V => c = .ret ∧ ∃ x, pre = [x] ∧ Cx = (fun k => k = (w.heap.size + 1) ∨ k = (w.heap.size + 1 + 1)) ∧ Boxed V (w.heap.size + 1) 3 (.int .i64 x) ∧ Boxed V (w.heap.size + 1 + 1) 30 (.int .i64 0)) ?hI ?hIx ⟨rfl, rfl, HX6.out, HX7.out⟩ ?round ?done ?stop
  case hI =>
    rintro pre Cx A B ⟨rfl, rfl, h1, h2⟩ hf hn hl
    exact ⟨rfl, rfl, boxed_lim h1 hl (fun c => c.2 (.inl rfl)), boxed_lim h2 hl (fun c => c.2 (.inr rfl))⟩
  case hIx =>
    rintro c pre Cx A B ⟨rfl, x, rfl, rfl, h1, h2⟩ hf hn hl
    exact ⟨rfl, x, rfl, rfl, boxed_lim h1 hl (fun c => c.2 (.inl rfl)), boxed_lim h2 hl (fun c => c.2 (.inr rfl))⟩
  case done =>
    rintro Cx V ⟨hMn, rfl, h1, h2⟩ hst hnd hK
    have hv : res = (0, 7) := by rw [HRES.out, hMn]; rfl
    have HVV := Lib.hid hv
    clear hv hMn
    have hBE : Below w.heap.size w V := HBV.out.trans (hst.below HBV.out.size (by rintro k (rfl | rfl) <;> omega))
    have HBE := Lib.hid hBE
    have HK := Lib.hid hK
    have l6 := h1.lt
    have l7 := h2.lt
    have H1 := Lib.hid h1
    have H2 := Lib.hid h2
    clear hBE hst hK
    try dsimp only [Exit.inBlock, Exit.then]
    have c6 := h1.cell
    have c7 := h2.cell
    have f6 := h1.frozen
    have f7 := h2.frozen
    clear h1 h2
    go_wp2
    have hb1 : Boxed ((V.setCell ⟨w.heap.size + 1, 0, none⟩ (.int .i64 0)).setCell ⟨w.heap.size + 1 + 1, 0, none⟩ (.int .i64 7)) (w.heap.size + 1) 3 (.int .i64 0) := Boxed.other (Boxed.set _ H1.out) (by omega) _
    have hb2 : Boxed ((V.setCell ⟨w.heap.size + 1, 0, none⟩ (.int .i64 0)).setCell ⟨w.heap.size + 1 + 1, 0, none⟩ (.int .i64 7)) (w.heap.size + 1 + 1) 30 (.int .i64 7) := Boxed.set _ (Boxed.other H2.out (by omega) _)
    have hbl : Below w.heap.size w ((V.setCell ⟨w.heap.size + 1, 0, none⟩ (.int .i64 0)).setCell ⟨w.heap.size + 1 + 1, 0, none⟩ (.int .i64 7)) := Below.setCell (Below.setCell HBE.out (p := ⟨w.heap.size + 1, 0, none⟩) (by simp) _) (p := ⟨w.heap.size + 1 + 1, 0, none⟩) (by simp; omega) _
    have hk1 : ((V.setCell ⟨w.heap.size + 1, 0, none⟩ (.int .i64 0)).setCell ⟨w.heap.size + 1 + 1, 0, none⟩ (.int .i64 7)).heap[V0.heap.size]? = some (.deferred (some [])) :=
      (Below.heap_setCell _ _ _ _ (by simp; omega)).trans ((Below.heap_setCell _ _ _ _ (by simp; omega)).trans HK.out)
    generalize ((V.setCell ⟨w.heap.size + 1, 0, none⟩ (.int .i64 0)).setCell ⟨w.heap.size + 1 + 1, 0, none⟩ (.int .i64 7)) = V2 at hb1 hb2 hbl hk1 ⊢
    have ha1 := (World.putObj_heap_other (o := .deferred none) (show (w.heap.size + 1) ≠ V0.heap.size by omega)).trans hb1
    have ha2 := (World.putObj_heap_other (o := .deferred none) (show (w.heap.size + 1 + 1) ≠ V0.heap.size by omega)).trans hb2
    have c1 := Boxed.cell ha1
    have c2 := Boxed.cell ha2
    refine ⟨by simp, .inl ⟨_, _, rfl, run_takeDeferred hk1, ?_⟩⟩
    refine ⟨.tuple #[.int .i64 0, .int .i64 7], ?_, ?_, ?_⟩
    · simp [results, Tryz.results14, go_sem, c1, c2]
    · rw [HVV.out]
    · exact hbl.grown (grownBy_putObj' V2 V0.heap.size _) hbl.size (fun k e => by cases e; omega)
  case stop =>
    rintro c pre Cx V hpre ⟨rfl, xx, rfl, rfl, h1, h2⟩ hst hnd hK
    have hv : res = (xx, 0) := by
      rw [HRES.out]
      obtain ⟨z, rfl⟩ := hpre
      rfl
    have HVV := Lib.hid hv
    clear hv hpre
    have hBE : Below w.heap.size w V := HBV.out.trans (hst.below HBV.out.size (by rintro k (rfl | rfl) <;> omega))
    have HBE := Lib.hid hBE
    have HK := Lib.hid hK
    have l6 := h1.lt
    have l7 := h2.lt
    have H1 := Lib.hid h1
    have H2 := Lib.hid h2
    clear hBE hst hK
    try dsimp only [Exit.inBlock, Exit.then]
    try gi_wp2
    have hb1 := H1.out
    have hb2 := H2.out
    have hk1 := HK.out
    have ha1 := (World.putObj_heap_other (o := .deferred none) (show (w.heap.size + 1) ≠ V0.heap.size by omega)).trans hb1
    have ha2 := (World.putObj_heap_other (o := .deferred none) (show (w.heap.size + 1 + 1) ≠ V0.heap.size by omega)).trans hb2
    have c1 := Boxed.cell ha1
    have c2 := Boxed.cell ha2
    refine ⟨by simp, .inl ⟨_, _, rfl, run_takeDeferred hk1, ?_⟩⟩
    refine ⟨.tuple #[.int .i64 xx, .int .i64 0], ?_, ?_, ?_⟩
    · simp [results, Tryz.results14, go_sem, c1, c2]
    · rw [HVV.out]
    · exact HBE.out.grown (grownBy_putObj' V V0.heap.size _) HBE.out.size (fun k e => by cases e; omega)
  case round =>
    intro lr m pre xx hpre
    apply Exists.intro
    constructor
    · intro V K hK
      gi_wp2
      exact hK
    · rintro Cx V ⟨rfl, rfl, h1, h2⟩ hst
      have c6 := h1.cell
      have c7 := h2.cell
      have f6 := h1.frozen
      have f7 := h2.frozen
      have HFN := Lib.hid hst.fin
      have H1 := Lib.hid h1
      have H2 := Lib.hid h2
      clear h1 h2 hst
      gi_wp2
      have g1 := Step.set_self HFN.out (w.heap.size + 1) (.int .i64 xx) (.inl rfl)
      have g2 := Step.set_self g1.fin (w.heap.size + 1 + 1) (.int .i64 0) (.inr rfl)
      exact ⟨_, g1.trans g2, rfl, xx, rfl, rfl, Boxed.other (Boxed.set _ H1.out) (by omega) _, Boxed.set _ (Boxed.other H2.out (by omega) _)⟩
end Go.Proofs.YthilkphnjffnhaaGreat
