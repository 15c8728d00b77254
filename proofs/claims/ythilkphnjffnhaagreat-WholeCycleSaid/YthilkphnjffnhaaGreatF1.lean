/- The walk of expand.First. -/
import Derived.Maps.OwnIn
import Derived.Test.YthilkphnjffnhaaGreatO3
namespace Go.Proofs.YthilkphnjffnhaaGreat
open Go.RowKit
attribute [local go_sem] Oper.semAt_some
set_option linter.unusedVariables false
set_option linter.unusedSimpArgs false
theorem pairsW_snd (L : List Int) : (pairsW L).map Prod.snd = L := by
  unfold pairsW
  rw [List.map_map]
  have : (Prod.snd ∘ fun p : Int × Nat => (cntW p.2, p.1)) = Prod.fst := rfl
  rw [this, List.zipIdx_map_fst]
theorem OwnI.lim {S : FP} {B : Nat} {W W' : World} {v : Value} {l : List Int} (h : OwnI B W v l) (hl : Lim S W W') (hn : ∀ k, v.ownBlock = some k → ¬ S k) : OwnI B W' v l := by
  refine ⟨h.1, ?_⟩
  rcases h.2 with hz | ⟨g, cap, cur, rfl, hb, hg, rest⟩
  · exact .inl hz
  · exact .inr ⟨g, cap, cur, rfl, hb, (hl.block g (Array.getElem?_eq_some_iff.1 hg).1 (hn g rfl)).trans hg, rest⟩

theorem Step.append {V w1 : World} {tmp : Obj} {v v' : Value} {bo : Nat} (hbo : bo < V.heap.size) (hv : ∀ k, v'.ownBlock = some k → k < w1.heap.size) (hg : (V.alloc tmp).grownBy w1 v.ownBlock)
    (hat : v'.ownBlock = v.ownBlock ∨ v'.ownBlock = some (V.alloc tmp).heap.size) : Step (fun k => k = bo ∨ v.ownBlock = some k) (fun k => k = bo ∨ v'.ownBlock = some k) V (w1.setCell ⟨bo, 0, none⟩ v') := by
  have hs := grownBy_setCell' w1 bo v'
  have hz := hg.size
  simp only [World.size_alloc] at hz
  refine ⟨⟨hg.os, hg.tape, hg.output, Nat.le_trans (by omega) hs.size, fun k hk hn => ?_⟩, fun k hk => ?_, fun k hk hl => ?_⟩
  · rw [hs.block k (by omega) (fun e => hn (.inl (by cases e; rfl))), hg.block k (by simp; omega) (fun e => hn (.inr e.symm))]
    exact Below.heap_alloc V tmp k hk
  · refine Nat.lt_of_lt_of_le ?_ hs.size
    rcases hk with rfl | hk
    · omega
    · exact hv k hk
  · rcases hk with rfl | hk
    · exact .inl rfl
    · rcases hat with e | e
      · exact .inr (e ▸ hk)
      · rw [e] at hk; cases hk; simp at hl; omega
theorem SlI.In.lim {S : FP} {s : SlI} {W W' : World} (h : s.In W) (hl : Lim S W W') (hn : ∀ a, s.A = some a → ¬ S a.block) : s.In W' := by
  obtain ⟨h1, h2, h3⟩ := h
  refine ⟨h1, h2, fun hne => ?_⟩
  obtain ⟨b, off, e, hc⟩ := h3 hne
  exact ⟨b, off, e, fun i hi => hl.cell (hc i hi) (fun c => hn _ e c)⟩
theorem OwnI.slice2 {B : Nat} {W : World} {v : Value} {l : List Int} {q : Nat} (h : OwnI B W v l) (hq : l.length = q) : ∃ a c, v = .slice a q c := by
  subst hq
  unfold OwnI at h
  rcases h.2 with ⟨rfl, h0⟩ | ⟨g, cap, cur, rfl, _⟩
  · exact ⟨none, 0, by rw [h0]⟩
  · exact ⟨_, _, rfl⟩
set_option maxRecDepth 100000 in
set_option maxHeartbeats 16000000 in
theorem first_yes (r : Rc) (t : Int) (N : Nat) (w : World) (L : List Int) (hr : r.In w) (hv : validB r = true) (ht1 : -62066476800 ≤ t) (ht2 : t < 253402300800) (hn1 : 1 ≤ N) (hn2 : N ≤ 1000)
    (hL : AllL r t (-62135596800) 253402300800 L) :
    Calls Tryz.prog 4 #[r.val, .int .i64 t, .int .i64 N] w (RetT ((takeC r L).take N) w) := by
  have HR := Lib.hid hr
  have HV := Lib.hid hv
  have CK := Lib.hid (fun w (h : r.In w) => check_yes r t w h hv ⟨by omega, ht2⟩)
  have HL := Lib.hid hL
  obtain ⟨i0, hi, hz0, hz1, hz2⟩ := info_parts info3
  have m1 : ¬ (N : Int) < 0 := by omega
  have m2 : ¬ 1000 < (N : Int) := by omega
  have m3 : ((N : Int) == 0) = false := by simp; omega
  clear hr hv hL
  refine (callsIn_wide (n := 3)).1 ?_
  refine callsIn_of_wp_marks Tryz.func4 rfl trivial ?_ rfl
  simp only [Tryz.ntmps4, List.size_toArray, List.length_cons, List.length_nil, Nat.reduceAdd, Nat.reduceSub, Array.replicate_succ, Array.replicate_zero, List.push_toArray, List.append_toArray, List.nil_append, List.cons_append]
  refine wpIn_wide.2 ?_
  go_wp2_with fail
  refine (CK.out _ (HR.out.below (by repeat (first | (with_reducible exact Below.refl _ _) | (with_reducible assumption) | (with_reducible refine RowKit.Below.ext ?_ ?_ _) | (with_reducible refine Below.alloc ?_ ?_ _) | (with_reducible refine Below.drew ?_) | (with_reducible refine RowKit.Below.drawnN ?_ _) | (with_reducible refine Below.setCell ?_ ?_ _) | (exact (by first | (simp; done) | (simp; omega) | omega)))))).mono ?_
  rintro e w1 ⟨rfl, hb1⟩; obtain ⟨x, rfl⟩ := hb1.toExt; clear hb1
  go_wp2_with fail
  refine (occ_make r t 253402300800 _).mono ?_
  obtain ⟨bo, hbo⟩ : ∃ bo, bo = w.heap.size + 1 + 1 + x.k := ⟨_, rfl⟩
  rw [← hbo]
  rintro e V0 ⟨b1, b2, b4, rfl, h1, h2, h4, g1, g2, g4, hb⟩
  have hB0 : Below w.heap.size w ((((w.alloc (.cells r.cells 25)).alloc (.cells #[.int .i64 N] 3)).ext x).alloc (.cells #[.slice none 0 0] 22)) := (by repeat (first | (with_reducible exact Below.refl _ _) | (with_reducible assumption) | (with_reducible refine RowKit.Below.ext ?_ ?_ _) | (with_reducible refine Below.alloc ?_ ?_ _) | (with_reducible refine Below.drew ?_) | (with_reducible refine RowKit.Below.drawnN ?_ _) | (with_reducible refine Below.setCell ?_ ?_ _) | (exact (by first | (simp; done) | (simp; omega) | omega))))
  have hBV : Below w.heap.size w V0 := hB0.trans (hb.mono hB0.size)
  have hx0 : Boxed V0 bo 22 (.slice none 0 0) := (hb.block _ (by simp; omega)).trans (by have := World.alloc_heap_new (((w.alloc (.cells r.cells 25)).alloc (.cells #[.int .i64 N] 3)).ext x) (.cells #[.slice none 0 0] 22); rw [show (((w.alloc (.cells r.cells 25)).alloc (.cells #[.int .i64 N] 3)).ext x).heap.size = bo by simp; omega] at this; exact this)
  have hn0 : V0.cell? ⟨w.heap.size + 1, 0, none⟩ = some (.int .i64 N) := cell_of_below hb (by go_simp)
  have SQ := Lib.hid (occ_seq r t 253402300800 b1 b2 b4 w V0 L HR.out hBV HV.out ht1 ht2 (by omega) (by omega) h1 h2 h4 HL.out)
  have q1 := World.block_lt_of_cell? V0 _ ((h1 0).trans (rfl : _ = some (Value.int .i64 r.f)))
  have q2 := World.block_lt_of_cell? V0 _ h2
  have q4 := World.block_lt_of_cell? V0 _ h4
  have q5 := hx0.lt
  simp only [World.size_alloc, World.size_ext] at g1 g2 g4
  dsimp only at q1 q2 q4
  have hsV := hBV.size
  have HR1 := Lib.hid (show ∀ k, (k < w.heap.size ∨ k = b1 ∨ k = b2 ∨ k = b4) → k < V0.heap.size by omega)
  have HC0 := Lib.hid (show ∀ k, (k = bo ∨ (Value.slice none 0 0).ownBlock = some k) → ¬ (k < w.heap.size ∨ k = b1 ∨ k = b2 ∨ k = b4) ∧ k < V0.heap.size by
    rintro k (rfl | hk)
    · omega
    · cases hk)
  have HBV := Lib.hid hBV
  have HX0 := Lib.hid hx0
  have HN0 := Lib.hid hn0
  have hbo2 : w.heap.size + 1 + 1 ≤ bo := by omega
  clear hB0 hBV hx0 hn0 h1 h2 h4 g1 g2 g4 hb q1 q2 q4 hbo HL HV CK
  go_wp2
  refine (wpIn_wide (n := 3)).1 ?_
  refine wp_rangeFunc_sep (gf := 38) (lb := #[.pointer (some ⟨b1, 0, none⟩), .pointer (some ⟨b2, 0, none⟩), .pointer (some ⟨b4, 0, none⟩)]) rfl (enters_of Tryz.func38 (by kernel_rfl) rfl) SQ.out HR1.out (fun _ => rfl) (fun k => k = bo ∨ (Value.slice none 0 0).ownBlock = some k) HC0.out
    (fun pre Cx V => ∃ v : Value, Cx = (fun k => k = bo ∨ v.ownBlock = some k) ∧ Boxed V bo 22 v ∧ OwnI V0.heap.size V v (pre.map Prod.snd) ∧ pre.length < N)
    (fun c pre Cx V => c = .exit 0 ∧ ∃ v : Value, Cx = (fun k => k = bo ∨ v.ownBlock = some k) ∧ Boxed V bo 22 v ∧ OwnI V0.heap.size V v (pre.map Prod.snd) ∧ pre.length = N) ?hI ?hIx ⟨.slice none 0 0, rfl, HX0.out, OwnI.nil _ _, by simp; omega⟩ ?round ?done ?stop
  case hI =>
    rintro pre Cx A B ⟨v, rfl, h1, h2, h3⟩ hf hn hl
    exact ⟨v, rfl, boxed_lim h1 hl (fun c => c.2 (.inl rfl)), h2.lim hl (fun k hk c => c.2 (.inr hk)), h3⟩
  case hIx =>
    rintro c pre Cx A B ⟨rfl, v, rfl, h1, h2, h3⟩ hf hn hl
    exact ⟨rfl, v, rfl, boxed_lim h1 hl (fun c => c.2 (.inl rfl)), h2.lim hl (fun k hk c => c.2 (.inr hk)), h3⟩
  case done =>
    rintro Cx V ⟨v, rfl, h1, h2, h3⟩ hst hnd hK
    have hlist : (occL r L).map Prod.snd = (takeC r L).take N := by
      unfold occL at h3 ⊢
      have hl3 : (takeC r L).length < N := by have := congrArg List.length (pairsW_snd (takeC r L)); simp at this; omega
      rw [pairsW_snd, List.take_of_length_le (by omega)]
    rw [hlist] at h2
    have hlen : ((takeC r L).take N).length ≤ 1000 := by rw [List.length_take]; omega
    have hBE : Below w.heap.size w V := HBV.out.trans (hst.below HBV.out.size (by
      rintro k (rfl | hk)
      · omega
      · cases hk))
    have hcc := h1.cell
    obtain ⟨so, rfl, e1, e2⟩ := SlI.of_own h2 (by omega)
    have hin := SlI.In.lim e2 (Lim.put (S := fun k => k = V0.heap.size) (.deferred none) rfl) (fun a ha c => hnd (.inr (by dsimp only [SlI.v]; rw [ha, ← c]; rfl)))
    have HIN := Lib.hid hin
    have HBE := Lib.hid hBE
    have HE1 := Lib.hid e1
    clear hin hBE hlist h2 e2 hst e1 SQ HR1 HC0 HN0 HX0
    obtain ⟨sA, sc, sl⟩ := so
    dsimp only [SlI.v] at hcc
    try dsimp only [Exit.inBlock, Exit.then]
    try go_wp2
    refine ⟨by simp, .inl ⟨_, _, rfl, run_takeDeferred hK, ?_⟩⟩
    refine ⟨.tuple #[.slice sA sl.length sc, .int .i64 0], by simp [results, Tryz.results4, go_sem], ⟨sA, sc, sl⟩, rfl, HE1.out, HIN.out, ?_⟩
    exact HBE.out.grown (grownBy_putObj' V V0.heap.size _) HBE.out.size (fun k e => by cases e; omega)
  case stop =>
    rintro c pre Cx V hpre ⟨rfl, v, rfl, h1, h2, h3⟩ hst hnd hK
    have hlist : pre.map Prod.snd = (takeC r L).take N := by
      obtain ⟨z, hz⟩ := hpre
      unfold occL at hz
      have e1 := congrArg (fun l => (l.map Prod.snd).take N) hz
      rw [pairsW_snd, List.map_append, List.take_append_of_le_length (by simp; omega), List.take_of_length_le (by simp; omega)] at e1
      exact e1
    rw [hlist] at h2
    have hlen : ((takeC r L).take N).length ≤ 1000 := by rw [List.length_take]; omega
    gi_wp2
    have hBE : Below w.heap.size w V := HBV.out.trans (hst.below HBV.out.size (by
      rintro k (rfl | hk)
      · omega
      · cases hk))
    have hcc := h1.cell
    obtain ⟨so, rfl, e1, e2⟩ := SlI.of_own h2 (by omega)
    have hin := SlI.In.lim e2 (Lim.put (S := fun k => k = V0.heap.size) (.deferred none) rfl) (fun a ha c => hnd (.inr (by dsimp only [SlI.v]; rw [ha, ← c]; rfl)))
    have HIN := Lib.hid hin
    have HBE := Lib.hid hBE
    have HE1 := Lib.hid e1
    clear hin hBE hlist h2 e2 hst e1 SQ HR1 HC0 HN0 HX0
    obtain ⟨sA, sc, sl⟩ := so
    dsimp only [SlI.v] at hcc
    try dsimp only [Exit.inBlock, Exit.then]
    try go_wp2
    refine ⟨by simp, .inl ⟨_, _, rfl, run_takeDeferred hK, ?_⟩⟩
    refine ⟨.tuple #[.slice sA sl.length sc, .int .i64 0], by simp [results, Tryz.results4, go_sem], ⟨sA, sc, sl⟩, rfl, HE1.out, HIN.out, ?_⟩
    exact HBE.out.grown (grownBy_putObj' V V0.heap.size _) HBE.out.size (fun k e => by cases e; omega)
  case round =>
    intro lr m pre x hpre
    obtain ⟨xi, xl⟩ := x
    apply Exists.intro
    constructor
    · intro V K hK
      gi_wp2
      exact hK
    · rintro Cx V ⟨v, rfl, h1, h2, h3⟩ hst
      have ecn := hst.cell HN0.out (fun c => by rcases c with c | c; (dsimp only at c; omega); cases c)
      have hcc := h1.cell
      have own0 := h2
      unfold OwnI at own0
      have hbs := hst.lim.size
      rw [List.length_map] at own0
      have OWN := Lib.hid own0
      have H1 := Lib.hid h1
      have HST := Lib.hid hst
      have H2 := Lib.hid h2
      clear own0 h1 h2 hst
      gi_wp2_with (gi_at_builtin; refine wpListIn_append_own_at _ rfl _ _ 22 rfl V0.heap.size 3 i0 (.int .i64 0) 1 8 Tryz.underlying22 hi hz0 hz1 hz2 rfl (by decide) _ _ _ rfl (OWN.out.alloc _) ⟨V.heap.size, 0, none⟩ 1 1 [.int .i64 xl] rfl rfl ?c1 ?c2 ?c3 ?c4 ?c5 ?_)
      case c1 =>
        intro j u hj
        match j, hj with
        | 0, hj => simp at hj; subst hj; simp [Addr.add]
      case c2 => intro u hu; simp at hu; subst hu; rfl
      case c3 => unfold maxLen; omega
      case c4 => omega
      case c5 => simp; omega
      intro v' w1 hown' hgrow _ hat
      have hlt' : ∀ k, v'.ownBlock = some k → k < w1.heap.size := fun k hk => (World.ownsRow.lt hown' k hk).2
      have hST := Step.append H1.out.lt hlt' hgrow (by rw [World.size_alloc]; exact hat)
      have hO2 : OwnI V0.heap.size w1 v' ((pre ++ [(xi, xl)]).map Prod.snd) := by
        rw [List.map_append]
        exact OwnI.snoc (l := pre.map Prod.snd) (x := xl) (by rw [List.length_map, List.map_map]; exact hown')
      have hne : some bo ≠ v.ownBlock := fun e => by have := row_lt H2.out bo e.symm; omega
      have hb1 : Boxed w1 bo 22 v := (hgrow.block bo (by have := H1.out.lt; simp; omega) hne).trans ((Below.heap_alloc V _ bo H1.out.lt).trans H1.out)
      have hne' : v'.ownBlock ≠ some bo := fun e => by have := row_lt hO2 bo e; omega
      obtain ⟨q, hq⟩ : ∃ q, q = pre.length + 1 := ⟨_, rfl⟩
      obtain ⟨sa, sc, rfl⟩ := hO2.slice2 (q := q) (by simp [hq])
      have hO3 : OwnI V0.heap.size (w1.setCell ⟨bo, 0, none⟩ (.slice sa q sc)) (.slice sa q sc) ((pre ++ [(xi, xl)]).map Prod.snd) := World.ownsRow.kept hO2 (grownBy_setCell' w1 bo _) (.inr hne')
      have hb3 : Boxed (w1.setCell ⟨bo, 0, none⟩ (.slice sa q sc)) bo 22 (.slice sa q sc) := Boxed.set _ hb1
      have hc2 := hb1.cell
      have hf2 := hb1.frozen
      have ecn1 : w1.cell? ⟨w.heap.size + 1, 0, none⟩ = some (.int .i64 N) := hgrow.cell (cell_of_below (RowKit.Below.refl _ _ |>.alloc (Nat.le_refl _) _) ecn) (fun e => by have := row_lt H2.out _ e.symm; dsimp only at this; omega)
      have HS3 := Lib.hid hST
      have HO3 := Lib.hid hO3
      have HB3 := Lib.hid hb3
      have hlen2 : (pre ++ [(xi, xl)]).length = q := by simp [hq]
      have HLEN := Lib.hid hlen2
      clear hlt' hST hO2 hne hb1 hne' hO3 hb3 hown' hgrow hat OWN HST H2 hcc ecn hlen2
      by_cases hqN : q = N
      · have g1 : ((q : Int) == (N : Int)) = true := by simp [hqN]
        have HQ := Lib.hid hqN
        clear hqN hq
        gi_wp2
        exact ⟨_, HS3.out, rfl, _, rfl, HB3.out, HO3.out, HLEN.out.trans HQ.out⟩
      · have g1 : ((q : Int) == (N : Int)) = false := by simp; omega
        have HQ := Lib.hid (show q < N by omega)
        clear hqN hq
        gi_wp2
        exact ⟨_, HS3.out, _, rfl, HB3.out, HO3.out, by rw [HLEN.out]; exact HQ.out⟩
end Go.Proofs.YthilkphnjffnhaaGreat
