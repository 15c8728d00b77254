/- The walks of expand.from and of the function that it makes. -/
import Derived.Test.YthilkphnjffnhaaGreatF1
namespace Go.Proofs.YthilkphnjffnhaaGreat
open Go.RowKit
attribute [local go_sem] Oper.semAt_some
set_option linter.unusedVariables false
set_option linter.unusedSimpArgs false
def filQ (l : Int) (X : List (Int × Int)) : List Int := (X.map Prod.snd).filter fun x => decide (l ≤ x)
theorem filQ_snoc (l : Int) (X : List (Int × Int)) (x : Int × Int) : filQ l (X ++ [x]) = filQ l X ++ (if l ≤ x.2 then [x.2] else []) := by
  unfold filQ
  rw [List.map_append, List.filter_append]
  congr 1
  by_cases h : l ≤ x.2
  · rw [if_pos h]; simp [h]
  · rw [if_neg h]; simp; omega
theorem filQ_prefix {l : Int} {X Y : List (Int × Int)} (h : X <+: Y) : filQ l X <+: filQ l Y := (h.map Prod.snd).filter _

set_option maxRecDepth 100000 in
set_option maxHeartbeats 16000000 in
theorem from_seq (r : Rc) (t to q : Int) (bR bS bT bL : Nat) (w0 w : World) (L : List Int) (hr : r.In w0) (hw0 : Below w0.heap.size w0 w) (hv : validB r = true)
    (ht1 : -62066476800 ≤ t) (ht2 : t < 253402300800) (ho1 : -62135596800 ≤ to) (ho2 : to ≤ 253402300800)
    (c1 : ∀ o, w.cell? ⟨bR, o, none⟩ = r.cells[o]?) (c2 : w.cell? ⟨bS, 0, none⟩ = some (.int .i64 t)) (c4 : w.cell? ⟨bT, 0, none⟩ = some (.int .i64 to)) (c5 : w.cell? ⟨bL, 0, none⟩ = some (.int .i64 q))
    (hL : AllL r t (-62135596800) to L) :
    SeqS Tryz.prog 60 #[.pointer (some ⟨bR, 0, none⟩), .pointer (some ⟨bS, 0, none⟩), .pointer (some ⟨bT, 0, none⟩), .pointer (some ⟨bL, 0, none⟩)] (fun x : Int => #[.int .i64 x]) (filQ q (occL r L)) (fun k => k < w0.heap.size ∨ k = bR ∨ k = bS ∨ k = bT ∨ k = bL) w := by
  intro l J Jx C W hW hC sJ sJx hY h0
  have hk := Rc.Ok.of hv
  have hBW : Below w0.heap.size w0 W := hw0.trans ⟨hW.os, hW.tape, hW.output, hW.size, fun k hk => hW.block k (Nat.lt_of_lt_of_le hk hw0.size) (fun h => h (.inl hk))⟩
  have d1 := hW.cell c2 (fun h => h (.inr (.inr (.inl rfl))))
  have d3 := hW.cell c4 (fun h => h (.inr (.inr (.inr (.inl rfl)))))
  have d5 := hW.cell c5 (fun h => h (.inr (.inr (.inr (.inr rfl)))))
  have cr : ∀ o v, r.cells[o]? = some v → W.cell? ⟨bR, o, none⟩ = some v := fun o v h => hW.cell ((c1 o).trans h) (fun h => h (.inr (.inl rfl)))
  have nL : ¬ C bL := fun h => (hC _ h).1 (.inr (.inr (.inr (.inr rfl))))
  have n0 : ∀ k, C k → w0.heap.size ≤ k := fun k h => by
    have := (hC k h).1
    rcases Nat.lt_or_ge k w0.heap.size with h1 | h1
    · exact absurd (.inl h1) this
    · exact h1
  have fC : ∀ k, C k → k < W.heap.size := fun k h => (hC k h).2
  have HBW := Lib.hid hBW
  have HY := Lib.hid (fun m => hY m)
  have HN0 := Lib.hid n0
  have CRW := Lib.hid cr
  have hwsz := hBW.size
  clear hW hC hw0 hBW c1 c2 c4 c5 cr n0 hY
  have a0 := (CRW.out 0 _ rfl)
  have a1 := (CRW.out 1 _ rfl)
  have a2 := (CRW.out 2 _ rfl)
  have a3 := (CRW.out 3 _ rfl)
  have a4 := (CRW.out 4 _ rfl)
  have a5 := (CRW.out 5 _ rfl)
  have a6 := (CRW.out 6 _ rfl)
  have a7 := (CRW.out 7 _ rfl)
  have a8 := (CRW.out 8 _ rfl)
  have a9 := (CRW.out 9 _ rfl)
  have a10 := (CRW.out 10 _ rfl)
  have a11 := (CRW.out 11 _ rfl)
  have a12 := (CRW.out 12 _ rfl)
  have a13 := (CRW.out 13 _ rfl)
  refine (callsIn_wide (n := 3)).1 ?_
  refine callsIn_of_wp_marks Tryz.func60 rfl trivial ?_ rfl
  simp only [Tryz.ntmps60, List.size_toArray, List.length_cons, List.length_nil, Nat.reduceAdd, Nat.reduceSub, Array.replicate_succ, Array.replicate_zero, List.push_toArray, List.append_toArray, List.nil_append, List.cons_append]
  refine wpIn_wide.2 ?_
  go_wp2_with fail
  refine (occ_make r t to _).mono ?_
  rintro e V0 ⟨b1, b2, b4, rfl, h1, h2, h4, g1, g2, g4, hb⟩
  clear a0 a1 a2 a3 a4 a5 a6 a7 a8 a9 a10 a11 a12 a13
  have hB0 : Below W.heap.size W (W.alloc (.cells #[.func (.yield l) #[] #[]] 61)) := (by repeat (first | (with_reducible exact Below.refl _ _) | (with_reducible assumption) | (with_reducible refine RowKit.Below.ext ?_ ?_ _) | (with_reducible refine Below.alloc ?_ ?_ _) | (with_reducible refine Below.drew ?_) | (with_reducible refine RowKit.Below.drawnN ?_ _) | (with_reducible refine Below.setCell ?_ ?_ _) | (exact (by first | (simp; done) | (simp; omega) | omega))))
  have hBV : Below W.heap.size W V0 := hB0.trans (hb.mono hB0.size)
  have hy0 : Boxed V0 W.heap.size 61 (.func (.yield l) #[] #[]) := (hb.block _ (by simp)).trans (World.alloc_heap_new W _)
  have AS := Lib.hid (occ_seq r t to b1 b2 b4 w0 V0 L hr (HBW.out.trans (hBV.mono hwsz)) hv ht1 ht2 ho1 ho2 h1 h2 h4 hL)
  have q1 := World.block_lt_of_cell? V0 _ ((h1 0).trans (rfl : _ = some (Value.int .i64 r.f)))
  have q2 := World.block_lt_of_cell? V0 _ h2
  have q4 := World.block_lt_of_cell? V0 _ h4
  have q6 := hy0.lt
  simp only [World.size_alloc] at g1 g2 g4
  dsimp only at q1 q2 q4
  have hsV := hBV.size
  have HR1 := Lib.hid (show ∀ k, (k < w0.heap.size ∨ k = b1 ∨ k = b2 ∨ k = b4) → k < V0.heap.size by omega)
  have HC0 := Lib.hid (show ∀ k, C k → ¬ (k < w0.heap.size ∨ k = b1 ∨ k = b2 ∨ k = b4) ∧ k < V0.heap.size by
    intro k hk1
    have e1 := fC k hk1
    have e2 := HN0.out k hk1
    omega)
  have ec := cell_of_below hBV d5
  have HBV := Lib.hid hBV
  have HY0 := Lib.hid hy0
  have HJ0 := Lib.hid (sJ.below h0 fC (Nat.le_refl _) hBV)
  clear hB0 hBV hy0 h1 h2 h4 g1 g2 g4 hb q1 q2 q4 h0 d1 d3 d5
  go_wp2
  refine (wpIn_wide (n := 3)).1 ?_
  refine wp_rangeFunc_sep (gf := 38) (lb := #[.pointer (some ⟨b1, 0, none⟩), .pointer (some ⟨b2, 0, none⟩), .pointer (some ⟨b4, 0, none⟩)]) rfl (enters_of Tryz.func38 (by kernel_rfl) rfl) AS.out HR1.out (fun _ => rfl) C HC0.out
    (fun pre Cx V => J (filQ q pre) Cx V)
    (fun c pre Cx V => c = .ret ∧ ∃ p, p <+: filQ q (occL r L) ∧ Jx p Cx V) ?hI ?hIx HJ0.out ?round ?done ?stop
  case hI =>
    rintro pre Cx A B h2 hf hn hl
    exact sJ _ _ _ _ h2 hf (by omega) (hl.mono (fun k _ hk => ⟨by omega, hk.2⟩))
  case hIx =>
    rintro c pre Cx A B ⟨rfl, p, h1, h2⟩ hf hn hl
    exact ⟨rfl, p, h1, sJx _ _ _ _ h2 hf (by omega) (hl.mono (fun k _ hk => ⟨by omega, hk.2⟩))⟩
  case done =>
    rintro Cx V h2 hst hnd hK
    have hS := Step.drop HBV.out hst (C := C) (C2 := Cx) (fun k hk => .inl hk) (fun k hk => hk)
    have hsW := HBV.out.size
    try dsimp only [Exit.inBlock, Exit.then]
    try gi_wp2
    refine ⟨by simp, .inl ⟨_, _, rfl, run_takeDeferred hK, ?_⟩⟩
    refine ⟨.tuple #[], results_none rfl _ _ _, ⟨_, rfl⟩, Cx, hS.put _ (by omega) hnd, ?_⟩
    exact .inl (sJ.put _ h2 hS.fin hS.lim.size (by omega) hnd)
  case stop =>
    rintro c pre Cx V hpre ⟨rfl, p, h1, h2⟩ hst hnd hK
    have hS := Step.drop HBV.out hst (C := C) (C2 := Cx) (fun k hk => .inl hk) (fun k hk => hk)
    have hsW := HBV.out.size
    try dsimp only [Exit.inBlock, Exit.then]
    try gi_wp2
    refine ⟨by simp, .inl ⟨_, _, rfl, run_takeDeferred hK, ?_⟩⟩
    refine ⟨.tuple #[], results_none rfl _ _ _, ⟨_, rfl⟩, Cx, hS.put _ (by omega) hnd, ?_⟩
    exact .inr ⟨p, h1, sJx.put _ h2 hS.fin hS.lim.size (by omega) hnd⟩
  case round =>
    clear HJ0
    intro lr m pre x hpre
    obtain ⟨xi, x⟩ := x
    apply Exists.intro
    constructor
    · intro V K hK
      gi_wp2
      exact hK
    · rintro Cx V h2 hst
      have hyc := (boxed_lim HY0.out hst.lim (fun c => by have := fC _ c; omega)).cell
      have eL := hst.cell ec nL
      have HST := Lib.hid hst
      have HJ := Lib.hid h2
      have HPS := filQ_snoc q pre (xi, x)
      dsimp only at HPS
      by_cases hz : q ≤ x
      · rw [if_pos hz] at HPS
        have hpp : (filQ q pre ++ [x]) <+: filQ q (occL r L) := by rw [← HPS]; exact filQ_prefix hpre
        have hsz2 : W.heap.size ≤ V.heap.size := by have := hst.lim.size; omega
        obtain ⟨fn, tmps, assign, body, hy, hR⟩ := HY.out 0 _ x Cx V HJ.out hst.fin hsz2 hpp
        have HRR := Lib.hid hR
        have HPP := Lib.hid hpp
        rw [← HPS] at HRR HPP
        clear hpp hR HPS hpre hst h2
        gi_wp2
        refine ⟨(by intro h; cases h), (RoundIn.inRound HRR.out).mono ?_⟩
        rintro e W3 ⟨C3, hs3, (⟨rfl, hJ3⟩ | ⟨rfl, hJx3⟩)⟩
        · have HS3 := Lib.hid hs3
          have HJ3 := Lib.hid hJ3
          clear hs3 hJ3 HRR hy hyc
          gi_wp2
          exact ⟨C3, HS3.out, HJ3.out⟩
        · have HS3 := Lib.hid hs3
          have HJ3 := Lib.hid hJx3
          clear hs3 hJx3 HRR hy hyc
          gi_wp2
          exact ⟨C3, HS3.out, rfl, _, HPP.out, HJ3.out⟩
      · rw [if_neg hz, List.append_nil] at HPS
        have HP2 := Lib.hid HPS
        have hz2 : x < q := by omega
        have HFN := Lib.hid hst.fin
        clear HPS hz hst h2
        gi_wp2
        refine ⟨(by intro f hf; cases hf), ?_⟩
        gi_wp2
        exact ⟨Cx, Step.refl HFN.out, by dsimp only; rw [HP2.out]; exact HJ.out⟩
end Go.Proofs.YthilkphnjffnhaaGreat
/- The walk of expand.Next. -/
namespace Go.Proofs.YthilkphnjffnhaaGreat
open Go.RowKit
attribute [local go_sem] Oper.semAt_some
set_option linter.unusedVariables false
set_option linter.unusedSimpArgs false
/-- the occurrences from a time on -/
def FromL (r : Rc) (t q to : Int) (M : List Int) : Prop := (r.ct = 0 ∧ AllL r t q to M) ∨ (r.ct ≠ 0 ∧ ∃ L, AllL r t (-62135596800) to L ∧ M = filQ q (occL r L))
def RetQ (M : List Int) (w0 w : World) : Ending → World → Prop := fun e w' => ∃ gf lb R, e = .returned (.func (.func gf) #[] lb) ∧ (∀ args w, (callFunc gf args).run Tryz.prog w = .ok (.enter gf args) w) ∧
  SeqS Tryz.prog gf lb (fun x : Int => #[.int .i64 x]) M R w' ∧ (∀ k, R k → k < w'.heap.size) ∧ (∀ k, R k → k < w0.heap.size ∨ w.heap.size ≤ k) ∧ Below w.heap.size w w'
set_option maxHeartbeats 8000000 in
theorem from_any (r : Rc) (t q to : Int) (w0 w : World) (M : List Int) (hr : r.In w0) (hw0 : Below w0.heap.size w0 w) (hv : validB r = true)
    (ht1 : -62066476800 ≤ t) (ht2 : t < 253402300800) (hq1 : -62135596800 ≤ q) (hq2 : q < 253402300800) (ho1 : -62135596800 ≤ to) (ho2 : to ≤ 253402300800) (hM : FromL r t q to M) :
    Calls Tryz.prog 37 #[r.val, .int .i64 t, .int .i64 q, .int .i64 to] w (RetQ M w0 w) := by
  have HR := Lib.hid hr
  have HV := Lib.hid hv
  have HW := Lib.hid hw0
  have hw := hw0.size
  rcases hM with ⟨hc, hM⟩ | ⟨hc, L, hL, hM⟩
  · have g0 : (r.ct == 0) = true := by simp [hc]
    have HM := Lib.hid hM
    clear hc hM hr hv hw0
    go_enter Tryz.func37, Tryz.ntmps37
    go_wp2_with fail
    refine (all_make r t q to _).mono ?_
    rintro e V0 ⟨b1, b2, b3, b4, rfl, h1, h2, h3, h4, g1, g2, g3, g4, hb⟩
    have hB0 : Below w.heap.size w ((((w.alloc (.cells r.cells 25)).alloc (.cells #[.int .i64 t] 3)).alloc (.cells #[.int .i64 q] 3)).alloc (.cells #[.int .i64 to] 3)) := (by repeat (first | (with_reducible exact Below.refl _ _) | (with_reducible assumption) | (with_reducible refine RowKit.Below.ext ?_ ?_ _) | (with_reducible refine Below.alloc ?_ ?_ _) | (with_reducible refine Below.drew ?_) | (with_reducible refine RowKit.Below.drawnN ?_ _) | (with_reducible refine Below.setCell ?_ ?_ _) | (exact (by first | (simp; done) | (simp; omega) | omega))))
    have hBV := hB0.trans (hb.mono hB0.size)
    have SQ := Lib.hid (all_seq r t q to b1 b2 b3 b4 w0 V0 M HR.out (HW.out.trans (hBV.mono hw)) HV.out ht1 ht2 hq1 hq2 ho1 ho2 h1 h2 h3 h4 HM.out)
    have q1 := World.block_lt_of_cell? V0 _ ((h1 0).trans (rfl : _ = some (Value.int .i64 r.f)))
    have q2 := World.block_lt_of_cell? V0 _ h2
    have q3 := World.block_lt_of_cell? V0 _ h3
    have q4 := World.block_lt_of_cell? V0 _ h4
    simp only [World.size_alloc] at g1 g2 g3 g4
    dsimp only at q1 q2 q3 q4
    have hs := hBV.size
    have HBV := Lib.hid hBV
    clear hB0 hBV hb h1 h2 h3 h4
    go_wp2
    go_ret
    exact ⟨61, _, _, rfl, enters_of Tryz.func61 (by kernel_rfl) rfl, SQ.out, by omega, by omega, HBV.out⟩
  · have g0 : (r.ct == 0) = false := by simp [hc]
    have HL := Lib.hid hL
    clear hc hL hr hv hw0
    go_enter Tryz.func37, Tryz.ntmps37
    go_wp2
    go_ret
    have hBV : Below w.heap.size w ((((w.alloc (.cells r.cells 25)).alloc (.cells #[.int .i64 t] 3)).alloc (.cells #[.int .i64 q] 3)).alloc (.cells #[.int .i64 to] 3)) := (by repeat (first | (with_reducible exact Below.refl _ _) | (with_reducible assumption) | (with_reducible refine RowKit.Below.ext ?_ ?_ _) | (with_reducible refine Below.alloc ?_ ?_ _) | (with_reducible refine Below.drew ?_) | (with_reducible refine RowKit.Below.drawnN ?_ _) | (with_reducible refine Below.setCell ?_ ?_ _) | (exact (by first | (simp; done) | (simp; omega) | omega))))
    have h1 : ∀ o, ((((w.alloc (.cells r.cells 25)).alloc (.cells #[.int .i64 t] 3)).alloc (.cells #[.int .i64 q] 3)).alloc (.cells #[.int .i64 to] 3)).cell? ⟨w.heap.size, o, none⟩ = r.cells[o]? := fun o => kept_cells 25 (by repeat (first | (with_reducible exact Below.refl _ _) | (with_reducible assumption) | (with_reducible refine RowKit.Below.ext ?_ ?_ _) | (with_reducible refine Below.alloc ?_ ?_ _) | (with_reducible refine Below.drew ?_) | (with_reducible refine RowKit.Below.drawnN ?_ _) | (with_reducible refine Below.setCell ?_ ?_ _) | (exact (by first | (simp; done) | (simp; omega) | omega)))) rfl o
    have SQ := from_seq r t to q w.heap.size (w.heap.size + 1) (w.heap.size + 1 + 1 + 1) (w.heap.size + 1 + 1) w0 ((((w.alloc (.cells r.cells 25)).alloc (.cells #[.int .i64 t] 3)).alloc (.cells #[.int .i64 q] 3)).alloc (.cells #[.int .i64 to] 3)) L HR.out (HW.out.trans (hBV.mono hw)) HV.out ht1 ht2 ho1 ho2 h1 (by go_simp) (by go_simp) (by go_simp) HL.out
    rw [← hM] at SQ
    exact ⟨60, _, _, rfl, enters_of Tryz.func60 (by kernel_rfl) rfl, SQ, by simp; omega, by omega, hBV⟩
end Go.Proofs.YthilkphnjffnhaaGreat
