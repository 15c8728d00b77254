/- The walk of the iterator of the numbered occurrences. -/
import Derived.Test.YthilkphnjffnhaaGreatO2
namespace Go.Proofs.YthilkphnjffnhaaGreat
open Go.RowKit
attribute [local go_sem] Oper.semAt_some
set_option linter.unusedVariables false
set_option linter.unusedSimpArgs false
theorem Lim.set {S : FP} {W : World} {b : Nat} (hs : S b) (v : Value) : Lim S W (W.setCell ⟨b, 0, none⟩ v) := by
  have hg := grownBy_setCell' W b v
  exact ⟨rfl, rfl, rfl, hg.size, fun k hk hn => hg.block k hk (fun e => hn (by cases e; exact hs))⟩
--SEQ
set_option maxRecDepth 100000 in
set_option maxHeartbeats 16000000 in
theorem occ_seq (r : Rc) (t to : Int) (bR bS bT : Nat) (w0 w : World) (L : List Int) (hr : r.In w0) (hw0 : Below w0.heap.size w0 w) (hv : validB r = true)
    (ht1 : -62066476800 ≤ t) (ht2 : t < 253402300800) (ho1 : -62135596800 ≤ to) (ho2 : to ≤ 253402300800)
    (c1 : ∀ o, w.cell? ⟨bR, o, none⟩ = r.cells[o]?) (c2 : w.cell? ⟨bS, 0, none⟩ = some (.int .i64 t)) (c4 : w.cell? ⟨bT, 0, none⟩ = some (.int .i64 to))
    (hL : AllL r t (-62135596800) to L) :
    SeqS Tryz.prog 38 #[.pointer (some ⟨bR, 0, none⟩), .pointer (some ⟨bS, 0, none⟩), .pointer (some ⟨bT, 0, none⟩)] (fun x : Int × Int => #[.int .i64 x.1, .int .i64 x.2]) (occL r L) (fun k => k < w0.heap.size ∨ k = bR ∨ k = bS ∨ k = bT) w := by
  intro l J Jx C W hW hC sJ sJx hY h0
  have hk := Rc.Ok.of hv
  have hBW : Below w0.heap.size w0 W := hw0.trans ⟨hW.os, hW.tape, hW.output, hW.size, fun k hk => hW.block k (Nat.lt_of_lt_of_le hk hw0.size) (fun h => h (.inl hk))⟩
  have d1 := hW.cell c2 (fun h => h (.inr (.inr (.inl rfl))))
  have d3 := hW.cell c4 (fun h => h (.inr (.inr (.inr rfl))))
  have cr : ∀ o v, r.cells[o]? = some v → W.cell? ⟨bR, o, none⟩ = some v := fun o v h => hW.cell ((c1 o).trans h) (fun h => h (.inr (.inl rfl)))
  have nR : ¬ C bR := fun h => (hC _ h).1 (.inr (.inl rfl))
  have n0 : ∀ k, C k → w0.heap.size ≤ k := fun k h => by
    have := (hC k h).1
    rcases Nat.lt_or_ge k w0.heap.size with h1 | h1
    · exact absurd (.inl h1) this
    · exact h1
  have fC : ∀ k, C k → k < W.heap.size := fun k h => (hC k h).2
  have HBW := Lib.hid hBW
  have HY := Lib.hid (fun m => hY m)
  have HN0 := Lib.hid n0
  have CRW := Lib.hid cr
  have hwsz := hBW.size
  clear hW hC hw0 hBW c1 c2 c4 cr n0 hY
  have a0 := (CRW.out 0 _ rfl)
  have a1 := (CRW.out 1 _ rfl)
  have a2 := (CRW.out 2 _ rfl)
  have a3 := (CRW.out 3 _ rfl)
  have a4 := (CRW.out 4 _ rfl)
  have a5 := (CRW.out 5 _ rfl)
  have a6 := (CRW.out 6 _ rfl)
  have a7 := (CRW.out 7 _ rfl)
  have a8 := (CRW.out 8 _ rfl)
  have a9 := (CRW.out 9 _ rfl)
  have a10 := (CRW.out 10 _ rfl)
  have a11 := (CRW.out 11 _ rfl)
  have a12 := (CRW.out 12 _ rfl)
  have a13 := (CRW.out 13 _ rfl)
  refine (callsIn_wide (n := 3)).1 ?_
  refine callsIn_of_wp_marks Tryz.func38 rfl trivial ?_ rfl
  simp only [Tryz.ntmps38, List.size_toArray, List.length_cons, List.length_nil, Nat.reduceAdd, Nat.reduceSub, Array.replicate_succ, Array.replicate_zero, List.push_toArray, List.append_toArray, List.nil_append, List.cons_append]
  refine wpIn_wide.2 ?_
  go_wp2_with fail
  refine (all_make r t (-62135596800) to _).mono ?_
  rintro e V0 ⟨b1, b2, b3, b4, rfl, h1, h2, h3, h4, g1, g2, g3, g4, hb⟩
  clear a0 a1 a3 a4 a5 a6 a7 a8 a9 a10 a11 a12 a13
  have hB0 : Below W.heap.size W ((W.alloc (.cells #[.func (.yield l) #[] #[]] 78)).alloc (.cells #[.int .i64 0] 3)) := (by repeat (first | (with_reducible exact Below.refl _ _) | (with_reducible assumption) | (with_reducible refine RowKit.Below.ext ?_ ?_ _) | (with_reducible refine Below.alloc ?_ ?_ _) | (with_reducible refine Below.drew ?_) | (with_reducible refine RowKit.Below.drawnN ?_ _) | (with_reducible refine Below.setCell ?_ ?_ _) | (exact (by first | (simp; done) | (simp; omega) | omega))))
  have hBV : Below W.heap.size W V0 := hB0.trans (hb.mono hB0.size)
  have hy0 : Boxed V0 W.heap.size 78 (.func (.yield l) #[] #[]) := (hb.block _ (by simp; omega)).trans ((Below.heap_alloc _ _ _ (by simp)).trans (World.alloc_heap_new W _))
  have hc0 : Boxed V0 (W.heap.size + 1) 3 (.int .i64 0) := (hb.block _ (by simp)).trans (by have := World.alloc_heap_new (W.alloc (.cells #[.func (.yield l) #[] #[]] 78)) (.cells #[.int .i64 0] 3); rwa [World.size_alloc] at this)
  have AS := Lib.hid (all_seq r t (-62135596800) to b1 b2 b3 b4 w0 V0 L hr (HBW.out.trans (hBV.mono hwsz)) hv ht1 ht2 (by omega) (by omega) ho1 ho2 h1 h2 h3 h4 hL)
  have q1 := World.block_lt_of_cell? V0 _ ((h1 0).trans (rfl : _ = some (Value.int .i64 r.f)))
  have q2 := World.block_lt_of_cell? V0 _ h2
  have q3 := World.block_lt_of_cell? V0 _ h3
  have q4 := World.block_lt_of_cell? V0 _ h4
  have q5 := hc0.lt
  have q6 := hy0.lt
  simp only [World.size_alloc] at g1 g2 g3 g4
  dsimp only at q1 q2 q3 q4
  have hsV := hBV.size
  have HR1 := Lib.hid (show ∀ k, (k < w0.heap.size ∨ k = b1 ∨ k = b2 ∨ k = b3 ∨ k = b4) → k < V0.heap.size by omega)
  have HC0 := Lib.hid (show ∀ k, (C k ∨ k = W.heap.size + 1) → ¬ (k < w0.heap.size ∨ k = b1 ∨ k = b2 ∨ k = b3 ∨ k = b4) ∧ k < V0.heap.size by
    rintro k (hk1 | rfl)
    · have e1 := fC k hk1
      have e2 := HN0.out k hk1
      omega
    · omega)
  have ec := cell_of_below hBV a2
  have hlR := World.block_lt_of_cell? W _ a2
  dsimp only at hlR
  have HBV := Lib.hid hBV
  have HY0 := Lib.hid hy0
  have HJ0 := Lib.hid (sJ.below h0 fC (Nat.le_refl _) hBV)
  have HCB := Lib.hid hc0
  have nC : ¬ C (W.heap.size + 1) := fun h => by have := fC _ h; omega
  clear hB0 hBV hy0 hc0 h1 h2 h3 h4 g1 g2 g3 g4 hb q1 q2 q3 q4 h0
  go_wp2
  refine (wpIn_wide (n := 3)).1 ?_
  refine wp_rangeFunc_sep (gf := 61) (lb := #[.pointer (some ⟨b1, 0, none⟩), .pointer (some ⟨b2, 0, none⟩), .pointer (some ⟨b3, 0, none⟩), .pointer (some ⟨b4, 0, none⟩)]) rfl (enters_of Tryz.func61 (by kernel_rfl) rfl) AS.out HR1.out (fun _ => rfl) (fun k => C k ∨ k = W.heap.size + 1) HC0.out
    (fun pre Cx V => ∃ C2 : FP, Cx = (fun k => C2 k ∨ k = W.heap.size + 1) ∧ ¬ C2 (W.heap.size + 1) ∧ J (pairsW pre) C2 V ∧ Boxed V (W.heap.size + 1) 3 (.int .i64 (cntW pre.length)) ∧ (0 < r.ct → (pre.length : Int) ≤ r.ct))
    (fun c pre Cx V => c = .ret ∧ ∃ C2 : FP, Cx = (fun k => C2 k ∨ k = W.heap.size + 1) ∧ (J (occL r L) C2 V ∨ ∃ p, p <+: occL r L ∧ Jx p C2 V)) ?hI ?hIx ⟨C, rfl, nC, HJ0.out, HCB.out, fun _ => by have := hk.c0; simpa using this⟩ ?round ?done ?stop
  case hI =>
    rintro pre Cx A B ⟨C2, rfl, h1, h2, h3, h4⟩ hf hn hl
    exact ⟨C2, rfl, h1, sJ _ _ _ _ h2 (fun k hk => hf k (.inl hk)) (by omega) (hl.mono (fun k _ hk => ⟨by omega, fun c => hk.2 (.inl c)⟩)), boxed_lim h3 hl (fun c => c.2 (.inr rfl)), h4⟩
  case hIx =>
    rintro c pre Cx A B ⟨rfl, C2, rfl, h1⟩ hf hn hl
    have hl2 : Lim (fun k => W.heap.size ≤ k ∧ ¬ C2 k) A B := hl.mono (fun k _ hk => ⟨by omega, fun c => hk.2 (.inl c)⟩)
    refine ⟨rfl, C2, rfl, ?_⟩
    rcases h1 with h1 | ⟨p, h1, h2⟩
    · exact .inl (sJ _ _ _ _ h1 (fun k hk => hf k (.inl hk)) (by omega) hl2)
    · exact .inr ⟨p, h1, sJx _ _ _ _ h2 (fun k hk => hf k (.inl hk)) (by omega) hl2⟩
  case done =>
    rintro Cx V ⟨C2, rfl, h1, h2, h3, h4⟩ hst hnd hK
    have hS := Step.drop HBV.out hst (C := C) (C2 := C2) (fun k hk => by rcases hk with a | rfl; exact .inl a; exact .inr (by omega)) (fun k hk => .inl hk)
    have hocc : occL r L = pairsW L := by unfold occL; rw [takeC_all h4]
    rw [← hocc] at h2
    clear hocc
    have hsW := HBV.out.size
    dsimp only [Exit.inBlock, Exit.then]
    try gi_wp2
    refine ⟨by simp, .inl ⟨_, _, rfl, run_takeDeferred hK, ?_⟩⟩
    refine ⟨.tuple #[], results_none rfl _ _ _, ⟨_, rfl⟩, C2, hS.put _ (by omega) (fun c => hnd (.inl c)), ?_⟩
    exact .inl (sJ.put _ h2 hS.fin hS.lim.size (by omega) (fun c => hnd (.inl c)))
  case stop =>
    rintro c pre Cx V hpre ⟨rfl, C2, rfl, h1⟩ hst hnd hK
    have hS := Step.drop HBV.out hst (C := C) (C2 := C2) (fun k hk => by rcases hk with a | rfl; exact .inl a; exact .inr (by omega)) (fun k hk => .inl hk)
    have hsW := HBV.out.size
    dsimp only [Exit.inBlock, Exit.then]
    try gi_wp2
    refine ⟨by simp, .inl ⟨_, _, rfl, run_takeDeferred hK, ?_⟩⟩
    refine ⟨.tuple #[], results_none rfl _ _ _, ⟨_, rfl⟩, C2, hS.put _ (by omega) (fun c => hnd (.inl c)), ?_⟩
    rcases h1 with h1 | ⟨p, h1, h2⟩
    · exact .inl (sJ.put _ h1 hS.fin hS.lim.size (by omega) (fun c => hnd (.inl c)))
    · exact .inr ⟨p, h1, sJx.put _ h2 hS.fin hS.lim.size (by omega) (fun c => hnd (.inl c))⟩
  case round =>
    clear HJ0 HCB
    intro lr m pre x hpre
    apply Exists.intro
    constructor
    · intro V K hK
      gi_wp2
      exact hK
    · rintro Cx V ⟨C2, rfl, h1, h2, h3, h4⟩ hst
      have hyc := (boxed_lim HY0.out hst.lim (fun c => by rcases c with c | c; have := fC _ c; omega; omega)).cell
      have ect := hst.cell ec (fun c => by rcases c with c | c; exact nR c; (dsimp only at c; omega))
      have hcc := h3.cell
      have HST := Lib.hid hst
      have HJ := Lib.hid h2
      have H3 := Lib.hid h3
      have HN := Lib.hid h1
      have HPS := pairsW_snoc pre x
      have hcs := cntW_small pre.length
      by_cases hz : 0 < r.ct
      · have hle := h4 hz
        have hc1 := hk.c1
        have hcs2 := hcs (by omega)
        by_cases hz2 : (pre.length : Int) < r.ct
        · have hp2 := takeC_prefix hpre (fun _ => hz2)
          have hcc2 : cntW pre.length < r.ct := by omega
          have hlt4 : 0 < r.ct → ((pre ++ [x]).length : Int) ≤ r.ct := fun _ => by simp; omega
          clear hcs hcs2 hle hz2 h4
          have hpp : (pairsW pre ++ [(cntW pre.length, x)]) <+: occL r L := by rw [← HPS]; exact pairsW_prefix hp2
          have hb5 := H3.out.lt
          have hsz2 : W.heap.size ≤ V.heap.size := by omega
          obtain ⟨fn, tmps, assign, body, hy, hR⟩ := HY.out 0 _ (cntW pre.length, x) C2 V HJ.out (fun k hk => hst.fin k (.inl hk)) hsz2 hpp
          have HRR := Lib.hid hR
          have HPP := Lib.hid hpp
          have HCN := Lib.hid (show cntW (pre ++ [x]).length = wrap64 (cntW pre.length + 1) by rw [List.length_append]; rfl)
          rw [← HPS] at HRR HPP
          clear hpp hR hp2 HPS hpre
          generalize cntW pre.length = cnt at *
          gi_wp2
          refine ⟨(by intro h; cases h), (RoundIn.inRound HRR.out).mono ?_⟩
          rintro e W3 ⟨C3, hs3, (⟨rfl, hJ3⟩ | ⟨rfl, hJx3⟩)⟩
          · have hb3 := boxed_lim H3.out hs3.lim HN.out
            have hn3 : ¬ C3 (W.heap.size + 1) := fun h => HN.out (hs3.old _ h hb5)
            have HS3 := Lib.hid hs3
            have HJ3 := Lib.hid hJ3
            have HB3 := Lib.hid hb3
            have c3 := hb3.cell
            have f3 := hb3.frozen
            clear hs3 hJ3 hb3 HRR hy hcc hyc
            gi_wp2
            have hs4 := (HS3.out.wide hb5)
            refine ⟨fun k => C3 k ∨ k = W.heap.size + 1, hs4.trans (Step.set_self hs4.fin _ _ (.inr rfl)), C3, rfl, hn3, ?_, ?_, hlt4⟩
            · exact sJ _ _ _ _ HJ3.out HS3.out.fin (by have := HS3.out.lim.size; omega) (Lim.set (by exact ⟨by omega, hn3⟩) _)
            · rw [HCN.out]
              first
                | exact Boxed.set _ HB3.out
                | (rw [wrap64_id _ (by omega) (by omega)]; exact Boxed.set _ HB3.out)
          · have HS3 := Lib.hid hs3
            have HJ3 := Lib.hid hJx3
            clear hs3 hJx3 HRR hy
            gi_wp2
            exact ⟨fun k => C3 k ∨ k = W.heap.size + 1, HS3.out.wide hb5, rfl, C3, rfl, .inr ⟨_, HPP.out, HJ3.out⟩⟩
        · have hfull := takeC_full hpre hz (by omega)
          have hcc2 : r.ct ≤ cntW pre.length := by omega
          have hocc : occL r L = pairsW pre := by unfold occL; rw [hfull]
          have HJL := Lib.hid (hocc ▸ HJ.out)
          clear hcs hcs2 hle hz2 h4 hfull hocc HPS
          have HCX := Lib.hid hst.fin
          generalize cntW pre.length = cnt at *
          gi_wp2
          refine ⟨(by intro f hf; cases hf), ?_⟩
          gi_wp2
          exact ⟨_, Step.refl HCX.out, rfl, C2, rfl, .inl HJL.out⟩
      · have hp2 := takeC_prefix hpre (fun h => absurd h hz)
        have hlt4 : 0 < r.ct → ((pre ++ [x]).length : Int) ≤ r.ct := fun h => absurd h hz
        clear hcs h4
        have hpp : (pairsW pre ++ [(cntW pre.length, x)]) <+: occL r L := by rw [← HPS]; exact pairsW_prefix hp2
        have hb5 := H3.out.lt
        have hsz2 : W.heap.size ≤ V.heap.size := by omega
        obtain ⟨fn, tmps, assign, body, hy, hR⟩ := HY.out 0 _ (cntW pre.length, x) C2 V HJ.out (fun k hk => hst.fin k (.inl hk)) hsz2 hpp
        have HRR := Lib.hid hR
        have HPP := Lib.hid hpp
        have HCN := Lib.hid (show cntW (pre ++ [x]).length = wrap64 (cntW pre.length + 1) by rw [List.length_append]; rfl)
        rw [← HPS] at HRR HPP
        clear hpp hR hp2 HPS hpre
        generalize cntW pre.length = cnt at *
        gi_wp2
        refine ⟨(by intro h; cases h), (RoundIn.inRound HRR.out).mono ?_⟩
        rintro e W3 ⟨C3, hs3, (⟨rfl, hJ3⟩ | ⟨rfl, hJx3⟩)⟩
        · have hb3 := boxed_lim H3.out hs3.lim HN.out
          have hn3 : ¬ C3 (W.heap.size + 1) := fun h => HN.out (hs3.old _ h hb5)
          have HS3 := Lib.hid hs3
          have HJ3 := Lib.hid hJ3
          have HB3 := Lib.hid hb3
          have c3 := hb3.cell
          have f3 := hb3.frozen
          clear hs3 hJ3 hb3 HRR hy hcc hyc
          gi_wp2
          have hs4 := (HS3.out.wide hb5)
          refine ⟨fun k => C3 k ∨ k = W.heap.size + 1, hs4.trans (Step.set_self hs4.fin _ _ (.inr rfl)), C3, rfl, hn3, ?_, ?_, hlt4⟩
          · exact sJ _ _ _ _ HJ3.out HS3.out.fin (by have := HS3.out.lim.size; omega) (Lim.set (by exact ⟨by omega, hn3⟩) _)
          · rw [HCN.out]
            first
              | exact Boxed.set _ HB3.out
              | (rw [wrap64_id _ (by omega) (by omega)]; exact Boxed.set _ HB3.out)
        · have HS3 := Lib.hid hs3
          have HJ3 := Lib.hid hJx3
          clear hs3 hJx3 HRR hy
          gi_wp2
          exact ⟨fun k => C3 k ∨ k = W.heap.size + 1, HS3.out.wide hb5, rfl, C3, rfl, .inr ⟨_, HPP.out, HJ3.out⟩⟩
end Go.Proofs.YthilkphnjffnhaaGreat
