/- The walk of expand.never, for hours. -/
import Derived.Test.YthilkphnjffnhaaGreatJP
namespace Go.Proofs.YthilkphnjffnhaaGreat
open Go.RowKit Go.Sort
set_option linter.unusedVariables false
set_option linter.unusedSimpArgs false
set_option maxHeartbeats 4000000 in
theorem never_cl (r : Rc) (b : Nat) (s : SlI) (w : World) (hr : r.In w) (hs : s.In w) (hv : validB r = true) (hl : s.l.length ≤ 1000000000) (hc : ∀ o, w.cell? ⟨b, o, none⟩ = r.cells[o]?) :
    Calls Tryz.prog 86 #[s.v, .pointer (some ⟨b, 0, none⟩)] w fun e w' => e = .returned (.bool (decide (0 < (chosenP r s.l).length))) ∧ Below w.heap.size w w' := by
  have HR := Lib.hid hr
  have HS := Lib.hid hs
  have CC := Lib.hid (fun w (a : r.In w) (b : s.In w) => chosen_any r s w a b hv hl)
  have QCW := Lib.hid hc
  have c0 := (QCW.out 0).trans (rfl : _ = some (Value.int .i64 r.f))
  have c1 := (QCW.out 1).trans (rfl : _ = some (Value.int .i64 r.iv))
  have c2 := (QCW.out 2).trans (rfl : _ = some (Value.int .i64 r.ct))
  have c3 := (QCW.out 3).trans (rfl : _ = some (Value.int .i64 r.un))
  have c4 := (QCW.out 4).trans (rfl : _ = some r.mo.v)
  have c5 := (QCW.out 5).trans (rfl : _ = some r.md.v)
  have c6 := (QCW.out 6).trans (rfl : _ = some r.yd.v)
  have c7 := (QCW.out 7).trans (rfl : _ = some r.wk.v)
  have c8 := (QCW.out 8).trans (rfl : _ = some r.dy.v)
  have c9 := (QCW.out 9).trans (rfl : _ = some r.ho.v)
  have c10 := (QCW.out 10).trans (rfl : _ = some r.mi.v)
  have c11 := (QCW.out 11).trans (rfl : _ = some r.se.v)
  have c12 := (QCW.out 12).trans (rfl : _ = some r.po.v)
  have c13 := (QCW.out 13).trans (rfl : _ = some (Value.int .i64 r.ws))
  clear hr hs hv hc QCW
  generalize chosenP r s.l = L at *
  go_enter Tryz.func86, Tryz.ntmps86
  go_wp2_with fail
  refine (CC.out _ (HR.out.below (by repeat (first | (with_reducible exact Below.refl _ _) | (with_reducible assumption) | (with_reducible refine RowKit.Below.ext ?_ ?_ _) | (with_reducible refine Below.alloc ?_ ?_ _) | (with_reducible refine Below.drew ?_) | (with_reducible refine RowKit.Below.drawnN ?_ _) | (with_reducible refine Below.setCell ?_ ?_ _) | (exact (by first | (simp; done) | (simp; omega) | omega))))) (HS.out.below (by repeat (first | (with_reducible exact Below.refl _ _) | (with_reducible assumption) | (with_reducible refine RowKit.Below.ext ?_ ?_ _) | (with_reducible refine Below.alloc ?_ ?_ _) | (with_reducible refine Below.drew ?_) | (with_reducible refine RowKit.Below.drawnN ?_ _) | (with_reducible refine Below.setCell ?_ ?_ _) | (exact (by first | (simp; done) | (simp; omega) | omega)))))).mono ?_
  rintro e w1 ⟨⟨A, c, l⟩, rfl, h1, h2, hb, _⟩
  obtain ⟨x, rfl⟩ := hb.toExt
  dsimp only at h1
  subst h1
  clear hb h2
  rcases ncase l.length with ⟨p1, p2⟩ | ⟨p1, p2⟩
  · have HP := Lib.hid p1
    clear p1
    go_wp2
    go_ret
    exact ⟨by rw [decide_eq_false (by have := HP.out; omega)]; rfl, (by repeat (first | (with_reducible exact Below.refl _ _) | (with_reducible assumption) | (with_reducible refine RowKit.Below.ext ?_ ?_ _) | (with_reducible refine Below.alloc ?_ ?_ _) | (with_reducible refine Below.drew ?_) | (with_reducible refine RowKit.Below.drawnN ?_ _) | (with_reducible refine Below.setCell ?_ ?_ _) | (exact (by first | (simp; done) | (simp; omega) | omega))))⟩
  · have HP := Lib.hid p1
    clear p1
    go_wp2
    go_ret
    exact ⟨by rw [decide_eq_true HP.out]; rfl, (by repeat (first | (with_reducible exact Below.refl _ _) | (with_reducible assumption) | (with_reducible refine RowKit.Below.ext ?_ ?_ _) | (with_reducible refine Below.alloc ?_ ?_ _) | (with_reducible refine Below.drew ?_) | (with_reducible refine RowKit.Below.drawnN ?_ _) | (with_reducible refine Below.setCell ?_ ?_ _) | (exact (by first | (simp; done) | (simp; omega) | omega))))⟩
end Go.Proofs.YthilkphnjffnhaaGreat
/- The walk of expand.never, for hours. -/
namespace Go.Proofs.YthilkphnjffnhaaGreat
open Go.RowKit Go.Sort
set_option linter.unusedVariables false
set_option linter.unusedSimpArgs false
theorem Hours.keep {B bH : Nat} {W w1 : World} {L : List Int} {v : Value} {l : List Int} {tmp : Obj} (H : Hours B bH W L) (ho : OwnI B W v l) (hg : (W.alloc tmp).grownBy w1 v.ownBlock) : w1.heap[bH]? = W.heap[bH]? := by
  obtain ⟨cs, hb, hsz, hB, hv⟩ := H
  have hlt := (Array.getElem?_eq_some_iff.1 hb).1
  have hne : some bH ≠ v.ownBlock := fun e => by
    have := (ho.block bH e.symm).1; omega
  exact (hg.block bH (by simp; omega) hne).trans (Below.heap_alloc W tmp bH hlt)

theorem OwnI.slice {B : Nat} {W : World} {v : Value} {l : List Int} (h : OwnI B W v l) : ∃ a b c, v = .slice a b c := by
  unfold OwnI at h
  rcases h.2 with ⟨rfl, h0⟩ | ⟨g, cap, cur, rfl, _⟩ <;> exact ⟨_, _, _, rfl⟩

theorem Hours.rows {B bH : Nat} {W : World} {L : List Int} (H : Hours B bH W L) (hL : L.length ≤ 1000000000) : ∃ S : List SlI, S.length = 24 ∧ S.map SlI.l = (List.range 24).map (hourL L) ∧ (∀ x ∈ S, x.In W ∧ x.l.length ≤ 1000000000) ∧ ∀ i (h : i < S.length), W.cell? ⟨bH, i, none⟩ = some S[i].v := by
  have hf : ∀ h, ∃ s : SlI, h < 24 → W.cell? ⟨bH, h, none⟩ = some s.v ∧ s.l = hourL L h ∧ s.In W := fun h => by
    by_cases hh : h < 24
    · obtain ⟨v, h1, h2, _⟩ := H.cell h hh
      have hlen : (hourL L h).length ≤ L.length := List.length_filter_le _ _
      obtain ⟨s, rfl, e1, e2⟩ := SlI.of_own h2 (by omega)
      exact ⟨s, fun _ => ⟨h1, e1, e2⟩⟩
    · exact ⟨⟨none, 0, []⟩, fun h => absurd h hh⟩
  obtain ⟨f, hf⟩ := Classical.axiomOfChoice hf
  refine ⟨(List.range 24).map f, by simp, ?_, ?_, ?_⟩
  · rw [List.map_map]
    exact List.map_congr_left fun h hh => (hf h (by simpa using hh)).2.1
  · intro x hx
    obtain ⟨h, hh, rfl⟩ := List.mem_map.1 hx
    have q := hf h (by simpa using hh)
    have hlen : (hourL L h).length ≤ L.length := List.length_filter_le _ _
    exact ⟨q.2.2, by rw [q.2.1]; omega⟩
  · intro i hi
    have hi' : i < 24 := by simpa using hi
    simpa using (hf i hi').1

theorem Hours.lt {B bH : Nat} {W : World} {L : List Int} (H : Hours B bH W L) : bH < B := by
  obtain ⟨_, _, _, h, _⟩ := H
  exact h

theorem Hours.new (w0 : World) : Hours (w0.alloc (.cells (Array.replicate 24 (Value.slice none 0 0)) 105)).heap.size w0.heap.size (w0.alloc (.cells (Array.replicate 24 (Value.slice none 0 0)) 105)) [] :=
  ⟨_, World.alloc_heap_new w0 _, by simp, by simp, fun h hh => ⟨.slice none 0 0, by simp [hh], OwnI.nil _ _, fun _ => rfl⟩⟩

set_option maxRecDepth 100000 in
set_option maxHeartbeats 16000000 in
theorem never_c (r : Rc) (s : SlI) (w : World) (hr : r.In w) (hs : s.In w) (hv : validB r = true) (hl : s.l.length ≤ 1000000000) (hb : ∀ x ∈ s.l, 0 ≤ x ∧ x < 86400) (h5 : r.f = 5) :
    Calls Tryz.prog 63 #[r.val, s.v] w fun e w' => e = .returned (.bool (neverP r s.l)) ∧ Below w.heap.size w w' := by
  have key : neverP r s.l = !((List.range 24).any fun h => decide (0 < (chosenP r (hourL s.l h)).length)) := by unfold neverP; rw [if_neg (by omega), if_neg (by omega)]
  rw [key]
  have g4 : (r.f == 4) = false := by simp [h5]
  have g5 : (r.f != 5) = false := by simp [h5]
  have HR := Lib.hid hr
  have HV := Lib.hid hv
  have HIN := Lib.hid hs.2.2
  have HBD := Lib.hid hb
  clear key h5 hr hs hv hb
  obtain ⟨A, c, l⟩ := s
  dsimp only [SlI.v] at *
  obtain ⟨i0, hi, hz0, hz1, hz2⟩ := info_parts info3
  go_enter Tryz.func63, Tryz.ntmps63
  go_wp2_with fail
  refine at_world (fun W => Below w.heap.size w W ∧ Hours W.heap.size (w.heap.size + 1) W [] ∧ ∀ o, W.cell? ⟨w.heap.size, o, none⟩ = r.cells[o]?) ⟨(by repeat (first | (with_reducible exact Below.refl _ _) | (with_reducible assumption) | (with_reducible refine RowKit.Below.ext ?_ ?_ _) | (with_reducible refine Below.alloc ?_ ?_ _) | (with_reducible refine Below.drew ?_) | (with_reducible refine RowKit.Below.drawnN ?_ _) | (with_reducible refine Below.setCell ?_ ?_ _) | (exact (by first | (simp; done) | (simp; omega) | omega)))), ?_, fun o => kept_cells 25 (by repeat (first | (with_reducible exact Below.refl _ _) | (with_reducible assumption) | (with_reducible refine RowKit.Below.ext ?_ ?_ _) | (with_reducible refine Below.alloc ?_ ?_ _) | (with_reducible refine Below.drew ?_) | (with_reducible refine RowKit.Below.drawnN ?_ _) | (with_reducible refine Below.setCell ?_ ?_ _) | (exact (by first | (simp; done) | (simp; omega) | omega)))) rfl o⟩ ?_
  · have := Hours.new (w.alloc (.cells r.cells 25))
    have e : (w.alloc (.cells r.cells 25)).heap.size = w.heap.size + 1 := by simp
    rw [e] at this
    exact this
  intro W ⟨hB, hH0, hcw⟩
  have QB := Lib.hid hB
  have QC := Lib.hid hcw
  have hBs := hB.size
  clear hB hcw
  go_loopg [21] l.length (fun gg v21 wr => ∃ k : Nat, k ≤ l.length ∧ l.length - k ≤ gg ∧ v21 = .int .i64 k ∧ Hid (Hours W.heap.size (w.heap.size + 1) wr (l.take k)) ∧ Hid (Below (w.heap.size + 1) W wr))
  case atStart => exact ⟨0, by omega, by omega, rfl, hH0, Below.refl _ _⟩
  case round =>
    clear hH0
    obtain ⟨k, hk1, hk2, rfl, HO, HBu⟩ := hrel
    have HHK := Lib.hid hk2
    clear hk2
    have hbs := HBu.out.size
    by_cases hlt : k < l.length
    · have hltz : (k : Int) < (l.length : Int) := by omega
      obtain ⟨bl, ol, rfl, hcl⟩ := HIN.out (by intro e; rw [e] at hlt; simp at hlt)
      have hBw : Below w.heap.size w wr := QB.out.trans (HBu.out.mono (by omega))
      have hc1 := cell_of_below hBw (hcl k hlt)
      have hn := HBD.out l[k] (List.getElem_mem hlt)
      have hT : l.take (k + 1) = l.take k ++ [l[k]] := (List.take_append_getElem hlt).symm
      clear hcl
      try dsimp only at hc1
      generalize l[k] = n at hc1 hn hT
      obtain ⟨hn1, hn2⟩ := hn
      obtain ⟨h, hd⟩ : ∃ h : Nat, n / 3600 = h := ⟨(n / 3600).toNat, by omega⟩
      have hd2 : n.tdiv 3600 = h := by rw [Int.tdiv_eq_ediv_of_nonneg hn1]; exact hd
      have hh : h < 24 := by omega
      obtain ⟨v, hv1, hv2, hv3⟩ := HO.out.cell h hh
      have HT := Lib.hid hT
      have HV2 := Lib.hid hv2
      have HD := Lib.hid hd
      have hhz : (h : Int) < 24 := by omega
      clear hT hv2 hv3 hd
      have own0 := HV2.out
      unfold OwnI at own0
      have OWN := Lib.hid own0
      have HV1 := Lib.hid hv1
      have hlen : (hourL (l.take k) h).length ≤ 1000000000 := by
        have h1 : (hourL (l.take k) h).length ≤ (l.take k).length := List.length_filter_le _ _
        rw [List.length_take] at h1
        omega
      have HLEN := Lib.hid hlen
      clear hlen own0
      go_wp2_with (at_builtin; refine wpList_append_own _ rfl _ _ 22 rfl W.heap.size 3 i0 (.int .i64 0) 1 8 Tryz.underlying22 hi hz0 hz1 hz2 rfl (by decide) _ _ _ rfl (OWN.out.alloc _) ⟨wr.heap.size, 0, none⟩ 1 1 [.int .i64 n] rfl rfl ?c1 ?c2 ?c3 ?c4 ?c5 ?_)
      case c1 =>
        intro j u hj
        match j, hj with
        | 0, hj => simp at hj; subst hj; simp [Addr.add]
      case c2 => intro u hu; simp at hu; subst hu; rfl
      case c3 => have := HLEN.out; unfold maxLen; simp; omega
      case c4 => have := HLEN.out; simp; omega
      case c5 => simp; omega
      intro v' w1 hown' hgrow _
      have HGR := Lib.hid hgrow
      have hO2 : OwnI W.heap.size w1 v' (hourL (l.take k) h ++ [n]) := OwnI.snoc hown'
      have HO2 := Lib.hid hO2
      have hcb := HO.out.keep HV2.out hgrow
      have hcc : w1.cell? ⟨w.heap.size + 1, h, none⟩ = some v := by rw [World.cell?_of_block hcb]; exact HV1.out
      have hff : w1.frozen? ⟨w.heap.size + 1, h, none⟩ = false := by
        obtain ⟨cs, hbb, _⟩ := HO.out
        have := hcb.trans hbb
        simp [World.frozen?, this]
      obtain ⟨sa, sb, sc, rfl⟩ := hO2.slice
      clear hown' hgrow hO2 OWN hc1 hv1
      go_wp2_with fail
      have hlt2 := HO.out.lt
      have hput := HO.out.put hh HD.out HV1.out HO2.out HGR.out
      rw [← HT.out] at hput
      have hB1 : Below (w.heap.size + 1) W w1 := (HBu.out.alloc (by omega) _).grown HGR.out (by simp; omega) (fun j hj => by have := (HV2.out.block j hj).1; omega)
      have HPUT := Lib.hid hput
      have HB2 := Lib.hid (hB1.setCell (p := ⟨w.heap.size + 1, h, none⟩) (by simp) (.slice sa sb sc))
      clear hput hB1
      go_roundg (l.length - (k + 1))
      case measure => have := HHK.out; omega
      case rel => exact ⟨k + 1, by omega, by omega, by go_num, HPUT.out, HB2.out⟩
    · have hltz : ¬ (k : Int) < (l.length : Int) := by omega
      have hO := HO.out
      rw [show k = l.length by omega, List.take_length] at hO
      obtain ⟨S, hS1, hS2, hS3, hS4⟩ := hO.rows hl
      have hlt2 := hO.lt
      have hcw : ∀ o, wr.cell? ⟨w.heap.size, o, none⟩ = r.cells[o]? := fun o => (HBu.out.cell (by simp)).trans (QC.out o)
      have hBw : Below w.heap.size w wr := QB.out.trans (HBu.out.mono (by omega))
      have HBW := Lib.hid hBw
      have hany : S.any (fun s => decide (0 < (chosenP r s.l).length)) = (List.range 24).any fun h => decide (0 < (chosenP r (hourL l h)).length) := by
        have e1 : S.any (fun s => decide (0 < (chosenP r s.l).length)) = (S.map SlI.l).any (fun x => decide (0 < (chosenP r x).length)) := by rw [List.any_map]; rfl
        rw [e1, hS2, List.any_map]; rfl
      have hin : SlS.In ⟨some ⟨w.heap.size + 1, 0, none⟩, 24, S⟩ wr := ⟨by dsimp only; omega, by dsimp only; omega, fun _ => ⟨_, 0, rfl, fun i hi => by rw [Nat.zero_add]; exact hS4 i hi⟩⟩
      have C := contf_sl (fun s => decide (0 < (chosenP r s.l).length)) 86 #[.pointer (some ⟨w.heap.size, 0, none⟩)] (fun args w => rfl) ⟨some ⟨w.heap.size + 1, 0, none⟩, 24, S⟩ wr hin
        (fun W' x hx hW' => never_cl r w.heap.size x W' (HR.out.below (hBw.trans (hW'.mono hBw.size))) ((hS3 x hx).1.below hW') HV.out (hS3 x hx).2 (fun o => (hW'.cell (by have := HBu.out.size; simp; omega)).trans (hcw o)))
      dsimp only [SlS.v] at C
      rw [hany, hS1] at C
      have CC := Lib.hid C
      have hfz := hO.frozen 0
      clear C hin hcw hS1 hS2 hS3 hS4 HO HIN
      generalize hbb : ((List.range 24).any fun h => decide (0 < (chosenP r (hourL l h)).length)) = bb at CC
      have HBB := Lib.hid hbb
      clear hbb hany
      go_wp2_with fail
      refine (CC.out).mono ?_
      rintro e w1 ⟨rfl, hb1⟩; obtain ⟨x, rfl⟩ := hb1.toExt; clear hb1
      go_wp2
      go_ret
      exact ⟨by rw [HBB.out]; rfl, HBW.out.trans ((RowKit.Below.ofExt wr x).mono HBW.out.size)⟩
end Go.Proofs.YthilkphnjffnhaaGreat
