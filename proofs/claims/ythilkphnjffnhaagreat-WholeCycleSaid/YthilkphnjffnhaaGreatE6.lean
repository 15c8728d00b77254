/- The walk of expand.chosen. -/
import Derived.Test.YthilkphnjffnhaaGreatE5
namespace Go.Proofs.YthilkphnjffnhaaGreat
open Go.RowKit Go.Sort
set_option linter.unusedVariables false
set_option linter.unusedSimpArgs false
theorem po_bd {r : Rc} (h : validB r = true) : ∀ x ∈ r.po.l, -366 ≤ x ∧ x ≤ 366 := by
  unfold validB at h
  simp only [Bool.and_eq_true, decide_eq_true_eq] at h
  obtain ⟨h0, h1, h2, h3, h4, h5, h6, h7, h8, _⟩ := h
  intro x hx
  unfold btwP outP at h8
  simp at h8
  have := h8.2 x hx
  omega
def choL (po l : List Int) : List Int := po.filterMap fun n => if (posP n l.length).2 then l[(posP n l.length).1.toNat]? else none
def chosenP (r : Rc) (l : List Int) : List Int := if r.po.l.length = 0 then l else setP (choL r.po.l l)
theorem choL_snoc (po l : List Int) (n : Int) : choL (po ++ [n]) l = choL po l ++ (if (posP n l.length).2 then l[(posP n l.length).1.toNat]? else none).toList := by
  unfold choL
  rw [List.filterMap_append]
  have : ∀ f : Int → Option Int, List.filterMap f [n] = (f n).toList := fun f => by cases h : f n <;> simp [h]
  rw [this]
theorem choL_len (po l : List Int) : (choL po l).length ≤ po.length := List.length_filterMap_le _ _
theorem posP_bd (n k : Int) (h : (posP n k).2 = true) : 0 ≤ (posP n k).1 ∧ (posP n k).1 < k := by
  unfold posP at *
  split at h
  · rename_i hc; rw [if_pos hc]; dsimp only; omega
  · rename_i hc; rw [if_neg hc]
    split at h
    · rename_i hd; rw [if_pos hd]; dsimp only; omega
    · cases h

def RetC (l : List Int) (s : SlI) (w : World) (e : Ending) (w' : World) : Prop := ∃ so : SlI, e = .returned so.v ∧ so.l = l ∧ so.In w' ∧ Below w.heap.size w w' ∧ ∀ a, so.A = some a → s.A = some a ∨ w.heap.size ≤ a.block

theorem chosen_all (r : Rc) (s : SlI) (w : World) (hs : s.In w) (h : r.po.l.length = 0) :
    Calls Tryz.prog 67 #[r.val, s.v] w (RetC (chosenP r s.l) s w) := by
  have key : chosenP r s.l = s.l := by unfold chosenP; rw [if_pos h]
  rw [key]
  have hz : ((r.po.l.length : Int) == 0) = true := by simp [h]
  have HS := Lib.hid hs
  clear key h hs
  obtain ⟨A, c, l⟩ := s
  dsimp only at *
  show Calls Tryz.prog 67 #[r.val, .slice A l.length c] w (RetC l ⟨A, c, l⟩ w)
  go_enter Tryz.func67, Tryz.ntmps67
  go_wp2
  go_ret
  exact ⟨⟨A, c, l⟩, rfl, rfl, HS.out.below (by repeat (first | (with_reducible exact Below.refl _ _) | (with_reducible assumption) | (with_reducible refine RowKit.Below.ext ?_ ?_ _) | (with_reducible refine Below.alloc ?_ ?_ _) | (with_reducible refine Below.drew ?_) | (with_reducible refine RowKit.Below.drawnN ?_ _) | (with_reducible refine Below.setCell ?_ ?_ _) | (exact (by first | (simp; done) | (simp; omega) | omega)))), (by repeat (first | (with_reducible exact Below.refl _ _) | (with_reducible assumption) | (with_reducible refine RowKit.Below.ext ?_ ?_ _) | (with_reducible refine Below.alloc ?_ ?_ _) | (with_reducible refine Below.drew ?_) | (with_reducible refine RowKit.Below.drawnN ?_ _) | (with_reducible refine Below.setCell ?_ ?_ _) | (exact (by first | (simp; done) | (simp; omega) | omega)))), fun a ha => .inl ha⟩

set_option maxRecDepth 100000 in
set_option maxHeartbeats 16000000 in
theorem chosen_some (r : Rc) (s : SlI) (w : World) (hr : r.In w) (hs : s.In w) (hv : validB r = true) (h : r.po.l.length ≠ 0) (hl : s.l.length ≤ 1000000000) :
    Calls Tryz.prog 67 #[r.val, s.v] w (RetC (chosenP r s.l) s w) := by
  have key : chosenP r s.l = setP (choL r.po.l s.l) := by unfold chosenP; rw [if_neg h]
  rw [key]
  have hz : ((r.po.l.length : Int) == 0) = false := by simp; intro e; exact h (by simp [e])
  have HPO := Lib.hid hr.po.2.2
  have HPB := Lib.hid (po_bd hv)
  have hpl : r.po.l.length ≤ 60 := (Rc.Ok.of hv).lp
  have HIN := Lib.hid hs.2.2
  clear key h hs hr hv
  obtain ⟨A, c, l⟩ := s
  obtain ⟨f, iv, ct, un, mo1, md, yd, wk, dy, ho, mi, se, po, ws⟩ := r
  obtain ⟨pA, pc, pl⟩ := po
  dsimp only [Rc.val, Rc.cells, SlI.v] at *
  obtain ⟨i0, hi, hz0, hz1, hz2⟩ := info_parts info3
  go_enter Tryz.func67, Tryz.ntmps67
  go_wp2_with fail
  refine at_world (fun W => Below w.heap.size w W) (by repeat (first | (with_reducible exact Below.refl _ _) | (with_reducible assumption) | (with_reducible refine RowKit.Below.ext ?_ ?_ _) | (with_reducible refine Below.alloc ?_ ?_ _) | (with_reducible refine Below.drew ?_) | (with_reducible refine RowKit.Below.drawnN ?_ _) | (with_reducible refine Below.setCell ?_ ?_ _) | (exact (by first | (simp; done) | (simp; omega) | omega)))) ?_
  intro W hB
  have QB := Lib.hid hB
  have hBs := hB.size
  clear hB
  go_loopg [5, 18] pl.length (fun gg v5 v18 wr => ∃ k : Nat, k ≤ pl.length ∧ pl.length - k ≤ gg ∧ v18 = .int .i64 k ∧ Hid (OwnI W.heap.size wr v5 (choL (pl.take k) l)) ∧ Hid (Below W.heap.size W wr))
  case atStart => exact ⟨0, by omega, by omega, rfl, OwnI.nil _ _, Below.refl _ _⟩
  case round =>
    obtain ⟨k, hk1, hk2, rfl, HO, HBu⟩ := hrel
    have HHK := Lib.hid hk2
    clear hk2
    have hbs := HBu.out.size
    have hBw : Below w.heap.size w wr := QB.out.trans (HBu.out.mono QB.out.size)
    have HBW := Lib.hid hBw
    by_cases hlt : k < pl.length
    · have hltz : (k : Int) < (pl.length : Int) := by omega
      obtain ⟨bp, op, rfl, hcp⟩ := HPO.out (by intro e; rw [e] at hlt; simp at hlt)
      have hc1 := cell_of_below hBw (hcp k hlt)
      have hn := HPB.out pl[k] (List.getElem_mem hlt)
      have hT := choL_snoc (pl.take k) l pl[k]
      rw [List.take_append_getElem hlt] at hT
      have hlen : (choL (pl.take k) l).length ≤ 60 := by
        have h1 := choL_len (pl.take k) l
        rw [List.length_take] at h1
        omega
      clear hcp
      try dsimp only at hc1
      generalize pl[k] = n at hc1 hn hT
      obtain ⟨hn1, hn2⟩ := hn
      have CP := Lib.hid (fun w => position_any n l.length w (by omega) (by omega) (by omega) (by omega))
      have hpb := posP_bd n l.length
      cases hp : (posP n l.length).2
      · rw [hp] at hT CP
        have HT := Lib.hid (show choL (pl.take (k + 1)) l = choL (pl.take k) l by rw [hT]; simp)
        have HLEN := Lib.hid hlen
        clear hT hlen hpb hp hBw
        generalize (posP n l.length).1 = i at *
        go_wp2_with fail
        refine (CP.out _).mono ?_
        rintro e w1 ⟨rfl, rfl⟩
        go_wp2
        go_roundg (pl.length - (k + 1))
        case measure => have := HHK.out; omega
        case rel => exact ⟨k + 1, by omega, by omega, by go_num, by rw [HT.out]; exact HO.out, HBu.out⟩
      · obtain ⟨p1, p2⟩ := hpb hp
        rw [hp] at hT CP
        generalize (posP n l.length).1 = i at *
        obtain ⟨j, rfl⟩ : ∃ j : Nat, i = j := ⟨i.toNat, by omega⟩
        have hj : j < l.length := by omega
        obtain ⟨bl, ol, rfl, hcl⟩ := HIN.out (by intro e; rw [e] at hj; simp at hj)
        have hc2 := cell_of_below hBw (hcl j hj)
        rw [if_pos rfl, show ((j : Int)).toNat = j by omega, List.getElem?_eq_getElem hj] at hT
        clear hcl
        try dsimp only at hc2
        generalize l[j] = x at hc2 hT
        generalize hacc : choL (pl.take k) l = acc at HO hlen hT
        have HT := Lib.hid (show choL (pl.take (k + 1)) l = acc ++ [x] by rw [hT]; rfl)
        have HLEN := Lib.hid hlen
        have own0 := HO.out
        unfold OwnI at own0
        have OWN := Lib.hid own0
        clear hT hlen hpb hp hBw own0 hacc
        go_wp2_with fail
        refine (CP.out _).mono ?_
        rintro e w1 ⟨rfl, rfl⟩
        go_wp2_with (at_builtin; refine wpList_append_own _ rfl _ _ 22 rfl W.heap.size 3 i0 (.int .i64 0) 1 8 Tryz.underlying22 hi hz0 hz1 hz2 rfl (by decide) _ _ _ rfl (OWN.out.alloc _) ⟨wr.heap.size, 0, none⟩ 1 1 [.int .i64 x] rfl rfl ?c1 ?c2 ?c3 ?c4 ?c5 ?_)
        case c1 =>
          intro j u hj
          match j, hj with
          | 0, hj => simp at hj; subst hj; simp [Addr.add]
        case c2 => intro u hu; simp at hu; subst hu; rfl
        case c3 => have := HLEN.out; unfold maxLen; omega
        case c4 => have := HLEN.out; omega
        case c5 => simp; omega
        intro v' w1 hown' hgrow _
        have hO2 : OwnI W.heap.size w1 v' (choL (pl.take (k + 1)) l) := by rw [HT.out]; exact OwnI.snoc hown'
        have hBu3 : Below W.heap.size W w1 := (HBu.out.alloc HBu.out.size _).grown hgrow (by simp; omega) (row_lt HO.out)
        have HO3 := Lib.hid hO2
        have HBu3 := Lib.hid hBu3
        clear hown' hgrow hO2 hBu3 HO OWN HBu hbs hc1 hc2
        go_wp2
        go_roundg (pl.length - (k + 1))
        case measure => have := HHK.out; omega
        case rel => exact ⟨k + 1, by omega, by omega, by go_num, HO3.out, HBu3.out⟩
    · have hltz : ¬ (k : Int) < (pl.length : Int) := by omega
      have HK := Lib.hid (show k = pl.length by omega)
      have hO := HO.out
      rw [HK.out, List.take_length] at hO
      have hlen := choL_len pl l
      generalize hLL : choL pl l = L at hO hlen
      have HLL := Lib.hid hLL
      clear hLL
      have HLEN := Lib.hid (show L.length ≤ 60 by omega)
      unfold OwnI at hO
      rcases hO.2 with ⟨rfl, h0⟩ | ⟨g, cap, cur, rfl, hbase, hblk, h1, h2, h3, h4⟩
      · obtain rfl : L = [] := List.length_eq_zero_iff.1 h0
        clear hO h0 hlen HPO HPB HIN
        go_wp2_with fail
        refine (Tryz.slices_Sort_int_none none 0 _).mono ?_
        rintro e w1 ⟨rfl, rfl⟩
        go_wp2_with fail
        refine (Tryz.slices_Compact_int_empty none 0 _).mono ?_
        rintro e w1 ⟨rfl, rfl⟩
        go_wp2
        go_ret
        exact ⟨⟨none, 0, []⟩, rfl, by dsimp only; rw [HLL.out]; unfold setP; rw [List.mergeSort_nil]; rfl, ⟨Nat.le_refl _, by simp, fun h => absurd rfl h⟩, HBW.out, fun a ha => by cases ha⟩
      · have hH := holds_of_blockI (ss := L) hblk (by simpa using h4)
        have hg := (Array.getElem?_eq_some_iff.1 hblk).1
        have cs := Tryz.slices_Sort_int g 0 cap L wr hH hg (by have := HLEN.out; omega)
        have CS := Lib.hid cs
        have HG := Lib.hid hg
        have HBA := Lib.hid (show w.heap.size ≤ g from Nat.le_trans hBs hbase)
        have HCAP := Lib.hid h1
        have HH := Lib.hid hH
        clear cs hO hbase hblk h1 h2 h3 h4 hg hH HPO HPB HIN HO
        go_wp2_with fail
        refine CS.out.mono ?_
        rintro e w2 ⟨rfl, n2, os, hw2⟩
        have hlen2 : (L.mergeSort fun x y => decide (x ≤ y)).length = L.length := List.length_mergeSort _
        have hH2 : Holds (Value.int .i64) w2 g 0 (L.mergeSort fun x y => decide (x ≤ y)).toArray := by
          rw [hw2]
          refine holds_grow _ _ _ _ _ _ ?_ (holds_putRow _ _ _ _ L.toArray _ (holds_ahead _ _ _ _ _ _ HH.out) (by simp [hlen2]))
          have := HG.out
          simpa [putRow, mapBlock, Sort.ahead] using this
        have hg2 : wr.grownBy w2 (some g) := by rw [hw2]; exact grownBy_sortedI _
        have hb2 : Below w.heap.size w w2 := HBW.out.grown hg2 HBW.out.size (fun j hj => by cases hj; exact HBA.out)
        have cc := Tryz.slices_Compact_int g 0 cap (L.mergeSort fun x y => decide (x ≤ y)) w2 hH2 (by rw [hlen2]; have := HLEN.out; omega) (by rw [hlen2]; exact HCAP.out)
        rw [hlen2] at cc
        have CC := Lib.hid cc
        have HH2 := Lib.hid hH2
        have HB2 := Lib.hid hb2
        have HLN := Lib.hid hlen2
        clear hw2 hH2 hg2 hb2 cc hlen2 CS HH
        go_wp2_with fail
        refine CC.out.mono ?_
        rintro e w3 ⟨rfl, q, hw3⟩
        have hlc := len_compactP (L.mergeSort fun x y => decide (x ≤ y))
        rw [HLN.out] at hlc
        have hH3 : Holds (Value.int .i64) w3 g 0 (Lib.compact (L.mergeSort fun x y => decide (x ≤ y)) ++ List.replicate (L.length - (Lib.compact (L.mergeSort fun x y => decide (x ≤ y))).length) 0).toArray := by
          rw [hw3]
          exact holds_putRow _ _ _ _ (L.mergeSort fun x y => decide (x ≤ y)).toArray _ (holds_ahead _ _ _ _ _ _ HH2.out) (by have := HLN.out; simp; omega)
        have hb3 : Below w.heap.size w w3 := by
          rw [hw3, ← grow_empty (putRow _ _ _ _ _)]
          exact HB2.out.grown (grownBy_sortedI (n := q) (os := #[]) _) HB2.out.size (fun j hj => by cases hj; exact HBA.out)
        have hin : SlI.In ⟨some ⟨g, 0, none⟩, cap, setP L⟩ w3 := by
          refine ⟨Nat.le_trans hlc HCAP.out, by have := HLEN.out; simp only [setP]; omega, fun _ => ⟨g, 0, rfl, fun i hi => ?_⟩⟩
          have hi' : i < (Lib.compact (L.mergeSort fun x y => decide (x ≤ y))).length := hi
          have := (hH3 i (by simp; omega)).1
          rw [this]
          simp [setP, getElem!_pos, hi', List.getElem?_append_left hi']
        have HIN3 := Lib.hid hin
        have HB3 := Lib.hid hb3
        clear hw3 hH3 hb3 hlc hin
        go_wp2
        go_ret
        exact ⟨⟨some ⟨g, 0, none⟩, cap, setP L⟩, rfl, by dsimp only; rw [HLL.out], HIN3.out, HB3.out, fun a ha => by cases ha; exact .inr HBA.out⟩

theorem chosen_any (r : Rc) (s : SlI) (w : World) (hr : r.In w) (hs : s.In w) (hv : validB r = true) (hl : s.l.length ≤ 1000000000) :
    Calls Tryz.prog 67 #[r.val, s.v] w (RetC (chosenP r s.l) s w) := by
  by_cases h : r.po.l.length = 0
  · exact chosen_all r s w hs h
  · exact chosen_some r s w hr hs hv h hl
end Go.Proofs.YthilkphnjffnhaaGreat
