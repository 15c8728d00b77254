/- The walks of cycleMoves and of week.ISO, and of First where the rule is not valid. -/
import Derived.Test.YthilkphnjffnhaaGreatJV
namespace Go.Proofs.YthilkphnjffnhaaGreat
open Go.RowKit Go.Sort
set_option linter.unusedVariables false
set_option linter.unusedSimpArgs false
theorem mvL_snoc (l : List Int) (x : Int) : mvL (l ++ [x]) = mvL l ++ [x + 12622780800] := by unfold mvL; rw [List.map_append]; rfl
set_option maxRecDepth 100000 in
set_option maxHeartbeats 8000000 in
theorem moves_any (s : SlI) (w : World) (hs : s.In w) (hb : ∀ x ∈ s.l, -1000000000000 ≤ x ∧ x ≤ 1000000000000) (hl : s.l.length ≤ 100000) :
    Calls Tryz.prog 9 #[s.v] w (RetF (mvL s.l) w) := by
  have HIN := Lib.hid hs.2.2
  have HBD := Lib.hid hb
  clear hs hb
  obtain ⟨A, c, l⟩ := s
  dsimp only [SlI.v] at *
  obtain ⟨i0, hi, hz0, hz1, hz2⟩ := info_parts info3
  go_enter Tryz.func9, Tryz.ntmps9
  go_wp2
  go_loopg [3, 8] l.length (fun gg v3 v8 wr => ∃ k : Nat, k ≤ l.length ∧ l.length - k ≤ gg ∧ v8 = .int .i64 k ∧ Hid (OwnI w.heap.size wr v3 (mvL (l.take k))) ∧ Hid (Below w.heap.size w wr))
  case atStart => exact ⟨0, by omega, by omega, rfl, OwnI.nil _ _, Below.refl _ _⟩
  case round =>
    obtain ⟨k, hk1, hk2, rfl, HO, HBu⟩ := hrel
    have HHK := Lib.hid hk2
    clear hk2
    have hbs := HBu.out.size
    by_cases hlt : k < l.length
    · have hltz : (k : Int) < (l.length : Int) := by omega
      obtain ⟨bl, ol, rfl, hcl⟩ := HIN.out (by intro e; rw [e] at hlt; simp at hlt)
      have hc1 := cell_of_below HBu.out (hcl k hlt)
      have hn := HBD.out l[k] (List.getElem_mem hlt)
      have hT := mvL_snoc (l.take k) l[k]
      rw [List.take_append_getElem hlt] at hT
      clear hcl
      try dsimp only at hc1
      generalize l[k] = n at hc1 hn hT
      obtain ⟨hn1, hn2⟩ := hn
      have hlen : (mvL (l.take k)).length ≤ 100000 := by rw [mvL_length, List.length_take]; omega
      generalize hacc : mvL (l.take k) = acc at HO hlen hT
      have HT := Lib.hid hT
      have HLEN := Lib.hid hlen
      have own0 := HO.out
      unfold OwnI at own0
      have OWN := Lib.hid own0
      clear hT hlen own0 hacc
      go_wp2_with (at_builtin; refine wpList_append_own _ rfl _ _ 22 rfl w.heap.size 3 i0 (.int .i64 0) 1 8 Tryz.underlying22 hi hz0 hz1 hz2 rfl (by decide) _ _ _ rfl (OWN.out.alloc _) ⟨wr.heap.size, 0, none⟩ 1 1 [.int .i64 (n + 12622780800)] rfl rfl ?c1 ?c2 ?c3 ?c4 ?c5 ?_)
      case c1 =>
        intro j u hj
        match j, hj with
        | 0, hj => simp at hj; subst hj; simp [Addr.add]
      case c2 => intro u hu; simp at hu; subst hu; rfl
      case c3 => have := HLEN.out; unfold maxLen; omega
      case c4 => have := HLEN.out; omega
      case c5 => simp; omega
      intro v' w1 hown' hgrow _
      have hO2 : OwnI w.heap.size w1 v' (mvL (l.take (k + 1))) := by rw [HT.out]; exact OwnI.snoc hown'
      have hBu3 : Below w.heap.size w w1 := (HBu.out.alloc HBu.out.size _).grown hgrow (by simp; omega) (row_lt HO.out)
      have HO3 := Lib.hid hO2
      have HBu3 := Lib.hid hBu3
      clear hown' hgrow hO2 hBu3 HO OWN HBu hbs hc1
      go_wp2
      go_roundg (l.length - (k + 1))
      case measure => have := HHK.out; omega
      case rel => exact ⟨k + 1, by omega, by omega, by go_num, HO3.out, HBu3.out⟩
    · have hltz : ¬ (k : Int) < (l.length : Int) := by omega
      have hO := HO.out
      rw [show k = l.length by omega, List.take_length] at hO
      obtain ⟨so, rfl, e1, e2, e3⟩ := SlI.of_ownF hO (by rw [mvL_length]; omega)
      have E1 := Lib.hid e1
      have E2 := Lib.hid e2
      have E3 := Lib.hid e3
      clear hO e1 e2 e3 HO
      go_wp2
      go_ret
      exact ⟨so, rfl, E1.out, E2.out, HBu.out, E3.out⟩
set_option maxHeartbeats 4000000 in
theorem iso_any (w : World) : Calls Tryz.prog 7 #[] w fun e w' => e = .returned (.agg #[.int .i64 1, .int .i64 4]) ∧ Below w.heap.size w w' := by
  go_enter Tryz.func7, Tryz.ntmps7
  go_wp2
  refine bodyPost_ret (v := .agg #[.int .i64 1, .int .i64 4]) ?_ rfl ⟨rfl, (by repeat (first | (with_reducible exact Below.refl _ _) | (with_reducible assumption) | (with_reducible refine RowKit.Below.ext ?_ ?_ _) | (with_reducible refine Below.alloc ?_ ?_ _) | (with_reducible refine Below.drew ?_) | (with_reducible refine RowKit.Below.drawnN ?_ _) | (with_reducible refine Below.setCell ?_ ?_ _) | (exact (by first | (simp; done) | (simp; omega) | omega))))⟩
  simp [results, Tryz.results7, go_sem]
set_option maxHeartbeats 8000000 in
theorem first_no (r : Rc) (t n : Int) (w : World) (hr : r.In w) (hv : validB r = false) :
    Calls Tryz.prog 4 #[r.val, .int .i64 t, .int .i64 n] w fun e w' => e = .returned (.tuple #[.slice none 0 0, .int .i64 1]) ∧ Below w.heap.size w w' := by
  have CK := Lib.hid (fun w (h : r.In w) => check_no r t w h hv)
  have HR := Lib.hid hr
  clear hr hv
  refine (callsIn_wide (n := 3)).1 ?_
  refine callsIn_of_wp_marks Tryz.func4 rfl trivial ?_ rfl
  simp only [Tryz.ntmps4, List.size_toArray, List.length_cons, List.length_nil, Nat.reduceAdd, Nat.reduceSub, Array.replicate_succ, Array.replicate_zero, List.push_toArray, List.append_toArray, List.nil_append, List.cons_append]
  refine wpIn_wide.2 ?_
  go_wp2_with fail
  refine (CK.out _ (HR.out.below (by repeat (first | (with_reducible exact Below.refl _ _) | (with_reducible assumption) | (with_reducible refine RowKit.Below.ext ?_ ?_ _) | (with_reducible refine Below.alloc ?_ ?_ _) | (with_reducible refine Below.drew ?_) | (with_reducible refine RowKit.Below.drawnN ?_ _) | (with_reducible refine Below.setCell ?_ ?_ _) | (exact (by first | (simp; done) | (simp; omega) | omega)))))).mono ?_
  rintro e w1 ⟨rfl, hb1⟩; obtain ⟨x, rfl⟩ := hb1.toExt; clear hb1
  go_wp2
  refine ⟨.tuple #[.slice none 0 0, .int .i64 1], ?_, rfl, (by repeat (first | (with_reducible exact Below.refl _ _) | (with_reducible assumption) | (with_reducible refine RowKit.Below.ext ?_ ?_ _) | (with_reducible refine Below.alloc ?_ ?_ _) | (with_reducible refine Below.drew ?_) | (with_reducible refine RowKit.Below.drawnN ?_ _) | (with_reducible refine Below.setCell ?_ ?_ _) | (exact (by first | (simp; done) | (simp; omega) | omega))))⟩
  simp [results, Tryz.results4, go_sem]
end Go.Proofs.YthilkphnjffnhaaGreat
