/- The walk of expand.candidates. -/
import Derived.Test.YthilkphnjffnhaaGreatJL
import Derived.Test.YthilkphnjffnhaaGreatQ3
namespace Go.Proofs.YthilkphnjffnhaaGreat
open Go.RowKit
set_option linter.unusedVariables false
set_option linter.unusedSimpArgs false
theorem upL_snoc (a : Int) (k : Nat) : upL a (a + ((k + 1 : Nat) : Int)) = upL a (a + (k : Int)) ++ [a + (k : Int)] := by
  unfold upL
  rw [show (a + ((k + 1 : Nat) : Int) - a).toNat = k + 1 by omega, show (a + (k : Int) - a).toNat = k by omega, List.range_succ, List.map_append]
  rfl
def candS (d a b : Int) (secs : List Int) : List Int := (secs.map fun s => 86400 * d + s).filter fun l => decide (a ≤ l ∧ l < b)
noncomputable def candP (r : Rc) (X : DI) (a b : Int) (secs ds : List Int) : List Int := ds.flatMap fun d => if passP r X d then candS d a b secs else []
theorem candP_snoc (r : Rc) (X : DI) (a b : Int) (secs ds : List Int) (d : Int) : candP r X a b secs (ds ++ [d]) = candP r X a b secs ds ++ (if passP r X d then candS d a b secs else []) := by
  unfold candP; rw [List.flatMap_append]; simp
theorem candS_snoc (d a b : Int) (secs : List Int) (s : Int) : candS d a b (secs ++ [s]) = candS d a b secs ++ (if a ≤ 86400 * d + s ∧ 86400 * d + s < b then [86400 * d + s] else []) := by
  unfold candS; rw [List.map_append, List.filter_append]
  congr 1
  by_cases h : a ≤ 86400 * d + s ∧ 86400 * d + s < b
  · rw [if_pos h]; simp [h]
  · rw [if_neg h]; simp; omega
theorem candS_len (d a b : Int) (secs : List Int) : (candS d a b secs).length ≤ secs.length := by
  unfold candS; exact Nat.le_trans (List.length_filter_le _ _) (by simp)
theorem candP_len (r : Rc) (X : DI) (a b : Int) (secs ds : List Int) : (candP r X a b secs ds).length ≤ ds.length * secs.length := by
  unfold candP
  induction ds with
  | nil => simp
  | cons d ds ih =>
    rw [List.flatMap_cons, List.length_append, List.length_cons, Nat.add_mul, Nat.one_mul]
    have : (if passP r X d then candS d a b secs else []).length ≤ secs.length := by
      split
      · exact candS_len d a b secs
      · simp
    omega
theorem World.grownBy_ext (w : World) (x : Ext) : w.grownBy (w.ext x) none := ⟨rfl, rfl, rfl, by simp, fun k hk _ => World.heap_ext w x hk⟩
theorem OwnI.ext {B : Nat} {W : World} {v : Value} {l : List Int} (h : OwnI B W v l) (x : Ext) : OwnI B (W.ext x) v l := by
  refine World.ownsRow.kept h (World.grownBy_ext W x) ?_
  rcases h.2 with ⟨rfl, _⟩ | ⟨g, cap, cur, rfl, _⟩
  · exact .inl rfl
  · exact .inr (by simp [Value.ownBlock])

set_option maxRecDepth 100000 in
set_option maxHeartbeats 16000000 in
theorem candidates_any (r : Rc) (t a b : Int) (s : SlI) (w : World) (hr : r.In w) (hs : s.In w) (hv : validB r = true) (ht : inP t) (a1 : -62121600000 ≤ a) (a2 : a < 253402300800) (b1 : a < b) (b2 : b ≤ a + 64454400)
    (hl : s.l.length ≤ 216000) (hin : ∀ x ∈ s.l, 0 ≤ x ∧ x < 86400) :
    Calls Tryz.prog 68 #[r.val, .int .i64 t, .agg #[.int .i64 a, .int .i64 b], s.v] w (RetF (candP r (diP (t / 86400)) a b s.l (upL (max a (-62135596800) / 86400) ((min b 253402300800 + 86399) / 86400))) w) := by
  obtain ⟨d0, hd0⟩ : ∃ d0, d0 = max a (-62135596800) / 86400 := ⟨_, rfl⟩
  obtain ⟨d1, hd1⟩ : ∃ d1, d1 = (min b 253402300800 + 86399) / 86400 := ⟨_, rfl⟩
  obtain ⟨N, hN⟩ : ∃ N : Nat, N = (d1 - d0).toNat := ⟨_, rfl⟩
  have e0 : -719000 ≤ d0 := by omega
  have e1 : d1 ≤ 2932897 := by omega
  have e2 : d0 < d1 := by omega
  have e3 : N ≤ 800 := by omega
  have e4 : d1 = d0 + N := by omega
  have eT : ∀ d : Int, 86400 * d < min b 253402300800 ↔ d < d1 := by intro d; omega
  rw [← hd0, ← hd1]
  have HD0 := Lib.hid (show d0 = a / 86400 by omega)
  have ET := Lib.hid eT
  have E4 := Lib.hid e4
  clear hd0 hd1 hN eT e4
  have CD := Lib.hid (fun d w (h : r.In w) (g1 : -719000 ≤ d) (g2 : d < 2932897) => rday_yes r t d w h hv ht g1 g2)
  have HR := Lib.hid hr
  have HIN := Lib.hid hs.2.2
  have HB := Lib.hid hin
  clear hr hv ht hin hs
  generalize diP (t / 86400) = X at *
  obtain ⟨A, c, l⟩ := s
  dsimp only at *
  show Calls Tryz.prog 68 #[r.val, .int .i64 t, .agg #[.int .i64 a, .int .i64 b], .slice A l.length c] w (RetF (candP r X a b l (upL d0 d1)) w)
  obtain ⟨i0, hi, hz0, hz1, hz2⟩ := info_parts info3
  have hmx : max a (-62135596800) = a := by omega
  go_enter Tryz.func68, Tryz.ntmps68
  go_wp2_with fail
  refine (floor_any a 86400 _ (by omega) (by omega) (by omega) (by omega)).mono ?_
  rintro e w1 ⟨rfl, nd, rfl⟩
  rw [← HD0.out]
  go_wp2_with fail
  refine at_world (fun W => Below w.heap.size w W ∧ (∀ o, W.cell? ⟨w.heap.size, o, none⟩ = r.cells[o]?) ∧ W.cell? ⟨w.heap.size + 1, 0, none⟩ = some (.int .i64 a) ∧ W.cell? ⟨w.heap.size + 1, 1, none⟩ = some (.int .i64 b)) ⟨(by repeat (first | (with_reducible exact Below.refl _ _) | (with_reducible assumption) | (with_reducible refine RowKit.Below.ext ?_ ?_ _) | (with_reducible refine Below.alloc ?_ ?_ _) | (with_reducible refine Below.drew ?_) | (with_reducible refine RowKit.Below.drawnN ?_ _) | (with_reducible refine Below.setCell ?_ ?_ _) | (exact (by first | (simp; done) | (simp; omega) | omega)))), fun o => kept_cells 25 (by repeat (first | (with_reducible exact Below.refl _ _) | (with_reducible assumption) | (with_reducible refine RowKit.Below.ext ?_ ?_ _) | (with_reducible refine Below.alloc ?_ ?_ _) | (with_reducible refine Below.drew ?_) | (with_reducible refine RowKit.Below.drawnN ?_ _) | (with_reducible refine Below.setCell ?_ ?_ _) | (exact (by first | (simp; done) | (simp; omega) | omega)))) rfl o, by go_simp, by go_simp⟩ ?_
  intro W ⟨hB, hcw, hca, hcb⟩
  have QCW0 := Lib.hid hcw
  have QA := Lib.hid hca
  have QB2 := Lib.hid hcb
  have QB := Lib.hid hB
  clear hcw hB hca hcb hmx
  go_loopg [9, 10] N (fun gg v9 v10 wr => ∃ k : Nat, k ≤ N ∧ N - k ≤ gg ∧ v10 = .int .i64 (d0 + k) ∧ Hid (OwnI W.heap.size wr v9 (candP r X a b l (upL d0 (d0 + k)))) ∧ Hid (Below W.heap.size W wr))
  case atStart => exact ⟨0, by omega, by omega, by simp, by rw [show upL d0 (d0 + ((0 : Nat) : Int)) = [] by simp [upL]]; exact OwnI.nil _ _, Below.refl _ _⟩
  case round =>
    obtain ⟨k, hk1, hk2, rfl, HO, HBu⟩ := hrel
    have HHK := Lib.hid hk2
    clear hk2
    have ca := cell_of_below HBu.out QA.out
    have cb := cell_of_below HBu.out QB2.out
    have hbs := HBu.out.size
    by_cases hlt : k < N
    · have q1 : 86400 * (d0 + k) < min b 253402300800 := (ET.out _).2 (by rw [E4.out]; omega)
      have QCW : Hid (∀ o, o < 14 → wr.cell? ⟨w.heap.size, o, none⟩ = r.cells[o]?) := fun o ho => by
        have := QCW0.out o
        rw [Array.getElem?_eq_getElem (show o < r.cells.size from ho)] at this ⊢
        exact cell_of_below HBu.out this
      have c0 := (QCW.out 0 (by omega)).trans (rfl : _ = some (Value.int .i64 r.f))
      have c1 := (QCW.out 1 (by omega)).trans (rfl : _ = some (Value.int .i64 r.iv))
      have c2 := (QCW.out 2 (by omega)).trans (rfl : _ = some (Value.int .i64 r.ct))
      have c3 := (QCW.out 3 (by omega)).trans (rfl : _ = some (Value.int .i64 r.un))
      have c4 := (QCW.out 4 (by omega)).trans (rfl : _ = some r.mo.v)
      have c5 := (QCW.out 5 (by omega)).trans (rfl : _ = some r.md.v)
      have c6 := (QCW.out 6 (by omega)).trans (rfl : _ = some r.yd.v)
      have c7 := (QCW.out 7 (by omega)).trans (rfl : _ = some r.wk.v)
      have c8 := (QCW.out 8 (by omega)).trans (rfl : _ = some r.dy.v)
      have c9 := (QCW.out 9 (by omega)).trans (rfl : _ = some r.ho.v)
      have c10 := (QCW.out 10 (by omega)).trans (rfl : _ = some r.mi.v)
      have c11 := (QCW.out 11 (by omega)).trans (rfl : _ = some r.se.v)
      have c12 := (QCW.out 12 (by omega)).trans (rfl : _ = some r.po.v)
      have c13 := (QCW.out 13 (by omega)).trans (rfl : _ = some (Value.int .i64 r.ws))
      have hBw : Below w.heap.size w wr := QB.out.trans (HBu.out.mono QB.out.size)
      have hcall := CD.out (d0 + k) wr (HR.out.below hBw) (by omega) (by rw [E4.out] at e1; omega)
      have hT := candP_snoc r X a b l (upL d0 (d0 + k)) (d0 + k)
      rw [← upL_snoc] at hT
      have hlen : (candP r X a b l (upL d0 (d0 + k))).length ≤ 172800000 := by
        have h1 := candP_len r X a b l (upL d0 (d0 + k))
        rw [upL_length, show (d0 + (k : Int) - d0).toNat = k by omega] at h1
        have : k * l.length ≤ 800 * 216000 := Nat.mul_le_mul (by omega) hl
        omega
      clear QCW
      have e6 : d0 + (k : Int) < 2932897 := by rw [E4.out] at e1; omega
      cases hp : passP r X (d0 + k)
      · rw [hp] at hcall hT
        rw [if_neg (by simp), List.append_nil] at hT
        have HT := Lib.hid hT
        have HC := Lib.hid hcall
        have HLEN := Lib.hid hlen
        clear hT hcall hlen hp
        go_wp2_with fail
        refine HC.out.mono ?_
        rintro e w1 ⟨rfl, hb1⟩; obtain ⟨x, rfl⟩ := hb1.toExt; clear hb1
        go_wp2
        go_roundg (N - (k + 1))
        case measure => have := HHK.out; omega
        case rel => exact ⟨k + 1, by omega, by omega, by go_num, by rw [HT.out]; exact OwnI.ext HO.out x, HBu.out.ext HBu.out.size x⟩
      · rw [hp] at hcall hT
        rw [if_pos rfl] at hT
        have HT := Lib.hid hT
        have HC := Lib.hid hcall
        clear hT hcall hp
        generalize candP r X a b l (upL d0 (d0 + k)) = acc0 at HO HT hlen
        have HLEN := Lib.hid hlen
        clear hlen
        go_wp2_with fail
        refine HC.out.mono ?_
        rintro e w1 ⟨rfl, hb1⟩; obtain ⟨x, rfl⟩ := hb1.toExt; clear hb1
        go_wp2_with fail
        clear c0 c1 c2 c3 c4 c5 c6 c7 c8 c9 c10 c11 c12 c13
        obtain ⟨gko, rfl⟩ : ∃ gko : Nat, gko = gk := ⟨_, rfl⟩
        have HO2 := Lib.hid (OwnI.ext HO.out x)
        have HBu2 := Lib.hid (HBu.out.ext HBu.out.size x)
        clear HO HBu ca cb hbs
        generalize wr.ext x = wo at HO2 HBu2 ⊢
        clear hBw HC
        obtain ⟨d, hdd⟩ : ∃ d, d = d0 + (k : Int) := ⟨_, rfl⟩
        have HDD := Lib.hid hdd
        rw [← hdd] at HT ⊢
        rw [← hdd] at q1 e6
        have e7 : -719000 ≤ d := by omega
        clear hdd
        go_loopg [9, 43] l.length (fun gg v9 v43 wr => ∃ j : Nat, j ≤ l.length ∧ l.length - j ≤ gg ∧ v43 = .int .i64 j ∧ Hid (OwnI W.heap.size wr v9 (acc0 ++ candS d a b (l.take j))) ∧ Hid (Below W.heap.size W wr))
        case atStart => exact ⟨0, by omega, by omega, rfl, by rw [show candS d a b (l.take 0) = [] from rfl, List.append_nil]; exact HO2.out, HBu2.out⟩
        case round =>
          obtain ⟨j, hj1, hj2, rfl, HO, HBu⟩ := hrel
          have HHJ := Lib.hid hj2
          have ca := cell_of_below HBu.out QA.out
          have cb := cell_of_below HBu.out QB2.out
          have hbs := HBu.out.size
          clear hj2
          by_cases hltj : j < l.length
          · have hltz : (j : Int) < (l.length : Int) := by omega
            obtain ⟨bb, off, rfl, hcc⟩ := HIN.out (by intro h; rw [h] at hltj; simp at hltj)
            have hc1 := cell_of_below (QB.out.trans (HBu.out.mono QB.out.size)) (hcc j hltj)
            have hx1 := HB.out l[j] (List.getElem_mem hltj)
            have hTT := candS_snoc d a b (l.take j) l[j]
            rw [List.take_append_getElem hltj] at hTT
            have hlen2 : (acc0 ++ candS d a b (l.take j)).length ≤ 173100000 := by
              rw [List.length_append]
              have h1 := candS_len d a b (l.take j)
              have h2 : (l.take j).length ≤ 216000 := by rw [List.length_take]; omega
              have := HLEN.out
              omega
            clear hcc
            try dsimp only at hc1
            generalize l[j] = s at hc1 hx1 hTT
            by_cases w1 : a ≤ 86400 * d + s
            · by_cases w2 : 86400 * d + s < b
              · rw [if_pos ⟨w1, w2⟩] at hTT
                have HTT := Lib.hid hTT
                clear hTT
                generalize hacc : acc0 ++ candS d a b (l.take j) = acc at HO hlen2
                have HACC := Lib.hid hacc
                have HLEN2 := Lib.hid hlen2
                clear hacc hlen2
                have own0 := HO.out
                unfold OwnI at own0
                have OWN := Lib.hid own0
                clear own0
                go_wp2_with (at_builtin; refine wpList_append_own _ rfl _ _ 22 rfl W.heap.size 3 i0 (.int .i64 0) 1 8 Tryz.underlying22 hi hz0 hz1 hz2 rfl (by decide) _ _ _ rfl (OWN.out.alloc _) ⟨wr.heap.size, 0, none⟩ 1 1 [.int .i64 (86400 * d + s)] rfl rfl ?c1 ?c2 ?c3 ?c4 ?c5 ?_)
                case c1 =>
                  intro j u hj
                  match j, hj with
                  | 0, hj => simp at hj; subst hj; simp [Addr.add]
                case c2 => intro u hu; simp at hu; subst hu; rfl
                case c3 => have := HLEN2.out; unfold maxLen; omega
                case c4 => have := HLEN2.out; omega
                case c5 => simp; omega
                intro v' w1 hown' hgrow _
                have hO2 : OwnI W.heap.size w1 v' (acc0 ++ candS d a b (l.take (j + 1))) := by
                  rw [HTT.out, ← List.append_assoc, HACC.out]; exact OwnI.snoc hown'
                have hBu3 : Below W.heap.size W w1 := (HBu.out.alloc HBu.out.size _).grown hgrow (by simp; omega) (row_lt HO.out)
                have HO3 := Lib.hid hO2
                have HBu3 := Lib.hid hBu3
                clear hown' hgrow hO2 hBu3 HO OWN HBu hbs hc1 ca cb
                go_wp2
                go_roundg (l.length - (j + 1))
                case measure => have := HHJ.out; omega
                case rel => exact ⟨j + 1, by omega, by omega, by go_num, HO3.out, HBu3.out⟩
              · rw [if_neg (by omega), List.append_nil] at hTT
                have HTT := Lib.hid hTT
                clear hTT
                go_wp2
                go_roundg (l.length - (j + 1))
                case measure => have := HHJ.out; omega
                case rel => exact ⟨j + 1, by omega, by omega, by go_num, by rw [HTT.out]; exact HO.out, HBu.out⟩
            · rw [if_neg (by omega), List.append_nil] at hTT
              have HTT := Lib.hid hTT
              clear hTT
              go_wp2
              go_roundg (l.length - (j + 1))
              case measure => have := HHJ.out; omega
              case rel => exact ⟨j + 1, by omega, by omega, by go_num, by rw [HTT.out]; exact HO.out, HBu.out⟩
          · have hltz : ¬ (j : Int) < (l.length : Int) := by omega
            have HJ := Lib.hid (show j = l.length by omega)
            go_wp2
            go_roundg (N - (k + 1))
            case measure => have := HHK.out; omega
            case rel => exact ⟨k + 1, by omega, by omega, by rw [HDD.out]; go_num, by rw [HT.out]; have := HO.out; rw [HJ.out, List.take_length] at this; exact this, HBu.out⟩
    · have q1 : ¬ 86400 * (d0 + k) < min b 253402300800 := fun h => by have := (ET.out _).1 h; rw [E4.out] at this; omega
      have HK := Lib.hid (show d0 + (k : Int) = d1 by rw [E4.out]; omega)
      go_wp2
      go_ret
      have hO := HO.out
      rw [HK.out] at hO
      have hlen : (candP r X a b l (upL d0 d1)).length ≤ 172800000 := by
        have h1 := candP_len r X a b l (upL d0 d1)
        rw [upL_length] at h1
        have : (d1 - d0).toNat * l.length ≤ 800 * 216000 := Nat.mul_le_mul (by have := E4.out; omega) hl
        omega
      obtain ⟨so, rfl, h1, h2, h3⟩ := SlI.of_ownF hO (by omega)
      exact ⟨so, rfl, h1, h2, QB.out.trans (HBu.out.mono QB.out.size), fun a ha => Nat.le_trans QB.out.size (h3 a ha)⟩
end Go.Proofs.YthilkphnjffnhaaGreat
