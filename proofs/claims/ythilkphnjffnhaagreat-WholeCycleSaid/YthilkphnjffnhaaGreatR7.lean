/- The walk of recurrence.times once more: the list that it hands back is new. -/
import Derived.Test.YthilkphnjffnhaaGreatJE
namespace Go.Proofs.YthilkphnjffnhaaGreat
open Go.RowKit
set_option linter.unusedVariables false
set_option linter.unusedSimpArgs false
/-- a call that hands back a new slice of ints -/
def RetF (l : List Int) (w : World) (e : Ending) (w' : World) : Prop := ∃ s : SlI, e = .returned s.v ∧ s.l = l ∧ s.In w' ∧ Below w.heap.size w w' ∧ ∀ a, s.A = some a → w.heap.size ≤ a.block
theorem SlI.of_ownF {W : World} {base : Nat} {v : Value} {l : List Int} (h : W.ownsRow base 3 1 v l.length (l.map (Value.int .i64))) (hl : l.length * 8 ≤ 140737488351232) : ∃ s : SlI, v = s.v ∧ s.l = l ∧ s.In W ∧ ∀ a, s.A = some a → base ≤ a.block := by
  rcases h.2 with ⟨rfl, h0⟩ | ⟨g, cap, cur, rfl, hg, hb, h1, h2, h3, h4⟩
  · obtain rfl : l = [] := List.length_eq_zero_iff.1 h0
    exact ⟨⟨none, 0, []⟩, rfl, rfl, ⟨Nat.le_refl _, by simp, fun h => absurd rfl h⟩, fun a ha => by cases ha⟩
  · refine ⟨⟨some ⟨g, 0, none⟩, cap, l⟩, rfl, rfl, ⟨h1, hl, fun _ => ⟨g, 0, rfl, fun i hi => ?_⟩⟩, fun a ha => by cases ha; exact hg⟩
    have hH := holds_of_blockI (ss := l) hb (by simpa using h4)
    have := (hH i (by simpa using hi)).1
    simpa [getElem!_pos, show i < l.length from hi] using this

set_option maxRecDepth 100000 in
set_option maxHeartbeats 4000000 in
theorem times_new1 (r : Rc) (t : Int) (w : World) (hr : r.In w) (h1 : -1000000000000 ≤ t) (h2 : t ≤ 1000000000000) (hx : ¬ (r.ho.l = [] ∧ r.f = 5))
    (l1 : r.ho.l.length ≤ 60) (l2 : r.mi.l.length ≤ 60) (l3 : r.se.l.length ≤ 60) (b1 : ∀ x ∈ r.ho.l, 0 ≤ x ∧ x ≤ 23) (b2 : ∀ x ∈ r.mi.l, 0 ≤ x ∧ x ≤ 59) (b3 : ∀ x ∈ r.se.l, 0 ≤ x ∧ x ≤ 59) :
    Calls Tryz.prog 26 #[r.val, .int .i64 t] w (RetF (timesP r.f r.ho.l r.mi.l r.se.l (t % 86400)) w) := by
  have hk1 : hoursP r.f r.ho.l (t % 86400) = partP r.ho.l (t % 86400 / 3600) := by unfold hoursP; rw [if_neg hx]
  have hs : 0 ≤ t % 86400 ∧ t % 86400 < 86400 := by omega
  have HB1 := Lib.hid (hoursP_in (f := r.f) b1 hs.1 hs.2)
  have HB2 := Lib.hid (partP_in (o := t % 86400 / 60 % 60) b2 (by omega) (by omega))
  have HB3 := Lib.hid (partP_in (o := t % 86400 % 60) b3 (by omega) (by omega))
  have HL1 := Lib.hid (hoursP_len (f := r.f) (t % 86400) l1)
  have HL2 := Lib.hid (partP_len (t % 86400 / 60 % 60) l2)
  have HL3 := Lib.hid (partP_len (t % 86400 % 60) l3)
  have HK1 := Lib.hid hk1
  have hguard : ((r.ho.l.length : Int) == 0) = true → (r.f == 5) = false := by
    intro h; simp at h ⊢; intro h5; exact hx ⟨h, h5⟩
  have HR := Lib.hid hr
  clear hr hk1 hx l1 l2 l3 b1 b2 b3
  generalize hsE : t % 86400 = s at hs HK1 HB1 HB2 HB3 HL1 HL2 HL3 ⊢
  have HS := Lib.hid hsE
  clear hsE
  go_enter Tryz.func26, Tryz.ntmps26
  go_wp2_with fail
  refine (mod_any t 86400 _ (by omega) (by omega) (by omega) (by omega)).mono ?_
  rintro e w1 ⟨rfl, nd, rfl⟩
  rw [HS.out]
  go_wp2_with fail
  refine (part_any r.ho (s / 3600) _ (HR.out.ho.below (by repeat (first | exact Below.refl _ _ | assumption | refine RowKit.Below.ext ?_ (by first | (simp; done) | (simp; omega) | omega) _ | refine Below.alloc ?_ (by first | (simp; done) | (simp; omega) | omega) _ | refine Below.drew ?_ | refine RowKit.Below.drawnN ?_ _ | refine Below.setCell ?_ (by first | (simp; done) | (simp; omega) | omega) _)))).mono ?_
  rintro e w1 ⟨sh, rfl, hsh, hin, hb1⟩
  obtain ⟨x1, rfl⟩ := hb1.toExt
  rw [← HK1.out] at hsh
  have HSH := Lib.hid hsh
  have HIN := Lib.hid hin
  clear hsh hin hb1 HK1
  have a1 : IntKind.i64.wrap (s.tdiv 60) = s / 60 := by rw [Int.tdiv_eq_ediv_of_nonneg hs.1]; exact IntWalk.i64_in _ (by omega)
  have a2 : (s / 60).tmod 60 = s / 60 % 60 := Int.tmod_eq_emod_of_nonneg (by omega)
  have a3 : s.tmod 60 = s % 60 := Int.tmod_eq_emod_of_nonneg hs.1
  have hB : Below w.heap.size w (((w.alloc (Obj.cells r.cells 25)).drewN nd).ext x1) := (by repeat (first | exact Below.refl _ _ | assumption | refine RowKit.Below.ext ?_ (by first | (simp; done) | (simp; omega) | omega) _ | refine Below.alloc ?_ (by first | (simp; done) | (simp; omega) | omega) _ | refine Below.drew ?_ | refine RowKit.Below.drawnN ?_ _ | refine Below.setCell ?_ (by first | (simp; done) | (simp; omega) | omega) _))
  have c10 : (((w.alloc (Obj.cells r.cells 25)).drewN nd).ext x1).cell? ⟨w.heap.size, 10, none⟩ = some r.mi.v := by go_simp
  have c11 : (((w.alloc (Obj.cells r.cells 25)).drewN nd).ext x1).cell? ⟨w.heap.size, 11, none⟩ = some r.se.v := by go_simp
  cases hz : ((r.ho.l.length : Int) == 0)
  all_goals
    try have hz5 := hguard hz
    clear hguard
    go_wp2_with fail
    generalize (((w.alloc (Obj.cells r.cells 25)).drewN nd).ext x1) = W at hB c10 c11 HIN ⊢
    have hBs := hB.size
    go_region_held3 (fun w' => w'.cell? ⟨w.heap.size, 10, none⟩ = some r.mi.v ∧ w'.cell? ⟨w.heap.size, 11, none⟩ = some r.se.v)
      (first | go_keep | (go_split_ands; refine ⟨?_, ?_⟩ <;> go_simp))
      (first
        | (go_at_call 52; (with_reducible refine Calls.mono (part_any r.mi _ _ ?hq) ?_); (case hq => exact HR.out.mi.below (by repeat (first | exact Below.refl _ _ | assumption | refine RowKit.Below.ext ?_ (by first | (simp; done) | (simp; omega) | omega) _ | refine Below.alloc ?_ (by first | (simp; done) | (simp; omega) | omega) _ | refine Below.drew ?_ | refine RowKit.Below.drawnN ?_ _ | refine Below.setCell ?_ (by first | (simp; done) | (simp; omega) | omega) _))); rintro e w1 ⟨sm, rfl, hsm, him, hbm⟩; obtain ⟨xm, rfl⟩ := hbm.toExt; clear hbm; have HSM := Lib.hid hsm; have HIM := Lib.hid him; clear hsm him)
        | (go_at_call 52; (with_reducible refine Calls.mono (part_any r.se _ _ ?hq2) ?_); (case hq2 => exact HR.out.se.below (by repeat (first | exact Below.refl _ _ | assumption | refine RowKit.Below.ext ?_ (by first | (simp; done) | (simp; omega) | omega) _ | refine Below.alloc ?_ (by first | (simp; done) | (simp; omega) | omega) _ | refine Below.drew ?_ | refine RowKit.Below.drawnN ?_ _ | refine Below.setCell ?_ (by first | (simp; done) | (simp; omega) | omega) _))); rintro e w1 ⟨ss, rfl, hss, his, hbs⟩; obtain ⟨xs, rfl⟩ := hbs.toExt; clear hbs; have HSS := Lib.hid hss; have HIS := Lib.hid his; clear hss his))
    clear c10 c11 a1 a2 a3
    go_wp2_with fail
    have hB2 : Below w.heap.size w ((W.ext xm).ext xs) := (by repeat (first | exact Below.refl _ _ | assumption | refine RowKit.Below.ext ?_ (by first | (simp; done) | (simp; omega) | omega) _ | refine Below.alloc ?_ (by first | (simp; done) | (simp; omega) | omega) _ | refine Below.drew ?_ | refine RowKit.Below.drawnN ?_ _ | refine Below.setCell ?_ (by first | (simp; done) | (simp; omega) | omega) _))
    replace HIN := Lib.hid ((HIN.out.below (RowKit.Below.ofExt W xm)).below (RowKit.Below.ofExt _ xs))
    replace HIM := Lib.hid (HIM.out.below (RowKit.Below.ofExt _ xs))
    clear hB hBs
    have hB := hB2
    clear hB2
    have HIM2 : Hid (sm.In ((W.ext xm).ext xs)) := HIM
    have HIS2 : Hid (ss.In ((W.ext xm).ext xs)) := HIS
    clear HIM HIS
    have HIM := HIM2
    have HIS := HIS2
    clear HIM2 HIS2
    generalize ((W.ext xm).ext xs) = U at hB HIN HIM HIS ⊢
    obtain ⟨Ah, ch, lh⟩ := sh
    obtain ⟨Am, cm, lm⟩ := sm
    obtain ⟨As, cs, ls⟩ := ss
    dsimp only at HSH HSM HSS
    have b1 : ∀ x ∈ lh, 0 ≤ x ∧ x ≤ 23 := by rw [HSH.out]; exact HB1.out
    have b2 : ∀ x ∈ lm, 0 ≤ x ∧ x ≤ 59 := by rw [HSM.out]; exact HB2.out
    have b3 : ∀ x ∈ ls, 0 ≤ x ∧ x ≤ 59 := by rw [HSS.out]; exact HB3.out
    have l1 : lh.length ≤ 60 := by rw [HSH.out]; exact HL1.out
    have l2 : lm.length ≤ 60 := by rw [HSM.out]; exact HL2.out
    have l3 : ls.length ≤ 60 := by rw [HSS.out]; exact HL3.out
    have hEnd : row1 lh lm ls = timesP r.f r.ho.l r.mi.l r.se.l s := by unfold timesP hoursP minsP secsP; rw [HSH.out, HSM.out, HSS.out]; rfl
    have HEND := Lib.hid hEnd
    have hIh := HIN.out.2.2
    have hIm := HIM.out.2.2
    have hIs := HIS.out.2.2
    have QB1 := Lib.hid b1
    have QB2 := Lib.hid b2
    have QB3 := Lib.hid b3
    have QIh := Lib.hid hIh
    have QIm := Lib.hid hIm
    have QIs := Lib.hid hIs
    dsimp only at QIh QIm QIs
    clear b1 b2 b3 hEnd hIh hIm hIs HSH HSM HSS HIN HIM HIS HB1 HB2 HB3 HL1 HL2 HL3 HR
    obtain ⟨i0, hi, hz0, hz1, hz2⟩ := info_parts info3
    dsimp only [SlI.v]
    go_loopg [11, 58] lh.length (fun gg v11 v58 wr => ∃ i : Nat, i ≤ lh.length ∧ lh.length - i ≤ gg ∧ v58 = .int .i64 i ∧ Hid (OwnI U.heap.size wr v11 (row1 (lh.take i) lm ls)) ∧ Hid (Below U.heap.size U wr))
    case atStart => exact ⟨0, by omega, by omega, rfl, OwnI.nil _ _, Below.refl _ _⟩
    case round =>
      obtain ⟨i, hi1, hi2, rfl, HO, HBu⟩ := hrel
      by_cases hlt : i < lh.length
      · have hltz : (i : Int) < (lh.length : Int) := by omega
        obtain ⟨bh, oh, rfl, hch⟩ := QIh.out (by intro h; rw [h] at hlt; simp at hlt)
        have hc1 := cell_of_below HBu.out (hch i hlt)
        have hx1 := QB1.out lh[i] (List.getElem_mem hlt)
        have hT := row1_succ lh lm ls i hlt
        clear hch
        generalize lh[i] = xh at hc1 hx1 hT
        have HT := Lib.hid hT
        have HHI := Lib.hid hi2
        clear hT hi2
        go_wp2_with fail
        clear hc1
        obtain ⟨wo, rfl⟩ : ∃ wo : World, wo = wr := ⟨_, rfl⟩
        obtain ⟨go, rfl⟩ : ∃ go : Nat, go = gk := ⟨_, rfl⟩
        go_loopg [11, 64] lm.length (fun gg v11 v64 wr => ∃ j : Nat, j ≤ lm.length ∧ lm.length - j ≤ gg ∧ v64 = .int .i64 j ∧ Hid (OwnI U.heap.size wr v11 (row1 (lh.take i) lm ls ++ row2 xh (lm.take j) ls)) ∧ Hid (Below U.heap.size U wr))
        case atStart => exact ⟨0, by omega, by omega, rfl, by rw [show row2 xh (List.take 0 lm) ls = [] from rfl, List.append_nil]; exact HO.out, HBu.out⟩
        case round =>
          clear HO HBu
          obtain ⟨j, hj1, hj2, rfl, HO, HBu⟩ := hrel
          by_cases hlt2 : j < lm.length
          · have hltz2 : (j : Int) < (lm.length : Int) := by omega
            obtain ⟨bm, om, rfl, hcm⟩ := QIm.out (by intro h; rw [h] at hlt2; simp at hlt2)
            have hc2 := cell_of_below HBu.out (hcm j hlt2)
            have hx2 := QB2.out lm[j] (List.getElem_mem hlt2)
            have hT2 := row2_succ xh lm ls j hlt2
            clear hcm
            generalize lm[j] = xm2 at hc2 hx2 hT2
            have HT2 := Lib.hid hT2
            have HHJ := Lib.hid hj2
            clear hT2 hj2
            go_wp2_with fail
            clear hc2
            obtain ⟨wo2, rfl⟩ : ∃ wo2 : World, wo2 = wr := ⟨_, rfl⟩
            obtain ⟨go2, rfl⟩ : ∃ go2 : Nat, go2 = gk := ⟨_, rfl⟩
            go_loopg [11, 70] ls.length (fun gg v11 v70 wr => ∃ k : Nat, k ≤ ls.length ∧ ls.length - k ≤ gg ∧ v70 = .int .i64 k ∧ Hid (OwnI U.heap.size wr v11 (row1 (lh.take i) lm ls ++ row2 xh (lm.take j) ls ++ row3 xh xm2 (ls.take k))) ∧ Hid (Below U.heap.size U wr))
            case atStart => exact ⟨0, by omega, by omega, rfl, by rw [show row3 xh xm2 (List.take 0 ls) = [] from rfl, List.append_nil]; exact HO.out, HBu.out⟩
            case round =>
              clear HO HBu
              obtain ⟨k, hk1, hk2, rfl, HO, HBu⟩ := hrel
              by_cases hlt3 : k < ls.length
              · have hltz3 : (k : Int) < (ls.length : Int) := by omega
                obtain ⟨bs, os, rfl, hcs⟩ := QIs.out (by intro h; rw [h] at hlt3; simp at hlt3)
                have hc3 := cell_of_below HBu.out (hcs k hlt3)
                have hx3 := QB3.out ls[k] (List.getElem_mem hlt3)
                have hT3 := row3_succ xh xm2 ls k hlt3
                clear hcs
                generalize ls[k] = xs3 at hc3 hx3 hT3
                have HT3 := Lib.hid hT3
                have HHK := Lib.hid hk2
                clear hT3 hk2
                have hlen : (row1 (lh.take i) lm ls ++ row2 xh (lm.take j) ls ++ row3 xh xm2 (ls.take k)).length ≤ 300000 := by
                  have e1 := len_row1 (lh.take i) lm ls (by rw [List.length_take]; omega) l2 l3
                  have e2 := len_row2 xh (lm.take j) ls (by rw [List.length_take]; omega) l3
                  have e3 := len_row3 xh xm2 (ls.take k)
                  have e4 : (ls.take k).length ≤ 60 := by rw [List.length_take]; omega
                  rw [List.length_append, List.length_append]; omega
                generalize hacc : row1 (lh.take i) lm ls ++ row2 xh (lm.take j) ls ++ row3 xh xm2 (ls.take k) = acc at HO hlen
                have HACC := Lib.hid hacc
                have HLEN := Lib.hid hlen
                clear hacc hlen
                have own0 := HO.out
                unfold OwnI at own0
                have OWN := Lib.hid own0
                have hbs := HBu.out.size
                clear own0
                go_wp2_with (at_builtin; refine wpList_append_own _ rfl _ _ 22 rfl U.heap.size 3 i0 (.int .i64 0) 1 8 Tryz.underlying22 hi hz0 hz1 hz2 rfl (by decide) _ _ _ rfl (OWN.out.alloc _) ⟨wr.heap.size, 0, none⟩ 1 1 [.int .i64 (3600 * xh + 60 * xm2 + xs3)] rfl rfl ?c1 ?c2 ?c3 ?c4 ?c5 ?_)
                case c1 =>
                  intro j u hj
                  match j, hj with
                  | 0, hj => simp at hj; subst hj; simp [Addr.add]
                case c2 => intro u hu; simp at hu; subst hu; rfl
                case c3 => have := HLEN.out; unfold maxLen; omega
                case c4 => have := HLEN.out; omega
                case c5 => simp; omega
                intro v' w1 hown' hgrow _
                have hO2 : OwnI U.heap.size w1 v' (row1 (lh.take i) lm ls ++ row2 xh (lm.take j) ls ++ row3 xh xm2 (ls.take (k + 1))) := by
                  rw [HT3.out, ← List.append_assoc, HACC.out]; exact OwnI.snoc hown'
                have hBu2 : Below U.heap.size U w1 := (HBu.out.alloc HBu.out.size _).grown hgrow (by simp; omega) (row_lt HO.out)
                have HO2 := Lib.hid hO2
                have HBu2 := Lib.hid hBu2
                clear hown' hgrow hO2 hBu2 HO OWN HBu hbs hc3
                go_wp2
                go_roundg (ls.length - (k + 1))
                case measure => have := HHK.out; omega
                case rel => exact ⟨k + 1, by omega, by omega, by go_num, HO2.out, HBu2.out⟩
              · have hltz3 : ¬ (k : Int) < (ls.length : Int) := by omega
                have HK := Lib.hid (show k = ls.length by omega)
                go_wp2
                go_roundg (lm.length - (j + 1))
                case measure => have := HHJ.out; omega
                case rel => exact ⟨j + 1, by omega, by omega, by go_num, by rw [HT2.out, ← List.append_assoc]; have := HO.out; rw [HK.out, List.take_length] at this; exact this, HBu.out⟩
          · have hltz2 : ¬ (j : Int) < (lm.length : Int) := by omega
            have HJ := Lib.hid (show j = lm.length by omega)
            go_wp2
            go_roundg (lh.length - (i + 1))
            case measure => have := HHI.out; omega
            case rel => exact ⟨i + 1, by omega, by omega, by go_num, by rw [HT.out]; have := HO.out; rw [HJ.out, List.take_length] at this; exact this, HBu.out⟩
      · have hltz : ¬ (i : Int) < (lh.length : Int) := by omega
        have HI := Lib.hid (show i = lh.length by omega)
        go_wp2
        go_ret
        have hO := HO.out
        rw [HI.out, List.take_length] at hO
        have hll := len_row1 lh lm ls l1 l2 l3
        obtain ⟨so, rfl, h1, h2, h3⟩ := SlI.of_ownF hO (by omega)
        exact ⟨so, rfl, h1.trans HEND.out, h2, hB.trans (HBu.out.mono hB.size), fun a ha => Nat.le_trans hB.size (h3 a ha)⟩

set_option maxRecDepth 100000 in
set_option maxHeartbeats 4000000 in
theorem times_new2 (r : Rc) (t : Int) (w : World) (hr : r.In w) (h1 : -1000000000000 ≤ t) (h2 : t ≤ 1000000000000) (hx : r.ho.l = [] ∧ r.f = 5)
    (l1 : r.ho.l.length ≤ 60) (l2 : r.mi.l.length ≤ 60) (l3 : r.se.l.length ≤ 60) (b1 : ∀ x ∈ r.ho.l, 0 ≤ x ∧ x ≤ 23) (b2 : ∀ x ∈ r.mi.l, 0 ≤ x ∧ x ≤ 59) (b3 : ∀ x ∈ r.se.l, 0 ≤ x ∧ x ≤ 59) :
    Calls Tryz.prog 26 #[r.val, .int .i64 t] w (RetF (timesP r.f r.ho.l r.mi.l r.se.l (t % 86400)) w) := by
  have hk1 : hoursP r.f r.ho.l (t % 86400) = nats 24 := by unfold hoursP; rw [if_pos hx]; rfl
  have hs : 0 ≤ t % 86400 ∧ t % 86400 < 86400 := by omega
  have HB1 := Lib.hid (hoursP_in (f := r.f) b1 hs.1 hs.2)
  have HB2 := Lib.hid (partP_in (o := t % 86400 / 60 % 60) b2 (by omega) (by omega))
  have HB3 := Lib.hid (partP_in (o := t % 86400 % 60) b3 (by omega) (by omega))
  have HL1 := Lib.hid (hoursP_len (f := r.f) (t % 86400) l1)
  have HL2 := Lib.hid (partP_len (t % 86400 / 60 % 60) l2)
  have HL3 := Lib.hid (partP_len (t % 86400 % 60) l3)
  have HK1 := Lib.hid hk1
  have hz : ((r.ho.l.length : Int) == 0) = true := by simp [hx.1]
  have hz5 : (r.f == 5) = true := by simp [hx.2]
  have HR := Lib.hid hr
  clear hr hk1 hx l1 l2 l3 b1 b2 b3
  generalize hsE : t % 86400 = s at hs HK1 HB1 HB2 HB3 HL1 HL2 HL3 ⊢
  have HS := Lib.hid hsE
  clear hsE
  obtain ⟨i0, hi, hz0, hz1, hz2⟩ := info_parts info3
  go_enter Tryz.func26, Tryz.ntmps26
  go_wp2_with fail
  refine (mod_any t 86400 _ (by omega) (by omega) (by omega) (by omega)).mono ?_
  rintro e w1 ⟨rfl, nd, rfl⟩
  rw [HS.out]
  go_wp2_with fail
  refine (part_any r.ho (s / 3600) _ (HR.out.ho.below (by repeat (first | exact Below.refl _ _ | assumption | refine RowKit.Below.ext ?_ (by first | (simp; done) | (simp; omega) | omega) _ | refine Below.alloc ?_ (by first | (simp; done) | (simp; omega) | omega) _ | refine Below.drew ?_ | refine RowKit.Below.drawnN ?_ _ | refine Below.setCell ?_ (by first | (simp; done) | (simp; omega) | omega) _)))).mono ?_
  rintro e w1 ⟨sh0, rfl, hq1, hq2, hb1⟩
  obtain ⟨x1, rfl⟩ := hb1.toExt
  clear hb1 hq1 hq2
  have a1 : IntKind.i64.wrap (s.tdiv 60) = s / 60 := by rw [Int.tdiv_eq_ediv_of_nonneg hs.1]; exact IntWalk.i64_in _ (by omega)
  have a2 : (s / 60).tmod 60 = s / 60 % 60 := Int.tmod_eq_emod_of_nonneg (by omega)
  have a3 : s.tmod 60 = s % 60 := Int.tmod_eq_emod_of_nonneg hs.1
  have A1 := Lib.hid a1
  have A2 := Lib.hid a2
  have A3 := Lib.hid a3
  clear a1 a2 a3
  have hB0 : Below w.heap.size w (((w.alloc (Obj.cells r.cells 25)).drewN nd).ext x1) := (by repeat (first | exact Below.refl _ _ | assumption | refine RowKit.Below.ext ?_ (by first | (simp; done) | (simp; omega) | omega) _ | refine Below.alloc ?_ (by first | (simp; done) | (simp; omega) | omega) _ | refine Below.drew ?_ | refine RowKit.Below.drawnN ?_ _ | refine Below.setCell ?_ (by first | (simp; done) | (simp; omega) | omega) _))
  have c10 : (((w.alloc (Obj.cells r.cells 25)).drewN nd).ext x1).cell? ⟨w.heap.size, 10, none⟩ = some r.mi.v := by go_simp
  have c11 : (((w.alloc (Obj.cells r.cells 25)).drewN nd).ext x1).cell? ⟨w.heap.size, 11, none⟩ = some r.se.v := by go_simp
  have C10 := Lib.hid c10
  have C11 := Lib.hid c11
  clear c10 c11
  go_wp2_with fail
  generalize (((w.alloc (Obj.cells r.cells 25)).drewN nd).ext x1) = V at hB0 C10 C11 ⊢
  go_loopg [7, 35] 24 (fun gg v7 v35 wr => ∃ k : Nat, k ≤ 24 ∧ 24 - k ≤ gg ∧ v35 = .int .i64 k ∧ Hid (OwnI V.heap.size wr v7 (nats k)) ∧ Hid (Below V.heap.size V wr))
  case atStart => exact ⟨0, by omega, by omega, rfl, OwnI.nil _ _, Below.refl _ _⟩
  case round =>
    obtain ⟨k, hk1, hk2, rfl, HO, HBu⟩ := hrel
    by_cases hlt : k < 24
    · have hltz : (k : Int) < 24 := by omega
      have own0 := HO.out
      unfold OwnI at own0
      rw [nats_len] at own0
      have OWN := Lib.hid own0
      have hbs := HBu.out.size
      have HHK := Lib.hid hk2
      clear own0 hk2
      go_wp2_with (at_builtin; refine wpList_append_own _ rfl _ _ 22 rfl V.heap.size 3 i0 (.int .i64 0) 1 8 Tryz.underlying22 hi hz0 hz1 hz2 rfl (by decide) _ _ _ rfl (OWN.out.alloc _) ⟨wr.heap.size, 0, none⟩ 1 1 [.int .i64 k] rfl rfl ?c1 ?c2 ?c3 ?c4 ?c5 ?_)
      case c1 =>
        intro j u hj
        match j, hj with
        | 0, hj => simp at hj; subst hj; simp [Addr.add]
      case c2 => intro u hu; simp at hu; subst hu; rfl
      case c3 => unfold maxLen; omega
      case c4 => omega
      case c5 => simp; omega
      intro v' w1 hown' hgrow _
      have hO2 : OwnI V.heap.size w1 v' (nats (k + 1)) := by
        rw [nats_succ]; exact OwnI.snoc (by rw [nats_len]; exact hown')
      have hBu2 : Below V.heap.size V w1 := (HBu.out.alloc HBu.out.size _).grown hgrow (by simp; omega) (row_lt HO.out)
      have HO2 := Lib.hid hO2
      have HBu2 := Lib.hid hBu2
      clear hown' hgrow hO2 hBu2 HO OWN HBu hbs
      go_wp2
      go_roundg (24 - (k + 1))
      case measure => have := HHK.out; omega
      case rel => exact ⟨k + 1, by omega, by omega, by go_num, HO2.out, HBu2.out⟩
    · obtain rfl : k = 24 := by omega
      obtain ⟨sh, rfl, hsh, hin⟩ := SlI.of_own HO.out (by rw [nats_len]; omega)
      have hB : Below w.heap.size w wr := hB0.trans (HBu.out.mono hB0.size)
      have c10 : wr.cell? ⟨w.heap.size, 10, none⟩ = some r.mi.v := cell_of_below HBu.out C10.out
      have c11 : wr.cell? ⟨w.heap.size, 11, none⟩ = some r.se.v := cell_of_below HBu.out C11.out
      have hsh2 : sh.l = hoursP r.f r.ho.l s := hsh.trans HK1.out.symm
      have HSH := Lib.hid hsh2
      have HIN := Lib.hid hin
      have a1 := A1.out
      have a2 := A2.out
      have a3 := A3.out
      have hBs := hB.size
      clear hsh hin hsh2 HK1 HO HBu C10 C11 hB0 A1 A2 A3 hi hz0 hz1 hz2 hk1 hk2 hlt
      obtain ⟨W, rfl⟩ : ∃ W : World, W = wr := ⟨_, rfl⟩
      go_wp2_with fail
      go_region_held3 (fun w' => w'.cell? ⟨w.heap.size, 10, none⟩ = some r.mi.v ∧ w'.cell? ⟨w.heap.size, 11, none⟩ = some r.se.v)
        (first | go_keep | (go_split_ands; refine ⟨?_, ?_⟩ <;> go_simp))
        (first
          | (go_at_call 52; (with_reducible refine Calls.mono (part_any r.mi _ _ ?hq) ?_); (case hq => exact HR.out.mi.below (by repeat (first | exact Below.refl _ _ | assumption | refine RowKit.Below.ext ?_ (by first | (simp; done) | (simp; omega) | omega) _ | refine Below.alloc ?_ (by first | (simp; done) | (simp; omega) | omega) _ | refine Below.drew ?_ | refine RowKit.Below.drawnN ?_ _ | refine Below.setCell ?_ (by first | (simp; done) | (simp; omega) | omega) _))); rintro e w1 ⟨sm, rfl, hsm, him, hbm⟩; obtain ⟨xm, rfl⟩ := hbm.toExt; clear hbm; have HSM := Lib.hid hsm; have HIM := Lib.hid him; clear hsm him)
          | (go_at_call 52; (with_reducible refine Calls.mono (part_any r.se _ _ ?hq2) ?_); (case hq2 => exact HR.out.se.below (by repeat (first | exact Below.refl _ _ | assumption | refine RowKit.Below.ext ?_ (by first | (simp; done) | (simp; omega) | omega) _ | refine Below.alloc ?_ (by first | (simp; done) | (simp; omega) | omega) _ | refine Below.drew ?_ | refine RowKit.Below.drawnN ?_ _ | refine Below.setCell ?_ (by first | (simp; done) | (simp; omega) | omega) _))); rintro e w1 ⟨ss, rfl, hss, his, hbs⟩; obtain ⟨xs, rfl⟩ := hbs.toExt; clear hbs; have HSS := Lib.hid hss; have HIS := Lib.hid his; clear hss his))
      clear c10 c11 a1 a2 a3
      go_wp2_with fail
      have hB2 : Below w.heap.size w ((W.ext xm).ext xs) := (by repeat (first | exact Below.refl _ _ | assumption | refine RowKit.Below.ext ?_ (by first | (simp; done) | (simp; omega) | omega) _ | refine Below.alloc ?_ (by first | (simp; done) | (simp; omega) | omega) _ | refine Below.drew ?_ | refine RowKit.Below.drawnN ?_ _ | refine Below.setCell ?_ (by first | (simp; done) | (simp; omega) | omega) _))
      replace HIN := Lib.hid ((HIN.out.below (RowKit.Below.ofExt W xm)).below (RowKit.Below.ofExt _ xs))
      replace HIM := Lib.hid (HIM.out.below (RowKit.Below.ofExt _ xs))
      clear hB hBs
      have hB := hB2
      clear hB2
      have HIM2 : Hid (sm.In ((W.ext xm).ext xs)) := HIM
      have HIS2 : Hid (ss.In ((W.ext xm).ext xs)) := HIS
      clear HIM HIS
      have HIM := HIM2
      have HIS := HIS2
      clear HIM2 HIS2
      generalize ((W.ext xm).ext xs) = U at hB HIN HIM HIS ⊢
      obtain ⟨Ah, ch, lh⟩ := sh
      obtain ⟨Am, cm, lm⟩ := sm
      obtain ⟨As, cs, ls⟩ := ss
      dsimp only at HSH HSM HSS
      have b1 : ∀ x ∈ lh, 0 ≤ x ∧ x ≤ 23 := by rw [HSH.out]; exact HB1.out
      have b2 : ∀ x ∈ lm, 0 ≤ x ∧ x ≤ 59 := by rw [HSM.out]; exact HB2.out
      have b3 : ∀ x ∈ ls, 0 ≤ x ∧ x ≤ 59 := by rw [HSS.out]; exact HB3.out
      have l1 : lh.length ≤ 60 := by rw [HSH.out]; exact HL1.out
      have l2 : lm.length ≤ 60 := by rw [HSM.out]; exact HL2.out
      have l3 : ls.length ≤ 60 := by rw [HSS.out]; exact HL3.out
      have hEnd : row1 lh lm ls = timesP r.f r.ho.l r.mi.l r.se.l s := by unfold timesP hoursP minsP secsP; rw [HSH.out, HSM.out, HSS.out]; rfl
      have HEND := Lib.hid hEnd
      have hIh := HIN.out.2.2
      have hIm := HIM.out.2.2
      have hIs := HIS.out.2.2
      have QB1 := Lib.hid b1
      have QB2 := Lib.hid b2
      have QB3 := Lib.hid b3
      have QIh := Lib.hid hIh
      have QIm := Lib.hid hIm
      have QIs := Lib.hid hIs
      dsimp only at QIh QIm QIs
      clear b1 b2 b3 hEnd hIh hIm hIs HSH HSM HSS HIN HIM HIS HB1 HB2 HB3 HL1 HL2 HL3 HR
      obtain ⟨i0, hi, hz0, hz1, hz2⟩ := info_parts info3
      dsimp only [SlI.v]
      go_loopg [11, 58] lh.length (fun gg v11 v58 wr => ∃ i : Nat, i ≤ lh.length ∧ lh.length - i ≤ gg ∧ v58 = .int .i64 i ∧ Hid (OwnI U.heap.size wr v11 (row1 (lh.take i) lm ls)) ∧ Hid (Below U.heap.size U wr))
      case atStart => exact ⟨0, by omega, by omega, rfl, OwnI.nil _ _, Below.refl _ _⟩
      case round =>
        obtain ⟨i, hi1, hi2, rfl, HO, HBu⟩ := hrel
        by_cases hlt : i < lh.length
        · have hltz : (i : Int) < (lh.length : Int) := by omega
          obtain ⟨bh, oh, rfl, hch⟩ := QIh.out (by intro h; rw [h] at hlt; simp at hlt)
          have hc1 := cell_of_below HBu.out (hch i hlt)
          have hx1 := QB1.out lh[i] (List.getElem_mem hlt)
          have hT := row1_succ lh lm ls i hlt
          clear hch
          generalize lh[i] = xh at hc1 hx1 hT
          have HT := Lib.hid hT
          have HHI := Lib.hid hi2
          clear hT hi2
          go_wp2_with fail
          clear hc1
          obtain ⟨wo, rfl⟩ : ∃ wo : World, wo = wr := ⟨_, rfl⟩
          obtain ⟨go, rfl⟩ : ∃ go : Nat, go = gk := ⟨_, rfl⟩
          go_loopg [11, 64] lm.length (fun gg v11 v64 wr => ∃ j : Nat, j ≤ lm.length ∧ lm.length - j ≤ gg ∧ v64 = .int .i64 j ∧ Hid (OwnI U.heap.size wr v11 (row1 (lh.take i) lm ls ++ row2 xh (lm.take j) ls)) ∧ Hid (Below U.heap.size U wr))
          case atStart => exact ⟨0, by omega, by omega, rfl, by rw [show row2 xh (List.take 0 lm) ls = [] from rfl, List.append_nil]; exact HO.out, HBu.out⟩
          case round =>
            clear HO HBu
            obtain ⟨j, hj1, hj2, rfl, HO, HBu⟩ := hrel
            by_cases hlt2 : j < lm.length
            · have hltz2 : (j : Int) < (lm.length : Int) := by omega
              obtain ⟨bm, om, rfl, hcm⟩ := QIm.out (by intro h; rw [h] at hlt2; simp at hlt2)
              have hc2 := cell_of_below HBu.out (hcm j hlt2)
              have hx2 := QB2.out lm[j] (List.getElem_mem hlt2)
              have hT2 := row2_succ xh lm ls j hlt2
              clear hcm
              generalize lm[j] = xm2 at hc2 hx2 hT2
              have HT2 := Lib.hid hT2
              have HHJ := Lib.hid hj2
              clear hT2 hj2
              go_wp2_with fail
              clear hc2
              obtain ⟨wo2, rfl⟩ : ∃ wo2 : World, wo2 = wr := ⟨_, rfl⟩
              obtain ⟨go2, rfl⟩ : ∃ go2 : Nat, go2 = gk := ⟨_, rfl⟩
              go_loopg [11, 70] ls.length (fun gg v11 v70 wr => ∃ k : Nat, k ≤ ls.length ∧ ls.length - k ≤ gg ∧ v70 = .int .i64 k ∧ Hid (OwnI U.heap.size wr v11 (row1 (lh.take i) lm ls ++ row2 xh (lm.take j) ls ++ row3 xh xm2 (ls.take k))) ∧ Hid (Below U.heap.size U wr))
              case atStart => exact ⟨0, by omega, by omega, rfl, by rw [show row3 xh xm2 (List.take 0 ls) = [] from rfl, List.append_nil]; exact HO.out, HBu.out⟩
              case round =>
                clear HO HBu
                obtain ⟨k, hk1, hk2, rfl, HO, HBu⟩ := hrel
                by_cases hlt3 : k < ls.length
                · have hltz3 : (k : Int) < (ls.length : Int) := by omega
                  obtain ⟨bs, os, rfl, hcs⟩ := QIs.out (by intro h; rw [h] at hlt3; simp at hlt3)
                  have hc3 := cell_of_below HBu.out (hcs k hlt3)
                  have hx3 := QB3.out ls[k] (List.getElem_mem hlt3)
                  have hT3 := row3_succ xh xm2 ls k hlt3
                  clear hcs
                  generalize ls[k] = xs3 at hc3 hx3 hT3
                  have HT3 := Lib.hid hT3
                  have HHK := Lib.hid hk2
                  clear hT3 hk2
                  have hlen : (row1 (lh.take i) lm ls ++ row2 xh (lm.take j) ls ++ row3 xh xm2 (ls.take k)).length ≤ 300000 := by
                    have e1 := len_row1 (lh.take i) lm ls (by rw [List.length_take]; omega) l2 l3
                    have e2 := len_row2 xh (lm.take j) ls (by rw [List.length_take]; omega) l3
                    have e3 := len_row3 xh xm2 (ls.take k)
                    have e4 : (ls.take k).length ≤ 60 := by rw [List.length_take]; omega
                    rw [List.length_append, List.length_append]; omega
                  generalize hacc : row1 (lh.take i) lm ls ++ row2 xh (lm.take j) ls ++ row3 xh xm2 (ls.take k) = acc at HO hlen
                  have HACC := Lib.hid hacc
                  have HLEN := Lib.hid hlen
                  clear hacc hlen
                  have own0 := HO.out
                  unfold OwnI at own0
                  have OWN := Lib.hid own0
                  have hbs := HBu.out.size
                  clear own0
                  go_wp2_with (at_builtin; refine wpList_append_own _ rfl _ _ 22 rfl U.heap.size 3 i0 (.int .i64 0) 1 8 Tryz.underlying22 hi hz0 hz1 hz2 rfl (by decide) _ _ _ rfl (OWN.out.alloc _) ⟨wr.heap.size, 0, none⟩ 1 1 [.int .i64 (3600 * xh + 60 * xm2 + xs3)] rfl rfl ?c1 ?c2 ?c3 ?c4 ?c5 ?_)
                  case c1 =>
                    intro j u hj
                    match j, hj with
                    | 0, hj => simp at hj; subst hj; simp [Addr.add]
                  case c2 => intro u hu; simp at hu; subst hu; rfl
                  case c3 => have := HLEN.out; unfold maxLen; omega
                  case c4 => have := HLEN.out; omega
                  case c5 => simp; omega
                  intro v' w1 hown' hgrow _
                  have hO2 : OwnI U.heap.size w1 v' (row1 (lh.take i) lm ls ++ row2 xh (lm.take j) ls ++ row3 xh xm2 (ls.take (k + 1))) := by
                    rw [HT3.out, ← List.append_assoc, HACC.out]; exact OwnI.snoc hown'
                  have hBu2 : Below U.heap.size U w1 := (HBu.out.alloc HBu.out.size _).grown hgrow (by simp; omega) (row_lt HO.out)
                  have HO2 := Lib.hid hO2
                  have HBu2 := Lib.hid hBu2
                  clear hown' hgrow hO2 hBu2 HO OWN HBu hbs hc3
                  go_wp2
                  go_roundg (ls.length - (k + 1))
                  case measure => have := HHK.out; omega
                  case rel => exact ⟨k + 1, by omega, by omega, by go_num, HO2.out, HBu2.out⟩
                · have hltz3 : ¬ (k : Int) < (ls.length : Int) := by omega
                  have HK := Lib.hid (show k = ls.length by omega)
                  go_wp2
                  go_roundg (lm.length - (j + 1))
                  case measure => have := HHJ.out; omega
                  case rel => exact ⟨j + 1, by omega, by omega, by go_num, by rw [HT2.out, ← List.append_assoc]; have := HO.out; rw [HK.out, List.take_length] at this; exact this, HBu.out⟩
            · have hltz2 : ¬ (j : Int) < (lm.length : Int) := by omega
              have HJ := Lib.hid (show j = lm.length by omega)
              go_wp2
              go_roundg (lh.length - (i + 1))
              case measure => have := HHI.out; omega
              case rel => exact ⟨i + 1, by omega, by omega, by go_num, by rw [HT.out]; have := HO.out; rw [HJ.out, List.take_length] at this; exact this, HBu.out⟩
        · have hltz : ¬ (i : Int) < (lh.length : Int) := by omega
          have HI := Lib.hid (show i = lh.length by omega)
          go_wp2
          go_ret
          have hO := HO.out
          rw [HI.out, List.take_length] at hO
          have hll := len_row1 lh lm ls l1 l2 l3
          obtain ⟨so, rfl, h1, h2, h3⟩ := SlI.of_ownF hO (by omega)
          exact ⟨so, rfl, h1.trans HEND.out, h2, hB.trans (HBu.out.mono hB.size), fun a ha => Nat.le_trans hB.size (h3 a ha)⟩

theorem times_new (r : Rc) (t : Int) (w : World) (hr : r.In w) (h1 : -1000000000000 ≤ t) (h2 : t ≤ 1000000000000)
    (l1 : r.ho.l.length ≤ 60) (l2 : r.mi.l.length ≤ 60) (l3 : r.se.l.length ≤ 60) (b1 : ∀ x ∈ r.ho.l, 0 ≤ x ∧ x ≤ 23) (b2 : ∀ x ∈ r.mi.l, 0 ≤ x ∧ x ≤ 59) (b3 : ∀ x ∈ r.se.l, 0 ≤ x ∧ x ≤ 59) :
    Calls Tryz.prog 26 #[r.val, .int .i64 t] w (RetF (timesP r.f r.ho.l r.mi.l r.se.l (t % 86400)) w) := by
  by_cases hx : r.ho.l = [] ∧ r.f = 5
  · exact times_new2 r t w hr h1 h2 hx l1 l2 l3 b1 b2 b3
  · exact times_new1 r t w hr h1 h2 hx l1 l2 l3 b1 b2 b3
end Go.Proofs.YthilkphnjffnhaaGreat
