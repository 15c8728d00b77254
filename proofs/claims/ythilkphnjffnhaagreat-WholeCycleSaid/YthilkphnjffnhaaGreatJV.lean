/- The plain laws: two runs of the iterator, 400 years apart. -/
import Derived.Test.YthilkphnjffnhaaGreatJU
import Derived.Test.YthilkphnjffnhaaGreatJR
import Derived.Test.YthilkphnjffnhaaGreatF4
namespace Go.Proofs.YthilkphnjffnhaaGreat
open Go.RowKit
set_option linter.unusedVariables false
set_option linter.unusedSimpArgs false
theorem skipL_ge (r : Rc) (h3 : 1 ≤ r.ws) (h4 : r.ws ≤ 7) : ∀ (k : Nat) (t : Int), -62121600000 ≤ t → t ≤ skipL r k t := by
  intro k
  induction k with
  | zero => intro t _; exact Int.le_refl _
  | succ k ih =>
    intro t h1
    unfold skipL
    split
    · rename_i h
      have hb := perP_bd r t h1 h h3 h4
      have := ih (perP r t).2 (by omega)
      omega
    · exact Int.le_refl _
theorem skipL_400 (r : Rc) (u : Int) (h3 : 1 ≤ r.ws) (h4 : r.ws ≤ 7) : ∀ (k : Nat) (t : Int), -62121600000 ≤ t →
    skipL { r with un := u } k (t + 12622780800) = skipL r k t + 12622780800 ∨ (240742540800 ≤ skipL r k t ∧ 240742540800 + 12622780800 ≤ skipL { r with un := u } k (t + 12622780800)) := by
  intro k
  induction k with
  | zero => intro t _; exact .inl rfl
  | succ k ih =>
    intro t h1
    by_cases hH : t < 240742540800
    · obtain ⟨_, p2⟩ := perP_400 r t u h1 hH
      have hb := perP_bd r t h1 (by omega) h3 h4
      have e1 : skipL r (k + 1) t = skipL r k (perP r t).2 := by
        conv => lhs; unfold skipL
        rw [if_pos (by omega)]
      have e2 : skipL { r with un := u } (k + 1) (t + 12622780800) = skipL { r with un := u } k ((perP r t).2 + 12622780800) := by
        conv => lhs; unfold skipL
        rw [if_pos (by omega), p2]
      rw [e1, e2]
      exact ih _ (by omega)
    · right
      have g1 := skipL_ge r h3 h4 (k + 1) t h1
      have g2 := skipL_ge { r with un := u } h3 h4 (k + 1) (t + 12622780800) (by omega)
      omega
theorem restG_400 (r : Rc) (t l u : Int) (hk : r.Ok) (ht1 : -62121600000 ≤ t) (ht2 : t < 240778656000) (h1 : -62121600000 ≤ l - 32227200) (h2 : l < 240742540800) : restG { r with un := u } (t + 12622780800) (l + 12622780800) = restG r t l := by
  have hb := perP_bd r l (by omega) (by omega) hk.s1 hk.s7
  obtain ⟨p1, p2⟩ := perP_400 r l u (by omega) h2
  have m1 : max (perP r l).1 (-62135596800) = (perP r l).1 := by omega
  have m2 : max ((perP r l).1 + 12622780800) (-62135596800) = (perP r l).1 + 12622780800 := by omega
  unfold restG
  rw [p1, m1, m2, numP_400b r (perP r l).1 u hk.f1 hk.f5 (by omega) (by omega), numP_400b r t u hk.f1 hk.f5 ht1 ht2]
  dsimp only
  congr 1
  omega
theorem day_400 (t : Int) : (t + 12622780800) / 86400 = t / 86400 + 146097 := by omega
theorem offG_400 (r : Rc) (t l u : Int) (ht1 : -62066476800 ≤ t) (ht2 : t < 240778656000 - 86400) (h1 : -62066476800 ≤ l) (h2 : l < 240742540800) : offG { r with un := u } (t + 12622780800) (l + 12622780800) = offG r t l := by
  unfold offG
  rw [day_400, day_400, passP_400b r u (t / 86400) (l / 86400) (by omega) (by omega) (by omega) (by omega)]
theorem candG_400 (r : Rc) (t l u : Int) (hk : r.Ok) (ht1 : -62066476800 ≤ t) (ht2 : t < 240710400000) (h1 : -62066476800 ≤ l) (h2 : l < 240742540800) : candG { r with un := u } (t + 12622780800) (l + 12622780800) = mvL (candG r t l) := by
  have hb := perP_bd r l (by omega) (by omega) hk.s1 hk.s7
  obtain ⟨p1, p2⟩ := perP_400 r l u (by omega) h2
  have m1 : max (perP r l).1 (-62135596800) = (perP r l).1 := by omega
  have m2 : max ((perP r l).1 + 12622780800) (-62135596800) = (perP r l).1 + 12622780800 := by omega
  have m3 : min (perP r l).2 253402300800 = (perP r l).2 := by omega
  have m4 : min ((perP r l).2 + 12622780800) 253402300800 = (perP r l).2 + 12622780800 := by omega
  have ed : (t + 12622780800) % 86400 = t % 86400 := by omega
  unfold candG
  rw [p1, p2, m1, m2, m3, m4, ed, day_400, day_400, show (perP r l).2 + 12622780800 + 86399 = ((perP r l).2 + 86399) + 12622780800 by omega, day_400, upL_400]
  refine candP_400 r _ _ _ _ _ _ _ fun d hd => ?_
  have := upL_mem hd
  exact passP_400b r u (t / 86400) d (by omega) (by omega) (by omega) (by omega)
theorem listG_400 (r : Rc) (t l u : Int) (hk : r.Ok) (ht1 : -62066476800 ≤ t) (ht2 : t < 240710400000) (h1 : -62066476800 ≤ l) (h2 : l < 240742540800) : listG { r with un := u } (t + 12622780800) (l + 12622780800) = mvL (listG r t l) := by
  unfold listG
  rw [restG_400 r t l u hk (by omega) (by omega) (by omega) h2, offG_400 r t l u ht1 (by omega) h1 h2, candG_400 r t l u hk ht1 ht2 h1 h2]
  split
  · rfl
  · split
    · rfl
    · rw [chosenP_mv]
theorem nextG_400 (r : Rc) (t l u : Int) (hk : r.Ok) (ht1 : -62066476800 ≤ t) (ht2 : t < 240710400000) (h1 : -62066476800 ≤ l) (h2 : l < 240742540800) :
    nextG { r with un := u } (t + 12622780800) (l + 12622780800) = nextG r t l + 12622780800 ∨ (240742540800 ≤ nextG r t l ∧ 240742540800 + 12622780800 ≤ nextG { r with un := u } (t + 12622780800) (l + 12622780800)) := by
  have hb := perP_bd r l (by omega) (by omega) hk.s1 hk.s7
  obtain ⟨p1, p2⟩ := perP_400 r l u (by omega) h2
  unfold nextG
  rw [restG_400 r t l u hk (by omega) (by omega) (by omega) h2, offG_400 r t l u ht1 (by omega) h1 h2]
  split
  · unfold skipP
    dsimp only
    rw [p1, p2]
    split
    · left; omega
    · split
      · left; omega
      · split
        · left; omega
        · exact skipL_400 r u hk.s1 hk.s7 _ _ (by omega)
  · split
    · left; omega
    · left; exact p2
theorem feed_400 (t fr un un' fr' : Int) (hu : (un = 0 ∧ un' = 0) ∨ (un ≠ 0 ∧ un' ≠ 0 ∧ un' = un + 12622780800)) (hf : fr' = fr + 12622780800 ∨ (fr ≤ t ∧ fr' ≤ t + 12622780800)) :
    ∀ xs : List Int, (∀ x ∈ xs, x < 240779520000) → feed (t + 12622780800) fr' un' 253402300800 (mvL xs) = (mvL (feed t fr un 253402300800 xs).1, (feed t fr un 253402300800 xs).2) := by
  intro xs
  induction xs with
  | nil => intro _; rfl
  | cons x xs ih =>
    intro h
    have hx := h x (List.mem_cons_self ..)
    have ih' := ih (fun y hy => h y (List.mem_cons_of_mem _ hy))
    have e : mvL (x :: xs) = (x + 12622780800) :: mvL xs := rfl
    rw [e]
    simp only [feed]
    by_cases c1 : x < t ∨ x < fr
    · rw [if_pos c1, if_pos (by omega), ih']
    · rw [if_neg c1, if_neg (by omega)]
      by_cases c2 : (un ≠ 0 ∧ un < x) ∨ 253402300800 ≤ x
      · rw [if_pos c2, if_pos (by omega)]; rfl
      · rw [if_neg c2, if_neg (by omega), ih']
        rfl
def UnRel (un un' : Int) : Prop := (un = 0 ∧ un' = 0) ∨ (un ≠ 0 ∧ un' ≠ 0 ∧ un' = un + 12622780800)
def LimRel (lim lim' : Int) : Prop := lim' = lim + 12622780800 ∨ (lim = 253402300800 ∧ lim' = 253402300800)
theorem condG_400 (r : Rc) (u a lim lim' : Int) (hu : UnRel r.un u) (hl : LimRel lim lim') (ha : a < 240742540800) : condG { r with un := u } 253402300800 (a + 12622780800) lim' ↔ condG r 253402300800 a lim := by
  unfold condG UnRel LimRel at *
  dsimp only
  constructor <;> intro h <;> omega
/-- the two runs -/
theorem sim (r : Rc) (t fr fr' u : Int) (hk : r.Ok) (ht1 : -62066476800 ≤ t) (ht2 : t < 240710400000) (hu : UnRel r.un u) (hf : fr' = fr + 12622780800 ∨ (fr ≤ t ∧ fr' ≤ t + 12622780800)) :
    ∀ a lim L, Gen r t fr 253402300800 a lim L → t ≤ a → ∀ lim' L', LimRel lim lim' → Gen { r with un := u } (t + 12622780800) fr' 253402300800 (a + 12622780800) lim' L' →
      ∃ P Z Z', L = P ++ Z ∧ L' = mvL P ++ Z' ∧ ((Z = [] ∧ Z' = []) ∨ ∃ a2 a2' lim2 lim2', 240742540800 ≤ a2 ∧ 240742540800 + 12622780800 ≤ a2' ∧ Gen r t fr 253402300800 a2 lim2 Z ∧ Gen { r with un := u } (t + 12622780800) fr' 253402300800 a2' lim2' Z') := by
  intro a lim L hG
  induction hG with
  | stop a lim hc =>
    intro ha lim' L' hl hG'
    by_cases hH : a < 240742540800
    · have hc' : ¬ condG { r with un := u } 253402300800 (a + 12622780800) lim' := fun h => hc ((condG_400 r u a lim lim' hu hl hH).1 h)
      exact ⟨[], [], [], rfl, by rw [hG'.inv_stop hc']; rfl, .inl ⟨rfl, rfl⟩⟩
    · exact ⟨[], [], L', rfl, rfl, .inr ⟨a, _, lim, lim', by omega, by omega, .stop _ _ hc, hG'⟩⟩
  | last a lim hc hs =>
    intro ha lim' L' hl hG'
    by_cases hH : a < 240742540800
    · have hc' := (condG_400 r u a lim lim' hu hl hH).2 hc
      have hL := listG_400 r t a u hk ht1 ht2 (by omega) hH
      have hb := perP_bd r a (by omega) (by omega) hk.s1 hk.s7
      have hF := feed_400 t fr r.un u fr' hu hf (listG r t a) (fun x hx => by have := mem_listG hx; omega)
      have hI := hG'.inv hc'
      dsimp only at hI
      rw [hL, hF] at hI
      rcases hI with ⟨_, h2⟩ | ⟨h1, _⟩
      · exact ⟨_, [], [], by rw [List.append_nil], by rw [h2, List.append_nil], .inl ⟨rfl, rfl⟩⟩
      · dsimp only at h1; rw [hs] at h1; cases h1
    · exact ⟨[], _, L', rfl, rfl, .inr ⟨a, _, lim, lim', by omega, by omega, .last _ _ hc hs, hG'⟩⟩
  | next a lim L hc hs hg ih =>
    intro ha lim' L' hl hG'
    by_cases hH : a < 240742540800
    · have hc' := (condG_400 r u a lim lim' hu hl hH).2 hc
      have hL := listG_400 r t a u hk ht1 ht2 (by omega) hH
      have hb := perP_bd r a (by omega) (by omega) hk.s1 hk.s7
      have hnb := nextG_bd r t a hk (by omega) (by omega)
      have hF := feed_400 t fr r.un u fr' hu hf (listG r t a) (fun x hx => by have := mem_listG hx; omega)
      have hI := hG'.inv hc'
      dsimp only at hI
      rw [hL, hF] at hI
      rcases hI with ⟨h1, _⟩ | ⟨_, L2, h2, h3⟩
      · dsimp only at h1; rw [hs] at h1; cases h1
      · rcases nextG_400 r t a u hk ht1 ht2 (by omega) hH with hn | ⟨hn1, hn2⟩
        · rw [hn] at h3
          have hl2 : LimRel (if (feed t fr r.un 253402300800 (listG r t a)).1 = [] then lim else 253402300800) (if mvL (feed t fr r.un 253402300800 (listG r t a)).1 = [] then lim' else 253402300800) := by
            by_cases he : (feed t fr r.un 253402300800 (listG r t a)).1 = []
            · rw [if_pos he, he, if_pos (show mvL [] = [] from rfl)]; exact hl
            · rw [if_neg he, if_neg (by unfold mvL; simpa using he)]; exact .inr ⟨rfl, rfl⟩
          obtain ⟨P, Z, Z', e1, e2, e3⟩ := ih (by omega) _ L2 hl2 h3
          refine ⟨(feed t fr r.un 253402300800 (listG r t a)).1 ++ P, Z, Z', by rw [e1, List.append_assoc], ?_, e3⟩
          rw [h2, e2]
          unfold mvL
          rw [List.map_append, List.append_assoc]
        · exact ⟨_, L, L2, rfl, h2, .inr ⟨_, _, _, _, hn1, hn2, hg, h3⟩⟩
    · exact ⟨[], _, L', rfl, rfl, .inr ⟨a, _, lim, lim', by omega, by omega, .next _ _ _ hc hs hg, hG'⟩⟩
/-- what comes late is late -/
theorem late (r : Rc) (t fr to : Int) (hk : r.Ok) (hto : to ≤ 253402300800) : ∀ a lim Z, Gen r t fr to a lim Z → 240742540800 ≤ a → ∀ x ∈ Z, 240710400000 ≤ x := by
  have hin : ∀ a x, 240742540800 ≤ a → a < to → x ∈ (feed t fr r.un to (listG r t a)).1 → 240710400000 ≤ x := fun a x ha hc hx => by
    have h1 := mem_listG (mem_feed hx)
    have hb := perD_bd r (a / 86400) (by omega) (by omega) hk.s1 hk.s7
    have : 240710400000 ≤ (perP r a).1 := by
      unfold perP
      split
      · dsimp only; omega
      · dsimp only; omega
    omega
  intro a lim Z hG
  induction hG with
  | stop a lim hc => intro _ x hx; cases hx
  | last a lim hc hs => intro ha x hx; exact hin a x ha hc.1.1 hx
  | next a lim L hc hs hg ih =>
    intro ha x hx
    rcases List.mem_append.1 hx with hx | hx
    · exact hin a x ha hc.1.1 hx
    · have hnb := nextG_bd r t a hk (by omega) (by have := hc.1.1; omega)
      exact ih (by omega) x hx
end Go.Proofs.YthilkphnjffnhaaGreat
/- The plain laws: occurrences and matches, 400 years later. -/
namespace Go.Proofs.YthilkphnjffnhaaGreat
open Go.RowKit
set_option linter.unusedVariables false
set_option linter.unusedSimpArgs false
theorem allSim (r : Rc) (t fr fr' u : Int) (hk : r.Ok) (ht1 : -62066476800 ≤ t) (ht2 : t < 240710400000) (hu : UnRel r.un u) (hf : fr' = fr + 12622780800 ∨ (fr ≤ t ∧ fr' ≤ t + 12622780800)) (L L' : List Int)
    (hL : AllL r t fr 253402300800 L) (hL' : AllL { r with un := u } (t + 12622780800) fr' 253402300800 L') :
    ∃ P Z Z', L = P ++ Z ∧ L' = mvL P ++ Z' ∧ ((Z = [] ∧ Z' = []) ∨ ((∀ x ∈ Z, 240710400000 ≤ x) ∧ (r.un ≠ 0 → r.un < 240710400000 → Z' = []))) := by
  have ed : (t + 12622780800) % 86400 = t % 86400 := by omega
  unfold AllL at hL hL'
  rw [ed] at hL'
  dsimp only at hL'
  rw [neverP_un, cycP_un] at hL'
  rcases hL with ⟨h1, rfl⟩ | ⟨h1, h2⟩
  · rcases hL' with ⟨_, rfl⟩ | ⟨h3, _⟩
    · exact ⟨[], [], [], rfl, rfl, .inl ⟨rfl, rfl⟩⟩
    · rw [h1] at h3; cases h3
  · rcases hL' with ⟨h3, _⟩ | ⟨_, h4⟩
    · rw [h1] at h3; cases h3
    · have em : max (t + 12622780800) fr' = max t fr + 12622780800 := by omega
      rw [em] at h4
      obtain ⟨P, Z, Z', e1, e2, e3⟩ := sim r t fr fr' u hk ht1 ht2 hu hf _ _ L h2 (by omega) _ L' (.inl (by omega)) h4
      refine ⟨P, Z, Z', e1, e2, ?_⟩
      rcases e3 with e3 | ⟨a2, a2', lim2, lim2', g1, g2, g3, g4⟩
      · exact .inl e3
      · right
        refine ⟨late r t fr 253402300800 hk (by omega) _ _ Z g3 g1, fun u1 u2 => g4.inv_stop fun hc => ?_⟩
        unfold condG UnRel at *
        dsimp only at hc
        omega
def nOf (r : Rc) : Nat := if 0 < r.ct then min r.ct.toNat 20 else 20
theorem take_nOf (r : Rc) (L : List Int) : (takeC r L).take 20 = L.take (nOf r) := by
  unfold takeC nOf
  split
  · rw [List.take_take, Nat.min_comm]
  · rfl
theorem mvL_take (L : List Int) (n : Nat) : (mvL L).take n = mvL (L.take n) := by unfold mvL; rw [List.map_take]
theorem mvL_append (a b : List Int) : mvL (a ++ b) = mvL a ++ mvL b := by unfold mvL; rw [List.map_append]
theorem mvL_length (a : List Int) : (mvL a).length = a.length := by unfold mvL; rw [List.length_map]

theorem first_law (r : Rc) (t u : Int) (hk : r.Ok) (ht1 : -62066476800 ≤ t) (ht2 : t < 240710400000) (hu : UnRel r.un u) (L L' : List Int)
    (hL : AllL r t (-62135596800) 253402300800 L) (hL' : AllL { r with un := u } (t + 12622780800) (-62135596800) 253402300800 L')
    (hend : ((takeC r L).take 20).length = 20 ∨ (0 < r.ct ∧ (((takeC r L).take 20).length : Int) = r.ct) ∨ (r.un ≠ 0 ∧ r.un < 240710400000))
    (hlast : ∀ h : 0 < ((takeC r L).take 20).length, ((takeC r L).take 20)[((takeC r L).take 20).length - 1] < 240710400000) :
    (takeC { r with un := u } L').take 20 = mvL ((takeC r L).take 20) := by
  have e0 : (takeC { r with un := u } L').take 20 = L'.take (nOf r) := take_nOf { r with un := u } L'
  rw [e0]
  simp only [take_nOf] at hend hlast ⊢
  obtain ⟨P, Z, Z', rfl, rfl, hz⟩ := allSim r t _ _ u hk ht1 ht2 hu (.inr ⟨by omega, by omega⟩) L L' hL hL'
  have hn : nOf r ≤ 20 ∧ (0 < r.ct → (nOf r : Int) ≤ r.ct) := by
    unfold nOf
    split
    · exact ⟨by omega, fun _ => by omega⟩
    · exact ⟨by omega, fun h => by omega⟩
  by_cases hc : nOf r ≤ P.length
  · rw [List.take_append_of_le_length hc, List.take_append_of_le_length (by rw [mvL_length]; exact hc), mvL_take]
  · rcases hz with ⟨rfl, rfl⟩ | ⟨hz1, hz2⟩
    · rw [List.append_nil, List.append_nil, mvL_take]
    · rcases Z with _ | ⟨z, Z⟩
      · rw [List.append_nil] at hend ⊢
        have hlen : (P.take (nOf r)).length = P.length := by rw [List.length_take]; omega
        have hZ' : Z' = [] := by
          rcases hend with h | ⟨h, h2⟩ | ⟨h, h2⟩
          · omega
          · have := hn.2 h; omega
          · exact hz2 h h2
        rw [hZ', List.append_nil, mvL_take]
      · exfalso
        have hlen : 0 < ((P ++ z :: Z).take (nOf r)).length := by rw [List.length_take, List.length_append, List.length_cons]; omega
        have h1 := hlast hlen
        have hle : P.length ≤ ((P ++ z :: Z).take (nOf r)).length - 1 := by rw [List.length_take, List.length_append, List.length_cons]; omega
        have h2 : ((P ++ z :: Z).take (nOf r))[((P ++ z :: Z).take (nOf r)).length - 1] ∈ z :: Z := by
          rw [List.getElem_take, List.getElem_append_right hle]
          exact List.getElem_mem _
        have := hz1 _ h2
        omega

theorem filQ_mv (q : Int) (X : List Int) : (mvL X).filter (fun x => decide (q + 12622780800 ≤ x)) = mvL (X.filter fun x => decide (q ≤ x)) := by
  unfold mvL
  rw [List.filter_map]
  congr 1
  refine List.filter_congr fun x _ => ?_
  simp only [Function.comp]
  congr 1
  apply propext
  constructor <;> intro h <;> omega
theorem filQ_occ (r : Rc) (q : Int) (L : List Int) : filQ q (occL r L) = (takeC r L).filter fun x => decide (q ≤ x) := by
  unfold filQ occL
  rw [pairsW_snd]
theorem next_law (r : Rc) (t q u : Int) (hk : r.Ok) (ht1 : -62066476800 ≤ t) (ht2 : t < 240710400000) (hu : UnRel r.un u) (M M' : List Int)
    (hM : FromL r t q 253402300800 M) (hM' : FromL { r with un := u } (t + 12622780800) (q + 12622780800) 253402300800 M')
    (h0 : (nextV M).2 = 0) (hx : (nextV M).1 < 240710400000) : nextV M' = ((nextV M).1 + 12622780800, 0) := by
  suffices H : ∃ P Z Z', M = P ++ Z ∧ M' = mvL P ++ Z' ∧ ∀ x ∈ Z, 240710400000 ≤ x by
    obtain ⟨P, Z, Z', rfl, rfl, hz⟩ := H
    rcases P with _ | ⟨p, P⟩
    · rcases Z with _ | ⟨z, Z⟩
      · cases h0
      · have := hz z (List.mem_cons_self ..)
        exfalso
        have hx' : z < 240710400000 := hx
        omega
    · rfl
  rcases hM with ⟨hc, hM⟩ | ⟨hc, L, hL, rfl⟩
  · rcases hM' with ⟨_, hM'⟩ | ⟨hc', _⟩
    · obtain ⟨P, Z, Z', e1, e2, e3⟩ := allSim r t q _ u hk ht1 ht2 hu (.inl rfl) M M' hM hM'
      refine ⟨P, Z, Z', e1, e2, ?_⟩
      rcases e3 with ⟨rfl, _⟩ | ⟨h, _⟩
      · intro x hx; cases hx
      · exact h
    · exact absurd hc hc'
  · rcases hM' with ⟨hc', _⟩ | ⟨_, L', hL', rfl⟩
    · exact absurd hc' hc
    · obtain ⟨P, Z, Z', rfl, rfl, e3⟩ := allSim r t _ _ u hk ht1 ht2 hu (.inr ⟨by omega, by omega⟩) L L' hL hL'
      have hZ : ∀ x ∈ Z, 240710400000 ≤ x := by
        rcases e3 with ⟨rfl, _⟩ | ⟨h, _⟩
        · intro x hx; cases hx
        · exact h
      rw [filQ_occ, filQ_occ]
      have hc0 := hk.c0
      have hct : 0 < r.ct := by omega
      have t1 : ∀ X : List Int, takeC r X = X.take r.ct.toNat := fun X => by unfold takeC; rw [if_pos hct]
      have t2 : ∀ X : List Int, takeC { r with un := u } X = X.take r.ct.toNat := fun X => by unfold takeC; rw [if_pos hct]
      rw [t1, t2, List.take_append, List.take_append, List.filter_append, List.filter_append, mvL_take, filQ_mv]
      refine ⟨_, _, _, rfl, rfl, fun x hx => hZ x (List.mem_of_mem_take (List.mem_filter.1 hx).1)⟩

theorem dFrom_400 (r : Rc) (d u : Int) (h1 : -719000 ≤ d) (h2 : d < 2786372) : dFrom { r with un := u } (d + 146097) = dFrom r d + 146097 ∧ dTo { r with un := u } (d + 146097) = dTo r d + 146097 := by
  have e := diP_400 d (by omega) (by omega)
  have w := wyr_400b d r.ws h1 (by omega)
  have k := wkS_400 d r.ws
  unfold dFrom dTo
  dsimp only
  rw [e, w, k, fw_400, show wyr d r.ws + 400 + 1 = (wyr d r.ws + 1) + 400 by omega, fw_400]
  dsimp only
  constructor
  · repeat' split
    all_goals omega
  · repeat' split
    all_goals omega
theorem secC_400 (r : Rc) (l d u : Int) (acc : Int × Int) (s : Int) : secC { r with un := u } (l + 12622780800) (d + 146097) acc s = secC r l d acc s := by
  unfold secC
  dsimp only
  have e1 : ((d + 146097) * 86400 + s) / 3600 = (d * 86400 + s) / 3600 + 3506328 := by omega
  have e2 : (l + 12622780800) / 3600 = l / 3600 + 3506328 := by omega
  rw [e1, e2]
  by_cases c : r.f = 5 ∧ (d * 86400 + s) / 3600 ≠ l / 3600
  · rw [if_pos c, if_pos ⟨c.1, by omega⟩]
  · rw [if_neg c, if_neg (fun h => c ⟨h.1, by omega⟩)]
    by_cases c2 : d * 86400 + s ≤ l
    · rw [if_pos c2, if_pos (by omega)]
    · rw [if_neg c2, if_neg (by omega)]
theorem placeD_400 (r : Rc) (X X' : DI) (secs : List Int) (l u : Int) (ds : List Int) (h : ∀ d ∈ ds, passP { r with un := u } X' (d + 146097) = passP r X d) :
    placeD { r with un := u } X' secs (l + 12622780800) (ds.map fun d => d + 146097) = placeD r X secs l ds := by
  unfold placeD
  rw [List.foldl_map]
  have hday : ∀ d ∈ ds, ∀ acc, dayC { r with un := u } X' secs (l + 12622780800) acc (d + 146097) = dayC r X secs l acc d := fun d hd acc => by
    unfold dayC
    rw [h d hd]
    have : secC { r with un := u } (l + 12622780800) (d + 146097) = secC r l d := by funext a s; exact secC_400 r l d u a s
    rw [this]
  generalize ((0, 0) : Int × Int) = acc
  induction ds generalizing acc with
  | nil => rfl
  | cons d ds ih =>
    rw [List.foldl_cons, List.foldl_cons, hday d (List.mem_cons_self ..)]
    exact ih (fun x hx => h x (List.mem_cons_of_mem _ hx)) (fun x hx => hday x (List.mem_cons_of_mem _ hx)) _
theorem placeP_400 (r : Rc) (t l u : Int) (hk : r.Ok) (ht1 : -62066476800 ≤ t) (ht2 : t < 240710400000) (h1 : -62066476800 ≤ l) (h2 : l < 240710400000) : placeP { r with un := u } (t + 12622780800) (l + 12622780800) = placeP r t l := by
  have hb := dFrom_bd r (l / 86400) (by omega) (by omega) hk.s1 hk.s7
  obtain ⟨e1, e2⟩ := dFrom_400 r (l / 86400) u (by omega) (by omega)
  have ed : (t + 12622780800) % 86400 = t % 86400 := by omega
  have m1 : max (dFrom r (l / 86400)) (-719162) = dFrom r (l / 86400) := by omega
  have m2 : max (dFrom r (l / 86400) + 146097) (-719162) = dFrom r (l / 86400) + 146097 := by omega
  have m3 : min (dTo r (l / 86400)) 2932897 = dTo r (l / 86400) := by omega
  have m4 : min (dTo r (l / 86400) + 146097) 2932897 = dTo r (l / 86400) + 146097 := by omega
  unfold placeP
  rw [ed, day_400, day_400, e1, e2, m1, m2, m3, m4, upL_400]
  refine placeD_400 r _ _ _ l u _ fun d hd => ?_
  have := upL_mem hd
  exact passP_400b r u (t / 86400) d (by omega) (by omega) (by omega) (by omega)
theorem matchP_400 (r : Rc) (t l u : Int) (hk : r.Ok) (hu : UnRel r.un u) (ht1 : -62066476800 ≤ t) (ht2 : t < 240710400000) (h1 : -62066476800 ≤ l) (h2 : l < 240710400000) : matchP { r with un := u } (t + 12622780800) (l + 12622780800) = matchP r t l := by
  have q1 := numP_400b r l u hk.f1 hk.f5 (by omega) (by omega)
  have q2 := numP_400b r t u hk.f1 hk.f5 (by omega) (by omega)
  have ed : (t + 12622780800) % 86400 = t % 86400 := by omega
  have el : (l + 12622780800) % 86400 = l % 86400 := by omega
  have hE : earlyP { r with un := u } (t + 12622780800) (l + 12622780800) = earlyP r t l := by
    unfold earlyP
    rw [q1, q2]
    dsimp only
    unfold UnRel at hu
    have a1 : decide (l + 12622780800 < t + 12622780800) = decide (l < t) := by congr 1; apply propext; constructor <;> intro h <;> omega
    have a2 : decide (u ≠ 0 ∧ u < l + 12622780800) = decide (r.un ≠ 0 ∧ r.un < l) := by congr 1; apply propext; constructor <;> intro h <;> omega
    rw [a1, a2]
    congr 3
    apply propext
    rw [show ∀ c : Int, numP r l + c - (numP r t + c) = numP r l - numP r t from fun c => by omega]
  have hO : onP { r with un := u } (t + 12622780800) (l + 12622780800) = onP r t l := by
    unfold onP
    rw [ed, el, day_400, day_400, passP_400b r u (t / 86400) (l / 86400) (by omega) (by omega) (by omega) (by omega)]
  unfold matchP
  rw [hE, hO, placeP_400 r t l u hk ht1 ht2 h1 h2]
theorem numP_same (r : Rc) (t l u : Int) (hk : r.Ok) (ht1 : -62066476800 ≤ t) (ht2 : t < 240710400000) (h1 : -62066476800 ≤ l) (h2 : l < 240710400000) : numP { r with un := u } (l + 12622780800) - numP { r with un := u } (t + 12622780800) = numP r l - numP r t := by
  rw [numP_400b r l u hk.f1 hk.f5 (by omega) (by omega), numP_400b r t u hk.f1 hk.f5 (by omega) (by omega)]
  omega
theorem validB_un (r : Rc) (u : Int) (hu : UnRel r.un u) (h : r.un = 0 ∨ (-62135596800 ≤ r.un ∧ r.un < 240779520000)) : validB { r with un := u } = validB r := by
  have hh : headP { r with un := u } ↔ headP r := by
    unfold headP UnRel at *
    dsimp only
    constructor <;> intro h <;> omega
  unfold validB
  rw [decide_eq_decide.2 hh]
end Go.Proofs.YthilkphnjffnhaaGreat
