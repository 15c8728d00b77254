/- The plain laws: what is moved by 400 years. -/
import Derived.Test.YthilkphnjffnhaaGreatJR
import Derived.Test.YthilkphnjffnhaaGreatW7
namespace Go.Proofs.YthilkphnjffnhaaGreat
open Go.RowKit
set_option linter.unusedVariables false
set_option linter.unusedSimpArgs false
theorem wyr_400b (d s : Int) (h1 : -719000 ≤ d) (h2 : d < 2786790) : wyr (d + 146097) s = wyr d s + 400 := by
  have hb := wkS_bd d s
  unfold wyr
  rw [wkS_400]
  have c1 : clampD (wkS d s + 146097 + 3) = clampD (wkS d s + 3) + 146097 := by unfold clampD; rw [if_pos (by omega), if_pos (by omega)]; omega
  have c2 : clampD (wkS d s + 3) = wkS d s + 3 := by unfold clampD; rw [if_pos (by omega)]
  obtain ⟨e1, _, _⟩ := dt_400 (wkS d s + 3) (by omega) (by omega)
  rw [c1, c2, e1, ny_400, show yr (wkS d s + 3) + 400 + 1 = (yr (wkS d s + 3) + 1) + 400 by omega, ny_400]
  by_cases q1 : wkS d s + 3 < ny (yr (wkS d s + 3))
  · rw [if_pos q1, if_pos (by omega)]; omega
  · rw [if_neg q1, if_neg (by omega)]
    by_cases q2 : ny (yr (wkS d s + 3) + 1) ≤ wkS d s + 3
    · rw [if_pos q2, if_pos (by omega)]
    · rw [if_neg q2, if_neg (by omega)]
theorem passP_400b (r : Rc) (u s day : Int) (h1 : -719000 ≤ day) (h2 : day < 2786790) (h3 : -719000 ≤ s) (h4 : s < 2786790) :
    passP { r with un := u } (diP (s + 146097)) (day + 146097) = passP r (diP s) day := by
  unfold passP
  rw [diP_400 day (by omega) (by omega), diP_400 s (by omega) (by omega)]
  have a1 : f1P { r with un := u } { diP day with y := (diP day).y + 400, day := day + 146097 } = f1P r (diP day) := rfl
  have a2 : f2P { r with un := u } { diP day with y := (diP day).y + 400, day := day + 146097 } = f2P r (diP day) := rfl
  have a3 : f3P { r with un := u } { diP day with y := (diP day).y + 400, day := day + 146097 } = f3P r (diP day) := rfl
  have a4 : f4P { r with un := u } { diP day with y := (diP day).y + 400, day := day + 146097 } = f4P r (diP day) := by
    unfold f4P
    dsimp only
    rw [wyr_400b day _ h1 h2, fw_400, show wyr day r.ws + 400 + 1 = (wyr day r.ws + 1) + 400 by omega, fw_400]
    have e1 : day + 146097 - (fw (wyr day r.ws) r.ws + 146097) = day - fw (wyr day r.ws) r.ws := by omega
    have e2 : fw (wyr day r.ws + 1) r.ws + 146097 - (fw (wyr day r.ws) r.ws + 146097) = fw (wyr day r.ws + 1) r.ws - fw (wyr day r.ws) r.ws := by omega
    rw [e1, e2]
    rfl
  have a5 : f5P { r with un := u } { diP day with y := (diP day).y + 400, day := day + 146097 } = f5P r (diP day) := by
    unfold f5P
    dsimp only
    rw [wkd_400]
    rfl
  have a6 : f6P { r with un := u } { diP day with y := (diP day).y + 400, day := day + 146097 } { diP s with y := (diP s).y + 400, day := s + 146097 } = f6P r (diP day) (diP s) := by
    unfold f6P
    dsimp only
    rw [wkd_400, wkd_400]
    rfl
  rw [a1, a2, a3, a4, a5, a6]
theorem numP_400b (r : Rc) (l u : Int) (g1 : 1 ≤ r.f) (g2 : r.f ≤ 5) (h1 : -62121600000 ≤ l) (h2 : l < 240778656000) : numP { r with un := u } (l + 12622780800) = numP r l + (if r.f = 1 then 400 else if r.f = 2 then 4800 else if r.f = 3 then 20871 else if r.f = 4 then 146097 else 3506328) := by
  have e1 : (l + 12622780800) / 86400 = l / 86400 + 146097 := by omega
  have e2 : (l + 12622780800) / 3600 = l / 3600 + 3506328 := by omega
  have q1 : -719000 ≤ l / 86400 := by omega
  have q2 : l / 86400 < 2786790 := by omega
  obtain ⟨d1, d2, _⟩ := dt_400 (l / 86400) (by omega) (by omega)
  unfold numP
  dsimp only
  rw [e1, e2, wkS_400, wyr_400b _ _ q1 q2, d1, d2]
  repeat' split
  all_goals omega

/-- moved by 400 years -/
def mvL (l : List Int) : List Int := l.map fun x => x + 12622780800
theorem perD_400 (r : Rc) (d u : Int) (h1 : -719000 ≤ d) (h2 : d < 2786372) : (perD { r with un := u } (d + 146097)).1 = (perD r d).1 + 146097 ∧ (perD { r with un := u } (d + 146097)).2 = (perD r d).2 + 146097 := by
  obtain ⟨e1, e2, e3⟩ := dt_400 d (by omega) (by omega)
  have hy := yr_bd d (by omega) (by omega)
  have h9599 : ny 9599 = 2786435 := by decide
  have hy2 : yr d ≠ 9599 := fun e => by rw [e] at hy; omega
  have f1 := fw_400 (yr d) r.ws
  have f2 := fw_400 (yr d - 1) r.ws
  have f3 := fw_400 (yr d + 1) r.ws
  have f4 := fw_400 (yr d + 2) r.ws
  have n1 := ny_400 (yr d)
  have n2 := ny_400 (yr d + 1)
  have hw := wkS_400 d r.ws
  have hm := mlen_400 (yr d) (mo d)
  unfold perD
  dsimp only
  rw [e1, e2, e3, show yr d + 400 - 1 = yr d - 1 + 400 by omega, show yr d + 400 + 1 = yr d + 1 + 400 by omega, show yr d + 400 + 2 = yr d + 2 + 400 by omega, f1, f2, f3, f4, n1, n2, hw, hm]
  have hyr : yr d ≠ 9999 := fun e => by
    rw [e] at hy
    have : ny 9999 = 2932532 := by decide
    omega
  repeat' split
  all_goals first
    | (exfalso; omega)
    | (constructor <;> dsimp only <;> omega)
theorem perP_400 (r : Rc) (l u : Int) (h1 : -62121600000 ≤ l) (h2 : l < 240742540800) : (perP { r with un := u } (l + 12622780800)).1 = (perP r l).1 + 12622780800 ∧ (perP { r with un := u } (l + 12622780800)).2 = (perP r l).2 + 12622780800 := by
  have e : (l + 12622780800) / 86400 = l / 86400 + 146097 := by omega
  have e2 : (l + 12622780800) / 3600 = l / 3600 + 3506328 := by omega
  obtain ⟨k1, k2⟩ := perD_400 r (l / 86400) u (by omega) (by omega)
  unfold perP
  dsimp only
  rw [e, e2, k1, k2]
  split
  · constructor <;> dsimp only <;> omega
  · constructor <;> dsimp only <;> omega
end Go.Proofs.YthilkphnjffnhaaGreat
/- The plain laws: the lists of a period, 400 years later. -/
namespace Go.Proofs.YthilkphnjffnhaaGreat
open Go.RowKit
set_option linter.unusedVariables false
set_option linter.unusedSimpArgs false
theorem upL_400 (a b : Int) : upL (a + 146097) (b + 146097) = (upL a b).map fun d => d + 146097 := by
  unfold upL
  rw [show b + 146097 - (a + 146097) = b - a by omega, List.map_map]
  refine List.map_congr_left fun i _ => ?_
  show a + 146097 + (i : Int) = a + (i : Int) + 146097
  omega
theorem candS_400 (d a b : Int) (secs : List Int) : candS (d + 146097) (a + 12622780800) (b + 12622780800) secs = mvL (candS d a b secs) := by
  unfold candS mvL
  rw [List.filter_map, List.filter_map, List.map_map]
  have e : (fun l => decide (a + 12622780800 ≤ l ∧ l < b + 12622780800)) ∘ (fun s => 86400 * (d + 146097) + s) = (fun l => decide (a ≤ l ∧ l < b)) ∘ (fun s : Int => 86400 * d + s) := by
    funext s
    simp only [Function.comp]
    congr 1
    apply propext
    constructor <;> intro h <;> omega
  rw [e]
  refine List.map_congr_left fun s _ => ?_
  simp only [Function.comp]
  omega
theorem candP_400 (r r' : Rc) (X X' : DI) (a b : Int) (secs ds : List Int) (h : ∀ d ∈ ds, passP r' X' (d + 146097) = passP r X d) :
    candP r' X' (a + 12622780800) (b + 12622780800) secs (ds.map fun d => d + 146097) = mvL (candP r X a b secs ds) := by
  unfold candP
  induction ds with
  | nil => rfl
  | cons d ds ih =>
    rw [List.map_cons, List.flatMap_cons, List.flatMap_cons, ih (fun x hx => h x (List.mem_cons_of_mem _ hx)), h d (List.mem_cons_self ..), candS_400]
    unfold mvL
    rw [List.map_append]
    congr 1
    split <;> rfl
theorem compact_mv (l : List Int) : Lib.compact (mvL l) = mvL (Lib.compact l) := by
  unfold Lib.compact Lib.compactUpTo mvL
  rw [List.map_map, List.length_map]
  have hget : ∀ j, j < l.length → ((l.map fun x => x + 12622780800).toArray[j]! : Int) = l.toArray[j]! + 12622780800 := fun j hj => by
    rw [getElem!_pos _ _ (by simpa using hj), getElem!_pos _ _ (by simpa using hj)]
    simp
  have hk : ∀ j ∈ List.range l.length, Lib.keeps (l.map fun x => x + 12622780800).toArray j = Lib.keeps l.toArray j := fun j hj => by
    have hj' : j < l.length := by simpa using hj
    unfold Lib.keeps
    rw [hget j hj', hget (j - 1) (by omega)]
    congr 1
    simp
  rw [List.filter_congr hk]
  refine List.map_congr_left fun j hj => ?_
  have hj' : j < l.length := by simpa using (List.mem_filter.1 hj).1
  exact hget j hj'
theorem setP_mv (l : List Int) : setP (mvL l) = mvL (setP l) := by
  unfold setP
  rw [← compact_mv]
  congr 1
  unfold mvL
  rw [List.map_mergeSort]
  intro a _ b _
  simp
theorem choL_mv (po l : List Int) : choL po (mvL l) = mvL (choL po l) := by
  have hl : (mvL l).length = l.length := by simp [mvL]
  induction po with
  | nil => rfl
  | cons n po ih =>
    unfold choL at ih ⊢
    rw [hl] at ih ⊢
    have e : (if (posP n l.length).2 = true then (mvL l)[(posP n l.length).1.toNat]? else none) = (if (posP n l.length).2 = true then l[(posP n l.length).1.toNat]? else none).map fun x => x + 12622780800 := by
      unfold mvL
      split
      · rw [List.getElem?_map]
      · rfl
    rw [List.filterMap_cons, List.filterMap_cons, e]
    cases (if (posP n l.length).2 = true then l[(posP n l.length).1.toNat]? else none) with
    | none => exact ih
    | some x => simp only [Option.map_some]; rw [ih]; rfl
theorem chosenP_mv (r : Rc) (u : Int) (l : List Int) : chosenP { r with un := u } (mvL l) = mvL (chosenP r l) := by
  unfold chosenP
  dsimp only
  split
  · rfl
  · rw [choL_mv, setP_mv]
theorem chosenP_un (r : Rc) (u : Int) (l : List Int) : chosenP { r with un := u } l = chosenP r l := rfl
theorem neverP_un (r : Rc) (u : Int) (l : List Int) : neverP { r with un := u } l = neverP r l := rfl
theorem cycP_un (r : Rc) (u : Int) : cycP { r with un := u } = cycP r := rfl
theorem mem_choL {po l : List Int} {x : Int} (h : x ∈ choL po l) : x ∈ l := by
  unfold choL at h
  obtain ⟨n, _, hn⟩ := List.mem_filterMap.1 h
  split at hn
  · exact List.mem_of_getElem? hn
  · cases hn
theorem mem_chosenP {r : Rc} {l : List Int} {x : Int} (h : x ∈ chosenP r l) : x ∈ l := by
  unfold chosenP at h
  split at h
  · exact h
  · exact mem_choL (mem_setP h)
theorem mem_candP {r : Rc} {X : DI} {a b : Int} {secs ds : List Int} {x : Int} (h : x ∈ candP r X a b secs ds) : a ≤ x ∧ x < b := by
  unfold candP at h
  obtain ⟨d, _, hd⟩ := List.mem_flatMap.1 h
  split at hd
  · unfold candS at hd
    simpa using (List.mem_filter.1 hd).2
  · cases hd
theorem mem_listG {r : Rc} {t l x : Int} (h : x ∈ listG r t l) : (perP r l).1 ≤ x ∧ x < (perP r l).2 := by
  unfold listG at h
  split at h
  · cases h
  · split at h
    · cases h
    · exact mem_candP (mem_chosenP h)
theorem mem_feed {t fr un to : Int} {l : List Int} {x : Int} (h : x ∈ (feed t fr un to l).1) : x ∈ l := by
  induction l with
  | nil => cases h
  | cons y l ih =>
    simp only [feed] at h
    split at h
    · exact List.mem_cons_of_mem _ (ih h)
    · split at h
      · cases h
      · rcases List.mem_cons.1 h with rfl | h
        · exact List.mem_cons_self ..
        · exact List.mem_cons_of_mem _ (ih h)
end Go.Proofs.YthilkphnjffnhaaGreat
