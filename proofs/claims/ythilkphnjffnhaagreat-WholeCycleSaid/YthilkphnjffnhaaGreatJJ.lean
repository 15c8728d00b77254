/- Regions that draw their order, in the body of a loop over a function. -/
import Derived.RangeFuncCalls
import Derived.TacticsInMore
import Derived.Test.YthilkphnjffnhaaGreatJA
import Derived.RangeFuncNested
import Derived.RangeFuncBound
import Derived.RangeFuncLeaves
import Derived.WalkKit
import Derived.OwnWalkIn
import Derived.LoopNIn
import Derived.LoopIn
import Derived.Test.YthilkphnjffnhaaGreatJI
namespace Go
set_option linter.unusedVariables false
set_option linter.unusedSimpArgs false
section
variable {P : Program}
theorem Rows.toIn {n : Nat} {row : String} {args : Array Value} {w : World} {R : Value → World → Prop} (h : Rows P row args w R) : RowsIn Fence.wide n P row args w R :=
  fun c cs _ => let ⟨v, w', r, s⟩ := h c cs; ⟨v, w', r, stepsIn_wide.2 s⟩

theorem upon_in {lr m : Nat} {o : Oper} {a : Act} {next next' : Act → World → Prop} {Q : Exit → Act → World → Prop} (hn : ∀ a w, next a w → next' a w) {r : Result Next}
    (h : o.upon P a next Q r) : o.uponIn (Fence.wide.inRound lr) m P a next' Q r := by
  cases r with
  | ok v w =>
    cases v with
    | value v => exact hn _ _ h
    | skip => exact hn _ _ h
    | defer d => exact hn _ _ h
    | enter f args =>
      refine ⟨(by intro h; cases h), (CallsIn.inRound lr (callsIn_wide.2 h)).mono ?_⟩
      intro e w' he
      cases e with
      | returned v => exact hn _ _ he
      | panicked c => exact he
      | outgrown => exact he
    | row row args =>
      refine ⟨(by intro h; cases h), ?_⟩
      have h2 : RowsIn (Fence.wide.inRound lr) (m - 1) P row args w (fun v w'' => next (a.put o.dst v) w'') := Rows.toIn h
      exact h2.mono fun v w' he => hn _ _ he
    | _ => exact h.elim
  | halt s w =>
    cases s with
    | panic v => exact h
    | _ => exact h.elim

def noDefer (l : List Oper) : Bool := l.all fun o => match o.op with | .defer _ => false | _ => true
theorem wpOps_in {lr m : Nat} {ops : Array Oper} {Q : Exit → Act → World → Prop} (hd : ∀ (i : Nat) (o : Oper), ops[i]? = some o → ∀ c : Call, o.op ≠ Op.defer c) (hno : ¬ LetsOut Q) (l : List Nat) :
    ∀ (a : Act) (w : World), wpOps P ops Q l a w → wpOpsIn (Fence.wide.inRound lr) m P ops Q l a w := by
  induction l with
  | nil => exact fun a w h => h
  | cons i rest ih =>
    intro a w h
    simp only [wpOps] at h
    simp only [wpOpsIn]
    cases ho : ops[i]? with
    | none => simp only [ho] at h; exact ih _ _ h
    | some o =>
      simp only [ho] at h ⊢
      by_cases hw : Region.wanted o (yielded ops a.tmps) = true
      · rw [if_pos hw] at h ⊢
        rcases h with h | h
        · refine ⟨fun _ _ => trivial, ?_⟩
          show o.uponIn _ m P a _ Q ((o.semAt (some lr) a.eval).run P w)
          rw [Oper.semAt_some lr a.eval o (hd i o ho)]
          exact upon_in ih h
        · exact absurd h.2 hno
      · rw [if_neg hw] at h ⊢
        exact ⟨fun _ _ => trivial, ih _ _ h⟩

theorem wpIn_region_calm_tail {lr m id : Nat} {Q : Exit → Act → World → Prop} {a : Act} {w : World} {l : List Oper} (n : Nat) (hm : P.follows .mixedOrders = true) (hB : Region.lexTailB .any l.toArray n = true) (hd : noDefer l = true) (hno : ¬ LetsOut Q)
    (h : wpQuiet P l.toArray (fun w' => ∃ x, w' = w.ext x) (fun a' => ∀ w', (∃ x, w' = w.ext x) → wpList P l.toArray Q (l.drop n) a' w') (l.take n) a) : (Code.region id l.toArray true).wpIn (Fence.wide.inRound lr) m P Q a w := by
  simp only [Region.lexTailB, Bool.and_eq_true, decide_eq_true_eq] at hB
  obtain ⟨⟨⟨⟨hsel, hn⟩, hs⟩, hc⟩, hlex⟩ := hB
  have hn' : n < l.length := by simpa using hn
  have htl : (l.take n).length = n := by simp; omega
  have hdl : (l.drop n).length = l.toArray.size - n := by simp
  have inv0 : HeadInv .any l.toArray n (Array.replicate l.toArray.size false) :=
    ⟨by simp, fun j oj _ hl => (by rw [getD_replicate_false] at hl; cases hl), fun t _ ht => getD_in (by simpa using ht) (getD_replicate_false _ _)⟩
  have H := wpAnyLC_lex (md := .any) (g := l.toArray.size - n) hsel hs hc hn (l.take n) 0 _ a (fun j hj => by
    have hj' : j < n := by rw [htl] at hj; exact hj
    simp [hj']) (by simpa using htl) inv0 (by rw [htl]; exact hlex) h
  have hC0 : ∃ x, ({ w with drawn := w.drawn + 1 } : World) = w.ext x := ⟨⟨#[], w.drawn + 1⟩, by simp [World.ext]⟩
  have := wpAny_of_headC (Q' := Q) (g := l.toArray.size - n) (fun listed a' w' hw' hL => by
    have := wpAny_of_seq (md := .any) (Q' := Q) (l.drop n) n listed a' w' (fun j => by simp [List.getElem?_drop]) (by rw [hdl]; exact hL.1) (hL.2 w' hw')
    rwa [hdl] at this) _ _ _ _ hC0 H
  rw [htl, show n + (l.toArray.size - n) = l.toArray.size by omega] at this
  refine wpIn_region_draw fun t => ?_
  simp only [Region.schedule, hm, Bool.true_or, if_true]
  refine wpOps_in (fun i o hi c hc => ?_) hno _ _ _ (wpAny_sound l.toArray.size t _ a _ this)
  have hmem : o ∈ l := by
    have := List.mem_of_getElem? (l := l) (i := i) (by simpa using hi)
    exact this
  have := List.all_eq_true.1 hd o hmem
  rw [hc] at this
  cases this
end
end Go
/- A law for the loops over functions, in which the loop and the function each own a set of blocks. -/
namespace Go.Proofs.YthilkphnjffnhaaGreat
open Go.RowKit
set_option linter.unusedVariables false
set_option linter.unusedSimpArgs false
abbrev FP := Nat → Prop
/-- of the blocks that lie there, at most those of S change -/
structure Lim (S : FP) (W W' : World) : Prop where
  os : W'.os = W.os
  tape : W'.tape = W.tape
  output : W'.output = W.output
  size : W.heap.size ≤ W'.heap.size
  block : ∀ k, k < W.heap.size → ¬ S k → W'.heap[k]? = W.heap[k]?
theorem Lim.refl (S : FP) (W : World) : Lim S W W := ⟨rfl, rfl, rfl, Nat.le_refl _, fun _ _ _ => rfl⟩
theorem Lim.mono {S T : FP} {W W' : World} (h : Lim S W W') (hs : ∀ k, k < W.heap.size → S k → T k) : Lim T W W' :=
  ⟨h.os, h.tape, h.output, h.size, fun k hk ht => h.block k hk (fun s => ht (hs k hk s))⟩
theorem Lim.of_below {n : Nat} {S : FP} {W W' : World} (h : Below n W W') (hs : ∀ k, k < W.heap.size → n ≤ k → S k) : Lim S W W' :=
  ⟨h.os, h.tape, h.output, h.size, fun k hk ht => h.block k (by
    rcases Nat.lt_or_ge k n with h1 | h1
    · exact h1
    · exact absurd (hs k hk h1) ht)⟩
theorem Lim.below {n : Nat} {S : FP} {W W' : World} (h : Lim S W W') (hs : ∀ k, S k → n ≤ k) (hn : n ≤ W.heap.size) : Below n W W' :=
  ⟨h.os, h.tape, h.output, h.size, fun k hk => h.block k (by omega) (fun s => by have := hs k s; omega)⟩
theorem Lim.put {S : FP} {W : World} {l : Nat} (o : Obj) (hs : S l) : Lim S W (W.putObj l o) :=
  ⟨rfl, rfl, rfl, by simp, fun k _ ht => World.putObj_heap_other (fun e => ht (by rw [e]; exact hs))⟩

/-- the set C has become C', and nothing but C has changed -/
structure Step (C C' : FP) (W W' : World) : Prop where
  lim : Lim C W W'
  fin : ∀ k, C' k → k < W'.heap.size
  old : ∀ k, C' k → k < W.heap.size → C k
theorem Step.trans {C C' C'' : FP} {A B D : World} (h : Step C C' A B) (k : Step C' C'' B D) : Step C C'' A D :=
  ⟨⟨k.lim.os.trans h.lim.os, k.lim.tape.trans h.lim.tape, k.lim.output.trans h.lim.output, Nat.le_trans h.lim.size k.lim.size,
    fun i hi hc => (k.lim.block i (Nat.lt_of_lt_of_le hi h.lim.size) (fun c => hc (h.old i c hi))).trans (h.lim.block i hi hc)⟩,
   k.fin, fun i hi hl => h.old i (k.old i hi (Nat.lt_of_lt_of_le hl h.lim.size)) hl⟩
theorem Step.refl {C : FP} {W : World} (h : ∀ k, C k → k < W.heap.size) : Step C C W W := ⟨Lim.refl _ _, h, fun _ h _ => h⟩
/-- a step of somebody else -/
theorem Step.other {C C' : FP} {w A B : World} (h : Step C C' w A) (k : Lim (fun i => w.heap.size ≤ i ∧ ¬ C' i) A B) : Step C C' w B :=
  ⟨⟨k.os.trans h.lim.os, k.tape.trans h.lim.tape, k.output.trans h.lim.output, Nat.le_trans h.lim.size k.size,
    fun i hi hc => (k.block i (Nat.lt_of_lt_of_le hi h.lim.size) (fun c => by omega)).trans (h.lim.block i hi hc)⟩,
   fun i hi => Nat.lt_of_lt_of_le (h.fin i hi) k.size, h.old⟩
theorem Step.below {C C' : FP} {W W' : World} (h : Step C C' W W') {n : Nat} (hn : n ≤ W.heap.size) (hc : ∀ k, C k → n ≤ k) : Below n W W' := h.lim.below hc hn

/-- what somebody else does behind n0 leaves J as it was -/
def Stab {β : Type} (n0 : Nat) (J : β → FP → World → Prop) : Prop :=
  ∀ s C W W', J s C W → (∀ k, C k → k < W.heap.size) → n0 ≤ W.heap.size → Lim (fun k => n0 ≤ k ∧ ¬ C k) W W' → J s C W'

abbrev FW : Fence := Fence.wide

/-- the function with what it has captured hands out L, one after the other, as long as it is told to go on -/
def SeqS {α : Type} (P : Program) (g : Nat) (lb : Array Value) (encs : α → Array Value) (L : List α) (R : FP) (w : World) : Prop :=
  ∀ (l : Nat) (J Jx : List α → FP → World → Prop) (C : FP) (W : World), Lim (fun k => ¬ R k) w W → (∀ k, C k → ¬ R k ∧ k < W.heap.size) → Stab W.heap.size J → Stab W.heap.size Jx →
    (∀ (m : Nat) pre x C1 W1, J pre C1 W1 → (∀ k, C1 k → k < W1.heap.size) → W.heap.size ≤ W1.heap.size → (pre ++ [x]) <+: L → YieldAt FW m P l (encs x) W1 fun e W' =>
      ∃ C', Step C1 C' W1 W' ∧ ((e = .returned (.bool true) ∧ J (pre ++ [x]) C' W') ∨ (e = .returned (.bool false) ∧ Jx (pre ++ [x]) C' W'))) →
    J [] C W →
    Calls P g (#[.func (.yield l) #[] #[]] ++ lb) W fun e W' => (∃ v, e = .returned v) ∧ ∃ C', Step C C' W W' ∧ (J L C' W' ∨ ∃ pre, pre <+: L ∧ Jx pre C' W')

theorem RoundIn.any {n m : Nat} {P : Program} {l : Nat} {f : FuncId} {tmps : Array Value} {assign body : Code} {w : World} {R : Ending → World → Prop} (h : RoundIn FW n P l f tmps assign body w R) : RoundIn FW m P l f tmps assign body w R :=
  ⟨h.1, fun c cs _ => h.2 c cs (room_wide _)⟩

/-- how the body of a round may be left -/
def sepPost {α : Type} (I : List α → FP → World → Prop) (Ix : Code → List α → FP → World → Prop) (xs : List α) (C : FP) (W : World) : Exit → Act → World → Prop
  | .normal, _, W' => ∃ C', Step C C' W W' ∧ I xs C' W'
  | .ret, _, W' => ∃ C', Step C C' W W' ∧ Ix .ret xs C' W'
  | .exit id, _, W' => ∃ C', Step C C' W W' ∧ Ix (.exit id) xs C' W'
  | .goto t, _, W' => ∃ C', Step C C' W W' ∧ Ix (.goto t) xs C' W'
  | .panic _, _, _ => False
  | .outgrown, _, _ => False

theorem Step.put {C C' : FP} {w A : World} {l : Nat} (h : Step C C' w A) (o : Obj) (hl : w.heap.size ≤ l) (hc : ¬ C' l) : Step C C' w (A.putObj l o) := h.other (Lim.put o ⟨hl, hc⟩)
theorem Stab.put {β : Type} {n0 : Nat} {J : β → FP → World → Prop} (h : Stab n0 J) {s : β} {C : FP} {W : World} {l : Nat} (o : Obj) (hj : J s C W) (hf : ∀ k, C k → k < W.heap.size) (hn : n0 ≤ W.heap.size) (hl : n0 ≤ l) (hc : ¬ C l) : J s C (W.putObj l o) :=
  h s C W _ hj hf hn (Lim.put o ⟨hl, hc⟩)

/-- the law of a loop over a function -/
theorem wp_rangeFunc_sep {α : Type} {P : Program} {n : Nat} {g : Operand} {ps : Array Tmp} {assign body : Code} {Q : Exit → Act → World → Prop} {a : Act} {w : World}
    {gf : Nat} {lb : Array Value} (hg : a.eval g = .func (.func gf) #[] lb) (eg : ∀ args w, (callFunc gf args).run P w = .ok (.enter gf args) w)
    {encs : α → Array Value} {L : List α} {R : FP} (hseq : SeqS P gf lb encs L R w) (hR : ∀ k, R k → k < w.heap.size) (hps : ∀ x, (encs x).size = ps.size)
    (C0 : FP) (hC0 : ∀ k, C0 k → ¬ R k ∧ k < w.heap.size)
    (I : List α → FP → World → Prop) (Ix : Code → List α → FP → World → Prop) (hI : Stab w.heap.size I) (hIx : ∀ c, Stab w.heap.size (Ix c)) (h0 : I [] C0 w) 
    (hround : ∀ (l m : Nat) (pre : List α) (x : α), (pre ++ [x]) <+: L → ∃ a' : Act, (∀ (W : World) (K : Act → World → Prop), K a' W →
      assign.wpIn (FW.inRound l) m P (Exit.then K (fun _ _ _ => False)) { tmps := (ps.zip (encs x)).foldl (fun t (p, v) => t.setIfInBounds p v) a.tmps, defers := [] } W) ∧
      ∀ (C : FP) (W : World), I pre C W → Step C0 C w W → body.wpIn (FW.inRound l) m P (sepPost I Ix (pre ++ [x]) C W) a' W)
    (hdone : ∀ (C : FP) (W : World), I L C W → Step C0 C w W → ¬ C w.heap.size → W.heap[w.heap.size]? = some (.deferred (some [])) → Q .normal { a with defers := { target := .collected w.heap.size, args := #[] } :: a.defers } W)
    (hstop : ∀ (c : Code) (pre : List α) (C : FP) (W : World), pre <+: L → Ix c pre C W → Step C0 C w W → ¬ C w.heap.size → W.heap[w.heap.size]? = some (.deferred (some [])) →
      c.wpIn FW n P Q { a with defers := { target := .collected w.heap.size, args := #[] } :: a.defers } W) :
    (Code.rangeFunc g ps assign body).wpIn FW n P Q a w := by
  refine wpIn_rangeFunc ?_
  intro fn hfn
  obtain ⟨rec, hrec⟩ : ∃ rec : LoopState → Option Code → Loop, rec = fun st pe => { state := st, pending := pe, fn, tmps := a.tmps, params := ps, assign, body, defers := w.heap.size } := ⟨_, rfl⟩
  obtain ⟨W1, hW1⟩ : ∃ W1, (w.alloc (.deferred (some []))).alloc (.loop (rec .ready none)) = W1 := ⟨_, rfl⟩
  have hL1 : W1.heap[w.heap.size + 1]? = some (.loop (rec .ready none)) := by
    rw [← hW1]; have := World.alloc_heap_new (w.alloc (.deferred (some []))) (.loop (rec .ready none)); rwa [World.size_alloc] at this
  have hK1 : W1.heap[w.heap.size]? = some (.deferred (some [])) := by
    rw [← hW1]; exact (Below.heap_alloc _ _ _ (by simp)).trans (World.alloc_heap_new w _)
  have hbw : Below w.heap.size w W1 := by rw [← hW1]; exact ((Below.refl _ w).alloc (Nat.le_refl _) _).alloc (by simp) _
  have hsz : W1.heap.size = w.heap.size + 2 := by rw [← hW1]; simp
  have hb1 : Lim (fun k => ¬ R k) w W1 := Lim.of_below hbw (fun k h1 h2 => by omega)
  have hst0 : Step C0 C0 w W1 := ⟨Lim.of_below hbw (fun k h1 h2 => by omega), fun k hk => by have := (hC0 k hk).2; omega, fun k hk _ => hk⟩
  have hI1 : I [] C0 W1 := hI _ _ _ _ h0 (fun k hk => (hC0 k hk).2) (Nat.le_refl _) (Lim.of_below hbw (fun k h1 h2 => by omega))
  refine ⟨w.heap.size + 1, [{ target := .collected w.heap.size, args := #[] }], W1, { target := .fn (.func gf) lb, args := #[.func (.yield (w.heap.size + 1)) #[] #[]] }, W1, gf,
    #[.func (.yield (w.heap.size + 1)) #[] #[]] ++ lb, W1, ?_, ?_, ?_, ?_, fun h => by simp [Fence.wide] at h, ?_⟩
  · rw [← hW1, hrec]; exact run_enterLoop_outer _ _ _ _ _
  · simp only [resolve, hg]
    simp [go_sem]
  · intro f' hf'; trivial
  · simp [invoke, go_sem, eg]
  · refine callsIn_wide.2 ?_
    refine (hseq (w.heap.size + 1)
      (fun pre C W => ∃ CI, I pre CI W ∧ Step C0 CI w W ∧ ¬ CI w.heap.size ∧ ¬ CI (w.heap.size + 1) ∧ C = (fun k => CI k ∨ k = w.heap.size ∨ k = w.heap.size + 1) ∧ W.heap[w.heap.size + 1]? = some (.loop (rec .ready none)) ∧ W.heap[w.heap.size]? = some (.deferred (some [])))
      (fun pre C W => ∃ CI c, Ix c pre CI W ∧ Step C0 CI w W ∧ ¬ CI w.heap.size ∧ ¬ CI (w.heap.size + 1) ∧ C = (fun k => CI k ∨ k = w.heap.size ∨ k = w.heap.size + 1) ∧ W.heap[w.heap.size + 1]? = some (.loop (rec .done (some c))) ∧ W.heap[w.heap.size]? = some (.deferred (some [])))
      (fun k => C0 k ∨ k = w.heap.size ∨ k = w.heap.size + 1)
      W1 hb1 ?_ ?_ ?_ ?_ ⟨C0, hI1, hst0, fun h => by have := (hC0 _ h).2; omega, fun h => by have := (hC0 _ h).2; omega, rfl, hL1, hK1⟩).mono ?_
    · rintro k (h | h | h)
      · have := hC0 k h; exact ⟨this.1, by omega⟩
      · exact ⟨fun c => by have := hR k c; omega, by omega⟩
      · exact ⟨fun c => by have := hR k c; omega, by omega⟩
    · rintro pre C A B ⟨CI, hi, hs, h1, h2, rfl, hl, hk⟩ hf hn hlim
      have hlim' : Lim (fun k => w.heap.size ≤ k ∧ ¬ CI k) A B := hlim.mono (fun k _ hk => ⟨by omega, fun c => hk.2 (.inl c)⟩)
      have hlt : w.heap.size + 1 < A.heap.size := (Array.getElem?_eq_some_iff.1 hl).1
      exact ⟨CI, hI _ _ _ _ hi hs.fin (by omega) hlim', hs.other hlim', h1, h2, rfl, (hlim.block _ hlt (fun c => c.2 (.inr (.inr rfl)))).trans hl, (hlim.block _ (by omega) (fun c => c.2 (.inr (.inl rfl)))).trans hk⟩
    · rintro pre C A B ⟨CI, c, hi, hs, h1, h2, rfl, hl, hk⟩ hf hn hlim
      have hlim' : Lim (fun k => w.heap.size ≤ k ∧ ¬ CI k) A B := hlim.mono (fun k _ hk => ⟨by omega, fun c => hk.2 (.inl c)⟩)
      have hlt : w.heap.size + 1 < A.heap.size := (Array.getElem?_eq_some_iff.1 hl).1
      exact ⟨CI, c, hIx c _ _ _ _ hi hs.fin (by omega) hlim', hs.other hlim', h1, h2, rfl, (hlim.block _ hlt (fun c => c.2 (.inr (.inr rfl)))).trans hl, (hlim.block _ (by omega) (fun c => c.2 (.inr (.inl rfl)))).trans hk⟩
    · rintro m pre x C1 W ⟨CI, hi, hs, hc1, hc2, rfl, hl, hk⟩ hfin hWs hpre
      have hlt : w.heap.size + 1 < W.heap.size := (Array.getElem?_eq_some_iff.1 hl).1
      have hy := run_yield (P := P) (args := encs x) hl (by rw [hrec]; exact hps x)
      rw [hrec] at hy
      obtain ⟨a', has, hbo⟩ := hround (w.heap.size + 1) m pre x hpre
      refine ⟨fn, _, assign, body, hy, roundIn_of_wpIn hfn (has W _ ⟨_, run_beginRound hl (by rw [hrec]), ?_⟩)⟩
      have hl2 : (W.putObj (w.heap.size + 1) (.loop { rec .ready none with state := .busy })).heap[w.heap.size + 1]? = some (.loop { rec .ready none with state := .busy }) := World.putObj_heap_same hlt
      have hk2 : (W.putObj (w.heap.size + 1) (.loop { rec .ready none with state := .busy })).heap[w.heap.size]? = some (.deferred (some [])) := (World.putObj_heap_other (by omega)).trans hk
      refine wpIn_mono (hbo CI _ (hI.put _ hi hs.fin (by omega) (by omega) hc2) (hs.put _ (by omega) hc2)) ?_
      have fin : ∀ (jump : Option Code) (CI' : FP) (W3 : World), Step CI CI' (W.putObj (w.heap.size + 1) (.loop { rec .ready none with state := .busy })) W3 →
          (Instr.endRound (w.heap.size + 1) jump).run P W3 = .ok (.bool jump.isNone) (W3.putObj (w.heap.size + 1) (.loop (rec (if jump.isNone then .ready else .done) jump))) ∧
          (W3.putObj (w.heap.size + 1) (.loop (rec (if jump.isNone then .ready else .done) jump))).heap[w.heap.size + 1]? = some (.loop (rec (if jump.isNone then .ready else .done) jump)) ∧
          (W3.putObj (w.heap.size + 1) (.loop (rec (if jump.isNone then .ready else .done) jump))).heap[w.heap.size]? = some (.deferred (some [])) ∧
          ¬ CI' w.heap.size ∧ ¬ CI' (w.heap.size + 1) ∧ Step C0 CI' w W3 ∧ W.heap.size ≤ W3.heap.size ∧
          Step (fun k => CI k ∨ k = w.heap.size ∨ k = w.heap.size + 1) (fun k => CI' k ∨ k = w.heap.size ∨ k = w.heap.size + 1) W (W3.putObj (w.heap.size + 1) (.loop (rec (if jump.isNone then .ready else .done) jump))) := fun jump CI' W3 h3 => by
        have hsz3 : W.heap.size ≤ W3.heap.size := by have := h3.lim.size; simpa using this
        have hl3 := (h3.lim.block (w.heap.size + 1) (by simpa using hlt) hc2).trans hl2
        have hk3 := (h3.lim.block w.heap.size (by simp; omega) hc1).trans hk2
        have := run_endRound (P := P) jump hl3
        rw [hrec] at this ⊢
        have n1 : ¬ CI' w.heap.size := fun h => hc1 (h3.old _ h (by simp; omega))
        have n2 : ¬ CI' (w.heap.size + 1) := fun h => hc2 (h3.old _ h (by simpa using hlt))
        refine ⟨this, World.putObj_heap_same (Array.getElem?_eq_some_iff.1 hl3).1, (World.putObj_heap_other (by omega)).trans hk3, n1, n2, (hs.put _ (by omega) hc2).trans h3, hsz3, ⟨⟨h3.lim.os, h3.lim.tape, h3.lim.output, by simpa using hsz3, fun k hk hn => ?_⟩, ?_, ?_⟩⟩
        · have e1 : ¬ CI k := fun h => hn (.inl h)
          have e2 : k ≠ w.heap.size + 1 := fun h => hn (.inr (.inr h))
          exact (World.putObj_heap_other e2).trans ((h3.lim.block k (by simpa using hk) e1).trans (World.putObj_heap_other e2))
        · rintro k (h | h | h)
          · have := h3.fin k h; simpa using this
          · simp; omega
          · simp; omega
        · rintro k (h | h | h) hk
          · exact .inl (h3.old k h (by simpa using hk))
          · exact .inr (.inl h)
          · exact .inr (.inr h)
      rintro e a3 W3 hp
      cases e with
      | normal =>
        obtain ⟨CI', h3, hi3⟩ := hp
        obtain ⟨hr, hl4, hk4, n1, n2, hs4, hsz3, hst⟩ := fin none CI' W3 h3
        exact ⟨_, _, hr, _, hst, .inl ⟨rfl, CI', hI.put _ hi3 h3.fin (by omega) (by omega) n2, hs4.put _ (by omega) n2, n1, n2, rfl, hl4, hk4⟩⟩
      | ret =>
        obtain ⟨CI', h3, hi3⟩ := hp
        obtain ⟨hr, hl4, hk4, n1, n2, hs4, hsz3, hst⟩ := fin (some .ret) CI' W3 h3
        exact ⟨_, _, hr, _, hst, .inr ⟨rfl, CI', .ret, (hIx _).put _ hi3 h3.fin (by omega) (by omega) n2, hs4.put _ (by omega) n2, n1, n2, rfl, hl4, hk4⟩⟩
      | exit id =>
        obtain ⟨CI', h3, hi3⟩ := hp
        obtain ⟨hr, hl4, hk4, n1, n2, hs4, hsz3, hst⟩ := fin (some (.exit id)) CI' W3 h3
        exact ⟨_, _, hr, _, hst, .inr ⟨rfl, CI', .exit id, (hIx _).put _ hi3 h3.fin (by omega) (by omega) n2, hs4.put _ (by omega) n2, n1, n2, rfl, hl4, hk4⟩⟩
      | goto t =>
        obtain ⟨CI', h3, hi3⟩ := hp
        obtain ⟨hr, hl4, hk4, n1, n2, hs4, hsz3, hst⟩ := fin (some (.goto t)) CI' W3 h3
        exact ⟨_, _, hr, _, hst, .inr ⟨rfl, CI', .goto t, (hIx _).put _ hi3 h3.fin (by omega) (by omega) n2, hs4.put _ (by omega) n2, n1, n2, rfl, hl4, hk4⟩⟩
      | panic ch => exact hp.elim
      | outgrown => exact hp.elim
    · rintro e W2 ⟨⟨v, rfl⟩, C', hst, (⟨CI, hi, hs, n1, n2, rfl, hl, hk⟩ | ⟨pre, hpre, CI, c, hi, hs, n1, n2, rfl, hl, hk⟩)⟩
      · have hlt : w.heap.size + 1 < W2.heap.size := (Array.getElem?_eq_some_iff.1 hl).1
        exact ⟨none, _, by have := run_endLoop (P := P) hl (by rw [hrec]; simp); rw [hrec] at this; exact this, hdone CI _ (hI.put _ hi hs.fin (by omega) (by omega) n2) (hs.put _ (by omega) n2) n1 ((World.putObj_heap_other (by omega)).trans hk)⟩
      · have hlt : w.heap.size + 1 < W2.heap.size := (Array.getElem?_eq_some_iff.1 hl).1
        exact ⟨some c, _, by have := run_endLoop (P := P) hl (by rw [hrec]; simp); rw [hrec] at this; exact this, hstop c pre CI _ hpre ((hIx c).put _ hi hs.fin (by omega) (by omega) n2) (hs.put _ (by omega) n2) n1 ((World.putObj_heap_other (by omega)).trans hk)⟩
end Go.Proofs.YthilkphnjffnhaaGreat
