/-
  A range over a function whose iterator keeps a state of its own: the statement, and one round; the caller gives the iterator's contract at its own invariant.
-/
import Derived.RangeFuncNested
import Derived.RangeFuncBound
import Derived.RangeFuncCalls
import Derived.RangeFuncLeaves
import Derived.Test.YtnfldccaeibcpaaMem
namespace Go.Proofs.Ytnfldccaeibcpaa
set_option linter.unusedVariables false
open Go.RowKit

section
variable {F : Fence} {n : Nat} {P : Program}

/-- The loop's record. -/
def lrec (fn : FuncId) (tmps : Array Value) (ps : Array Tmp) (assign body : Code) (D : Nat) (st : LoopState) (pe : Option Code) : Loop :=
  { state := st, pending := pe, fn, tmps, params := ps, assign, body, defers := D }

/-- What the body owes at a round's end: its record still busy, and R behind the record's turn. -/
def endsRound (l : Nat) (rec : LoopState → Option Code → Loop) (R : Ending → World → Prop) : Exit → Act → World → Prop
  | .normal, _, W => W.heap[l]? = some (.loop (rec .busy none)) ∧ R (.returned (.bool true)) (W.putObj l (.loop (rec .ready none)))
  | .ret, _, W => W.heap[l]? = some (.loop (rec .busy none)) ∧ R (.returned (.bool false)) (W.putObj l (.loop (rec .done (some .ret))))
  | _, _, _ => False

theorem yield_round {l m : Nat} {fn : FuncId} {tmps : Array Value} {ps : Array Tmp} {assign body : Code} {D : Nat} {LR : LoopState → Option Code → Loop} (hLR : LR = lrec fn tmps ps assign body D) (hfn : F.fn fn) {W : World} (hl : W.heap[l]? = some (.loop (LR .ready none)))
    {args : Array Value} (hs : args.size = ps.size) {R : Ending → World → Prop}
    (h : assign.wpIn (F.inRound l) m P (Exit.then (fun a₁ w₁ => w₁.heap[l]? = some (.loop (LR .ready none)) ∧
      body.wpIn (F.inRound l) m P (endsRound l LR R) a₁ (w₁.putObj l (.loop (LR .busy none)))) (fun _ _ _ => False))
      { tmps := (ps.zip args).foldl (fun t (p, v) => t.setIfInBounds p v) tmps, defers := [] } W) : YieldAt F m P l args W R := by
  subst hLR
  refine ⟨fn, _, assign, body, run_yield hl hs, roundIn_of_wpIn hfn (wpIn_mono h ?_)⟩
  intro e a₁ w₁ hp
  cases e with
  | normal =>
    obtain ⟨hl1, hb⟩ := hp
    refine ⟨_, run_beginRound hl1 rfl, wpIn_mono hb ?_⟩
    intro e2 a2 W3 hq
    cases e2 with
    | normal => exact ⟨_, _, run_endRound none hq.1, hq.2⟩
    | ret => exact ⟨_, _, run_endRound (some .ret) hq.1, hq.2⟩
    | exit id => exact hq.elim
    | goto t => exact hq.elim
    | panic c => exact hq.elim
    | outgrown => exact hq.elim
  | ret => exact hp.elim
  | exit id => exact hp.elim
  | goto t => exact hp.elim
  | panic c => exact hp.elim
  | outgrown => exact hp.elim

/-- The statement. -/
theorem range_law {g : Operand} {ps : Array Tmp} {assign body : Code} {Q : Exit → Act → World → Prop} {a : Act} {w : World} (hro : F.round = none) (h1 : 1 ≤ n) {gf : Nat} {lb : Array Value}
    (hg : a.eval g = .func (.func gf) #[] lb) (hFg : F.fn gf) (eg : ∀ args w, (callFunc gf args).run P w = .ok (.enter gf args) w)
    (Jr : World → Prop) (Jx : World → Prop)
    (hJr : ∀ W l o o', Jr W → w.heap.size ≤ l → W.heap[l]? = some o → o.isCells = false → Jr (W.putObj l o')) (hJx : ∀ W l o o', Jx W → w.heap.size ≤ l → W.heap[l]? = some o → o.isCells = false → Jx (W.putObj l o'))
    (hiter : ∀ fn, F.fn fn → ∀ LR : LoopState → Option Code → Loop, LR = lrec fn a.tmps ps assign body w.heap.size →
      CallsIn F (n - 1) P gf (#[.func (.yield (w.heap.size + 1)) #[] #[]] ++ lb) ((w.alloc (.deferred (some []))).alloc (.loop (LR .ready none))) fun e W' => (∃ v, e = .returned v) ∧
      ((Jr W' ∧ W'.heap[w.heap.size + 1]? = some (.loop (LR .ready none)) ∧ W'.heap[w.heap.size]? = some (.deferred (some []))) ∨
       (Jx W' ∧ W'.heap[w.heap.size + 1]? = some (.loop (LR .done (some .ret))) ∧ W'.heap[w.heap.size]? = some (.deferred (some [])))))
    (hdone : ∀ W, Jr W → W.heap[w.heap.size]? = some (.deferred (some [])) → Q .normal { a with defers := { target := .collected w.heap.size, args := #[] } :: a.defers } W)
    (hstop : ∀ W, Jx W → W.heap[w.heap.size]? = some (.deferred (some [])) → Code.ret.wpIn F n P Q { a with defers := { target := .collected w.heap.size, args := #[] } :: a.defers } W) :
    (Code.rangeFunc g ps assign body).wpIn F n P Q a w := by
  refine wpIn_rangeFunc fun fn hfn => ?_
  rw [hro]
  refine ⟨w.heap.size + 1, [{ target := .collected w.heap.size, args := #[] }], (w.alloc (.deferred (some []))).alloc (.loop (lrec fn a.tmps ps assign body w.heap.size .ready none)),
    { target := .fn (.func gf) lb, args := #[.func (.yield (w.heap.size + 1)) #[] #[]] }, (w.alloc (.deferred (some []))).alloc (.loop (lrec fn a.tmps ps assign body w.heap.size .ready none)), gf,
    #[.func (.yield (w.heap.size + 1)) #[] #[]] ++ lb, (w.alloc (.deferred (some []))).alloc (.loop (lrec fn a.tmps ps assign body w.heap.size .ready none)), run_enterLoop_outer _ _ _ _ _, ?_, ?_, ?_, fun _ => h1, ?_⟩
  · simp only [resolve, hg]
    simp [go_sem]
  · intro f' hf'; simp [Target.leads] at hf'; subst hf'; exact hFg
  · simp [invoke, go_sem, eg]
  · refine (hiter fn hfn _ rfl).mono ?_
    rintro e W2 ⟨⟨v, rfl⟩, (⟨hj, hl, hk⟩ | ⟨hj, hl, hk⟩)⟩
    · exact ⟨none, _, run_endLoop hl (by simp [lrec]), hdone _ (hJr _ _ _ _ hj (by omega) hl rfl) ((World.putObj_heap_other (by omega)).trans hk)⟩
    · exact ⟨some .ret, _, run_endLoop hl (by simp [lrec]), hstop _ (hJx _ _ _ _ hj (by omega) hl rfl) ((World.putObj_heap_other (by omega)).trans hk)⟩
end

end Go.Proofs.Ytnfldccaeibcpaa
