/-
  A region that draws its order, walked by hand: what is held (S) need not hold behind the last stores (the numbers in Z), where all that leans on it has come up.
-/
import Derived.Test.YtnfldccaeibcpaaMem
import Derived.Deep.RegionHeld3
import Derived.StillTail
namespace Go.Proofs.Ytnfldccaeibcpaa
set_option linter.unusedVariables false
open Go.RowKit

section
variable {P : Program} {ops : Array Oper} {Q : Exit → Act → World → Prop} {md : Region.Mode} {S : World → Prop} {Z : List Nat}
/-- Whatever may come up comes up; S is shown behind it, but for the operations in Z. -/
def anyZ (P : Program) (md : Region.Mode) (ops : Array Oper) (Q : Exit → Act → World → Prop) (S : World → Prop) (Z : List Nat) : Nat → Array Bool → Act → World → Prop
  | 0, listed, a, w => Region.ready md ops listed = [] ∧ Q .normal a w
  | k + 1, listed, a, w => (Region.ready md ops listed = [] → Q .normal a w) ∧
      ∀ j ∈ Region.ready md ops listed, wpOp P ops Q j (fun a' w' => (j ∉ Z → S w → S w') ∧ anyZ P md ops Q S Z k (listed.setIfInBounds j true) a' w') a w
theorem any_of_Z : ∀ (k : Nat) (listed : Array Bool) (a : Act) (w : World), anyZ P md ops Q S Z k listed a w → wpAny P md ops Q k listed a w
  | 0, _, _, _, h => h
  | k + 1, _, _, _, h => ⟨h.1, fun j hj => wpOp_mono (fun a' w' h' => any_of_Z k _ a' w' h'.2) (h.2 j hj)⟩
/-- What is not listed and waits for what is not listed does not come up. -/
theorem not_ready {i j : Nat} {listed : Array Bool} (hi : i ∈ Region.ready md ops listed) (hw : Region.waitsFor md ops j i = true) : j ∉ Region.ready md ops listed := fun hj => by
  obtain ⟨oj, ho, e, he, hb, hon⟩ := Region.waitsFor_spec hw
  obtain ⟨_, oj', ho', hall⟩ := mem_ready.1 hj
  rw [ho] at ho'
  injection ho' with ho'
  subst ho'
  have h1 := hall e he hb
  have h0 := (mem_ready.1 hi).1
  rw [hon] at h1
  by_cases hlt : i < listed.size
  · simp [hlt] at h0 h1; rw [h0] at h1; cases h1
  · simp [Array.getElem?_eq_none (Nat.le_of_not_lt hlt)] at h1
theorem anyZ_front {i : Nat} {oi : Oper} {v : Value} (hi : ops[i]? = some oi) (hsel : Region.noSelect ops = true) (hQ : ∀ c a w, Q (.panic c) (a.put oi.dst v) w → Q (.panic c) a w) (hZ : ∀ z ∈ Z, Region.waitsFor md ops z i = true) :
    ∀ (k : Nat) (listed : Array Bool) (a : Act) (w : World), (∀ j oj, ops[j]? = some oj → j ≠ i → listed.getD j true = false → (∀ e ∈ oj.after, Region.binds md e = true → e.on ≠ i) → oi.apart ops oj = true) →
      i ∈ Region.ready md ops listed → YieldsIf P ops S oi v a → S w → anyZ P md ops Q S Z k (listed.setIfInBounds i true) (a.put oi.dst v) w → anyZ P md ops Q S Z (k + 1) listed a w
  | 0, listed, a, w, _, hr, hy, hS, H => by
    refine ⟨fun h => (by rw [h] at hr; cases hr), fun j hj => ?_⟩
    by_cases hji : j = i
    · subst hji
      exact hy.wpOp hi hS ⟨fun _ _ => hS, H⟩
    · have := ready_mono hj hji
      rw [H.1] at this
      cases this
  | k + 1, listed, a, w, hf, hr, hy, hS, H => by
    refine ⟨fun h => (by rw [h] at hr; cases hr), fun j hj => ?_⟩
    by_cases hji : j = i
    · subst hji
      exact hy.wpOp hi hS ⟨fun _ _ => hS, H⟩
    · obtain ⟨hun, oj, hoj, hall⟩ := mem_ready.1 hj
      have hjZ : j ∉ Z := fun h => not_ready hr (hZ j h) hj
      have hno : ∀ e ∈ oj.after, Region.binds md e = true → e.on ≠ i := fun e he hb hon => by
        refine not_ready (j := j) hr ?_ hj
        unfold Region.waitsFor
        rw [hoj]
        exact Array.any_eq_true'.2 ⟨e, he, by simp [hb, hon]⟩
      have step := wpOp_putIf hoj (hf j oj hoj hji hun hno) (fun cs b => Region.noSelect_spec hsel i oi cs b hi) (fun cs b => Region.noSelect_spec hsel j oj cs b hoj) hQ hy (H.2 j (ready_mono hj hji))
      refine wpOp_mono (fun a' w' h => ?_) step
      have hS' := h.2.1 hjZ hS
      refine ⟨fun _ _ => hS', anyZ_front hi hsel hQ hZ k _ a' w' (fun m om hm hmi hmu hmw => ?_) (ready_mono hr (fun e => hji e.symm)) h.1 hS' ?_⟩
      · refine hf m om hm hmi ?_ hmw
        by_cases hjm : j = m
        · subst hjm; exact hun
        · rwa [getD_set_ne true hjm] at hmu
      · rw [Array.setIfInBounds_comm _ _ hji]
        exact h.2.2
/-- .. what yields its value in every world, whatever holds. -/
theorem anyZ_frontU {i : Nat} {oi : Oper} {v : Value} (hi : ops[i]? = some oi) (hsel : Region.noSelect ops = true) (hQ : ∀ c a w, Q (.panic c) (a.put oi.dst v) w → Q (.panic c) a w) :
    ∀ (k : Nat) (listed : Array Bool) (a : Act) (w : World), (∀ j oj, ops[j]? = some oj → j ≠ i → listed.getD j true = false → (∀ e ∈ oj.after, Region.binds md e = true → e.on ≠ i) → oi.apart ops oj = true) →
      i ∈ Region.ready md ops listed → YieldsIf P ops (fun _ => True) oi v a → anyZ P md ops Q S Z k (listed.setIfInBounds i true) (a.put oi.dst v) w → anyZ P md ops Q S Z (k + 1) listed a w
  | 0, listed, a, w, _, hr, hy, H => by
    refine ⟨fun h => (by rw [h] at hr; cases hr), fun j hj => ?_⟩
    by_cases hji : j = i
    · subst hji
      exact hy.wpOp hi trivial ⟨fun _ h => h, H⟩
    · have := ready_mono hj hji
      rw [H.1] at this
      cases this
  | k + 1, listed, a, w, hf, hr, hy, H => by
    refine ⟨fun h => (by rw [h] at hr; cases hr), fun j hj => ?_⟩
    by_cases hji : j = i
    · subst hji
      exact hy.wpOp hi trivial ⟨fun _ h => h, H⟩
    · obtain ⟨hun, oj, hoj, hall⟩ := mem_ready.1 hj
      have hno : ∀ e ∈ oj.after, Region.binds md e = true → e.on ≠ i := fun e he hb hon => by
        refine not_ready (j := j) hr ?_ hj
        unfold Region.waitsFor
        rw [hoj]
        exact Array.any_eq_true'.2 ⟨e, he, by simp [hb, hon]⟩
      have step := wpOp_putIf hoj (hf j oj hoj hji hun hno) (fun cs b => Region.noSelect_spec hsel i oi cs b hi) (fun cs b => Region.noSelect_spec hsel j oj cs b hoj) hQ hy (H.2 j (ready_mono hj hji))
      refine wpOp_mono (fun a' w' h => ?_) step
      refine ⟨h.2.1, anyZ_frontU hi hsel hQ k _ a' w' (fun m om hm hmi hmu hmw => ?_) (ready_mono hr (fun e => hji e.symm)) h.1 ?_⟩
      · refine hf m om hm hmi ?_ hmw
        by_cases hjm : j = m
        · subst hjm; exact hun
        · rwa [getD_set_ne true hjm] at hmu
      · rw [Array.setIfInBounds_comm _ _ hji]
        exact h.2.2
theorem takeU {i : Nat} {oi : Oper} {v : Value} {k : Nat} {listed : Array Bool} {a : Act} {w : World} (d : Option Tmp) (hi : ops[i]? = some oi) (hd : oi.dst = d) (hs : Region.noSelect ops = true) (hf : Region.free md ops listed i = true) (hr : (Region.ready md ops listed).contains i = true)
    (hQ : ∀ c a w, Q (.panic c) (a.put d v) w → Q (.panic c) a w) (hy : YieldsIf P ops (fun _ => True) oi v a)
    (h : anyZ P md ops Q S Z k (listed.setIfInBounds i true) (a.put d v) w) : anyZ P md ops Q S Z (k + 1) listed a w := by
  subst hd
  exact anyZ_frontU hi hs hQ k listed a w (Region.free_spec hi hf) (by simpa using hr) hy h
/-- An operation that is plain to see is taken first. -/
theorem takeZ {i : Nat} {oi : Oper} {v : Value} {k : Nat} {listed : Array Bool} {a : Act} {w : World} (d : Option Tmp) (hi : ops[i]? = some oi) (hd : oi.dst = d) (hs : Region.noSelect ops = true) (hf : Region.free md ops listed i = true) (hr : (Region.ready md ops listed).contains i = true)
    (hZ : (Z.all fun z => Region.waitsFor md ops z i) = true) (hQ : ∀ c a w, Q (.panic c) (a.put d v) w → Q (.panic c) a w) (hy : YieldsIf P ops S oi v a) (hS : S w)
    (h : anyZ P md ops Q S Z k (listed.setIfInBounds i true) (a.put d v) w) : anyZ P md ops Q S Z (k + 1) listed a w := by
  subst hd
  exact anyZ_front hi hs hQ (fun z hz => List.all_eq_true.1 hZ z hz) k listed a w (Region.free_spec hi hf) (by simpa using hr) hy hS h
/-- These alone may come up. -/
def ReadyZ (P : Program) (md : Region.Mode) (ops : Array Oper) (Q : Exit → Act → World → Prop) (S : World → Prop) (Z : List Nat) (k : Nat) (listed : Array Bool) (a : Act) (w : World) (rs : List Nat) : Prop :=
  ∀ j ∈ rs, wpOp P ops Q j (fun a' w' => (j ∉ Z → S w → S w') ∧ anyZ P md ops Q S Z k (listed.setIfInBounds j true) a' w') a w
theorem readyZ_nil {k : Nat} {listed : Array Bool} {a : Act} {w : World} : ReadyZ P md ops Q S Z k listed a w [] := fun _ h => by cases h
theorem readyZ_cons {k : Nat} {listed : Array Bool} {a : Act} {w : World} {i : Nat} {o : Oper} {rs : List Nat} (ho : ops[i]? = some o)
    (h : ∀ K' : Act → World → Prop, Shut (∀ a w, (i ∉ Z → S w) → ((i ∉ Z → S w) → anyZ P md ops Q S Z k (listed.setIfInBounds i true) a w) → K' a w) → if Region.wanted o (yielded ops a.tmps) = true then Oper.wp P o a w K' Q else K' (a.put o.dst undef) w)
    (hs : ReadyZ P md ops Q S Z k listed a w rs) : ReadyZ P md ops Q S Z k listed a w (i :: rs) := fun j hj => by
  rcases List.mem_cons.1 hj with rfl | hj
  · exact wpOp_step ho (fun K' hK => h K' (fun a w hS hW => hK a w ⟨fun hz _ => hS hz, hW hS⟩))
  · exact hs j hj
theorem anyZ_ready {rs : List Nat} {k : Nat} {listed : Array Bool} {a : Act} {w : World} (hr : Region.ready md ops listed = rs) (hne : rs ≠ [])
    (h : ReadyZ P md ops Q S Z k listed a w rs) : anyZ P md ops Q S Z (k + 1) listed a w := ⟨fun h0 => absurd (hr ▸ h0) hne, hr ▸ h⟩
theorem anyZ_done {listed : Array Bool} {a : Act} {w : World} (hr : Region.ready md ops listed = []) (h : Q .normal a w) : ∀ k, anyZ P md ops Q S Z k listed a w
  | 0 => ⟨hr, h⟩
  | _ + 1 => ⟨fun _ => h, by rw [hr]; simp⟩
theorem wp_region_Z {id : Nat} {a : Act} {w : World} (Z : List Nat) (hm : P.follows .mixedOrders = true) (hS : S w.drew)
    (h : S w.drew → anyZ P .any ops Q S Z ops.size (Array.replicate ops.size false) a w.drew) : (Code.region id ops true).wp P Q a w :=
  wp_region_any hm (any_of_Z _ _ _ _ (h hS))
end

end Go.Proofs.Ytnfldccaeibcpaa
