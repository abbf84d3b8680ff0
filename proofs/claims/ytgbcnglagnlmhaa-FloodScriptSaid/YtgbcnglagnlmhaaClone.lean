/-
  The contracts of slices.Clone at adjacencies and prefixes, of slices.Equal at adjacencies.
-/
import Derived.Test.YtgbcnglagnlmhaaTake
import Derived.Test.YtgbcnglagnlmhaaSlEq
namespace Go.Proofs.Ytgbcnglagnlmhaa
set_option linter.unusedVariables false
open Go.RowKit

def ClonePost (w : World) (T : TypeId) (size n : Nat) (xs : List Value) (e : Ending) (w' : World) : Prop :=
  ∃ A c, e = .returned (.slice A n c) ∧ w'.ownsRow w.heap.size T size (.slice A n c) n xs ∧ Below w.heap.size w w'

set_option maxRecDepth 100000 in
set_option maxHeartbeats 800000 in
theorem clone_ad (w : World) (A : Option Addr) (n c : Nat) (l : List Ad) (hr : Rd w A (adV l)) (hn : l.length = n) (hb : n ≤ 1000000) :
    Calls Try.prog 46 #[.slice A n c] w (ClonePost w 91 3 n (adV l)) := by
  rcases A with _ | ad
  · have h0 := hr.nil_len
    rw [adV_len] at h0
    obtain rfl : l = [] := List.eq_nil_of_length_eq_zero (by omega)
    subst hn
    have hE := fun W => Lib.run_eql_slice_nil W 29 91 none 0 c 0 0 Try.underlying29
    go_enter Try.func46, Try.ntmps46
    go_wp2_with fail
    go_ret
    exact ⟨none, 0, rfl, World.ownsRow_nil _ _ _ _, Below.refl _ _⟩
  · have hl : (adV l).length = n * 3 := by rw [adV_len, hn]
    clear hn
    have hE := fun W => Lib.run_eql_slice_nil W 29 91 (some ad) n c 0 0 Try.underlying29
    go_enter Try.func46, Try.ntmps46
    go_wp2_with (at_builtin; refine wpList_app rfl adT (.tmp 5) (.tmp 6) rfl w.heap.size rfl (own_empty _ _ _) (m := n) rfl hl (hr.below (below_new' _ _)) (adV_one l) (by simp only [maxLen]; omega) (by omega) (by simp) n (adV l) (by omega) (by simp) ?_; intro v' w' ho hb')
    go_ret
    obtain ⟨A', c', rfl, _⟩ := own_rd ho
    exact ⟨A', c', rfl, ho, (below_new' _ _).trans hb'⟩

set_option maxRecDepth 100000 in
set_option maxHeartbeats 800000 in
theorem clone_pf (w : World) (A : Option Addr) (n c : Nat) (l : List Pf) (hr : Rd w A (pfV l)) (hn : l.length = n) (hb : n ≤ 1000000) :
    Calls Try.prog 47 #[.slice A n c] w (ClonePost w 94 2 n (pfV l)) := by
  rcases A with _ | ad
  · have h0 := hr.nil_len
    rw [pfV_len] at h0
    obtain rfl : l = [] := List.eq_nil_of_length_eq_zero (by omega)
    subst hn
    have hE := fun W => Lib.run_eql_slice_nil W 30 94 none 0 c 0 0 Try.underlying30
    go_enter Try.func47, Try.ntmps47
    go_wp2_with fail
    go_ret
    exact ⟨none, 0, rfl, World.ownsRow_nil _ _ _ _, Below.refl _ _⟩
  · have hl : (pfV l).length = n * 2 := by rw [pfV_len, hn]
    clear hn
    have hE := fun W => Lib.run_eql_slice_nil W 30 94 (some ad) n c 0 0 Try.underlying30
    go_enter Try.func47, Try.ntmps47
    go_wp2_with (at_builtin; refine wpList_app rfl pfT (.tmp 5) (.tmp 6) rfl w.heap.size rfl (own_empty _ _ _) (m := n) rfl hl (hr.below (below_new' _ _)) (pfV_one l) (by simp only [maxLen]; omega) (by omega) (by simp) n (pfV l) (by omega) (by simp) ?_; intro v' w' ho hb')
    go_ret
    obtain ⟨A', c', rfl, _⟩ := own_rd ho
    exact ⟨A', c', rfl, ho, (below_new' _ _).trans hb'⟩

end Go.Proofs.Ytgbcnglagnlmhaa
