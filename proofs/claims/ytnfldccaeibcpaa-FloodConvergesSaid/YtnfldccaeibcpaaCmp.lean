/-
  The contracts of cmp.Compare at int and uint32, cmp.Or at int, prefix.Compare.
-/
import Derived.Test.YtnfldccaeibcpaaPfx
import Derived.Deep.RegionHeld3
namespace Go.Proofs.Ytnfldccaeibcpaa
set_option linter.unusedVariables false
open Go.RowKit

def cmpI (a b : Int) : Int := if a < b then -1 else if b < a then 1 else 0

set_option maxHeartbeats 800000 in
theorem cmpint_any (a b : Int) (w : World) : Calls Try.prog 52 #[.int .i64 a, .int .i64 b] w fun e w' => e = .returned (.int .i64 (cmpI a b)) ∧ w = w' := by
  by_cases h1 : a < b
  · have e : cmpI a b = -1 := by unfold cmpI; rw [if_pos h1]
    rw [e]; clear e
    go_enter Try.func52, Try.ntmps52
    go_wp2
    go_ret
    exact ⟨rfl, rfl⟩
  · by_cases h2 : b < a
    · have e : cmpI a b = 1 := by unfold cmpI; rw [if_neg h1, if_pos h2]
      rw [e]; clear e
      go_enter Try.func52, Try.ntmps52
      go_wp2
      go_ret
      exact ⟨rfl, rfl⟩
    · have e : cmpI a b = 0 := by unfold cmpI; rw [if_neg h1, if_neg h2]
      rw [e]; clear e
      go_enter Try.func52, Try.ntmps52
      go_wp2
      go_ret
      exact ⟨rfl, rfl⟩

set_option maxHeartbeats 800000 in
theorem cmpu32_any (a b : Int) (w : World) : Calls Try.prog 60 #[.int .u32 a, .int .u32 b] w fun e w' => e = .returned (.int .i64 (cmpI a b)) ∧ w = w' := by
  by_cases h1 : a < b
  · have e : cmpI a b = -1 := by unfold cmpI; rw [if_pos h1]
    rw [e]; clear e
    go_enter Try.func60, Try.ntmps60
    go_wp2
    go_ret
    exact ⟨rfl, rfl⟩
  · by_cases h2 : b < a
    · have e : cmpI a b = 1 := by unfold cmpI; rw [if_neg h1, if_pos h2]
      rw [e]; clear e
      go_enter Try.func60, Try.ntmps60
      go_wp2
      go_ret
      exact ⟨rfl, rfl⟩
    · have e : cmpI a b = 0 := by unfold cmpI; rw [if_neg h1, if_neg h2]
      rw [e]; clear e
      go_enter Try.func60, Try.ntmps60
      go_wp2
      go_ret
      exact ⟨rfl, rfl⟩

/-- cmp.Or of two numbers. -/
def orI (a b : Int) : Int := if a = 0 then b else a
set_option maxHeartbeats 1600000 in
theorem or2_any (g c : Nat) (a b : Int) (w : World) (h0 : w.cell? ⟨g, 0, none⟩ = some (.int .i64 a)) (h1 : w.cell? ⟨g, 1, none⟩ = some (.int .i64 b)) :
    Calls Try.prog 59 #[.slice (some ⟨g, 0, none⟩) 2 c] w fun e w' => e = .returned (.int .i64 (orI a b)) ∧ w = w' := by
  go_enter Try.func59, Try.ntmps59
  go_wp2_with fail
  go_loop [8] (fun v8 => v8 = .int .i64 0 ∨ v8 = .int .i64 1 ∧ a = 0 ∨ v8 = .int .i64 2 ∧ a = 0 ∧ b = 0) (fun v8 => 2 - (intOf v8).toNat)
  case atStart => exact Or.inl rfl
  case round =>
    obtain rfl | ⟨rfl, ha⟩ | ⟨rfl, ha, hb⟩ := hrel
    · by_cases ha : a = 0
      · subst ha
        go_wp2_with fail
        go_round
        case rel => exact Or.inr (Or.inl (by simp))
        case measure => decide
      · go_wp2_with fail
        go_ret
        exact ⟨by simp [orI, ha], rfl⟩
    · subst ha
      by_cases hb : b = 0
      · subst hb
        go_wp2_with fail
        go_round
        case rel => exact Or.inr (Or.inr (by simp))
        case measure => decide
      · go_wp2_with fail
        go_ret
        exact ⟨by simp [orI], rfl⟩
    · subst ha hb
      go_wp2_with fail
      go_ret
      exact ⟨by simp [orI], rfl⟩

/-- How two prefixes compare. -/
def cmpP (x : Int) (l : Int) (y : Int) (m : Int) : Int := orI (cmpI x y) (cmpI l m)

set_option maxHeartbeats 3200000 in
theorem pcompare_any (x l y m : Int) (w : World) : Calls Try.prog 42 #[.agg #[.int .u32 x, .int .i64 l], .agg #[.int .u32 y, .int .i64 m]] w fun e w' => e = .returned (.int .i64 (cmpP x l y m)) ∧ Below w.heap.size w w' := by
  have hbb := (below_new' w (.cells #[.int .u32 x, .int .i64 l] 108)).alloc (by simp) (.cells #[.int .u32 y, .int .i64 m] 108)
  have S := (Box.new w #[.int .u32 x, .int .i64 l] 108).alloc (.cells #[.int .u32 y, .int .i64 m] 108)
  have T := Box.new (w.alloc (.cells #[.int .u32 x, .int .i64 l] 108)) #[.int .u32 y, .int .i64 m] 108
  have c0 := S.c 0 rfl
  have c1 := S.c 1 rfl
  have d0 := T.c 0 rfl
  have d1 := T.c 1 rfl
  simp only [World.size_alloc] at d0 d1
  clear S T
  go_enter Try.func42, Try.ntmps42
  go_wp2_with fail
  generalize (w.alloc (.cells #[.int .u32 x, .int .i64 l] 108)).alloc (.cells #[.int .u32 y, .int .i64 m] 108) = w1 at *
  have tok1 : True := trivial
  have tok2 : True := trivial
  go_region_held3 (fun w' => w'.cell? ⟨w.heap.size, 0, none⟩ = some (.int .u32 x) ∧ w'.cell? ⟨w.heap.size, 1, none⟩ = some (.int .i64 l) ∧ w'.cell? ⟨w.heap.size + 1, 0, none⟩ = some (.int .u32 y) ∧ w'.cell? ⟨w.heap.size + 1, 1, none⟩ = some (.int .i64 m)) (go_keep)
    (first
      | (clear tok1; go_at_call 60; refine (cmpu32_any _ _ _).mono ?_; rintro e w' ⟨rfl, rfl⟩)
      | (clear tok2; go_at_call 52; refine (cmpint_any _ _ _).mono ?_; rintro e w' ⟨rfl, rfl⟩)
      | (go_at_call 59; have BB := Box.new w1.drew #[.int .i64 (cmpI x y), .int .i64 (cmpI l m)] 3; refine (or2_any w1.drew.heap.size 2 (cmpI x y) (cmpI l m) _ (BB.c 0 rfl) (BB.c 1 rfl)).mono ?_; rintro e w' ⟨rfl, rfl⟩))
  go_wp2_with fail
  go_ret
  exact ⟨rfl, (hbb.alloc hbb.size _).drew⟩

end Go.Proofs.Ytnfldccaeibcpaa
