/-
  The contracts of the reference's Same, Equal, Purge.
-/
import Derived.Test.YtnfldccaeibcpaaSmR
namespace Go.Proofs.Ytnfldccaeibcpaa
set_option linter.unusedVariables false
open Go.RowKit

def sameB (x y : La) : Bool := (x.o == y.o) && ((x.s == y.s) && (((x.a == 3600) == (y.a == 3600)) && conB x y))
def equB (x y : La) : Bool := sameB x y && (x.a == y.a)
def purgeX (x : La) : La := ⟨x.o, x.s, 3600, false, [], []⟩

set_option maxRecDepth 100000 in
set_option maxHeartbeats 3200000 in
theorem rsamela_any (w : World) (v u : Value) (x y : La) (hx : LaAt w v x) (hy : LaAt w u y) : Calls Try.prog 26 #[v, u] w fun e w' => e = .returned (.bool (sameB x y)) ∧ Below w.heap.size w w' := by
  obtain ⟨A, c, B, d, hv, _⟩ := id hx
  obtain ⟨A', c', B', d', hu, _⟩ := id hy
  subst hv hu
  have S := ((St.start w).new' #[.int .i64 x.o, .int .i64 x.s, .int .i64 x.a, .bool x.ov, .slice A x.adj.length c, .slice B x.pre.length d] 45 w.heap.size _ rfl rfl).new' #[.int .i64 y.o, .int .i64 y.s, .int .i64 y.a, .bool y.ov, .slice A' y.adj.length c', .slice B' y.pre.length d'] 45 (w.heap.size + 1) _ (by simp) rfl
  have CO := contents_any _ _ _ x y (hx.below S.b) (hy.below S.b)
  have hbb := S.b
  have c0 := S.c 1 0 rfl rfl
  have c1 := S.c 1 1 rfl rfl
  have c2 := S.c 1 2 rfl rfl
  have c3 := S.c 1 3 rfl rfl
  have c4 := S.c 1 4 rfl rfl
  have c5 := S.c 1 5 rfl rfl
  have d0 := S.c 0 0 rfl rfl
  have d1 := S.c 0 1 rfl rfl
  have d2 := S.c 0 2 rfl rfl
  have d3 := S.c 0 3 rfl rfl
  have d4 := S.c 0 4 rfl rfl
  have d5 := S.c 0 5 rfl rfl
  clear S hx hy
  unfold sameB
  generalize conB x y = cb at *
  generalize x.adj.length = n at *
  generalize x.pre.length = m at *
  generalize y.adj.length = n' at *
  generalize y.pre.length = m' at *
  replace CO := Lib.hid CO
  rcases h1 : (x.o == y.o) with _ | _
  · go_enter Try.func26, Try.ntmps26
    go_wp2_with fail
    go_ret
    exact ⟨rfl, hbb⟩
  rcases h2 : (x.s == y.s) with _ | _
  · go_enter Try.func26, Try.ntmps26
    go_wp2_with fail
    go_ret
    exact ⟨rfl, hbb⟩
  rcases h3 : (x.a == 3600) with _ | _
  · rcases h4 : (y.a == 3600) with _ | _
    · go_enter Try.func26, Try.ntmps26
      go_wp2_with fail
      (with_reducible refine CO.out.mono ?_)
      rintro e w1 ⟨rfl, hb⟩
      cases cb
      all_goals
        go_wp2_with fail
        go_ret
        exact ⟨rfl, hbb.trans (hb.mono hbb.size)⟩
    · go_enter Try.func26, Try.ntmps26
      go_wp2_with fail
      go_ret
      exact ⟨rfl, hbb⟩
  · rcases h4 : (y.a == 3600) with _ | _
    · go_enter Try.func26, Try.ntmps26
      go_wp2_with fail
      go_ret
      exact ⟨rfl, hbb⟩
    · go_enter Try.func26, Try.ntmps26
      go_wp2_with fail
      (with_reducible refine CO.out.mono ?_)
      rintro e w1 ⟨rfl, hb⟩
      cases cb
      all_goals
        go_wp2_with fail
        go_ret
        exact ⟨rfl, hbb.trans (hb.mono hbb.size)⟩

theorem purge_own (w : World) (base : Nat) (x : La) : LaOwn w base (laV x.o x.s 3600 false none 0 0 none 0 0) (purgeX x) :=
  ⟨none, 0, none, 0, rfl, World.ownsRow_nil _ _ _ _, World.ownsRow_nil _ _ _ _, by simp [purgeX]⟩

end Go.Proofs.Ytnfldccaeibcpaa
