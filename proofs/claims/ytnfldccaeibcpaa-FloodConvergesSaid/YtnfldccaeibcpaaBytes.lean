/-
  The contract of bytes.Clone.
-/
import Derived.Test.YtnfldccaeibcpaaMem
import Derived.Test.YtnfldccaeibcpaaChecked
namespace Go.Proofs.Ytnfldccaeibcpaa
set_option linter.unusedVariables false
open Go.RowKit

theorem bytesT : ElemT Try.prog 23 5 (.int .u8 0) 1 1 := ⟨Try.underlying23, by kernel_rfl, rfl, by omega⟩

set_option maxHeartbeats 400000 in
theorem clone_any (A : Option Addr) (n cap : Nat) (bs : List UInt8) (w : World) (hb : Bs w A bs) (hn : bs.length = n) (hl : n ≤ 140737488355328) :
    Calls Try.prog 88 #[.slice A n cap] w fun e w' => ∃ v, e = .returned v ∧ w'.ownsRow w.heap.size 5 1 v n (bs.map u8v) ∧ Below w.heap.size w w' := by
  subst hn
  have heq := Lib.run_eql_slice_nil (P := Try.prog) w 23 5 A bs.length cap 0 0 Try.underlying23
  rcases A with _ | ad
  · have hn := Rd.nil_len hb
    go_enter Try.func88, Try.ntmps88
    go_wp2_with fail
    go_ret
    have hn' : bs = [] := by simpa using hn
    subst hn'
    exact ⟨_, rfl, by simpa using World.ownsRow_nil _ _ _ _, Below.refl _ _⟩
  · have hown := own_empty w 5 1
    have hba := below_new w (.cells #[] 5)
    have hb1 := hb.below hba
    go_enter Try.func88, Try.ntmps88
    go_wp2_with (at_builtin; refine wpList_app rfl bytesT _ _ rfl w.heap.size rfl hown (A := some ad) (m := bs.length) rfl (by simp) hb1 (u8v_one _) (by simp only [maxLen]; omega) (by omega) hba.size bs.length (bs.map u8v) (by omega) (by simp) ?_; intro v1 w1 hown1 hbel1)
    go_ret
    exact ⟨_, rfl, hown1, hba.trans hbel1⟩

end Go.Proofs.Ytnfldccaeibcpaa
