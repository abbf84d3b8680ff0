/-
  The contracts of labels.Push and of the reference's Push.
-/
import Derived.Test.YtchppfgoaeddlaaLabRUnp
import Derived.Test.YtchppfgoaeddlaaLabUnpLaw
namespace Go.Proofs.Ytchppfgoaeddlaa
set_option linter.unusedVariables false
open Go.RowKit

/-- What Push answers. -/
def pushE (bs : List UInt8) (s : Int × Int) : Int := if good bs = true then packErr (s :: unL bs) (unC bs) (unT bs) else 4
def pushR (bs : List UInt8) (s : Int × Int) : List UInt8 := if good bs = true then packR (s :: unL bs) (unC bs) (unT bs) else []

set_option maxHeartbeats 4000000 in
theorem push_any (A : Option Addr) (n cap : Nat) (bs : List UInt8) (p q : Int) (w : World) (hr : Bs w A bs) (hn : bs.length = n) (hn2 : n ≤ 100000) :
    Calls Try.prog 22 #[.slice A n cap, .agg #[.int .i64 p, .int .i64 q]] w fun e w' =>
      ∃ v, e = .returned (.tuple #[v, .int .i64 (pushE bs (p, q))]) ∧ w'.ownsRow w.heap.size 5 1 v (pushR bs (p, q)).length ((pushR bs (p, q)).map u8v) ∧ Below w.heap.size w w' := by
  have S := ((St.start w).read hr).new' #[.int .i64 p, .int .i64 q] 30 w.heap.size [.int .i64 p, .int .i64 q] rfl rfl
  have U := fun W hR => unpack_any A n cap bs W hR hn (by omega)
  by_cases hg : good bs = true
  · have hE : unE bs = 0 := by unfold unE; rw [if_pos hg]
    rw [hE] at U
    have hrl : (unL bs).length ≤ 100000 := by have := unL_len bs; omega
    have e1 : pushE bs (p, q) = packErr ((p, q) :: unL bs) (unC bs) (unT bs) := by unfold pushE; rw [if_pos hg]
    have e2 : pushR bs (p, q) = packR ((p, q) :: unL bs) (unC bs) (unT bs) := by unfold pushR; rw [if_pos hg]
    rw [e1, e2]
    clear e1 e2 hE hg hn hr
    generalize unL bs = L at U hrl ⊢
    generalize unC bs = C at U ⊢
    generalize unT bs = T at U ⊢
    obtain ⟨m, hm⟩ : ∃ m, L.length = m := ⟨_, rfl⟩
    rw [hm] at U hrl
    have hm1 : ((p, q) :: L).length = m + 1 := by rw [List.length_cons, hm]
    have X := Lib.hid (fun A2 c2 W hR => pack_any A2 (m + 1) c2 ((p, q) :: L) C T W hR hm1 (by omega))
    replace hm := Lib.hid hm
    replace U := Lib.hid U
    clear hm1
    go_enter Try.func22, Try.ntmps22
    go_wp2_with fail
    (with_reducible refine (U.out _ (S.r 0 rfl)).mono ?_)
    rintro e w1 ⟨v, rfl, hown, hb⟩
    replace S := S.call hb
    clear hb U
    obtain ⟨A2, c2, rfl, rd2, _, _⟩ := own_rd hown
    have c0 := S.c 0 0 rfl rfl
    have c1 := S.c 0 1 rfl rfl
    have hown0 : (w1.alloc (.cells #[.int .i64 p, .int .i64 q] 30)).ownsRow w1.heap.size 30 2 (.slice (some ⟨w1.heap.size, 0, none⟩) 1 1) 1 [.int .i64 p, .int .i64 q] :=
      World.ownsRow_lit (base := w1.heap.size) w1 #[.int .i64 p, .int .i64 q] 1 (Nat.le_refl _) (by simp [maxLen]) (by simp)
    have rd3 := rd2.below (below_new' w1 (.cells #[.int .i64 p, .int .i64 q] 30))
    have hb0 := below_new' w1 (.cells #[.int .i64 p, .int .i64 q] 30)
    clear hown
    go_wp2_with (at_builtin; refine wpList_app rfl segT _ _ rfl w1.heap.size rfl hown0 (A := A2) (m := m) rfl (by rw [segs_len, hm.out]; omega) rd3 (segs_one _) (by simp only [maxLen]; omega) (by omega) hb0.size (m + 1) (segs ((p, q) :: L)) (by omega) rfl ?_; intro v1 w2 hown1 hbel1; obtain ⟨A3, c3, rfl, rd5, _, _⟩ := own_rd hown1)
    (with_reducible refine (X.out _ _ _ rd5).mono ?_)
    rintro e w4 ⟨v4, rfl, hown4, hb4⟩
    have hb5 := hb0.trans hbel1
    have S2 := (S.call hb5).call hb4
    go_wp2_with fail
    go_ret2
    exact ⟨_, rfl, own_mono hown4 (Nat.le_trans S.b.size hb5.size), S2.b⟩
  · have hE : unE bs = 4 := by unfold unE; rw [if_neg hg]
    have e1 : pushE bs (p, q) = 4 := by unfold pushE; rw [if_neg hg]
    have e2 : pushR bs (p, q) = [] := by unfold pushR; rw [if_neg hg]
    rw [e1, e2]
    rw [hE] at U
    replace U := Lib.hid U
    clear e1 e2 hE hn hg hr
    go_enter Try.func22, Try.ntmps22
    go_wp2_with fail
    (with_reducible refine (U.out _ (S.r 0 rfl)).mono ?_)
    rintro e w1 ⟨v, rfl, hown, hb⟩
    replace S := S.call hb
    clear hb U
    go_wp2_with fail
    go_ret2
    exact ⟨_, rfl, World.ownsRow_nil _ _ _ _, S.b⟩

set_option maxHeartbeats 4000000 in
theorem rpush_any (A : Option Addr) (n cap : Nat) (bs : List UInt8) (p q : Int) (w : World) (hr : Bs w A bs) (hn : bs.length = n) (hn2 : n ≤ 100000) :
    Calls Try.prog 23 #[.slice A n cap, .agg #[.int .i64 p, .int .i64 q]] w fun e w' =>
      ∃ v, e = .returned (.tuple #[v, .int .i64 (pushE bs (p, q))]) ∧ w'.ownsRow w.heap.size 5 1 v (pushR bs (p, q)).length ((pushR bs (p, q)).map u8v) ∧ Below w.heap.size w w' := by
  have S := ((St.start w).read hr).new' #[.int .i64 p, .int .i64 q] 30 w.heap.size [.int .i64 p, .int .i64 q] rfl rfl
  have U := fun W hR => runpack_any A n cap bs W hR hn (by omega)
  by_cases hg : good bs = true
  · have hE : unE bs = 0 := by unfold unE; rw [if_pos hg]
    rw [hE] at U
    have hrl : (unL bs).length ≤ 100000 := by have := unL_len bs; omega
    have e1 : pushE bs (p, q) = packErr ((p, q) :: unL bs) (unC bs) (unT bs) := by unfold pushE; rw [if_pos hg]
    have e2 : pushR bs (p, q) = packR ((p, q) :: unL bs) (unC bs) (unT bs) := by unfold pushR; rw [if_pos hg]
    rw [e1, e2]
    clear e1 e2 hE hg hn hr
    generalize unL bs = L at U hrl ⊢
    generalize unC bs = C at U ⊢
    generalize unT bs = T at U ⊢
    obtain ⟨m, hm⟩ : ∃ m, L.length = m := ⟨_, rfl⟩
    rw [hm] at U hrl
    have hm1 : ((p, q) :: L).length = m + 1 := by rw [List.length_cons, hm]
    have X := Lib.hid (fun A2 c2 W hR => rpack_any A2 (m + 1) c2 ((p, q) :: L) C T W hR hm1 (by omega))
    replace hm := Lib.hid hm
    replace U := Lib.hid U
    clear hm1
    go_enter Try.func23, Try.ntmps23
    go_wp2_with fail
    (with_reducible refine (U.out _ (S.r 0 rfl)).mono ?_)
    rintro e w1 ⟨v, rfl, hown, hb⟩
    replace S := S.call hb
    clear hb U
    obtain ⟨A2, c2, rfl, rd2, _, _⟩ := own_rd hown
    have c0 := S.c 0 0 rfl rfl
    have c1 := S.c 0 1 rfl rfl
    have hown0 : (w1.alloc (.cells #[.int .i64 p, .int .i64 q] 30)).ownsRow w1.heap.size 30 2 (.slice (some ⟨w1.heap.size, 0, none⟩) 1 1) 1 [.int .i64 p, .int .i64 q] :=
      World.ownsRow_lit (base := w1.heap.size) w1 #[.int .i64 p, .int .i64 q] 1 (Nat.le_refl _) (by simp [maxLen]) (by simp)
    have rd3 := rd2.below (below_new' w1 (.cells #[.int .i64 p, .int .i64 q] 30))
    have hb0 := below_new' w1 (.cells #[.int .i64 p, .int .i64 q] 30)
    clear hown
    go_wp2_with (at_builtin; refine wpList_app rfl segT _ _ rfl w1.heap.size rfl hown0 (A := A2) (m := m) rfl (by rw [segs_len, hm.out]; omega) rd3 (segs_one _) (by simp only [maxLen]; omega) (by omega) hb0.size (m + 1) (segs ((p, q) :: L)) (by omega) rfl ?_; intro v1 w2 hown1 hbel1; obtain ⟨A3, c3, rfl, rd5, _, _⟩ := own_rd hown1)
    (with_reducible refine (X.out _ _ _ rd5).mono ?_)
    rintro e w4 ⟨v4, rfl, hown4, hb4⟩
    have hb5 := hb0.trans hbel1
    have S2 := (S.call hb5).call hb4
    go_wp2_with fail
    go_ret2
    exact ⟨_, rfl, own_mono hown4 (Nat.le_trans S.b.size hb5.size), S2.b⟩
  · have hE : unE bs = 4 := by unfold unE; rw [if_neg hg]
    have e1 : pushE bs (p, q) = 4 := by unfold pushE; rw [if_neg hg]
    have e2 : pushR bs (p, q) = [] := by unfold pushR; rw [if_neg hg]
    rw [e1, e2]
    rw [hE] at U
    replace U := Lib.hid U
    clear e1 e2 hE hn hg hr
    go_enter Try.func23, Try.ntmps23
    go_wp2_with fail
    (with_reducible refine (U.out _ (S.r 0 rfl)).mono ?_)
    rintro e w1 ⟨v, rfl, hown, hb⟩
    replace S := S.call hb
    clear hb U
    go_wp2_with fail
    go_ret2
    exact ⟨_, rfl, World.ownsRow_nil _ _ _ _, S.b⟩

end Go.Proofs.Ytchppfgoaeddlaa
