/-
  The walks of the statements about package fletcher.
-/
import Derived.Test.YtlcjbjmpnmdbcaaFleRef
import Derived.Test.YtlcjbjmpnmdbcaaFlePlain
import Derived.OpenShut
import Derived.Deep.RegionHeld3
namespace Go.Proofs.Ytlcjbjmpnmdbcaa
open Go.RowKit

set_option maxHeartbeats 400000 in
theorem sums_law (w : World) (A : Option Addr) (n cap : Nat) (bs : List UInt8) (hb : Bs w A bs) (hn : bs.length = n) (hm : n ≤ maxLen) :
    Calls Try.prog 3 #[.slice A n cap] w fun e w' => e = .returned (.bool true) ∧ Below w.heap.size w w' := by
  unfold maxLen at hm
  go_enter Try.func3, Try.ntmps3
  go_wp2_with fail
  refine (awake_any _).mono ?_
  rintro e w1 ⟨rfl, hb1⟩
  have hr := hb.below hb1
  by_cases hl : n ≤ 2000
  · have hl' : ¬ (2000 : Int) < n := by omega
    go_wp2_with fail
    (with_reducible refine (sum_any A n cap bs _ hr hn (by omega)).mono ?_)
    rintro e w' ⟨rfl, rfl⟩
    go_wp2_with fail
    (with_reducible refine (refSum_any A n cap bs _ hr hn (by omega)).mono ?_)
    rintro e w' ⟨rfl, rfl⟩
    by_cases h0 : fl1 bs = 0
    · have e0 : (fl1 bs == 0) = true := by simp [h0]
      clear h0
      by_cases h1 : fl2 bs = 0
      · have e1 : (fl2 bs == 0) = true := by simp [h1]
        have ec : chk bs = true := by simp [chk, e0, e1]
        clear h1
        have C := check_any A n cap bs _ hr hn (by omega)
        rw [ec] at C
        go_wp2_with fail
        (with_reducible refine C.mono ?_)
        rintro e w' ⟨rfl, rfl⟩
        go_wp2_with fail
        go_ret
        exact ⟨rfl, hb1⟩
      · have e1 : (fl2 bs == 0) = false := by simp [h1]
        have ec : chk bs = false := by simp [chk, e1]
        clear h1
        have C := check_any A n cap bs _ hr hn (by omega)
        rw [ec] at C
        go_wp2_with fail
        (with_reducible refine C.mono ?_)
        rintro e w' ⟨rfl, rfl⟩
        go_wp2_with fail
        go_ret
        exact ⟨rfl, hb1⟩
    · have e0 : (fl1 bs == 0) = false := by simp [h0]
      have ec : chk bs = false := by simp [chk, e0]
      clear h0
      have C := check_any A n cap bs _ hr hn (by omega)
      rw [ec] at C
      go_wp2_with fail
      (with_reducible refine C.mono ?_)
      rintro e w' ⟨rfl, rfl⟩
      go_wp2_with fail
      go_ret
      exact ⟨rfl, hb1⟩
  · have hl' : (2000 : Int) < n := by omega
    go_wp2_with fail
    go_ret
    exact ⟨rfl, hb1⟩

set_option maxHeartbeats 400000 in
theorem updates_law (w : World) (A : Option Addr) (n c : Nat) (a : List UInt8) (ha : Bs w A a) (hn : a.length = n) (hm : n ≤ maxLen)
    (B : Option Addr) (m d : Nat) (b : List UInt8) (hb : Bs w B b) (hn' : b.length = m) (hm' : m ≤ maxLen)
    (s t : Int) (hs : (Lit.int .i16 s).wf = true) (ht : (Lit.int .i16 t).wf = true) :
    Calls Try.prog 4 #[.slice A n c, .slice B m d, .agg #[.int .i16 s, .int .i16 t]] w fun e w' => e = .returned (.bool true) ∧ Below w.heap.size w w' := by
  unfold maxLen at hm hm'
  have ⟨hs0, hs1⟩ := bounds_i16 hs
  have ⟨ht0, ht1⟩ := bounds_i16 ht
  clear hs ht
  go_enter Try.func4, Try.ntmps4
  go_wp2_with fail
  (with_reducible refine (awake_any _).mono ?_)
  rintro e w1 ⟨rfl, hb1⟩
  have hp0 : w1.cell? ⟨w.heap.size, 0, none⟩ = some (.int .i16 s) := (hb1.cell (by simp)).trans (by simp)
  have hp1 : w1.cell? ⟨w.heap.size, 1, none⟩ = some (.int .i16 t) := (hb1.cell (by simp)).trans (by simp)
  have hb1 : Below w.heap.size w w1 := ((Below.refl _ _).alloc (Nat.le_refl _) _).trans (hb1.mono (by simp))
  have ra := ha.below hb1
  have rb := hb.below hb1
  clear ha hb
  have g1 : Hid (a.length = n) := hn
  have g2 : Hid (b.length = m) := hn'
  clear hn hn'
  by_cases hl : 1000 < n
  · have hl' : (1000 : Int) < n := by omega
    go_wp2_with fail
    go_ret
    exact ⟨rfl, hb1⟩
  by_cases hk : 1000 < m
  · have hl' : ¬ (1000 : Int) < n := by omega
    have hk' : (1000 : Int) < m := by omega
    go_wp2_with fail
    go_ret
    exact ⟨rfl, hb1⟩
  have hl' : ¬ (1000 : Int) < n := by omega
  have hk' : ¬ (1000 : Int) < m := by omega
  have f1 := fl1_bd a
  have f2 := fl2_bd a
  go_wp2_with fail
  (with_reducible refine (refSum_any A n c a _ ra g1.out (by omega)).mono ?_)
  rintro e w' ⟨rfl, rfl⟩
  go_wp2_with fail
  have U := update_any (fl1 a + 255 * s) (fl2 a + 255 * t) B m d b w1 rb g2.out (by omega)
  rw [upd1, upd2 a b s t m g2.out] at U
  (with_reducible refine U.mono ?_)
  rintro e w' ⟨rfl, rfl⟩
  clear U f1 f2 hp0 hp1
  have hown := own_empty w1 5 1
  have hba := below_new w1 (.cells #[] 5)
  have ra' := ra.below hba
  go_wp2_with (first
    | (at_builtin; refine wpList_app rfl bytesT (.tmp 46) (.tmp 47) rfl w1.heap.size rfl hown rfl (by simp [g1.out]) ra' (u8v_one _) (by simp only [maxLen]; omega) (by omega) hba.size n (a.map u8v) (by omega) (by simp) ?_; intro v2 w2 hown2 hbel2; have hba2 := hba.trans hbel2; have rb2 := rb.below hba2; clear hown hba ra' hbel2)
    | (at_builtin; refine wpList_app rfl bytesT (.tmp 48) (.tmp 49) rfl w1.heap.size rfl hown2 rfl (by simp [g2.out]) rb2 (u8v_one _) (by simp only [maxLen]; omega) (by omega) hba2.size (n + m) ((a ++ b).map u8v) rfl (by simp) ?_; intro v3 w3 hown3 hbel3; have hba3 := hba2.trans hbel3; clear hown2 hba2 rb2 hbel3))
  obtain ⟨A3, c3, rfl, rd3, _, _⟩ := own_rd hown3
  (with_reducible refine (refSum_any A3 (n + m) c3 (a ++ b) _ rd3 (by simp [g1.out, g2.out]) (by omega)).mono ?_)
  rintro e w' ⟨rfl, rfl⟩
  go_wp2_with fail
  go_ret
  exact ⟨by simp, hb1.trans (hba3.mono hb1.size)⟩

set_option maxHeartbeats 800000 in
theorem joins_law (w : World) (A : Option Addr) (n c : Nat) (a : List UInt8) (ha : Bs w A a) (hn : a.length = n) (hm : n ≤ maxLen)
    (B : Option Addr) (m d : Nat) (b : List UInt8) (hb : Bs w B b) (hn' : b.length = m) (hm' : m ≤ maxLen) (z : Int) (_hz : (Lit.int .i64 z).wf = true) :
    Calls Try.prog 8 #[.slice A n c, .slice B m d, .int .i64 z] w fun e w' => e = .returned (.bool true) ∧ Below w.heap.size w w' := by
  unfold maxLen at hm hm'
  go_enter Try.func8, Try.ntmps8
  go_wp2_with fail
  (with_reducible refine (awake_any _).mono ?_)
  rintro e w1 ⟨rfl, hb1⟩
  have ra := ha.below hb1
  have rb := hb.below hb1
  clear ha hb
  have g1 : Hid (a.length = n) := hn
  have g2 : Hid (b.length = m) := hn'
  clear hn hn'
  by_cases hl : 1000 < n
  · have hl' : (1000 : Int) < n := by omega
    go_wp2_with fail
    go_ret
    exact ⟨rfl, hb1⟩
  by_cases hk : 1000 < m
  · have hl' : ¬ (1000 : Int) < n := by omega
    have hk' : (1000 : Int) < m := by omega
    go_wp2_with fail
    go_ret
    exact ⟨rfl, hb1⟩
  have hl' : ¬ (1000 : Int) < n := by omega
  have hk' : ¬ (1000 : Int) < m := by omega
  have f1 := fl1_bd a
  have f2 := fl2_bd a
  have z2 := ((below_new w1 (.cells #[.int .i64 0, .int .i64 0] 39)).alloc (by simp) (.cells #[.int .i64 0, .int .i64 0] 39))
  go_wp2_with fail
  (with_reducible refine (refSum_any A n c a _ (ra.below z2) g1.out (by omega)).mono ?_)
  rintro e w' ⟨rfl, rfl⟩
  have z3 := ((below_new w1 (.cells #[.int .i64 (fl1 a), .int .i64 (fl2 a)] 39)).alloc (by simp) (.cells #[.int .i64 0, .int .i64 0] 39))
  go_wp2_with fail
  (with_reducible refine (refSum_any B m d b _ (rb.below z3) g2.out (by omega)).mono ?_)
  rintro e w' ⟨rfl, rfl⟩
  clear z2 z3
  go_wp2_with fail
  have J := join_any (fl1 a) (fl2 a) (fl1 b) (fl2 b) m ((w1.alloc (.cells #[.int .i64 (fl1 a), .int .i64 (fl2 a)] 39)).alloc (.cells #[.int .i64 (fl1 b), .int .i64 (fl2 b)] 39))
  rw [join1 a b, join2 a b m (by rw [← g2.out]; simp)] at J
  (with_reducible refine J.mono ?_)
  rintro e w2 ⟨rfl, hb2⟩
  have p0 : w2.cell? ⟨w1.heap.size, 0, none⟩ = some (.int .i64 (fl1 a)) := cell_later hb2 (by simp)
  have p1 : w2.cell? ⟨w1.heap.size, 1, none⟩ = some (.int .i64 (fl2 a)) := cell_later hb2 (by simp)
  have p2 : w2.cell? ⟨w1.heap.size + 1, 0, none⟩ = some (.int .i64 (fl1 b)) := cell_later hb2 (by simp)
  have p3 : w2.cell? ⟨w1.heap.size + 1, 1, none⟩ = some (.int .i64 (fl2 b)) := cell_later hb2 (by simp)
  have hb2' : Below w1.heap.size w1 w2 := ((below_new w1 _).alloc (by simp) _).trans (hb2.mono (by simp; omega))
  clear J hb2
  have hown := own_empty w2 5 1
  have hba := below_new w2 (.cells #[] 5)
  have rb1 := rb.below hb2'
  have ra' := (ra.below hb2').below hba
  clear ra rb
  go_wp2_with (first
    | (at_builtin; refine wpList_app rfl bytesT (.tmp 50) (.tmp 51) rfl w2.heap.size rfl hown rfl (by simp [g1.out]) ra' (u8v_one _) (by simp only [maxLen]; omega) (by omega) hba.size n (a.map u8v) (by omega) (by simp) ?_; intro v3 w3 hown3 hbel3; have hba3 := hba.trans hbel3; have rb3 := rb1.below hba3; clear hown hba ra' hbel3)
    | (at_builtin; refine wpList_app rfl bytesT (.tmp 52) (.tmp 53) rfl w2.heap.size rfl hown3 rfl (by simp [g2.out]) rb3 (u8v_one _) (by simp only [maxLen]; omega) (by omega) hba3.size (n + m) ((a ++ b).map u8v) rfl (by simp) ?_; intro v4 w4 hown4 hbel4; have hba4 := hba3.trans hbel4; clear hown3 hba3 rb3 hbel4))
  obtain ⟨A4, c4, rfl, rd4, _, _⟩ := own_rd hown4
  (with_reducible refine (refSum_any A4 (n + m) c4 (a ++ b) _ rd4 (by simp [g1.out, g2.out]) (by omega)).mono ?_)
  rintro e w' ⟨rfl, rfl⟩
  have q0 := cell_later hba4 p0
  have q1 := cell_later hba4 p1
  have q2 := cell_later hba4 p2
  have q3 := cell_later hba4 p3
  have hb4 := hb2'.trans (hba4.mono hb2'.size)
  clear p0 p1 p2 p3 hb2' hba4 rb1 hown4 rd4
  go_wp2_with fail
  (with_reducible refine (join_any _ _ _ _ _ _).mono ?_)
  rintro e w5 ⟨rfl, hb5⟩
  have p0 := cell_later hb5 q0
  have p1 := cell_later hb5 q1
  have p2 := cell_later hb5 q2
  have p3 := cell_later hb5 q3
  have hb5' := hb4.trans (hb5.mono hb4.size)
  clear q0 q1 q2 q3 hb4 hb5
  go_wp2_with fail
  go_region_held3 (fun w' => w'.cell? ⟨w1.heap.size, 0, none⟩ = some (.int .i64 (fl1 a)) ∧ w'.cell? ⟨w1.heap.size, 1, none⟩ = some (.int .i64 (fl2 a)) ∧ w'.cell? ⟨w1.heap.size + 1, 0, none⟩ = some (.int .i64 (fl1 b)) ∧ w'.cell? ⟨w1.heap.size + 1, 1, none⟩ = some (.int .i64 (fl2 b))) (first | go_keep | exact ⟨cell_later hb6 p0, cell_later hb6 p1, cell_later hb6 p2, cell_later hb6 p3⟩)
    (first | (go_at_call 16; refine (refReduced_any _ _).mono ?_; rintro e w' ⟨rfl, rfl⟩) | (go_at_call 15; refine (join_any _ _ _ _ _ _).mono ?_; rintro e w6 ⟨rfl, hb6⟩))
  go_wp2_with fail
  go_ret
  refine ⟨?_, hb1.trans ((hb5'.drew.trans (hb6.mono hb5'.size)).mono hb1.size)⟩
  show Ending.returned (.bool (_ == _)) = _
  rw [join3 (fl2 a) (fl2 b) (fl1 a) z]; simp

set_option maxHeartbeats 800000 in
theorem changed_law (w : World) (A : Option Addr) (n c : Nat) (a : List UInt8) (ha : Bs w A a) (hn : a.length = n) (hm : n ≤ maxLen)
    (p q : Int) (hp : (Lit.int .u16 p).wf = true) (hq : (Lit.int .u16 q).wf = true) (z : Int) (hz : (Lit.int .u8 z).wf = true) :
    Calls Try.prog 5 #[.slice A n c, .agg #[.int .u16 p, .int .u16 q], .int .u8 z] w fun e w' => e = .returned (.bool true) ∧ Below w.heap.size w w' := by
  unfold maxLen at hm
  have ⟨hp0, hp1⟩ := bounds_u16 hp
  have ⟨hq0, hq1⟩ := bounds_u16 hq
  have ⟨hz0, hz1⟩ := bounds_u8 hz
  clear hp hq hz
  go_enter Try.func5, Try.ntmps5
  go_wp2_with fail
  (with_reducible refine (awake_any _).mono ?_)
  rintro e w1 ⟨rfl, hb1⟩
  have c0 := cell_later hb1 (a := ⟨w.heap.size, 0, none⟩) (v := .int .u16 p) (by simp)
  have c1 := cell_later hb1 (a := ⟨w.heap.size, 1, none⟩) (v := .int .u16 q) (by simp)
  have hb1' : Below w.heap.size w w1 := (below_new w _).trans (hb1.mono (by simp))
  have ra := ha.below hb1'
  clear ha hb1
  have g1 : Hid (a.length = n) := hn
  clear hn
  go_wp2_with fail
  go_quiet (fail)
  by_cases hl : n < 2
  · have hl' : (n : Int) < 2 := by omega
    go_wp2_with fail
    go_ret
    exact ⟨rfl, below_drewN hb1' _⟩
  by_cases hk : 600 < n
  · have hl' : ¬ (n : Int) < 2 := by omega
    have hk' : (600 : Int) < n := by omega
    go_wp2_with fail
    go_ret
    exact ⟨rfl, below_drewN hb1' _⟩
  have hl' : ¬ (n : Int) < 2 := by omega
  have hk' : ¬ (600 : Int) < n := by omega
  have b1 : 0 ≤ p % ((n : Int) - 1) ∧ p % ((n : Int) - 1) < (n : Int) - 1 := ⟨Int.emod_nonneg _ (by omega), Int.emod_lt_of_pos _ (by omega)⟩
  have b2 : 0 ≤ q % (n : Int) ∧ q % (n : Int) < (n : Int) := ⟨Int.emod_nonneg _ (by omega), Int.emod_lt_of_pos _ (by omega)⟩
  obtain ⟨k, ek⟩ : ∃ k : Nat, p % ((n : Int) - 1) = k := ⟨_, (Int.toNat_of_nonneg b1.1).symm⟩
  obtain ⟨j, ej⟩ : ∃ j : Nat, q % (n : Int) = j := ⟨_, (Int.toNat_of_nonneg b2.1).symm⟩
  rw [ek] at b1
  rw [ej] at b2
  go_wp2_with fail
  (with_reducible refine (seal_any A n c k a _ (Rd.drewN ra _) g1.out (by omega) (by omega) _ rfl).mono ?_)
  rintro e w2 ⟨v, rfl, hown, hb2⟩
  have hb2' := (below_drewN hb1' nq).trans (hb2.mono hb1'.size)
  have hlen := sealed_length a k
  rw [g1.out] at hlen
  have hchk := Lib.hid (sealed_chk a k (by rw [g1.out]; omega))
  generalize sealed a k = l at *
  have hlen := Lib.hid hlen
  obtain ⟨g, c2, rfl, hg1, hg2, hown1⟩ := own_form hown (by omega)
  have hjl : j < l.length := by rw [hlen.out]; omega
  have hcell := own_u8 hown1 hjl
  have hfz := hown1.frozenAt j
  obtain ⟨zb, hzb⟩ : ∃ zb : UInt8, z = (zb.toNat : Int) := ⟨UInt8.ofNat z.toNat, (u8_toNat_ofInt hz0 (by omega)).symm⟩
  subst hzb
  obtain ⟨hown2, _⟩ := hown1.stored j (.int .u8 (zb.toNat : Int))
  rw [show ((l.map u8v).set j (.int .u8 (zb.toNat : Int))) = (l.set j zb).map u8v from by simp [List.map_set, u8v]] at hown2
  have hb3 : Below w.heap.size w (w2.setCell ⟨g, j, none⟩ (.int .u8 (zb.toNat : Int))) := hb2'.setCell (p := ⟨g, j, none⟩) (Nat.le_trans hb1'.size hg1) _
  have hg1' := hg1
  obtain ⟨A1, c3, hv, hrd1, _, _⟩ := own_rd hown1
  simp only [Value.slice.injEq, true_and] at hv
  obtain ⟨rfl, rfl⟩ := hv
  have C1 := check_any _ n c2 l _ hrd1 hlen.out (by omega)
  rw [hchk.out] at C1
  obtain ⟨A1, c3, hv, hrd2, _, _⟩ := own_rd hown2
  simp only [Value.slice.injEq, true_and] at hv
  obtain ⟨rfl, rfl⟩ := hv
  have C2 := check_any _ n c2 (l.set j zb) _ hrd2 (by rw [List.length_set]; exact hlen.out) (by omega)
  rw [chk_changed l hchk.out j hjl zb] at C2
  clear hown hown1 hown2 hrd1 hrd2 ra c0 c1 hb2 hlen hg1'
  have hx0 : 0 ≤ (l[j].toNat : Int) := by omega
  have hx1 : (l[j].toNat : Int) ≤ 255 := by have := l[j].toNat_lt; omega
  go_wp2_with fail
  (with_reducible refine C1.mono ?_)
  rintro e w' ⟨rfl, rfl⟩
  clear C1
  go_wp2_with fail
  generalize w2.setCell ⟨g, j, none⟩ (.int .u8 (zb.toNat : Int)) = w4 at *
  (with_reducible refine C2.mono ?_)
  rintro e w' ⟨rfl, rfl⟩
  clear C2 hcell hfz
  generalize (l[j].toNat : Int) = x at *
  generalize (zb.toNat : Int) = y at *
  go_wp2_with fail
  all_goals go_ret
  all_goals (refine ⟨?_, hb3⟩)
  all_goals first | rfl | (show Ending.returned (.bool (_ == _)) = _; rw [chg_tail ‹¬ x = 0› ‹¬ x = 255›])

set_option maxHeartbeats 800000 in
theorem exchanged_law (w : World) (A : Option Addr) (n c : Nat) (a : List UInt8) (ha : Bs w A a) (hn : a.length = n) (hm : n ≤ maxLen)
    (p q : Int) (hp : (Lit.int .u16 p).wf = true) (hq : (Lit.int .u16 q).wf = true) :
    Calls Try.prog 6 #[.slice A n c, .agg #[.int .u16 p, .int .u16 q]] w fun e w' => e = .returned (.bool true) ∧ Below w.heap.size w w' := by
  unfold maxLen at hm
  have ⟨hp0, hp1⟩ := bounds_u16 hp
  have ⟨hq0, hq1⟩ := bounds_u16 hq
  clear hp hq
  go_enter Try.func6, Try.ntmps6
  go_wp2_with fail
  (with_reducible refine (awake_any _).mono ?_)
  rintro e w1 ⟨rfl, hb1⟩
  have c0 := cell_later hb1 (a := ⟨w.heap.size, 0, none⟩) (v := .int .u16 p) (by simp)
  have c1 := cell_later hb1 (a := ⟨w.heap.size, 1, none⟩) (v := .int .u16 q) (by simp)
  have hb1' : Below w.heap.size w w1 := (below_new w _).trans (hb1.mono (by simp))
  have ra := ha.below hb1'
  clear ha hb1
  have g1 : Hid (a.length = n) := hn
  clear hn
  go_wp2_with fail
  go_quiet (fail)
  by_cases hl : n < 2
  · have hl' : (n : Int) < 2 := by omega
    go_wp2_with fail
    go_ret
    exact ⟨rfl, below_drewN hb1' _⟩
  by_cases hk : 600 < n
  · have hl' : ¬ (n : Int) < 2 := by omega
    have hk' : (600 : Int) < n := by omega
    go_wp2_with fail
    go_ret
    exact ⟨rfl, below_drewN hb1' _⟩
  have hl' : ¬ (n : Int) < 2 := by omega
  have hk' : ¬ (600 : Int) < n := by omega
  have b1 : 0 ≤ p % ((n : Int) - 1) ∧ p % ((n : Int) - 1) < (n : Int) - 1 := ⟨Int.emod_nonneg _ (by omega), Int.emod_lt_of_pos _ (by omega)⟩
  have b2 : 0 ≤ q % ((n : Int) - 1) ∧ q % ((n : Int) - 1) < (n : Int) - 1 := ⟨Int.emod_nonneg _ (by omega), Int.emod_lt_of_pos _ (by omega)⟩
  obtain ⟨k, ek⟩ : ∃ k : Nat, p % ((n : Int) - 1) = k := ⟨_, (Int.toNat_of_nonneg b1.1).symm⟩
  obtain ⟨j, ej⟩ : ∃ j : Nat, q % ((n : Int) - 1) = j := ⟨_, (Int.toNat_of_nonneg b2.1).symm⟩
  rw [ek] at b1
  rw [ej] at b2
  go_wp2_with fail
  (with_reducible refine (seal_any A n c k a _ (Rd.drewN ra _) g1.out (by omega) (by omega) _ rfl).mono ?_)
  rintro e w2 ⟨v, rfl, hown, hb2⟩
  have hb2' := (below_drewN hb1' nq).trans (hb2.mono hb1'.size)
  have hlen := sealed_length a k
  rw [g1.out] at hlen
  have hchk := Lib.hid (sealed_chk a k (by rw [g1.out]; omega))
  generalize sealed a k = l at *
  have hlen := Lib.hid hlen
  obtain ⟨g, c2, rfl, hg1, hg2, hown1⟩ := own_form hown (by omega)
  have hjl : j + 1 < l.length := by rw [hlen.out]; omega
  have hcell := own_u8 hown1 (k := j) (by omega)
  have hcell2 := own_u8 hown1 hjl
  have hfz := hown1.frozenAt j
  have hfz2 := hown1.frozenAt (j + 1)
  have hx0 : 0 ≤ (l[j].toNat : Int) := by omega
  have hy0 : 0 ≤ (l[j+1].toNat : Int) := by omega
  clear hown ra c0 c1 hb2
  go_wp2_with fail
  rw [ej]
  go_quiet (fail)
  have hown1 : (w2.drewN nq).ownsRow _ _ _ _ _ _ := hown1
  have hcell : (w2.drewN nq).cell? _ = _ := hcell
  have hcell2 : (w2.drewN nq).cell? _ = _ := hcell2
  have hfz : (w2.drewN nq).frozen? _ = _ := hfz
  have hfz2 : (w2.drewN nq).frozen? _ = _ := hfz2
  have hb2' := below_drewN hb2' nq
  generalize w2.drewN nq = w3 at *
  have hown2 := ((hown1.stored j (.int .u8 (l[j+1].toNat : Int))).1.stored (j + 1) (.int .u8 (l[j].toNat : Int))).1
  rw [show (((l.map u8v).set j (.int .u8 (l[j+1].toNat : Int))).set (j + 1) (.int .u8 (l[j].toNat : Int))) = ((l.set j l[j+1]).set (j + 1) l[j]).map u8v from by simp [List.map_set, u8v]] at hown2
  have hb3 : Below w.heap.size w ((w3.setCell ⟨g, j, none⟩ (.int .u8 (l[j+1].toNat : Int))).setCell ⟨g, j + 1, none⟩ (.int .u8 (l[j].toNat : Int))) :=
    (hb2'.setCell (p := ⟨g, j, none⟩) (Nat.le_trans hb1'.size hg1) _).setCell (p := ⟨g, j + 1, none⟩) (Nat.le_trans hb1'.size hg1) _
  obtain ⟨A1, c3, hv, hrd2, _, _⟩ := own_rd hown2
  simp only [Value.slice.injEq, true_and] at hv
  obtain ⟨rfl, rfl⟩ := hv
  have C2 := check_any _ n c2 _ _ hrd2 (by rw [List.length_set, List.length_set]; exact hlen.out) (by omega)
  rw [chk_exchanged l hchk.out j hjl] at C2
  clear hown1 hown2 hrd2 hlen
  go_wp2_with fail
  generalize (w3.setCell ⟨g, j, none⟩ (.int .u8 (l[j+1].toNat : Int))).setCell ⟨g, j + 1, none⟩ (.int .u8 (l[j].toNat : Int)) = w4 at *
  (with_reducible refine C2.mono ?_)
  rintro e w' ⟨rfl, rfl⟩
  clear C2 hcell hfz hcell2 hfz2
  generalize (l[j].toNat : Int) = x at *
  generalize (l[j+1].toNat : Int) = y at *
  go_wp2_with fail
  all_goals (go_ret; exact ⟨by simp, hb3⟩)

set_option maxHeartbeats 800000 in
theorem parts_law (w : World) (A : Option Addr) (n c : Nat) (a : List UInt8) (ha : Bs w A a) (hn : a.length = n) (hm : n ≤ maxLen)
    (B : Option Addr) (m d : Nat) (b : List UInt8) (hb : Bs w B b) (hn' : b.length = m) (hm' : m ≤ maxLen) (z : Int) (hz : (Lit.int .u8 z).wf = true) :
    Calls Try.prog 7 #[.slice A n c, .slice B m d, .int .u8 z] w fun e w' => e = .returned (.bool true) ∧ Below w.heap.size w w' := by
  unfold maxLen at hm hm'
  have ⟨hz0, hz1⟩ := bounds_u8 hz
  clear hz
  go_enter Try.func7, Try.ntmps7
  go_wp2_with fail
  (with_reducible refine (awake_any _).mono ?_)
  rintro e w1 ⟨rfl, hb1⟩
  have ra := ha.below hb1
  have rb := hb.below hb1
  clear ha hb
  have g1 : Hid (a.length = n) := hn
  have g2 : Hid (b.length = m) := hn'
  clear hn hn'
  by_cases hl : n < 2 ∨ 300 < n ∨ 300 < m
  · go_wp2_with fail
    all_goals first | (exfalso; omega) | skip
    all_goals (go_ret; exact ⟨rfl, hb1⟩)
  have h1 : ¬ (n : Int) < 2 := by omega
  have h2 : ¬ (300 : Int) < n := by omega
  have h3 : ¬ (300 : Int) < m := by omega
  clear hl
  obtain ⟨k, ek⟩ : ∃ k : Nat, (n : Int) - 2 = k := ⟨n - 2, by omega⟩
  go_wp2_with fail
  (with_reducible refine (seal_any A n c k a _ ra g1.out (by omega) (by omega) _ rfl).mono ?_)
  rintro e w2 ⟨v, rfl, hown, hb2⟩
  have hlen := sealed_length a k
  rw [g1.out] at hlen
  have hchk := Lib.hid (sealed_chk a k (by rw [g1.out]; omega))
  generalize sealed a k = l at *
  have hlen := Lib.hid hlen
  have rb2 := rb.below hb2
  have hb2' := hb1.trans (hb2.mono hb1.size)
  obtain ⟨A1, c1, rfl, rl, _, _⟩ := own_rd hown
  clear ra rb hown hb2 hb1
  have hown := own_empty w2 5 1
  have hba := below_new w2 (.cells #[] 5)
  have rl' := rl.below hba
  go_wp2_with (first
    | (at_builtin; refine wpList_app rfl bytesT (.tmp 39) (.tmp 40) rfl w2.heap.size rfl hown rfl (by simp [hlen.out]) rl' (u8v_one _) (by simp only [maxLen]; omega) (by omega) hba.size n (l.map u8v) (by omega) (by simp) ?_; intro v3 w3 hown3 hbel3; have hba3 := hba.trans hbel3; have rb3 := rb2.below hba3; clear hown hba rl' hbel3)
    | (at_builtin; refine wpList_app rfl bytesT (.tmp 41) (.tmp 42) rfl w2.heap.size rfl hown3 rfl (by simp [g2.out]) rb3 (u8v_one _) (by simp only [maxLen]; omega) (by omega) hba3.size (n + m) ((l ++ b).map u8v) rfl (by simp) ?_; intro v4 w4 hown4 hbel4; have hba4 := hba3.trans hbel4; clear hown3 hba3 rb3 hbel4))
  obtain ⟨A4, c4, rfl, rd4, _, _⟩ := own_rd hown4
  have S1 := sum_any A4 (n + m) c4 (l ++ b) _ rd4 (by simp [hlen.out, g2.out]) (by omega)
  rw [(fl_parts l b hchk.out).1, (fl_parts l b hchk.out).2] at S1
  (with_reducible refine S1.mono ?_)
  rintro e w' ⟨rfl, rfl⟩
  clear S1 hown4 rd4
  have rl4 := rl.below hba4
  go_wp2_with fail
  (with_reducible refine (sum_any B m d b _ (rb2.below hba4) g2.out (by omega)).mono ?_)
  rintro e w' ⟨rfl, rfl⟩
  obtain ⟨zn, rfl⟩ : ∃ zn : Nat, z = zn := ⟨_, (Int.toNat_of_nonneg hz0).symm⟩
  have hb4' := hb2'.trans (hba4.mono hb2'.size)
  clear rl rb2 hba4 hb2'
  have hmk := run_make1 bytesT rfl .u8 .u8 zn zn (Nat.le_refl _) (by omega) (by omega) w4
  have hownz := own_made w4 (.int .u8 0) zn 5 (by simp only [maxLen]; omega)
  have hbz := below_new w4 (.cells (zeroRow (.int .u8 0) zn) 5)
  have rl5 := rl4.below hbz
  go_wp2_with (at_builtin; refine wpList_app rfl bytesT (.tmp 62) (.tmp 63) rfl w4.heap.size rfl hownz rfl (by simp [hlen.out]) rl5 (u8v_one _) (by simp only [maxLen]; omega) (by omega) hbz.size (zn + n) ((List.replicate zn 0 ++ l).map u8v) rfl (by simp [u8v]) ?_; intro v5 w5 hown5 hbel5; have hb5' := hb4'.trans ((hbz.trans hbel5).mono hb4'.size); clear hownz hbz rl5 hbel5)
  obtain ⟨A5, c5, rfl, rd5, _, _⟩ := own_rd hown5
  have S5 := check_any A5 (zn + n) c5 (List.replicate zn 0 ++ l) _ rd5 (by simp [hlen.out]) (by omega)
  rw [chk_zeros, hchk.out] at S5
  (with_reducible refine S5.mono ?_)
  rintro e w' ⟨rfl, rfl⟩
  go_wp2_with fail
  go_ret
  exact ⟨rfl, hb5'⟩

end Go.Proofs.Ytlcjbjmpnmdbcaa
