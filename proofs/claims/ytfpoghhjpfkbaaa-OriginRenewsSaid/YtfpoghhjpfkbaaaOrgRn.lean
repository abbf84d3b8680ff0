/-
  The walk of the statement OriginRenews.
-/
import Derived.Test.YtfpoghhjpfkbaaaOrgN
namespace Go.Proofs.Ytfpoghhjpfkbaaa
set_option linter.unusedVariables false
open Go.RowKit Go.Sort

def u16V (l : List Int) : List Value := l.map (Value.int .u16)
theorem tick_gen (x : La) (n : Int) (a0 : 0 ≤ x.a) (a1 : x.a < 1800) (s1 : x.s ≤ 1073000000) (n0 : 0 ≤ n) (n1 : n ≤ 30000) :
    tickX x true n = num x.o (x.s + (x.a + n) / 1800) ((x.a + n) % 1800) x ∧ tickB x true n = decide (1800 ≤ x.a + n) := by
  by_cases hn : 0 < n
  · have e1 : tickX x true n = if renews x n = true then { x with s := x.s + times x n, a := capA (n - (1800 - x.a) - (times x n - 1) * 1800) } else { x with a := capA (x.a + n) } := by unfold tickX; rw [if_pos ⟨rfl, hn⟩]
    have e2 : tickB x true n = renews x n := by unfold tickB; rw [decide_eq_true hn]; simp
    rw [e1, e2]
    by_cases hr : 1800 ≤ x.a + n
    · have hre : renews x n = true := by unfold renews; rw [decide_eq_true a1, decide_eq_true (by omega), decide_eq_true (by omega)]; rfl
      have ht : times x n = (x.a + n) / 1800 := by unfold times; rw [if_pos (by omega)]; omega
      have hc : capA (n - (1800 - x.a) - ((x.a + n) / 1800 - 1) * 1800) = (x.a + n) % 1800 := by unfold capA; rw [if_pos (by omega)]; omega
      rw [hre, ht, hc, if_pos rfl, decide_eq_true hr]
      exact ⟨rfl, rfl⟩
    · have hre : renews x n = false := by unfold renews; rw [decide_eq_true a1, decide_eq_false (by omega)]; rfl
      have hc : capA (x.a + n) = (x.a + n) % 1800 := by unfold capA; rw [if_pos (by omega)]; omega
      rw [hre, hc, if_neg (by simp), decide_eq_false hr, show (x.a + n) / 1800 = 0 by omega, Int.add_zero]
      exact ⟨rfl, rfl⟩
  · obtain rfl : n = 0 := by omega
    have e1 : tickX x true 0 = x := by unfold tickX; rw [if_neg (by simp)]
    have e2 : tickB x true 0 = false := by unfold tickB; simp
    rw [e1, e2, Int.add_zero, show x.a / 1800 = 0 by omega, show x.a % 1800 = x.a by omega, Int.add_zero, decide_eq_false (by omega)]
    exact ⟨rfl, rfl⟩
theorem tick_total (T n : Int) (h0 : 0 ≤ T) (h1 : T ≤ 200000) (h2 : 0 ≤ n) (h3 : n ≤ 10000) :
    tickX (bare 5 (1 + T / 1800) (T % 1800) true) true n = bare 5 (1 + (T + n) / 1800) ((T + n) % 1800) true ∧ tickB (bare 5 (1 + T / 1800) (T % 1800) true) true n = decide (T / 1800 < (T + n) / 1800) := by
  obtain ⟨e1, e2⟩ := tick_gen (bare 5 (1 + T / 1800) (T % 1800) true) n (by simp only [bare]; omega) (by simp only [bare]; omega) (by simp only [bare]; omega) h2 (by omega)
  rw [e1, e2]
  refine ⟨?_, ?_⟩
  · simp only [bare, num, La.mk.injEq, true_and, and_true]; omega
  · exact decide_eq_decide.2 (by show 1800 ≤ T % 1800 + n ↔ T / 1800 < (T + n) / 1800; omega)

set_option maxRecDepth 100000 in
set_option maxHeartbeats 6400000 in
theorem renews_law (w : World) (A : Option Addr) (n c : Nat) (l : List Int) (hr : Rd w A (u16V l)) (hn : l.length = n) (hm : n ≤ maxLen) (hu : ∀ z ∈ l, 0 ≤ z ∧ z ≤ 65535) :
    Calls Try.prog 6 #[.slice A n c] w fun e w' => e = .returned (.bool true) ∧ Below w.heap.size w w' := by
  unfold maxLen at hm
  replace hr : Hid (Rd w A (u16V l)) := hr
  replace hn := Lib.hid hn
  replace hu := Lib.hid hu
  have B := Below.refl w.heap.size w
  go_enter Try.func6, Try.ntmps6
  go_wp2_with fail
  (with_reducible refine (awake_any _).mono ?_)
  rintro e w1 ⟨rfl, hb⟩
  replace B := hb
  clear hb
  by_cases hl : 20 < n
  · have hl' : (20 : Int) < n := by omega
    go_wp2_with fail
    go_ret
    exact ⟨rfl, B⟩
  have hl' : ¬ (20 : Int) < n := by omega
  have N := onew_ok w1 5 (by omega) (by omega)
  unfold OrNew at N
  rw [show (⟨5, 0, 0, false, [], []⟩ : La) = bare 5 0 0 false from rfl] at N
  replace N := Lib.hid N
  have hgs := B.size
  go_wp2_with fail
  (with_reducible refine (N.out).mono ?_)
  rintro e w2 ⟨rfl, oat, hb⟩
  clear N
  replace B := B.trans (hb.mono B.size)
  clear hb
  generalize w1.heap.size = g at *
  have T0 := otick_any w2 g (bare 5 0 0 false) false 5000 oat (by omega) (by simp [bare]) (by simp [bare]) (by simp [bare]) (by simp [bare])
  rw [show tickX (bare 5 0 0 false) false 5000 = bare 5 0 0 false by simp [tickX], show tickB (bare 5 0 0 false) false 5000 = false from rfl] at T0
  replace T0 := Lib.hid T0
  clear oat
  go_wp2_with fail
  (with_reducible refine (T0.out).mono ?_)
  rintro e w3 ⟨rfl, oat, hg⟩
  clear T0
  replace B := below_via B hg hgs B.size
  clear hg
  have FL := floor_any w3 g (bare 5 0 0 false) false oat
  rw [show (bare 5 0 0 false).s = 0 from rfl] at FL
  replace FL := Lib.hid FL
  replace oat : Hid (OrAt w3 g (bare 5 0 0 false) false) := oat
  go_wp2_with fail
  (with_reducible refine (FL.out).mono ?_)
  rintro e w4 ⟨rfl, rfl⟩
  clear FL
  have K := oset_any w3 g _ (bare 5 0 0 false) (bare 0 0 0 true) false oat.out (bare_co w3 true 0 0 0) (by simp [bare]) (by simp [bare]) (by simp [bare]) (by simp [bare])
  rw [show setP (bare 5 0 0 false) false (bare 0 0 0 true) = ⟨bare 5 1 0 true, true, true, 0⟩ by unfold setP; rw [show num (bare 5 0 0 false).o 1 0 (bare 0 0 0 true) = bare 5 1 0 true from rfl, vB_t (bare_valid 5 1 0 true (by omega) (by omega) (by omega) (by omega) (by omega) (by omega)), if_pos rfl, if_neg (by simp), if_neg (by simp [bare])]; rfl] at K
  unfold OrPost at K
  replace K := Lib.hid K
  clear oat
  go_wp2_with fail
  (with_reducible refine (K.out).mono ?_)
  rintro e w5 ⟨rfl, oat, hg⟩
  clear K
  replace B := below_via B hg hgs B.size
  clear hg
  replace oat : Hid (OrAt w5 g (bare 5 1 0 true) true) := oat
  go_wp2_with fail
  go_loopw [7, 8] (fun v7 v8 wr => ∃ (k : Nat) (T : Int), v7 = .int .i64 T ∧ v8 = .int .i64 k ∧ k ≤ n ∧ 0 ≤ T ∧ T ≤ 10000 * k ∧ Below w.heap.size w wr ∧ Hid (OrAt wr g (bare 5 (1 + T / 1800) (T % 1800) true) true)) (fun _ v8 _ => n - (intOf v8).toNat)
  case atStart => exact ⟨0, 0, rfl, rfl, by omega, by omega, by omega, B, oat⟩
  case round =>
    clear B oat
    obtain ⟨k, T, rfl, rfl, hk, hT0, hT1, B, oat⟩ := hrel
    by_cases hkn : k < n
    · have hkl : k < l.length := by rw [hn.out]; exact hkn
      obtain ⟨b, off, rfl, hc⟩ := rd_at (hr.out.below B) (by rw [u16V, List.length_map]; omega)
      have x0 := hc k (.int .u16 l[k]) (by simp [u16V])
      have hz := hu.out l[k] (List.getElem_mem hkl)
      generalize l[k] = z at *
      have hz1 : 0 ≤ z % 10001 ∧ z % 10001 ≤ 10000 := by omega
      clear hc
      obtain ⟨d, hd⟩ : ∃ d, z % 10001 = d := ⟨_, rfl⟩
      rw [hd] at hz1
      have TT := tick_total T d hT0 (by omega) hz1.1 hz1.2
      have TK := otick_any wr g (bare 5 (1 + T / 1800) (T % 1800) true) true d oat.out (by omega) (by simp only [bare]; omega) (by simp only [bare]; omega) (by simp only [bare]; omega) (by simp only [bare]; omega)
      rw [TT.1, TT.2] at TK
      replace TK := Lib.hid TK
      clear TT oat
      obtain ⟨hz2, hz3⟩ := hz1
      go_wp2_with fail
      (with_reducible refine (TK.out).mono ?_)
      rintro e w6 ⟨rfl, oat, hg⟩
      clear TK
      replace B := below_via B hg hgs B.size
      clear hg x0
      have S1 := current_any w6 g _ true oat (by simp [bare]) (by simp [bare])
      generalize hX : bare 5 (1 + (T + d) / 1800) ((T + d) % 1800) true = X at *
      rw [show CurPost w6 X true = fun e w' => ∃ v, e = .returned (.tuple #[v, .bool true]) ∧ LaOwn w' w6.heap.size v X ∧ Below w6.heap.size w6 w' from rfl] at S1
      replace S1 := Lib.hid S1
      replace hX := Lib.hid hX
      go_wp2_with fail
      (with_reducible refine (S1.out).mono ?_)
      rintro e w7 ⟨v7, rfl, hown, hb⟩
      clear S1
      obtain ⟨A7, c7, B7, d7, rfl, hL7⟩ := hown.open
      clear hL7 hown
      have S := ((St.start w6).call hb).new' #[.int .i64 X.o, .int .i64 X.s, .int .i64 X.a, .bool X.ov, .slice A7 X.adj.length c7, .slice B7 X.pre.length d7] 32 w7.heap.size _ rfl rfl
      replace oat := oat.below S.b
      replace B := B.trans (S.b.mono B.size)
      clear hb
      go_upto_region 20 with fail
      generalize w7.alloc _ = w8 at *
      have q0 := S.c 0 0 rfl rfl
      have q1 := S.c 0 1 rfl rfl
      have q2 := S.c 0 2 rfl rfl
      have q3 := S.c 0 3 rfl rfl
      have q4 := S.c 0 4 rfl rfl
      have q5 := S.c 0 5 rfl rfl
      clear S
      have hXs : X.s = 1 + (T + d) / 1800 := by rw [← hX.out]; rfl
      have hXa : X.a = (T + d) % 1800 := by rw [← hX.out]; rfl
      have hXo : X.ov = true := by rw [← hX.out]; rfl
      replace oat := Lib.hid oat
      have hfin : Hid (∀ W, OrAt W g X true → OrAt W g (bare 5 (1 + (T + d) / 1800) ((T + d) % 1800) true) true) := fun W h => by rw [hX.out]; exact h
      clear hX
      by_cases hbb : T / 1800 < (T + d) / 1800
      · have hdec : decide (T / 1800 < (T + d) / 1800) = true := decide_eq_true hbb
        go_wp2_with fail
        go_round
        case rel => exact ⟨k + 1, T + d, rfl, by go_num, by omega, by omega, by omega, B, Lib.hid (hfin.out _ oat.out)⟩
        case measure => simp [intOf]; omega
      · have hdec : decide (T / 1800 < (T + d) / 1800) = false := decide_eq_false hbb
        go_wp2_with fail
        go_round
        case rel => exact ⟨k + 1, T + d, rfl, by go_num, by omega, by omega, by omega, B, Lib.hid (hfin.out _ oat.out)⟩
        case measure => simp [intOf]; omega
    · obtain rfl : k = n := by omega
      go_wp2_with fail
      go_ret
      exact ⟨rfl, B⟩

end Go.Proofs.Ytfpoghhjpfkbaaa
