/-
  The contract of lsa.Decode.
-/
import Derived.Test.YtdepfgalaicpeaaAcc
import Derived.Test.YtdepfgalaicpeaaBeq
import Derived.Test.YtdepfgalaicpeaaEnc
import Derived.Test.YtdepfgalaicpeaaCodD
import Derived.Deep.RegionLaw
import Derived.IntWalk
namespace Go.Proofs.Ytdepfgalaicpeaa
set_option linter.unusedVariables false
open Go.RowKit

/-- What Decode leaves. -/
def LdecPost (w : World) (bs : List UInt8) (e : Ending) (w' : World) : Prop :=
  ∃ v, e = .returned (.tuple #[v, .int .i64 (ldecE bs)]) ∧ LaOwn w' w.heap.size v (ldecV bs) ∧ Below w.heap.size w w'

abbrev z6 : List Value := [.int .i64 0, .int .i64 0, .int .i64 0, .bool false, .slice none 0 0, .slice none 0 0]

theorem St.set6 {W w : World} {g : Nat} {bs : List (Nat × List Value)} {rs : List (Option Addr × List Value)} {a0 a1 a2 a3 a4 a5 : Value} (S : St W w ((g, [a0, a1, a2, a3, a4, a5]) :: bs) rs) (o s a : Int) (ov : Bool) (vA vB : Value) (hg : W.heap.size ≤ g) (hd : ∀ x ∈ bs, x.1 ≠ g) :
    St W ((((((w.setCell ⟨g, 0, none⟩ (.int .i64 o)).setCell ⟨g, 1, none⟩ (.int .i64 s)).setCell ⟨g, 2, none⟩ (.int .i64 a)).setCell ⟨g, 3, none⟩ (.bool ov)).setCell ⟨g, 4, none⟩ vA).setCell ⟨g, 5, none⟩ vB) ((g, [.int .i64 o, .int .i64 s, .int .i64 a, .bool ov, vA, vB]) :: bs) rs :=
  (((((S.set 0 0 (.int .i64 o) rfl (by simp) hg hd _ rfl).set 0 1 (.int .i64 s) rfl (by simp) hg hd _ rfl).set 0 2 (.int .i64 a) rfl (by simp) hg hd _ rfl).set 0 3 (.bool ov) rfl (by simp) hg hd _ rfl).set 0 4 vA rfl (by simp) hg hd _ rfl).set 0 5 vB rfl (by simp) hg hd _ rfl

theorem own_set6 {w : World} {base : Nat} {e : TypeId} {size : Nat} {v : Value} {n : Nat} {xs : List Value} (h : w.ownsRow base e size v n xs) {g : Nat} (hg : g < base) (u0 u1 u2 u3 u4 u5 : Value) :
    ((((((w.setCell ⟨g, 0, none⟩ u0).setCell ⟨g, 1, none⟩ u1).setCell ⟨g, 2, none⟩ u2).setCell ⟨g, 3, none⟩ u3).setCell ⟨g, 4, none⟩ u4).setCell ⟨g, 5, none⟩ u5).ownsRow base e size v n xs :=
  ownsRow_setCell_below (a := ⟨g, 5, none⟩) (ownsRow_setCell_below (a := ⟨g, 4, none⟩) (ownsRow_setCell_below (a := ⟨g, 3, none⟩) (ownsRow_setCell_below (a := ⟨g, 2, none⟩) (ownsRow_setCell_below (a := ⟨g, 1, none⟩) (ownsRow_setCell_below (a := ⟨g, 0, none⟩) h hg _) hg _) hg _) hg _) hg _) hg _

set_option maxRecDepth 100000 in
set_option maxHeartbeats 16000000 in
theorem ldecode_any (A : Option Addr) (n cap : Nat) (bs : List UInt8) (w : World) (hr : Bs w A bs) (hn : bs.length = n) (hcap : n ≤ cap) (hm : cap ≤ maxLen) (hn2 : n ≤ 100000) :
    Calls Try.prog 27 #[.slice A n cap] w (LdecPost w bs) := by
  have S : St w (w.alloc (.cells #[.int .i64 0, .int .i64 0, .int .i64 0, .bool false, .slice none 0 0, .slice none 0 0] 25)) [(w.heap.size, z6)] [(A, bs.map u8v)] := ((St.start w).read hr).new #[.int .i64 0, .int .i64 0, .int .i64 0, .bool false, .slice none 0 0, .slice none 0 0] 25
  have CK := check_any A n cap bs _ (S.r 0 rfl) hn (by omega)
  have DK := cdecode_any A n cap bs _ (S.r 0 rfl) hn hcap hm (by omega)
  obtain ⟨E, hE⟩ : ∃ E, ldecE bs = E := ⟨_, rfl⟩
  obtain ⟨V, hV⟩ : ∃ V, ldecV bs = V := ⟨_, rfl⟩
  have hPD : LdecPost w bs = fun e w' => ∃ v, e = .returned (.tuple #[v, .int .i64 E]) ∧ LaOwn w' w.heap.size v V ∧ Below w.heap.size w w' := by subst hE hV; rfl
  rw [hPD]
  clear hPD
  replace hE := Lib.hid hE
  replace hV := Lib.hid hV
  replace hn := Lib.hid hn
  by_cases hc : chk bs = false
  · obtain rfl : E = 5 := by rw [← hE.out, ldecE_sum hc]
    obtain rfl : V = laZero := by rw [← hV.out, ldecV_sum hc]
    rw [hc] at CK
    clear DK hc
    replace CK := Lib.hid CK
    have hb := S.b
    have c0 := S.c 0 0 rfl rfl
    have c1 := S.c 0 1 rfl rfl
    have c2 := S.c 0 2 rfl rfl
    have c3 := S.c 0 3 rfl rfl
    have c4 := S.c 0 4 rfl rfl
    have c5 := S.c 0 5 rfl rfl
    go_enter Try.func27, Try.ntmps27
    go_wp2_with fail
    (with_reducible refine CK.out.mono ?_)
    rintro e w1 ⟨rfl, rfl⟩
    go_wp2_with fail
    exact bodyPost_ret (v := .tuple #[laV 0 0 0 false none 0 0 none 0 0, .int .i64 5]) (by simp [results, Try.results27, go_sem, c0, c1, c2, c3, c4, c5]) rfl ⟨_, rfl, laZero_own _ _, hb⟩
  have hc1 : chk bs = true := by simpa using hc
  rw [hc1] at CK
  clear hc
  replace CK := Lib.hid CK
  replace hc1 := Lib.hid hc1
  rcases hD : decO bs with _ | l
  · obtain rfl : E = 4 := by rw [← hE.out, ldec_no hc1.out (ldec_form hD)]
    obtain rfl : V = laZero := by rw [← hV.out, ldecV_no (ldec_form hD)]
    have hDE : Hid (decE bs = 4) := by show _ = _; unfold decE; rw [hD]; rfl
    clear hD
    go_enter Try.func27, Try.ntmps27
    go_wp2_with fail
    (with_reducible refine CK.out.mono ?_)
    rintro e w1 ⟨rfl, rfl⟩
    go_wp2_with fail
    (with_reducible refine DK.mono ?_)
    rintro e w2 ⟨v, rs, rfl, hown, hrs, hd, hb2⟩
    rw [hDE.out]
    replace hd := Lib.hid hd
    replace S := S.call hb2
    have c0 := S.c 0 0 rfl rfl
    have c1 := S.c 0 1 rfl rfl
    have c2 := S.c 0 2 rfl rfl
    have c3 := S.c 0 3 rfl rfl
    have c4 := S.c 0 4 rfl rfl
    have c5 := S.c 0 5 rfl rfl
    have f0 := S.f 0 0 rfl rfl
    have f1 := S.f 0 1 rfl rfl
    have f2 := S.f 0 2 rfl rfl
    have f3 := S.f 0 3 rfl rfl
    have f4 := S.f 0 4 rfl rfl
    have f5 := S.f 0 5 rfl rfl
    go_wp2_with fail
    have S9 := S.set6 0 0 0 false (.slice none 0 0) (.slice none 0 0) (Nat.le_refl _) (by simp)
    exact bodyPost_ret (v := .tuple #[laV 0 0 0 false none 0 0 none 0 0, .int .i64 4]) (by simp [results, Try.results27, go_sem, c0, c1, c2, c3, c4, c5]) rfl ⟨_, rfl, laZero_own _ _, S9.b⟩
  have hDE : Hid (decE bs = 0) := by show _ = _; unfold decE; rw [hD]; rfl
  have hDL : Hid (decL bs = l) := by show _ = _; unfold decL; rw [hD]; rfl
  have hll := (decO_all _ bs (Nat.le_refl _) l hD).2.2
  rw [hn.out] at hll
  have hno := fun h => ldec_P (l := l) hD h
  replace hno := Lib.hid hno
  clear hD
  go_enter Try.func27, Try.ntmps27
  go_wp2_with fail
  (with_reducible refine CK.out.mono ?_)
  rintro e w1 ⟨rfl, rfl⟩
  go_wp2_with fail
  (with_reducible refine DK.mono ?_)
  rintro e w2 ⟨v, rs, rfl, hown, hrs, hd, hb2⟩
  rw [hDE.out]
  rw [hDL.out] at hd
  replace S := S.call hb2
  have hrl : rs.length = l.length := by rw [← hd, List.length_map]
  replace hd := Lib.hid hd
  have hrl2 : rs.length ≤ 100000 := by omega
  replace hrl := Lib.hid hrl
  obtain ⟨A2, c2, rfl, rd2, _, _⟩ := own_rd hown
  replace hrs := Lib.hid hrs
  clear DK CK hb2 hown
  go_wp2_with fail
  generalize (w.alloc (.cells #[.int .i64 0, .int .i64 0, .int .i64 0, .bool false, .slice none 0 0, .slice none 0 0] 25)).heap.size = base at *
  have Q0 := AccS.start w2
  generalize w2.alloc (.cells #[.int .i64 0, .int .i64 0, .int .i64 0, .bool false, .slice none 0 0, .slice none 0 0] 25) = w3 at *
  go_loopw [27] (fun v27 wr => ∃ (k : Nat) (x : La) (vA vB : Value), v27 = .int .i64 k ∧ k ≤ rs.length ∧ Hid (x = foldP laZero ((rs.take k).map dat)) ∧ x.adj.length ≤ k ∧ x.pre.length ≤ k ∧ AccS w2 wr x vA vB) (fun v27 _ => rs.length - (intOf v27).toNat)
  case atStart => exact ⟨0, _, _, _, rfl, by omega, rfl, by simp [laZero, foldP], by simp [laZero, foldP], Q0⟩
  case round =>
    clear Q0
    obtain ⟨k, x, vA, vB, rfl, hk, hx, hxa, hxp, Q⟩ := hrel
    by_cases hkn : k < rs.length
    · obtain ⟨b, off, rfl, c0, c1⟩ := rd_recs (rd2.below Q.b) hkn
      have htk : (rs.take (k + 1)).map dat = (rs.take k).map dat ++ [dat rs[k]] := by rw [List.take_succ_eq_append_getElem hkn, List.map_append]; rfl
      have hrk := (hrs.out rs[k] (List.getElem_mem hkn)).below Q.b
      generalize rs[k] = r at c0 c1 htk hrk
      have T := AccT.start Q r hrk 50 30
      obtain ⟨t, B, m, c, y⟩ := r
      simp only at c0 c1 T
      have hstep : Hid (∀ x', x' = stepP x (t, y) → x' = foldP laZero ((rs.take (k + 1)).map dat)) := by
        rintro x' rfl
        rw [htk, foldP_snoc, hx.out]; rfl
      clear htk hrk
      by_cases h1 : t = 1
      · subst h1
        obtain ⟨y1, hy1⟩ : ∃ z, y.drop 2 = z := ⟨_, rfl⟩
        obtain ⟨y2, hy2⟩ : ∃ z, y1.drop 4 = z := ⟨_, rfl⟩
        obtain ⟨y3, hy3⟩ : ∃ z, y2.drop 2 = z := ⟨_, rfl⟩
        obtain ⟨y4, hy4⟩ : ∃ z, y3.drop 1 = z := ⟨_, rfl⟩
        obtain ⟨q0, hq0⟩ : ∃ z, uiN (y.take 2) = z := ⟨_, rfl⟩
        obtain ⟨q1, hq1⟩ : ∃ z, uiN (y1.take 4) = z := ⟨_, rfl⟩
        obtain ⟨q2, hq2⟩ : ∃ z, uiN (y2.take 2) = z := ⟨_, rfl⟩
        obtain ⟨q3, hq3⟩ : ∃ z, uiN (y3.take 1) = z := ⟨_, rfl⟩
        obtain ⟨q4, hq4⟩ : ∃ z, decide (q3 = 1) = z := ⟨_, rfl⟩
        replace hstep := hstep.out _ rfl
        rw [stepP, if_pos rfl] at hstep
        simp only [hy1, hy2, hy3, hq0, hq1, hq2, hq3, hq4] at hstep
        have hbe : ((q3 : Int) == 1) = q4 := by rw [← hq4, Bool.eq_iff_iff]; simp; omega
        replace hstep := Lib.hid hstep
        replace hy1 := Lib.hid hy1
        replace hy2 := Lib.hid hy2
        replace hy3 := Lib.hid hy3
        replace hy4 := Lib.hid hy4
        replace hq0 := Lib.hid hq0
        replace hq1 := Lib.hid hq1
        replace hq2 := Lib.hid hq2
        replace hq3 := Lib.hid hq3
        clear hq4
        go_wp2_with fail
        generalize (wr.alloc (.cells #[.int .i64 1, .slice B m c] 50)).alloc (.cells #[.slice B m c] 30) = w4 at *
        generalize wr.heap.size = gr at *
        clear c0 c1 Q
        (with_reducible refine (take_acc w4 2 2 rfl (by omega) q0 y1 hq0.out hy1.out T).mono ?_)
        clear T
        rintro e w5 ⟨rfl, T⟩
        go_wp2_with fail
        (with_reducible refine (take_acc w5 4 4 rfl (by omega) q1 y2 hq1.out hy2.out T).mono ?_)
        clear T
        rintro e w6 ⟨rfl, T⟩
        go_wp2_with fail
        (with_reducible refine (take_acc w6 2 2 rfl (by omega) q2 y3 hq2.out hy3.out T).mono ?_)
        clear T
        rintro e w7 ⟨rfl, T⟩
        go_wp2_with fail
        (with_reducible refine (take_acc w7 1 1 rfl (by omega) q3 y4 hq3.out hy4.out T).mono ?_)
        clear T
        rintro e w8 ⟨rfl, T⟩
        have Q := T.acc
        have d0 := Q.box.c 0 rfl
        have d1 := Q.box.c 1 rfl
        have d2 := Q.box.c 2 rfl
        have d3 := Q.box.c 3 rfl
        have e0 := Q.box.f 0 rfl
        have e1 := Q.box.f 1 rfl
        have e2 := Q.box.f 2 rfl
        have e3 := Q.box.f 3 rfl
        have Q2 := Q.head q0 q1 q2 q4
        clear T Q
        go_wp2_with fail
        go_roundw
        case rel => exact ⟨k + 1, _, vA, vB, by go_num, by omega, hstep, by simp only; omega, by simp only; omega, Q2⟩
        case measure => simp [intOf]; omega
      have h1b : (t == 1) = false := by simpa using h1
      by_cases h2 : t = 2
      · subst h2
        obtain ⟨y1, hy1⟩ : ∃ z, y.drop 2 = z := ⟨_, rfl⟩
        obtain ⟨y2, hy2⟩ : ∃ z, y1.drop 2 = z := ⟨_, rfl⟩
        obtain ⟨y3, hy3⟩ : ∃ z, y2.drop 2 = z := ⟨_, rfl⟩
        obtain ⟨q0, hq0⟩ : ∃ z, uiN (y.take 2) = z := ⟨_, rfl⟩
        obtain ⟨q1, hq1⟩ : ∃ z, uiN (y1.take 2) = z := ⟨_, rfl⟩
        obtain ⟨q2, hq2⟩ : ∃ z, uiN (y2.take 2) = z := ⟨_, rfl⟩
        replace hstep := hstep.out _ rfl
        rw [stepP, if_neg (by simp), if_pos rfl] at hstep
        simp only [hy1, hy2, hq0, hq1, hq2] at hstep
        replace hstep := Lib.hid hstep
        replace hy1 := Lib.hid hy1
        replace hy2 := Lib.hid hy2
        replace hy3 := Lib.hid hy3
        replace hq0 := Lib.hid hq0
        replace hq1 := Lib.hid hq1
        replace hq2 := Lib.hid hq2
        clear h1
        go_wp2_with fail
        generalize (wr.alloc (.cells #[.int .i64 2, .slice B m c] 50)).alloc (.cells #[.slice B m c] 30) = w4 at *
        generalize wr.heap.size = gr at *
        clear c0 c1 Q
        · have d4 := T.acc.box.c 4 rfl
          have T0 := T.drew
          have f1 : x.adj.length + 1 ≤ maxLen := by simp only [maxLen]; omega
          have f2 : (x.adj.length + 1) * 24 ≤ 140737488355328 := by omega
          have tok1 : True := trivial
          have tok2 : True := trivial
          have tok3 : True := trivial
          clear T
          go_region_law
            (first
              | (clear tok1; rw [if_pos (by simp [Region.wanted])]; go_simp; (with_reducible refine (take_acc _ 2 2 rfl (by omega) q0 y1 hq0.out hy1.out T0).mono ?_); rintro e w5 ⟨rfl, T1⟩; have d5 := T1.acc.box.c 4 rfl; dsimp only)
              | (clear tok2; rw [if_pos (by simp [Region.wanted])]; go_simp; (with_reducible refine (take_acc _ 2 2 rfl (by omega) q1 y2 hq1.out hy2.out T1).mono ?_); rintro e w6 ⟨rfl, T2⟩; have d6 := T2.acc.box.c 4 rfl; dsimp only)
              | (clear tok3; rw [if_pos (by simp [Region.wanted])]; go_simp; (with_reducible refine (take_acc _ 2 2 rfl (by omega) q2 y3 hq2.out hy3.out T2).mono ?_); rintro e w7 ⟨rfl, T3⟩; have d7 := T3.acc.box.c 4 rfl; have d7b := (T3.acc.box.later (below_new' w7 (.cells #[.int .i64 (q0 : Int), .int .i64 (q1 : Int), .int .i64 (q2 : Int)] 75))).c 4 rfl; dsimp only)
              | (have b7 := below_new' w7 (.cells #[.int .i64 (q0 : Int), .int .i64 (q1 : Int), .int .i64 (q2 : Int)] 75); have o7 := own_below T3.acc.oA b7; have s7 : w2.heap.size + 1 ≤ (w7.alloc (.cells #[.int .i64 (q0 : Int), .int .i64 (q1 : Int), .int .i64 (q2 : Int)] 75)).heap.size := (by have := T3.acc.b.size; simp; omega); refine step_appG (o := ⟨some 63, _, _, _, _, _⟩) rfl adT (.tmp 54) (.tmp 62) (by rfl) (w2.heap.size + 1) (by rfl) o7 (m := 1) (by rfl) rfl (Rd.lit w7 #[.int .i64 (q0 : Int), .int .i64 (q1 : Int), .int .i64 (q2 : Int)] 75) (by simp [Value.oneCell']) f1 f2 s7 (x.adj.length + 1) _ rfl rfl ?_; intro v8 w8 hown8 hbel8 hgr8; obtain ⟨g8, k8, rfl, _, _, _⟩ := own_form hown8 (by omega); have hne8 : vA.ownBlock ≠ some w2.heap.size := (fun e => (by have := (o7.lt _ e).1; omega)); have bx8 := (T3.acc.box.later b7).kept hgr8 (fun e => hne8 e.symm) (by simp); have d8 := bx8.c 4 rfl; have e8 := bx8.f 4 rfl; have Q8 := T3.acc.addA b7 ((q0 : Int), (q1 : Int), (q2 : Int)) hown8 hgr8))
          all_goals
            go_wp2_with fail
            go_roundw
            case rel => exact ⟨k + 1, _, _, vB, by go_num, by omega, hstep, by simp; omega, by simp only; omega, Q8⟩
            case measure => simp [intOf]; omega
      have h2b : (t == 2) = false := by simpa using h2
      by_cases h3 : t = 3
      · subst h3
        obtain ⟨y1, hy1⟩ : ∃ z, y.drop 4 = z := ⟨_, rfl⟩
        obtain ⟨y2, hy2⟩ : ∃ z, y1.drop 1 = z := ⟨_, rfl⟩
        obtain ⟨q0, hq0⟩ : ∃ z, uiN (y.take 4) = z := ⟨_, rfl⟩
        obtain ⟨q1, hq1⟩ : ∃ z, uiN (y1.take 1) = z := ⟨_, rfl⟩
        replace hstep := hstep.out _ rfl
        rw [stepP, if_neg (by simp), if_neg (by simp), if_pos rfl] at hstep
        simp only [hy1, hq0, hq1] at hstep
        have hq32 : q0 < 4294967296 := by rw [← hq0]; exact uiN_lt _ (by rw [List.length_take]; omega)
        replace hstep := Lib.hid hstep
        replace hy1 := Lib.hid hy1
        replace hy2 := Lib.hid hy2
        replace hq0 := Lib.hid hq0
        replace hq1 := Lib.hid hq1
        clear h1 h2
        go_wp2_with fail
        generalize (wr.alloc (.cells #[.int .i64 3, .slice B m c] 50)).alloc (.cells #[.slice B m c] 30) = w4 at *
        generalize wr.heap.size = gr at *
        clear c0 c1 Q
        · have d4 := T.acc.box.c 5 rfl
          have T0 := T.drew
          have f1 : x.pre.length + 1 ≤ maxLen := by simp only [maxLen]; omega
          have f2 : (x.pre.length + 1) * 16 ≤ 140737488355328 := by omega
          have hwx : IntKind.u32.wrap (q0 : Int) = (q0 : Int) := by rw [IntKind.wrap_u32]; omega
          have tok1 : True := trivial
          have tok2 : True := trivial
          clear T
          go_region_law
            (first
              | (clear tok1; rw [if_pos (by simp [Region.wanted])]; go_simp; (with_reducible refine (take_acc _ 4 4 rfl (by omega) q0 y1 hq0.out hy1.out T0).mono ?_); rintro e w5 ⟨rfl, T1⟩; have d5 := T1.acc.box.c 5 rfl; dsimp only)
              | (clear tok2; rw [if_pos (by simp [Region.wanted])]; go_simp; (with_reducible refine (take_acc _ 1 1 rfl (by omega) q1 y2 hq1.out hy2.out T1).mono ?_); rintro e w7 ⟨rfl, T3⟩; have d7 := T3.acc.box.c 5 rfl; have d7b := (T3.acc.box.later (below_new' w7 (.cells #[.int .u32 (q0 : Int), .int .i64 (q1 : Int)] 78))).c 5 rfl; dsimp only)
              | (have b7 := below_new' w7 (.cells #[.int .u32 (q0 : Int), .int .i64 (q1 : Int)] 78); have o7 := own_below T3.acc.oB b7; have s7 : w2.heap.size + 1 ≤ (w7.alloc (.cells #[.int .u32 (q0 : Int), .int .i64 (q1 : Int)] 78)).heap.size := (by have := T3.acc.b.size; simp; omega); refine step_appG (o := ⟨some 76, _, _, _, _, _⟩) rfl pfT (.tmp 68) (.tmp 75) (by rfl) (w2.heap.size + 1) (by rfl) o7 (m := 1) (by rfl) rfl (Rd.lit w7 #[.int .u32 (q0 : Int), .int .i64 (q1 : Int)] 78) (by simp [Value.oneCell']) f1 f2 s7 (x.pre.length + 1) _ rfl rfl ?_; intro v8 w8 hown8 hbel8 hgr8; obtain ⟨g8, k8, rfl, _, _, _⟩ := own_form hown8 (by omega); have hne8 : vB.ownBlock ≠ some w2.heap.size := (fun e => (by have := (o7.lt _ e).1; omega)); have bx8 := (T3.acc.box.later b7).kept hgr8 (fun e => hne8 e.symm) (by simp); have d8 := bx8.c 5 rfl; have e8 := bx8.f 5 rfl; have Q8 := T3.acc.addB b7 (q0, (q1 : Int)) hq32 hown8 hgr8))
          all_goals
            go_wp2_with fail
            go_roundw
            case rel => exact ⟨k + 1, _, vA, _, by go_num, by omega, hstep, by simp only; omega, by simp; omega, Q8⟩
            case measure => simp [intOf]; omega
      have h3b : (t == 3) = false := by simpa using h3
      replace hstep := hstep.out _ rfl
      rw [stepP, if_neg h1, if_neg h2, if_neg h3] at hstep
      replace hstep := Lib.hid hstep
      clear h1 h2 h3
      go_wp2_with fail
      go_roundw
      case rel => exact ⟨k + 1, _, vA, vB, by go_num, by omega, hstep, by omega, by omega, T.acc⟩
      case measure => simp [intOf]; omega
    · obtain rfl : k = rs.length := by omega
      rw [List.take_length] at hx
      rw [hd.out] at hx
      obtain ⟨A1, a1, rfl, rdA, hca, hma⟩ := own_rd Q.oA
      obtain ⟨B1, b1, rfl, rdB, hcb, hmb⟩ := own_rd Q.oB
      have LE := lencode_any x.o x.s x.a x.ov x.adj x.pre A1 x.adj.length a1 B1 x.pre.length b1 wr rfl rfl rdA rdB Q.u
      rw [show (⟨x.o, x.s, x.a, x.ov, x.adj, x.pre⟩ : La) = x from rfl] at LE
      have S2 := S.call Q.b
      have c0 := Q.box.c 0 rfl
      have c1 := Q.box.c 1 rfl
      have c2 := Q.box.c 2 rfl
      have c3 := Q.box.c 3 rfl
      have c4 := Q.box.c 4 rfl
      have c5 := Q.box.c 5 rfl
      clear rd2 hrs rdA rdB
      by_cases hv : LaValid x
      rotate_left
      · have hnd : ¬ DecIs bs (foldP laZero l) := fun h => hv (hx.out ▸ h.1.1)
        obtain rfl : E = 4 := by rw [← hE.out, ldec_no hc1.out (hno.out hnd)]
        obtain rfl : V = laZero := by rw [← hV.out, ldecV_no (hno.out hnd)]
        have e1 : lencE x = 1 := by unfold lencE; rw [vB_f hv]; rfl
        rw [e1] at LE
        clear e1 hnd
        replace LE := Lib.hid LE
        replace hv := Lib.hid hv
        go_wp2_with fail
        (with_reducible refine LE.out.mono ?_)
        rintro e w4 ⟨v4, rfl, hown4, hb4⟩
        replace S2 := S2.call hb4
        clear c0 c1 c2 c3 c4 c5 LE
        have c0 := S2.c 0 0 rfl rfl
        have c1 := S2.c 0 1 rfl rfl
        have c2 := S2.c 0 2 rfl rfl
        have c3 := S2.c 0 3 rfl rfl
        have c4 := S2.c 0 4 rfl rfl
        have c5 := S2.c 0 5 rfl rfl
        have f0 := S2.f 0 0 rfl rfl
        have f1 := S2.f 0 1 rfl rfl
        have f2 := S2.f 0 2 rfl rfl
        have f3 := S2.f 0 3 rfl rfl
        have f4 := S2.f 0 4 rfl rfl
        have f5 := S2.f 0 5 rfl rfl
        go_wp2_with fail
        have S9 := S2.set6 0 0 0 false (.slice none 0 0) (.slice none 0 0) (Nat.le_refl _) (by simp)
        exact bodyPost_ret (v := .tuple #[laV 0 0 0 false none 0 0 none 0 0, .int .i64 4]) (by simp [results, Try.results27, go_sem, c0, c1, c2, c3, c4, c5]) rfl ⟨_, rfl, laZero_own _ _, S9.b⟩
      have e1 : lencE x = 0 := by unfold lencE; rw [vB_t hv]; rfl
      have e2 : lencB x = laEnc x := by unfold lencB; rw [vB_t hv]; rfl
      rw [e1, e2] at LE
      clear e1 e2
      replace LE := Lib.hid LE
      replace hv := Lib.hid hv
      go_wp2_with fail
      (with_reducible refine LE.out.mono ?_)
      rintro e w4 ⟨v4, rfl, hown4, hb4⟩
      replace S2 := S2.call hb4
      replace Q := Q.call hb4
      obtain ⟨A4, a4, rfl, rd4, _, _⟩ := own_rd hown4
      have BE := bequal_any A4 A (laEnc x).length n a4 cap (laEnc x) bs w4 rd4 (S2.r 0 rfl) rfl hn.out
      clear LE c0 c1 c2 c3 c4 c5 rd4 hown4
      have c0 := S2.c 0 0 rfl rfl
      have c1 := S2.c 0 1 rfl rfl
      have c2 := S2.c 0 2 rfl rfl
      have c3 := S2.c 0 3 rfl rfl
      have c4 := S2.c 0 4 rfl rfl
      have c5 := S2.c 0 5 rfl rfl
      have f0 := S2.f 0 0 rfl rfl
      have f1 := S2.f 0 1 rfl rfl
      have f2 := S2.f 0 2 rfl rfl
      have f3 := S2.f 0 3 rfl rfl
      have f4 := S2.f 0 4 rfl rfl
      have f5 := S2.f 0 5 rfl rfl
      by_cases he : laEnc x = bs
      · have hyes : DecIs bs x := ⟨⟨hv.out, Q.u⟩, he⟩
        obtain rfl : E = 0 := by rw [← hE.out, (ldec_yes hyes).1]
        obtain rfl : V = x := by rw [← hV.out, (ldec_yes hyes).2]
        rw [decide_eq_true he] at BE
        clear he hyes
        replace BE := Lib.hid BE
        replace hx := Lib.hid hx
        have d0 := Q.box.c 0 rfl
        have d1 := Q.box.c 1 rfl
        have d2 := Q.box.c 2 rfl
        have d3 := Q.box.c 3 rfl
        have d4 := Q.box.c 4 rfl
        have d5 := Q.box.c 5 rfl
        go_wp2_with fail
        (with_reducible refine BE.out.mono ?_)
        rintro e w5 ⟨rfl, rfl⟩
        go_wp2_with fail
        have S9 := S2.set6 V.o V.s V.a V.ov (.slice A1 V.adj.length a1) (.slice B1 V.pre.length b1) (Nat.le_refl _) (by simp)
        have hlt : w.heap.size < w2.heap.size + 1 := by have := S.b.size; omega
        refine bodyPost_ret (v := .tuple #[laV V.o V.s V.a V.ov A1 V.adj.length a1 B1 V.pre.length b1, .int .i64 0]) (by simp [results, Try.results27, go_sem, c0, c1, c2, c3, c4, c5]) rfl ⟨_, rfl, ⟨A1, a1, B1, b1, rfl, ?_, ?_, Q.u⟩, S9.b⟩
        · exact own_mono (own_set6 Q.oA hlt _ _ _ _ _ _) (Nat.le_of_lt hlt)
        · exact own_mono (own_set6 Q.oB hlt _ _ _ _ _ _) (Nat.le_of_lt hlt)
      · have hnd : ¬ DecIs bs (foldP laZero l) := fun h => he (hx.out ▸ h.2)
        obtain rfl : E = 4 := by rw [← hE.out, ldec_no hc1.out (hno.out hnd)]
        obtain rfl : V = laZero := by rw [← hV.out, ldecV_no (hno.out hnd)]
        rw [decide_eq_false he] at BE
        clear he hnd
        replace BE := Lib.hid BE
        go_wp2_with fail
        (with_reducible refine BE.out.mono ?_)
        rintro e w5 ⟨rfl, rfl⟩
        go_wp2_with fail
        have S9 := S2.set6 0 0 0 false (.slice none 0 0) (.slice none 0 0) (Nat.le_refl _) (by simp)
        exact bodyPost_ret (v := .tuple #[laV 0 0 0 false none 0 0 none 0 0, .int .i64 4]) (by simp [results, Try.results27, go_sem, c0, c1, c2, c3, c4, c5]) rfl ⟨_, rfl, laZero_own _ _, S9.b⟩

end Go.Proofs.Ytdepfgalaicpeaa
