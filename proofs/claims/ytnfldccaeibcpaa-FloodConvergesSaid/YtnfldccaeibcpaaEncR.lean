/-
  The contract of the reference's Encode, at a valid advertisement.
-/
import Derived.Test.YtnfldccaeibcpaaFields
import Derived.Test.YtnfldccaeibcpaaSealR
import Derived.Test.YtnfldccaeibcpaaLaP
import Derived.Test.YtnfldccaeibcpaaCodRE
import Derived.Deep.DeepCutAuto
namespace Go.Proofs.Ytnfldccaeibcpaa
set_option linter.unusedVariables false
open Go.RowKit

theorem rrecT : ElemT Try.prog 148 147 (.agg #[.int .i64 0, .slice none 0 0]) 2 32 := ⟨Try.underlying148, by kernel_rfl, rfl, by omega⟩

/-- The records that have been collected. -/
structure RecS (W w : World) (T : TypeId) (v : Value) (l : List Rec) (rs : List Rc) : Prop where
  own : w.ownsRow W.heap.size T 2 v rs.length (recV rs)
  recs : ∀ r ∈ rs, RcOwn w W.heap.size 5 r
  says : rs.map dat = l

theorem RecS.add {W w w1 w2 : World} {T : TypeId} {v v' : Value} {l : List Rec} {rs : List Rc} (h : RecS W w T v l rs) (hT : 5 ≠ T) (hb : Below w.heap.size w w1) (r : Rc) (hr : RcOwn w1 W.heap.size 5 r)
    (ho : w2.ownsRow W.heap.size T 2 v' (rs.length + 1) (recV rs ++ [.int .i64 r.t, .slice r.A r.n r.c])) (hg : w1.grownBy w2 v.ownBlock) (x : Rec) (hx : dat r = x) : RecS W w2 T v' (l ++ [x]) (rs ++ [r]) := by
  have o1 := own_below h.own hb
  refine ⟨?_, ?_, by rw [List.map_append, h.says, ← hx]; rfl⟩
  · rw [recV_append, List.length_append]; exact ho
  · intro q hq
    rcases List.mem_append.1 hq with hq | hq
    · exact ((h.recs q hq).below hb).grown o1 hT hg
    · obtain rfl := List.mem_singleton.1 hq
      exact hr.grown o1 hT hg
theorem RecS.call {W w w1 : World} {T : TypeId} {v : Value} {l : List Rec} {rs : List Rc} (h : RecS W w T v l rs) (hb : Below w.heap.size w w1) : RecS W w1 T v l rs := ⟨own_below h.own hb, fun r hr => (h.recs r hr).below hb, h.says⟩

set_option maxRecDepth 100000 in
set_option maxHeartbeats 6400000 in
theorem rencode_any (o s a : Int) (ov : Bool) (adj : List Ad) (pre : List Pf) (A : Option Addr) (n c : Nat) (B : Option Addr) (m d : Nat) (w : World) (hn : adj.length = n) (hm : pre.length = m) (hA : Rd w A (adV adj)) (hB : Rd w B (pfV pre)) (hu : ∀ x ∈ pre, x.1 < 4294967296) (hv : LaValid ⟨o, s, a, ov, adj, pre⟩) :
    Calls Try.prog 56 #[.agg #[.int .i64 o, .int .i64 s, .int .i64 a, .bool ov, .slice A n c, .slice B m d]] w fun e w' =>
      ∃ v, e = .returned v ∧ w'.ownsRow w.heap.size 5 1 v (laEnc ⟨o, s, a, ov, adj, pre⟩).length ((laEnc ⟨o, s, a, ov, adj, pre⟩).map u8v) ∧ Below w.heap.size w w' := by
  obtain ⟨w0, hw0⟩ : ∃ w0, w.alloc (.cells #[.int .i64 o, .int .i64 s, .int .i64 a, .bool ov, .slice A n c, .slice B m d] 45) = w0 := ⟨_, rfl⟩
  have hb0 := below_new' w (.cells #[.int .i64 o, .int .i64 s, .int .i64 a, .bool ov, .slice A n c, .slice B m d] 45)
  have S : St w0 w0 [] [(some ⟨w.heap.size, 0, none⟩, [.int .i64 o, .int .i64 s, .int .i64 a, .bool ov, .slice A n c, .slice B m d]), (A, adV adj), (B, pfV pre)] := by
    have := Rd.lit w #[.int .i64 o, .int .i64 s, .int .i64 a, .bool ov, .slice A n c, .slice B m d] 45
    rw [hw0] at this hb0
    exact (((St.start w0).read (hB.below hb0)).read (hA.below hb0)).read this
  have hz0 : w0.heap.size = w.heap.size + 1 := by rw [← hw0]; simp
  rw [hw0] at hb0
  obtain ⟨⟨ho0, ho1⟩, ⟨hs0, hs1⟩, ⟨ha0, ha1⟩, hl1, hl2, _, hAd, hPf⟩ := hv
  simp only at ho0 ho1 hs0 hs1 ha0 ha1 hl1 hl2 hAd hPf
  rw [hn] at hl1 hAd
  rw [hm] at hl2 hPf
  replace hn := Lib.hid hn
  replace hm := Lib.hid hm
  replace hu := Lib.hid hu
  replace hAd := Lib.hid hAd
  replace hPf := Lib.hid hPf
  replace hz0 := Lib.hid hz0
  obtain ⟨o', rfl⟩ : ∃ o' : Nat, o = o' := ⟨o.toNat, by omega⟩
  obtain ⟨s', rfl⟩ : ∃ s' : Nat, s = s' := ⟨s.toNat, by omega⟩
  obtain ⟨a', rfl⟩ : ∃ a' : Nat, a = a' := ⟨a.toNat, by omega⟩
  have c3 := S.rc 0 3 rfl rfl
  go_enter Try.func56, Try.ntmps56
  go_upto_if 10 with fail
  go_cut [3] (fun v3 wx => v3 = .int .i64 (bit ov : Int) ∧ wx = w0)
  case first =>
    cases ov
    all_goals
      go_wp2_with fail
      go_meet
      exact ⟨rfl, rfl⟩
  case rest =>
  obtain ⟨rfl, rfl⟩ := hcut
  have c0 := S.rc 0 0 rfl rfl
  have c1 := S.rc 0 1 rfl rfl
  have c2 := S.rc 0 2 rfl rfl
  have hbit : bit ov ≤ 1 := by unfold bit; split <;> omega
  have hF : Hid (fldB [(o', 2), (s', 4), (a', 2), (bit ov, 1)] = (headR ⟨o', s', a', ov, adj, pre⟩).2) := by simp [fldB, headR, Hid]
  generalize bit ov = bo at *
  go_wp2_with fail
  have hb1 := below_new' wc (.cells #[.int .i64 (o' : Int), .int .i64 2, .int .i64 (s' : Int), .int .i64 4, .int .i64 (a' : Int), .int .i64 2, .int .i64 (bo : Int), .int .i64 1] 66)
  have F1 := rfields_any (some ⟨wc.heap.size, 0, none⟩) 4 4 [(o', 2), (s', 4), (a', 2), (bo, 1)] _ (Rd.lit wc #[.int .i64 (o' : Int), .int .i64 2, .int .i64 (s' : Int), .int .i64 4, .int .i64 (a' : Int), .int .i64 2, .int .i64 (bo : Int), .int .i64 1] 66) rfl (by omega) (by
    intro x hx
    simp only [List.mem_cons, List.not_mem_nil, or_false] at hx
    rcases hx with rfl | rfl | rfl | rfl
    · exact ⟨by simp only; omega, by simp⟩
    · exact ⟨by simp only; omega, by simp⟩
    · exact ⟨by simp only; omega, by simp⟩
    · exact ⟨by simp only; omega, by simp⟩)
  rw [hF.out] at F1
  have hhl := headR_len ⟨o', s', a', ov, adj, pre⟩
  rw [hhl] at F1
  replace hhl := Lib.hid hhl
  (with_reducible refine F1.mono ?_)
  rintro e w2 ⟨v1, rfl, hown1, hb2⟩
  obtain ⟨A1, k1, rfl, _, _, _⟩ := own_rd hown1
  replace hb2 := hb1.trans (hb2.mono hb1.size)
  clear F1 hb1 hF c0 c1 c2 c3
  go_wp2_with fail
  have R0 : RecS wc (w2.alloc (.cells #[.int .i64 1, .slice A1 9 k1] 147)) 147 (.slice (some ⟨w2.heap.size, 0, none⟩) 1 1) (headR ⟨o', s', a', ov, adj, pre⟩ :: (adj.take 0).map adR) [⟨1, A1, 9, k1, (headR ⟨o', s', a', ov, adj, pre⟩).2⟩] := by
    refine ⟨?_, ?_, rfl⟩
    · exact World.ownsRow_lit w2 #[.int .i64 1, .slice A1 9 k1] 1 hb2.size (by simp only [maxLen]; omega) (by simp)
    · intro r hr
      obtain rfl := List.mem_singleton.1 hr
      have h1 : RcOwn w2 wc.heap.size 5 ⟨1, A1, 9, k1, (headR ⟨o', s', a', ov, adj, pre⟩).2⟩ := own_mono hown1 (by simp)
      exact h1.below (below_new' w2 _)
  replace S : St wc (w2.alloc (.cells #[.int .i64 1, .slice A1 9 k1] 147)) [] [(some ⟨w.heap.size, 0, none⟩, [.int .i64 (o' : Int), .int .i64 (s' : Int), .int .i64 (a' : Int), .bool ov, .slice A n c, .slice B m d]), (A, adV adj), (B, pfV pre)] := (S.call hb2).alloc _
  clear hown1 hw0
  generalize w2.alloc (.cells #[.int .i64 1, .slice A1 9 k1] 147) = w3 at *
  generalize w2.heap.size = g2 at *
  clear hb2
  generalize hgg : w.heap.size = g at *
  replace hgg := Lib.hid hgg
  go_loopw [4, 5] (fun v4 v5 wr => ∃ (k : Nat) (rs : List Rc), v5 = .int .i64 k ∧ k ≤ n ∧ rs.length = k + 1 ∧ RecS wc wr 147 v4 (headR ⟨o', s', a', ov, adj, pre⟩ :: (adj.take k).map adR) rs ∧ St wc wr [] [(some ⟨g, 0, none⟩, [.int .i64 (o' : Int), .int .i64 (s' : Int), .int .i64 (a' : Int), .bool ov, .slice A n c, .slice B m d]), (A, adV adj), (B, pfV pre)]) (fun _ v5 _ => n - (intOf v5).toNat)
  case atStart => exact ⟨0, _, rfl, by omega, rfl, R0, S⟩
  case round =>
    clear R0 S
    obtain ⟨k, rs, rfl, hk, hrl, R, S⟩ := hrel
    have c4 := S.rc 0 4 rfl rfl
    by_cases hkn : k < n
    · have hkl : k < adj.length := by have := hn.out; omega
      obtain ⟨b, off, rfl, hcells⟩ := rd_ad (S.r 1 rfl) (by omega)
      obtain ⟨x0, x1, x2⟩ := hcells k hkl
      have htk := adR_take ⟨o', s', a', ov, adj, pre⟩ k hkl
      simp only at htk
      obtain ⟨⟨l0, l3⟩, _, ⟨l1, l4⟩, ⟨l2, l5⟩, _⟩ := hAd.out k adj[k] hkn (List.getElem?_eq_getElem hkl)
      clear hcells
      generalize adj[k] = x at x0 x1 x2 htk l0 l1 l2 l3 l4 l5
      obtain ⟨y0, y1, y2⟩ := x
      simp only at x0 x1 x2 htk l0 l1 l2 l3 l4 l5
      obtain ⟨y0, rfl⟩ : ∃ z : Nat, y0 = z := ⟨y0.toNat, by omega⟩
      obtain ⟨y1, rfl⟩ : ∃ z : Nat, y1 = z := ⟨y1.toNat, by omega⟩
      obtain ⟨y2, rfl⟩ : ∃ z : Nat, y2 = z := ⟨y2.toNat, by omega⟩
      replace htk := Lib.hid htk
      replace hrl := Lib.hid hrl
      have hsz := S.b.size
      go_wp2_with fail
      have hbw := below_new' wr (.cells #[.int .i64 (y0 : Int), .int .i64 2, .int .i64 (y1 : Int), .int .i64 2, .int .i64 (y2 : Int), .int .i64 2] 66)
      have F2 := rfields_any (some ⟨wr.heap.size, 0, none⟩) 3 3 [(y0, 2), (y1, 2), (y2, 2)] (wr.alloc (.cells #[.int .i64 (y0 : Int), .int .i64 2, .int .i64 (y1 : Int), .int .i64 2, .int .i64 (y2 : Int), .int .i64 2] 66)).drew (Rd.drew (Rd.lit wr #[.int .i64 (y0 : Int), .int .i64 2, .int .i64 (y1 : Int), .int .i64 2, .int .i64 (y2 : Int), .int .i64 2] 66)) rfl (by omega) (by
        intro x hx
        simp only [List.mem_cons, List.not_mem_nil, or_false] at hx
        rcases hx with rfl | rfl | rfl
        · exact ⟨by simp only; omega, by simp⟩
        · exact ⟨by simp only; omega, by simp⟩
        · exact ⟨by simp only; omega, by simp⟩)
      have hF2 : fldB [(y0, 2), (y1, 2), (y2, 2)] = (adR ((y0 : Int), (y1 : Int), (y2 : Int))).2 := by simp [fldB, adR]
      rw [hF2, adR_len] at F2
      have hdat : Hid ((2, (adR ((y0 : Int), (y1 : Int), (y2 : Int))).2) = adR ((y0 : Int), (y1 : Int), (y2 : Int))) := rfl
      clear hF2
      generalize (adR ((y0 : Int), (y1 : Int), (y2 : Int))).2 = fb at F2 hdat
      replace F2 := Lib.hid F2
      have f1 : rs.length + 1 ≤ maxLen := by simp only [maxLen]; have := hrl.out; omega
      have f2 : (rs.length + 1) * 32 ≤ 140737488355328 := by have := hrl.out; omega
      have e4 := S.rc0 0 4 rfl rfl
      obtain ⟨e0, e1, e2⟩ : wc.cell? ⟨b, off + k * 3, none⟩ = some (.int .i64 (y0 : Int)) ∧ wc.cell? ⟨b, off + k * 3 + 1, none⟩ = some (.int .i64 (y1 : Int)) ∧ wc.cell? ⟨b, off + k * 3 + 2, none⟩ = some (.int .i64 (y2 : Int)) := by
        obtain ⟨ad, had, hlt⟩ := (S.rd 1 _ rfl).block (by rw [adV_len]; omega)
        injection had with had
        subst had
        exact ⟨(S.b.cell (p := ⟨b, off + k * 3, none⟩) hlt).symm.trans x0, (S.b.cell (p := ⟨b, off + k * 3 + 1, none⟩) hlt).symm.trans x1, (S.b.cell (p := ⟨b, off + k * 3 + 2, none⟩) hlt).symm.trans x2⟩
      have bW : Below wc.heap.size wc (wr.alloc (.cells #[.int .i64 (y0 : Int), .int .i64 2, .int .i64 (y1 : Int), .int .i64 2, .int .i64 (y2 : Int), .int .i64 2] 66)).drew := (S.b.trans (hbw.mono hsz)).drew
      have tok1 : True := trivial
      go_region_held3 (fun w' => w'.cell? ⟨g, 4, none⟩ = some (.slice (some ⟨b, off, none⟩) n c) ∧ w'.cell? ⟨b, off + k * 3, none⟩ = some (.int .i64 (y0 : Int)) ∧ w'.cell? ⟨b, off + k * 3 + 1, none⟩ = some (.int .i64 (y1 : Int)) ∧ w'.cell? ⟨b, off + k * 3 + 2, none⟩ = some (.int .i64 (y2 : Int))) (first | assumption | go_keep)
        (first
          | (clear tok1; (with_reducible refine F2.out.mono ?_); rintro e w4 ⟨v4, rfl, hown4, hb4⟩; obtain ⟨A4, k4, rfl, _, _, _⟩ := own_rd hown4; have b4 := bW.trans (hb4.mono bW.size); have d4 := cell_later b4 e4; have d0 := cell_later b4 e0; have d1 := cell_later b4 e1; have d2 := cell_later b4 e2)
          | (have b5 := (hbw.drew.trans (hb4.mono hbw.drew.size)).trans ((below_new' w4 (.cells #[.int .i64 2, .slice A4 6 k4] 147)).mono (Nat.le_trans hbw.drew.size hb4.size)); have o1 := (R.call b5).own; have s1 := Nat.le_trans hsz b5.size; refine step_appG (o := ⟨some 59, _, _, _, _, _⟩) rfl rrecT (.tmp 33) (.tmp 58) (by rfl) wc.heap.size (by rfl) o1 (m := 1) (by rfl) rfl (Rd.lit w4 #[.int .i64 2, .slice A4 6 k4] 147) (by simp [Value.oneCell']) f1 f2 s1 (rs.length + 1) _ rfl rfl ?_; intro v6 w6 hown6 hbel6 hgr6; have b6 := (S.b.trans (b5.mono hsz)).trans hbel6; have q4 := cell_later b6 e4; have q0 := cell_later b6 e0; have q1 := cell_later b6 e1; have q2 := cell_later b6 e2))
      have hok : RcOwn (w4.alloc (.cells #[.int .i64 2, .slice A4 6 k4] 147)) wc.heap.size 5 ⟨2, A4, 6, k4, fb⟩ := RcOwn.below (own_mono hown4 bW.size : RcOwn w4 wc.heap.size 5 ⟨2, A4, 6, k4, fb⟩) (below_new' w4 _)
      have R6 := R.add (by decide) b5 ⟨2, A4, 6, k4, fb⟩ hok hown6 hgr6 _ hdat.out
      rw [← htk.out] at R6
      replace S : St wc w6 [] _ := ⟨b6, by simp, S.rd⟩
      clear R hown6 hgr6 hok hown4 hb4 b4 b5 b6 o1 s1 hbel6 q4 q0 q1 q2 d4 d0 d1 d2 e4 e0 e1 e2 bW F2 hbw c4 x0 x1 x2
      go_wp2_with fail
      go_roundw
      case rel => exact ⟨k + 1, _, by go_num, by omega, by have := hrl.out; simp; omega, R6, S⟩
      case measure => simp [intOf]; omega
    · obtain rfl : k = n := by omega
      rw [List.take_of_length_le (by have := hn.out; omega)] at R
      go_wp2_with fail
      replace R : RecS wc wr 147 u4 (headR ⟨o', s', a', ov, adj, pre⟩ :: (adj.map adR ++ (pre.take 0).map pfR)) rs := by simpa using R
      clear c4
      go_loopw [4, 6] (fun v4 v5 wr => ∃ (k2 : Nat) (rs : List Rc), v5 = .int .i64 k2 ∧ k2 ≤ m ∧ rs.length = k + k2 + 1 ∧ RecS wc wr 147 v4 (headR ⟨o', s', a', ov, adj, pre⟩ :: (adj.map adR ++ (pre.take k2).map pfR)) rs ∧ St wc wr [] [(some ⟨g, 0, none⟩, [.int .i64 (o' : Int), .int .i64 (s' : Int), .int .i64 (a' : Int), .bool ov, .slice A k c, .slice B m d]), (A, adV adj), (B, pfV pre)]) (fun _ v5 _ => m - (intOf v5).toNat)
      case atStart => exact ⟨0, _, rfl, by omega, by omega, R, S⟩
      case round =>
        clear R S hrl
        obtain ⟨k2, rs, rfl, hk2, hrl, R, S⟩ := hrel
        have c5 := S.rc 0 5 rfl rfl
        by_cases hkn2 : k2 < m
        · have hkl : k2 < pre.length := by have := hm.out; omega
          obtain ⟨b, off, rfl, hcells⟩ := rd_pf (S.r 2 rfl) (by omega)
          obtain ⟨x0, x1⟩ := hcells k2 hkl
          have htk := pfR_take ⟨o', s', a', ov, adj, pre⟩ k2 hkl
          simp only at htk
          have hP := (hPf.out k2 pre[k2] hkn2 (List.getElem?_eq_getElem hkl)).1
          have hU := hu.out pre[k2] (List.getElem_mem hkl)
          unfold pfxB at hP
          rw [decide_eq_true_iff] at hP
          obtain ⟨l0, l3, _⟩ := hP
          clear hcells
          generalize pre[k2] = x at x0 x1 htk l0 l3 hU
          obtain ⟨y0, y1⟩ := x
          simp only at x0 x1 htk l0 l3 hU
          obtain ⟨y1, rfl⟩ : ∃ z : Nat, y1 = z := ⟨y1.toNat, by omega⟩
          replace htk := Lib.hid htk
          replace hrl := Lib.hid hrl
          have hsz := S.b.size
          go_wp2_with fail
          have hbw := below_new' wr (.cells #[.int .i64 (y0 : Int), .int .i64 4, .int .i64 (y1 : Int), .int .i64 1] 66)
          have F2 := rfields_any (some ⟨wr.heap.size, 0, none⟩) 2 2 [(y0, 4), (y1, 1)] (wr.alloc (.cells #[.int .i64 (y0 : Int), .int .i64 4, .int .i64 (y1 : Int), .int .i64 1] 66)).drew (Rd.drew (Rd.lit wr #[.int .i64 (y0 : Int), .int .i64 4, .int .i64 (y1 : Int), .int .i64 1] 66)) rfl (by omega) (by
            intro x hx
            simp only [List.mem_cons, List.not_mem_nil, or_false] at hx
            rcases hx with rfl | rfl
            · exact ⟨by simp only; omega, by simp⟩
            · exact ⟨by simp only; omega, by simp⟩)
          have hF2 : fldB [(y0, 4), (y1, 1)] = (pfR (y0, (y1 : Int))).2 := by simp [fldB, pfR]
          rw [hF2, pfR_len] at F2
          have hdat : Hid ((3, (pfR (y0, (y1 : Int))).2) = pfR (y0, (y1 : Int))) := rfl
          clear hF2
          generalize (pfR (y0, (y1 : Int))).2 = fb at F2 hdat
          replace F2 := Lib.hid F2
          have f1 : rs.length + 1 ≤ maxLen := by simp only [maxLen]; have := hrl.out; omega
          have f2 : (rs.length + 1) * 32 ≤ 140737488355328 := by have := hrl.out; omega
          have e4 := S.rc0 0 5 rfl rfl
          obtain ⟨e0, e1⟩ : wc.cell? ⟨b, off + k2 * 2, none⟩ = some (.int .u32 (y0 : Int)) ∧ wc.cell? ⟨b, off + k2 * 2 + 1, none⟩ = some (.int .i64 (y1 : Int)) := by
            obtain ⟨ad, had, hlt⟩ := (S.rd 2 _ rfl).block (by rw [pfV_len]; omega)
            injection had with had
            subst had
            exact ⟨(S.b.cell (p := ⟨b, off + k2 * 2, none⟩) hlt).symm.trans x0, (S.b.cell (p := ⟨b, off + k2 * 2 + 1, none⟩) hlt).symm.trans x1⟩
          have bW : Below wc.heap.size wc (wr.alloc (.cells #[.int .i64 (y0 : Int), .int .i64 4, .int .i64 (y1 : Int), .int .i64 1] 66)).drew := (S.b.trans (hbw.mono hsz)).drew
          have hwx : IntKind.i64.wrap (y0 : Int) = (y0 : Int) := IntWalk.i64_in _ (by omega)
          have tok1 : True := trivial
          go_region_held3 (fun w' => w'.cell? ⟨g, 5, none⟩ = some (.slice (some ⟨b, off, none⟩) m d) ∧ w'.cell? ⟨b, off + k2 * 2, none⟩ = some (.int .u32 (y0 : Int)) ∧ w'.cell? ⟨b, off + k2 * 2 + 1, none⟩ = some (.int .i64 (y1 : Int))) (first | assumption | go_keep)
            (first
              | (clear tok1; (with_reducible refine F2.out.mono ?_); rintro e w4 ⟨v4, rfl, hown4, hb4⟩; obtain ⟨A4, k4, rfl, _, _, _⟩ := own_rd hown4; have b4 := bW.trans (hb4.mono bW.size); have d4 := cell_later b4 e4; have d0 := cell_later b4 e0; have d1 := cell_later b4 e1)
              | (have b5 := (hbw.drew.trans (hb4.mono hbw.drew.size)).trans ((below_new' w4 (.cells #[.int .i64 3, .slice A4 5 k4] 147)).mono (Nat.le_trans hbw.drew.size hb4.size)); have o1 := (R.call b5).own; have s1 := Nat.le_trans hsz b5.size; refine step_appG (o := ⟨some 87, _, _, _, _, _⟩) rfl rrecT (.tmp 67) (.tmp 86) (by rfl) wc.heap.size (by rfl) o1 (m := 1) (by rfl) rfl (Rd.lit w4 #[.int .i64 3, .slice A4 5 k4] 147) (by simp [Value.oneCell']) f1 f2 s1 (rs.length + 1) _ rfl rfl ?_; intro v6 w6 hown6 hbel6 hgr6; have b6 := (S.b.trans (b5.mono hsz)).trans hbel6; have q4 := cell_later b6 e4; have q0 := cell_later b6 e0; have q1 := cell_later b6 e1))
          have hok : RcOwn (w4.alloc (.cells #[.int .i64 3, .slice A4 5 k4] 147)) wc.heap.size 5 ⟨3, A4, 5, k4, fb⟩ := RcOwn.below (own_mono hown4 bW.size : RcOwn w4 wc.heap.size 5 ⟨3, A4, 5, k4, fb⟩) (below_new' w4 _)
          have R6 := R.add (by decide) b5 ⟨3, A4, 5, k4, fb⟩ hok hown6 hgr6 _ hdat.out
          rw [← htk.out] at R6
          replace S : St wc w6 [] _ := ⟨b6, by simp, S.rd⟩
          clear R hown6 hgr6 hok hown4 hb4 b4 b5 b6 o1 s1 hbel6 q4 q0 q1 d4 d0 d1 e4 e0 e1 bW F2 hbw c5 x0 x1
          go_wp2_with fail
          go_roundw
          case rel => exact ⟨k2 + 1, _, by go_num, by omega, by have := hrl.out; simp; omega, R6, S⟩
          case measure => simp [intOf]; omega
        · obtain rfl : k2 = m := by omega
          rw [List.take_of_length_le (by have := hm.out; omega)] at R
          replace hrl := Lib.hid hrl
          have hsz := S.b.size
          have b1 := below_new' wr (.cells #[.int .u8 0, .int .u8 0] 5)
          have b2 := b1.trans ((below_new' (wr.alloc (.cells #[.int .u8 0, .int .u8 0] 5)) (.cells #[.int .i64 4, .slice (some ⟨wr.heap.size, 0, none⟩) 2 2] 147)).mono b1.size)
          have o1 := (R.call b2).own
          have s1 := Nat.le_trans hsz b2.size
          have f1 : rs.length + 1 ≤ maxLen := by simp only [maxLen]; have := hrl.out; omega
          have f2 : (rs.length + 1) * 32 ≤ 140737488355328 := by have := hrl.out; omega
          have rdl := Rd.lit (wr.alloc (.cells #[.int .u8 0, .int .u8 0] 5)) #[.int .i64 4, .slice (some ⟨wr.heap.size, 0, none⟩) 2 2] 147
          rw [World.size_alloc] at rdl
          have hok : RcOwn ((wr.alloc (.cells #[.int .u8 0, .int .u8 0] 5)).alloc (.cells #[.int .i64 4, .slice (some ⟨wr.heap.size, 0, none⟩) 2 2] 147)) wc.heap.size 5 ⟨4, some ⟨wr.heap.size, 0, none⟩, 2, 2, [0, 0]⟩ := by
            have h1 : RcOwn (wr.alloc (.cells #[.int .u8 0, .int .u8 0] 5)) wc.heap.size 5 ⟨4, some ⟨wr.heap.size, 0, none⟩, 2, 2, [0, 0]⟩ := World.ownsRow_lit wr #[.int .u8 0, .int .u8 0] 2 hsz (by simp only [maxLen]; omega) (by simp)
            exact h1.below (below_new' _ _)
          go_wp2_with (at_builtin; refine wpList_appG rfl rrecT (.tmp 88) (.tmp 91) rfl wc.heap.size rfl o1 (m := 1) rfl (by simp) rdl (by simp [Value.oneCell']) f1 f2 s1 (rs.length + 1) _ rfl rfl ?_; intro v6 w6 hown6 hbel6 hgr6; have R6 := R.add (by decide) b2 _ hok hown6 hgr6 _ rfl)
          have b6 := (S.b.trans (b2.mono hsz)).trans hbel6
          replace R6 : RecS wc w6 147 v6 (laRecs ⟨o', s', a', ov, adj, pre⟩) (rs ++ [⟨4, some ⟨wr.heap.size, 0, none⟩, 2, 2, [0, 0]⟩]) := R6
          have hrl6 : (rs ++ [(⟨4, some ⟨wr.heap.size, 0, none⟩, 2, 2, [0, 0]⟩ : Rc)]).length = k + k2 + 2 := by have := hrl.out; simp; omega
          generalize rs ++ [(⟨4, some ⟨wr.heap.size, 0, none⟩, 2, 2, [0, 0]⟩ : Rc)] = rs6 at R6 hrl6
          clear hown6 hbel6 hgr6 hok rdl o1 R b1 b2 f1 f2 s1 S c5
          obtain ⟨A6, c6, rfl, rd6, _, _⟩ := own_rd R6.own
          have CE := rcencode_any A6 rs6.length c6 rs6 w6 rd6 (fun r hr => (R6.recs r hr).ok) rfl (by omega)
          have hpl := laPlain_len ⟨o', s', a', ov, adj, pre⟩
          simp only [hn.out, hm.out] at hpl
          have hsl : (laEnc ⟨o', s', a', ov, adj, pre⟩).length = (laPlain ⟨o', s', a', ov, adj, pre⟩).length := by rw [laEnc_len, laPlain_len]
          replace hsl := Lib.hid hsl
          rw [R6.says, laRecs_E, laRecs_R] at CE
          replace hrl6 := Lib.hid hrl6
          (with_reducible refine CE.mono ?_)
          clear CE R6 rd6
          rintro e w7 ⟨v7, rfl, hown7, hb7⟩
          replace b6 := b6.trans (hb7.mono b6.size)
          obtain ⟨A7, c7, rfl, rd7, _, _⟩ := own_rd hown7
          have hse : Hid (sealed (laPlain ⟨o', s', a', ov, adj, pre⟩) ((laPlain ⟨o', s', a', ov, adj, pre⟩).length - 2) = laEnc ⟨o', s', a', ov, adj, pre⟩) := rfl
          have SE := rseal_any A7 (laPlain ⟨o', s', a', ov, adj, pre⟩).length c7 ((laPlain ⟨o', s', a', ov, adj, pre⟩).length - 2) (laPlain ⟨o', s', a', ov, adj, pre⟩) w7 rd7 rfl (by omega) (by omega)
          rw [hse.out] at SE
          have hpl2 : (laPlain ⟨o', s', a', ov, adj, pre⟩).length ≤ 1000000 := by omega
          have hpl3 : 2 ≤ (laPlain ⟨o', s', a', ov, adj, pre⟩).length := by omega
          clear hpl
          generalize (laPlain ⟨o', s', a', ov, adj, pre⟩).length = q at *
          have hq : ((q - 2 : Nat) : Int) = (q : Int) - 2 := by omega
          replace SE := Lib.hid (SE _ hq.symm)
          clear hq
          go_wp2_with fail
          (with_reducible refine SE.out.mono ?_)
          rintro e w8 ⟨v8, rfl, hown8, hb8⟩
          go_wp2_with fail
          go_ret
          have hgz : g ≤ wc.heap.size := by have := hz0.out; omega
          rw [hgg.out]
          exact ⟨_, rfl, by rw [hsl.out]; exact own_mono hown8 (Nat.le_trans hgz b6.size), hb0.trans ((b6.trans (hb8.mono b6.size)).mono hgz)⟩

end Go.Proofs.Ytnfldccaeibcpaa
