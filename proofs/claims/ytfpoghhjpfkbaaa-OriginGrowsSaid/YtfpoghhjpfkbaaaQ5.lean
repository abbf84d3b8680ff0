/-
  The texts EncR, PfxR, ValR, CodRD, DecR, Bcmp, New, one after the other.
-/
import Derived.Test.YtfpoghhjpfkbaaaQ4
import Derived.Deep.DeepCutAuto
import Derived.Deep.RegionHeld3
import Derived.Deep.DrawnRows
import Derived.IntWalk
import Derived.Deep.RegionLaw
import Derived.Deep.CutBlock
import Derived.Lib.BytesEntry
namespace Go.Proofs.Ytfpoghhjpfkbaaa
set_option linter.unusedVariables false
open Go.RowKit

theorem rrecT : ElemT Try.prog 113 112 (.agg #[.int .i64 0, .slice none 0 0]) 2 32 := ⟨Try.underlying113, by kernel_rfl, rfl, by omega⟩

/-- The records that have been collected. -/
structure RecS (W w : World) (T : TypeId) (v : Value) (l : List Rec) (rs : List Rc) : Prop where
  own : w.ownsRow W.heap.size T 2 v rs.length (recV rs)
  recs : ∀ r ∈ rs, RcOwn w W.heap.size 5 r
  says : rs.map dat = l

theorem RecS.add {W w w1 w2 : World} {T : TypeId} {v v' : Value} {l : List Rec} {rs : List Rc} (h : RecS W w T v l rs) (hT : 5 ≠ T) (hb : Below w.heap.size w w1) (r : Rc) (hr : RcOwn w1 W.heap.size 5 r)
    (ho : w2.ownsRow W.heap.size T 2 v' (rs.length + 1) (recV rs ++ [.int .i64 r.t, .slice r.A r.n r.c])) (hg : w1.grownBy w2 v.ownBlock) (x : Rec) (hx : dat r = x) : RecS W w2 T v' (l ++ [x]) (rs ++ [r]) := by
  have o1 := own_below h.own hb
  refine ⟨?_, ?_, by rw [List.map_append, h.says, ← hx]; rfl⟩
  · rw [recV_append, List.length_append]; exact ho
  · intro q hq
    rcases List.mem_append.1 hq with hq | hq
    · exact ((h.recs q hq).below hb).grown o1 hT hg
    · obtain rfl := List.mem_singleton.1 hq
      exact hr.grown o1 hT hg
theorem RecS.call {W w w1 : World} {T : TypeId} {v : Value} {l : List Rec} {rs : List Rc} (h : RecS W w T v l rs) (hb : Below w.heap.size w w1) : RecS W w1 T v l rs := ⟨own_below h.own hb, fun r hr => (h.recs r hr).below hb, h.says⟩

set_option maxRecDepth 100000 in
set_option maxHeartbeats 6400000 in
theorem rencode_any (o s a : Int) (ov : Bool) (adj : List Ad) (pre : List Pf) (A : Option Addr) (n c : Nat) (B : Option Addr) (m d : Nat) (w : World) (hn : adj.length = n) (hm : pre.length = m) (hA : Rd w A (adV adj)) (hB : Rd w B (pfV pre)) (hu : ∀ x ∈ pre, x.1 < 4294967296) (hv : LaValid ⟨o, s, a, ov, adj, pre⟩) :
    Calls Try.prog 59 #[.agg #[.int .i64 o, .int .i64 s, .int .i64 a, .bool ov, .slice A n c, .slice B m d]] w fun e w' =>
      ∃ v, e = .returned v ∧ w'.ownsRow w.heap.size 5 1 v (laEnc ⟨o, s, a, ov, adj, pre⟩).length ((laEnc ⟨o, s, a, ov, adj, pre⟩).map u8v) ∧ Below w.heap.size w w' := by
  obtain ⟨w0, hw0⟩ : ∃ w0, w.alloc (.cells #[.int .i64 o, .int .i64 s, .int .i64 a, .bool ov, .slice A n c, .slice B m d] 32) = w0 := ⟨_, rfl⟩
  have hb0 := below_new' w (.cells #[.int .i64 o, .int .i64 s, .int .i64 a, .bool ov, .slice A n c, .slice B m d] 32)
  have S : St w0 w0 [] [(some ⟨w.heap.size, 0, none⟩, [.int .i64 o, .int .i64 s, .int .i64 a, .bool ov, .slice A n c, .slice B m d]), (A, adV adj), (B, pfV pre)] := by
    have := Rd.lit w #[.int .i64 o, .int .i64 s, .int .i64 a, .bool ov, .slice A n c, .slice B m d] 32
    rw [hw0] at this hb0
    exact (((St.start w0).read (hB.below hb0)).read (hA.below hb0)).read this
  have hz0 : w0.heap.size = w.heap.size + 1 := by rw [← hw0]; simp
  rw [hw0] at hb0
  obtain ⟨⟨ho0, ho1⟩, ⟨hs0, hs1⟩, ⟨ha0, ha1⟩, hl1, hl2, _, hAd, hPf⟩ := hv
  simp only at ho0 ho1 hs0 hs1 ha0 ha1 hl1 hl2 hAd hPf
  rw [hn] at hl1 hAd
  rw [hm] at hl2 hPf
  replace hn := Lib.hid hn
  replace hm := Lib.hid hm
  replace hu := Lib.hid hu
  replace hAd := Lib.hid hAd
  replace hPf := Lib.hid hPf
  replace hz0 := Lib.hid hz0
  obtain ⟨o', rfl⟩ : ∃ o' : Nat, o = o' := ⟨o.toNat, by omega⟩
  obtain ⟨s', rfl⟩ : ∃ s' : Nat, s = s' := ⟨s.toNat, by omega⟩
  obtain ⟨a', rfl⟩ : ∃ a' : Nat, a = a' := ⟨a.toNat, by omega⟩
  have c3 := S.rc 0 3 rfl rfl
  go_enter Try.func59, Try.ntmps59
  go_upto_if 10 with fail
  go_cut [3] (fun v3 wx => v3 = .int .i64 (bit ov : Int) ∧ wx = w0)
  case first =>
    cases ov
    all_goals
      go_wp2_with fail
      go_meet
      exact ⟨rfl, rfl⟩
  case rest =>
  obtain ⟨rfl, rfl⟩ := hcut
  have c0 := S.rc 0 0 rfl rfl
  have c1 := S.rc 0 1 rfl rfl
  have c2 := S.rc 0 2 rfl rfl
  have hbit : bit ov ≤ 1 := by unfold bit; split <;> omega
  have hF : Hid (fldB [(o', 2), (s', 4), (a', 2), (bit ov, 1)] = (headR ⟨o', s', a', ov, adj, pre⟩).2) := by simp [fldB, headR, Hid]
  generalize bit ov = bo at *
  go_wp2_with fail
  have hb1 := below_new' wc (.cells #[.int .i64 (o' : Int), .int .i64 2, .int .i64 (s' : Int), .int .i64 4, .int .i64 (a' : Int), .int .i64 2, .int .i64 (bo : Int), .int .i64 1] 111)
  have F1 := rfields_any (some ⟨wc.heap.size, 0, none⟩) 4 4 [(o', 2), (s', 4), (a', 2), (bo, 1)] _ (Rd.lit wc #[.int .i64 (o' : Int), .int .i64 2, .int .i64 (s' : Int), .int .i64 4, .int .i64 (a' : Int), .int .i64 2, .int .i64 (bo : Int), .int .i64 1] 111) rfl (by omega) (by
    intro x hx
    simp only [List.mem_cons, List.not_mem_nil, or_false] at hx
    rcases hx with rfl | rfl | rfl | rfl
    · exact ⟨by simp only; omega, by simp⟩
    · exact ⟨by simp only; omega, by simp⟩
    · exact ⟨by simp only; omega, by simp⟩
    · exact ⟨by simp only; omega, by simp⟩)
  rw [hF.out] at F1
  have hhl := headR_len ⟨o', s', a', ov, adj, pre⟩
  rw [hhl] at F1
  replace hhl := Lib.hid hhl
  (with_reducible refine F1.mono ?_)
  rintro e w2 ⟨v1, rfl, hown1, hb2⟩
  obtain ⟨A1, k1, rfl, _, _, _⟩ := own_rd hown1
  replace hb2 := hb1.trans (hb2.mono hb1.size)
  clear F1 hb1 hF c0 c1 c2 c3
  go_wp2_with fail
  have R0 : RecS wc (w2.alloc (.cells #[.int .i64 1, .slice A1 9 k1] 112)) 112 (.slice (some ⟨w2.heap.size, 0, none⟩) 1 1) (headR ⟨o', s', a', ov, adj, pre⟩ :: (adj.take 0).map adR) [⟨1, A1, 9, k1, (headR ⟨o', s', a', ov, adj, pre⟩).2⟩] := by
    refine ⟨?_, ?_, rfl⟩
    · exact World.ownsRow_lit w2 #[.int .i64 1, .slice A1 9 k1] 1 hb2.size (by simp only [maxLen]; omega) (by simp)
    · intro r hr
      obtain rfl := List.mem_singleton.1 hr
      have h1 : RcOwn w2 wc.heap.size 5 ⟨1, A1, 9, k1, (headR ⟨o', s', a', ov, adj, pre⟩).2⟩ := own_mono hown1 (by simp)
      exact h1.below (below_new' w2 _)
  replace S : St wc (w2.alloc (.cells #[.int .i64 1, .slice A1 9 k1] 112)) [] [(some ⟨w.heap.size, 0, none⟩, [.int .i64 (o' : Int), .int .i64 (s' : Int), .int .i64 (a' : Int), .bool ov, .slice A n c, .slice B m d]), (A, adV adj), (B, pfV pre)] := (S.call hb2).alloc _
  clear hown1 hw0
  generalize w2.alloc (.cells #[.int .i64 1, .slice A1 9 k1] 112) = w3 at *
  generalize w2.heap.size = g2 at *
  clear hb2
  generalize hgg : w.heap.size = g at *
  replace hgg := Lib.hid hgg
  go_loopw [4, 5] (fun v4 v5 wr => ∃ (k : Nat) (rs : List Rc), v5 = .int .i64 k ∧ k ≤ n ∧ rs.length = k + 1 ∧ RecS wc wr 112 v4 (headR ⟨o', s', a', ov, adj, pre⟩ :: (adj.take k).map adR) rs ∧ St wc wr [] [(some ⟨g, 0, none⟩, [.int .i64 (o' : Int), .int .i64 (s' : Int), .int .i64 (a' : Int), .bool ov, .slice A n c, .slice B m d]), (A, adV adj), (B, pfV pre)]) (fun _ v5 _ => n - (intOf v5).toNat)
  case atStart => exact ⟨0, _, rfl, by omega, rfl, R0, S⟩
  case round =>
    clear R0 S
    obtain ⟨k, rs, rfl, hk, hrl, R, S⟩ := hrel
    have c4 := S.rc 0 4 rfl rfl
    by_cases hkn : k < n
    · have hkl : k < adj.length := by have := hn.out; omega
      obtain ⟨b, off, rfl, hcells⟩ := rd_ad (S.r 1 rfl) (by omega)
      obtain ⟨x0, x1, x2⟩ := hcells k hkl
      have htk := adR_take ⟨o', s', a', ov, adj, pre⟩ k hkl
      simp only at htk
      obtain ⟨⟨l0, l3⟩, _, ⟨l1, l4⟩, ⟨l2, l5⟩, _⟩ := hAd.out k adj[k] hkn (List.getElem?_eq_getElem hkl)
      clear hcells
      generalize adj[k] = x at x0 x1 x2 htk l0 l1 l2 l3 l4 l5
      obtain ⟨y0, y1, y2⟩ := x
      simp only at x0 x1 x2 htk l0 l1 l2 l3 l4 l5
      obtain ⟨y0, rfl⟩ : ∃ z : Nat, y0 = z := ⟨y0.toNat, by omega⟩
      obtain ⟨y1, rfl⟩ : ∃ z : Nat, y1 = z := ⟨y1.toNat, by omega⟩
      obtain ⟨y2, rfl⟩ : ∃ z : Nat, y2 = z := ⟨y2.toNat, by omega⟩
      replace htk := Lib.hid htk
      replace hrl := Lib.hid hrl
      have hsz := S.b.size
      go_wp2_with fail
      have hbw := below_new' wr (.cells #[.int .i64 (y0 : Int), .int .i64 2, .int .i64 (y1 : Int), .int .i64 2, .int .i64 (y2 : Int), .int .i64 2] 111)
      have F2 := rfields_any (some ⟨wr.heap.size, 0, none⟩) 3 3 [(y0, 2), (y1, 2), (y2, 2)] (wr.alloc (.cells #[.int .i64 (y0 : Int), .int .i64 2, .int .i64 (y1 : Int), .int .i64 2, .int .i64 (y2 : Int), .int .i64 2] 111)).drew (Rd.drew (Rd.lit wr #[.int .i64 (y0 : Int), .int .i64 2, .int .i64 (y1 : Int), .int .i64 2, .int .i64 (y2 : Int), .int .i64 2] 111)) rfl (by omega) (by
        intro x hx
        simp only [List.mem_cons, List.not_mem_nil, or_false] at hx
        rcases hx with rfl | rfl | rfl
        · exact ⟨by simp only; omega, by simp⟩
        · exact ⟨by simp only; omega, by simp⟩
        · exact ⟨by simp only; omega, by simp⟩)
      have hF2 : fldB [(y0, 2), (y1, 2), (y2, 2)] = (adR ((y0 : Int), (y1 : Int), (y2 : Int))).2 := by simp [fldB, adR]
      rw [hF2, adR_len] at F2
      have hdat : Hid ((2, (adR ((y0 : Int), (y1 : Int), (y2 : Int))).2) = adR ((y0 : Int), (y1 : Int), (y2 : Int))) := rfl
      clear hF2
      generalize (adR ((y0 : Int), (y1 : Int), (y2 : Int))).2 = fb at F2 hdat
      replace F2 := Lib.hid F2
      have f1 : rs.length + 1 ≤ maxLen := by simp only [maxLen]; have := hrl.out; omega
      have f2 : (rs.length + 1) * 32 ≤ 140737488355328 := by have := hrl.out; omega
      have e4 := S.rc0 0 4 rfl rfl
      obtain ⟨e0, e1, e2⟩ : wc.cell? ⟨b, off + k * 3, none⟩ = some (.int .i64 (y0 : Int)) ∧ wc.cell? ⟨b, off + k * 3 + 1, none⟩ = some (.int .i64 (y1 : Int)) ∧ wc.cell? ⟨b, off + k * 3 + 2, none⟩ = some (.int .i64 (y2 : Int)) := by
        obtain ⟨ad, had, hlt⟩ := (S.rd 1 _ rfl).block (by rw [adV_len]; omega)
        injection had with had
        subst had
        exact ⟨(S.b.cell (p := ⟨b, off + k * 3, none⟩) hlt).symm.trans x0, (S.b.cell (p := ⟨b, off + k * 3 + 1, none⟩) hlt).symm.trans x1, (S.b.cell (p := ⟨b, off + k * 3 + 2, none⟩) hlt).symm.trans x2⟩
      have bW : Below wc.heap.size wc (wr.alloc (.cells #[.int .i64 (y0 : Int), .int .i64 2, .int .i64 (y1 : Int), .int .i64 2, .int .i64 (y2 : Int), .int .i64 2] 111)).drew := (S.b.trans (hbw.mono hsz)).drew
      have tok1 : True := trivial
      go_region_held3 (fun w' => w'.cell? ⟨g, 4, none⟩ = some (.slice (some ⟨b, off, none⟩) n c) ∧ w'.cell? ⟨b, off + k * 3, none⟩ = some (.int .i64 (y0 : Int)) ∧ w'.cell? ⟨b, off + k * 3 + 1, none⟩ = some (.int .i64 (y1 : Int)) ∧ w'.cell? ⟨b, off + k * 3 + 2, none⟩ = some (.int .i64 (y2 : Int))) (first | assumption | go_keep)
        (first
          | (clear tok1; (with_reducible refine F2.out.mono ?_); rintro e w4 ⟨v4, rfl, hown4, hb4⟩; obtain ⟨A4, k4, rfl, _, _, _⟩ := own_rd hown4; have b4 := bW.trans (hb4.mono bW.size); have d4 := cell_later b4 e4; have d0 := cell_later b4 e0; have d1 := cell_later b4 e1; have d2 := cell_later b4 e2)
          | (have b5 := (hbw.drew.trans (hb4.mono hbw.drew.size)).trans ((below_new' w4 (.cells #[.int .i64 2, .slice A4 6 k4] 112)).mono (Nat.le_trans hbw.drew.size hb4.size)); have o1 := (R.call b5).own; have s1 := Nat.le_trans hsz b5.size; refine step_appG (o := ⟨some 59, _, _, _, _, _⟩) rfl rrecT (.tmp 33) (.tmp 58) (by rfl) wc.heap.size (by rfl) o1 (m := 1) (by rfl) rfl (Rd.lit w4 #[.int .i64 2, .slice A4 6 k4] 112) (by simp [Value.oneCell']) f1 f2 s1 (rs.length + 1) _ rfl rfl ?_; intro v6 w6 hown6 hbel6 hgr6; have b6 := (S.b.trans (b5.mono hsz)).trans hbel6; have q4 := cell_later b6 e4; have q0 := cell_later b6 e0; have q1 := cell_later b6 e1; have q2 := cell_later b6 e2))
      have hok : RcOwn (w4.alloc (.cells #[.int .i64 2, .slice A4 6 k4] 112)) wc.heap.size 5 ⟨2, A4, 6, k4, fb⟩ := RcOwn.below (own_mono hown4 bW.size : RcOwn w4 wc.heap.size 5 ⟨2, A4, 6, k4, fb⟩) (below_new' w4 _)
      have R6 := R.add (by decide) b5 ⟨2, A4, 6, k4, fb⟩ hok hown6 hgr6 _ hdat.out
      rw [← htk.out] at R6
      replace S : St wc w6 [] _ := ⟨b6, by simp, S.rd⟩
      clear R hown6 hgr6 hok hown4 hb4 b4 b5 b6 o1 s1 hbel6 q4 q0 q1 q2 d4 d0 d1 d2 e4 e0 e1 e2 bW F2 hbw c4 x0 x1 x2
      go_wp2_with fail
      go_roundw
      case rel => exact ⟨k + 1, _, by go_num, by omega, by have := hrl.out; simp; omega, R6, S⟩
      case measure => simp [intOf]; omega
    · obtain rfl : k = n := by omega
      rw [List.take_of_length_le (by have := hn.out; omega)] at R
      go_wp2_with fail
      replace R : RecS wc wr 112 u4 (headR ⟨o', s', a', ov, adj, pre⟩ :: (adj.map adR ++ (pre.take 0).map pfR)) rs := by simpa using R
      clear c4
      go_loopw [4, 6] (fun v4 v5 wr => ∃ (k2 : Nat) (rs : List Rc), v5 = .int .i64 k2 ∧ k2 ≤ m ∧ rs.length = k + k2 + 1 ∧ RecS wc wr 112 v4 (headR ⟨o', s', a', ov, adj, pre⟩ :: (adj.map adR ++ (pre.take k2).map pfR)) rs ∧ St wc wr [] [(some ⟨g, 0, none⟩, [.int .i64 (o' : Int), .int .i64 (s' : Int), .int .i64 (a' : Int), .bool ov, .slice A k c, .slice B m d]), (A, adV adj), (B, pfV pre)]) (fun _ v5 _ => m - (intOf v5).toNat)
      case atStart => exact ⟨0, _, rfl, by omega, by omega, R, S⟩
      case round =>
        clear R S hrl
        obtain ⟨k2, rs, rfl, hk2, hrl, R, S⟩ := hrel
        have c5 := S.rc 0 5 rfl rfl
        by_cases hkn2 : k2 < m
        · have hkl : k2 < pre.length := by have := hm.out; omega
          obtain ⟨b, off, rfl, hcells⟩ := rd_pf (S.r 2 rfl) (by omega)
          obtain ⟨x0, x1⟩ := hcells k2 hkl
          have htk := pfR_take ⟨o', s', a', ov, adj, pre⟩ k2 hkl
          simp only at htk
          have hP := (hPf.out k2 pre[k2] hkn2 (List.getElem?_eq_getElem hkl)).1
          have hU := hu.out pre[k2] (List.getElem_mem hkl)
          unfold pfxB at hP
          rw [decide_eq_true_iff] at hP
          obtain ⟨l0, l3, _⟩ := hP
          clear hcells
          generalize pre[k2] = x at x0 x1 htk l0 l3 hU
          obtain ⟨y0, y1⟩ := x
          simp only at x0 x1 htk l0 l3 hU
          obtain ⟨y1, rfl⟩ : ∃ z : Nat, y1 = z := ⟨y1.toNat, by omega⟩
          replace htk := Lib.hid htk
          replace hrl := Lib.hid hrl
          have hsz := S.b.size
          go_wp2_with fail
          have hbw := below_new' wr (.cells #[.int .i64 (y0 : Int), .int .i64 4, .int .i64 (y1 : Int), .int .i64 1] 111)
          have F2 := rfields_any (some ⟨wr.heap.size, 0, none⟩) 2 2 [(y0, 4), (y1, 1)] (wr.alloc (.cells #[.int .i64 (y0 : Int), .int .i64 4, .int .i64 (y1 : Int), .int .i64 1] 111)).drew (Rd.drew (Rd.lit wr #[.int .i64 (y0 : Int), .int .i64 4, .int .i64 (y1 : Int), .int .i64 1] 111)) rfl (by omega) (by
            intro x hx
            simp only [List.mem_cons, List.not_mem_nil, or_false] at hx
            rcases hx with rfl | rfl
            · exact ⟨by simp only; omega, by simp⟩
            · exact ⟨by simp only; omega, by simp⟩)
          have hF2 : fldB [(y0, 4), (y1, 1)] = (pfR (y0, (y1 : Int))).2 := by simp [fldB, pfR]
          rw [hF2, pfR_len] at F2
          have hdat : Hid ((3, (pfR (y0, (y1 : Int))).2) = pfR (y0, (y1 : Int))) := rfl
          clear hF2
          generalize (pfR (y0, (y1 : Int))).2 = fb at F2 hdat
          replace F2 := Lib.hid F2
          have f1 : rs.length + 1 ≤ maxLen := by simp only [maxLen]; have := hrl.out; omega
          have f2 : (rs.length + 1) * 32 ≤ 140737488355328 := by have := hrl.out; omega
          have e4 := S.rc0 0 5 rfl rfl
          obtain ⟨e0, e1⟩ : wc.cell? ⟨b, off + k2 * 2, none⟩ = some (.int .u32 (y0 : Int)) ∧ wc.cell? ⟨b, off + k2 * 2 + 1, none⟩ = some (.int .i64 (y1 : Int)) := by
            obtain ⟨ad, had, hlt⟩ := (S.rd 2 _ rfl).block (by rw [pfV_len]; omega)
            injection had with had
            subst had
            exact ⟨(S.b.cell (p := ⟨b, off + k2 * 2, none⟩) hlt).symm.trans x0, (S.b.cell (p := ⟨b, off + k2 * 2 + 1, none⟩) hlt).symm.trans x1⟩
          have bW : Below wc.heap.size wc (wr.alloc (.cells #[.int .i64 (y0 : Int), .int .i64 4, .int .i64 (y1 : Int), .int .i64 1] 111)).drew := (S.b.trans (hbw.mono hsz)).drew
          have hwx : IntKind.i64.wrap (y0 : Int) = (y0 : Int) := IntWalk.i64_in _ (by omega)
          have tok1 : True := trivial
          go_region_held3 (fun w' => w'.cell? ⟨g, 5, none⟩ = some (.slice (some ⟨b, off, none⟩) m d) ∧ w'.cell? ⟨b, off + k2 * 2, none⟩ = some (.int .u32 (y0 : Int)) ∧ w'.cell? ⟨b, off + k2 * 2 + 1, none⟩ = some (.int .i64 (y1 : Int))) (first | assumption | go_keep)
            (first
              | (clear tok1; (with_reducible refine F2.out.mono ?_); rintro e w4 ⟨v4, rfl, hown4, hb4⟩; obtain ⟨A4, k4, rfl, _, _, _⟩ := own_rd hown4; have b4 := bW.trans (hb4.mono bW.size); have d4 := cell_later b4 e4; have d0 := cell_later b4 e0; have d1 := cell_later b4 e1)
              | (have b5 := (hbw.drew.trans (hb4.mono hbw.drew.size)).trans ((below_new' w4 (.cells #[.int .i64 3, .slice A4 5 k4] 112)).mono (Nat.le_trans hbw.drew.size hb4.size)); have o1 := (R.call b5).own; have s1 := Nat.le_trans hsz b5.size; refine step_appG (o := ⟨some 87, _, _, _, _, _⟩) rfl rrecT (.tmp 67) (.tmp 86) (by rfl) wc.heap.size (by rfl) o1 (m := 1) (by rfl) rfl (Rd.lit w4 #[.int .i64 3, .slice A4 5 k4] 112) (by simp [Value.oneCell']) f1 f2 s1 (rs.length + 1) _ rfl rfl ?_; intro v6 w6 hown6 hbel6 hgr6; have b6 := (S.b.trans (b5.mono hsz)).trans hbel6; have q4 := cell_later b6 e4; have q0 := cell_later b6 e0; have q1 := cell_later b6 e1))
          have hok : RcOwn (w4.alloc (.cells #[.int .i64 3, .slice A4 5 k4] 112)) wc.heap.size 5 ⟨3, A4, 5, k4, fb⟩ := RcOwn.below (own_mono hown4 bW.size : RcOwn w4 wc.heap.size 5 ⟨3, A4, 5, k4, fb⟩) (below_new' w4 _)
          have R6 := R.add (by decide) b5 ⟨3, A4, 5, k4, fb⟩ hok hown6 hgr6 _ hdat.out
          rw [← htk.out] at R6
          replace S : St wc w6 [] _ := ⟨b6, by simp, S.rd⟩
          clear R hown6 hgr6 hok hown4 hb4 b4 b5 b6 o1 s1 hbel6 q4 q0 q1 d4 d0 d1 e4 e0 e1 bW F2 hbw c5 x0 x1
          go_wp2_with fail
          go_roundw
          case rel => exact ⟨k2 + 1, _, by go_num, by omega, by have := hrl.out; simp; omega, R6, S⟩
          case measure => simp [intOf]; omega
        · obtain rfl : k2 = m := by omega
          rw [List.take_of_length_le (by have := hm.out; omega)] at R
          replace hrl := Lib.hid hrl
          have hsz := S.b.size
          have b1 := below_new' wr (.cells #[.int .u8 0, .int .u8 0] 5)
          have b2 := b1.trans ((below_new' (wr.alloc (.cells #[.int .u8 0, .int .u8 0] 5)) (.cells #[.int .i64 4, .slice (some ⟨wr.heap.size, 0, none⟩) 2 2] 112)).mono b1.size)
          have o1 := (R.call b2).own
          have s1 := Nat.le_trans hsz b2.size
          have f1 : rs.length + 1 ≤ maxLen := by simp only [maxLen]; have := hrl.out; omega
          have f2 : (rs.length + 1) * 32 ≤ 140737488355328 := by have := hrl.out; omega
          have rdl := Rd.lit (wr.alloc (.cells #[.int .u8 0, .int .u8 0] 5)) #[.int .i64 4, .slice (some ⟨wr.heap.size, 0, none⟩) 2 2] 112
          rw [World.size_alloc] at rdl
          have hok : RcOwn ((wr.alloc (.cells #[.int .u8 0, .int .u8 0] 5)).alloc (.cells #[.int .i64 4, .slice (some ⟨wr.heap.size, 0, none⟩) 2 2] 112)) wc.heap.size 5 ⟨4, some ⟨wr.heap.size, 0, none⟩, 2, 2, [0, 0]⟩ := by
            have h1 : RcOwn (wr.alloc (.cells #[.int .u8 0, .int .u8 0] 5)) wc.heap.size 5 ⟨4, some ⟨wr.heap.size, 0, none⟩, 2, 2, [0, 0]⟩ := World.ownsRow_lit wr #[.int .u8 0, .int .u8 0] 2 hsz (by simp only [maxLen]; omega) (by simp)
            exact h1.below (below_new' _ _)
          go_wp2_with (at_builtin; refine wpList_appG rfl rrecT (.tmp 88) (.tmp 91) rfl wc.heap.size rfl o1 (m := 1) rfl (by simp) rdl (by simp [Value.oneCell']) f1 f2 s1 (rs.length + 1) _ rfl rfl ?_; intro v6 w6 hown6 hbel6 hgr6; have R6 := R.add (by decide) b2 _ hok hown6 hgr6 _ rfl)
          have b6 := (S.b.trans (b2.mono hsz)).trans hbel6
          replace R6 : RecS wc w6 112 v6 (laRecs ⟨o', s', a', ov, adj, pre⟩) (rs ++ [⟨4, some ⟨wr.heap.size, 0, none⟩, 2, 2, [0, 0]⟩]) := R6
          have hrl6 : (rs ++ [(⟨4, some ⟨wr.heap.size, 0, none⟩, 2, 2, [0, 0]⟩ : Rc)]).length = k + k2 + 2 := by have := hrl.out; simp; omega
          generalize rs ++ [(⟨4, some ⟨wr.heap.size, 0, none⟩, 2, 2, [0, 0]⟩ : Rc)] = rs6 at R6 hrl6
          clear hown6 hbel6 hgr6 hok rdl o1 R b1 b2 f1 f2 s1 S c5
          obtain ⟨A6, c6, rfl, rd6, _, _⟩ := own_rd R6.own
          have CE := rcencode_any A6 rs6.length c6 rs6 w6 rd6 (fun r hr => (R6.recs r hr).ok) rfl (by omega)
          have hpl := laPlain_len ⟨o', s', a', ov, adj, pre⟩
          simp only [hn.out, hm.out] at hpl
          have hsl : (laEnc ⟨o', s', a', ov, adj, pre⟩).length = (laPlain ⟨o', s', a', ov, adj, pre⟩).length := by rw [laEnc_len, laPlain_len]
          replace hsl := Lib.hid hsl
          rw [R6.says, laRecs_E, laRecs_R] at CE
          replace hrl6 := Lib.hid hrl6
          (with_reducible refine CE.mono ?_)
          clear CE R6 rd6
          rintro e w7 ⟨v7, rfl, hown7, hb7⟩
          replace b6 := b6.trans (hb7.mono b6.size)
          obtain ⟨A7, c7, rfl, rd7, _, _⟩ := own_rd hown7
          have hse : Hid (sealed (laPlain ⟨o', s', a', ov, adj, pre⟩) ((laPlain ⟨o', s', a', ov, adj, pre⟩).length - 2) = laEnc ⟨o', s', a', ov, adj, pre⟩) := rfl
          have SE := rseal_any A7 (laPlain ⟨o', s', a', ov, adj, pre⟩).length c7 ((laPlain ⟨o', s', a', ov, adj, pre⟩).length - 2) (laPlain ⟨o', s', a', ov, adj, pre⟩) w7 rd7 rfl (by omega) (by omega)
          rw [hse.out] at SE
          have hpl2 : (laPlain ⟨o', s', a', ov, adj, pre⟩).length ≤ 1000000 := by omega
          have hpl3 : 2 ≤ (laPlain ⟨o', s', a', ov, adj, pre⟩).length := by omega
          clear hpl
          generalize (laPlain ⟨o', s', a', ov, adj, pre⟩).length = q at *
          have hq : ((q - 2 : Nat) : Int) = (q : Int) - 2 := by omega
          replace SE := Lib.hid (SE _ hq.symm)
          clear hq
          go_wp2_with fail
          (with_reducible refine SE.out.mono ?_)
          rintro e w8 ⟨v8, rfl, hown8, hb8⟩
          go_wp2_with fail
          go_ret
          have hgz : g ≤ wc.heap.size := by have := hz0.out; omega
          rw [hgg.out]
          exact ⟨_, rfl, by rw [hsl.out]; exact own_mono hown8 (Nat.le_trans hgz b6.size), hb0.trans ((b6.trans (hb8.mono b6.size)).mono hgz)⟩

end Go.Proofs.Ytfpoghhjpfkbaaa

namespace Go.Proofs.Ytfpoghhjpfkbaaa
set_option linter.unusedVariables false
open Go.RowKit

theorem and1 (a : Nat) (ha : a < 4294967296) : bits .and .u32 (a : Int) 1 = ((a % 2 : Nat) : Int) := by
  show IntKind.u32.wrap ((BitVec.ofInt 32 (a : Int) &&& BitVec.ofInt 32 1).toNat : Int) = _
  have e : (BitVec.ofInt 32 (a : Int) &&& BitVec.ofInt 32 1).toNat = a % 2 := by
    rw [BitVec.toNat_and, bv_of a 32 (by omega), show (BitVec.ofInt 32 1).toNat = 2 ^ 1 - 1 from rfl, Nat.and_two_pow_sub_one_eq_mod]
  rw [e, IntKind.wrap_u32]
  omega
theorem mod_bit (x j : Nat) : x % 2 ^ (j + 1) = x % 2 ^ j + 2 ^ j * (x / 2 ^ j % 2) := by rw [Nat.pow_succ, Nat.mod_mul]

set_option maxHeartbeats 1600000 in
theorem rprefix_any (x : Nat) (l : Int) (hx : x < 4294967296) (w : World) : Calls Try.prog 40 #[.agg #[.int .u32 x, .int .i64 l]] w fun e w' => e = .returned (.bool (pfxB x l)) ∧ Below w.heap.size w w' := by
  have hbb := below_new' w (.cells #[.int .u32 x, .int .i64 l] 74)
  have hbx := Box.new w #[.int .u32 x, .int .i64 l] 74
  have c0 := hbx.c 0 rfl
  have c1 := hbx.c 1 rfl
  clear hbx
  by_cases h1 : l < 0
  · have e : pfxB x l = false := by unfold pfxB; simp; omega
    rw [e]
    clear e
    go_enter Try.func40, Try.ntmps40
    go_wp2_with fail
    go_ret
    exact ⟨rfl, hbb⟩
  by_cases h2 : 32 < l
  · have e : pfxB x l = false := by unfold pfxB; simp; omega
    rw [e]
    clear e
    go_enter Try.func40, Try.ntmps40
    go_wp2_with fail
    go_ret
    exact ⟨rfl, hbb⟩
  obtain ⟨l, rfl⟩ : ∃ j : Nat, l = j := ⟨l.toNat, by omega⟩
  have e : pfxB x l = decide (x % 2 ^ (32 - l) = 0) := by
    unfold pfxB
    rw [Int.toNat_natCast, Bool.eq_iff_iff, decide_eq_true_iff, decide_eq_true_iff]
    omega
  rw [e]
  clear e
  obtain ⟨r, hr⟩ : ∃ r, decide (x % 2 ^ (32 - l) = 0) = r := ⟨_, rfl⟩
  rw [hr]
  replace hr := Lib.hid hr
  go_enter Try.func40, Try.ntmps40
  go_wp2_with fail
  go_loop [3] (fun v3 => ∃ i : Nat, l ≤ i ∧ i ≤ 32 ∧ v3 = .int .i64 i ∧ Hid (x % 2 ^ (32 - l) = x % 2 ^ (32 - i))) (fun v3 => 32 - (intOf v3).toNat)
  case atStart => exact ⟨l, by omega, by omega, rfl, rfl⟩
  case round =>
    obtain ⟨i, hi1, hi2, rfl, hm⟩ := hrel
    by_cases hi : i < 32
    · obtain ⟨j, hj⟩ : ∃ j, i + j = 31 := ⟨31 - i, by omega⟩
      have hji : (31 : Int) - (i : Int) = (j : Int) := by omega
      have hb := mod_bit x j
      have hd : ((x : Int) / 2 ^ j) = ((x / 2 ^ j : Nat) : Int) := by
        rw [Int.natCast_ediv, Int.natCast_pow]; rfl
      have hdl : x / 2 ^ j < 4294967296 := Nat.lt_of_le_of_lt (Nat.div_le_self _ _) hx
      have ha := and1 (x / 2 ^ j) hdl
      rw [← hd] at ha
      have hm' := hm.out
      rw [show 32 - i = j + 1 by omega, hb] at hm'
      have hpp : 0 < 2 ^ j := Nat.pow_pos (by omega)
      have h32j : j < 32 := by omega
      by_cases hbit : x / 2 ^ j % 2 = 1
      · rw [hbit] at hm' ha
        obtain rfl : r = false := by
          rw [← hr.out, hm']; simp
        clear hb hd hm hm' hbit hj
        go_wp2_with fail
        go_ret
        exact ⟨rfl, hbb⟩
      · have hbit0 : x / 2 ^ j % 2 = 0 := by omega
        rw [hbit0] at hm' ha
        have hm2 : Hid (x % 2 ^ (32 - l) = x % 2 ^ (32 - (i + 1))) := by
          show _ = _
          rw [hm', show 32 - (i + 1) = j by omega]; omega
        clear hb hd hm hm' hbit hbit0
        go_wp2_with fail
        go_round
        case rel => exact ⟨i + 1, by omega, by omega, by go_num, hm2⟩
        case measure => simp [intOf]; omega
    · obtain rfl : i = 32 := by omega
      obtain rfl : r = true := by
        rw [← hr.out, hm.out]; simp [Nat.mod_one]
      go_wp2_with fail
      go_ret
      exact ⟨rfl, hbb⟩

end Go.Proofs.Ytfpoghhjpfkbaaa

namespace Go.Proofs.Ytfpoghhjpfkbaaa
set_option linter.unusedVariables false
open Go.RowKit Go.Sort

theorem cmpP_lt {x l y m : Int} : cmpP x l y m < 0 ↔ (x < y ∨ x = y ∧ l < m) := by
  unfold cmpP orI cmpI
  repeat' split
  all_goals omega

set_option maxRecDepth 100000 in
set_option maxHeartbeats 16000000 in
theorem rvalid_any (o s a : Int) (ov : Bool) (adj : List Ad) (pre : List Pf) (A : Option Addr) (n c : Nat) (B : Option Addr) (m d : Nat) (w : World) (hn : adj.length = n) (hm : pre.length = m) (hnn : n ≤ 9223372036854775807) (hmm : m ≤ 9223372036854775807) (hA : Rd w A (adV adj)) (hB : Rd w B (pfV pre)) (hu : ∀ x ∈ pre, x.1 < 4294967296) :
    Calls Try.prog 23 #[laV o s a ov A n c B m d] w fun e w' => e = .returned (.bool (vB ⟨o, s, a, ov, adj, pre⟩)) ∧ Below w.heap.size w w' := by
  obtain ⟨R, hR⟩ : ∃ R, vB ⟨o, s, a, ov, adj, pre⟩ = R := ⟨_, rfl⟩
  rw [hR]
  replace hR := Lib.hid hR
  have S := Box.new w #[.int .i64 o, .int .i64 s, .int .i64 a, .bool ov, .slice A n c, .slice B m d] 32
  have c0 := S.c 0 rfl
  have c1 := S.c 1 rfl
  have c2 := S.c 2 rfl
  have c3 := S.c 3 rfl
  have c4 := S.c 4 rfl
  have c5 := S.c 5 rfl
  clear S
  replace hu := Lib.hid hu
  have S0 : St w (w.alloc (laB o s a ov A n c B m d)) [(w.heap.size, [.int .i64 o, .int .i64 s, .int .i64 a, .bool ov, .slice A n c, .slice B m d])] [(A, adV adj), (B, pfV pre)] := ((((St.start w).read hB).read hA).new #[.int .i64 o, .int .i64 s, .int .i64 a, .bool ov, .slice A n c, .slice B m d] 32)
  clear hA hB
  go_enter Try.func23, Try.ntmps23
  go_wp2_with fail
  all_goals first
    | (go_ret; exact ⟨ret_bool ((vB_f (fun h => by obtain ⟨h1, h2, h3, h4, h5, _⟩ := h; simp only at h1 h2 h3 h4 h5; omega)).symm.trans hR.out), below_new' w _⟩)
    | skip
  have q0 : ¬ o < 0 := by omega
  have q1 : ¬ 63 < o := by omega
  have q2 : ¬ s < 1 := by omega
  have q3 : ¬ 1073741824 < s := by omega
  have q4 : ¬ a < 0 := by omega
  have q5 : ¬ 3600 < a := by omega
  have q6 : ¬ 256 < n := by omega
  have q7 : ¬ 64 < m := by omega
  have hL : Hid (∀ b, (b = true → (AdGood o adj n ∧ PfGood pre m) ∧ (a = 3600 → ov = false ∧ n = 0 ∧ m = 0)) → (b = false → ¬ ((AdGood o adj n ∧ PfGood pre m) ∧ (a = 3600 → ov = false ∧ n = 0 ∧ m = 0))) → b = R) := by
    intro b h1 h2
    cases b with
    | true =>
      obtain ⟨⟨g1, g2⟩, g3⟩ := h1 rfl
      exact (vB_t ⟨⟨by simp only; omega, by simp only; omega⟩, ⟨by simp only; omega, by simp only; omega⟩, ⟨by simp only; omega, by simp only; omega⟩, by simp only; omega, by simp only; omega, fun e => ⟨(g3 e).1, List.eq_nil_of_length_eq_zero (by have := (g3 e).2.1; simp only; omega), List.eq_nil_of_length_eq_zero (by have := (g3 e).2.2; simp only; omega)⟩, by simp only; rw [hn]; exact g1, by simp only; rw [hm]; exact g2⟩).symm.trans hR.out
    | false => exact (vB_f (fun h => h2 rfl (by
        obtain ⟨_, _, _, _, _, e3, e1, e2⟩ := h
        simp only [hn, hm] at e1 e2
        refine ⟨⟨e1, e2⟩, fun e => ?_⟩
        obtain ⟨f1, f2, f3⟩ := e3 e
        simp only at f1 f2 f3
        subst f2 f3
        exact ⟨f1, hn.symm, hm.symm⟩))).symm.trans hR.out
  clear q0 q1 q2 q3 q4 q5 q6 q7
  replace hn := Lib.hid hn
  replace hm := Lib.hid hm
  generalize w.alloc (.cells #[.int .i64 o, .int .i64 s, .int .i64 a, .bool ov, .slice A n c, .slice B m d] 32) = w1 at *
  clear c0 c1 c2 c3 c4 c5
  go_loopw [3] (fun v3 wr => ∃ k : Nat, v3 = .int .i64 k ∧ k ≤ n ∧ Hid (AdGood o adj k) ∧ St w wr [(w.heap.size, [.int .i64 o, .int .i64 s, .int .i64 a, .bool ov, .slice A n c, .slice B m d])] [(A, adV adj), (B, pfV pre)]) (fun v3 _ => n - (intOf v3).toNat)
  case atStart => exact ⟨0, rfl, by omega, fun k x hk => absurd hk (by omega), S0⟩
  case round =>
    obtain ⟨k, rfl, hk, hgood, S⟩ := hrel
    clear S0
    by_cases hkn : k < n
    · obtain ⟨b, off, rfl, hcells⟩ := rd_ad (S.r 0 rfl) (by have := hn.out; omega)
      have c4 := S.c 0 4 rfl rfl
      have hkl : k < adj.length := by have := hn.out; omega
      obtain ⟨x0, x1, x2⟩ := hcells k hkl
      obtain ⟨x, hx⟩ : ∃ x, adj[k]'hkl = x := ⟨_, rfl⟩
      rw [hx] at x0 x1 x2
      have hx' : adj[k]? = some x := by rw [List.getElem?_eq_getElem hkl, hx]
      have hbad : Hid (¬ ((0 ≤ x.2.1 ∧ x.2.1 ≤ 255) ∧ x.1 ≠ o ∧ (0 ≤ x.1 ∧ x.1 ≤ 63) ∧ (1 ≤ x.2.2 ∧ x.2.2 ≤ 65535) ∧ (∀ y, 0 < k → adj[k - 1]? = some y → y.2.1 < x.2.1)) → false = R) := fun h => hL.out false (fun e => by cases e) (fun _ e => h (e.1.1 k x hkn hx'))
      have hgo : Hid ((0 ≤ x.2.1 ∧ x.2.1 ≤ 255) ∧ x.1 ≠ o ∧ (0 ≤ x.1 ∧ x.1 ≤ 63) ∧ (1 ≤ x.2.2 ∧ x.2.2 ≤ 65535) ∧ (∀ y, 0 < k → adj[k - 1]? = some y → y.2.1 < x.2.1) → AdGood o adj (k + 1)) := fun h => hgood.out.snoc hx' h.1 h.2.1 h.2.2.1 h.2.2.2.1 h.2.2.2.2
      clear hgood
      replace hx := Lib.hid hx
      replace hx' := Lib.hid hx'
      replace hcells := Lib.hid hcells
      go_wp2_with fail
      have S2 := S.new #[.int .i64 x.1, .int .i64 x.2.1, .int .i64 x.2.2] 71
      have hbw := below_new' wr (.cells #[.int .i64 x.1, .int .i64 x.2.1, .int .i64 x.2.2] 71)
      clear c4 x0 x1 x2
      generalize wr.alloc (.cells #[.int .i64 x.1, .int .i64 x.2.1, .int .i64 x.2.2] 71) = w2 at *
      generalize hg2 : wr.heap.size = g2 at S2 ⊢
      have d0 := S2.c 0 0 rfl rfl
      have d1 := S2.c 0 1 rfl rfl
      have d2 := S2.c 0 2 rfl rfl
      have c4 := S2.c 1 4 rfl rfl
      have c0 := S2.c 1 0 rfl rfl
      by_cases p0 : x.2.1 < 0
      · have e0 : decide (x.2.1 < 0) = true := by simpa using p0
        replace p0 := Lib.hid p0
        go_quiet (fail)
        go_wp2_with fail
        go_ret
        exact ⟨ret_bool (hbad.out (fun h => by have p0 := p0.out; have := h.1; omega)), below_drewN S2.b nq⟩
      have e0 : decide (x.2.1 < 0) = false := by simpa using p0
      by_cases p1 : 255 < x.2.1
      · have e1 : decide (255 < x.2.1) = true := by simpa using p1
        replace p1 := Lib.hid p1
        go_quiet (fail)
        go_wp2_with fail
        go_ret
        exact ⟨ret_bool (hbad.out (fun h => by have p1 := p1.out; have := h.1; omega)), below_drewN S2.b nq⟩
      have e1 : decide (255 < x.2.1) = false := by simpa using p1
      by_cases p2 : x.1 < 0
      · have e2 : decide (x.1 < 0) = true := by simpa using p2
        replace p2 := Lib.hid p2
        go_quiet (fail)
        go_wp2_with fail
        go_ret
        exact ⟨ret_bool (hbad.out (fun h => by have p2 := p2.out; have := h.2.2.1; omega)), below_drewN S2.b nq⟩
      have e2 : decide (x.1 < 0) = false := by simpa using p2
      by_cases p3 : 63 < x.1
      · have e3 : decide (63 < x.1) = true := by simpa using p3
        replace p3 := Lib.hid p3
        go_quiet (fail)
        go_wp2_with fail
        go_ret
        exact ⟨ret_bool (hbad.out (fun h => by have p3 := p3.out; have := h.2.2.1; omega)), below_drewN S2.b nq⟩
      have e3 : decide (63 < x.1) = false := by simpa using p3
      by_cases p4 : x.1 = o
      · have e4 : (x.1 == o) = true := by simpa using p4
        replace p4 := Lib.hid p4
        go_quiet (fail)
        go_wp2_with fail
        go_ret
        exact ⟨ret_bool (hbad.out (fun h => by have p4 := p4.out; exact h.2.1 p4)), below_drewN S2.b nq⟩
      have e4 : (x.1 == o) = false := by simpa using p4
      by_cases p5 : x.2.2 < 1
      · have e5 : decide (x.2.2 < 1) = true := by simpa using p5
        replace p5 := Lib.hid p5
        go_quiet (fail)
        go_wp2_with fail
        go_ret
        exact ⟨ret_bool (hbad.out (fun h => by have p5 := p5.out; have := h.2.2.2.1; omega)), below_drewN S2.b nq⟩
      have e5 : decide (x.2.2 < 1) = false := by simpa using p5
      by_cases p6 : 65535 < x.2.2
      · have e6 : decide (65535 < x.2.2) = true := by simpa using p6
        replace p6 := Lib.hid p6
        go_quiet (fail)
        go_wp2_with fail
        go_ret
        exact ⟨ret_bool (hbad.out (fun h => by have p6 := p6.out; have := h.2.2.2.1; omega)), below_drewN S2.b nq⟩
      have e6 : decide (65535 < x.2.2) = false := by simpa using p6
      rcases Nat.eq_zero_or_pos k with hk0 | hkp
      · have hd : decide ((0 : Int) < (k : Int)) = false := by simp [hk0]
        have hbef : ∀ y, 0 < k → adj[k - 1]? = some y → y.2.1 < x.2.1 := fun y h => absurd h (by omega)
        go_quiet (fail)
        go_wp2_with fail
        go_round
        case rel => exact ⟨k + 1, by go_num, by omega, hgo.out ⟨by omega, p4, by omega, by omega, hbef⟩, (S2.drewN nq).keepBoxes _ (by simp)⟩
        case measure => simp [intOf]; omega
      · obtain ⟨j, hj⟩ : ∃ j, j + 1 = k := ⟨k - 1, by omega⟩
        have hd : decide ((0 : Int) < (k : Int)) = true := by simp; omega
        have hw : IntKind.i64.wrap ((k : Int) - 1) = (j : Int) := by rw [show (k : Int) - 1 = (j : Int) by omega]; rw [IntKind.wrap_i64]; omega
        have hjn : j < n := by omega
        obtain ⟨y, hy⟩ : ∃ y, adj[j]'(by have := hn.out; omega) = y := ⟨_, rfl⟩
        have hy' : adj[k - 1]? = some y := by rw [← hj, Nat.add_sub_cancel, List.getElem?_eq_getElem (by have := hn.out; omega), hy]
        obtain ⟨_, y1, _⟩ := hcells.out j (by have := hn.out; omega)
        rw [hy] at y1
        have y1 := cell_later (show Below wr.heap.size wr w2 from hbw) y1
        by_cases hlt : y.2.1 < x.2.1
        · have hbef : ∀ y, 0 < k → adj[k - 1]? = some y → y.2.1 < x.2.1 := fun z _ h => by rw [hy'] at h; injection h with h; rw [← h]; exact hlt
          have hd2 : decide (x.2.1 ≤ y.2.1) = false := by simp; omega
          go_quiet (fail)
          go_wp2_with fail
          go_round
          case rel => exact ⟨k + 1, by go_num, by omega, hgo.out ⟨by omega, p4, by omega, by omega, hbef⟩, (S2.drewN nq).keepBoxes _ (by simp)⟩
          case measure => simp [intOf]; omega
        · have hd2 : decide (x.2.1 ≤ y.2.1) = true := by simp; omega
          go_quiet (fail)
          go_wp2_with fail
          go_ret
          exact ⟨ret_bool (hbad.out (fun h => by have := h.2.2.2.2 y hkp hy'; omega)), below_drewN S2.b nq⟩
    · obtain rfl : k = n := by omega
      have c4 := S.c 0 4 rfl rfl
      go_wp2_with fail
      clear c4
      go_loopw [5] (fun v101 wr => ∃ i : Nat, v101 = .int .i64 i ∧ i ≤ m ∧ Hid (PfGood pre i) ∧ St w wr [(w.heap.size, [.int .i64 o, .int .i64 s, .int .i64 a, .bool ov, .slice A k c, .slice B m d])] [(A, adV adj), (B, pfV pre)]) (fun v101 _ => m - (intOf v101).toNat)
      case atStart => exact ⟨0, rfl, by omega, fun k x hk => absurd hk (by omega), S⟩
      case round =>
        clear S
        obtain ⟨i, rfl, hi, hpg, S⟩ := hrel
        by_cases him : i < m
        · obtain ⟨b, off, rfl, hcells⟩ := rd_pf (S.r 1 rfl) (by have := hm.out; omega)
          have c5 := S.c 0 5 rfl rfl
          have hil : i < pre.length := by have := hm.out; omega
          obtain ⟨x0, x1⟩ := hcells i hil
          obtain ⟨x, hx⟩ : ∃ x, pre[i]'hil = x := ⟨_, rfl⟩
          rw [hx] at x0 x1
          have hx' : pre[i]? = some x := by rw [List.getElem?_eq_getElem hil, hx]
          have hxl : x.1 < 4294967296 := hu.out x (List.mem_of_getElem? hx')
          have hbad : Hid (¬ (pfxB x.1 x.2 = true ∧ (∀ y, 0 < i → pre[i - 1]? = some y → cmpP y.1 y.2 x.1 x.2 < 0)) → false = R) := fun h => hL.out false (fun e => by cases e) (fun _ e => h (e.1.2 i x him hx'))
          have hgo : Hid (pfxB x.1 x.2 = true ∧ (∀ y, 0 < i → pre[i - 1]? = some y → cmpP y.1 y.2 x.1 x.2 < 0) → PfGood pre (i + 1)) := fun h => hpg.out.snoc hx' h.1 h.2
          clear hpg
          replace hx := Lib.hid hx
          replace hx' := Lib.hid hx'
          replace hcells := Lib.hid hcells
          go_wp2_with fail
          have S2 := S.new #[.int .u32 (x.1 : Int), .int .i64 x.2] 74
          have hbw := below_new' wr (.cells #[.int .u32 (x.1 : Int), .int .i64 x.2] 74)
          clear c5 x0 x1
          generalize wr.alloc (.cells #[.int .u32 (x.1 : Int), .int .i64 x.2] 74) = w2 at *
          generalize hg2 : wr.heap.size = g2 at S2 ⊢
          have V := rprefix_any x.1 x.2 hxl w2
          obtain ⟨b1, hb1⟩ : ∃ b1, pfxB x.1 x.2 = b1 := ⟨_, rfl⟩
          rw [hb1] at V
          (with_reducible refine V.mono ?_)
          rintro e w3 ⟨rfl, hb3⟩
          have S3 := S2.call hb3
          clear V
          cases b1 with
          | false =>
            go_wp2_with fail
            go_ret
            exact ⟨ret_bool (hbad.out (fun h => by rw [hb1] at h; cases h.1)), S3.b⟩
          | true =>
            replace hb1 := Lib.hid hb1
            go_wp2_with fail
            have d0 := S3.c 0 0 rfl rfl
            have d1 := S3.c 0 1 rfl rfl
            have c5 := S3.c 1 5 rfl rfl
            rcases Nat.eq_zero_or_pos i with hk0 | hkp
            · have hd : decide ((0 : Int) < (i : Int)) = false := by simp [hk0]
              have hbef : ∀ y, 0 < i → pre[i - 1]? = some y → cmpP y.1 y.2 x.1 x.2 < 0 := fun y h => absurd h (by omega)
              replace hbef := Lib.hid hbef
              go_quiet (fail)
              go_wp2_with fail
              go_round
              case rel => exact ⟨i + 1, by go_num, by omega, hgo.out ⟨hb1.out, hbef.out⟩, (S3.drewN nq).keepBoxes _ (by simp)⟩
              case measure => simp [intOf]; omega
            · obtain ⟨j, hj⟩ : ∃ j, j + 1 = i := ⟨i - 1, by omega⟩
              have hd : decide ((0 : Int) < (i : Int)) = true := by simp; omega
              have hw : IntKind.i64.wrap ((i : Int) - 1) = (j : Int) := by rw [show (i : Int) - 1 = (j : Int) by omega]; rw [IntKind.wrap_i64]; omega
              have hjm : j < m := by omega
              have hjl : j < pre.length := by have := hm.out; omega
              obtain ⟨y, hy⟩ : ∃ y, pre[j]'hjl = y := ⟨_, rfl⟩
              have hy' : pre[i - 1]? = some y := by rw [← hj, Nat.add_sub_cancel, List.getElem?_eq_getElem hjl, hy]
              obtain ⟨y0, y1⟩ := hcells.out j hjl
              rw [hy] at y0 y1
              have y0 := cell_later (show Below wr.heap.size wr w3 from hbw.trans (hb3.mono hbw.size)) y0
              have y1 := cell_later (show Below wr.heap.size wr w3 from hbw.trans (hb3.mono hbw.size)) y1
              have hbefI : Hid (cmpP y.1 y.2 x.1 x.2 < 0 → ∀ y, 0 < i → pre[i - 1]? = some y → cmpP y.1 y.2 x.1 x.2 < 0) := fun hlt z _ h => by rw [hy'] at h; injection h with h; rw [← h]; exact hlt
              have hbad2 : Hid (¬ (cmpP y.1 y.2 x.1 x.2 < 0) → false = R) := fun h => hbad.out (fun h2 => h (h2.2 y hkp hy'))
              clear hy hy' hb3 hbw S2 hj hbad S
              by_cases p0 : x.1 < y.1
              · have q0 : decide (x.1 < y.1) = true := by simpa using p0
                go_quiet (fail)
                go_wp2_with fail
                go_ret
                have h9 : ¬ cmpP y.1 y.2 x.1 x.2 < 0 := fun h => by have := cmpP_lt.1 h; omega
                exact ⟨ret_bool (hbad2.out (by simpa using h9)), below_drewN S3.b nq⟩
              have q0 : decide (x.1 < y.1) = false := by simpa using p0
              by_cases p1 : x.1 = y.1
              · have q1 : ((x.1 : Int) == (y.1 : Int)) = true := by rw [p1]; exact beq_self_eq_true _
                replace p1 := Lib.hid p1
                by_cases p2 : x.2 ≤ y.2
                · have q2 : decide (x.2 ≤ y.2) = true := by simpa using p2
                  go_quiet (fail)
                  go_wp2_with fail
                  go_ret
                  have h9 : ¬ cmpP y.1 y.2 x.1 x.2 < 0 := fun h => by have := cmpP_lt.1 h; have := p1.out; omega
                  exact ⟨ret_bool (hbad2.out (by simpa using h9)), below_drewN S3.b nq⟩
                · have q2 : decide (x.2 ≤ y.2) = false := by simpa using p2
                  go_quiet (fail)
                  go_wp2_with fail
                  go_round
                  case rel => exact ⟨i + 1, by go_num, by omega, hgo.out ⟨hb1.out, hbefI.out (cmpP_lt.2 (by have := p1.out; omega))⟩, (S3.drewN nq).keepBoxes _ (by simp)⟩
                  case measure => simp [intOf]; omega
              · have q1 : ((x.1 : Int) == (y.1 : Int)) = false := by simp; omega
                go_quiet (fail)
                go_wp2_with fail
                go_round
                case rel => exact ⟨i + 1, by go_num, by omega, hgo.out ⟨hb1.out, hbefI.out (cmpP_lt.2 (by omega))⟩, (S3.drewN nq).keepBoxes _ (by simp)⟩
                case measure => simp [intOf]; omega
        · obtain rfl : i = m := by omega
          have c2 := S.c 0 2 rfl rfl
          have c3 := S.c 0 3 rfl rfl
          have c4 := S.c 0 4 rfl rfl
          have c5 := S.c 0 5 rfl rfl
          replace hgood := Lib.hid hgood.out
          have hF : ¬ (a = 3600 → ov = false ∧ k = 0 ∧ i = 0) → R = false := fun h => (hL.out false (fun e => by cases e) (fun _ e => h e.2)).symm
          have hT : (a = 3600 → ov = false ∧ k = 0 ∧ i = 0) → R = true := fun h => (hL.out true (fun _ => ⟨⟨hgood.out, hpg.out⟩, h⟩) (fun e => by cases e)).symm
          clear hL
          by_cases p0 : a = 3600
          · subst p0
            cases ov with
            | true =>
              obtain rfl : R = false := hF (fun h => by have := (h rfl).1; cases this)
              clear hF hT
              go_wp2_with fail
              go_ret
              exact ⟨rfl, S.b⟩
            | false =>
              rcases Nat.eq_zero_or_pos k with hk0 | hkp
              · subst hk0
                rcases Nat.eq_zero_or_pos i with hi0 | hip
                · subst hi0
                  obtain rfl : R = true := hT (fun _ => ⟨rfl, rfl, rfl⟩)
                  clear hF hT
                  go_wp2_with fail
                  go_ret
                  exact ⟨rfl, S.b⟩
                · have hi0 : ((i : Int) == 0) = false := by simp; omega
                  obtain rfl : R = false := hF (fun h => by have := (h rfl).2.2; omega)
                  clear hF hT
                  go_wp2_with fail
                  go_ret
                  exact ⟨rfl, S.b⟩
              · have hk0 : ((k : Int) == 0) = false := by simp; omega
                obtain rfl : R = false := hF (fun h => by have := (h rfl).2.1; omega)
                clear hF hT
                go_wp2_with fail
                go_ret
                exact ⟨rfl, S.b⟩
          · obtain rfl : R = true := hT (fun h => absurd h p0)
            clear hF hT
            go_wp2_with fail
            go_ret
            exact ⟨rfl, S.b⟩

end Go.Proofs.Ytfpoghhjpfkbaaa

namespace Go.Proofs.Ytfpoghhjpfkbaaa
set_option linter.unusedVariables false
open Go.RowKit
attribute [local go_sem ↓] Go.wp_at_zero Go.wp_at_succ

theorem rrecT' : ElemT Try.prog 113 112 (.agg #[.int .i64 0, .slice none 0 0]) 2 32 := ⟨Try.underlying113, by kernel_rfl, rfl, by omega⟩

theorem W2b {w1 w2 : World} (hb : Below w1.heap.size w1 w2) (x0 : Nat) (A3 : Option Addr) (N c3 : Nat) : Below w1.heap.size w1 (w2.alloc (.cells #[.int .i64 (x0 : Int), .slice A3 N c3] 112)) :=
  (hb.trans ((below_new' w2 _).mono hb.size))
theorem W2o {base2 : Nat} {e : TypeId} {s : Nat} {v : Value} {n : Nat} {xs : List Value} {w1 w2 : World} (hown : w1.ownsRow base2 e s v n xs) (hb : Below w1.heap.size w1 w2) (x0 : Nat) (A3 : Option Addr) (N c3 : Nat) :
    (w2.alloc (.cells #[.int .i64 (x0 : Int), .slice A3 N c3] 112)).ownsRow base2 e s v n xs := own_below hown (W2b hb x0 A3 N c3)
theorem W2c (x0 : Nat) (A3 : Option Addr) (N c3 : Nat) : ∀ u ∈ [(.int .i64 (x0 : Int) : Value), .slice A3 N c3], u.oneCell' = true := by simp [Value.oneCell']
theorem W2r (w2 : World) (x0 : Nat) (A3 : Option Addr) (N c3 : Nat) : Rd (w2.alloc (.cells #[.int .i64 (x0 : Int), .slice A3 N c3] 112)) (some ⟨w2.heap.size, 0, none⟩) [.int .i64 (x0 : Int), .slice A3 N c3] := Rd.lit w2 _ _
end Go.Proofs.Ytfpoghhjpfkbaaa

namespace Go.Proofs.Ytfpoghhjpfkbaaa
set_option linter.unusedVariables false
open Go.RowKit Go.Sort

def AccX (W0 w : World) (x : La) : Prop := ∃ vA vB, AccS W0 w x vA vB
theorem rc_block {w : World} {base : Nat} {e : TypeId} {r : Rc} (h : RcOwn w base e r) : ∀ ad, r.A = some ad → ad.block < w.heap.size := by
  intro ad e2
  rcases h.2 with ⟨e3, _⟩ | ⟨g', cap, cur, e3, _, hh, _⟩
  · rw [e2] at e3; cases e3
  · rw [e2] at e3
    simp only [Value.slice.injEq, Option.some.injEq] at e3
    obtain ⟨rfl, _⟩ := e3
    exact (Array.getElem?_eq_some_iff.1 hh).1
theorem own_slice {w : World} {base : Nat} {e : TypeId} {size : Nat} {A : Option Addr} {n c : Nat} {xs : List Value} (h : w.ownsRow base e size (.slice A n c) n xs) : Rd w A xs := by
  obtain ⟨A', c', e, r, _⟩ := own_rd h
  simp only [Value.slice.injEq, true_and] at e
  obtain ⟨rfl, rfl⟩ := e
  exact r
theorem uintB_lt2 (bs : List UInt8) (h : bs.length ≤ 4) : uintB bs < 4294967296 := by
  have := uintB_lt bs
  have := Nat.pow_le_pow_right (n := 256) (by omega) h
  omega
theorem chk_f {bs : List UInt8} : chk bs = (fl1 bs == 0 && fl2 bs == 0) := rfl

end Go.Proofs.Ytfpoghhjpfkbaaa

namespace Go.Proofs.Ytfpoghhjpfkbaaa
set_option linter.unusedVariables false
open Go.RowKit

theorem intsOf (bs : List UInt8) : Lib.bytesOf (bs.map fun b => (b.toNat : Int)) = bs := by
  induction bs with
  | nil => rfl
  | cons b bs ih =>
    simp only [Lib.bytesOf, List.map_cons, List.map_map] at ih ⊢
    rw [ih]
    simp
theorem run_bytesOf {P : Program} (w : World) (A : Option Addr) (n c : Nat) (bs : List UInt8) (h : Bs w A bs) (hn : bs.length = n) : (Extern.Bytes.bytesOf (.slice A n c)).run P w = .ok ⟨bs.toArray⟩ w := by
  subst hn
  rcases A with _ | ad
  · have := Rd.nil_len h
    have e : bs = [] := by simpa using this
    subst e
    rfl
  · have hl := Lib.run_loadBytesX (P := P) w (bs.map fun b => (b.toNat : Int)) ad .empty (fun j x hj => by
      rw [List.getElem?_map] at hj
      obtain ⟨b, hb, rfl⟩ := Option.map_eq_some_iff.1 hj
      obtain ⟨ad', e, hc⟩ := h (by rw [List.length_map]; have := (List.getElem?_eq_some_iff.1 hb).1; omega)
      injection e with e
      subst e
      exact hc j _ (by rw [List.getElem?_map, hb]; rfl))
    rw [List.length_map, intsOf] at hl
    show (Extern.Bytes.loadBytes ad bs.length .empty).run P w = _
    rw [hl]
    congr 1
    apply ByteArray.ext
    show (#[] : Array UInt8) ++ bs.toArray = bs.toArray
    simp
theorem run_compareSlice {P : Program} (w : World) (A B : Option Addr) (n c m d : Nat) (xs ys : List UInt8) (hx : Bs w A xs) (hn : xs.length = n) (hy : Bs w B ys) (hm : ys.length = m) :
    (Extern.BytealgCompare.compare #[.slice A n c, .slice B m d]).run P w = .ok (.int .i64 (Lib.compareBytes xs ys)) w := by
  change Sem.run P (do pure (goInt (Extern.BytealgCompare.cmp (← Extern.Bytes.bytesOf (.slice A n c)) (← Extern.Bytes.bytesOf (.slice B m d))))) w = _
  simp only [Sem.run_bind, Sem.run_pure, run_bytesOf w A n c xs hx hn, run_bytesOf w B m d ys hy hm, Result.andThen]
  rw [Lib.cmp_eq]
  rfl

set_option maxHeartbeats 1000000 in
set_option maxRecDepth 100000 in
theorem bcompare_any (w : World) (A B : Option Addr) (n c m d : Nat) (xs ys : List UInt8) (hx : Bs w A xs) (hn : xs.length = n) (hy : Bs w B ys) (hm : ys.length = m) :
    Calls Try.prog 39 #[.slice A n c, .slice B m d] w fun e w' => e = .returned (.int .i64 (Lib.compareBytes xs ys)) ∧ w = w' := by
  have R := run_compareSlice (P := Try.prog) w A B n c m d xs ys hx hn hy hm
  go_enter Try.func39, Try.ntmps39
  go_wp2
  rw [run_callFunc_extern Try.func57 (by kernel_rfl) (by kernel_rfl) (by kernel_rfl) (e := Extern.BytealgCompare.compare) (by kernel_rfl), R]
  simp only [Result.andThen]
  rw [Oper.upon_value]
  go_wp2
  go_ret
  exact ⟨rfl, rfl⟩

end Go.Proofs.Ytfpoghhjpfkbaaa

namespace Go.Proofs.Ytfpoghhjpfkbaaa
set_option linter.unusedVariables false
open Go.RowKit

theorem own_slice' {w : World} {base : Nat} {e : TypeId} {size : Nat} {A : Option Addr} {n c : Nat} {xs : List Value} (h : w.ownsRow base e size (.slice A n c) n xs) : Rd w A xs := by
  obtain ⟨A', c', e, r, _⟩ := own_rd h
  simp only [Value.slice.injEq, true_and] at e
  obtain ⟨rfl, rfl⟩ := e
  exact r
def age0 (x : La) : La := { x with a := 0 }
noncomputable def newI (x y : La) : Int :=
  if vB x = true ∧ vB y = true then
    if x.s = y.s then if (x.a == 3600) = (y.a == 3600) then Lib.compareBytes (laEnc (age0 x)) (laEnc (age0 y)) else if (x.a == 3600) = true then 1 else -1
    else cmpI x.s y.s
  else 0
theorem age0_valid {x : La} (h : LaValid x) : LaValid (age0 x) := by
  obtain ⟨h1, h2, h3, h4, h5, h6, h7, h8⟩ := h
  exact ⟨h1, h2, ⟨by simp [age0], by simp [age0]⟩, h4, h5, fun e => by simp [age0] at e, h7, h8⟩

set_option maxRecDepth 100000 in
set_option maxHeartbeats 6400000 in
theorem lnewer_any (w : World) (v u : Value) (x y : La) (hx : LaAt w v x) (hy : LaAt w u y) : Calls Try.prog 21 #[v, u] w fun e w' => e = .returned (.int .i64 (newI x y)) ∧ Below w.heap.size w w' := by
  obtain ⟨A, c, B, d, rfl, rA, rB, h1, h2, h3, h4, hu⟩ := hx
  obtain ⟨A', c', B', d', rfl, rA', rB', h1', h2', h3', h4', hu'⟩ := hy
  unfold maxLen at h2 h4 h2' h4'
  have S := ((((((St.start w).read rB').read rA').read rB).read rA).new' #[.int .i64 x.o, .int .i64 x.s, .int .i64 x.a, .bool x.ov, .slice A x.adj.length c, .slice B x.pre.length d] 32 w.heap.size _ rfl rfl).new' #[.int .i64 y.o, .int .i64 y.s, .int .i64 y.a, .bool y.ov, .slice A' y.adj.length c', .slice B' y.pre.length d'] 32 (w.heap.size + 1) _ (by simp) rfl
  have VX := fun W (hb : Below w.heap.size w W) => valid_any x.o x.s x.a x.ov x.adj x.pre A _ c B _ d W rfl rfl (rA.below hb) (rB.below hb) hu
  have VY := fun W (hb : Below w.heap.size w W) => valid_any y.o y.s y.a y.ov y.adj y.pre A' _ c' B' _ d' W rfl rfl (rA'.below hb) (rB'.below hb) hu'
  rw [show (⟨x.o, x.s, x.a, x.ov, x.adj, x.pre⟩ : La) = x from rfl] at VX
  rw [show (⟨y.o, y.s, y.a, y.ov, y.adj, y.pre⟩ : La) = y from rfl] at VY
  have EX := fun W (hb : Below w.heap.size w W) => lencode_any x.o x.s 0 x.ov x.adj x.pre A _ c B _ d W rfl rfl (rA.below hb) (rB.below hb) hu
  have EY := fun W (hb : Below w.heap.size w W) => lencode_any y.o y.s 0 y.ov y.adj y.pre A' _ c' B' _ d' W rfl rfl (rA'.below hb) (rB'.below hb) hu'
  rw [show (⟨x.o, x.s, 0, x.ov, x.adj, x.pre⟩ : La) = age0 x from rfl] at EX
  rw [show (⟨y.o, y.s, 0, y.ov, y.adj, y.pre⟩ : La) = age0 y from rfl] at EY
  have c0 := S.c 1 0 rfl rfl
  have c1 := S.c 1 1 rfl rfl
  have c2 := S.c 1 2 rfl rfl
  have c3 := S.c 1 3 rfl rfl
  have c4 := S.c 1 4 rfl rfl
  have c5 := S.c 1 5 rfl rfl
  clear rA rB rA' rB'
  have hlx : vB x = true → lencB (age0 x) = laEnc (age0 x) := fun h => by unfold lencB; rw [vB_t (age0_valid (vB_iff.1 h))]; rfl
  have hly : vB y = true → lencB (age0 y) = laEnc (age0 y) := fun h => by unfold lencB; rw [vB_t (age0_valid (vB_iff.1 h))]; rfl
  unfold newI
  generalize laEnc (age0 x) = ex at *
  generalize laEnc (age0 y) = ey at *
  generalize lencE (age0 x) = ex0 at *
  generalize lencE (age0 y) = ey0 at *
  generalize lencB (age0 x) = lx at *
  generalize lencB (age0 y) = ly at *
  generalize hbx : vB x = bx at *
  generalize hby : vB y = by' at *
  clear hbx hby
  generalize x.adj.length = n at *
  generalize x.pre.length = m at *
  generalize y.adj.length = n' at *
  generalize y.pre.length = m' at *
  obtain ⟨o, s, a, ov, adj, pre⟩ := x
  obtain ⟨o', s', a', ov', adj', pre'⟩ := y
  simp only at *
  have VX1 := VX _ S.b
  replace VX1 := Lib.hid VX1
  replace VX := Lib.hid VX
  replace VY := Lib.hid VY
  replace EX := Lib.hid EX
  replace EY := Lib.hid EY
  replace hlx := Lib.hid hlx
  replace hly := Lib.hid hly
  clear hu hu'
  cases bx with
  | false =>
    rw [if_neg (by simp)]
    go_enter Try.func21, Try.ntmps21
    go_wp2_with fail
    (with_reducible refine VX1.out.mono ?_)
    rintro e w2 ⟨rfl, hb⟩
    replace S := S.call hb
    clear c0 c1 c2 c3 c4 c5 VX1
    go_wp2_with fail
    go_ret
    exact ⟨rfl, S.b⟩
  | true =>
  obtain ⟨r, hr⟩ : ∃ r : Int, (if true = true ∧ by' = true then (if s = s' then (if (a == 3600) = (a' == 3600) then Lib.compareBytes ex ey else if (a == 3600) = true then (1 : Int) else -1) else cmpI s s') else 0) = r := ⟨_, rfl⟩
  rw [hr]
  replace hr := Lib.hid hr
  go_enter Try.func21, Try.ntmps21
  go_wp2_with fail
  (with_reducible refine VX1.out.mono ?_)
  rintro e w2 ⟨rfl, hb⟩
  replace S := S.call hb
  clear c0 c1 c2 c3 c4 c5 VX1 hb
  have d0 := S.c 0 0 rfl rfl
  have d1 := S.c 0 1 rfl rfl
  have d2 := S.c 0 2 rfl rfl
  have d3 := S.c 0 3 rfl rfl
  have d4 := S.c 0 4 rfl rfl
  have d5 := S.c 0 5 rfl rfl
  have VY1 := VY.out _ S.b
  replace VY1 := Lib.hid VY1
  go_wp2_with fail
  (with_reducible refine VY1.out.mono ?_)
  rintro e w3 ⟨rfl, hb⟩
  replace S := S.call hb
  clear d0 d1 d2 d3 d4 d5 VY1 hb VX VY
  cases by' with
  | false =>
    obtain rfl : 0 = r := by have := hr.out; rwa [if_neg (by simp)] at this
    go_wp2_with fail
    go_ret
    exact ⟨rfl, S.b⟩
  | true =>
  have hr2 := hr.out
  rw [if_pos (by simp)] at hr2
  clear hr
  have c1 := S.c 1 1 rfl rfl
  have d1 := S.c 0 1 rfl rfl
  by_cases hs : s = s'
  rotate_left
  · rw [if_neg hs] at hr2
    replace hr2 := Lib.hid hr2
    have e2 : (s != s') = true := by simpa using hs
    clear hs
    go_wp2_with fail
    (with_reducible refine (cmpint_any _ _ _).mono ?_)
    rintro e w4 ⟨rfl, rfl⟩
    go_wp2_with fail
    go_ret
    exact ⟨ret_int hr2.out, S.b⟩
  subst hs
  rw [if_pos rfl] at hr2
  obtain ⟨pa, hpa⟩ : ∃ z, (a == 3600) = z := ⟨_, rfl⟩
  obtain ⟨pb, hpb⟩ : ∃ z, (a' == 3600) = z := ⟨_, rfl⟩
  rw [hpa, hpb] at hr2
  have c2 := S.c 1 2 rfl rfl
  have d2 := S.c 0 2 rfl rfl
  by_cases hp : pa = pb
  rotate_left
  · rw [if_neg hp] at hr2
    cases pa
    all_goals
      cases pb
      all_goals
        first
        | exact absurd rfl hp
        | skip
    · obtain rfl : -1 = r := by simpa using hr2
      clear hp hr2
      go_wp2_with fail
      go_quiet (fail)
      go_wp2_with fail
      go_ret
      exact ⟨rfl, below_drewN S.b nq⟩
    · obtain rfl : 1 = r := by simpa using hr2
      clear hp hr2
      go_wp2_with fail
      go_quiet (fail)
      go_wp2_with fail
      go_ret
      exact ⟨rfl, below_drewN S.b nq⟩
  subst hp
  rw [if_pos rfl] at hr2
  replace hr2 := Lib.hid hr2
  go_wp2_with fail
  go_quiet (fail)
  replace S := S.drewN nq
  generalize w3.drewN nq = w4 at *
  clear c1 d1 c2 d2 hpa hpb
  obtain rfl := hlx.out trivial
  obtain rfl := hly.out trivial
  clear hlx hly
  have c0 := S.c 1 0 rfl rfl
  have c1 := S.c 1 1 rfl rfl
  have c2 := S.c 1 2 rfl rfl
  have c3 := S.c 1 3 rfl rfl
  have c4 := S.c 1 4 rfl rfl
  have c5 := S.c 1 5 rfl rfl
  have d2 := S.c 0 2 rfl rfl
  have f2 := S.f 1 2 rfl rfl
  have g2 := S.f 0 2 rfl rfl
  have S2 := (S.set 1 2 (.int .i64 0) (g := w.heap.size) rfl (by simp) (Nat.le_refl _) (by simp) _ rfl).set 0 2 (.int .i64 0) (g := w.heap.size + 1) rfl (by simp) (by omega) (by simp) _ rfl
  have EX1 := EX.out _ S2.b
  replace EX1 := Lib.hid EX1
  go_wp2_with fail
  (with_reducible refine EX1.out.mono ?_)
  rintro e w5 ⟨v5, rfl, hown5, hb⟩
  replace S2 := S2.call hb
  clear c0 c1 c2 c3 c4 c5 d2 f2 g2 EX1 hb S
  obtain ⟨A5, a5, rfl, _, _, _⟩ := own_rd hown5
  have d0 := S2.c 0 0 rfl rfl
  have d1 := S2.c 0 1 rfl rfl
  have d2 := S2.c 0 2 rfl rfl
  have d3 := S2.c 0 3 rfl rfl
  have d4 := S2.c 0 4 rfl rfl
  have d5 := S2.c 0 5 rfl rfl
  have EY1 := EY.out _ S2.b
  replace EY1 := Lib.hid EY1
  go_wp2_with fail
  (with_reducible refine EY1.out.mono ?_)
  rintro e w6 ⟨v6, rfl, hown6, hb⟩
  replace S2 := S2.call hb
  have hown5 := own_below hown5 hb
  clear d0 d1 d2 d3 d4 d5 EY1 hb EX EY
  obtain ⟨A6, a6, rfl, _, _, _⟩ := own_rd hown6
  have BC := bcompare_any w6 A5 A6 _ a5 _ a6 lx ly (own_slice' hown5) rfl (own_slice' hown6) rfl
  replace BC := Lib.hid BC
  go_wp2_with fail
  (with_reducible refine BC.out.mono ?_)
  rintro e w7 ⟨rfl, rfl⟩
  go_wp2_with fail
  go_ret
  exact ⟨ret_int hr2.out, S2.b⟩

end Go.Proofs.Ytfpoghhjpfkbaaa
