/-
  The texts Enc, CodIt, CodLaw, CodD, Dec, Purge, CodRN, Fields, FleSum, SealR, CodRE, one after the other.
-/
import Derived.Test.YtfpoghhjpfkbaaaQ3
import Derived.Deep.DeepCutAuto
import Derived.RangeFuncNested
import Derived.RangeFuncBound
import Derived.RangeFuncCalls
import Derived.RangeFuncLeaves
import Derived.OwnWalkIn
import Derived.TacticsInMore
import Derived.LoopNIn
import Derived.LoopIn
import Derived.Sort.QuietIn
import Derived.IntWalk
import Derived.Stop.RegionWithIn
import Derived.Shelf.Abstract
import Derived.Deep.AppendLies
import Derived.Deep.RegionLaw
import Derived.Deep.RegionHeld3
namespace Go.Proofs.Ytfpoghhjpfkbaaa
set_option linter.unusedVariables false
open Go.RowKit

abbrev laC (o s a : Int) (ov : Bool) (A : Option Addr) (n c : Nat) (B : Option Addr) (m d : Nat) : List Value := [.int .i64 o, .int .i64 s, .int .i64 a, .bool ov, .slice A n c, .slice B m d]

set_option maxRecDepth 100000 in
set_option maxHeartbeats 6400000 in
theorem lencode_any (o s a : Int) (ov : Bool) (adj : List Ad) (pre : List Pf) (A : Option Addr) (n c : Nat) (B : Option Addr) (m d : Nat) (w : World) (hn : adj.length = n) (hm : pre.length = m) (hA : Rd w A (adV adj)) (hB : Rd w B (pfV pre)) (hu : ∀ x ∈ pre, x.1 < 4294967296) :
    Calls Try.prog 38 #[laV o s a ov A n c B m d] w fun e w' =>
      ∃ v, e = .returned (.tuple #[v, .int .i64 (lencE ⟨o, s, a, ov, adj, pre⟩)]) ∧ w'.ownsRow w.heap.size 5 1 v (lencB ⟨o, s, a, ov, adj, pre⟩).length ((lencB ⟨o, s, a, ov, adj, pre⟩).map u8v) ∧ Below w.heap.size w w' := by
  have S0 : St w (w.alloc (laB o s a ov A n c B m d)) [(w.heap.size, laC o s a ov A n c B m d)] [(A, adV adj), (B, pfV pre)] := ((((St.start w).read hB).read hA).new #[.int .i64 o, .int .i64 s, .int .i64 a, .bool ov, .slice A n c, .slice B m d] 32)
  have hbx := Box.new w #[.int .i64 o, .int .i64 s, .int .i64 a, .bool ov, .slice A n c, .slice B m d] 32
  have c0 := hbx.c 0 rfl
  have c1 := hbx.c 1 rfl
  have c2 := hbx.c 2 rfl
  have c3 := hbx.c 3 rfl
  have c4 := hbx.c 4 rfl
  have c5 := hbx.c 5 rfl
  have V := valid_any o s a ov adj pre A n c B m d (w.alloc (laB o s a ov A n c B m d)) hn hm (S0.r 0 rfl) (S0.r 1 rfl) hu
  have hb1 := below_new' w (laB o s a ov A n c B m d)
  clear hbx
  by_cases hv : LaValid ⟨o, s, a, ov, adj, pre⟩
  rotate_left
  · have e0 := vB_f hv
    have e1 : lencE ⟨o, s, a, ov, adj, pre⟩ = 1 := by unfold lencE; rw [e0]; rfl
    have e2 : lencB ⟨o, s, a, ov, adj, pre⟩ = [] := by unfold lencB; rw [e0]; rfl
    rw [e1, e2]
    rw [e0] at V
    clear e0 e1 e2
    replace V := Lib.hid V
    go_enter Try.func38, Try.ntmps38
    go_wp2_with fail
    (with_reducible refine V.out.mono ?_)
    rintro e w1 ⟨rfl, hb2⟩
    go_wp2_with fail
    go_ret2
    exact ⟨_, rfl, World.ownsRow_nil _ _ _ _, hb1.trans (hb2.mono hb1.size)⟩
  have e0 := vB_t hv
  have e1 : lencE ⟨o, s, a, ov, adj, pre⟩ = 0 := by unfold lencE; rw [e0]; rfl
  have e2 : lencB ⟨o, s, a, ov, adj, pre⟩ = laEnc ⟨o, s, a, ov, adj, pre⟩ := by unfold lencB; rw [e0]; rfl
  rw [e1, e2]
  rw [e0] at V
  clear e0 e1 e2
  replace V := Lib.hid V
  go_enter Try.func38, Try.ntmps38
  go_wp2_with fail
  (with_reducible refine V.out.mono ?_)
  rintro e w1 ⟨rfl, hb2⟩
  go_wp2_with fail
  have E0 := EncS.start (S0.call hb2) (by simp) 90 26
  have hg : w.heap.size < w1.heap.size := by have := hb2.size; simp at this; omega
  generalize (w1.alloc (.cells #[.slice none 0 0] 90)).alloc (.cells #[.int .i64 0] 26) = w2 at *
  generalize w1.heap.size = g1 at *
  clear c0 c1 c2 c3 c4 c5 V hb1 hb2 S0
  obtain ⟨⟨ho0, ho1⟩, ⟨hs0, hs1⟩, ⟨ha0, ha1⟩, hl1, hl2, _, hAd, hPf⟩ := hv
  simp only at ho0 ho1 hs0 hs1 ha0 ha1 hl1 hl2 hAd hPf
  rw [hn] at hl1 hAd
  rw [hm] at hl2 hPf
  replace hn := Lib.hid hn
  replace hm := Lib.hid hm
  replace hu := Lib.hid hu
  replace hAd := Lib.hid hAd
  replace hPf := Lib.hid hPf
  (with_reducible refine (begin_any _ _ _ _ _ _ _ _ E0 (by simp)).mono ?_)
  clear E0
  rintro e w3 ⟨rfl, E1⟩
  have c0 := E1.c 0 0 rfl rfl
  go_wp2_with fail
  (with_reducible refine (put_z o 2 o.toNat 2 (by omega) rfl _ _ _ _ _ _ _ _ _ E1 (by simp) (by simp) (by omega) (by omega) (by omega) (by omega)).mono ?_)
  clear E1 c0
  rintro e w4 ⟨rfl, E1⟩
  have c0 := E1.c 0 1 rfl rfl
  go_wp2_with fail
  (with_reducible refine (put_z s 4 s.toNat 4 (by omega) rfl _ _ _ _ _ _ _ _ _ E1 (by simp) (by simp [numB_len]) (by omega) (by omega) (by omega) (by omega)).mono ?_)
  clear E1 c0
  rintro e w5 ⟨rfl, E1⟩
  have c0 := E1.c 0 2 rfl rfl
  go_wp2_with fail
  (with_reducible refine (put_z a 2 a.toNat 2 (by omega) rfl _ _ _ _ _ _ _ _ _ E1 (by simp) (by simp [numB_len]) (by omega) (by omega) (by omega) (by omega)).mono ?_)
  clear E1 c0
  rintro e w6 ⟨rfl, E1⟩
  have c0 := E1.c 0 3 rfl rfl
  go_upto_if 34 with fail
  go_cut [] (fun wx => EncS w wx g1 (g1 + 1) [(w.heap.size, laC o s a ov A n c B m d)] [(A, adV adj), (B, pfV pre)] ([] ++ [(1, [] ++ numB o.toNat 2 ++ numB s.toNat 4 ++ numB a.toNat 2 ++ numB (bit ov) 1)]))
  case first =>
    cases ov
    · go_wp2_with fail
      (with_reducible refine (put_z 0 1 0 1 rfl rfl _ _ _ _ _ _ _ _ _ E1 (by simp) (by simp [numB_len]) (by omega) (by omega) (by omega) (by omega)).mono ?_)
      rintro e w7 ⟨rfl, E2⟩
      go_wp2_with fail
      go_meet
      exact E2
    · go_wp2_with fail
      (with_reducible refine (put_z 1 1 1 1 rfl rfl _ _ _ _ _ _ _ _ _ E1 (by simp) (by simp [numB_len]) (by omega) (by omega) (by omega) (by omega)).mono ?_)
      rintro e w7 ⟨rfl, E2⟩
      go_wp2_with fail
      go_meet
      exact E2
  case rest =>
  clear E1 c0
  have E1 : EncS w wc g1 (g1 + 1) [(w.heap.size, laC o s a ov A n c B m d)] [(A, adV adj), (B, pfV pre)] (headR ⟨o, s, a, ov, adj, pre⟩ :: (adj.take 0).map adR) := hcut
  clear hcut
  have c4 := E1.c 0 4 rfl rfl
  go_wp2_with fail
  clear c4
  go_loopw [42] (fun v42 wr => ∃ k : Nat, v42 = .int .i64 k ∧ k ≤ n ∧ EncS w wr g1 (g1 + 1) [(w.heap.size, laC o s a ov A n c B m d)] [(A, adV adj), (B, pfV pre)] (headR ⟨o, s, a, ov, adj, pre⟩ :: (adj.take k).map adR)) (fun v42 _ => n - (intOf v42).toNat)
  case atStart => exact ⟨0, rfl, by omega, E1⟩
  case round =>
    clear E1
    obtain ⟨k, rfl, hk, E1⟩ := hrel
    by_cases hkn : k < n
    · obtain ⟨b, off, rfl, hcells⟩ := rd_ad (E1.r 0 rfl) (by have := hn.out; omega)
      have hkl : k < adj.length := by have := hn.out; omega
      obtain ⟨x0, x1, x2⟩ := hcells k hkl
      have htk := adR_take ⟨o, s, a, ov, adj, pre⟩ k hkl
      simp only at htk
      obtain ⟨⟨l0, l3⟩, _, ⟨l1, l4⟩, ⟨l2, l5⟩, _⟩ := hAd.out k adj[k] hkn (List.getElem?_eq_getElem hkl)
      clear hcells
      generalize adj[k] = x at x0 x1 x2 htk l0 l1 l2 l3 l4 l5
      replace htk := Lib.hid htk
      go_wp2_with fail
      have E2 := E1.new #[.int .i64 x.1, .int .i64 x.2.1, .int .i64 x.2.2] 71 (by simp)
      clear E1 x0 x1 x2
      generalize wr.alloc (.cells #[.int .i64 x.1, .int .i64 x.2.1, .int .i64 x.2.2] 71) = w3 at *
      generalize wr.heap.size = g3 at *
      have hll : (headR ⟨o, s, a, ov, adj, pre⟩ :: (adj.take k).map adR).length ≤ 1000000 := by simp; omega
      (with_reducible refine (begin_any _ _ _ _ _ _ _ _ E2 hll).mono ?_)
      clear E2
      rintro e w4 ⟨rfl, E1⟩
      have c0 := E1.c 0 0 rfl rfl
      go_wp2_with fail
      (with_reducible refine (put_z x.1 2 x.1.toNat 2 (by omega) rfl _ _ _ _ _ _ _ _ _ E1 hll (by simp) (by omega) (by omega) (by omega) (by omega)).mono ?_)
      clear E1 c0
      rintro e w5 ⟨rfl, E1⟩
      have c0 := E1.c 0 1 rfl rfl
      go_wp2_with fail
      (with_reducible refine (put_z x.2.1 2 x.2.1.toNat 2 (by omega) rfl _ _ _ _ _ _ _ _ _ E1 hll (by simp [numB_len]) (by omega) (by omega) (by omega) (by omega)).mono ?_)
      clear E1 c0
      rintro e w6 ⟨rfl, E1⟩
      have c0 := E1.c 0 2 rfl rfl
      go_wp2_with fail
      (with_reducible refine (put_z x.2.2 2 x.2.2.toNat 2 (by omega) rfl _ _ _ _ _ _ _ _ _ E1 hll (by simp [numB_len]) (by omega) (by omega) (by omega) (by omega)).mono ?_)
      clear E1 c0
      rintro e w7 ⟨rfl, E1⟩
      go_wp2_with fail
      go_roundw
      case rel => exact ⟨k + 1, by go_num, by omega, by rw [htk.out]; exact E1.drop _ (by simp)⟩
      case measure => simp [intOf]; omega
    · obtain rfl : k = n := by omega
      rw [List.take_of_length_le (by have := hn.out; omega)] at E1
      have c5 := E1.c 0 5 rfl rfl
      go_wp2_with fail
      clear c5
      replace E1 : EncS w wr g1 (g1 + 1) [(w.heap.size, laC o s a ov A k c B m d)] [(A, adV adj), (B, pfV pre)] (headR ⟨o, s, a, ov, adj, pre⟩ :: (adj.map adR ++ (pre.take 0).map pfR)) := by simpa using E1
      go_loopw [64] (fun v42 wr => ∃ k2 : Nat, v42 = .int .i64 k2 ∧ k2 ≤ m ∧ EncS w wr g1 (g1 + 1) [(w.heap.size, laC o s a ov A k c B m d)] [(A, adV adj), (B, pfV pre)] (headR ⟨o, s, a, ov, adj, pre⟩ :: (adj.map adR ++ (pre.take k2).map pfR))) (fun v42 _ => m - (intOf v42).toNat)
      case atStart => exact ⟨0, rfl, by omega, E1⟩
      case round =>
        clear E1
        obtain ⟨k2, rfl, hk, E1⟩ := hrel
        have hkk : adj.length = k := hn.out
        by_cases hkn : k2 < m
        · obtain ⟨b, off, rfl, hcells⟩ := rd_pf (E1.r 1 rfl) (by have := hm.out; omega)
          have hkl : k2 < pre.length := by have := hm.out; omega
          obtain ⟨x0, x1⟩ := hcells k2 hkl
          have htk := pfR_take ⟨o, s, a, ov, adj, pre⟩ k2 hkl
          simp only at htk
          have hP := (hPf.out k2 pre[k2] hkn (List.getElem?_eq_getElem hkl)).1
          have hU := hu.out pre[k2] (List.getElem_mem hkl)
          unfold pfxB at hP
          rw [decide_eq_true_iff] at hP
          obtain ⟨l0, l3, _⟩ := hP
          clear hcells
          generalize pre[k2] = x at x0 x1 htk l0 l3 hU
          replace htk := Lib.hid htk
          have hll : (headR ⟨o, s, a, ov, adj, pre⟩ :: (adj.map adR ++ (pre.take k2).map pfR)).length ≤ 1000000 := by simp; omega
          replace hll := Lib.hid hll
          replace hkk := Lib.hid hkk
          go_wp2_with fail
          have E2 := E1.new #[.int .u32 (x.1 : Int), .int .i64 x.2] 74 (by simp)
          clear E1 x0 x1
          generalize wr.alloc (.cells #[.int .u32 (x.1 : Int), .int .i64 x.2] 74) = w3 at *
          generalize wr.heap.size = g3 at *
          (with_reducible refine (begin_any _ _ _ _ _ _ _ _ E2 hll.out).mono ?_)
          clear E2
          rintro e w4 ⟨rfl, E1⟩
          have c0 := E1.c 0 0 rfl rfl
          go_wp2_with fail
          (with_reducible refine (put_z (x.1 : Int) 4 x.1 4 rfl rfl _ _ _ _ _ _ _ _ _ E1 hll.out (by simp) (by omega) (by omega) (by omega) (by omega)).mono ?_)
          clear E1 c0
          rintro e w5 ⟨rfl, E1⟩
          have c0 := E1.c 0 1 rfl rfl
          go_wp2_with fail
          (with_reducible refine (put_z x.2 1 x.2.toNat 1 (by omega) rfl _ _ _ _ _ _ _ _ _ E1 hll.out (by simp [numB_len]) (by omega) (by omega) (by omega) (by omega)).mono ?_)
          clear E1 c0
          rintro e w6 ⟨rfl, E1⟩
          go_wp2_with fail
          go_roundw
          case rel => exact ⟨k2 + 1, by go_num, by omega, by rw [htk.out]; exact E1.drop _ (by simp)⟩
          case measure => simp [intOf]; omega
        · obtain rfl : k2 = m := by omega
          rw [List.take_of_length_le (by have := hm.out; omega)] at E1
          have hmm : pre.length = k2 := hm.out
          have hll : (headR ⟨o, s, a, ov, adj, pre⟩ :: (adj.map adR ++ pre.map pfR)).length ≤ 1000000 := by simp; omega
          have hpl := laPlain_len ⟨o, s, a, ov, adj, pre⟩
          simp only [hkk, hmm] at hpl
          have hR := laRecs_R ⟨o, s, a, ov, adj, pre⟩
          have hE := laRecs_E ⟨o, s, a, ov, adj, pre⟩
          have hlr : (laRecs ⟨o, s, a, ov, adj, pre⟩).length = k + k2 + 2 := by simp [laRecs, hkk, hmm]; omega
          replace hll := Lib.hid hll
          replace hR := Lib.hid hR
          replace hE := Lib.hid hE
          replace hlr := Lib.hid hlr
          replace hpl := Lib.hid hpl
          clear hkk hmm
          go_wp2_with fail
          (with_reducible refine (begin_any _ _ _ _ _ _ _ _ E1 hll.out).mono ?_)
          clear E1
          rintro e w4 ⟨rfl, E1⟩
          go_wp2_with fail
          (with_reducible refine (put_z 0 2 0 2 rfl rfl _ _ _ _ _ _ _ _ _ E1 hll.out (by simp) (by omega) (by omega) (by omega) (by omega)).mono ?_)
          clear E1 hll
          rintro e w5 ⟨rfl, E1⟩
          replace E1 : EncS w w5 g1 (g1 + 1) [(w.heap.size, laC o s a ov A k c B k2 d)] [(A, adV adj), (B, pfV pre)] (laRecs ⟨o, s, a, ov, adj, pre⟩) := E1
          obtain ⟨v, rs, E1, hd⟩ := E1
          generalize laRecs ⟨o, s, a, ov, adj, pre⟩ = LR at hR hE hlr hd
          have hrl : rs.length ≤ 1000000 := by
            have := hlr.out
            rw [← hd, List.length_map] at this; omega
          obtain ⟨A1, k1, rfl, rdv, _, _⟩ := own_rd E1.own
          have CE := cencode_any A1 rs.length k1 rs w5 rdv (fun r hr => (E1.recs r hr).ok) rfl hrl
          rw [hd, hE.out, hR.out] at CE
          replace CE := Lib.hid CE
          clear hd hE hR hlr rdv
          have c1 := E1.S.c 0 0 rfl rfl
          go_wp2_with fail
          (with_reducible refine CE.out.mono ?_)
          rintro e w6 ⟨v6, rfl, hown6, hb6⟩
          have hb6' := E1.S.b.trans (hb6.mono E1.S.b.size)
          have c2 := (E1.S.call hb6).c 1 0 rfl rfl
          obtain ⟨A6, k6, rfl, rd6, _, _⟩ := own_rd hown6
          have SE := seal_any A6 (laPlain ⟨o, s, a, ov, adj, pre⟩).length k6 ((laPlain ⟨o, s, a, ov, adj, pre⟩).length - 2) (laPlain ⟨o, s, a, ov, adj, pre⟩) w6 rd6 rfl (by rw [hpl.out]; omega) (by rw [hpl.out]; omega)
          have hpl2 : (laPlain ⟨o, s, a, ov, adj, pre⟩).length ≤ 1000000 := by rw [hpl.out]; omega
          have hpl3 : 2 ≤ (laPlain ⟨o, s, a, ov, adj, pre⟩).length := by rw [hpl.out]; omega
          have hsl : (laEnc ⟨o, s, a, ov, adj, pre⟩).length = (laPlain ⟨o, s, a, ov, adj, pre⟩).length := by rw [laEnc_len, laPlain_len]
          replace hsl := Lib.hid hsl
          have hse : Hid (sealed (laPlain ⟨o, s, a, ov, adj, pre⟩) ((laPlain ⟨o, s, a, ov, adj, pre⟩).length - 2) = laEnc ⟨o, s, a, ov, adj, pre⟩) := rfl
          clear c1 CE
          rw [hse.out] at SE
          generalize (laPlain ⟨o, s, a, ov, adj, pre⟩).length = q at *
          have hq : ((q - 2 : Nat) : Int) = (q : Int) - 2 := by omega
          replace SE := Lib.hid (SE _ hq.symm)
          clear hq
          go_wp2_with fail
          (with_reducible refine SE.out.mono ?_)
          rintro e w7 ⟨v7, rfl, hown7, hb7⟩
          go_wp2_with fail
          go_ret2
          exact ⟨_, rfl, by rw [hsl.out]; exact own_mono hown7 (hb6'.size), hb6'.trans (hb7.mono hb6'.size)⟩

end Go.Proofs.Ytfpoghhjpfkbaaa

namespace Go.Proofs.Ytfpoghhjpfkbaaa
set_option linter.unusedVariables false
open Go.RowKit
attribute [local go_sem] Oper.semAt_some

/-- What the iterator leaves behind. -/
def ItPost (J : List Rec → World → Prop) (Jx : World → Prop) (D : Option (List Rec)) (e : Ending) (w' : World) : Prop :=
  (∃ v, e = .returned v) ∧ ((∃ l, D = some l ∧ J l w') ∨ (D = none ∧ Jx w'))

end Go.Proofs.Ytfpoghhjpfkbaaa

namespace Go.Proofs.Ytfpoghhjpfkbaaa
set_option linter.unusedVariables false
open Go.RowKit

section
variable {F : Fence} {n : Nat} {P : Program}

/-- The loop's record. -/
def lrec (fn : FuncId) (tmps : Array Value) (ps : Array Tmp) (assign body : Code) (D : Nat) (st : LoopState) (pe : Option Code) : Loop :=
  { state := st, pending := pe, fn, tmps, params := ps, assign, body, defers := D }

/-- What the body owes at a round's end: its record still busy, and R behind the record's turn. -/
def endsRound (l : Nat) (rec : LoopState → Option Code → Loop) (R : Ending → World → Prop) : Exit → Act → World → Prop
  | .normal, _, W => W.heap[l]? = some (.loop (rec .busy none)) ∧ R (.returned (.bool true)) (W.putObj l (.loop (rec .ready none)))
  | .ret, _, W => W.heap[l]? = some (.loop (rec .busy none)) ∧ R (.returned (.bool false)) (W.putObj l (.loop (rec .done (some .ret))))
  | _, _, _ => False

theorem yield_round {l m : Nat} {fn : FuncId} {tmps : Array Value} {ps : Array Tmp} {assign body : Code} {D : Nat} {LR : LoopState → Option Code → Loop} (hLR : LR = lrec fn tmps ps assign body D) (hfn : F.fn fn) {W : World} (hl : W.heap[l]? = some (.loop (LR .ready none)))
    {args : Array Value} (hs : args.size = ps.size) {R : Ending → World → Prop}
    (h : assign.wpIn (F.inRound l) m P (Exit.then (fun a₁ w₁ => w₁.heap[l]? = some (.loop (LR .ready none)) ∧
      body.wpIn (F.inRound l) m P (endsRound l LR R) a₁ (w₁.putObj l (.loop (LR .busy none)))) (fun _ _ _ => False))
      { tmps := (ps.zip args).foldl (fun t (p, v) => t.setIfInBounds p v) tmps, defers := [] } W) : YieldAt F m P l args W R := by
  subst hLR
  refine ⟨fn, _, assign, body, run_yield hl hs, roundIn_of_wpIn hfn (wpIn_mono h ?_)⟩
  intro e a₁ w₁ hp
  cases e with
  | normal =>
    obtain ⟨hl1, hb⟩ := hp
    refine ⟨_, run_beginRound hl1 rfl, wpIn_mono hb ?_⟩
    intro e2 a2 W3 hq
    cases e2 with
    | normal => exact ⟨_, _, run_endRound none hq.1, hq.2⟩
    | ret => exact ⟨_, _, run_endRound (some .ret) hq.1, hq.2⟩
    | exit id => exact hq.elim
    | goto t => exact hq.elim
    | panic c => exact hq.elim
    | outgrown => exact hq.elim
  | ret => exact hp.elim
  | exit id => exact hp.elim
  | goto t => exact hp.elim
  | panic c => exact hp.elim
  | outgrown => exact hp.elim

/-- The statement. -/
theorem range_law {g : Operand} {ps : Array Tmp} {assign body : Code} {Q : Exit → Act → World → Prop} {a : Act} {w : World} (hro : F.round = none) (h1 : 1 ≤ n) {gf : Nat} {lb : Array Value}
    (hg : a.eval g = .func (.func gf) #[] lb) (hFg : F.fn gf) (eg : ∀ args w, (callFunc gf args).run P w = .ok (.enter gf args) w)
    (Jr : World → Prop) (Jx : World → Prop)
    (hJr : ∀ W l o o', Jr W → w.heap.size ≤ l → W.heap[l]? = some o → o.isCells = false → Jr (W.putObj l o')) (hJx : ∀ W l o o', Jx W → w.heap.size ≤ l → W.heap[l]? = some o → o.isCells = false → Jx (W.putObj l o'))
    (hiter : ∀ fn, F.fn fn → ∀ LR : LoopState → Option Code → Loop, LR = lrec fn a.tmps ps assign body w.heap.size →
      CallsIn F (n - 1) P gf (#[.func (.yield (w.heap.size + 1)) #[] #[]] ++ lb) ((w.alloc (.deferred (some []))).alloc (.loop (LR .ready none))) fun e W' => (∃ v, e = .returned v) ∧
      ((Jr W' ∧ W'.heap[w.heap.size + 1]? = some (.loop (LR .ready none)) ∧ W'.heap[w.heap.size]? = some (.deferred (some []))) ∨
       (Jx W' ∧ W'.heap[w.heap.size + 1]? = some (.loop (LR .done (some .ret))) ∧ W'.heap[w.heap.size]? = some (.deferred (some [])))))
    (hdone : ∀ W, Jr W → W.heap[w.heap.size]? = some (.deferred (some [])) → Q .normal { a with defers := { target := .collected w.heap.size, args := #[] } :: a.defers } W)
    (hstop : ∀ W, Jx W → W.heap[w.heap.size]? = some (.deferred (some [])) → Code.ret.wpIn F n P Q { a with defers := { target := .collected w.heap.size, args := #[] } :: a.defers } W) :
    (Code.rangeFunc g ps assign body).wpIn F n P Q a w := by
  refine wpIn_rangeFunc fun fn hfn => ?_
  rw [hro]
  refine ⟨w.heap.size + 1, [{ target := .collected w.heap.size, args := #[] }], (w.alloc (.deferred (some []))).alloc (.loop (lrec fn a.tmps ps assign body w.heap.size .ready none)),
    { target := .fn (.func gf) lb, args := #[.func (.yield (w.heap.size + 1)) #[] #[]] }, (w.alloc (.deferred (some []))).alloc (.loop (lrec fn a.tmps ps assign body w.heap.size .ready none)), gf,
    #[.func (.yield (w.heap.size + 1)) #[] #[]] ++ lb, (w.alloc (.deferred (some []))).alloc (.loop (lrec fn a.tmps ps assign body w.heap.size .ready none)), run_enterLoop_outer _ _ _ _ _, ?_, ?_, ?_, fun _ => h1, ?_⟩
  · simp only [resolve, hg]
    simp [go_sem]
  · intro f' hf'; simp [Target.leads] at hf'; subst hf'; exact hFg
  · simp [invoke, go_sem, eg]
  · refine (hiter fn hfn _ rfl).mono ?_
    rintro e W2 ⟨⟨v, rfl⟩, (⟨hj, hl, hk⟩ | ⟨hj, hl, hk⟩)⟩
    · exact ⟨none, _, run_endLoop hl (by simp [lrec]), hdone _ (hJr _ _ _ _ hj (by omega) hl rfl) ((World.putObj_heap_other (by omega)).trans hk)⟩
    · exact ⟨some .ret, _, run_endLoop hl (by simp [lrec]), hstop _ (hJx _ _ _ _ hj (by omega) hl rfl) ((World.putObj_heap_other (by omega)).trans hk)⟩
end

end Go.Proofs.Ytfpoghhjpfkbaaa

namespace Go.Proofs.Ytfpoghhjpfkbaaa
set_option linter.unusedVariables false
open Go.RowKit Go.Shelf
attribute [local go_sem] Oper.semAt_some

theorem recT' : ElemT Try.prog 90 93 (.agg #[.int .i64 0, .slice none 0 0]) 2 32 := ⟨Try.underlying90, by kernel_rfl, rfl, by omega⟩

/-- Between two rounds. -/
structure DecI (w W : World) (rs : List Rc) (v : Value) : Prop where
  c : W.cell? ⟨w.heap.size + 2, 0, none⟩ = some v
  f : W.frozen? ⟨w.heap.size + 2, 0, none⟩ = false
  own : W.ownsRow (w.heap.size + 4) 93 2 v rs.length (recV rs)
  rs : ∀ r ∈ rs, RcOwn W (w.heap.size + 4) 5 r
  c0 : W.cell? ⟨w.heap.size, 0, none⟩ = some (.slice none 0 0)
  f0 : W.frozen? ⟨w.heap.size, 0, none⟩ = false
  c1 : W.cell? ⟨w.heap.size + 1, 0, none⟩ = some (.int .i64 0)
  f1 : W.frozen? ⟨w.heap.size + 1, 0, none⟩ = false
  b : Below w.heap.size w W
/-- Where a round has found that it is no encoding. -/
structure DecX (w W : World) : Prop where
  c0 : W.cell? ⟨w.heap.size, 0, none⟩ = some (.slice none 0 0)
  c1 : W.cell? ⟨w.heap.size + 1, 0, none⟩ = some (.int .i64 4)
  b : Below w.heap.size w W

theorem cell_set_other {W : World} {p q : Addr} {v : Value} (u : Value) (h : W.cell? q = some v) (hne : q ≠ p) : (W.setCell p u).cell? q = some v := (cell_far u (fun e => hne e.symm)).trans h

theorem DecI.below {w W W' : World} {rs : List Rc} {v : Value} (h : DecI w W rs v) (hb : Below W.heap.size W W') : DecI w W' rs v :=
  ⟨cell_later hb h.c, free_later hb h.c h.f, own_below h.own hb, fun r hr => (h.rs r hr).below hb, cell_later hb h.c0, free_later hb h.c0 h.f0, cell_later hb h.c1, free_later hb h.c1 h.f1, h.b.trans (hb.mono h.b.size)⟩
theorem DecI.set {w W : World} {rs : List Rc} {v : Value} (h : DecI w W rs v) (u : Value) : DecI w (W.setCell ⟨w.heap.size + 3, 0, none⟩ u) rs v :=
  ⟨cell_set_other u h.c (by simp), by simp [h.f], ownsRow_setCell_below h.own (a := ⟨w.heap.size + 3, 0, none⟩) (Nat.lt_succ_self _) u, fun r hr => (h.rs r hr).set (a := ⟨w.heap.size + 3, 0, none⟩) (Nat.lt_succ_self _) u,
    cell_set_other u h.c0 (by simp), by simp [h.f0], cell_set_other u h.c1 (by simp), by simp [h.f1], h.b.setCell (p := ⟨w.heap.size + 3, 0, none⟩) (by simp) u⟩
theorem DecI.put {w W : World} {rs : List Rc} {v : Value} (h : DecI w W rs v) {l : Nat} {o : Obj} (o' : Obj) (hw : w.heap.size ≤ l) (hl : W.heap[l]? = some o) (ho : o.isCells = false) : DecI w (W.putObj l o') rs v :=
  have hg := grownBy_putObj' W l o'
  have hk : ∀ r, some l = some r → ∃ o : Obj, W.heap[r]? = some o ∧ o.isCells = false := fun r e => by cases e; exact ⟨o, hl, ho⟩
  ⟨cell_kept h.c hg hk, (frozen_kept h.c hg hk).trans h.f, ownsRow_putObj h.own o' hl ho, fun r hr => ownsRow_putObj (h.rs r hr) o' hl ho, cell_kept h.c0 hg hk, (frozen_kept h.c0 hg hk).trans h.f0, cell_kept h.c1 hg hk, (frozen_kept h.c1 hg hk).trans h.f1,
    h.b.grown hg h.b.size fun k e => by cases e; exact hw⟩
theorem DecX.put {w W : World} (h : DecX w W) {l : Nat} {o : Obj} (o' : Obj) (hw : w.heap.size ≤ l) (hl : W.heap[l]? = some o) (ho : o.isCells = false) : DecX w (W.putObj l o') :=
  have hg := grownBy_putObj' W l o'
  have hk : ∀ r, some l = some r → ∃ o : Obj, W.heap[r]? = some o ∧ o.isCells = false := fun r e => by cases e; exact ⟨o, hl, ho⟩
  ⟨cell_kept h.c0 hg hk, cell_kept h.c1 hg hk, h.b.grown hg h.b.size fun k e => by cases e; exact hw⟩

end Go.Proofs.Ytfpoghhjpfkbaaa

namespace Go.Proofs.Ytfpoghhjpfkbaaa
set_option linter.unusedVariables false
open Go.RowKit

/-- What Decode leaves. -/
def LdecPost (w : World) (bs : List UInt8) (e : Ending) (w' : World) : Prop :=
  ∃ v, e = .returned (.tuple #[v, .int .i64 (ldecE bs)]) ∧ LaOwn w' w.heap.size v (ldecV bs) ∧ Below w.heap.size w w'

abbrev z6 : List Value := [.int .i64 0, .int .i64 0, .int .i64 0, .bool false, .slice none 0 0, .slice none 0 0]

theorem St.set6 {W w : World} {g : Nat} {bs : List (Nat × List Value)} {rs : List (Option Addr × List Value)} {a0 a1 a2 a3 a4 a5 : Value} (S : St W w ((g, [a0, a1, a2, a3, a4, a5]) :: bs) rs) (o s a : Int) (ov : Bool) (vA vB : Value) (hg : W.heap.size ≤ g) (hd : ∀ x ∈ bs, x.1 ≠ g) :
    St W ((((((w.setCell ⟨g, 0, none⟩ (.int .i64 o)).setCell ⟨g, 1, none⟩ (.int .i64 s)).setCell ⟨g, 2, none⟩ (.int .i64 a)).setCell ⟨g, 3, none⟩ (.bool ov)).setCell ⟨g, 4, none⟩ vA).setCell ⟨g, 5, none⟩ vB) ((g, [.int .i64 o, .int .i64 s, .int .i64 a, .bool ov, vA, vB]) :: bs) rs :=
  (((((S.set 0 0 (.int .i64 o) rfl (by simp) hg hd _ rfl).set 0 1 (.int .i64 s) rfl (by simp) hg hd _ rfl).set 0 2 (.int .i64 a) rfl (by simp) hg hd _ rfl).set 0 3 (.bool ov) rfl (by simp) hg hd _ rfl).set 0 4 vA rfl (by simp) hg hd _ rfl).set 0 5 vB rfl (by simp) hg hd _ rfl

theorem own_set6 {w : World} {base : Nat} {e : TypeId} {size : Nat} {v : Value} {n : Nat} {xs : List Value} (h : w.ownsRow base e size v n xs) {g : Nat} (hg : g < base) (u0 u1 u2 u3 u4 u5 : Value) :
    ((((((w.setCell ⟨g, 0, none⟩ u0).setCell ⟨g, 1, none⟩ u1).setCell ⟨g, 2, none⟩ u2).setCell ⟨g, 3, none⟩ u3).setCell ⟨g, 4, none⟩ u4).setCell ⟨g, 5, none⟩ u5).ownsRow base e size v n xs :=
  ownsRow_setCell_below (a := ⟨g, 5, none⟩) (ownsRow_setCell_below (a := ⟨g, 4, none⟩) (ownsRow_setCell_below (a := ⟨g, 3, none⟩) (ownsRow_setCell_below (a := ⟨g, 2, none⟩) (ownsRow_setCell_below (a := ⟨g, 1, none⟩) (ownsRow_setCell_below (a := ⟨g, 0, none⟩) h hg _) hg _) hg _) hg _) hg _) hg _

end Go.Proofs.Ytfpoghhjpfkbaaa

namespace Go.Proofs.Ytfpoghhjpfkbaaa
set_option linter.unusedVariables false
open Go.RowKit

noncomputable def purgeE (x : La) : Int := if vB x = true then 0 else 1
noncomputable def purgeV (x : La) : La := if vB x = true then purgeX x else laZero
def PurgePost (w : World) (x : La) (e : Ending) (w' : World) : Prop :=
  ∃ v, e = .returned (.tuple #[v, .int .i64 (purgeE x)]) ∧ LaOwn w' w.heap.size v (purgeV x) ∧ Below w.heap.size w w'

end Go.Proofs.Ytfpoghhjpfkbaaa

namespace Go.Proofs.Ytfpoghhjpfkbaaa
set_option linter.unusedVariables false
open Go.RowKit

theorem div_pow256 (m j : Nat) : ((m / 256 ^ j : Nat) : Int) / 256 = ((m / 256 ^ (j + 1) : Nat) : Int) := by
  rw [show (256 : Int) = ((256 : Nat) : Int) from rfl, ← Int.natCast_ediv, Nat.div_div_eq_div_mul, Nat.pow_succ]

set_option maxHeartbeats 1600000 in
theorem number_any (m k : Nat) (w : World) (hm : m < 18446744073709551616) (hk : k ≤ 8) :
    Calls Try.prog 68 #[.int .u64 m, .int .i64 k] w fun e w' =>
      ∃ v, e = .returned v ∧ w'.ownsRow w.heap.size 5 1 v k ((numB m k).map u8v) ∧ Below w.heap.size w w' := by
  have hmk : (Instr.makeSlice 78 (.int .i64 (k : Int)) (.int .i64 (k : Int))).run Try.prog w = _ := run_make1 bytesT rfl .i64 .i64 k k (by omega) (by omega) (by omega) w
  have hown0 := own_made w (.int .u8 0) k 5 (by simp only [maxLen]; omega)
  have hb0 := below_new' w (.cells (zeroRow (.int .u8 0) k) 5)
  have hrep : List.replicate k (.int .u8 0) = (List.replicate k (0 : UInt8) ++ (numB m k).drop k).map u8v := by
    rw [List.drop_of_length_le (by rw [numB_len]; exact Nat.le_refl _)]; simp [u8v]
  rw [hrep] at hown0
  clear hrep
  go_enter Try.func68, Try.ntmps68
  go_wp2_with fail
  clear hmk
  go_loopw [0, 6] (fun v0 v6 wr => ∃ j i : Nat, j + i = k ∧ v6 = .int .i64 ((i : Int) - 1) ∧ v0 = .int .u64 ((m / 256 ^ j : Nat) : Int) ∧ wr.ownsRow w.heap.size 5 1 (.slice (some ⟨w.heap.size, 0, none⟩) k k) k ((List.replicate i (0 : UInt8) ++ (numB m k).drop i).map u8v) ∧ Below w.heap.size w wr) (fun _ v6 _ => (intOf v6 + 1).toNat)
  case atStart => exact ⟨0, k, by omega, rfl, by simp, hown0, hb0⟩
  case round =>
    clear hown0 hb0
    obtain ⟨j, i, hji, rfl, rfl, hown, hb⟩ := hrel
    rcases i with _ | i
    · go_wp2_with fail
      go_ret
      exact ⟨_, rfl, by simpa using hown, hb⟩
    · have hi : ((i + 1 : Nat) : Int) - 1 = i := by omega
      rw [hi]
      have hdv := div_pow256 m j
      have hlt : m / 256 ^ j < 18446744073709551616 := Nat.lt_of_le_of_lt (Nat.div_le_self _ _) hm
      have hst := hown.stored i (.int .u8 (((m / 256 ^ j : Nat) : Int) % 256))
      have hset : Hid (((List.replicate (i + 1) (0 : UInt8) ++ (numB m k).drop (i + 1)).map u8v).set i (.int .u8 (((m / 256 ^ j : Nat) : Int) % 256)) = (List.replicate i (0 : UInt8) ++ (numB m k).drop i).map u8v) := by
        show _ = _
        rw [← IntKind.wrap_u8, u8_wrap, ← List.map_set]
        congr 1
        rw [List.replicate_succ', List.append_assoc, List.set_append_right _ _ (by simp), List.length_replicate, Nat.sub_self]
        congr 1
        rw [List.drop_eq_getElem_cons (show i < (numB m k).length by rw [numB_len]; omega), numB_get, show k - 1 - i = j by omega]
        rfl
      have cc := hown.cellAt i (by omega)
      rw [List.getElem?_eq_getElem (by simp; rw [numB_len]; omega)] at cc
      have ff := hown.frozenAt i
      replace hdv := Lib.hid hdv
      generalize (m / 256 ^ j) = q at hdv hlt hst hset ⊢
      clear hi
      go_wp2_with fail
      go_roundw
      case rel =>
        refine ⟨j + 1, i, by omega, rfl, by rw [hdv.out], ?_, hb.setCell (p := ⟨w.heap.size, i, none⟩) (Nat.le_refl _) _⟩
        rw [← hset.out]; exact hst.1
      case measure => simp [intOf]

end Go.Proofs.Ytfpoghhjpfkbaaa

namespace Go.Proofs.Ytfpoghhjpfkbaaa
set_option linter.unusedVariables false
open Go.RowKit

/-- Pairs of numbers as cells. -/
def prV : List (Nat × Nat) → List Value
  | [] => []
  | x :: l => .int .i64 (x.1 : Int) :: .int .i64 (x.2 : Int) :: prV l
theorem prV_len (l : List (Nat × Nat)) : (prV l).length = l.length * 2 := by
  induction l with
  | nil => rfl
  | cons r l ih => simp only [prV, List.length_cons, ih]; omega
theorem prV_get (l : List (Nat × Nat)) : ∀ (k : Nat) (hk : k < l.length), (prV l)[2 * k]? = some (.int .i64 (l[k].1 : Int)) ∧ (prV l)[2 * k + 1]? = some (.int .i64 (l[k].2 : Int)) := by
  induction l with
  | nil => intro k hk; simp at hk
  | cons r l ih =>
    intro k hk
    cases k with
    | zero => exact ⟨rfl, rfl⟩
    | succ k =>
      obtain ⟨h1, h2⟩ := ih k (by simpa using hk)
      rw [show 2 * (k + 1) = 2 * k + 1 + 1 by omega]
      exact ⟨by simpa [prV] using h1, by simpa [prV] using h2⟩
theorem rd_pr {w : World} {A : Option Addr} {l : List (Nat × Nat)} (h : Rd w A (prV l)) (hn : 0 < l.length) :
    ∃ b off, A = some ⟨b, off, none⟩ ∧ ∀ k (hk : k < l.length), w.cell? ⟨b, off + k * 2, none⟩ = some (.int .i64 (l[k].1 : Int)) ∧ w.cell? ⟨b, off + k * 2 + 1, none⟩ = some (.int .i64 (l[k].2 : Int)) := by
  obtain ⟨b, off, e, hc⟩ := rd_at h (by rw [prV_len]; omega)
  refine ⟨b, off, e, fun k hk => ?_⟩
  obtain ⟨h1, h2⟩ := prV_get l k hk
  exact ⟨hc _ _ (by rw [Nat.mul_comm]; exact h1), by rw [Nat.add_assoc]; exact hc _ _ (by rw [Nat.mul_comm]; exact h2)⟩
def fldB : List (Nat × Nat) → List UInt8
  | [] => []
  | x :: l => numB x.1 x.2 ++ fldB l
theorem fldB_append (a b : List (Nat × Nat)) : fldB (a ++ b) = fldB a ++ fldB b := by
  induction a with
  | nil => rfl
  | cons r a ih => simp only [List.cons_append, fldB, ih, List.append_assoc]
theorem fldB_take (l : List (Nat × Nat)) (k : Nat) (hk : k < l.length) : fldB (l.take (k + 1)) = fldB (l.take k) ++ numB l[k].1 l[k].2 := by
  rw [List.take_succ_eq_append_getElem hk, fldB_append]; simp [fldB]

set_option maxRecDepth 100000 in
set_option maxHeartbeats 3200000 in
theorem rfields_any (A : Option Addr) (n cap : Nat) (l : List (Nat × Nat)) (w : World) (hr : Rd w A (prV l)) (hn : l.length = n) (hn2 : n ≤ 1000) (hok : ∀ x ∈ l, x.1 < 9223372036854775808 ∧ x.2 ≤ 8) :
    Calls Try.prog 64 #[.slice A n cap] w fun e w' =>
      ∃ v, e = .returned v ∧ w'.ownsRow w.heap.size 5 1 v (fldB l).length ((fldB l).map u8v) ∧ Below w.heap.size w w' := by
  have S := (St.start w).read hr
  replace hok := Lib.hid hok
  clear hr
  replace hn := Lib.hid hn
  go_enter Try.func64, Try.ntmps64
  go_wp2_with fail
  go_loopw [3, 4] (fun v3 v4 wr => ∃ (k N : Nat), k ≤ n ∧ v4 = .int .i64 k ∧ N ≤ 8 * k ∧ wr.ownsRow w.heap.size 5 1 v3 N ((fldB (l.take k)).map u8v) ∧ St w wr [] [(A, prV l)]) (fun v3 v4 _ => n - (intOf v4).toNat)
  case atStart => exact ⟨0, 0, by omega, rfl, by omega, World.ownsRow_nil _ _ _ _, S⟩
  case round =>
    clear S
    obtain ⟨k, N, hk, rfl, hN, hown, S⟩ := hrel
    by_cases hkn : k < n
    · have hkl : k < l.length := by have := hn.out; omega
      obtain ⟨b, off, rfl, hcells⟩ := rd_pr (S.r 0 rfl) (by omega)
      obtain ⟨c0, c1⟩ := hcells k hkl
      have hx := hok.out l[k] (List.getElem_mem hkl)
      have htk := fldB_take l k hkl
      clear hcells
      generalize l[k] = x at c0 c1 hx htk
      obtain ⟨m, z⟩ := x
      simp only at c0 c1 hx htk
      obtain ⟨hm, hz⟩ := hx
      replace htk := Lib.hid htk
      have hsz := S.b.size
      go_wp2_with fail
      have hm2 : m < 18446744073709551616 := by omega
      have hwx : IntKind.u64.wrap (m : Int) = (m : Int) := by rw [IntKind.wrap_u64]; omega
      have f1 : ((numB m z).map u8v).length = z * 1 := by simp [numB_len]
      have f2 : N + z ≤ maxLen := by simp only [maxLen]; omega
      have f3 : (N + z) * 1 ≤ 140737488355328 := by omega
      obtain ⟨e0, e1⟩ : w.cell? ⟨b, off + k * 2, none⟩ = some (.int .i64 (m : Int)) ∧ w.cell? ⟨b, off + k * 2 + 1, none⟩ = some (.int .i64 (z : Int)) := by
        obtain ⟨ad, had, hlt⟩ := (S.rd 0 _ rfl).block (by rw [prV_len]; omega)
        injection had with had
        subst had
        exact ⟨(S.b.cell (p := ⟨b, off + k * 2, none⟩) hlt).symm.trans c0, (S.b.cell (p := ⟨b, off + k * 2 + 1, none⟩) hlt).symm.trans c1⟩
      replace f1 := Lib.hid f1
      have tok1 : True := trivial
      go_region_held3 (fun w' => w'.cell? ⟨b, off + k * 2, none⟩ = some (.int .i64 (m : Int)) ∧ w'.cell? ⟨b, off + k * 2 + 1, none⟩ = some (.int .i64 (z : Int))) (first | assumption | go_keep)
        (first
          | (clear tok1; go_at_call 68; (with_reducible refine (number_any m z _ hm2 hz).mono ?_); rintro e w1 ⟨v1, rfl, hown1, hb1⟩; obtain ⟨A1, k1, rfl, rd1, _, _⟩ := own_rd hown1; have d0 := cell_later hb1 c0; have d1 := cell_later hb1 c1)
          | (have o1 := own_below (show wr.drew.ownsRow w.heap.size 5 1 u3 N ((fldB (l.take k)).map u8v) from hown) hb1; have s1 := Nat.le_trans hsz hb1.size; refine step_appG (o := ⟨some 24, _, _, _, _, _⟩) rfl bytesT (.tmp 11) (.tmp 23) (by rfl) w.heap.size (by rfl) o1 (by rfl) f1.out rd1 (u8v_one _) f2 f3 s1 (N + z) ((fldB (l.take (k + 1))).map u8v) rfl (by rw [htk.out, List.map_append]) ?_; intro v2 w2 hown2 hbel2 hgr2; have bb := (S.drew.b.trans (hb1.mono hsz)).trans hbel2; have d2 := cell_later bb e0; have d3 := cell_later bb e1))
      clear hown1 rd1 hb1 hbel2 hgr2 o1 s1 d0 d1 d2 d3 hown c0 c1
      replace bb : St w w2 [] [(some ⟨b, off, none⟩, prV l)] := ⟨bb, by simp, S.rd⟩
      go_wp2_with fail
      go_roundw
      case rel => exact ⟨k + 1, N + z, by omega, by go_num, by omega, hown2, bb⟩
      case measure => simp [intOf]; omega
    · obtain rfl : k = n := by omega
      rw [List.take_of_length_le (by have := hn.out; omega)] at hown
      go_wp2_with fail
      go_ret
      exact ⟨_, rfl, by have := hown.1; rw [List.length_map, Nat.mul_one] at this; rw [this]; exact hown, S.b⟩

end Go.Proofs.Ytfpoghhjpfkbaaa

namespace Go.Proofs.Ytfpoghhjpfkbaaa
set_option linter.unusedVariables false
open Go.RowKit

set_option maxHeartbeats 400000 in
theorem refSum_any (A : Option Addr) (n cap : Nat) (bs : List UInt8) (w : World) (hb : Bs w A bs) (hn : bs.length = n) (hl : n ≤ 1000000000) :
    Calls Try.prog 69 #[.slice A n cap] w fun e w' => e = .returned (.tuple #[.int .i64 (fl1 bs), .int .i64 (fl2 bs)]) ∧ w = w' := by
  subst hn
  go_enter Try.func69, Try.ntmps69
  go_wp2
  go_loop [4, 5, 6] (fun v0 v1 v16 => ∃ (k : Nat) (f s : Int), k ≤ bs.length ∧ 0 ≤ f ∧ f < 255 ∧ 0 ≤ s ∧ s < 255 ∧ v16 = .int .i64 k ∧ v0 = .int .i64 f ∧ v1 = .int .i64 s ∧
    Hid (f = sm (bs.take k) % 255) ∧ Hid (s = (wt (bs.take k) + ((bs.length : Int) - k) * sm (bs.take k)) % 255)) (fun _ _ i => bs.length - (intOf i).toNat)
  case atStart => exact ⟨0, 0, 0, Nat.zero_le _, by omega, by omega, by omega, by omega, rfl, rfl, rfl, by simp [sm, Hid], by simp [sm, wt, Hid]⟩
  case round =>
    obtain ⟨k, f, s, hk, hf0, hf1, hs0, hs1, rfl, rfl, rfl, HF, HS⟩ := hrel
    by_cases hlt : k < bs.length
    · obtain ⟨ad, rfl, hc⟩ := hb.get hlt
      have hb1 := bs[k].toNat_lt
      have b5 : 0 ≤ ((bs.length : Int) - k) % 255 ∧ ((bs.length : Int) - k) % 255 < 255 := by omega
      have b6 : 0 ≤ ((bs.length : Int) - k) % 255 * (bs[k].toNat : Int) ∧ ((bs.length : Int) - k) % 255 * (bs[k].toNat : Int) ≤ 254 * 255 :=
        ⟨Int.mul_nonneg b5.1 (by omega), Int.mul_le_mul (by omega) (by omega) (by omega) (by omega)⟩
      go_wp2
      go_round
      case rel =>
        refine ⟨k + 1, _, _, by omega, ?_, ?_, ?_, ?_, by go_num, rfl, rfl, ?_, ?_⟩
        · omega
        · omega
        · omega
        · omega
        · rw [HF.out, sm_take bs hlt]; show _ % 255 = _ % 255; omega
        · rw [HS.out, wt_take bs hlt, sm_take bs hlt]; show _ % 255 = _ % 255
          generalize sm (bs.take k) = S
          generalize wt (bs.take k) = T
          generalize (bs[k].toNat : Int) = b
          generalize hd : (bs.length : Int) - k = d
          have e : (bs.length : Int) - ((k + 1 : Nat) : Int) = d - 1 := by omega
          rw [e, Int.sub_mul, Int.mul_add, Int.add_emod, Int.emod_emod, ← Int.add_emod, Int.add_emod, Int.mul_emod, Int.emod_emod, ← Int.mul_emod, ← Int.add_emod]
          congr 1; omega
      case measure => simp [intOf]; omega
    · go_wp2
      go_ret2
      obtain rfl : k = bs.length := by omega
      rw [List.take_length] at HF HS
      refine ⟨ret2 HF.out ?_, rfl⟩
      rw [HS.out, Int.sub_self]; simp [fl2]

end Go.Proofs.Ytfpoghhjpfkbaaa

namespace Go.Proofs.Ytfpoghhjpfkbaaa
set_option linter.unusedVariables false
open Go.RowKit

theorem seal_id (s L x y M f p q : Int) (hy : y = -f - x + 255*q) (hL : L = M + 1 - 255*p) : s + L*x + (L+254)*y = (s + x - M*f) + 255*(-p*x + (1-p)*(-f-x) + (M+255-255*p)*q) := by
  subst hy hL
  grind
/-- The reference's test: only one pair of bytes passes. -/
theorem seal_test (bs : List UInt8) (k : Nat) (x : Int) (h0 : 0 ≤ x) (h1 : x < 255) :
    (((fl2 (zeroed bs k) + ((bs.length : Int) - k) % 255 * x + (((bs.length : Int) - k) % 255 + 254) * ((510 - fl1 (zeroed bs k) - x) % 255)) % 255 == 0) = true) ↔ x = sealX bs k := by
  rw [beq_iff_eq]
  unfold sealX
  generalize fl1 (zeroed bs k) = f
  generalize fl2 (zeroed bs k) = s
  generalize hd : (bs.length : Int) - k = d
  obtain ⟨q, hq⟩ : ∃ q, (510 - f - x) % 255 = -f - x + 255 * q := ⟨2 - (510 - f - x) / 255, by omega⟩
  obtain ⟨p, hp⟩ : ∃ p, d % 255 = (d - 1) % 255 + 1 - 255 * p := ⟨((d - 1) % 255 + 1 - d % 255) / 255, by omega⟩
  rw [seal_id s (d % 255) x _ ((d - 1) % 255) f p q hq hp]
  generalize (d - 1) % 255 * f = z
  generalize -p * x + (1 - p) * (-f - x) + ((d - 1) % 255 + 255 - 255 * p) * q = u
  omega
theorem sealY_eq (bs : List UInt8) (k : Nat) : (510 - fl1 (zeroed bs k) - sealX bs k) % 255 = sealY bs k := by
  unfold sealY; omega

set_option maxRecDepth 100000 in
set_option maxHeartbeats 1600000 in
theorem rseal_any (A : Option Addr) (n cap k : Nat) (bs : List UInt8) (w : World) (hb : Bs w A bs) (hn : bs.length = n) (hl : n ≤ 1000000000) (hk : k + 2 ≤ n) (at_ : Int) (hat : at_ = k) :
    Calls Try.prog 66 #[.slice A n cap, .int .i64 at_] w fun e w' => ∃ v, e = .returned v ∧
      w'.ownsRow w.heap.size 5 1 v n ((sealed bs k).map u8v) ∧ Below w.heap.size w w' := by
  subst hn
  subst hat
  have hown0 := own_empty w 5 1
  have hba := below_new w (.cells #[] 5)
  have rd1 := hb.below hba
  go_enter Try.func66, Try.ntmps66
  go_wp2_with (at_builtin; refine wpList_app rfl bytesT (.tmp 11) (.tmp 12) rfl w.heap.size rfl hown0 (m := bs.length) rfl (by simp) rd1 (u8v_one _) (by simp only [maxLen]; omega) (by omega) hba.size bs.length (bs.map u8v) (by omega) (by simp) ?_; intro v1 w1 hown hbel0; have hbel := hba.trans hbel0; obtain ⟨g, c1, rfl, hg1, hg2, hown1⟩ := own_form hown (by omega); have hc0 := own_u8 hown1 (k := k) (by omega); have hc1 := own_u8 hown1 (k := k + 1) (by omega); have hf0 := hown1.frozenAt k; have hf1 := hown1.frozenAt (k + 1))
  have hown3 := ((hown1.stored k (.int .u8 0)).1.stored (k + 1) (.int .u8 0)).1
  have hbel3 := (hbel.setCell (p := ⟨g, k, none⟩) hg1 (.int .u8 0)).setCell (p := ⟨g, k + 1, none⟩) hg1 (.int .u8 0)
  generalize (w1.setCell ⟨g, k, none⟩ (.int .u8 0)).setCell ⟨g, k + 1, none⟩ (.int .u8 0) = w2 at hown3 hbel3 ⊢
  rw [show ((bs.map u8v).set k (.int .u8 0)).set (k + 1) (.int .u8 0) = (zeroed bs k).map u8v from by simp [zeroed, List.map_set, u8v]] at hown3
  clear hown1 hown hbel hbel0 hc0 hc1 hf0 hf1 hown0 hba rd1
  have hlz : (zeroed bs k).length = bs.length := by simp [zeroed]
  obtain ⟨A3, c3, he3, hrd, _, _⟩ := own_rd hown3
  simp only [Value.slice.injEq, true_and] at he3
  obtain ⟨rfl, rfl⟩ := he3
  have SU := refSum_any _ _ c1 (zeroed bs k) w2 hrd hlz hl
  (with_reducible refine SU.mono ?_)
  rintro e w' ⟨rfl, rfl⟩
  have b1 := fl1_bd (zeroed bs k)
  have b2 := fl2_bd (zeroed bs k)
  have b3 := sealX_bd bs k
  have b4 := sealY_bd bs k
  have hT : Hid (∀ x : Int, 0 ≤ x → x < 255 → _) := fun x h0 h1 => seal_test bs k x h0 h1
  have hY : Hid _ := sealY_eq bs k
  obtain ⟨z0, hc0⟩ : ∃ z, w2.cell? ⟨g, k, none⟩ = some z := ⟨_, own_u8 hown3 (k := k) (by omega)⟩
  obtain ⟨z1, hc1⟩ : ∃ z, w2.cell? ⟨g, k + 1, none⟩ = some z := ⟨_, own_u8 hown3 (k := k + 1) (by omega)⟩
  have hf0 := hown3.frozenAt k
  have hf1 := hown3.frozenAt (k + 1)
  have b0 : (0 : Int) ≤ (bs.length : Int) - k := by omega
  clear SU hlz hrd
  have hfin : Hid (∃ v, Value.slice (some ⟨g, 0, none⟩) bs.length c1 = v ∧ ((w2.setCell ⟨g, k, none⟩ (.int .u8 (sealX bs k))).setCell ⟨g, k + 1, none⟩ (.int .u8 (sealY bs k))).ownsRow w.heap.size 5 1 v bs.length ((sealed bs k).map u8v) ∧ Below w.heap.size w ((w2.setCell ⟨g, k, none⟩ (.int .u8 (sealX bs k))).setCell ⟨g, k + 1, none⟩ (.int .u8 (sealY bs k)))) := by
    have hown4 := ((hown3.stored k (.int .u8 (sealX bs k))).1.stored (k + 1) (.int .u8 (sealY bs k))).1
    rw [show (((zeroed bs k).map u8v).set k (.int .u8 (sealX bs k))).set (k + 1) (.int .u8 (sealY bs k)) = (sealed bs k).map u8v from by
      simp [sealed, List.map_set, u8_ofInt b3.1 (by omega : sealX bs k < 256), u8_ofInt b4.1 (by omega : sealY bs k < 256)]] at hown4
    exact ⟨_, rfl, hown4, (hbel3.setCell (p := ⟨g, k, none⟩) hg1 _).setCell (p := ⟨g, k + 1, none⟩) hg1 _⟩
  generalize fl1 (zeroed bs k) = f at *
  generalize fl2 (zeroed bs k) = s at *
  generalize sealX bs k = X at *
  generalize sealY bs k = Y at *
  have b5 : 0 ≤ ((bs.length : Int) - k) % 255 ∧ ((bs.length : Int) - k) % 255 < 255 := by omega
  go_wp2_with fail
  generalize ((bs.length : Int) - k) % 255 = L at *
  go_loop [9] (fun v9 => ∃ x : Nat, v9 = .int .i64 x ∧ (x : Int) ≤ X) (fun v9 => (X + 1 - intOf v9).toNat)
  case atStart => exact ⟨0, rfl, by omega⟩
  case round =>
    obtain ⟨x, rfl, hx⟩ := hrel
    have hx255 : (x : Int) < 255 := by omega
    have b6 : 0 ≤ L * (x : Int) ∧ L * (x : Int) ≤ 254 * 254 := ⟨Int.mul_nonneg b5.1 (by omega), Int.mul_le_mul (by omega) (by omega) (by omega) (by omega)⟩
    have b7 : 0 ≤ (510 - f - (x : Int)) % 255 ∧ (510 - f - (x : Int)) % 255 < 255 := by omega
    have b8 : 0 ≤ (L + 254) * ((510 - f - (x : Int)) % 255) ∧ (L + 254) * ((510 - f - (x : Int)) % 255) ≤ 508 * 254 := ⟨Int.mul_nonneg (by omega) b7.1, Int.mul_le_mul (by omega) (by omega) b7.1 (by omega)⟩
    have hTx := hT.out x (by omega) hx255
    by_cases hxx : (x : Int) = X
    · have ht := hTx.2 hxx
      subst hxx
      obtain rfl := hY.out
      clear hTx hT hY
      go_wp2_with fail
      obtain ⟨v, hv, hv2⟩ := hfin.out
      subst hv
      clear hfin
      go_ret
      exact ⟨_, rfl, hv2⟩
    · have ht : ¬ _ := fun h => hxx (hTx.1 h)
      rw [Bool.not_eq_true] at ht
      clear hTx
      go_wp2_with fail
      go_round
      case rel => exact ⟨x + 1, by go_num, by omega⟩
      case measure => simp [intOf]; omega

end Go.Proofs.Ytfpoghhjpfkbaaa

namespace Go.Proofs.Ytfpoghhjpfkbaaa
set_option linter.unusedVariables false
open Go.RowKit

set_option maxHeartbeats 4000000 in
theorem rcencode_any (A : Option Addr) (n cap : Nat) (l : List Rc) (w : World) (hr : Rd w A (recV l)) (hok : ∀ r ∈ l, RcOk w r) (hn : l.length = n) (hn2 : n ≤ 1000000) :
    Calls Try.prog 65 #[.slice A n cap] w fun e w' =>
      ∃ v, e = .returned (.tuple #[v, .int .i64 (encE (l.map dat))]) ∧ w'.ownsRow w.heap.size 5 1 v (encR (l.map dat)).length ((encR (l.map dat)).map u8v) ∧ Below w.heap.size w w' := by
  subst hn
  obtain ⟨E, hE⟩ : ∃ E, encE (l.map dat) = E := ⟨_, rfl⟩
  obtain ⟨R, hR⟩ : ∃ R, encR (l.map dat) = R := ⟨_, rfl⟩
  rw [hE, hR]
  have hF : Hid (encE ((l.drop 0).map dat) = E) := hE
  have hR0 : Hid (E = 0 → R = encAll (l.map dat)) := fun h => by rw [← hR]; unfold encR; rw [hE, if_pos h]
  have hR1 : Hid (E ≠ 0 → R = []) := fun h => by rw [← hR]; unfold encR; rw [hE, if_neg h]
  clear hE hR
  have S := (St.start w).read hr
  replace hok := Lib.hid hok
  clear hr
  go_enter Try.func65, Try.ntmps65
  go_wp2_with fail
  go_loopw [4, 5] (fun v4 v9 wr => ∃ (k N : Nat), k ≤ l.length ∧ v9 = .int .i64 k ∧ N ≤ 65538 * k ∧ wr.ownsRow w.heap.size 5 1 v4 N ((encAll ((l.take k).map dat)).map u8v) ∧ Hid (encE ((l.drop k).map dat) = E) ∧ St w wr [] [(A, recV l)]) (fun v4 v9 _ => l.length - (intOf v9).toNat)
  case atStart => exact ⟨0, 0, by omega, rfl, by omega, World.ownsRow_nil _ _ _ _, hF, S⟩
  case round =>
    clear S hF
    obtain ⟨k, N, hk, rfl, hN, hown, hfe, S⟩ := hrel
    by_cases hkn : k < l.length
    · obtain ⟨b, off, rfl, c0, c1⟩ := rd_recs (S.r 0 rfl) hkn
      have hstep := encE_drop l k hkn
      have hall := encAll_take l k hkn
      have hrk := hok.out l[k] (List.getElem_mem hkn)
      rw [hfe.out] at hstep
      generalize l[k] = r at c0 c1 hstep hall hrk
      obtain ⟨t, B, m, c, bs⟩ := r
      obtain ⟨rd, hl, hnc, hcm⟩ := hrk
      simp only at rd hl hnc hcm hstep c0 c1
      rw [hl] at hstep
      replace hall := Lib.hid hall
      replace hl := Lib.hid hl
      clear hfe
      by_cases h1 : t < 1
      · rw [if_pos (.inl h1)] at hstep
        obtain rfl : E = 1 := hstep
        obtain rfl := hR1.out (by omega)
        go_wp2_with fail
        go_ret2
        exact ⟨_, rfl, World.ownsRow_nil _ _ _ _, S.b⟩
      by_cases h2 : 255 < t
      · rw [if_pos (.inr h2)] at hstep
        obtain rfl : E = 1 := hstep
        obtain rfl := hR1.out (by omega)
        go_wp2_with fail
        go_ret2
        exact ⟨_, rfl, World.ownsRow_nil _ _ _ _, S.b⟩
      rw [if_neg (by omega)] at hstep
      by_cases h3 : 65535 < m
      · rw [if_pos h3] at hstep
        obtain rfl : E = 6 := hstep
        obtain rfl := hR1.out (by omega)
        go_wp2_with fail
        go_ret2
        exact ⟨_, rfl, World.ownsRow_nil _ _ _ _, S.b⟩
      rw [if_neg h3] at hstep
      have hE3 : Hid (encE ((l.drop (k + 1)).map dat) = E) := hstep.symm
      clear hstep
      have hal : Hid (List.map u8v (encAll ((l.take k).map dat)) ++ [.int .u8 t, .int .u8 ((m : Int) / 256), .int .u8 ((m : Int) % 256)] ++ bs.map u8v = List.map u8v (encAll ((l.take (k + 1)).map dat))) := by
        show _ = _
        rw [hall.out, List.map_append, List.append_assoc]
        congr 1
        simp only [enc1, dat, hl.out, List.map_append, List.map_cons, List.map_nil]
        have e1 : u8v (UInt8.ofNat t.toNat) = .int .u8 t := u8_ofInt (by omega) (by omega)
        have e2 : u8v (UInt8.ofNat (m / 256)) = .int .u8 ((m : Int) / 256) := by
          rw [← u8_wrap, IntKind.wrap_u8]; congr 1; omega
        have e3 : u8v (UInt8.ofNat m) = .int .u8 ((m : Int) % 256) := by
          rw [← u8_wrap, IntKind.wrap_u8]
        rw [e1, e2, e3]
      have hb1 := below_new' wr (.cells #[.int .u8 t, .int .u8 ((m : Int) / 256), .int .u8 ((m : Int) % 256)] 5)
      have hown1 := own_below hown hb1
      have rd0 := Rd.lit wr #[.int .u8 t, .int .u8 ((m : Int) / 256), .int .u8 ((m : Int) % 256)] 5
      rw [Array.toList] at rd0
      have S1 := S.call hb1
      have hsz := S1.b.size
      have hbk := (S.rd 0 _ rfl).block (by rw [recV_len]; omega)
      have d1 : w.cell? ⟨b, off + k * 2 + 1, none⟩ = some (.slice B m c) := by
        obtain ⟨ad, had, hlt⟩ := hbk
        injection had with had
        subst had
        exact (S.b.cell (p := ⟨b, off + k * 2 + 1, none⟩) hlt).symm.trans c1
      clear hown hall hbk
      go_wp2_with (first
        | (at_builtin; refine wpList_app rfl bytesT (.tmp 35) (.tmp 48) rfl w.heap.size rfl hown1 (m := 3) rfl (by simp) rd0 (by simp [Value.oneCell']) (by simp only [maxLen]; omega) (by omega) hsz (N + 3) _ (by omega) rfl ?_; intro v3 w3 hown3 hbel3; have hb3 := S1.b.trans hbel3; have x1 := cell_later hb3 d1; have rd2 := rd.below hb3; replace S : St w w3 [] [(some ⟨b, off, none⟩, recV l)] := ⟨hb3, by simp, S.rd⟩; clear hown1 rd0 S1 hb1 hsz hbel3)
        | (at_builtin; refine wpList_app rfl bytesT (.tmp 50) (.tmp 55) rfl w.heap.size rfl hown3 (m := m) rfl (by simp [hl.out]) rd2 (u8v_one _) (by simp only [maxLen]; omega) (by omega) hb3.size (N + 3 + m) _ (by omega) hal.out ?_; intro v4 w4 hown4 hbel4))
      replace S : St w w4 [] [(some ⟨b, off, none⟩, recV l)] := ⟨hb3.trans hbel4, by simp, S.rd⟩
      go_roundw
      case rel => exact ⟨k + 1, N + 3 + m, by omega, by go_num, by omega, hown4, hE3, S⟩
      case measure => simp [intOf]; omega
    · obtain rfl : k = l.length := by omega
      obtain rfl : E = 0 := by rw [← hfe.out, List.drop_length]; rfl
      obtain rfl := hR0.out rfl
      rw [List.take_length] at hown
      go_wp2_with fail
      go_ret2
      refine ⟨_, rfl, ?_, S.b⟩
      have := hown.1
      rw [List.length_map, Nat.mul_one] at this
      rw [this]
      exact hown

end Go.Proofs.Ytfpoghhjpfkbaaa
