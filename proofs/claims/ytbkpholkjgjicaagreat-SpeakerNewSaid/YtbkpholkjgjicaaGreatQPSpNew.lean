/-
  The statement SpeakerNew: for every input that can be read, the law returns true and leaves its arguments as they were. No condition.
-/
import Derived.Test.YtbkpholkjgjicaaGreatQPSpNew3
import Derived.Test.YtbkpholkjgjicaaGreatQPSpNew2
import Derived.Test.YtbkpholkjgjicaaGreatQPSpNew1
import Derived.Test.YtbkpholkjgjicaaGreatTpArg
namespace Go.Proofs.YtbkpholkjgjicaaGreat
set_option linter.unusedVariables false
open Go.RowKit Go.Maps Go.Sort

set_option maxRecDepth 100000 in
set_option maxHeartbeats 1600000 in
theorem srecv_nil (w : World) : Calls Tryz.prog 6 #[.pointer none, .int .i64 0, .slice none 0 0] w fun e w' => e = .returned (.tuple #[.slice none 0 0, .int .i64 7]) ∧ Below w.heap.size w w' := by
  have hB := Below.refl w.heap.size w
  go_enter Tryz.func6, Tryz.ntmps6
  go_wp2_with fail
  go_ret2
  exact ⟨rfl, by first | exact hB | exact hB.alloc (Nat.le_refl _) _⟩
set_option maxRecDepth 100000 in
set_option maxHeartbeats 1600000 in
theorem sfail_nil (w : World) : Calls Tryz.prog 8 #[.pointer none, .int .i64 0] w fun e w' => e = .returned (.int .i64 7) ∧ Below w.heap.size w w' := by
  have hB := Below.refl w.heap.size w
  go_enter Tryz.func8, Tryz.ntmps8
  go_wp2_with fail
  go_ret
  exact ⟨rfl, by first | exact hB | exact hB.alloc (Nat.le_refl _) _⟩
set_option maxRecDepth 100000 in
set_option maxHeartbeats 1600000 in
theorem sover_nil (w : World) : Calls Tryz.prog 9 #[.pointer none, .bool true] w fun e w' => e = .returned (.int .i64 7) ∧ Below w.heap.size w w' := by
  have hB := Below.refl w.heap.size w
  go_enter Tryz.func9, Tryz.ntmps9
  go_wp2_with fail
  go_ret
  exact ⟨rfl, by first | exact hB | exact hB.alloc (Nat.le_refl _) _⟩
set_option maxRecDepth 100000 in
set_option maxHeartbeats 1600000 in
theorem scost_nil (w : World) : Calls Tryz.prog 10 #[.pointer none, .int .i64 0, .int .i64 1] w fun e w' => e = .returned (.int .i64 7) ∧ Below w.heap.size w w' := by
  have hB := Below.refl w.heap.size w
  go_enter Tryz.func10, Tryz.ntmps10
  go_wp2_with fail
  go_ret
  exact ⟨rfl, by first | exact hB | exact hB.alloc (Nat.le_refl _) _⟩
set_option maxRecDepth 100000 in
set_option maxHeartbeats 1600000 in
theorem spref_nil (w : World) : Calls Tryz.prog 11 #[.pointer none, .slice none 0 0] w fun e w' => e = .returned (.int .i64 7) ∧ Below w.heap.size w w' := by
  have hB := Below.refl w.heap.size w
  go_enter Tryz.func11, Tryz.ntmps11
  go_wp2_with fail
  go_ret
  exact ⟨rfl, by first | exact hB | exact hB.alloc (Nat.le_refl _) _⟩
set_option maxRecDepth 100000 in
set_option maxHeartbeats 1600000 in
theorem sup_nil (w : World) : Calls Tryz.prog 12 #[.pointer none, .int .i64 0] w fun e w' => e = .returned (.bool false) ∧ Below w.heap.size w w' := by
  have hB := Below.refl w.heap.size w
  go_enter Tryz.func12, Tryz.ntmps12
  go_wp2_with fail
  go_ret
  exact ⟨rfl, by first | exact hB | exact hB.alloc (Nat.le_refl _) _⟩
set_option maxRecDepth 100000 in
set_option maxHeartbeats 1600000 in
theorem sdata_nil (w : World) : Calls Tryz.prog 13 #[.pointer none] w fun e w' => e = .returned (.slice none 0 0) ∧ Below w.heap.size w w' := by
  have hB := Below.refl w.heap.size w
  go_enter Tryz.func13, Tryz.ntmps13
  go_wp2_with fail
  go_ret
  exact ⟨rfl, by first | exact hB | exact hB.alloc (Nat.le_refl _) _⟩
set_option maxRecDepth 100000 in
set_option maxHeartbeats 1600000 in
theorem stick_nil (w : World) : Calls Tryz.prog 14 #[.pointer none] w fun e w' => e = .returned (.slice none 0 0) ∧ Below w.heap.size w w' := by
  have hB := Below.refl w.heap.size w
  go_enter Tryz.func14, Tryz.ntmps14
  go_wp2_with fail
  go_ret
  exact ⟨rfl, by first | exact hB | exact hB.alloc (Nat.le_refl _) _⟩
set_option maxRecDepth 100000 in
set_option maxHeartbeats 1600000 in
theorem sview_nil (w : World) : Calls Tryz.prog 7 #[.pointer none] w fun e w' => e = .returned (.tuple #[.agg #[.int .i64 0, .slice none 0 0, .slice none 0 0], .slice none 0 0]) ∧ Below w.heap.size w w' := by
  have S := (St.start w).new' #[.int .i64 0, .slice none 0 0, .slice none 0 0] 25 w.heap.size _ rfl rfl
  have hb9 := S.b
  have c0 := S.c 0 0 rfl rfl
  have c1 := S.c 0 1 rfl rfl
  have c2 := S.c 0 2 rfl rfl
  go_enter Tryz.func7, Tryz.ntmps7
  go_wp2_with fail
  exact bodyPost_ret (v := .tuple #[.agg #[.int .i64 0, .slice none 0 0, .slice none 0 0], .slice none 0 0]) (by simp [results, Tryz.results7, go_sem]) rfl ⟨rfl, hb9⟩
theorem one_org : ∀ k : _root_.Fin 64, (((List.range 64).map fun (i : Nat) => (i : Int)).filter fun i => decide (i.toNat = k.val)) = [(k.val : Int)] := by decide +kernel
def DataPost (w : World) (x : La) (e : Ending) (w' : World) : Prop :=
  ∃ k c, e = .returned (.slice (some ⟨k, 0, none⟩) 1 c) ∧ w'.cell? ⟨k, 0, none⟩ = some (.int .i64 x.o) ∧ w'.cell? ⟨k, 1, none⟩ = some (.int .i64 x.s) ∧ Below w.heap.size w w'
theorem orgs_inst0 (node : Int) (ov : Bool) (h0 : 0 ≤ node) (h1 : node ≤ 63) : orgs (instN Db0 (laO node ov)) = [node] ∧ DbOk (instN Db0 (laO node ov)) := by
  have hv := vB_t (laO_valid h0 h1 ov)
  have e : instN Db0 (laO node ov) = fun i => if i = node.toNat then some ⟨laO node ov, 60⟩ else none := by
    unfold instN
    rw [if_pos ⟨hv, by simp [instR, hv]⟩]
    rfl
  refine ⟨?_, fun i h hi => ?_⟩
  · have := one_org ⟨node.toNat, by omega⟩
    simp only at this
    rw [show ((node.toNat : Nat) : Int) = node by omega] at this
    rw [← this]
    unfold orgs
    refine List.filter_congr fun i _ => ?_
    rw [e]
    dsimp only
    split <;> simp_all
  · rw [e] at hi
    dsimp only at hi
    split at hi
    · rename_i hn
      injection hi with hi
      subst hi
      exact ⟨laO_valid h0 h1 ov, by simp only [laO]; omega, by simp, by simp⟩
    · cases hi
set_option maxRecDepth 100000 in
set_option maxHeartbeats 1600000 in
theorem sdata0_any (w : World) (g gd bd : Nat) (node : Int) (ov : Bool) (h0 : 0 ≤ node) (h1 : node ≤ 63) (hc : w.cell? ⟨g, 12, none⟩ = some (.pointer (some ⟨gd, 0, none⟩))) (hD : DbAt w gd bd (instN Db0 (laO node ov))) :
    Calls Tryz.prog 13 #[.pointer (some ⟨g, 0, none⟩)] w (DataPost w (laO node ov)) := by
  obtain ⟨eo, hok⟩ := orgs_inst0 node ov h0 h1
  have AL := Lib.hid (dall_any w gd bd _ hD hok)
  clear hD hok
  replace eo := Lib.hid eo
  go_enter Tryz.func13, Tryz.ntmps13
  go_wp2_with fail
  (with_reducible refine (AL.out).mono ?_)
  rintro e w1 ⟨A, c, ls, rfl, ho, hl, hlo, hb⟩
  have hf : DataPost w (laO node ov) (.returned (.slice A (orgs (instN Db0 (laO node ov))).length c)) w1 := by
    have e1 : getX (instN Db0 (laO node ov) node.toNat) = laO node ov := by
      unfold instN
      rw [if_pos ⟨vB_t (laO_valid h0 h1 ov), by simp [instR, vB_t (laO_valid h0 h1 ov)]⟩]
      simp [laO, getX]
    unfold allN at hl
    rw [eo.out, List.map_singleton, e1] at hl
    rw [eo.out] at ho ⊢
    match ls, hl with
    | [s], hl =>
      simp only [laL, List.map_cons, List.map_nil, List.cons.injEq, and_true] at hl
      obtain ⟨k, cap, e2, -, -, ho2⟩ := own_form ho (by simp)
      injection e2 with e3 _ e4
      subst e3 e4
      have hr := (own_rdp ho2).1
      have hy := congrArg La.o hl
      have hz := congrArg La.s hl
      exact ⟨k, c, rfl, by rw [← hy]; exact hr.at 0 rfl, by rw [← hz]; exact hr.at 1 rfl, hb⟩
  replace hf := Lib.hid hf
  clear AL ho hl hlo
  go_wp2_with fail
  go_ret
  exact hf.out
end Go.Proofs.YtbkpholkjgjicaaGreat

namespace Go.Proofs.YtbkpholkjgjicaaGreat
set_option linter.unusedVariables false
open Go.RowKit Go.Maps Go.Sort

set_option maxRecDepth 100000 in
set_option maxHeartbeats 3200000 in
theorem timed_any (w : World) (h1 h2 h3 : Int) : Calls Tryz.prog 16 #[.agg #[.int .i64 h1, .int .i64 h2, .int .i64 h3]] w fun e w' => e = .returned (.bool (tmB h1 h2 h3)) ∧ Below w.heap.size w w' := by
  have S := (St.start w).new' #[.int .i64 h1, .int .i64 h2, .int .i64 h3] 28 w.heap.size _ rfl rfl
  have hb9 := S.b
  have c0 := S.c 0 0 rfl rfl
  have c1 := S.c 0 1 rfl rfl
  have c2 := S.c 0 2 rfl rfl
  go_enter Tryz.func16, Tryz.ntmps16
  go_wp2_with fail
  all_goals
    go_ret
    exact ⟨ret_bool (Bool.eq_iff_iff.2 (by simp [tmB, wiB] <;> omega)), hb9⟩

set_option maxRecDepth 100000 in
set_option maxHeartbeats 12800000 in
theorem snew_law (w : World) (v : Value) (t : Tp) (ht : TpAt w v t) (node boot : Int) (hp : (Lit.int .i64 node).wf = true) (hq : (Lit.int .i64 boot).wf = true) (h1 h2 h3 : Int) :
    Calls Tryz.prog 3 #[v, .agg #[.int .i64 node, .int .i64 boot], .agg #[.int .i64 h1, .int .i64 h2, .int .i64 h3]] w fun e w' => e = .returned (.bool true) ∧ Below w.heap.size w w' := by
  clear hp hq
  have ht' := ht
  obtain ⟨A, c, B, d, rfl, rA, rB, l1, l2⟩ := ht
  have S := (((St.start w).new' #[.int .i64 t.n, .slice A t.ov.length c, .slice B t.ln.length d] 25 w.heap.size _ rfl rfl).new' #[.int .i64 node, .int .i64 boot] 26 (w.heap.size + 1) _ (by simp) rfl).new' #[.int .i64 h1, .int .i64 h2, .int .i64 h3] 28 (w.heap.size + 2) _ (by simp) rfl
  have SN := fun W (hb : Below w.heap.size w W) => snew_any W _ t node boot h1 h2 h3 (ht'.below hb)
  have RV := fun W (hb : Below w.heap.size w W) => rtvalid_any W _ t (ht'.below hb)
  clear rA rB l1 l2 ht'
  replace SN := Lib.hid SN
  replace RV := Lib.hid RV
  have a0 := S.c 2 0 rfl rfl
  have a1 := S.c 2 1 rfl rfl
  have a2 := S.c 2 2 rfl rfl
  go_enter Tryz.func3, Tryz.ntmps3
  go_wp2_with fail
  (with_reducible refine (packs_any _).mono ?_)
  rintro e w1 ⟨rfl, hb⟩
  replace S := S.call hb
  clear hb
  clear a0 a1 a2
  have a0 := S.c 2 0 rfl rfl
  have a1 := S.c 2 1 rfl rfl
  have a2 := S.c 2 2 rfl rfl
  have b0 := S.c 1 0 rfl rfl
  have b1 := S.c 1 1 rfl rfl
  have c0 := S.c 0 0 rfl rfl
  have c1 := S.c 0 1 rfl rfl
  have c2 := S.c 0 2 rfl rfl
  have hb9 := S.b
  rcases e1 : decide ((70 : Int) < t.n) with _ | _
  rotate_left
  · go_wp2_with fail
    go_ret
    exact ⟨rfl, hb9⟩
  rcases e2 : decide ((70 : Int) < (t.ov.length : Int)) with _ | _
  rotate_left
  · go_wp2_with fail
    go_ret
    exact ⟨rfl, hb9⟩
  rcases e3 : decide ((300 : Int) < (t.ln.length : Int)) with _ | _
  rotate_left
  · go_wp2_with fail
    go_ret
    exact ⟨rfl, hb9⟩
  go_wp2_with fail
  clear e1 e2 e3 hb9
  (with_reducible refine (SN.out _ S.b).mono ?_)
  rintro e w2 hpost
  clear a0 a1 a2
  clear b0 b1
  clear c0 c1 c2
  clear SN
  unfold NewPost at hpost
  by_cases hall : tB t = true ∧ wiB boot 1 1073741824 = true ∧ tmB h1 h2 h3 = true
  · rcases hnd : ndB t.n node with _ | _
    · obtain ⟨rfl, hb⟩ := hpost.2.1 hall hnd
      have hn := ndB_f hnd
      replace S := S.call hb
      clear hpost hb
      obtain ⟨v1, v2, v3⟩ := hall
      replace v1 := Lib.hid v1
      replace v2 := Lib.hid v2
      replace v3 := Lib.hid v3
      go_wp2_with fail
      (with_reducible refine (srecv_nil _).mono ?_)
      rintro e w3 ⟨rfl, hb⟩
      replace S := S.call hb
      clear hb
      go_wp2_with fail
      (with_reducible refine (sview_nil _).mono ?_)
      rintro e w4 ⟨rfl, hb⟩
      replace S := S.call hb
      clear hb
      have hb := below_new' w4 (.cells #[.int .i64 0, .slice none 0 0, .slice none 0 0] 25)
      replace S := S.call hb
      clear hb
      go_wp2_with fail
      (with_reducible refine (sfail_nil _).mono ?_)
      rintro e w5 ⟨rfl, hb⟩
      replace S := S.call hb
      clear hb
      go_wp2_with fail
      (with_reducible refine (sover_nil _).mono ?_)
      rintro e w6 ⟨rfl, hb⟩
      replace S := S.call hb
      clear hb
      go_wp2_with fail
      (with_reducible refine (scost_nil _).mono ?_)
      rintro e w7 ⟨rfl, hb⟩
      replace S := S.call hb
      clear hb
      go_wp2_with fail
      (with_reducible refine (spref_nil _).mono ?_)
      rintro e w8 ⟨rfl, hb⟩
      replace S := S.call hb
      clear hb
      go_wp2_with fail
      (with_reducible refine (sup_nil _).mono ?_)
      rintro e w9 ⟨rfl, hb⟩
      replace S := S.call hb
      clear hb
      go_wp2_with fail
      (with_reducible refine (sdata_nil _).mono ?_)
      rintro e w10 ⟨rfl, hb⟩
      replace S := S.call hb
      clear hb
      go_wp2_with fail
      (with_reducible refine (stick_nil _).mono ?_)
      rintro e w11 ⟨rfl, hb⟩
      replace S := S.call hb
      clear hb
      have a0 := S.c 2 0 rfl rfl
      have a1 := S.c 2 1 rfl rfl
      have a2 := S.c 2 2 rfl rfl
      go_wp2_with fail
      (with_reducible refine (RV.out _ S.b).mono ?_)
      rintro e w12 ⟨rfl, hb⟩
      clear a0 a1 a2
      replace S := S.call hb
      clear hb
      clear RV
      have v1' := v1.out
      have c0 := S.c 0 0 rfl rfl
      have c1 := S.c 0 1 rfl rfl
      have c2 := S.c 0 2 rfl rfl
      go_wp2_with fail
      (with_reducible refine (timed_any _ h1 h2 h3).mono ?_)
      rintro e w13 ⟨rfl, hb⟩
      clear c0 c1 c2
      clear v1'
      replace S := S.call hb
      clear hb
      have v3' := v3.out
      have v2' := v2.out
      simp only [wiB, Bool.and_eq_true, decide_eq_true_eq] at v2'
      have e5 : decide (boot < 1) = false := by simp; omega
      have e6 : decide (1073741824 < boot) = false := by simp; omega
      clear v2'
      have b0 := S.c 1 0 rfl rfl
      have b1 := S.c 1 1 rfl rfl
      have a0 := S.c 2 0 rfl rfl
      have a1 := S.c 2 1 rfl rfl
      have a2 := S.c 2 2 rfl rfl
      have hb9 := S.b
      rcases e7 : decide (node < 0) with _ | _
      · have e8 : decide (t.n ≤ node) = true := by simp at e7 ⊢; omega
        go_wp2_with fail
        go_ret
        exact ⟨rfl, hb9⟩
      · go_wp2_with fail
        go_ret
        exact ⟨rfl, hb9⟩
    · obtain ⟨g, gd, bd, rfl, hc, hD, hb⟩ := hpost.1 hall hnd
      have hn := ndB_t hnd
      replace S := S.call hb
      clear hpost hb
      obtain ⟨v1, v2, v3⟩ := hall
      replace v1 := Lib.hid v1
      replace v2 := Lib.hid v2
      replace v3 := Lib.hid v3
      replace hD := hD.below (Below.refl _ _)
      go_wp2_with fail
      (with_reducible refine (srecv_nil _).mono ?_)
      rintro e w3 ⟨rfl, hb⟩
      replace S := S.call hb
      replace hc := cell_later hb hc
      replace hD := hD.below hb
      clear hb
      go_wp2_with fail
      (with_reducible refine (sview_nil _).mono ?_)
      rintro e w4 ⟨rfl, hb⟩
      replace S := S.call hb
      replace hc := cell_later hb hc
      replace hD := hD.below hb
      clear hb
      have hb := below_new' w4 (.cells #[.int .i64 0, .slice none 0 0, .slice none 0 0] 25)
      replace S := S.call hb
      replace hc := cell_later hb hc
      replace hD := hD.below hb
      clear hb
      go_wp2_with fail
      (with_reducible refine (sfail_nil _).mono ?_)
      rintro e w5 ⟨rfl, hb⟩
      replace S := S.call hb
      replace hc := cell_later hb hc
      replace hD := hD.below hb
      clear hb
      go_wp2_with fail
      (with_reducible refine (sover_nil _).mono ?_)
      rintro e w6 ⟨rfl, hb⟩
      replace S := S.call hb
      replace hc := cell_later hb hc
      replace hD := hD.below hb
      clear hb
      go_wp2_with fail
      (with_reducible refine (scost_nil _).mono ?_)
      rintro e w7 ⟨rfl, hb⟩
      replace S := S.call hb
      replace hc := cell_later hb hc
      replace hD := hD.below hb
      clear hb
      go_wp2_with fail
      (with_reducible refine (spref_nil _).mono ?_)
      rintro e w8 ⟨rfl, hb⟩
      replace S := S.call hb
      replace hc := cell_later hb hc
      replace hD := hD.below hb
      clear hb
      go_wp2_with fail
      (with_reducible refine (sup_nil _).mono ?_)
      rintro e w9 ⟨rfl, hb⟩
      replace S := S.call hb
      replace hc := cell_later hb hc
      replace hD := hD.below hb
      clear hb
      go_wp2_with fail
      (with_reducible refine (sdata_nil _).mono ?_)
      rintro e w10 ⟨rfl, hb⟩
      replace S := S.call hb
      replace hc := cell_later hb hc
      replace hD := hD.below hb
      clear hb
      go_wp2_with fail
      (with_reducible refine (stick_nil _).mono ?_)
      rintro e w11 ⟨rfl, hb⟩
      replace S := S.call hb
      replace hc := cell_later hb hc
      replace hD := hD.below hb
      clear hb
      have a0 := S.c 2 0 rfl rfl
      have a1 := S.c 2 1 rfl rfl
      have a2 := S.c 2 2 rfl rfl
      go_wp2_with fail
      (with_reducible refine (RV.out _ S.b).mono ?_)
      rintro e w12 ⟨rfl, hb⟩
      clear a0 a1 a2
      replace S := S.call hb
      replace hc := cell_later hb hc
      replace hD := hD.below hb
      clear hb
      clear RV
      have v1' := v1.out
      have c0 := S.c 0 0 rfl rfl
      have c1 := S.c 0 1 rfl rfl
      have c2 := S.c 0 2 rfl rfl
      go_wp2_with fail
      (with_reducible refine (timed_any _ h1 h2 h3).mono ?_)
      rintro e w13 ⟨rfl, hb⟩
      clear c0 c1 c2
      clear v1'
      replace S := S.call hb
      replace hc := cell_later hb hc
      replace hD := hD.below hb
      clear hb
      have v3' := v3.out
      have v2' := v2.out
      simp only [wiB, Bool.and_eq_true, decide_eq_true_eq] at v2'
      have e5 : decide (boot < 1) = false := by simp; omega
      have e6 : decide (1073741824 < boot) = false := by simp; omega
      clear v2'
      have b0 := S.c 1 0 rfl rfl
      have b1 := S.c 1 1 rfl rfl
      have a0 := S.c 2 0 rfl rfl
      have a1 := S.c 2 1 rfl rfl
      have a2 := S.c 2 2 rfl rfl
      have hb9 := S.b
      have hn63 : node ≤ 63 := by have := (tB_iff.1 v1.out).n; omega
      have e7 : decide (node < 0) = false := by simp; omega
      have e8 : decide (t.n ≤ node) = false := by simp; omega
      clear v1 v2 v3
      go_upto_region 15 with fail
      have SD := fun W hb => sdata0_any W g gd bd node (ovB t node.toNat) hn.1 hn63 (cell_later hb hc) (hD.below hb)
      replace SD := Lib.hid SD
      replace S := S.drew
      have hbz : Below w13.heap.size w13 w13.drew := (Below.refl _ _).drew
      have b0 := S.c 1 0 rfl rfl
      clear hc hD e7 e8 e5 e6 hn hb9
      have tok1 : True := trivial
      have tok2 : True := trivial
      have tok3 : True := trivial
      go_region_law
        (first
          | (clear tok1; rw [if_pos (by kernel_rfl)]; go_simp; (with_reducible refine (SD.out _ hbz).mono ?_); rintro e wa ⟨k1, cc1, rfl, -, -, hba⟩; dsimp only; replace S := S.call hba; replace hbz := hbz.trans (hba.mono hbz.size); clear hba; have b0 := S.c 1 0 rfl rfl)
          | (clear tok2; rw [if_pos (by kernel_rfl)]; go_simp; (with_reducible refine (SD.out _ hbz).mono ?_); rintro e wb ⟨k2, cc2, rfl, -, q2, hbb⟩; simp only [laO] at q2; dsimp only; replace S := S.call hbb; replace hbz := hbz.trans (hbb.mono hbz.size); clear hbb; have b0 := S.c 1 0 rfl rfl)
          | (clear tok3; rw [if_pos (by kernel_rfl)]; go_simp; (with_reducible refine (SD.out _ hbz).mono ?_); rintro e wc ⟨k3, cc3, rfl, q3, -, hbc⟩; simp only [laO] at q3; dsimp only; replace q2 := cell_later hbc q2; replace S := S.call hbc; replace hbz := hbz.trans (hbc.mono hbz.size); clear hbc; have b0 := S.c 1 0 rfl rfl))
      all_goals
        have hb9 := S.b
        go_wp2_with fail
        go_ret
        exact ⟨rfl, hb9⟩
  · obtain ⟨rfl, hb⟩ := hpost.2.2 hall
    replace S := S.call hb
    clear hpost hb
    replace hall := Lib.hid hall
    go_wp2_with fail
    (with_reducible refine (srecv_nil _).mono ?_)
    rintro e w3 ⟨rfl, hb⟩
    replace S := S.call hb
    clear hb
    go_wp2_with fail
    (with_reducible refine (sview_nil _).mono ?_)
    rintro e w4 ⟨rfl, hb⟩
    replace S := S.call hb
    clear hb
    have hb := below_new' w4 (.cells #[.int .i64 0, .slice none 0 0, .slice none 0 0] 25)
    replace S := S.call hb
    clear hb
    go_wp2_with fail
    (with_reducible refine (sfail_nil _).mono ?_)
    rintro e w5 ⟨rfl, hb⟩
    replace S := S.call hb
    clear hb
    go_wp2_with fail
    (with_reducible refine (sover_nil _).mono ?_)
    rintro e w6 ⟨rfl, hb⟩
    replace S := S.call hb
    clear hb
    go_wp2_with fail
    (with_reducible refine (scost_nil _).mono ?_)
    rintro e w7 ⟨rfl, hb⟩
    replace S := S.call hb
    clear hb
    go_wp2_with fail
    (with_reducible refine (spref_nil _).mono ?_)
    rintro e w8 ⟨rfl, hb⟩
    replace S := S.call hb
    clear hb
    go_wp2_with fail
    (with_reducible refine (sup_nil _).mono ?_)
    rintro e w9 ⟨rfl, hb⟩
    replace S := S.call hb
    clear hb
    go_wp2_with fail
    (with_reducible refine (sdata_nil _).mono ?_)
    rintro e w10 ⟨rfl, hb⟩
    replace S := S.call hb
    clear hb
    go_wp2_with fail
    (with_reducible refine (stick_nil _).mono ?_)
    rintro e w11 ⟨rfl, hb⟩
    replace S := S.call hb
    clear hb
    have a0 := S.c 2 0 rfl rfl
    have a1 := S.c 2 1 rfl rfl
    have a2 := S.c 2 2 rfl rfl
    go_wp2_with fail
    (with_reducible refine (RV.out _ S.b).mono ?_)
    rintro e w12 ⟨rfl, hb⟩
    clear a0 a1 a2
    replace S := S.call hb
    clear hb
    clear RV
    have hb9 := S.b
    rcases v1 : tB t with _ | _
    · go_wp2_with fail
      go_ret
      exact ⟨rfl, hb9⟩
    have c0 := S.c 0 0 rfl rfl
    have c1 := S.c 0 1 rfl rfl
    have c2 := S.c 0 2 rfl rfl
    go_wp2_with fail
    (with_reducible refine (timed_any _ h1 h2 h3).mono ?_)
    rintro e w13 ⟨rfl, hb⟩
    clear c0 c1 c2
    replace S := S.call hb
    clear hb hb9
    have hb9 := S.b
    rcases v3 : tmB h1 h2 h3 with _ | _
    · clear v1
      go_wp2_with fail
      go_ret
      exact ⟨rfl, hb9⟩
    have v2 : ¬ (1 ≤ boot ∧ boot ≤ 1073741824) := fun h => hall.out ⟨v1, by simp only [wiB, Bool.and_eq_true, decide_eq_true_eq]; exact h, v3⟩
    clear v1
    have b0 := S.c 1 0 rfl rfl
    have b1 := S.c 1 1 rfl rfl
    rcases e5 : decide (boot < 1) with _ | _
    · have e6 : decide (1073741824 < boot) = true := by simp at e5 ⊢; omega
      clear v2
      go_wp2_with fail
      go_ret
      exact ⟨rfl, hb9⟩
    · clear v2
      go_wp2_with fail
      go_ret
      exact ⟨rfl, hb9⟩
section
variable {H : Type} {enc : TypeId × Value → H} {w : World} {base : Nat} {spare : Nat → Bool} {held : Bool} {r : Reach} {b0 : Nat} {v : Value} {d : DataW H} {ps : List MemPlace}
set_option maxRecDepth 100000 in
theorem arg_tm (hv : Value.okWide Tryz.prog w r b0 28 v) (h : DataW.Trod enc Tryz.prog w base spare held 28 v d ps) : ∃ h1 h2 h3, v = .agg #[.int .i64 h1, .int .i64 h2, .int .i64 h3] := by
  have OI : Opens Tryz.prog w 3 _ := opens_int (w := w) Tryz.underlying3 (by kernel_rfl)
  have O : Opens Tryz.prog w 28 _ := opens_struct3 (w := w) Tryz.underlying28 rfl rfl rfl (by kernel_rfl) (by kernel_rfl) (by kernel_rfl) (by kernel_rfl) OI OI OI
  obtain ⟨cs, x, rfl, v0, v1, v2, rfl, ⟨e0, _⟩, ⟨e1, _⟩, ⟨e2, _⟩⟩ := arg_struct Tryz.underlying28 O hv h
  simp only [List.cons.injEq, and_true] at e0 e1 e2
  subst e0 e1 e2
  exact ⟨_, _, _, rfl⟩
end
end Go.Proofs.YtbkpholkjgjicaaGreat

namespace Go.Proofs.YtbkpholkjgjicaaGreat.speakerNew
open Go.ChangeShapes Go.WideShapes Go.ChangeAt Go.RowKit
set_option linter.unusedVariables false

set_option maxRecDepth 100000 in
theorem lifted (os : Os) (started : os.Started) (H : Type) (enc : TypeId × Value → H) :
    ReturnsInHanded {} Tryz.checked os 3 .any (Rows.speakerNewSpec.pre6 enc Tryz.prog Tryz.f3 Rows.speakerNewRow.domain false) (Rows.speakerNewSpec.post enc Tryz.prog Tryz.f3 false true false false) := by
  refine returnsInHanded_of_change (C := Tryz.checked) frame_own started (by kernel_rfl) Tryz.func3
    (ChangeSpec.witness6 (enc := enc) (C := Tryz.checked) false ⟨#[], #[.agg #[.int .i64 0, .slice none 0 0, .slice none 0 0], .agg #[.int .i64 0, .int .i64 0], .agg #[.int .i64 0, .int .i64 0, .int .i64 0]], []⟩ 8 (by kernel_rfl) (by kernel_rfl) (by kernel_rfl) (by kernel_rfl)) ?_
  intro W base args ds gs before hval0 hW hcnd _
  have hval : ∀ (j : Nat) t v, Tryz.f3.params[j]? = some t → args[j]? = some v → Value.okWide Tryz.prog W .any base t v := hval0
  have hW' := hW
  obtain ⟨p, q, hA0, hV, rfl, hfz, hnd⟩ := hW
  have hA : DataW.TrodAll enc Tryz.prog W 0 (fun _ => true) true Tryz.f3.params.toList args.toList ds p := hA0
  rw [Tryz.params3] at hA hval
  obtain ⟨v0, vs0, d0, ds0, p0', q0', hargs, rfl, rfl, h0, r0⟩ := trodAll_cons hA
  obtain ⟨v1, vs1, d1, ds1, p1', q1', rfl, rfl, rfl, h1, r1⟩ := trodAll_cons r0
  obtain ⟨v2, vs2, d2, ds2, p2', q2', rfl, rfl, rfl, h2, r2⟩ := trodAll_cons r1
  obtain ⟨rfl, rfl, rfl⟩ := trodAll_nil r2
  obtain rfl : args = #[v0, v1, v2] := by cases args; simp_all
  obtain ⟨rfl, rfl⟩ := trodVars_none hV
  have k0 := h0
  have lt0 : ∀ x ∈ p0', x.block < W.heap.size := by obtain ⟨m, hm⟩ := k0; exact DataW.trod_lt m _ _ _ hm
  have k1 := h1
  have lt1 : ∀ x ∈ p1', x.block < W.heap.size := by obtain ⟨m, hm⟩ := k1; exact DataW.trod_lt m _ _ _ hm
  have k2 := h2
  have lt2 : ∀ x ∈ p2', x.block < W.heap.size := by obtain ⟨m, hm⟩ := k2; exact DataW.trod_lt m _ _ _ hm
  obtain ⟨x0, hx0⟩ := arg_tp (hval 0 25 v0 rfl rfl) h0
  obtain ⟨p1, q1, rfl, hp1, hq1⟩ := arg_ints2 Tryz.underlying26 (by kernel_rfl) Tryz.underlying3 (by kernel_rfl) (hval 1 26 v1 rfl rfl) h1
  obtain ⟨x2, y2, u2, rfl⟩ := arg_tm (hval 2 28 v2 rfl rfl) h2
  clear hA0 hval0
  refine (snew_law W v0 x0 hx0 p1 q1 hp1 hq1 x2 y2 u2).mono fun e W' ⟨he, bel⟩ => ?_
  subst he
  exact ⟨_, rfl, _, _, _, [], _, [], hW', trodAll_mk1 (shut_bool Tryz.underlying4 _), (trodAll_cons_mk (Below.trod frame_laidOut (by kernel_rfl) (of_decide_eq_true (by kernel_rfl)) k0 bel lt0) (trodAll_cons_mk (Below.trod frame_laidOut (by kernel_rfl) (of_decide_eq_true (by kernel_rfl)) k1 bel lt1) (trodAll_cons_mk (Below.trod frame_laidOut (by kernel_rfl) (of_decide_eq_true (by kernel_rfl)) k2 bel lt2) trodAll_mk0))), rfl, bel.frame _, fun h => by cases h⟩

theorem over : Rows.speakerNewRow.holds Tryz.pinned (OpenSpec.ofChange Rows.speakerNewSpec) :=
  OpenClaim.holds_of_wide 3 Tryz.f3 rfl rfl rfl rfl rfl rfl rfl ⟨rfl, rfl, rfl, rfl, rfl⟩ rfl rfl rfl rfl rfl (by kernel_rfl) Tryz.func3 (by kernel_rfl)
    (of_decide_eq_true (by kernel_rfl)) (by unfold Func.isWrapper; first | (rw [if_pos (by decide +kernel)]; kernel_rfl) | (rw [if_neg (by decide +kernel)]; exact ⟨rfl, rfl⟩))
    (fun os started H enc _ => lifted os started H enc)

theorem proved : Rows.SpeakerNewSaid := over
#print axioms proved
end Go.Proofs.YtbkpholkjgjicaaGreat.speakerNew
