/-
  speaker: what it takes of graph (Over, Tail, Head, Cost, Out).
-/
import Derived.Test.YtbkpholkjgjicaaGreatTpV
namespace Go.Proofs.YtbkpholkjgjicaaGreat
set_option linter.unusedVariables false
open Go.RowKit Go.Maps Go.Sort

/-- Where an arc begins; the arc 2k + p, p = 0 or 1. -/
def tailL (x : Lk) (p : Bool) : Int := if p = true then x.b else x.a
def arcI (k : Nat) (p : Bool) : Int := if p = true then 2 * (k : Int) + 1 else 2 * (k : Int)
theorem arc_rem (k : Nat) (p : Bool) : (arcI k p).tmod 2 = if p = true then 1 else 0 := by
  cases p
  · simp [arcI]
  · rw [Int.tmod_eq_emod_of_nonneg (by simp only [arcI]; simp; omega)]; simp [arcI]
theorem arc_quo (k : Nat) (p : Bool) : (arcI k p).tdiv 2 = k := by
  rw [Int.tdiv_eq_ediv_of_nonneg (by cases p <;> simp only [arcI] <;> simp <;> omega)]
  cases p <;> simp [arcI] <;> omega
set_option maxRecDepth 100000 in
set_option maxHeartbeats 1600000 in
theorem tail_any (w : World) (v : Value) (t : Tp) (h : TpAt w v t) (k : Nat) (p : Bool) (hk : k < t.ln.length) (hm : t.ln.length ≤ 256) : Calls Tryz.prog 61 #[v, .int .i64 (arcI k p)] w fun e w' => e = .returned (.int .i64 (tailL t.ln[k] p)) ∧ Below w.heap.size w w' := by
  obtain ⟨A, c, B, d, rfl, rA, rB, h3, h4⟩ := h
  have hb := below_new' w (.cells #[.int .i64 t.n, .slice A t.ov.length c, .slice B t.ln.length d] 25)
  have S := ((St.start w).read rB).new' #[.int .i64 t.n, .slice A t.ov.length c, .slice B t.ln.length d] 25 w.heap.size _ rfl rfl
  obtain ⟨b, off, hB, hc⟩ := rd_lk (S.r 0 rfl) (by omega)
  subst hB
  have L := hc k hk
  have e1 := arc_rem k p
  have e2 := arc_quo k p
  have l1 := L.c0
  have l2 := L.c1
  generalize t.ln[k] = x at *
  generalize arcI k p = z at *
  clear hc L rA rB
  have c0 := S.c 0 0 rfl rfl
  have c1 := S.c 0 1 rfl rfl
  have c2 := S.c 0 2 rfl rfl
  cases p
  · simp only [tailL]
    go_enter Tryz.func61, Tryz.ntmps61
    go_wp2_with fail
    go_ret
    exact ⟨rfl, hb⟩
  · simp only [tailL]
    go_enter Tryz.func61, Tryz.ntmps61
    go_wp2_with fail
    go_ret
    exact ⟨rfl, hb⟩
theorem arc_xor0 : ∀ k : Fin 256, ∀ p : Bool, bits .xor .i64 (arcI k p) 1 = arcI k (!p) := by decide +kernel
theorem arc_xor (k : Nat) (hk : k < 256) (p : Bool) : bits .xor .i64 (arcI k p) 1 = arcI k (!p) := arc_xor0 ⟨k, hk⟩ p
set_option maxRecDepth 100000 in
set_option maxHeartbeats 1600000 in
theorem head_any (w : World) (v : Value) (t : Tp) (h : TpAt w v t) (k : Nat) (p : Bool) (hk : k < t.ln.length) (hm : t.ln.length ≤ 256) : Calls Tryz.prog 27 #[v, .int .i64 (arcI k p)] w fun e w' => e = .returned (.int .i64 (tailL t.ln[k] (!p))) ∧ Below w.heap.size w w' := by
  have h' := h
  obtain ⟨A, c, B, d, rfl, rA, rB, h3, h4⟩ := h
  have hb := below_new' w (.cells #[.int .i64 t.n, .slice A t.ov.length c, .slice B t.ln.length d] 25)
  have S := (St.start w).new' #[.int .i64 t.n, .slice A t.ov.length c, .slice B t.ln.length d] 25 w.heap.size _ rfl rfl
  have TL := Lib.hid (tail_any _ _ t (h'.below hb) k (!p) hk hm)
  have e1 := arc_xor k (by omega) p
  generalize arcI k p = z at *
  generalize arcI k (!p) = z' at *
  clear rA rB h'
  have c0 := S.c 0 0 rfl rfl
  have c1 := S.c 0 1 rfl rfl
  have c2 := S.c 0 2 rfl rfl
  go_enter Tryz.func27, Tryz.ntmps27
  go_wp2_with fail
  (with_reducible refine (TL.out).mono ?_)
  rintro e w1 ⟨rfl, hb2⟩
  go_wp2_with fail
  go_ret
  exact ⟨rfl, hb.trans (hb2.mono hb.size)⟩
def costL (x : Lk) (p : Bool) : Int := if p = true then x.d else x.c
set_option maxRecDepth 100000 in
set_option maxHeartbeats 1600000 in
theorem cost_any (w : World) (v : Value) (t : Tp) (h : TpAt w v t) (k : Nat) (p : Bool) (hk : k < t.ln.length) (hm : t.ln.length ≤ 256) : Calls Tryz.prog 28 #[v, .int .i64 (arcI k p)] w fun e w' => e = .returned (.int .i64 (costL t.ln[k] p)) ∧ Below w.heap.size w w' := by
  obtain ⟨A, c, B, d, rfl, rA, rB, h3, h4⟩ := h
  have hb := below_new' w (.cells #[.int .i64 t.n, .slice A t.ov.length c, .slice B t.ln.length d] 25)
  have S := ((St.start w).read rB).new' #[.int .i64 t.n, .slice A t.ov.length c, .slice B t.ln.length d] 25 w.heap.size _ rfl rfl
  obtain ⟨b, off, hB, hc⟩ := rd_lk (S.r 0 rfl) (by omega)
  subst hB
  have L := hc k hk
  have e1 := arc_rem k p
  have e2 := arc_quo k p
  have l1 := L.c2
  have l2 := L.c3
  generalize t.ln[k] = x at *
  generalize arcI k p = z at *
  clear hc L rA rB
  have c0 := S.c 0 0 rfl rfl
  have c1 := S.c 0 1 rfl rfl
  have c2 := S.c 0 2 rfl rfl
  cases p
  · simp only [costL]
    go_enter Tryz.func28, Tryz.ntmps28
    go_wp2_with fail
    go_ret
    exact ⟨rfl, hb⟩
  · simp only [costL]
    go_enter Tryz.func28, Tryz.ntmps28
    go_wp2_with fail
    go_ret
    exact ⟨rfl, hb⟩
def ovB (t : Tp) (n : Nat) : Bool := t.ov[n]?.getD false
set_option maxRecDepth 100000 in
set_option maxHeartbeats 1600000 in
theorem over_any (w : World) (v : Value) (t : Tp) (h : TpAt w v t) (n : Nat) (z : Int) (hz : z = (n : Int)) (hn : t.ov.length = 0 ∨ n < t.ov.length) (h64 : t.ov.length ≤ 1000000) : Calls Tryz.prog 22 #[v, .int .i64 z] w fun e w' => e = .returned (.bool (ovB t n)) ∧ Below w.heap.size w w' := by
  obtain ⟨A, c, B, d, rfl, rA, rB, h3, h4⟩ := h
  have hb := below_new' w (.cells #[.int .i64 t.n, .slice A t.ov.length c, .slice B t.ln.length d] 25)
  have S := ((St.start w).read rA).new' #[.int .i64 t.n, .slice A t.ov.length c, .slice B t.ln.length d] 25 w.heap.size _ rfl rfl
  rcases hn with hn | hn
  · have e : ovB t n = false := by unfold ovB; rw [List.getElem?_eq_none (by omega)]; rfl
    rw [e]
    rw [hn] at hb S ⊢
    clear hn
    have e1 : decide ((0 : Int) < ((0 : Nat) : Int)) = false := rfl
    have c0 := S.c 0 0 rfl rfl
    have c1 := S.c 0 1 rfl rfl
    have c2 := S.c 0 2 rfl rfl
    clear rA rB e
    go_enter Tryz.func22, Tryz.ntmps22
    go_wp2_with fail
    all_goals (first | done | go_ret)
    all_goals exact ⟨rfl, hb⟩
  · obtain ⟨b, off, hB, hc⟩ := rd_bo (S.r 0 rfl) (by omega)
    subst hB
    have L := hc n hn
    have e : ovB t n = t.ov[n] := by unfold ovB; rw [List.getElem?_eq_getElem hn]; rfl
    rw [e]
    generalize t.ov[n] = x at *
    subst hz
    clear hc rA rB e
    generalize t.ov.length = k at *
    have e1 : decide ((0 : Int) < (k : Int)) = true := by simp; omega
    have c0 := S.c 0 0 rfl rfl
    have c1 := S.c 0 1 rfl rfl
    have c2 := S.c 0 2 rfl rfl
    go_enter Tryz.func22, Tryz.ntmps22
    go_wp2_with fail
    all_goals (first | done | go_ret)
    all_goals exact ⟨rfl, hb⟩

/-! ### Out -/
theorem Box.belowB {w w' : World} {g B : Nat} {cs : List Value} (h : Box w g cs) (hb : Below B w w') (hg : g < B) : Box w' g cs := fun i u hu => by
  have := h i u hu
  have e := hb.block g hg
  exact ⟨(World.cell?_of_block (a := ⟨g, i, none⟩) e).trans this.1, (World.frozen?_of_block (a := ⟨g, i, none⟩) e).trans this.2⟩
theorem St.callB {W w w' : World} {bs : List (Nat × List Value)} {rs : List (Option Addr × List Value)} (S : St W w bs rs) {B : Nat} (hb : Below B w w') (hB : W.heap.size ≤ B) (h : ∀ x ∈ bs, x.1 < B) : St W w' bs rs :=
  ⟨S.b.trans (hb.mono hB), fun i x hx => (S.bx i x hx).belowB hb (h x (List.mem_of_getElem? hx)), S.rd⟩
theorem arc_of (i : Nat) : arcI (i / 2) (decide (i % 2 = 1)) = (i : Int) := by
  unfold arcI
  by_cases h : i % 2 = 1
  · simp only [h, decide_true, if_true]; omega
  · simp only [h, decide_false]; simp; omega
/-- Where arc i begins. -/
def tlI (l : List Lk) (i : Nat) : Int := match l[i / 2]? with | some x => tailL x (decide (i % 2 = 1)) | none => -1
def outK (l : List Lk) (n : Int) (k : Nat) : List Int := ((List.range k).filter fun i => decide (tlI l i = n)).map fun (i : Nat) => (i : Int)
theorem outK_succ (l : List Lk) (n : Int) (k : Nat) : outK l n (k + 1) = outK l n k ++ if tlI l k = n then [(k : Int)] else [] := by
  unfold outK
  rw [List.range_succ, List.filter_append, List.map_append]
  congr 1
  by_cases h : tlI l k = n <;> simp [h]
theorem outK_len (l : List Lk) (n : Int) (k : Nat) : (outK l n k).length ≤ k := by
  unfold outK
  rw [List.length_map]
  exact Nat.le_trans (List.length_filter_le _ _) (by simp)
def outs (t : Tp) (n : Int) : List Int := outK t.ln n (2 * t.ln.length)
abbrev iV (z : Int) : Value := .int .i64 z
theorem iV_one (l : List Int) : ∀ u ∈ l.map iV, u.oneCell' = true := by
  intro u hu
  obtain ⟨z, _, rfl⟩ := List.mem_map.1 hu
  rfl
theorem inT : ElemT Tryz.prog 74 3 (.int .i64 0) 1 8 := ⟨Tryz.underlying74, by kernel_rfl, rfl, by omega⟩
def OutPost (w : World) (l : List Int) (e : Ending) (w' : World) : Prop :=
  ∃ A c, e = .returned (.slice A l.length c) ∧ w'.ownsRow w.heap.size 3 1 (.slice A l.length c) l.length (l.map iV) ∧ Below w.heap.size w w'
set_option maxRecDepth 100000 in
set_option maxHeartbeats 3200000 in
theorem out_any (w : World) (v : Value) (t : Tp) (h : TpAt w v t) (z : Int) (hm : t.ln.length ≤ 256) : Calls Tryz.prog 26 #[v, .int .i64 z] w (OutPost w (outs t z)) := by
  have h' := h
  obtain ⟨A, c, B, d, rfl, rA, rB, h3, h4⟩ := h
  have S := (St.start w).new' #[.int .i64 t.n, .slice A t.ov.length c, .slice B t.ln.length d] 25 w.heap.size _ rfl rfl
  have TL := fun W (hb : Below w.heap.size w W) i (hi : i / 2 < t.ln.length) => tail_any W _ t (h'.below hb) (i / 2) (decide (i % 2 = 1)) hi hm
  have TL2 : Hid (∀ W, Below w.heap.size w W → ∀ i : Nat, i < 2 * t.ln.length → Calls Tryz.prog 61 #[tpV t.n A t.ov.length c B t.ln.length d, .int .i64 (i : Int)] W fun e w' => e = .returned (.int .i64 (tlI t.ln i)) ∧ Below W.heap.size W w') := fun W hb i hi => by
    have := TL W hb i (by omega)
    rw [arc_of] at this
    have e : tlI t.ln i = tailL t.ln[i / 2] (decide (i % 2 = 1)) := by unfold tlI; rw [List.getElem?_eq_getElem (by omega)]
    rw [e]; exact this
  have hfin : Hid (∀ w' A c, w'.ownsRow w.heap.size 3 1 (.slice A (outK t.ln z (2 * t.ln.length)).length c) (outK t.ln z (2 * t.ln.length)).length ((outK t.ln z (2 * t.ln.length)).map iV) → Below w.heap.size w w' → OutPost w (outs t z) (.returned (.slice A (outK t.ln z (2 * t.ln.length)).length c)) w') := fun w' A c ho hb => ⟨A, c, rfl, ho, hb⟩
  have hle := fun k => outK_len t.ln z k
  have hsu := fun k => outK_succ t.ln z k
  obtain ⟨O, hO⟩ : ∃ O, outK t.ln z = O := ⟨_, rfl⟩
  have h0 : O 0 = [] := by rw [← hO]; rfl
  simp only [hO] at hfin hle hsu
  obtain ⟨Q, hQ⟩ : ∃ Q, OutPost w (outs t z) = Q := ⟨_, rfl⟩
  rw [hQ] at hfin ⊢
  clear hO hQ TL h' rA rB h3 h4
  obtain ⟨T, hT⟩ : ∃ T, tlI t.ln = T := ⟨_, rfl⟩
  rw [hT] at TL2
  simp only [hT] at hsu
  clear hT
  generalize t.ln.length = m at *
  generalize t.ov.length = k at *
  generalize t.n = n at *
  replace hle := Lib.hid hle
  replace hsu := Lib.hid hsu
  have c0 := S.c 0 0 rfl rfl
  have c1 := S.c 0 1 rfl rfl
  have c2 := S.c 0 2 rfl rfl
  go_enter Tryz.func26, Tryz.ntmps26
  go_wp2_with fail
  (with_reducible refine (arcs_any n (.slice A k c) B m d _ (by omega)).mono ?_)
  rintro e w1 ⟨rfl, hb⟩
  clear c0 c1 c2
  replace S := S.call hb
  clear hb
  go_wp2_with fail
  go_loopw [5, 9] (fun v5 v9 wr => ∃ i : Nat, v9 = .int .i64 i ∧ i ≤ 2 * m ∧ St w wr [(w.heap.size, [.int .i64 n, .slice A k c, .slice B m d])] [] ∧ wr.ownsRow (w.heap.size + 1) 3 1 v5 (O i).length ((O i).map iV)) (fun _ v9 _ => 2 * m - (intOf v9).toNat)
  case atStart => exact ⟨0, rfl, by omega, S, by rw [h0]; exact World.ownsRow_nil _ _ _ _⟩
  case round =>
    clear S
    obtain ⟨i, rfl, hi, S, ho⟩ := hrel
    by_cases hin : i < 2 * m
    · have TI := Lib.hid (TL2.out wr S.b i hin)
      have hu := Lib.hid (hsu.out i)
      have hl := hle.out i
      have c0 := S.c 0 0 rfl rfl
      have c1 := S.c 0 1 rfl rfl
      have c2 := S.c 0 2 rfl rfl
      go_wp2_with fail
      (with_reducible refine (TI.out).mono ?_)
      rintro e w2 ⟨rfl, hb⟩
      clear c0 c1 c2
      clear TI
      replace S := S.call hb
      replace ho := own_below ho hb
      clear hb
      rcases hT : (T i == z) with _ | _
      · have e : O (i + 1) = O i := by rw [hu.out, if_neg (by simpa using hT), List.append_nil]
        rw [← e] at ho
        go_wp2_with fail
        go_round
        case rel => exact ⟨i + 1, by go_num, by omega, S, ho⟩
        case measure => simp [intOf]; omega
      · have e : O i ++ [(i : Int)] = O (i + 1) := by rw [hu.out, if_pos (by simpa using hT)]
        have rd0 := Rd.lit w2 #[.int .i64 (i : Int)] 3
        have hb3 := below_new' w2 (.cells #[.int .i64 (i : Int)] 3)
        have ho3 := own_below ho hb3
        have S3 := S.call hb3
        have hsz : w.heap.size + 1 ≤ (World.alloc w2 (.cells #[.int .i64 (i : Int)] 3)).heap.size := (S3.box 0 rfl).lt (by simp)
        clear ho S hb3
        have el : (O i).length + 1 = (O (i + 1)).length := by rw [← e]; simp
        have el2 : (O i).map iV ++ [.int .i64 (i : Int)] = (O (i + 1)).map iV := by rw [← e]; simp
        clear e
        go_wp2_with (at_builtin; refine wpList_appG rfl inT (.tmp 17) (.tmp 19) rfl (w.heap.size + 1) rfl ho3 (m := 1) rfl (by simp) rd0 (iV_one [(i : Int)]) (by simp only [maxLen]; omega) (by omega) hsz _ _ el el2 ?_; intro v6 w6 o6 hbel6 hg6)
        have S9 := S3.callB hbel6 (by omega) (by simp)
        go_wp2_with fail
        go_round
        case rel => exact ⟨i + 1, by go_num, by omega, S9, o6⟩
        case measure => simp [intOf]; omega
    · obtain rfl : i = 2 * m := by omega
      obtain ⟨A5, c5, rfl, -⟩ := own_rd ho
      have hf := hfin.out _ _ _ (own_mono ho (by omega)) S.b
      go_wp2_with fail
      exact hf
end Go.Proofs.YtbkpholkjgjicaaGreat
