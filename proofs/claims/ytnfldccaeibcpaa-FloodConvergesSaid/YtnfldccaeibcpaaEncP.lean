/-
  The contracts of the two closures of lsa.Encode.
-/
import Derived.Test.YtnfldccaeibcpaaEncS
namespace Go.Proofs.Ytnfldccaeibcpaa
set_option linter.unusedVariables false
open Go.RowKit

set_option maxRecDepth 100000 in
set_option maxHeartbeats 1600000 in
theorem begin_any (kind : Int) (W w : World) (g1 g2 : Nat) (bs : List (Nat × List Value)) (rd : List (Option Addr × List Value)) (l : List Rec) (h : EncS W w g1 g2 bs rd l) (hl : l.length ≤ 1000000) :
    Calls Try.prog 67 #[.int .i64 kind, .pointer (some ⟨g1, 0, none⟩)] w fun e w' => e = .returned (.tuple #[]) ∧ EncS W w' g1 g2 bs rd (l ++ [(kind, [])]) := by
  obtain ⟨v, rs, h, rfl⟩ := h
  rw [List.length_map] at hl
  have c1 := h.S.c 0 0 rfl rfl
  have f1 := h.S.f 0 0 rfl rfl
  have hb0 := below_new' w (.cells #[.int .i64 kind, .slice none 0 0] 139)
  have h1 := h.call hb0
  have rd0 := Rd.lit w #[.int .i64 kind, .slice none 0 0] 139
  go_enter Try.func67, Try.ntmps67
  go_wp2_with (at_builtin; refine wpList_appB rfl recT (.tmp 3) (.tmp 6) rfl W.heap.size rfl h1.own (m := 1) rfl (by simp) rd0 (by simp [Value.oneCell']) (by simp only [maxLen]; omega) (by omega) h1.S.b.size (rs.length + 1) _ (by omega) rfl ?_; intro v3 w3 hown3 hbel3 hg3 hv3; obtain ⟨g3, k3, rfl, _, _, _⟩ := own_form hown3 (by omega); have h4 := h1.begun kind hown3 hg3 hv3; have cc := hg3.cell (h1.S.c 0 0 rfl rfl) (fun e => h1.far (g1, [v]) (by simp) e.symm); have ff := ((h1.S.box 0 rfl).kept hg3 (fun e => h1.far (g1, [v]) (by simp) e.symm) (by simp)).f 0 rfl)
  go_end0
  exact ⟨rfl, _, _, h4, by simp [dat]⟩

set_option maxRecDepth 100000 in
set_option maxHeartbeats 1600000 in
theorem put_any (n k : Nat) (W w : World) (g1 g2 : Nat) (bs : List (Nat × List Value)) (rd : List (Option Addr × List Value)) (l : List Rec) (t : Int) (x : List UInt8) (h : EncS W w g1 g2 bs rd (l ++ [(t, x)])) (hl : l.length ≤ 1000000) (hx : x.length ≤ 1000) (hk1 : 1 ≤ k) (hk : k ≤ 8) (hn : n < 256 ^ k) (hn2 : n < 9223372036854775808) :
    Calls Try.prog 65 #[.int .i64 n, .int .i64 k, .pointer (some ⟨g1, 0, none⟩), .pointer (some ⟨g2, 0, none⟩)] w fun e w' => e = .returned (.tuple #[]) ∧ EncS W w' g1 g2 bs rd (l ++ [(t, x ++ numB n k)]) := by
  obtain ⟨v, rs, h, he⟩ := h
  obtain ⟨rs0, r, rfl⟩ : ∃ rs0 r, rs = rs0 ++ [r] := by
    rcases List.eq_nil_or_concat rs with rfl | ⟨a, b, e⟩
    · simp at he
    · exact ⟨a, b, by simpa using e⟩
  rw [List.map_append, List.map_cons, List.map_nil] at he
  obtain ⟨rfl, hr⟩ := List.append_inj' he rfl
  simp only [List.cons.injEq, and_true] at hr
  obtain ⟨g, cap, rfl, hg1, hg2, hown⟩ := own_form h.own (by simp)
  have hlen : (rs0 ++ [r]).length = rs0.length + 1 := by simp
  rw [hlen] at hown h
  have hrr := (h.recs r (by simp)).ok
  obtain ⟨t', A, m, c, y⟩ := r
  simp only [dat, Prod.mk.injEq] at hr
  obtain ⟨rfl, rfl⟩ := hr
  obtain ⟨rd1, hm, hnc, hcm⟩ := hrr
  simp only at rd1 hm hnc hcm
  have AU := append_any A m c y n k w rd1 hm (by omega) (by omega)
  have e1 : auE n k = 0 := by unfold auE; rw [if_neg (by omega), Int.toNat_natCast, if_pos hn]
  have e2 : auR y n k = y ++ numB n k := by unfold auR; rw [e1, if_pos rfl, Int.toNat_natCast]
  rw [e1, e2] at AU
  clear e1 e2
  replace AU := Lib.hid AU
  replace hm := Lib.hid hm
  replace hlen := Lib.hid hlen
  rw [List.length_map] at hl
  have c1 := h.S.c 0 0 rfl rfl
  have c2 : w.cell? ⟨g, rs0.length * 2 + 1, none⟩ = some (.slice A m c) := by
    rw [hown.cellAt _ (by omega), recV_append, List.getElem?_append_right (by rw [recV_len]; omega), recV_len, show rs0.length * 2 + 1 - rs0.length * 2 = 1 by omega]
    rfl
  go_enter Try.func65, Try.ntmps65
  go_wp2_with fail
  (with_reducible refine AU.out.mono ?_)
  rintro e w1 ⟨v1, rfl, hown1, hb1⟩
  have h2 := h.call hb1
  have hsz := h.S.b.size
  have d2 := h2.S.c 1 0 rfl rfl
  have f2 := h2.S.f 1 0 rfl rfl
  have c3 := cell_later hb1 c2
  have f3 := (own_below hown hb1).frozenAt (rs0.length * 2 + 1)
  generalize (y ++ numB n k).length = q at hown1 ⊢
  obtain ⟨A1, k1, rfl, _, _, _⟩ := own_rd hown1
  have hfin := h2.puts (r' := ⟨t', A1, q, k1, y ++ numB n k⟩) rfl (own_mono hown1 hsz) (by
    have l1 := (h.S.box 0 rfl).lt (by simp)
    have l2 := (h.S.box 1 rfl).lt (by simp)
    intro x hx e
    have hlt := (hown1.lt x.1 e).1
    simp only [List.mem_cons] at hx
    rcases hx with rfl | rfl | hx
    · simp only at hlt; omega
    · simp only at hlt; omega
    · obtain ⟨i, hi, he⟩ := List.getElem_of_mem hx
      have := (h.S.bx (i + 2) x (by simp [List.getElem?_eq_getElem hi, he])).lt (h.pos x hx)
      omega)
  clear c1 c2 AU hown
  go_wp2_with fail
  go_end0
  exact ⟨rfl, _, _, hfin, by rw [List.map_append]; rfl⟩

theorem put_z (z zk : Int) (n k : Nat) (hz : z = n) (hzk : zk = k) (W w : World) (g1 g2 : Nat) (bs : List (Nat × List Value)) (rd : List (Option Addr × List Value)) (l : List Rec) (t : Int) (x : List UInt8) (h : EncS W w g1 g2 bs rd (l ++ [(t, x)])) (hl : l.length ≤ 1000000) (hx : x.length ≤ 1000) (hk1 : 1 ≤ k) (hk : k ≤ 8) (hn : n < 256 ^ k) (hn2 : n < 9223372036854775808) :
    Calls Try.prog 65 #[.int .i64 z, .int .i64 zk, .pointer (some ⟨g1, 0, none⟩), .pointer (some ⟨g2, 0, none⟩)] w fun e w' => e = .returned (.tuple #[]) ∧ EncS W w' g1 g2 bs rd (l ++ [(t, x ++ numB n k)]) := by
  subst hz hzk
  exact put_any n k W w g1 g2 bs rd l t x h hl hx hk1 hk hn hn2

end Go.Proofs.Ytnfldccaeibcpaa
