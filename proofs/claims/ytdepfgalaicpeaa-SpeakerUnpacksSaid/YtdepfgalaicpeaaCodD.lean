/-
  The contract of codec.Decode.
-/
import Derived.Test.YtdepfgalaicpeaaCodIt
import Derived.Test.YtdepfgalaicpeaaCodLaw
import Derived.Shelf.Abstract
import Derived.Deep.AppendLies
namespace Go.Proofs.Ytdepfgalaicpeaa
set_option linter.unusedVariables false
open Go.RowKit Go.Shelf
attribute [local go_sem] Oper.semAt_some

theorem recT' : ElemT Try.prog 51 50 (.agg #[.int .i64 0, .slice none 0 0]) 2 32 := ⟨Try.underlying51, by kernel_rfl, rfl, by omega⟩

/-- Between two rounds. -/
structure DecI (w W : World) (rs : List Rc) (v : Value) : Prop where
  c : W.cell? ⟨w.heap.size + 2, 0, none⟩ = some v
  f : W.frozen? ⟨w.heap.size + 2, 0, none⟩ = false
  own : W.ownsRow (w.heap.size + 4) 50 2 v rs.length (recV rs)
  rs : ∀ r ∈ rs, RcOwn W (w.heap.size + 4) 5 r
  c0 : W.cell? ⟨w.heap.size, 0, none⟩ = some (.slice none 0 0)
  f0 : W.frozen? ⟨w.heap.size, 0, none⟩ = false
  c1 : W.cell? ⟨w.heap.size + 1, 0, none⟩ = some (.int .i64 0)
  f1 : W.frozen? ⟨w.heap.size + 1, 0, none⟩ = false
  b : Below w.heap.size w W
/-- Where a round has found that it is no encoding. -/
structure DecX (w W : World) : Prop where
  c0 : W.cell? ⟨w.heap.size, 0, none⟩ = some (.slice none 0 0)
  c1 : W.cell? ⟨w.heap.size + 1, 0, none⟩ = some (.int .i64 4)
  b : Below w.heap.size w W

theorem cell_set_other {W : World} {p q : Addr} {v : Value} (u : Value) (h : W.cell? q = some v) (hne : q ≠ p) : (W.setCell p u).cell? q = some v := (cell_far u (fun e => hne e.symm)).trans h

theorem DecI.below {w W W' : World} {rs : List Rc} {v : Value} (h : DecI w W rs v) (hb : Below W.heap.size W W') : DecI w W' rs v :=
  ⟨cell_later hb h.c, free_later hb h.c h.f, own_below h.own hb, fun r hr => (h.rs r hr).below hb, cell_later hb h.c0, free_later hb h.c0 h.f0, cell_later hb h.c1, free_later hb h.c1 h.f1, h.b.trans (hb.mono h.b.size)⟩
theorem DecI.set {w W : World} {rs : List Rc} {v : Value} (h : DecI w W rs v) (u : Value) : DecI w (W.setCell ⟨w.heap.size + 3, 0, none⟩ u) rs v :=
  ⟨cell_set_other u h.c (by simp), by simp [h.f], ownsRow_setCell_below h.own (a := ⟨w.heap.size + 3, 0, none⟩) (Nat.lt_succ_self _) u, fun r hr => (h.rs r hr).set (a := ⟨w.heap.size + 3, 0, none⟩) (Nat.lt_succ_self _) u,
    cell_set_other u h.c0 (by simp), by simp [h.f0], cell_set_other u h.c1 (by simp), by simp [h.f1], h.b.setCell (p := ⟨w.heap.size + 3, 0, none⟩) (by simp) u⟩
theorem DecI.put {w W : World} {rs : List Rc} {v : Value} (h : DecI w W rs v) {l : Nat} {o : Obj} (o' : Obj) (hw : w.heap.size ≤ l) (hl : W.heap[l]? = some o) (ho : o.isCells = false) : DecI w (W.putObj l o') rs v :=
  have hg := grownBy_putObj' W l o'
  have hk : ∀ r, some l = some r → ∃ o : Obj, W.heap[r]? = some o ∧ o.isCells = false := fun r e => by cases e; exact ⟨o, hl, ho⟩
  ⟨cell_kept h.c hg hk, (frozen_kept h.c hg hk).trans h.f, ownsRow_putObj h.own o' hl ho, fun r hr => ownsRow_putObj (h.rs r hr) o' hl ho, cell_kept h.c0 hg hk, (frozen_kept h.c0 hg hk).trans h.f0, cell_kept h.c1 hg hk, (frozen_kept h.c1 hg hk).trans h.f1,
    h.b.grown hg h.b.size fun k e => by cases e; exact hw⟩
theorem DecX.put {w W : World} (h : DecX w W) {l : Nat} {o : Obj} (o' : Obj) (hw : w.heap.size ≤ l) (hl : W.heap[l]? = some o) (ho : o.isCells = false) : DecX w (W.putObj l o') :=
  have hg := grownBy_putObj' W l o'
  have hk : ∀ r, some l = some r → ∃ o : Obj, W.heap[r]? = some o ∧ o.isCells = false := fun r e => by cases e; exact ⟨o, hl, ho⟩
  ⟨cell_kept h.c0 hg hk, cell_kept h.c1 hg hk, h.b.grown hg h.b.size fun k e => by cases e; exact hw⟩

set_option maxHeartbeats 4000000 in
theorem cdecode_any (A : Option Addr) (n cap : Nat) (bs : List UInt8) (w : World) (hr : Bs w A bs) (hn : bs.length = n) (hcap : n ≤ cap) (hm : cap ≤ maxLen) (hn2 : n ≤ 1000000000) :
    Calls Try.prog 23 #[.slice A n cap] w (DecPost 50 5 w bs) := by
  unfold maxLen at hm
  obtain ⟨D, hD⟩ : ∃ D, decO bs = D := ⟨_, rfl⟩
  have hPD : DecPost 50 5 w bs = DecPostD 50 5 w D := by subst hD; rfl
  rw [hPD]
  clear hPD
  replace hn := Lib.hid hn
  replace hD := Lib.hid hD
  refine (callsIn_wide (n := 6)).1 ?_
  refine callsIn_of_wp_marks Try.func23 rfl trivial ?_ rfl
  simp only [Try.ntmps23, List.size_toArray, List.length_cons, List.length_nil, Nat.reduceAdd, Nat.reduceSub, Array.replicate_succ, Array.replicate_zero, List.push_toArray, List.append_toArray, List.nil_append, List.cons_append]
  have hn1 : Fence.wide.depth.isSome = true → 1 ≤ 6 := fun _ => by omega
  gi_wp2_with (refine ⟨trivial, ?_⟩; gi_at_call 43; refine (callsIn_wide.2 (records_any _ _ _ _)).mono ?_; rintro e w' ⟨rfl, rfl⟩)
  obtain ⟨Wr, hWr⟩ : ∃ Wr, (((w.alloc (.cells #[.slice none 0 0] 51)).alloc (.cells #[.int .i64 0] 31)).alloc (.cells #[.slice none 0 0] 51)).alloc (.cells #[.slice A n cap] 30) = Wr := ⟨_, rfl⟩
  have hsz : Wr.heap.size = w.heap.size + 4 := by rw [← hWr]; simp
  have hI0 : DecI w Wr [] (.slice none 0 0) := by
    have S := (((((St.start w).new' #[.slice none 0 0] 51 w.heap.size _ rfl rfl).new' #[.int .i64 0] 31 (w.heap.size + 1) _ (by simp) rfl).new' #[.slice none 0 0] 51 (w.heap.size + 2) _ (by simp) rfl).new' #[.slice A n cap] 30 (w.heap.size + 3) _ (by simp) rfl)
    rw [hWr] at S
    exact ⟨S.c 1 0 rfl rfl, S.f 1 0 rfl rfl, World.ownsRow_nil _ _ _ _, by simp, S.c 3 0 rfl rfl, S.f 3 0 rfl rfl, S.c 2 0 rfl rfl, S.f 2 0 rfl rfl, S.b⟩
  have hcB : Wr.cell? ⟨w.heap.size + 3, 0, none⟩ = some (.slice A n cap) ∧ Wr.frozen? ⟨w.heap.size + 3, 0, none⟩ = false := by
    have := Box.new (((w.alloc (.cells #[.slice none 0 0] 51)).alloc (.cells #[.int .i64 0] 31)).alloc (.cells #[.slice none 0 0] 51)) #[.slice A n cap] 30 0 _ rfl
    rw [hWr] at this
    simpa using this
  replace hWr := Lib.hid hWr
  gi_wp2
  rw [hWr.out]
  refine range_law rfl (by omega) (gf := 53) (lb := #[.pointer (some ⟨w.heap.size + 3, 0, none⟩)]) rfl trivial (enters_of Try.func53 (by kernel_rfl) rfl)
    (fun W => ∃ rs v, D = some (rs.map dat) ∧ DecI w W rs v) (fun W => D = none ∧ DecX w W) ?pr ?px ?iter ?done ?stop
  case pr =>
    rintro W l o o' ⟨rs, v, e, h⟩ hl ho hc
    exact ⟨rs, v, e, h.put o' (by omega) ho hc⟩
  case px =>
    rintro W l o o' ⟨e, h⟩ hl ho hc
    exact ⟨e, h.put o' (by omega) ho hc⟩
  case done =>
    rintro W ⟨rs, v, rfl, h⟩ hK
    rw [hsz] at hK
    obtain ⟨c, f, own, hrs, c0, f0, c1, f1, hb⟩ := h
    obtain ⟨A', c', rfl, rd', hc1, hc2⟩ := own_rd own
    obtain ⟨W2, hW2⟩ : ∃ W2, (W.setCell ⟨w.heap.size, 0, none⟩ (.slice A' rs.length c')).setCell ⟨w.heap.size + 1, 0, none⟩ (.int .i64 0) = W2 := ⟨_, rfl⟩
    have hK2 : W2.heap[w.heap.size + 4]? = some (.deferred (some [])) := by
      rw [← hW2, Below.heap_setCell _ _ _ _ (by simp), Below.heap_setCell _ _ _ _ (by simp)]; exact hK
    have hown2 : W2.ownsRow (w.heap.size + 4) 50 2 (.slice A' rs.length c') rs.length (recV rs) := by
      rw [← hW2]; exact ownsRow_setCell_below (ownsRow_setCell_below own (a := ⟨w.heap.size, 0, none⟩) (by show w.heap.size < _; omega) _) (a := ⟨w.heap.size + 1, 0, none⟩) (by show w.heap.size + 1 < _; omega) _
    have hrs2 : ∀ r ∈ rs, RcOwn W2 (w.heap.size + 4) 5 r := by
      rw [← hW2]; exact fun r hr => ((hrs r hr).set (a := ⟨w.heap.size, 0, none⟩) (by show w.heap.size < _; omega) _).set (a := ⟨w.heap.size + 1, 0, none⟩) (by show w.heap.size + 1 < _; omega) _
    have hb2 : Below w.heap.size w W2 := by
      rw [← hW2]; exact (hb.setCell (p := ⟨w.heap.size, 0, none⟩) (Nat.le_refl _) _).setCell (p := ⟨w.heap.size + 1, 0, none⟩) (by simp) _
    have e0 : W2.cell? ⟨w.heap.size, 0, none⟩ = some (.slice A' rs.length c') := by
      rw [← hW2]; exact cell_set_other _ (World.cell?_setCell_same _ _ _ c0) (by simp)
    have e1 : W2.cell? ⟨w.heap.size + 1, 0, none⟩ = some (.int .i64 0) := by
      rw [← hW2]; exact World.cell?_setCell_same _ _ _ (cell_set_other _ c1 (by simp))
    have hg := grownBy_putObj' W2 (w.heap.size + 4) (.deferred none)
    have hk : ∀ r, some (w.heap.size + 4) = some r → ∃ o : Obj, W2.heap[r]? = some o ∧ o.isCells = false := fun r e => by cases e; exact ⟨_, hK2, rfl⟩
    have d0 := cell_kept e0 hg hk
    have d1 := cell_kept e1 hg hk
    replace hW2 := Lib.hid hW2
    replace hK2 := Lib.hid hK2
    clear e0 e1
    gi_wp2
    rw [hW2.out, hsz]
    refine ⟨by simp, .inl ⟨_, _, rfl, run_takeDeferred hK2.out, ?_⟩⟩
    refine ⟨.tuple #[.slice A' rs.length c', .int .i64 0], by simp [results, Try.results23, go_sem, d0, d1], ?_⟩
    exact ⟨_, rs, rfl, own_mono (ownsRow_putObj hown2 _ hK2.out rfl) (by omega), fun r hr => RcOwn.mono (ownsRow_putObj (hrs2 r hr) _ hK2.out rfl) (by omega), rfl, hb2.grown hg hb2.size fun k e => by cases e; omega⟩
  case stop =>
    rintro W ⟨rfl, h⟩ hK
    rw [hsz] at hK
    obtain ⟨c0, c1, hb⟩ := h
    have hg := grownBy_putObj' W (w.heap.size + 4) (.deferred none)
    have hk : ∀ r, some (w.heap.size + 4) = some r → ∃ o : Obj, W.heap[r]? = some o ∧ o.isCells = false := fun r e => by cases e; exact ⟨_, hK, rfl⟩
    have d0 := cell_kept c0 hg hk
    have d1 := cell_kept c1 hg hk
    replace hK := Lib.hid hK
    gi_wp2
    rw [hsz]
    refine ⟨by simp, .inl ⟨_, _, rfl, run_takeDeferred hK.out, ?_⟩⟩
    refine ⟨.tuple #[.slice none 0 0, .int .i64 4], by simp [results, Try.results23, go_sem, d0, d1], ?_⟩
    exact ⟨_, [], rfl, World.ownsRow_nil _ _ _ _, by simp, rfl, hb.grown hg hb.size fun k e => by cases e; omega⟩
  case iter =>
    intro fn hfn LR hLR
    obtain ⟨W1, hW1⟩ : ∃ W1, (Wr.alloc (.deferred (some []))).alloc (.loop (LR .ready none)) = W1 := ⟨_, rfl⟩
    have hb1 : Below Wr.heap.size Wr W1 := by rw [← hW1]; exact ((Below.refl _ Wr).alloc (Nat.le_refl _) _).alloc (by simp) _
    have hL1 : W1.heap[Wr.heap.size + 1]? = some (.loop (LR .ready none)) := by
      rw [← hW1]; have := World.alloc_heap_new (Wr.alloc (.deferred (some []))) (.loop (LR .ready none)); rwa [World.size_alloc] at this
    have hK1 : W1.heap[Wr.heap.size]? = some (.deferred (some [])) := by
      rw [← hW1]; exact (Below.heap_alloc _ _ _ (by simp)).trans (World.alloc_heap_new Wr _)
    rw [hW1]
    refine (recs_in 5 (by omega) (Wr.heap.size + 1) (w.heap.size + 3) w.heap.size A n cap bs w hr hn.out hcap (by omega) hn2 rfl
      (fun pre W => (∃ rs v, rs.map dat = pre ∧ DecI w W rs v) ∧ W.heap[Wr.heap.size + 1]? = some (.loop (LR .ready none)) ∧ W.heap[Wr.heap.size]? = some (.deferred (some [])))
      (fun W => DecX w W ∧ W.heap[Wr.heap.size + 1]? = some (.loop (LR .done (some .ret))) ∧ W.heap[Wr.heap.size]? = some (.deferred (some [])))
      ?jb ?jc ?jy ?jn W1 ((hI0.below hb1).b) (by omega) (cell_later hb1 hcB.1) (free_later hb1 hcB.1 hcB.2) ⟨⟨[], _, rfl, hI0.below hb1⟩, hL1, hK1⟩).mono ?fin
    case jb =>
      rintro s W W' ⟨⟨rs, v, e, h⟩, hl, hk⟩ hb
      exact ⟨⟨rs, v, e, h.below hb⟩, (hb.block _ (Array.getElem?_eq_some_iff.1 hl).1).trans hl, (hb.block _ (Array.getElem?_eq_some_iff.1 hk).1).trans hk⟩
    case jc =>
      rintro s W u ⟨⟨rs, v, e, h⟩, hl, hk⟩
      exact ⟨⟨rs, v, e, h.set u⟩, (Below.heap_setCell _ _ _ _ (by show _ ≠ w.heap.size + 3; omega)).trans hl, (Below.heap_setCell _ _ _ _ (by show _ ≠ w.heap.size + 3; omega)).trans hk⟩
    case fin =>
      rintro e W' ⟨hv, (⟨l, hl, ⟨rs, v, rfl, h⟩, h2, h3⟩ | ⟨hl, h, h2, h3⟩)⟩
      · exact ⟨hv, .inl ⟨⟨rs, v, hD.out.symm.trans hl, h⟩, h2, h3⟩⟩
      · exact ⟨hv, .inr ⟨⟨hD.out.symm.trans hl, h⟩, h2, h3⟩⟩
    case jn =>
      rintro pre W ⟨⟨rs, v, e, h⟩, hl, hk⟩
      refine yield_round hLR trivial hl rfl ?_
      clear hLR hW1 hL1 hb1 hK1
      gi_wp2
      have hlA := (Below.heap_alloc W (.cells #[.int .i64 0, .slice none 0 0] 50) _ (Array.getElem?_eq_some_iff.1 hl).1).trans hl
      have hkA := (Below.heap_alloc W (.cells #[.int .i64 0, .slice none 0 0] 50) _ (Array.getElem?_eq_some_iff.1 hk).1).trans hk
      refine ⟨hlA, ?_⟩
      obtain ⟨Wb, hWb⟩ : ∃ Wb, (W.alloc (.cells #[.int .i64 0, .slice none 0 0] 50)).putObj (Wr.heap.size + 1) (.loop (LR .busy none)) = Wb := ⟨_, rfl⟩
      have hDb : DecI w Wb rs v := by rw [← hWb]; exact (h.below (below_new' W _)).put _ (by omega) hlA rfl
      have hlb : Wb.heap[Wr.heap.size + 1]? = some (.loop (LR .busy none)) := by rw [← hWb]; exact World.putObj_heap_same (Array.getElem?_eq_some_iff.1 hlA).1
      have hkb : Wb.heap[Wr.heap.size]? = some (.deferred (some [])) := by rw [← hWb]; exact (World.putObj_heap_other (by omega)).trans hkA
      rw [hWb]
      clear hWb hlA hkA hl hk h
      obtain ⟨c, f, own, hrs, c0, f0, c1, f1, hb⟩ := hDb
      obtain ⟨W3, hW3⟩ : ∃ W3, (Wb.setCell ⟨w.heap.size, 0, none⟩ (.slice none 0 0)).setCell ⟨w.heap.size + 1, 0, none⟩ (.int .i64 4) = W3 := ⟨_, rfl⟩
      have hX : DecX w W3 := by
        rw [← hW3]
        exact ⟨cell_set_other _ (World.cell?_setCell_same _ _ _ c0) (by simp), World.cell?_setCell_same _ _ _ (cell_set_other _ c1 (by simp)), (hb.setCell (p := ⟨w.heap.size, 0, none⟩) (Nat.le_refl _) _).setCell (p := ⟨w.heap.size + 1, 0, none⟩) (by simp) _⟩
      have hl3 : W3.heap[Wr.heap.size + 1]? = some (.loop (LR .busy none)) := by
        rw [← hW3, Below.heap_setCell _ _ _ _ (by show _ ≠ w.heap.size + 1; omega), Below.heap_setCell _ _ _ _ (by show _ ≠ w.heap.size; omega)]; exact hlb
      have hk3 : W3.heap[Wr.heap.size]? = some (.deferred (some [])) := by
        rw [← hW3, Below.heap_setCell _ _ _ _ (by show _ ≠ w.heap.size + 1; omega), Below.heap_setCell _ _ _ _ (by show _ ≠ w.heap.size; omega)]; exact hkb
      replace hW3 := Lib.hid hW3
      gi_wp2
      rw [hW3.out]
      exact ⟨hl3, rfl, hX.put _ (by omega) hl3 rfl, World.putObj_heap_same (Array.getElem?_eq_some_iff.1 hl3).1, (World.putObj_heap_other (by omega)).trans hk3⟩
    case jy =>
      rintro pre W r ⟨⟨rs, v, rfl, h⟩, hl, hk⟩ hpl hrc ⟨u, hu⟩ hbW
      refine yield_round hLR trivial hl rfl ?_
      clear hLR hW1 hL1 hb1 hK1
      have hrc0 := hrc
      obtain ⟨t, A3, N, c3, vs⟩ := r
      gi_wp2
      have hlA := (Below.heap_alloc W (.cells #[.int .i64 t, .slice A3 N c3] 50) _ (Array.getElem?_eq_some_iff.1 hl).1).trans hl
      have hkA := (Below.heap_alloc W (.cells #[.int .i64 t, .slice A3 N c3] 50) _ (Array.getElem?_eq_some_iff.1 hk).1).trans hk
      have hBx := Box.new W #[.int .i64 t, .slice A3 N c3] 50
      refine ⟨hlA, ?_⟩
      have hg0 := grownBy_putObj' (W.alloc (.cells #[.int .i64 t, .slice A3 N c3] 50)) (Wr.heap.size + 1) (.loop (LR .busy none))
      have hk0 : ∀ r, some (Wr.heap.size + 1) = some r → ∃ o : Obj, (W.alloc (.cells #[.int .i64 t, .slice A3 N c3] 50)).heap[r]? = some o ∧ o.isCells = false := fun r e => by cases e; exact ⟨_, hlA, rfl⟩
      obtain ⟨Wb, hWb⟩ : ∃ Wb, (W.alloc (.cells #[.int .i64 t, .slice A3 N c3] 50)).putObj (Wr.heap.size + 1) (.loop (LR .busy none)) = Wb := ⟨_, rfl⟩
      have hDb : DecI w Wb rs v := by rw [← hWb]; exact (h.below (below_new' W _)).put _ (by omega) hlA rfl
      have hrb : RcOwn Wb (w.heap.size + 4) 5 ⟨t, A3, N, c3, vs⟩ := by rw [← hWb]; exact ownsRow_putObj (hrc.below (below_new' W _)) _ hlA rfl
      have hlb : Wb.heap[Wr.heap.size + 1]? = some (.loop (LR .busy none)) := by rw [← hWb]; exact World.putObj_heap_same (Array.getElem?_eq_some_iff.1 hlA).1
      have hkb : Wb.heap[Wr.heap.size]? = some (.deferred (some [])) := by rw [← hWb]; exact (World.putObj_heap_other (by omega)).trans hkA
      have b0 : Wb.cell? ⟨W.heap.size, 0, none⟩ = some (.int .i64 t) := by rw [← hWb]; exact cell_kept (hBx.c 0 rfl) hg0 hk0
      have b1 : Wb.cell? ⟨W.heap.size, 1, none⟩ = some (.slice A3 N c3) := by rw [← hWb]; exact cell_kept (hBx.c 1 rfl) hg0 hk0
      have sb : ∀ k, k < W.heap.size → k ≠ Wr.heap.size + 1 → Wb.heap[k]? = W.heap[k]? := fun k h1 h2 => by rw [← hWb]; exact (World.putObj_heap_other (by omega)).trans (Below.heap_alloc W _ _ h1)
      have szb : W.heap.size < Wb.heap.size := World.block_lt_of_cell? _ _ b0
      have hbb : Below w.heap.size W Wb := by
        rw [← hWb]; exact ((Below.refl w.heap.size W).alloc h.b.size _).grown hg0 (by have := h.b.size; simp; omega) fun k e => by cases e; omega
      rw [hWb]
      have hult : w.heap.size + 3 < W.heap.size := World.block_lt_of_cell? _ _ hu
      have hrl : rs.length ≤ 1000000000 := by simpa using hpl
      clear hWb hlA hkA hBx hg0 hk0 hl hk hrc hrc0 h hu
      obtain ⟨c, f, own, hrs, c0, f0, c1, f1, hb⟩ := hDb
      replace hrs := Lib.hid hrs
      replace sb := Lib.hid sb
      obtain ⟨i0, hi, hz0, hz1, hz2⟩ := info_parts (recT' ).info
      have hgl : some (Wr.heap.size + 1) ≠ v.ownBlock := by
        rcases own.2 with ⟨rfl, _⟩ | ⟨g, cap, cur, rfl, _, hh, _⟩
        · simp [Value.ownBlock]
        · intro e; simp only [Value.ownBlock, Option.some.injEq] at e; subst e; rw [hlb] at hh; cases hh
      have hgk : some Wr.heap.size ≠ v.ownBlock := by
        rcases own.2 with ⟨rfl, _⟩ | ⟨g, cap, cur, rfl, _, hh, _⟩
        · simp [Value.ownBlock]
        · intro e; simp only [Value.ownBlock, Option.some.injEq] at e; subst e; rw [hkb] at hh; cases hh
      have hgs : ∀ k, k < w.heap.size + 4 → some k ≠ v.ownBlock := fun k hk e => by have := (own.lt k e.symm).1; omega
      replace hgs := Lib.hid hgs
      have hr1 : rs.length + 1 ≤ maxLen := by simp only [maxLen]; omega
      have hr2 : (rs.length + 1) * 32 ≤ 140737488355328 := by omega
      have hr3 : w.heap.size + 4 ≤ (Wb.alloc (.cells #[.int .i64 t, .slice A3 N c3] 50)).heap.size := by simp; omega
      have hnews : ∀ (j : Nat) (u : Value), [(.int .i64 t : Value), .slice A3 N c3][j]? = some u → (Wb.alloc (.cells #[.int .i64 t, .slice A3 N c3] 50)).cell? ((⟨Wb.heap.size, 0, none⟩ : Addr).add j) = some u :=
        World.news_of_block (cs := #[.int .i64 t, .slice A3 N c3]) (t := 50) (fr := (0, 0)) (heap_alloc_new Wb _)
      have hone : ∀ u ∈ [(.int .i64 t : Value), .slice A3 N c3], u.oneCell' = true := by simp [Value.oneCell']
      gi_wp2_with (gi_at_builtin; refine wpListIn_append_own _ rfl (.tmp 13) (.tmp 15) 51 rfl (w.heap.size + 4) 50 i0 _ 2 32 Try.underlying51 hi hz0 hz1 hz2 rfl (by decide) v rs.length (recV rs) rfl (own.alloc _) ⟨Wb.heap.size, 0, none⟩ 1 1 [.int .i64 t, .slice A3 N c3] rfl rfl hnews hone hr1 hr2 hr3 ?_; intro v' w1 hown' hgrow _; obtain ⟨g', cap', rfl⟩ := ownsRow_succ hown'; have x4 := hgrow.cell (cell_later (below_new' Wb _) c) (hgs.out _ (by show w.heap.size + 2 < _; omega)); have y4 := (World.frozen?_of_block (a := ⟨w.heap.size + 2, 0, none⟩) (hgrow.block (w.heap.size + 2) (by simp; omega) (hgs.out _ (by omega)))).trans (free_later (below_new' Wb _) c f))
      have hba := below_new' Wb (.cells #[.int .i64 t, .slice A3 N c3] 50)
      have stp : ∀ k, k < Wb.heap.size → some k ≠ v.ownBlock → w1.heap[k]? = Wb.heap[k]? := fun k h1 h2 => (hgrow.block k (by simp; omega) h2).trans (Below.heap_alloc Wb _ _ h1)
      have ownA := own.alloc (.cells #[.int .i64 t, .slice A3 N c3] 50)
      obtain ⟨nv, hnv⟩ : ∃ nv, (.slice (some ⟨g', 0, none⟩) (rs.length + 1) cap' : Value) = nv := ⟨_, rfl⟩
      rw [hnv] at hown' ⊢
      have hbw1 : Below w.heap.size W w1 := (hbb.alloc (Nat.le_trans hbW.size hbb.size) _).grown hgrow (by have := hb.size; simp; omega) fun k e => by have := (own.lt k e).1; omega
      have hD2 : DecI w (w1.setCell ⟨w.heap.size + 2, 0, none⟩ nv) (rs ++ [Rc.mk t A3 N c3 vs]) nv := by
        refine ⟨World.cell?_setCell_same w1 _ _ x4, by simp [y4], ?_, ?_, ?_, ?_, ?_, ?_, ?_⟩
        · rw [recV_append, List.length_append]
          exact ownsRow_setCell_below hown' (a := ⟨w.heap.size + 2, 0, none⟩) (by show w.heap.size + 2 < _; omega) _
        · intro r hr
          refine RcOwn.set ?_ (a := ⟨w.heap.size + 2, 0, none⟩) (by show w.heap.size + 2 < _; omega) _
          rcases List.mem_append.1 hr with hr | hr
          · exact ((hrs.out r hr).below hba).grown ownA (by decide) hgrow
          · obtain rfl := List.mem_singleton.1 hr
            exact (hrb.below hba).grown ownA (by decide) hgrow
        · exact cell_set_other _ ((World.cell?_of_block (stp w.heap.size (by have := hb.size; omega) (hgs.out _ (by omega)))).trans c0) (by simp)
        · simp only [World.frozen?_setCell]; exact (World.frozen?_of_block (a := ⟨w.heap.size, 0, none⟩) (stp w.heap.size (by have := hb.size; omega) (hgs.out _ (by omega)))).trans f0
        · exact cell_set_other _ ((World.cell?_of_block (a := ⟨w.heap.size + 1, 0, none⟩) (stp (w.heap.size + 1) (by omega) (hgs.out _ (by omega)))).trans c1) (by simp)
        · simp only [World.frozen?_setCell]; exact (World.frozen?_of_block (a := ⟨w.heap.size + 1, 0, none⟩) (stp (w.heap.size + 1) (by omega) (hgs.out _ (by omega)))).trans f1
        · exact (hbW.trans hbw1).setCell (p := ⟨w.heap.size + 2, 0, none⟩) (by simp) _
      have hl2 : (w1.setCell ⟨w.heap.size + 2, 0, none⟩ nv).heap[Wr.heap.size + 1]? = some (.loop (LR .busy none)) := by
        rw [Below.heap_setCell _ _ _ _ (by show _ ≠ w.heap.size + 2; omega), stp _ (Array.getElem?_eq_some_iff.1 hlb).1 hgl]; exact hlb
      have hk2 : (w1.setCell ⟨w.heap.size + 2, 0, none⟩ nv).heap[Wr.heap.size]? = some (.deferred (some [])) := by
        rw [Below.heap_setCell _ _ _ _ (by show _ ≠ w.heap.size + 2; omega), stp _ (Array.getElem?_eq_some_iff.1 hkb).1 hgk]; exact hkb
      have hBn : ((w1.setCell ⟨w.heap.size + 2, 0, none⟩ nv).putObj (Wr.heap.size + 1) (.loop (LR .ready none))).heap[w.heap.size + 3]? = W.heap[w.heap.size + 3]? := by
        rw [World.putObj_heap_other (by omega), Below.heap_setCell _ _ _ _ (by simp), stp _ (by omega) (hgs.out _ (by omega)), sb.out _ (by omega) (by omega)]
      refine ⟨hl2, rfl, ⟨⟨rs ++ [Rc.mk t A3 N c3 vs], nv, by simp, hD2.put _ (by omega) hl2 rfl⟩, World.putObj_heap_same (Array.getElem?_eq_some_iff.1 hl2).1, (World.putObj_heap_other (by omega)).trans hk2⟩,
        World.cell?_of_block (a := ⟨w.heap.size + 3, 0, none⟩) hBn, World.frozen?_of_block (a := ⟨w.heap.size + 3, 0, none⟩) hBn, ?_⟩
      exact (hbw1.setCell (p := ⟨w.heap.size + 2, 0, none⟩) (by simp) _).grown (grownBy_putObj' _ _ _) (by have h1 := hbW.size; have h2 := hbw1.size; simp; omega) fun k e => by cases e; omega

end Go.Proofs.Ytdepfgalaicpeaa
