/-
  lsdb: Tick.
-/
import Derived.Test.YtkmpmgojgidcgaaDb4
namespace Go.Proofs.Ytkmpmgojgidcgaa
set_option linter.unusedVariables false
open Go.RowKit Go.Maps Go.Sort

theorem dorigins_any (w : World) (g b : Nat) (N : Db) (h : DbAt w g b N) : Calls Try.prog 43 #[.pointer (some ⟨g, 0, none⟩)] w fun e w' => ∃ A c, e = .returned (.slice A (orgs N).length c) ∧
    w'.ownsRow w.heap.size 3 1 (.slice A (orgs N).length c) (orgs N).length ((orgs N).map encZ) ∧ Below w.heap.size w w' := by
  obtain ⟨⟨M, hm, he⟩, hc⟩ := h
  have hko := keysL_orgs hm he
  obtain ⟨D, hown, hd⟩ := hm
  have hs := size_keys hown hd
  refine (origins_any g b 64 D hdR w hc hown (by unfold maxLen; omega) (by omega)).mono ?_
  rintro e w' ⟨v, ss, he, hp, hrow, hnil, hb⟩
  rw [sort_keys hown hd hp, hko] at hrow
  have hl : ss.length = (orgs N).length := by
    rw [← hko, ← sort_keys hown hd hp, List.length_mergeSort]
  rw [hl] at hrow
  obtain ⟨A, c, rfl, _⟩ := own_rd hrow
  exact ⟨A, c, he, hrow, hb⟩

theorem intT : ElemT Try.prog 78 3 (.int .i64 0) 1 8 := ⟨Try.underlying78, by kernel_rfl, rfl, by omega⟩
def DTickPost (w : World) (g b : Nat) (N : Db) (n : Int) (e : Ending) (w' : World) : Prop :=
  ∃ v, e = .returned v ∧ w'.ownsRow w.heap.size 3 1 v (tickL n N).length ((tickL n N).map encZ) ∧ DbAt w' g b (tickN n N) ∧ w.grownBy w' (some b)
/-- The state between two rounds. -/
structure TkAt (w wr : World) (g b : Nat) (N : Db) (n : Int) (B : Nat) (v14 v5 : Value) (k : Nat) (es : List Int) : Prop where
  ex : ∃ M, MapIs wr b M ∧ ∀ i : Nat, i < 64 → ElAt w (M (i : Int)) (midN n N k i)
  cell : wr.cell? ⟨g, 0, none⟩ = some (.map (some b))
  gr : w.grownBy wr (some b)
  o14 : wr.ownsRow w.heap.size 3 1 v14 (orgs N).length ((orgs N).map encZ)
  o5 : wr.ownsRow B 3 1 v5 es.length (es.map encZ)
  he : es = ((orgs N).take k).filter (fun i => expH n (N i.toNat))
  sz : B ≤ wr.heap.size

theorem own_far {w : World} {base : Nat} {e : TypeId} {size : Nat} {v : Value} {n : Nat} {xs : List Value} (h : w.ownsRow base e size v n xs) {p : Addr} (hp : ∀ k, v.ownBlock = some k → k ≠ p.block) (u : Value) : (w.setCell p u).ownsRow base e size v n xs := by
  refine ⟨h.1, ?_⟩
  rcases h.2 with h2 | ⟨g, cap, cur, rfl, hg, hh, r⟩
  · exact .inl h2
  · exact .inr ⟨g, cap, cur, rfl, hg, (heap_setCell_other w p g u (fun e => hp g rfl e)).trans hh, r⟩
/-- The state within a round: the box of the held advertisement lies in block g2. -/
structure TkW (w W : World) (g b : Nat) (M : Int → Option Value) (N : Db) (B : Nat) (v14 v5 : Value) (es : List Int) (g2 : Nat) (cs : List Value) : Prop where
  hm : MapIs W b M
  c : W.cell? ⟨g, 0, none⟩ = some (.map (some b))
  gr : w.grownBy W (some b)
  o14 : W.ownsRow w.heap.size 3 1 v14 (orgs N).length ((orgs N).map encZ)
  o5 : W.ownsRow B 3 1 v5 es.length (es.map encZ)
  l14 : ∀ bb, v14.ownBlock = some bb → bb < B
  l5 : ∀ bb, v5.ownBlock = some bb → bb ≠ g2
  bx : Box W g2 cs
  pos : 0 < cs.length
  hB : B ≤ g2
  hw : w.heap.size ≤ B
  hg : g < w.heap.size
  hb : b < w.heap.size
section
variable {w W W' : World} {g b : Nat} {M : Int → Option Value} {N : Db} {B : Nat} {v14 v5 : Value} {es : List Int} {g2 : Nat} {cs : List Value}
theorem TkW.sz (h : TkW w W g b M N B v14 v5 es g2 cs) : B ≤ W.heap.size := Nat.le_trans h.hB (Nat.le_of_lt (h.bx.lt h.pos))
theorem TkW.set (h : TkW w W g b M N B v14 v5 es g2 cs) (j : Nat) (u : Value) (hj : j < cs.length) (cs' : List Value) (hcs : cs.set j u = cs') : TkW w (W.setCell ⟨g2, j, none⟩ u) g b M N B v14 v5 es g2 cs' := by
  subst hcs
  have h1 := h.hB; have h2 := h.hw; have h3 := h.hg; have h4 := h.hb
  refine ⟨h.hm.kept (grownBy_set W g2 j u) (fun e => by injection e; omega), (cell_far u (by intro e; injection e; omega)).trans h.c, ?_, own_far h.o14 (fun k hk => by have := h.l14 k hk; simp only; omega) u, own_far h.o5 (fun k hk => h.l5 k hk) u, h.l14, h.l5, h.bx.set j u hj, by rw [List.length_set]; exact h.pos, h.hB, h.hw, h.hg, h.hb⟩
  have hg := grownBy_set W g2 j u
  refine ⟨hg.os.trans h.gr.os, hg.tape.trans h.gr.tape, hg.output.trans h.gr.output, Nat.le_trans h.gr.size hg.size, fun k hk hne => ?_⟩
  exact (hg.block k (Nat.lt_of_lt_of_le hk h.gr.size) (fun e => by injection e; omega)).trans (h.gr.block k hk hne)
theorem TkW.below (h : TkW w W g b M N B v14 v5 es g2 cs) (hb : Below W.heap.size W W') : TkW w W' g b M N B v14 v5 es g2 cs :=
  ⟨h.hm.below hb, cell_later hb h.c, h.gr.trans (below_row hb _), own_below h.o14 hb, own_below h.o5 hb, h.l14, h.l5, h.bx.later hb, h.pos, h.hB, h.hw, h.hg, h.hb⟩
theorem TkW.drew (h : TkW w W g b M N B v14 v5 es g2 cs) : TkW w W.drew g b M N B v14 v5 es g2 cs := h.below ⟨rfl, rfl, rfl, Nat.le_refl _, fun _ _ => rfl⟩
theorem TkW.app (h : TkW w W g b M N B v14 v5 es g2 cs) {v5' : Value} {es' : List Int} (ho : W'.ownsRow B 3 1 v5' es'.length (es'.map encZ)) (hbel : Below B W W') (hg : W.grownBy W' v5.ownBlock) (hv : v5'.ownBlock = v5.ownBlock ∨ v5'.ownBlock = some W.heap.size) : TkW w W' g b M N B v14 v5' es' g2 cs := by
  have h1 := h.hB; have h2 := h.hw; have h3 := h.hg; have h4 := h.hb
  have hl := h.bx.lt h.pos
  refine ⟨h.hm.belowB hbel (by omega), (hbel.cell (p := ⟨g, 0, none⟩) (by simp only; omega)).trans h.c, grown_belowB h.gr hbel h.hw, own_belowB h.o14 hbel h.l14, ho, h.l14, fun bb e => ?_, h.bx.kept hg (fun e => h.l5 g2 e.symm rfl) h.pos, h.pos, h.hB, h.hw, h.hg, h.hb⟩
  rcases hv with e2 | e2
  · exact h.l5 bb (e2 ▸ e)
  · rw [e2] at e; injection e; omega
/-- Behind the map's turn. -/
theorem TkW.fin (h : TkW w W g b M N B v14 v5 es g2 cs) {w9 : World} (hg9 : W.grownBy w9 (some b)) : w9.cell? ⟨g, 0, none⟩ = some (.map (some b)) ∧ w.grownBy w9 (some b) ∧ w9.ownsRow w.heap.size 3 1 v14 (orgs N).length ((orgs N).map encZ) ∧ w9.ownsRow B 3 1 v5 es.length (es.map encZ) ∧ B ≤ w9.heap.size := by
  have h1 := h.hB; have h2 := h.hw; have h3 := h.hg; have h4 := h.hb
  have hne : g ≠ b := fun e => by have := h.c; rw [e, h.hm.no_cell] at this; cases this
  refine ⟨?_, h.gr.trans hg9, own_rowB h.o14 hg9 h.hb, own_rowB h.o5 hg9 (by omega), Nat.le_trans h.sz hg9.size⟩
  rw [World.cell?_of_block (a := ⟨g, 0, none⟩) (hg9.block g (World.block_lt_of_cell? _ _ h.c) (fun e => hne (by injection e)))]
  exact h.c
end

set_option maxRecDepth 100000 in
set_option maxHeartbeats 12800000 in
theorem dtick_any (w : World) (g b : Nat) (N : Db) (n : Int) (h : DbAt w g b N) (hok : DbOk N) (hN : ∀ i, 64 ≤ i → N i = none) (hn0 : 0 < n) (hn : n ≤ 1000000) :
    Calls Try.prog 32 #[.pointer (some ⟨g, 0, none⟩), .int .i64 n] w (DTickPost w g b N n) := by
  have O := dorigins_any w g b N h
  have hgb := h.ne
  obtain ⟨hgl, hbl⟩ := h.lt
  have hlen := orgs_len N
  have hfin : Hid (∀ (wr : World) (B : Nat) (v14 v5 : Value) (es : List Int), w.heap.size ≤ B → TkAt w wr g b N n B v14 v5 (orgs N).length es → DTickPost w g b N n (.returned v5) wr) := fun wr B v14 v5 es hB T => by
    obtain ⟨M, hm, he⟩ := T.ex
    rw [midN_end n N hN] at he
    have e2 : es = tickL n N := by rw [T.he, List.take_length]; rfl
    refine ⟨v5, rfl, ?_, ⟨⟨M, hm, fun i hi => ?_⟩, T.cell⟩, T.gr⟩
    · rw [← e2]; exact own_mono T.o5 hB
    · have hmw := h.ex
      obtain ⟨M0, hm0, _⟩ := hmw
      exact (he i hi).keptMap hm0 T.gr
  obtain ⟨⟨M, hm, he⟩, hc⟩ := id h
  replace O := Lib.hid O
  go_enter Try.func32, Try.ntmps32
  go_wp2_with fail
  (with_reducible refine (O.out).mono ?_)
  rintro e w1 ⟨A, c, rfl, o14, hb⟩
  clear O
  have hT : TkAt w w1 g b N n w1.heap.size (.slice A (orgs N).length c) (.slice none 0 0) 0 [] :=
    ⟨⟨M, hm.below hb, fun i hi => by rw [midN_zero]; exact he i hi⟩, cell_later hb hc, below_row hb _, o14, World.ownsRow_nil _ _ _ _, by simp, Nat.le_refl _⟩
  have hlt14 : Hid (∀ bb, (Value.slice A (orgs N).length c).ownBlock = some bb → bb < w1.heap.size) := fun bb e => (o14.lt bb e).2
  have hw1 := hb.size
  replace hm := Lib.hid hm
  clear o14 hb he hc h
  generalize hB : w1.heap.size = B at *
  clear hB
  replace hT := Lib.hid hT
  replace hN := Lib.hid hN
  replace hok := Lib.hid hok
  generalize hL : (orgs N).length = len at *
  replace hL := Lib.hid hL
  go_wp2_with fail
  go_loopw [5, 16] (fun v5 v16 wr => ∃ (k : Nat) (es : List Int), v16 = .int .i64 k ∧ k ≤ len ∧ es.length ≤ k ∧ Hid (TkAt w wr g b N n B (.slice A len c) v5 k es)) (fun _ v16 _ => len - (intOf v16).toNat)
  case atStart => exact ⟨0, [], rfl, by omega, by simp, hT⟩
  case round =>
    clear hT
    obtain ⟨k, es, rfl, hk, hes, hT⟩ := hrel
    by_cases hkn : k < len
    · have hkl : k < (orgs N).length := by rw [hL.out]; exact hkn
      obtain ⟨⟨Mk, hmk, hek⟩, hck, hgr, ho14, ho5, hes2, hsz⟩ := hT.out
      have hmem := (orgs_mem (N := N) (orgs N)[k]).1 (List.getElem_mem hkl)
      obtain ⟨q, hq⟩ := Int.eq_ofNat_of_zero_le hmem.1.1
      have hq64 : q < 64 := by have := hmem.1.2; omega
      obtain ⟨hh, hNq⟩ : ∃ hh, N q = some hh := by
        have := hmem.2
        rw [hq, Int.toNat_natCast] at this
        exact Option.isSome_iff_exists.1 this
      have hat := midN_at n N k hkl q hq
      have hsucc := midN_succ n N k hkl q hq
      have htake := tickL_take n N k hkl q hq
      have heq := hek q hq64
      rw [hat, hNq] at heq
      obtain ⟨Mv, hMv⟩ : ∃ Mv, Mk (q : Int) = Mv := ⟨_, rfl⟩
      rw [hMv] at heq
      cases Mv with
      | none => exact heq.elim
      | some vv =>
      obtain ⟨A2, c2, B2, d2, rfl, hla⟩ := heq
      obtain ⟨hva, hxo, hl1, hl2⟩ := hok.out q hh hNq
      have hage := hva.2.2.1
      have ho14b := ho14
      rw [hL.out] at ho14b
      have r14 := own_slice ho14b
      clear ho14b
      have L := hmk.run_at (i := (q : Int)) (wf64 (by omega) (by omega))
      rw [hMv] at L
      simp only [Option.getD_some] at L
      unfold hdV at L
      obtain ⟨b14, off14, rfl, hz14⟩ := rd_at r14 (by simpa using Nat.lt_of_le_of_lt (Nat.zero_le _) hkl)
      have z14 : wr.cell? ⟨b14, off14 + k, none⟩ = some (.int .i64 (q : Int)) := hz14 k _ (by rw [List.getElem?_map, List.getElem?_eq_getElem hkl, hq]; rfl)
      clear hz14 r14
      have hnext : Hid (∀ (wr' : World) (v5' : Value) (es' : List Int) (Mn : Int → Option Value), MapIs wr' b (fun j => if j = (q : Int) then Mn q else Mk j) → ElAt w (Mn q) (tickN n N q) → wr'.cell? ⟨g, 0, none⟩ = some (.map (some b)) → w.grownBy wr' (some b) →
          wr'.ownsRow w.heap.size 3 1 (.slice (some ⟨b14, off14, none⟩) len c) (orgs N).length ((orgs N).map encZ) → wr'.ownsRow B 3 1 v5' es'.length (es'.map encZ) → es' = es ++ (if expH n (N q) = true then [(q : Int)] else []) → B ≤ wr'.heap.size →
          TkAt w wr' g b N n B (.slice (some ⟨b14, off14, none⟩) len c) v5' (k + 1) es') := fun wr' v5' es' Mn h1 h2 h3 h4 h5 h6 h7 h8 => by
        refine ⟨⟨_, h1, fun i hi => ?_⟩, h3, h4, h5, h6, by rw [h7, htake, ← hes2], h8⟩
        rw [hsucc]
        by_cases e : i = q
        · subst e; simp only [if_true]; exact h2
        · have e' : ¬ (i : Int) = (q : Int) := by omega
          simp only [if_neg e, if_neg e']
          exact hek i hi
      clear hsucc htake hat hek hmem hq hkl hT
      replace hes2 := Lib.hid hes2
      replace hMv := Lib.hid hMv
      replace hxo := Lib.hid hxo
      replace hNq := Lib.hid hNq
      have htk : Hid (tickN n N q = (tickH n hh).1 ∧ expH n (N q) = (tickH n hh).2) := by
        show _ ∧ _
        unfold tickN expH
        rw [hNq.out]
        exact ⟨rfl, rfl⟩
      have b9 := below_new' wr (.cells #[.int .i64 hh.x.o, .int .i64 hh.x.s, .int .i64 hh.x.a, .bool hh.x.ov, .slice A2 hh.x.adj.length c2, .slice B2 hh.x.pre.length d2, .int .i64 hh.l] 89)
      have hT0 : TkW w (wr.alloc (.cells #[.int .i64 hh.x.o, .int .i64 hh.x.s, .int .i64 hh.x.a, .bool hh.x.ov, .slice A2 hh.x.adj.length c2, .slice B2 hh.x.pre.length d2, .int .i64 hh.l] 89)) g b Mk N B (.slice (some ⟨b14, off14, none⟩) len c) u5 es wr.heap.size [.int .i64 hh.x.o, .int .i64 hh.x.s, .int .i64 hh.x.a, .bool hh.x.ov, .slice A2 hh.x.adj.length c2, .slice B2 hh.x.pre.length d2, .int .i64 hh.l] :=
        ⟨hmk.below b9, cell_later b9 hck, hgr.trans (below_row b9 (some b)), own_below ho14 b9, own_below ho5 b9, hlt14.out, fun bb e => by have := (ho5.lt bb e).2; omega, Box.new' wr #[.int .i64 hh.x.o, .int .i64 hh.x.s, .int .i64 hh.x.a, .bool hh.x.ov, .slice A2 hh.x.adj.length c2, .slice B2 hh.x.pre.length d2, .int .i64 hh.l] 89 wr.heap.size _ rfl rfl, by simp, hsz, hw1, hgl, hbl⟩
      go_upto_region 9 with fail
      clear z14 L hmk hck hgr ho14 ho5 hsz b9
      generalize wr.alloc _ = w2 at *
      generalize wr.heap.size = g2 at *
      by_cases hA : hh.x.a < 3600
      · by_cases hB1 : n < 3600 - hh.x.a
        · have hval : tickH n hh = (some ⟨{ hh.x with a := hh.x.a + n }, hh.l⟩, false) := by unfold tickH; rw [if_pos hA, if_pos hB1]
          have e1 := htk.out.1
          have e2 := htk.out.2
          rw [hval] at e1 e2
          have hel : Hid (ElAt w (some (.agg #[.int .i64 hh.x.o, .int .i64 hh.x.s, .int .i64 (hh.x.a + n), .bool hh.x.ov, .slice A2 hh.x.adj.length c2, .slice B2 hh.x.pre.length d2, .int .i64 hh.l])) (tickN n N q)) := by
            show ElAt _ _ _
            rw [e1]
            exact ⟨A2, c2, B2, d2, rfl, hla.renum hh.x.o hh.x.s (hh.x.a + n) hh.x.ov⟩
          have e3 : Hid (es = es ++ (if expH n (N q) = true then [(q : Int)] else [])) := by show _ = _; rw [e2]; simp
          have a2 := hT0.bx.c 2 rfl
          have f2 := hT0.bx.f 2 rfl
          have hT1 := hT0.set 2 (.int .i64 (hh.x.a + n)) (by simp) [.int .i64 hh.x.o, .int .i64 hh.x.s, .int .i64 (hh.x.a + n), .bool hh.x.ov, .slice A2 hh.x.adj.length c2, .slice B2 hh.x.pre.length d2, .int .i64 hh.l] rfl
          clear e1 e2 hval htk hla
          go_upto_region 12 with fail
          clear a2 f2 hT0
          generalize World.setCell _ _ _ = w3 at *
          have TD := hT1.drew
          have c1 := TD.c
          have y0 := TD.bx.c 0 rfl
          have y1 := TD.bx.c 1 rfl
          have y2 := TD.bx.c 2 rfl
          have y3 := TD.bx.c 3 rfl
          have y4 := TD.bx.c 4 rfl
          have y5 := TD.bx.c 5 rfl
          have y6 := TD.bx.c 6 rfl
          obtain ⟨w9, run9, hm9, hg9⟩ := TD.hm.run_put (i := (q : Int)) (by omega) (by omega) (.agg #[.int .i64 hh.x.o, .int .i64 hh.x.s, .int .i64 (hh.x.a + n), .bool hh.x.ov, .slice A2 hh.x.adj.length c2, .slice B2 hh.x.pre.length d2, .int .i64 hh.l])
          obtain ⟨t1, t2, t3, t4, t5⟩ := TD.fin hg9
          have hT9 := hnext.out w9 u5 es (fun _ => some (.agg #[.int .i64 hh.x.o, .int .i64 hh.x.s, .int .i64 (hh.x.a + n), .bool hh.x.ov, .slice A2 hh.x.adj.length c2, .slice B2 hh.x.pre.length d2, .int .i64 hh.l])) hm9 (hel.out) t1 t2 t3 t4 (e3.out) t5
          replace hT9 := Lib.hid hT9
          clear hm9 hg9 t1 t2 t3 t4 t5 TD hT1
          go_region_law (fail)
          all_goals
            clear run9 y0 y1 y2 y3 y4 y5 y6 c1
            go_wp2_with fail
            go_round
            case rel => exact ⟨k + 1, es, by go_num, by omega, by omega, hT9⟩
            case measure => simp [intOf]; omega
        · have e1 := htk.out.1
          have e2 := htk.out.2
          have hval : tickH n hh = (if 60 ≤ n - (3600 - hh.x.a) then none else some ⟨purgeX hh.x, 60 - (n - (3600 - hh.x.a))⟩, true) := by unfold tickH; rw [if_pos hA, if_neg hB1]
          rw [hval] at e1 e2
          simp only at e1 e2
          have e3 : Hid (es ++ [(q : Int)] = es ++ (if expH n (N q) = true then [(q : Int)] else [])) := by show _ = _; rw [e2]; simp
          have P0 := lpurge_any w2 _ hh.x (hla.keptMap hm.out hT0.gr)
          unfold PurgePost purgeE purgeV at P0
          rw [vB_t hva, if_pos rfl, if_pos rfl] at P0
          have P : Calls Try.prog 54 #[laV hh.x.o hh.x.s hh.x.a hh.x.ov A2 hh.x.adj.length c2 B2 hh.x.pre.length d2] w2 (fun e w' => ∃ A3 c3 B3 d3, e = .returned (.tuple #[laV hh.x.o hh.x.s 3600 false A3 0 c3 B3 0 d3, .int .i64 0]) ∧ LaAt w (laV hh.x.o hh.x.s 3600 false A3 0 c3 B3 0 d3) (purgeX hh.x) ∧ Below w2.heap.size w2 w') := P0.mono (by
            rintro e w' ⟨v3, he, ⟨A3, c3, B3, d3, rfl, o1, o2, hu⟩, hb⟩
            obtain ⟨A8, c8, e8, _, l8, m8⟩ := own_rd o1
            obtain ⟨A9, c9, e9, _, l9, m9⟩ := own_rd o2
            injection e8 with e8 e8' e8''
            injection e9 with e9 e9' e9''
            subst e8 e8'' e9 e9''
            exact ⟨A3, c3, B3, d3, he, ⟨A3, c3, B3, d3, rfl, Rd.nil _ _, Rd.nil _ _, by simp [purgeX], m8, by simp [purgeX], m9, by simp [purgeX]⟩, hb⟩)
          clear P0
          replace P := Lib.hid P
          replace e1 := Lib.hid e1
          clear e2 hval htk hla
          obtain ⟨rest, hrest⟩ : ∃ z, n - (3600 - hh.x.a) = z := ⟨_, rfl⟩
          have hr0 : 0 ≤ rest := by omega
          have hr1 : rest ≤ 1000000 := by omega
          have a0 := hT0.bx.c 0 rfl
          have a1 := hT0.bx.c 1 rfl
          have a2 := hT0.bx.c 2 rfl
          have a3 := hT0.bx.c 3 rfl
          have a4 := hT0.bx.c 4 rfl
          have a5 := hT0.bx.c 5 rfl
          rw [hrest] at e1
          go_upto_region 14 with fail
          clear hrest
          go_wp2_with fail
          (with_reducible refine (P.out).mono ?_)
          rintro e w3 ⟨A3, c3, B3, d3, rfl, hl3, hb⟩
          replace hl3 := Lib.hid hl3
          have hT1 := hT0.below hb
          clear P a0 a1 a2 a3 a4 a5 hT0 hb
          have hT2 := ((((((hT1.set 0 (.int .i64 hh.x.o) (by simp) _ rfl).set 1 (.int .i64 hh.x.s) (by simp) _ rfl).set 2 (.int .i64 3600) (by simp) _ rfl).set 3 (.bool false) (by simp) _ rfl).set 4 (.slice A3 0 c3) (by simp) _ rfl).set 5 (.slice B3 0 d3) (by simp) [.int .i64 hh.x.o, .int .i64 hh.x.s, .int .i64 3600, .bool false, .slice A3 0 c3, .slice B3 0 d3, .int .i64 hh.l] rfl)
          have a0 := hT1.bx.c 0 rfl
          have a1 := hT1.bx.c 1 rfl
          have a2 := hT1.bx.c 2 rfl
          have a3 := hT1.bx.c 3 rfl
          have a4 := hT1.bx.c 4 rfl
          have a5 := hT1.bx.c 5 rfl
          have f0 := hT1.bx.f 0 rfl
          have f1 := hT1.bx.f 1 rfl
          have f2 := hT1.bx.f 2 rfl
          have f3 := hT1.bx.f 3 rfl
          have f4 := hT1.bx.f 4 rfl
          have f5 := hT1.bx.f 5 rfl
          go_upto_region 15 with fail
          clear a0 a1 a2 a3 a4 a5 f0 f1 f2 f3 f4 f5 hT1
          generalize World.setCell _ _ _ = w4 at *
          have a6 := hT2.bx.c 6 rfl
          have f6 := hT2.bx.f 6 rfl
          have hT3 := hT2.set 6 (.int .i64 60) (by simp) [.int .i64 hh.x.o, .int .i64 hh.x.s, .int .i64 3600, .bool false, .slice A3 0 c3, .slice B3 0 d3, .int .i64 60] rfl
          go_upto_region 16 with fail
          clear a6 f6 hT2
          generalize World.setCell _ _ _ = w5 at *
          have hT4 := hT3.below (below_new' w5 (.cells #[.int .i64 (q : Int)] 3))
          have rd0 := Rd.lit w5 #[.int .i64 (q : Int)] 3
          have o5 := hT4.o5
          have hsz4 := hT4.sz
          have hes64 : es.length ≤ 64 := by omega
          clear hT3
          by_cases hR : 60 ≤ rest
          · have e4 : Hid (ElAt w none (tickN n N q)) := by show ElAt _ _ _; rw [e1.out, if_pos hR]; trivial
            clear e1
            go_wp2_with (at_builtin; refine wpList_appB rfl intT (.tmp 64) (.tmp 66) rfl B rfl o5 (m := 1) rfl (by simp) rd0 (by simp [Value.oneCell']) (by simp only [maxLen]; omega) (by omega) hsz4 (es.length + 1) ((es ++ [(q : Int)]).map encZ) rfl (by simp) ?_; intro v6 w6 o6 hbel6 hg6 hv6; have hT5 := hT4.app (es' := es ++ [(q : Int)]) (by rw [List.length_append]; exact o6) hbel6 hg6 hv6; have a6 := hT5.bx.c 6 rfl; clear o6 hbel6 hg6 hv6; have c1 := hT5.c; obtain ⟨w9, run9, hm9, hg9⟩ := hT5.hm.run_del (i := (q : Int)) (wf64 (by omega) (by omega)) 0)
            obtain ⟨t1, t2, t3, t4, t5⟩ := hT5.fin hg9
            have hT9 := hnext.out w9 v6 (es ++ [(q : Int)]) (fun _ => none) hm9 (e4.out) t1 t2 t3 t4 (e3.out) t5
            replace hT9 := Lib.hid hT9
            clear hm9 hg9 t1 t2 t3 t4 t5
            go_wp2_with fail
            go_round
            case rel => exact ⟨k + 1, (es ++ [(q : Int)]), by go_num, by omega, by rw [List.length_append, List.length_singleton]; omega, hT9⟩
            case measure => simp [intOf]; omega
          · have e4 : Hid (ElAt w (some (.agg #[.int .i64 hh.x.o, .int .i64 hh.x.s, .int .i64 3600, .bool false, .slice A3 0 c3, .slice B3 0 d3, .int .i64 (60 - rest)])) (tickN n N q)) := by
              show ElAt _ _ _
              rw [e1.out, if_neg hR]
              exact ⟨A3, c3, B3, d3, rfl, hl3.out⟩
            clear e1
            go_wp2_with (at_builtin; refine wpList_appB rfl intT (.tmp 64) (.tmp 66) rfl B rfl o5 (m := 1) rfl (by simp) rd0 (by simp [Value.oneCell']) (by simp only [maxLen]; omega) (by omega) hsz4 (es.length + 1) ((es ++ [(q : Int)]).map encZ) rfl (by simp) ?_; intro v6 w6 o6 hbel6 hg6 hv6; have hT5 := hT4.app (es' := es ++ [(q : Int)]) (by rw [List.length_append]; exact o6) hbel6 hg6 hv6; have a6 := hT5.bx.c 6 rfl; clear o6 hbel6 hg6 hv6; have f6 := hT5.bx.f 6 rfl)
            have hT6 := hT5.set 6 (.int .i64 (60 - rest)) (by simp) [.int .i64 hh.x.o, .int .i64 hh.x.s, .int .i64 3600, .bool false, .slice A3 0 c3, .slice B3 0 d3, .int .i64 (60 - rest)] rfl
            clear a6 f6 hT5 hT4 o5 rd0
            generalize World.setCell _ _ _ = w7 at *
            have TD := hT6.drew
            have c1 := TD.c
            have y0 := TD.bx.c 0 rfl
            have y1 := TD.bx.c 1 rfl
            have y2 := TD.bx.c 2 rfl
            have y3 := TD.bx.c 3 rfl
            have y4 := TD.bx.c 4 rfl
            have y5 := TD.bx.c 5 rfl
            have y6 := TD.bx.c 6 rfl
            obtain ⟨w9, run9, hm9, hg9⟩ := TD.hm.run_put (i := (q : Int)) (by omega) (by omega) (.agg #[.int .i64 hh.x.o, .int .i64 hh.x.s, .int .i64 3600, .bool false, .slice A3 0 c3, .slice B3 0 d3, .int .i64 (60 - rest)])
            obtain ⟨t1, t2, t3, t4, t5⟩ := TD.fin hg9
            have hT9 := hnext.out w9 v6 (es ++ [(q : Int)]) (fun _ => some (.agg #[.int .i64 hh.x.o, .int .i64 hh.x.s, .int .i64 3600, .bool false, .slice A3 0 c3, .slice B3 0 d3, .int .i64 (60 - rest)])) hm9 (e4.out) t1 t2 t3 t4 (e3.out) t5
            replace hT9 := Lib.hid hT9
            clear hm9 hg9 t1 t2 t3 t4 t5 TD hT6
            go_region_law (fail)
            all_goals
              clear run9 y0 y1 y2 y3 y4 y5 y6 c1
              go_wp2_with fail
              go_round
              case rel => exact ⟨k + 1, (es ++ [(q : Int)]), by go_num, by omega, by rw [List.length_append, List.length_singleton]; omega, hT9⟩
              case measure => simp [intOf]; omega
      · have hval : tickH n hh = (if hh.l ≤ n then none else some ⟨hh.x, hh.l - n⟩, false) := by unfold tickH; rw [if_neg hA]
        have e1 := htk.out.1
        have e2 := htk.out.2
        rw [hval] at e1 e2
        simp only at e1 e2
        have e3 : Hid (es = es ++ (if expH n (N q) = true then [(q : Int)] else [])) := by show _ = _; rw [e2]; simp
        have a2 := hT0.bx.c 2 rfl
        have a6 := hT0.bx.c 6 rfl
        by_cases hR : hh.l ≤ n
        · have e4 : Hid (ElAt w none (tickN n N q)) := by show ElAt _ _ _; rw [e1, if_pos hR]; trivial
          clear e1 e2 hval htk hla
          obtain ⟨w9, run9, hm9, hg9⟩ := hT0.hm.run_del (i := (q : Int)) (wf64 (by omega) (by omega)) 0
          obtain ⟨t1, t2, t3, t4, t5⟩ := hT0.fin hg9
          have hT9 := hnext.out w9 u5 es (fun _ => none) hm9 (e4.out) t1 t2 t3 t4 (e3.out) t5
          replace hT9 := Lib.hid hT9
          have c1 := hT0.c
          clear hm9 hg9 t1 t2 t3 t4 t5
          go_wp2_with fail
          go_round
          case rel => exact ⟨k + 1, es, by go_num, by omega, by omega, hT9⟩
          case measure => simp [intOf]; omega
        · have e4 : Hid (ElAt w (some (.agg #[.int .i64 hh.x.o, .int .i64 hh.x.s, .int .i64 hh.x.a, .bool hh.x.ov, .slice A2 hh.x.adj.length c2, .slice B2 hh.x.pre.length d2, .int .i64 (hh.l - n)])) (tickN n N q)) := by
            show ElAt _ _ _
            rw [e1, if_neg hR]
            exact ⟨A2, c2, B2, d2, rfl, hla⟩
          clear e1 e2 hval htk hla
          have f6 := hT0.bx.f 6 rfl
          have hT1 := hT0.set 6 (.int .i64 (hh.l - n)) (by simp) [.int .i64 hh.x.o, .int .i64 hh.x.s, .int .i64 hh.x.a, .bool hh.x.ov, .slice A2 hh.x.adj.length c2, .slice B2 hh.x.pre.length d2, .int .i64 (hh.l - n)] rfl
          go_upto_region 20 with fail
          clear a2 a6 f6 hT0
          generalize World.setCell _ _ _ = w3 at *
          have TD := hT1.drew
          have c1 := TD.c
          have y0 := TD.bx.c 0 rfl
          have y1 := TD.bx.c 1 rfl
          have y2 := TD.bx.c 2 rfl
          have y3 := TD.bx.c 3 rfl
          have y4 := TD.bx.c 4 rfl
          have y5 := TD.bx.c 5 rfl
          have y6 := TD.bx.c 6 rfl
          obtain ⟨w9, run9, hm9, hg9⟩ := TD.hm.run_put (i := (q : Int)) (by omega) (by omega) (.agg #[.int .i64 hh.x.o, .int .i64 hh.x.s, .int .i64 hh.x.a, .bool hh.x.ov, .slice A2 hh.x.adj.length c2, .slice B2 hh.x.pre.length d2, .int .i64 (hh.l - n)])
          obtain ⟨t1, t2, t3, t4, t5⟩ := TD.fin hg9
          have hT9 := hnext.out w9 u5 es (fun _ => some (.agg #[.int .i64 hh.x.o, .int .i64 hh.x.s, .int .i64 hh.x.a, .bool hh.x.ov, .slice A2 hh.x.adj.length c2, .slice B2 hh.x.pre.length d2, .int .i64 (hh.l - n)])) hm9 (e4.out) t1 t2 t3 t4 (e3.out) t5
          replace hT9 := Lib.hid hT9
          clear hm9 hg9 t1 t2 t3 t4 t5 TD hT1
          go_region_law (fail)
          all_goals
            clear run9 y0 y1 y2 y3 y4 y5 y6 c1
            go_wp2_with fail
            go_round
            case rel => exact ⟨k + 1, es, by go_num, by omega, by omega, hT9⟩
            case measure => simp [intOf]; omega
    · obtain rfl : k = len := by omega
      have hf := hfin.out _ _ _ _ _ hw1 hT.out
      replace hf := Lib.hid hf
      clear hT
      go_wp2_with fail
      go_ret
      exact hf.out

end Go.Proofs.Ytkmpmgojgidcgaa
