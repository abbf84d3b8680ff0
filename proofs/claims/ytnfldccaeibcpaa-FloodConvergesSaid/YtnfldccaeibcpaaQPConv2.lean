/-
  The texts Db9, RdI, RdR, RdK, RdT, RdN, RdW, DbS, DbP, DbD, DbT, one after the other.
-/
import Derived.Test.YtnfldccaeibcpaaQPConv1
import Derived.Deep.RegionHeld3
namespace Go.Proofs.Ytnfldccaeibcpaa
set_option linter.unusedVariables false
open Go.RowKit Go.Maps Go.Sort

theorem own_rowNe {w w' : World} {base : Nat} {e : TypeId} {size : Nat} {v : Value} {n : Nat} {xs : List Value} {row : Option Nat} (h : w.ownsRow base e size v n xs) (hg : w.grownBy w' row) (hne : v.ownBlock = none ∨ v.ownBlock ≠ row) : w'.ownsRow base e size v n xs := by
  refine ⟨h.1, ?_⟩
  rcases h.2 with h2 | ⟨g, cap, cur, rfl, hgb, hh, r⟩
  · exact .inl h2
  · exact .inr ⟨g, cap, cur, rfl, hgb, (hg.block g (h.lt g rfl).2 (fun e => by
      rcases hne with h3 | h3
      · cases h3
      · exact h3 e)).trans hh, r⟩
theorem LaOwn.app {w w' : World} {base base2 : Nat} {u : Value} {x : La} {v2 : Value} {n : Nat} {xs : List Value} (h : LaOwn w base u x) (hl : w.ownsRow base2 45 6 v2 n xs) (hg : w.grownBy w' v2.ownBlock) : LaOwn w' base u x := by
  obtain ⟨A, c, B, d, rfl, o1, o2, hu⟩ := h
  exact ⟨A, c, B, d, rfl, own_rowNe o1 hg (own_ne o1 hl (by decide)), own_rowNe o2 hg (own_ne o2 hl (by decide)), hu⟩
theorem LaOwn.mono' {w : World} {base base' : Nat} {u : Value} {x : La} (h : LaOwn w base u x) (hb : base' ≤ base) : LaOwn w base' u x := by
  obtain ⟨A, c, B, d, rfl, o1, o2, hu⟩ := h
  exact ⟨A, c, B, d, rfl, own_mono o1 hb, own_mono o2 hb, hu⟩
/-- An advertisement of the call's own. -/
def LxOwn (w : World) (base : Nat) (s : Lx) : Prop := LaOwn w base (laV s.y.o s.y.s s.y.a s.y.ov s.A s.y.adj.length s.c s.B s.y.pre.length s.d) s.y
theorem LxOwn.ok {w : World} {base : Nat} {s : Lx} (h : LxOwn w base s) : LxOk w s := LaOwn.at h
def allN (N : Db) : List La := (orgs N).map fun i => getX (N i.toNat)
def DAllPost (w : World) (N : Db) (e : Ending) (w' : World) : Prop :=
  ∃ A c ls, e = .returned (.slice A (orgs N).length c) ∧ w'.ownsRow w.heap.size 45 6 (.slice A (orgs N).length c) (orgs N).length (lxV ls) ∧ laL ls = allN N ∧ (∀ s ∈ ls, LxOwn w' w.heap.size s) ∧ Below w.heap.size w w'
/-- Within the loop. -/
structure AllAt (w wr : World) (N : Db) (B : Option Addr) (d : Nat) (k : Nat) (v : Value) (ls : List Lx) : Prop where
  og : wr.ownsRow w.heap.size 3 1 (.slice B (orgs N).length d) (orgs N).length ((orgs N).map encZ)
  own : wr.ownsRow w.heap.size 45 6 v k (lxV ls)
  la : laL ls = (allN N).take k
  ok : ∀ s ∈ ls, LxOwn wr w.heap.size s
  bel : Below w.heap.size w wr
theorem AllAt.below {w wr w' : World} {N : Db} {B : Option Addr} {d k : Nat} {v : Value} {ls : List Lx} (h : AllAt w wr N B d k v ls) (hb : Below wr.heap.size wr w') : AllAt w w' N B d k v ls :=
  ⟨own_below h.og hb, own_below h.own hb, h.la, fun s hs => LaOwn.below (h.ok s hs) hb, h.bel.trans (hb.mono h.bel.size)⟩
theorem AllAt.app {w wr w' : World} {N : Db} {B : Option Addr} {d k : Nat} {v v' : Value} {ls : List Lx} (h : AllAt w wr N B d k v ls) {s : Lx} (hs : LxOwn wr w.heap.size s) (hk : k < (orgs N).length) (hy : s.y = getX (N (orgs N)[k].toNat))
    (ho : w'.ownsRow w.heap.size 45 6 v' (k + 1) (lxV ls ++ lxL s)) (hb : Below w.heap.size wr w') (hg : wr.grownBy w' v.ownBlock) : AllAt w w' N B d (k + 1) v' (ls ++ [s]) := by
  refine ⟨own_rowNe h.og hg (own_ne h.og h.own (by decide)), by rw [lxV_append]; simpa [lxV] using ho, ?_, fun z hz => ?_, h.bel.trans hb⟩
  · have hk2 : k < (allN N).length := by simpa [allN] using hk
    rw [List.take_succ_eq_append_getElem hk2, ← h.la]
    have e2 : (allN N)[k] = s.y := by rw [hy]; simp [allN]
    rw [e2]; simp [laL]
  · rcases List.mem_append.1 hz with hz | hz
    · exact LaOwn.app (h.ok z hz) h.own hg
    · rw [List.mem_singleton.1 hz]; exact LaOwn.app hs h.own hg

set_option maxRecDepth 100000 in
set_option maxHeartbeats 6400000 in
theorem dall_any (w : World) (g b : Nat) (N : Db) (h : DbAt w g b N) (hok : DbOk N) : Calls Try.prog 24 #[.pointer (some ⟨g, 0, none⟩)] w (DAllPost w N) := by
  have O := dorigins_any w g b N h
  have hlen := orgs_len N
  have hfin : Hid (∀ w' A c ls B d, AllAt w w' N B d (orgs N).length (.slice A (orgs N).length c) ls → DAllPost w N (.returned (.slice A (orgs N).length c)) w') := fun w' A c ls B d T => ⟨A, c, ls, rfl, T.own, by rw [T.la, List.take_of_length_le (by simp [allN])], T.ok, T.bel⟩
  obtain ⟨n, hn⟩ : ∃ n, (orgs N).length = n := ⟨_, rfl⟩
  rw [hn] at O hlen hfin
  replace O := Lib.hid O
  replace hok := Lib.hid hok
  replace hn := Lib.hid hn
  replace h := Lib.hid h
  go_enter Try.func24, Try.ntmps24
  go_wp2_with fail
  (with_reducible refine (O.out).mono ?_)
  rintro e w1 ⟨B, d, rfl, o14, hb⟩
  have hT : Hid (AllAt w w1 N B d 0 (.slice none 0 0) []) := ⟨by rw [hn.out]; exact o14, World.ownsRow_nil _ _ _ _, by simp [laL], by simp, hb⟩
  clear O o14 hb
  go_wp2_with fail
  go_loopw [3, 9] (fun v3 v9 wr => ∃ (k : Nat) (A : Option Addr) (c : Nat) (ls : List Lx), v9 = .int .i64 k ∧ v3 = .slice A k c ∧ k ≤ n ∧ Hid (AllAt w wr N B d k (.slice A k c) ls)) (fun _ v9 _ => n - (intOf v9).toNat)
  case atStart => exact ⟨0, none, 0, [], rfl, rfl, by omega, hT⟩
  case round =>
    clear hT
    obtain ⟨k, A, c, ls, rfl, rfl, hk, hT⟩ := hrel
    by_cases hkn : k < n
    · have hkl : k < (orgs N).length := by rw [hn.out]; exact hkn
      have hm1 := (orgs_mem (N := N) (orgs N)[k]).1 (List.getElem_mem hkl)
      have T := hT.out
      have og := T.og
      rw [hn.out] at og
      obtain ⟨b14, off14, rfl, hz14⟩ := rd_at (own_slice og) (by simp only [List.length_map]; omega)
      have z14 := hz14 k _ (by rw [List.getElem?_map, List.getElem?_eq_getElem hkl]; rfl)
      obtain ⟨q, hq⟩ := Int.eq_ofNat_of_zero_le hm1.1.1
      rw [hq] at hm1 z14
      rw [Int.toNat_natCast] at hm1
      have hq64 : q < 64 := by have := hm1.1.2; omega
      obtain ⟨x, hNq⟩ := Option.isSome_iff_exists.1 hm1.2
      have hgx : getX (N (orgs N)[k].toNat) = x.x := by rw [hq, Int.toNat_natCast, hNq]; rfl
      have hd := h.out.below T.bel
      obtain ⟨A1, c1, B1, d1, L1, la1⟩ := hd.el hq64 hNq
      have hf := hok.out.few q x hNq
      have x0 := hd.cell
      have K1 := L1 wr (Below.refl _ _)
      have FL1 := hd_field x.x A1 c1 B1 d1 x.l
      have CL := dclone_any wr _ x.x la1 hf.1 hf.2
      unfold hdV at K1 FL1
      obtain ⟨y, hy⟩ : ∃ y, x.x = y := ⟨_, rfl⟩
      rw [hy] at K1 FL1 CL hgx
      replace CL := Lib.hid CL
      replace hgx := Lib.hid hgx
      clear hd og hz14 hm1 hq hNq L1 la1 hf hy hT
      replace T := Lib.hid T
      go_wp2_with fail
      (with_reducible refine (CL.out).mono ?_)
      rintro e w2 ⟨v2, rfl, hown, hb⟩
      clear z14 x0 K1 FL1 CL
      have hown' : LaOwn w2 w.heap.size v2 y := hown.mono' T.out.bel.size
      replace T := T.out.below hb
      obtain ⟨A5, c5, B5, d5, hv5⟩ := hown'.at.form
      subst hv5
      have hb3 := below_new' w2 (.cells #[.int .i64 y.o, .int .i64 y.s, .int .i64 y.a, .bool y.ov, .slice A5 y.adj.length c5, .slice B5 y.pre.length d5] 45)
      have rd0 := Rd.lit w2 #[.int .i64 y.o, .int .i64 y.s, .int .i64 y.a, .bool y.ov, .slice A5 y.adj.length c5, .slice B5 y.pre.length d5] 45
      have T3 := T.below hb3
      have hown3 : LxOwn _ w.heap.size ⟨y, A5, c5, B5, d5⟩ := LaOwn.below hown' hb3
      have hsz := T3.bel.size
      have o3 := T3.own
      clear hown hown' hb hb3 T
      replace T3 := Lib.hid T3
      replace hown3 := Lib.hid hown3
      go_wp2_with (at_builtin; refine wpList_appB rfl laT (.tmp 13) (.tmp 22) rfl w.heap.size rfl o3 (m := 1) rfl (by simp) rd0 (lxL_one ⟨y, A5, c5, B5, d5⟩) (by simp only [maxLen]; omega) (by omega) hsz (k + 1) _ rfl rfl ?_; intro v6 w6 o6 hbel6 hg6 hv6)
      obtain ⟨A7, c7, rfl, -⟩ := own_rd o6
      have T4 := Lib.hid (T3.out.app hown3.out hkl hgx.out.symm o6 hbel6 hg6)
      clear o6 hbel6 hg6 hv6 o3 rd0 T3 hown3 hsz
      go_wp2_with fail
      go_round
      case rel => exact ⟨k + 1, A7, c7, _, by go_num, rfl, by omega, T4⟩
      case measure => simp [intOf]; omega
    · obtain rfl : k = n := by omega
      have hf := hfin.out _ _ _ _ _ _ hT.out
      replace hf := Lib.hid hf
      go_wp2_with fail
      go_ret
      exact hf.out

end Go.Proofs.Ytnfldccaeibcpaa

namespace Go.Proofs.Ytnfldccaeibcpaa
set_option linter.unusedVariables false
open Go.RowKit Go.Maps Go.Sort

/-! ### Whole values -/
theorem infoR (R : Nat → Rs) : (Try.prog.info? 86).map (·.size) = some (rdC R).length := by rw [rdC_len]; kernel_rfl
theorem run_loadR {w : World} {g : Nat} {R : Nat → Rs} (h : Box w g (rdC R)) : (loadVar 86 ⟨g, 0, none⟩).run Try.prog w = .ok (.agg (rdC R).toArray) w :=
  run_loadVar_mid w g 0 _ (rdC R) _ h.range Try.underlying86 rfl (infoR R)
theorem wpList_loadR {w : World} {g : Nat} {R : Nat → Rs} {ops : Array Oper} {rest : List Oper} {op : Oper} {a : Act} {Q : Exit → Act → World → Prop} (hgd : op.guard = none) (x : Operand) (ho : op.op = .load 86 x) (hx : a.eval x = .pointer (some ⟨g, 0, none⟩)) (h : Box w g (rdC R))
    (hK : wpList Try.prog ops Q rest (a.put op.dst (.agg (rdC R).toArray)) w) : wpList Try.prog ops Q (op :: rest) a w :=
  wpList_load_mid hgd _ x ho g 0 hx (rdC R) _ h.range Try.underlying86 rfl (infoR R) hK
theorem wpList_storeR {w : World} {g : Nat} {R R' : Nat → Rs} {ops : Array Oper} {rest : List Oper} {op : Oper} {a : Act} {Q : Exit → Act → World → Prop} (hgd : op.guard = none) (x y : Operand) (ho : op.op = .store 86 x y) (hx : a.eval x = .pointer (some ⟨g, 0, none⟩)) (hy : a.eval y = .agg (rdC R').toArray) (h : Box w g (rdC R))
    (hK : wpList Try.prog ops Q rest (a.put op.dst undef) (w.setCells g 0 (rdC R'))) : wpList Try.prog ops Q (op :: rest) a w :=
  wpList_store_mid hgd _ x y ho g 0 (rdC R').toArray hx hy (by rw [List.size_toArray, rdC_len]; exact h.there (rdC_len R)) (by rw [List.size_toArray]; exact infoR R') (all_oneCell_toArray (rdC_one R')) (by simpa using hK)
theorem resR {fn : Func} {p u : Tmp} (h : fn.results = #[.cell p 86, .tmp u]) {tmps : Array Value} {w : World} {g : Nat} {R : Nat → Rs} (hb : Box w g (rdC R)) (hp : tmps.getD p undef = .pointer (some ⟨g, 0, none⟩)) {v : Value} (hu : tmps.getD u undef = v) :
    (results fn tmps).run Try.prog w = .ok (.tuple #[.agg (rdC R).toArray, v]) w := by
  rw [results_cell_tmp h, hp, hu]
  simp only [asAddr, Sem.run_pure, Result.andThen_ok, run_loadR hb]
theorem St.setAllR {W w : World} {bs : List (Nat × List Value)} {rs : List (Option Addr × List Value)} (S : St W w bs rs) (i : Nat) (R' : Nat → Rs) {g : Nat} {R : Nat → Rs} (hi : bs[i]? = some (g, rdC R)) (hg : W.heap.size ≤ g)
    (hd : ∀ x ∈ bs.eraseIdx i, x.1 ≠ g) (bs' : List (Nat × List Value)) (hbs : bs.set i (g, rdC R') = bs') : St W (w.setCells g 0 (rdC R')) bs' rs :=
  S.setAll i (rdC R') hi (by rw [rdC_len, rdC_len]) hg hd bs' hbs
/-! ### Seven cells stored -/
theorem rdC_set_at' (R : Nat → Rs) {i : Nat} (hi : i < 64) {j : Nat} (hj : j < 7) (v : Value) (s t : Rs) (ht : R i = t) (hs : s.is = t.is) (hv : (hdL t).set j v = hdL s) : (rdC R).set (64 + i * 7 + j) v = rdC (upR R i s) :=
  rdC_set_at R hi hj v s (by rw [ht]; exact hs) (by rw [ht]; exact hv)
theorem rdC_set7 (R : Nat → Rs) {i : Nat} (hi : i < 64) (s : Rs) (hs : s.is = (R i).is) :
    (((((((rdC R).set (64 + i * 7) (.int .i64 s.x.y.o)).set (64 + i * 7 + 1) (.int .i64 s.x.y.s)).set (64 + i * 7 + 2) (.int .i64 s.x.y.a)).set (64 + i * 7 + 3) (.bool s.x.y.ov)).set (64 + i * 7 + 4) (.slice s.x.A s.x.y.adj.length s.x.c)).set (64 + i * 7 + 5) (.slice s.x.B s.x.y.pre.length s.x.d)).set (64 + i * 7 + 6) (.int .i64 s.l) = rdC (upR R i s) := by
  obtain ⟨⟨⟨o, sq, ag, ov, adj, pre⟩, A, c, B, d⟩, l, is⟩ := s
  obtain ⟨t, ht⟩ : ∃ t, R i = t := ⟨_, rfl⟩
  rw [ht] at hs
  obtain ⟨⟨⟨o', sq', ag', ov', adj', pre'⟩, A', c', B', d'⟩, l', is'⟩ := t
  simp only at hs ⊢
  subst hs
  have e0 := rdC_set_at' R hi (j := 0) (by omega) (.int .i64 o) ⟨⟨⟨o, sq', ag', ov', adj', pre'⟩, A', c', B', d'⟩, l', is⟩ _ ht rfl rfl
  rw [Nat.add_zero] at e0
  rw [e0]
  rw [rdC_set_at' (upR R i ⟨⟨⟨o, sq', ag', ov', adj', pre'⟩, A', c', B', d'⟩, l', is⟩) hi (j := 1) (by omega) (.int .i64 sq) ⟨⟨⟨o, sq, ag', ov', adj', pre'⟩, A', c', B', d'⟩, l', is⟩ ⟨⟨⟨o, sq', ag', ov', adj', pre'⟩, A', c', B', d'⟩, l', is⟩ (upR_same _ _ _) rfl rfl, upR_upR]
  rw [rdC_set_at' (upR R i ⟨⟨⟨o, sq, ag', ov', adj', pre'⟩, A', c', B', d'⟩, l', is⟩) hi (j := 2) (by omega) (.int .i64 ag) ⟨⟨⟨o, sq, ag, ov', adj', pre'⟩, A', c', B', d'⟩, l', is⟩ ⟨⟨⟨o, sq, ag', ov', adj', pre'⟩, A', c', B', d'⟩, l', is⟩ (upR_same _ _ _) rfl rfl, upR_upR]
  rw [rdC_set_at' (upR R i ⟨⟨⟨o, sq, ag, ov', adj', pre'⟩, A', c', B', d'⟩, l', is⟩) hi (j := 3) (by omega) (.bool ov) ⟨⟨⟨o, sq, ag, ov, adj', pre'⟩, A', c', B', d'⟩, l', is⟩ ⟨⟨⟨o, sq, ag, ov', adj', pre'⟩, A', c', B', d'⟩, l', is⟩ (upR_same _ _ _) rfl rfl, upR_upR]
  rw [rdC_set_at' (upR R i ⟨⟨⟨o, sq, ag, ov, adj', pre'⟩, A', c', B', d'⟩, l', is⟩) hi (j := 4) (by omega) (.slice A adj.length c) ⟨⟨⟨o, sq, ag, ov, adj, pre'⟩, A, c, B', d'⟩, l', is⟩ ⟨⟨⟨o, sq, ag, ov, adj', pre'⟩, A', c', B', d'⟩, l', is⟩ (upR_same _ _ _) rfl rfl, upR_upR]
  rw [rdC_set_at' (upR R i ⟨⟨⟨o, sq, ag, ov, adj, pre'⟩, A, c, B', d'⟩, l', is⟩) hi (j := 5) (by omega) (.slice B pre.length d) ⟨⟨⟨o, sq, ag, ov, adj, pre⟩, A, c, B, d⟩, l', is⟩ ⟨⟨⟨o, sq, ag, ov, adj, pre'⟩, A, c, B', d'⟩, l', is⟩ (upR_same _ _ _) rfl rfl, upR_upR]
  rw [rdC_set_at' (upR R i ⟨⟨⟨o, sq, ag, ov, adj, pre⟩, A, c, B, d⟩, l', is⟩) hi (j := 6) (by omega) (.int .i64 l) ⟨⟨⟨o, sq, ag, ov, adj, pre⟩, A, c, B, d⟩, l, is⟩ ⟨⟨⟨o, sq, ag, ov, adj, pre⟩, A, c, B, d⟩, l', is⟩ (upR_same _ _ _) rfl rfl, upR_upR]
theorem St.set1 {W w : World} {bs : List (Nat × List Value)} {rs : List (Option Addr × List Value)} {i g : Nat} {cs : List Value} (S : St W w bs rs ∧ bs[i]? = some (g, cs) ∧ (∀ x ∈ bs.eraseIdx i, x.1 ≠ g)) (hg : W.heap.size ≤ g) (j : Nat) (u : Value) (hj : j < cs.length) (cs' : List Value) (hcs : cs.set j u = cs') :
    St W (w.setCell ⟨g, j, none⟩ u) (bs.set i (g, cs')) rs ∧ (bs.set i (g, cs'))[i]? = some (g, cs') ∧ (∀ x ∈ (bs.set i (g, cs')).eraseIdx i, x.1 ≠ g) := by
  subst hcs
  obtain ⟨S, hi, hd⟩ := S
  have hl : i < bs.length := (List.getElem?_eq_some_iff.1 hi).1
  exact ⟨S.set i j u hi hj hg hd _ rfl, by rw [List.getElem?_set_self hl], by rwa [List.eraseIdx_set_eq]⟩
/-- A place stored anew. -/
theorem St.set7 {W w : World} {bs : List (Nat × List Value)} {rs : List (Option Addr × List Value)} {i g : Nat} {R : Nat → Rs} (S : St W w bs rs) (hi : bs[i]? = some (g, rdC R)) (hd : ∀ x ∈ bs.eraseIdx i, x.1 ≠ g) (hg : W.heap.size ≤ g) {k : Nat} (hk : k < 64) (s : Rs) (hs : s.is = (R k).is) (bs' : List (Nat × List Value)) (hbs : bs.set i (g, rdC (upR R k s)) = bs') :
    St W (((((((w.setCell ⟨g, 64 + k * 7, none⟩ (.int .i64 s.x.y.o)).setCell ⟨g, 64 + k * 7 + 1, none⟩ (.int .i64 s.x.y.s)).setCell ⟨g, 64 + k * 7 + 2, none⟩ (.int .i64 s.x.y.a)).setCell ⟨g, 64 + k * 7 + 3, none⟩ (.bool s.x.y.ov)).setCell ⟨g, 64 + k * 7 + 4, none⟩ (.slice s.x.A s.x.y.adj.length s.x.c)).setCell ⟨g, 64 + k * 7 + 5, none⟩ (.slice s.x.B s.x.y.pre.length s.x.d)).setCell ⟨g, 64 + k * 7 + 6, none⟩ (.int .i64 s.l)) bs' rs := by
  have hl : (rdC R).length = 512 := rdC_len R
  have T := St.set1 (St.set1 (St.set1 (St.set1 (St.set1 (St.set1 (St.set1 ⟨S, hi, hd⟩ hg (64 + k * 7) (.int .i64 s.x.y.o) (by omega) _ rfl) hg (64 + k * 7 + 1) (.int .i64 s.x.y.s) (by simp only [List.length_set]; omega) _ rfl) hg (64 + k * 7 + 2) (.int .i64 s.x.y.a) (by simp only [List.length_set]; omega) _ rfl) hg (64 + k * 7 + 3) (.bool s.x.y.ov) (by simp only [List.length_set]; omega) _ rfl) hg (64 + k * 7 + 4) (.slice s.x.A s.x.y.adj.length s.x.c) (by simp only [List.length_set]; omega) _ rfl) hg (64 + k * 7 + 5) (.slice s.x.B s.x.y.pre.length s.x.d) (by simp only [List.length_set]; omega) _ rfl) hg (64 + k * 7 + 6) (.int .i64 s.l) (by simp only [List.length_set]; omega) _ (rdC_set7 R hk s hs)
  have T1 := T.1
  simp only [List.set_set] at T1
  rwa [hbs] at T1

def RInstPost (w : World) (R : Nat → Rs) (v : Value) (a : La) (N' : Db) (r : Int) (e : Ending) (w' : World) : Prop :=
  ∃ R', e = .returned (.tuple #[.agg (rdC R').toArray, .int .i64 r]) ∧ (∀ W, RdOk W R → LaAt W v a → RdOk W R') ∧ dbOf R' = N' ∧ Below w.heap.size w w'
theorem dbOf_up (R : Nat → Rs) {k : Nat} (hk : k < 64) (s : Rs) (hs : s.is = true) : dbOf (upR R k s) = fun i => if i = k then some ⟨s.x.y, s.l⟩ else dbOf R i := by
  funext i
  unfold dbOf
  by_cases e : i = k
  · subst e; rw [upR_same, if_pos ⟨hk, hs⟩, if_pos rfl]
  · rw [upR_other R _ e, if_neg e]

set_option maxRecDepth 100000 in
set_option maxHeartbeats 6400000 in
theorem rinstall_any (w : World) (R : Nat → Rs) (v : Value) (a : La) (hR : RdOk w R) (hv : LaAt w v a) (hva : LaValid a) : Calls Try.prog 23 #[.agg (rdC R).toArray, v] w (RInstPost w R v a (instN (dbOf R) a) (instR (dbOf R) a)) := by
  obtain ⟨A, c, B, d, rfl, hl⟩ := hv.opened
  clear hv
  obtain ⟨ao, sq, aa, aov, adj, pre⟩ := a
  have ho := hva.1
  simp only at ho hl
  obtain ⟨k, rfl⟩ := Int.eq_ofNat_of_zero_le ho.1
  have hk : k < 64 := by omega
  have hpost : Hid (∀ R' r w', Below w.heap.size w w' → (∀ W, RdOk W R → LaAt W (laV k sq aa aov A adj.length c B pre.length d) ⟨k, sq, aa, aov, adj, pre⟩ → RdOk W R') → dbOf R' = instN (dbOf R) ⟨k, sq, aa, aov, adj, pre⟩ → instR (dbOf R) ⟨k, sq, aa, aov, adj, pre⟩ = r → RInstPost w R (laV k sq aa aov A adj.length c B pre.length d) ⟨k, sq, aa, aov, adj, pre⟩ (instN (dbOf R) ⟨k, sq, aa, aov, adj, pre⟩) (instR (dbOf R) ⟨k, sq, aa, aov, adj, pre⟩) (.returned (.tuple #[.agg (rdC R').toArray, .int .i64 r])) w') := fun R' r w' h1 h2 h3 h4 => ⟨R', by rw [h4], h2, h3, h1⟩
  have hvb := vB_t hva
  have hk9 : (k : Int) < 64 := by omega
  have hN : dbOf R k = if (R k).is = true then some ⟨(R k).x.y, (R k).l⟩ else none := by unfold dbOf; by_cases e : (R k).is = true <;> simp [e, hk]
  have hins : Hid (∀ (hr : instR (dbOf R) ⟨k, sq, aa, aov, adj, pre⟩ = 1), dbOf (upR (upR R k { R k with is := true }) k ⟨⟨⟨k, sq, aa, aov, adj, pre⟩, A, c, B, d⟩, 60, true⟩) = instN (dbOf R) ⟨k, sq, aa, aov, adj, pre⟩) := fun hr => by
    rw [upR_upR, dbOf_up R hk _ rfl]
    unfold instN
    rw [if_pos ⟨hvb, hr⟩]
    simp
  have hok2 : Hid (∀ W, RdOk W R → LaAt W (laV k sq aa aov A adj.length c B pre.length d) ⟨k, sq, aa, aov, adj, pre⟩ → RdOk W (upR (upR R k { R k with is := true }) k ⟨⟨⟨k, sq, aa, aov, adj, pre⟩, A, c, B, d⟩, 60, true⟩)) := fun W h1 h2 => by rw [upR_upR]; exact h1.up k _ h2
  have S := (((St.start w).new' (rdC R).toArray 86 w.heap.size (rdC R) rfl (by simp)).new' #[.int .i64 k, .int .i64 sq, .int .i64 aa, .bool aov, .slice A adj.length c, .slice B pre.length d] 45 (w.heap.size + 1) _ (by simp) rfl).new' Try.zeroCells86 86 (w.heap.size + 2) (rdC (fun _ => rsZ)) (by simp) (by rw [← rdC_zero])
  obtain ⟨is, his⟩ : ∃ z, (R k).is = z := ⟨_, rfl⟩
  rw [his] at hN
  have hd0 : ∀ x ∈ ([(w.heap.size + 2, rdC (fun _ => rsZ)), (w.heap.size + 1, [.int .i64 k, .int .i64 sq, .int .i64 aa, .bool aov, .slice A adj.length c, .slice B pre.length d]), (w.heap.size, rdC R)] : List (Nat × List Value)).eraseIdx 2, x.1 ≠ w.heap.size := by simp
  go_enter Try.func23, Try.ntmps23
  go_upto_region 1 with fail
  generalize World.alloc _ _ = w1 at *
  have b0 := S.c 1 0 rfl rfl
  have c0 := S.c 2 k rfl (rdC_is R hk)
  rw [his] at c0
  cases is with
  | false =>
    have hr : instR (dbOf R) ⟨k, sq, aa, aov, adj, pre⟩ = 1 := by
      unfold instR; rw [hvb, if_pos rfl]; simp only [Int.toNat_natCast, hN]; simp
    have hfin : Hid (∀ w', Below w.heap.size w w' → RInstPost w R (laV k sq aa aov A adj.length c B pre.length d) ⟨k, sq, aa, aov, adj, pre⟩ (instN (dbOf R) ⟨k, sq, aa, aov, adj, pre⟩) (instR (dbOf R) ⟨k, sq, aa, aov, adj, pre⟩) (.returned (.tuple #[.agg (rdC (upR (upR R k { R k with is := true }) k ⟨⟨⟨k, sq, aa, aov, adj, pre⟩, A, c, B, d⟩, 60, true⟩)).toArray, .int .i64 1])) w') := fun w' hb => hpost.out _ 1 w' hb hok2.out (hins.out hr) hr
    clear hN hins hr hpost hok2
    go_upto_region 7 with fail
    have T := S.set 2 k (.bool true) rfl (by rw [rdC_len]; omega) (Nat.le_refl _) hd0 [(w.heap.size + 2, rdC (fun _ => rsZ)), (w.heap.size + 1, [.int .i64 k, .int .i64 sq, .int .i64 aa, .bool aov, .slice A adj.length c, .slice B pre.length d]), (w.heap.size, rdC (upR R k { R k with is := true }))] (by rw [rdC_set_is R hk]; rfl)
    have T7 := T.set7 (i := 2) rfl (by simp) (Nat.le_refl _) hk ⟨⟨⟨k, sq, aa, aov, adj, pre⟩, A, c, B, d⟩, 60, true⟩ (by rw [upR_same]) _ rfl
    clear b0 c0
    have b0 := S.c 1 0 rfl rfl
    have b1 := S.c 1 1 rfl rfl
    have b2 := S.c 1 2 rfl rfl
    have b3 := S.c 1 3 rfl rfl
    have b4 := S.c 1 4 rfl rfl
    have b5 := S.c 1 5 rfl rfl
    have c0 := S.c 2 k rfl (rdC_is R hk)
    have g0 := S.f 2 k rfl (rdC_is R hk)
    have x0 := T.c 2 (64 + k * 7 + 0) rfl ((rdC_at _ hk (by omega)).trans (by rw [upR_same]; rfl))
    have f0 := S.f 2 (64 + k * 7 + 0) rfl ((rdC_at R hk (by omega)).trans rfl)
    have x1 := T.c 2 (64 + k * 7 + 1) rfl ((rdC_at _ hk (by omega)).trans (by rw [upR_same]; rfl))
    have f1 := S.f 2 (64 + k * 7 + 1) rfl ((rdC_at R hk (by omega)).trans rfl)
    have x2 := T.c 2 (64 + k * 7 + 2) rfl ((rdC_at _ hk (by omega)).trans (by rw [upR_same]; rfl))
    have f2 := S.f 2 (64 + k * 7 + 2) rfl ((rdC_at R hk (by omega)).trans rfl)
    have x3 := T.c 2 (64 + k * 7 + 3) rfl ((rdC_at _ hk (by omega)).trans (by rw [upR_same]; rfl))
    have f3 := S.f 2 (64 + k * 7 + 3) rfl ((rdC_at R hk (by omega)).trans rfl)
    have x4 := T.c 2 (64 + k * 7 + 4) rfl ((rdC_at _ hk (by omega)).trans (by rw [upR_same]; rfl))
    have f4 := S.f 2 (64 + k * 7 + 4) rfl ((rdC_at R hk (by omega)).trans rfl)
    have x5 := T.c 2 (64 + k * 7 + 5) rfl ((rdC_at _ hk (by omega)).trans (by rw [upR_same]; rfl))
    have f5 := S.f 2 (64 + k * 7 + 5) rfl ((rdC_at R hk (by omega)).trans rfl)
    have x6 := T.c 2 (64 + k * 7 + 6) rfl ((rdC_at _ hk (by omega)).trans (by rw [upR_same]; rfl))
    have f6 := S.f 2 (64 + k * 7 + 6) rfl ((rdC_at R hk (by omega)).trans rfl)
    simp only [Nat.add_zero] at x0 f0
    clear S T
    simp only at T7
    have T8 := T7.drew
    clear T7
    go_region_law (fail)
    all_goals
      clear b0 b1 b2 b3 b4 b5 c0 g0 x0 x1 x2 x3 x4 x5 x6 f0 f1 f2 f3 f4 f5 f6
      generalize World.drew _ = w8 at *
      generalize upR (upR R k _) k _ = R2 at *
      go_wp2_with (first | (refine wpList_loadR rfl (.tmp 2) rfl rfl (T8.box 2 rfl) ?_) | (refine wpList_storeR rfl (.tmp 4) (.tmp 35) rfl rfl rfl (T8.box 0 rfl) ?_))
      have T9 := T8.setAllR 0 R2 rfl (by omega) (by simp) _ rfl
      exact bodyPost_ret (v := .tuple #[.agg (rdC R2).toArray, .int .i64 1]) (resR rfl (T9.box 0 rfl) rfl rfl) rfl (hfin.out _ T9.b)
  | true =>
    have hN2 : dbOf R k = some ⟨(R k).x.y, (R k).l⟩ := by rw [hN]; simp
    clear hN
    have hRk := hR k hk
    unfold LxOk at hRk
    have hat := fun j (hj : j < 7) => rdC_at R hk (j := j) hj
    obtain ⟨s, hs⟩ : ∃ s, R k = s := ⟨_, rfl⟩
    have x0 := cell_regrown (S.c 2 (64 + k * 7 + 0) rfl ((hat 0 (by omega)).trans rfl))
    have x1 := cell_regrown (S.c 2 (64 + k * 7 + 1) rfl ((hat 1 (by omega)).trans rfl))
    have x2 := cell_regrown (S.c 2 (64 + k * 7 + 2) rfl ((hat 2 (by omega)).trans rfl))
    have x3 := cell_regrown (S.c 2 (64 + k * 7 + 3) rfl ((hat 3 (by omega)).trans rfl))
    have x4 := cell_regrown (S.c 2 (64 + k * 7 + 4) rfl ((hat 4 (by omega)).trans rfl))
    have x5 := cell_regrown (S.c 2 (64 + k * 7 + 5) rfl ((hat 5 (by omega)).trans rfl))
    simp only [Nat.add_zero] at x0
    rw [hs] at hRk hN2 x0 x1 x2 x3 x4 x5
    obtain ⟨⟨y, A9, c9, B9, d9⟩, lf, is9⟩ := s
    simp only at hRk hN2 x0 x1 x2 x3 x4 x5
    obtain ⟨z, hz⟩ : ∃ z, newI ⟨k, sq, aa, aov, adj, pre⟩ y = z := ⟨_, rfl⟩
    have NW : Hid (∀ W, Below w1.heap.size w1 W → Calls Try.prog 37 #[laV k sq aa aov A adj.length c B pre.length d, laV y.o y.s y.a y.ov A9 y.adj.length c9 B9 y.pre.length d9] W fun e w' => e = .returned (.int .i64 z) ∧ Below W.heap.size W w') := fun W hb => by
      have := rnewer_any W _ _ _ y ((hl.below S.b).below hb) ((hRk.below S.b).below hb)
      rwa [hz] at this
    have hR9 : instR (dbOf R) ⟨k, sq, aa, aov, adj, pre⟩ = if z = 0 then 2 else if z = -1 then 3 else 1 := by
      unfold instR; rw [hvb, if_pos rfl]; simp only [Int.toNat_natCast, hN2, hz]
    clear hat hN2 hs hz hRk
    go_upto_region 2 with fail
    clear b0
    have b0 := cell_regrown (S.c 1 0 rfl rfl)
    have b1 := cell_regrown (S.c 1 1 rfl rfl)
    have b2 := cell_regrown (S.c 1 2 rfl rfl)
    have b3 := cell_regrown (S.c 1 3 rfl rfl)
    have b4 := cell_regrown (S.c 1 4 rfl rfl)
    have b5 := cell_regrown (S.c 1 5 rfl rfl)
    refine wp_region_quiet_below (by kernel_rfl) (by kernel_rfl) ?_
    repeat (go_big_quiet_step ((first | (go_at_call 37; with_reducible exact Calls.regrown_of (NW.out _ (below_regrown _ _ _))))))
    refine wpQuiet_nil ?_
    intro _ hw'
    obtain ⟨⟨dq, osq⟩, hw''⟩ := hw'
    subst hw''
    replace S := S.call (below_regrown _ dq osq)
    generalize grow (redrawn _ dq) osq = w2 at *
    clear x0 x1 x2 x3 x4 x5 NW c0
    clear b0 b1 b2 b3 b4 b5
    by_cases hz0 : z = 0
    · subst hz0
      rw [if_pos rfl] at hR9
      have hfin : Hid (∀ w', Below w.heap.size w w' → RInstPost w R (laV k sq aa aov A adj.length c B pre.length d) ⟨k, sq, aa, aov, adj, pre⟩ (instN (dbOf R) ⟨k, sq, aa, aov, adj, pre⟩) (instR (dbOf R) ⟨k, sq, aa, aov, adj, pre⟩) (.returned (.tuple #[.agg (rdC R).toArray, .int .i64 2])) w') := fun w' hb => hpost.out _ 2 w' hb (fun W h1 _ => h1) (by unfold instN; rw [hR9, if_neg (by simp)]) hR9
      clear hR9 hpost hins hok2
      go_wp2_with (first | (refine wpList_loadR rfl (.tmp 2) rfl rfl (S.box 2 rfl) ?_) | (refine wpList_storeR rfl (.tmp 4) (.tmp 21) rfl rfl rfl (S.box 0 rfl) ?_))
      have T9 := S.setAllR 0 R rfl (by omega) (by simp) _ rfl
      exact bodyPost_ret (v := .tuple #[.agg (rdC R).toArray, .int .i64 2]) (resR rfl (T9.box 0 rfl) rfl rfl) rfl (hfin.out _ T9.b)
    by_cases hz1 : z = -1
    · subst hz1
      rw [if_neg (by omega), if_pos rfl] at hR9
      have hfin : Hid (∀ w', Below w.heap.size w w' → RInstPost w R (laV k sq aa aov A adj.length c B pre.length d) ⟨k, sq, aa, aov, adj, pre⟩ (instN (dbOf R) ⟨k, sq, aa, aov, adj, pre⟩) (instR (dbOf R) ⟨k, sq, aa, aov, adj, pre⟩) (.returned (.tuple #[.agg (rdC R).toArray, .int .i64 3])) w') := fun w' hb => hpost.out _ 3 w' hb (fun W h1 _ => h1) (by unfold instN; rw [hR9, if_neg (by simp)]) hR9
      clear hR9 hpost hins hok2 hz0
      go_wp2_with (first | (refine wpList_loadR rfl (.tmp 2) rfl rfl (S.box 2 rfl) ?_) | (refine wpList_storeR rfl (.tmp 4) (.tmp 24) rfl rfl rfl (S.box 0 rfl) ?_))
      have T9 := S.setAllR 0 R rfl (by omega) (by simp) _ rfl
      exact bodyPost_ret (v := .tuple #[.agg (rdC R).toArray, .int .i64 3]) (resR rfl (T9.box 0 rfl) rfl rfl) rfl (hfin.out _ T9.b)
    have hr : instR (dbOf R) ⟨k, sq, aa, aov, adj, pre⟩ = 1 := by rw [hR9, if_neg hz0, if_neg hz1]
    have z0 : (z == 0) = false := by simpa using hz0
    have z1 : (z == -1) = false := by simpa using hz1
    clear hR9 hz0 hz1
    have hfin : Hid (∀ w', Below w.heap.size w w' → RInstPost w R (laV k sq aa aov A adj.length c B pre.length d) ⟨k, sq, aa, aov, adj, pre⟩ (instN (dbOf R) ⟨k, sq, aa, aov, adj, pre⟩) (instR (dbOf R) ⟨k, sq, aa, aov, adj, pre⟩) (.returned (.tuple #[.agg (rdC (upR (upR R k { R k with is := true }) k ⟨⟨⟨k, sq, aa, aov, adj, pre⟩, A, c, B, d⟩, 60, true⟩)).toArray, .int .i64 1])) w') := fun w' hb => hpost.out _ 1 w' hb hok2.out (hins.out hr) hr
    clear hins hr hpost hok2
    go_upto_region 7 with fail
    have T := S.set 2 k (.bool true) rfl (by rw [rdC_len]; omega) (Nat.le_refl _) hd0 [(w.heap.size + 2, rdC (fun _ => rsZ)), (w.heap.size + 1, [.int .i64 k, .int .i64 sq, .int .i64 aa, .bool aov, .slice A adj.length c, .slice B pre.length d]), (w.heap.size, rdC (upR R k { R k with is := true }))] (by rw [rdC_set_is R hk]; rfl)
    have T7 := T.set7 (i := 2) rfl (by simp) (Nat.le_refl _) hk ⟨⟨⟨k, sq, aa, aov, adj, pre⟩, A, c, B, d⟩, 60, true⟩ (by rw [upR_same]) _ rfl
    have b0 := S.c 1 0 rfl rfl
    have b1 := S.c 1 1 rfl rfl
    have b2 := S.c 1 2 rfl rfl
    have b3 := S.c 1 3 rfl rfl
    have b4 := S.c 1 4 rfl rfl
    have b5 := S.c 1 5 rfl rfl
    have c0 := S.c 2 k rfl (rdC_is R hk)
    have g0 := S.f 2 k rfl (rdC_is R hk)
    have x0 := T.c 2 (64 + k * 7 + 0) rfl ((rdC_at _ hk (by omega)).trans (by rw [upR_same]; rfl))
    have f0 := S.f 2 (64 + k * 7 + 0) rfl ((rdC_at R hk (by omega)).trans rfl)
    have x1 := T.c 2 (64 + k * 7 + 1) rfl ((rdC_at _ hk (by omega)).trans (by rw [upR_same]; rfl))
    have f1 := S.f 2 (64 + k * 7 + 1) rfl ((rdC_at R hk (by omega)).trans rfl)
    have x2 := T.c 2 (64 + k * 7 + 2) rfl ((rdC_at _ hk (by omega)).trans (by rw [upR_same]; rfl))
    have f2 := S.f 2 (64 + k * 7 + 2) rfl ((rdC_at R hk (by omega)).trans rfl)
    have x3 := T.c 2 (64 + k * 7 + 3) rfl ((rdC_at _ hk (by omega)).trans (by rw [upR_same]; rfl))
    have f3 := S.f 2 (64 + k * 7 + 3) rfl ((rdC_at R hk (by omega)).trans rfl)
    have x4 := T.c 2 (64 + k * 7 + 4) rfl ((rdC_at _ hk (by omega)).trans (by rw [upR_same]; rfl))
    have f4 := S.f 2 (64 + k * 7 + 4) rfl ((rdC_at R hk (by omega)).trans rfl)
    have x5 := T.c 2 (64 + k * 7 + 5) rfl ((rdC_at _ hk (by omega)).trans (by rw [upR_same]; rfl))
    have f5 := S.f 2 (64 + k * 7 + 5) rfl ((rdC_at R hk (by omega)).trans rfl)
    have x6 := T.c 2 (64 + k * 7 + 6) rfl ((rdC_at _ hk (by omega)).trans (by rw [upR_same]; rfl))
    have f6 := S.f 2 (64 + k * 7 + 6) rfl ((rdC_at R hk (by omega)).trans rfl)
    simp only [Nat.add_zero] at x0 f0
    clear S T
    simp only at T7
    have T8 := T7.drew
    clear T7
    go_region_law (fail)
    all_goals
      clear b0 b1 b2 b3 b4 b5 c0 g0 x0 x1 x2 x3 x4 x5 x6 f0 f1 f2 f3 f4 f5 f6
      generalize World.drew _ = w8 at *
      generalize upR (upR R k _) k _ = R2 at *
      go_wp2_with (first | (refine wpList_loadR rfl (.tmp 2) rfl rfl (T8.box 2 rfl) ?_) | (refine wpList_storeR rfl (.tmp 4) (.tmp 35) rfl rfl rfl (T8.box 0 rfl) ?_))
      have T9 := T8.setAllR 0 R2 rfl (by omega) (by simp) _ rfl
      exact bodyPost_ret (v := .tuple #[.agg (rdC R2).toArray, .int .i64 1]) (resR rfl (T9.box 0 rfl) rfl rfl) rfl (hfin.out _ T9.b)

end Go.Proofs.Ytnfldccaeibcpaa

namespace Go.Proofs.Ytnfldccaeibcpaa
set_option linter.unusedVariables false
open Go.RowKit Go.Maps Go.Sort

section
variable {P : Program} {ops : Array Oper} {Q : Exit → Act → World → Prop} {md : Region.Mode} {S : World → Prop} {i : Nat} {oi : Oper} {fuel : Nat} {listed : Array Bool} {a : Act} {w : World} {R : Nat → Rs}
/-- An operation that is plain to see is taken first. -/
theorem take_first {v : Value} (d : Option Tmp) (hi : ops[i]? = some oi) (hd : oi.dst = d) (hs : Region.noSelect ops = true) (hf : Region.free md ops listed i = true) (hr : (Region.ready md ops listed).contains i = true)
    (hQ : ∀ c a w, Q (.panic c) (a.put d v) w → Q (.panic c) a w) (hy : YieldsIf P ops S oi v a) (hS : S w)
    (h : wpAnyH P md ops Q S fuel (listed.setIfInBounds i true) (a.put d v) w) : wpAnyH P md ops Q S (fuel + 1) listed a w := by
  subst hd
  exact wpAnyH_take hi hs hf hr hQ hy hS h
/-- The whole database is loaded. -/
theorem ready_loadR (hr : Region.ready md ops listed = [i]) (hi : ops[i]? = some oi) (x : Operand) (d : Option Tmp) (hgd : oi.guard = none) (hd : oi.dst = d) (ho : oi.op = .load 86 x) {g : Nat} {R : Nat → Rs} (hx : a.eval x = .pointer (some ⟨g, 0, none⟩)) (hb : Box w g (rdC R)) (hS : S w)
    (h : wpAnyH Try.prog md ops Q S fuel (listed.setIfInBounds i true) (a.put d (.agg (rdC R).toArray)) w) : wpAnyH Try.prog md ops Q S (fuel + 1) listed a w := by
  subst hd
  refine wpAnyH_ready hr (by simp) (AllReadyH.cons hi (fun K hK => ?_) AllReadyH.nil)
  have hw : Region.wanted oi (yielded ops a.tmps) = true := by simp [Region.wanted, hgd]
  rw [if_pos hw]
  exact wp_load_mid _ x ho g 0 hx (rdC R) _ hb.range Try.underlying86 rfl (infoR R) (hK.out _ _ hS (fun _ => h))
/-- .. where nothing in the region writes it. -/
theorem take_loadR (d : Option Tmp) (hi : ops[i]? = some oi) (hd : oi.dst = d) (hs : Region.noSelect ops = true) (hf : Region.free md ops listed i = true) (hr : (Region.ready md ops listed).contains i = true)
    (hQ : ∀ c a w, Q (.panic c) (a.put d (.agg (rdC R).toArray)) w → Q (.panic c) a w) (hw : Region.wanted oi (yielded ops a.tmps) = true) (x : Operand) (ho : oi.op = .load 86 x) {g : Nat} (hx : a.eval x = .pointer (some ⟨g, 0, none⟩)) (hS' : ∀ w, S w → w.rangeAt g 0 (rdC R)) (hS : S w)
    (h : wpAnyH Try.prog md ops Q S fuel (listed.setIfInBounds i true) (a.put d (.agg (rdC R).toArray)) w) : wpAnyH Try.prog md ops Q S (fuel + 1) listed a w :=
  take_first d hi hd hs hf hr hQ (yieldsIf_load_mid hw _ x ho g 0 hx (rdC R) _ hS' Try.underlying86 rfl (infoR R)) hS h
/-- .. and stored. -/
theorem ready_storeR (hr : Region.ready md ops listed = [i]) (hi : ops[i]? = some oi) (x y : Operand) (d : Option Tmp) (hgd : oi.guard = none) (hd : oi.dst = d) (ho : oi.op = .store 86 x y) {g : Nat} {R R' : Nat → Rs} (hx : a.eval x = .pointer (some ⟨g, 0, none⟩)) (hy : a.eval y = .agg (rdC R').toArray) (hb : Box w g (rdC R)) (hS : S (w.setCells g 0 (rdC R')))
    (h : wpAnyH Try.prog md ops Q S fuel (listed.setIfInBounds i true) (a.put d undef) (w.setCells g 0 (rdC R'))) : wpAnyH Try.prog md ops Q S (fuel + 1) listed a w := by
  subst hd
  refine wpAnyH_ready hr (by simp) (AllReadyH.cons hi (fun K hK => ?_) AllReadyH.nil)
  have hw : Region.wanted oi (yielded ops a.tmps) = true := by simp [Region.wanted, hgd]
  rw [if_pos hw]
  exact wp_store_mid _ x y ho g 0 (rdC R').toArray hx hy (by rw [List.size_toArray, rdC_len]; exact hb.there (rdC_len R)) (by rw [List.size_toArray]; exact infoR R') (all_oneCell_toArray (rdC_one R')) (by
    rw [List.toList_toArray]
    exact hK.out _ _ hS (fun _ => h))
/-- A call of a Go function. -/
theorem ready_call (hr : Region.ready md ops listed = [i]) (hi : ops[i]? = some oi) (d : Option Tmp) (hgd : oi.guard = none) (hd : oi.dst = d) {f : FuncId} {xs : Array Operand} {ts : Array TypeId} (ho : oi.op = .call { callee := .value (.func f), args := xs, argTypes := ts })
    (h : ∀ K : Act → World → Prop, Shut (∀ v w', S w' → (S w' → wpAnyH P md ops Q S fuel (listed.setIfInBounds i true) (a.put d v) w') → K (a.put d v) w') → Oper.wp P { oi with dst := d } a w K Q) : wpAnyH P md ops Q S (fuel + 1) listed a w := by
  subst hd
  refine wpAnyH_ready hr (by simp) (AllReadyH.cons hi (fun K hK => ?_) AllReadyH.nil)
  have hw : Region.wanted oi (yielded ops a.tmps) = true := by simp [Region.wanted, hgd]
  rw [if_pos hw]
  exact h K (fun v w' hs hv => hK.out _ _ hs hv)
end

end Go.Proofs.Ytnfldccaeibcpaa

namespace Go.Proofs.Ytnfldccaeibcpaa
set_option linter.unusedVariables false
open Go.RowKit Go.Maps Go.Sort

theorem setCells_heap (g : Nat) : ∀ (vs : List Value) (o : Nat) (w : World) (k : Nat), k ≠ g → (w.setCells g o vs).heap[k]? = w.heap[k]?
  | [], _, _, _, _ => rfl
  | v :: r, o, w, k, h => by
    rw [World.setCells, setCells_heap g r (o + 1) _ k h]
    exact heap_setCell_other w ⟨g, o, none⟩ k v h
theorem setCells_size (g : Nat) : ∀ (vs : List Value) (o : Nat) (w : World), (w.setCells g o vs).heap.size = w.heap.size
  | [], _, _ => rfl
  | v :: r, o, w => by rw [World.setCells, setCells_size g r (o + 1)]; simp
theorem setCells_ty (g : Nat) (t : TypeId) : ∀ (vs : List Value) (o : Nat) (w : World), (∃ cs, w.heap[g]? = some (.cells cs t (0, 0))) → ∃ cs, (w.setCells g o vs).heap[g]? = some (.cells cs t (0, 0))
  | [], _, _, h => h
  | v :: r, o, w, ⟨cs, h⟩ => by
    rw [World.setCells]
    exact setCells_ty g t r (o + 1) _ ⟨_, heap_setCell_same w g o cs t v h⟩
theorem setCells_rest (g : Nat) : ∀ (vs : List Value) (o : Nat) (w : World), (w.setCells g o vs).os = w.os ∧ (w.setCells g o vs).tape = w.tape ∧ (w.setCells g o vs).output = w.output
  | [], _, _ => ⟨rfl, rfl, rfl⟩
  | v :: r, o, w => by
    rw [World.setCells]
    obtain ⟨h1, h2, h3⟩ := setCells_rest g r (o + 1) (w.setCell ⟨g, o, none⟩ v)
    exact ⟨h1, h2, h3⟩
theorem setCells_grown (w : World) (g o : Nat) (vs : List Value) : w.grownBy (w.setCells g o vs) (some g) := by
  obtain ⟨h1, h2, h3⟩ := setCells_rest g vs o w
  exact ⟨h1, h2, h3, by rw [setCells_size]; exact Nat.le_refl _, fun k _ hk => setCells_heap g vs o w k (fun e => hk (by rw [e]))⟩
theorem Rd.keptOff {w w' : World} {A : Option Addr} {xs : List Value} {g : Nat} (h : Rd w A xs) (hg : w.grownBy w' (some g)) (hf : 0 < xs.length → ∀ ad, A = some ad → ad.block ≠ g) : Rd w' A xs := by
  intro hn
  obtain ⟨ad, e, hb⟩ := h.block hn
  obtain ⟨ad', e', hc⟩ := h hn
  rw [e] at e'
  injection e' with e'
  subst e'
  refine ⟨ad, e, fun j u hu => ?_⟩
  rw [World.cell?_of_block (hg.block _ (by rw [addr_add_block]; exact hb) (by rw [addr_add_block]; exact fun e2 => hf hn ad e (by injection e2)))]
  exact hc j u hu
theorem TyA.off {w : World} {A : Option Addr} {n : Nat} {e t : TypeId} {g : Nat} (h : TyA w A n e) (hty : ∃ cs, w.heap[g]? = some (.cells cs t (0, 0))) (hne : t ≠ e) : 0 < n → ∀ ad, A = some ad → ad.block ≠ g := fun hn ad ha e2 => by
  obtain ⟨cs, fr, h1⟩ := h hn ad ha
  obtain ⟨cs', h2⟩ := hty
  rw [e2, h2] at h1
  injection h1 with h1
  injection h1 with _ h1 _
  exact hne h1
theorem LaTy.keptOff {w w' : World} {x : La} {A : Option Addr} {c : Nat} {B : Option Addr} {d : Nat} {g : Nat} {t : TypeId} (h : LaTy w x A c B d) (hg : w.grownBy w' (some g)) (hty : ∃ cs, w.heap[g]? = some (.cells cs t (0, 0))) (n1 : t ≠ 105) (n2 : t ≠ 108) : LaTy w' x A c B d := by
  have f1 := h.2.1.off hty n1
  have f2 := h.2.2.off hty n2
  refine ⟨?_, h.2.1.keep fun ad ha hs ⟨cs, fr, e⟩ => hg.block _ (heap_lt e) (fun e3 => ?_), h.2.2.keep fun ad ha hs ⟨cs, fr, e⟩ => hg.block _ (heap_lt e) (fun e3 => ?_)⟩
  · obtain ⟨A9, c9, B9, d9, e9, r1, r2, r3⟩ := h.1
    simp only [laV, Value.agg.injEq, Array.mk.injEq, List.cons.injEq, Value.slice.injEq, true_and, and_true] at e9
    obtain ⟨⟨rfl, rfl⟩, rfl, rfl⟩ := e9
    exact ⟨_, _, _, _, rfl, r1.keptOff hg (by rw [adV_len]; intro h; exact f1 (by omega)), r2.keptOff hg (by rw [pfV_len]; intro h; exact f2 (by omega)), r3⟩
  · injection e3 with e3
    obtain ⟨cs', h2⟩ := hty
    rw [e3, h2] at e
    injection e with e
    injection e with _ e _
    exact n1 e
  · injection e3 with e3
    obtain ⟨cs', h2⟩ := hty
    rw [e3, h2] at e
    injection e with e
    injection e with _ e _
    exact n2 e
/-- The database behind a store into a block of another type. -/
theorem DbAt.keptOff {w w' : World} {g b g6 : Nat} {N : Db} {t : TypeId} (h : DbAt w g b N) (hg : w.grownBy w' (some g6)) (hty : ∃ cs, w.heap[g6]? = some (.cells cs t (0, 0))) (n1 : t ≠ 105) (n2 : t ≠ 108) (hne : g6 ≠ g) : DbAt w' g b N := by
  obtain ⟨⟨M, hm, he⟩, hc⟩ := h
  have hb6 : b ≠ g6 := fun e => by
    obtain ⟨D, ⟨es, clock, hb, _⟩, _⟩ := hm
    obtain ⟨cs, h2⟩ := hty
    rw [e, h2] at hb
    cases hb
  refine ⟨⟨M, hm.kept hg (fun e => by injection e with e; exact hb6 e.symm), fun i hi => ?_⟩, ?_⟩
  · have := he i hi
    match hv : M (i : Int), hN : N i, this with
    | none, none, _ => rw [hv, hN] at this; trivial
    | some v, some x, ⟨A, c, B, d, e, hl⟩ => exact ⟨A, c, B, d, e, hl.keptOff hg hty n1 n2⟩
    | none, some _, hf => exact hf
    | some _, none, hf => exact hf
  · rw [World.cell?_of_block (a := ⟨g, 0, none⟩) (hg.block g (World.block_lt_of_cell? _ _ hc) (fun e => by injection e with e; exact hne e.symm))]
    exact hc

end Go.Proofs.Ytnfldccaeibcpaa

namespace Go.Proofs.Ytnfldccaeibcpaa
set_option linter.unusedVariables false
open Go.RowKit Go.Maps Go.Sort

/-- A tick at one place. -/
def rt1 (s : Rs) : Rs :=
  if s.is = true then
    if s.x.y.a = 3600 then ⟨s.x, s.l - 1, if s.l - 1 = 0 then false else true⟩
    else if s.x.y.a + 1 = 3600 then ⟨⟨purgeX s.x.y, none, 0, none, 0⟩, 60, true⟩
    else ⟨⟨{ s.x.y with a := s.x.y.a + 1 }, s.x.A, s.x.c, s.x.B, s.x.d⟩, s.l, true⟩
  else s
def rx1 (s : Rs) : Bool := s.is && (!decide (s.x.y.a = 3600) && decide (s.x.y.a + 1 = 3600))
def midR (R : Nat → Rs) (k : Nat) : Nat → Rs := fun i => if i < k then rt1 (R i) else R i
def outR (R : Nat → Rs) (k : Nat) : List Int := ((List.range k).filter fun i => rx1 (R i)).map fun (i : Nat) => (i : Int)
theorem midR_zero (R : Nat → Rs) : midR R 0 = R := by funext i; simp [midR]
theorem midR_at (R : Nat → Rs) (k : Nat) : midR R k k = R k := by simp [midR]
theorem midR_next (R : Nat → Rs) (k : Nat) : midR R (k + 1) = upR (midR R k) k (rt1 (R k)) := by
  funext i
  unfold midR upR
  by_cases h : i = k
  · subst h; simp
  · by_cases h2 : i < k
    · have h3 : i < k + 1 := by omega
      simp [h, h2, h3]
    · have h3 : ¬ i < k + 1 := by omega
      simp [h, h2, h3]
theorem outR_t {R : Nat → Rs} {k : Nat} (h : rx1 (R k) = true) : outR R (k + 1) = outR R k ++ [(k : Int)] := by simp [outR, List.range_succ, List.filter_append, h]
theorem outR_f {R : Nat → Rs} {k : Nat} (h : rx1 (R k) = false) : outR R (k + 1) = outR R k := by simp [outR, List.range_succ, List.filter_append, h]
theorem outR_len (R : Nat → Rs) (k : Nat) : (outR R k).length ≤ k := by
  unfold outR
  rw [List.length_map]
  refine Nat.le_trans (List.length_filter_le _ _) ?_
  simp
theorem rdC_congr {R R' : Nat → Rs} (h : ∀ i, i < 64 → R i = R' i) : rdC R = rdC R' :=
  rdC_ext (rdC_len R) (fun i hi => by rw [rdC_is R hi, h i hi]) (fun i hi j hj => by rw [rdC_at R hi hj, h i hi])
theorem midR_end (R : Nat → Rs) : rdC (midR R 64) = rdC (fun i => rt1 (R i)) := rdC_congr fun i hi => by simp [midR, hi]
theorem purge_ok (w : World) (x : La) : LxOk w ⟨purgeX x, none, 0, none, 0⟩ :=
  ⟨none, 0, none, 0, rfl, Rd.nil _ _, Rd.nil _ _, by simp [purgeX], by simp [maxLen], by simp [purgeX], by simp [maxLen], by simp [purgeX]⟩
theorem rt1_ok {w : World} {s : Rs} (h : LxOk w s.x) : LxOk w (rt1 s).x := by
  unfold rt1
  split
  · split
    · exact h
    · split
      · exact purge_ok w _
      · unfold LxOk at *
        exact h.renum s.x.y.o s.x.y.s (s.x.y.a + 1) s.x.y.ov
  · exact h
theorem RdOk.tick {w : World} {R : Nat → Rs} (h : RdOk w R) : RdOk w (fun i => rt1 (R i)) := fun i hi => rt1_ok (h i hi)

/-- Memory within the loop: the reference's database in the first block of the call, the result's cell behind it, the list. -/
structure RTk (w wr : World) (R' : Nat → Rs) (v : Value) (os : List Int) : Prop where
  sz : w.heap.size + 2 ≤ wr.heap.size
  own : wr.ownsRow (w.heap.size + 2) 3 1 v os.length (os.map encZ)
  st : St w wr [(w.heap.size + 1, rdC (fun _ => rsZ)), (w.heap.size, rdC R')] []
section
variable {w wr w' : World} {R' : Nat → Rs} {v : Value} {os : List Int}
theorem RTk.set (h : RTk w wr R' v os) (j : Nat) (u : Value) (R2 : Nat → Rs) (hj : j < 512) (e : (rdC R').set j u = rdC R2) : RTk w (wr.setCell ⟨w.heap.size, j, none⟩ u) R2 v os :=
  ⟨by have := h.sz; simpa using this, own_far h.own (p := ⟨w.heap.size, j, none⟩) (fun b e => by have := h.own.lt b e; simp only; omega) u,
   h.st.set 1 j u rfl (by rw [rdC_len]; omega) (Nat.le_refl _) (by simp) _ (by rw [e]; rfl)⟩
theorem RTk.set_at (h : RTk w wr R' v os) {k : Nat} (hk : k < 64) {j : Nat} (hj : j < 7) (u : Value) (s t : Rs) (ht : R' k = t) (hs : s.is = t.is) (hv : (hdL t).set j u = hdL s) : RTk w (wr.setCell ⟨w.heap.size, 64 + k * 7 + j, none⟩ u) (upR R' k s) v os :=
  h.set _ u _ (by omega) (rdC_set_at' R' hk hj u s t ht hs hv)
theorem RTk.below (h : RTk w wr R' v os) (hb : Below wr.heap.size wr w') : RTk w w' R' v os := ⟨Nat.le_trans h.sz hb.size, own_below h.own hb, h.st.call hb⟩
theorem RTk.set7 (h : RTk w wr R' v os) {k : Nat} (hk : k < 64) (s t : Rs) (ht : R' k = t) (hs : s.is = t.is) :
    RTk w (((((((wr.setCell ⟨w.heap.size, 64 + k * 7, none⟩ (.int .i64 s.x.y.o)).setCell ⟨w.heap.size, 64 + k * 7 + 1, none⟩ (.int .i64 s.x.y.s)).setCell ⟨w.heap.size, 64 + k * 7 + 2, none⟩ (.int .i64 s.x.y.a)).setCell ⟨w.heap.size, 64 + k * 7 + 3, none⟩ (.bool s.x.y.ov)).setCell ⟨w.heap.size, 64 + k * 7 + 4, none⟩ (.slice s.x.A s.x.y.adj.length s.x.c)).setCell ⟨w.heap.size, 64 + k * 7 + 5, none⟩ (.slice s.x.B s.x.y.pre.length s.x.d)).setCell ⟨w.heap.size, 64 + k * 7 + 6, none⟩ (.int .i64 s.l)) (upR R' k s) v os := by
  refine ⟨by have := h.sz; simpa using this, ?_, h.st.set7 (i := 1) rfl (by simp) (Nat.le_refl _) hk s (by rw [ht]; exact hs) _ rfl⟩
  have hb : ∀ b, v.ownBlock = some b → b ≠ w.heap.size := fun b e => by have := h.own.lt b e; omega
  exact own_far (own_far (own_far (own_far (own_far (own_far (own_far h.own (p := ⟨w.heap.size, _, none⟩) hb _) (p := ⟨w.heap.size, _, none⟩) hb _) (p := ⟨w.heap.size, _, none⟩) hb _) (p := ⟨w.heap.size, _, none⟩) hb _) (p := ⟨w.heap.size, _, none⟩) hb _) (p := ⟨w.heap.size, _, none⟩) hb _) (p := ⟨w.heap.size, _, none⟩) hb _
theorem RTk.c (h : RTk w wr R' v os) (j : Nat) {u : Value} (e : (rdC R')[j]? = some u) : wr.cell? ⟨w.heap.size, j, none⟩ = some u := h.st.c 1 j rfl e
theorem RTk.f (h : RTk w wr R' v os) {j : Nat} (hj : j < 512) : wr.frozen? ⟨w.heap.size, j, none⟩ = false := h.st.f 1 j rfl (List.getElem?_eq_getElem (by rw [rdC_len]; exact hj))
theorem own_farAll {base : Nat} {e : TypeId} {size : Nat} {v : Value} {n : Nat} {xs : List Value} (g : Nat) (hg : ∀ b, v.ownBlock = some b → b ≠ g) : ∀ (vs : List Value) (o : Nat) (w : World), w.ownsRow base e size v n xs → (w.setCells g o vs).ownsRow base e size v n xs
  | [], _, _, h => h
  | u :: r, o, w, h => by
    rw [World.setCells]
    exact own_farAll g hg r (o + 1) _ (own_far h (p := ⟨g, o, none⟩) hg u)
theorem RTk.app (h : RTk w wr R' v os) {os' : List Int} {v' : Value} (ho : w'.ownsRow (w.heap.size + 2) 3 1 v' os'.length (os'.map encZ)) (hb : Below (w.heap.size + 2) wr w') : RTk w w' R' v' os' :=
  ⟨Nat.le_trans h.sz hb.size, ho, h.st.belowB hb (by omega) (by simp)⟩
theorem RTk.at (h : RTk w wr R' v os) {k : Nat} (hk : k < 64) {j : Nat} (hj : j < 7) {u : Value} (t : Rs) (ht : R' k = t) (e : (hdL t)[j]? = some u) : wr.cell? ⟨w.heap.size, 64 + k * 7 + j, none⟩ = some u := h.c _ (by rw [rdC_at R' hk hj, ht]; exact e)
end

def RTickPost (w : World) (R : Nat → Rs) (e : Ending) (w' : World) : Prop :=
  ∃ A c, e = .returned (.tuple #[.agg (rdC (fun i => rt1 (R i))).toArray, .slice A (outR R 64).length c]) ∧ w'.ownsRow w.heap.size 3 1 (.slice A (outR R 64).length c) (outR R 64).length ((outR R 64).map encZ) ∧ Below w.heap.size w w'

end Go.Proofs.Ytnfldccaeibcpaa

namespace Go.Proofs.Ytnfldccaeibcpaa
set_option linter.unusedVariables false
open Go.RowKit Go.Maps Go.Sort

def rtN : Nat → Rs → Rs
  | 0, s => s
  | n + 1, s => rt1 (rtN n s)
def rxN : Nat → Rs → Bool
  | 0, _ => false
  | n + 1, s => rxN n s || rx1 (rtN n s)
/-- A place and what is held there. -/
def Tr (s : Rs) : Option Hd → Prop
  | none => s.is = false
  | some h => s.is = true ∧ s.x.y = h.x ∧ s.l = h.l
theorem purgeX_a (x : La) (a : Int) : purgeX { x with a := a } = purgeX x := rfl
theorem rtN_tick {s : Rs} (his : s.is = true) (ha0 : 0 ≤ s.x.y.a) (ha : s.x.y.a ≤ 3600) (hl0 : 1 ≤ s.l) (hl : s.l ≤ 60) : ∀ n : Nat, Tr (rtN n s) (tickH n ⟨s.x.y, s.l⟩).1 ∧ rxN n s = (tickH n ⟨s.x.y, s.l⟩).2
  | 0 => by
    unfold tickH rtN rxN
    by_cases h : s.x.y.a < 3600
    · simp only [if_pos h, show ((0 : Nat) : Int) < 3600 - s.x.y.a from by omega, if_true]
      exact ⟨⟨his, by simp, rfl⟩, trivial⟩
    · simp only [if_neg h]
      rw [if_neg (by omega)]
      exact ⟨⟨his, by simp, by simp⟩, by simp⟩
  | n + 1 => by
    obtain ⟨h1, h2⟩ := rtN_tick his ha0 ha hl0 hl n
    show Tr (rt1 (rtN n s)) _ ∧ (rxN n s || rx1 (rtN n s)) = _
    rw [h2]
    obtain ⟨y, l⟩ : ∃ p : La × Int, p = (s.x.y, s.l) := ⟨_, rfl⟩
    generalize rtN n s = t at *
    unfold tickH at h1 h2 ⊢
    simp only at *
    by_cases h : s.x.y.a < 3600
    · simp only [if_pos h] at h1 h2 ⊢
      by_cases hn : (n : Int) < 3600 - s.x.y.a
      · simp only [if_pos hn] at h1 h2 ⊢
        obtain ⟨k1, k2, k3⟩ := h1
        have ka : t.x.y.a = s.x.y.a + n := by rw [k2]
        by_cases hn1 : ((n + 1 : Nat) : Int) < 3600 - s.x.y.a
        · simp only [if_pos hn1]
          unfold rt1 rx1
          rw [if_pos k1, if_neg (by omega), if_neg (by omega)]
          refine ⟨⟨rfl, ?_, k3⟩, ?_⟩
          · simp only [k2]; congr 1; omega
          · have : ¬ t.x.y.a + 1 = 3600 := by omega
            simp [this]
        · simp only [if_neg hn1]
          unfold rt1 rx1
          rw [if_pos k1, if_neg (by omega), if_pos (by omega), if_neg (by omega)]
          refine ⟨⟨rfl, ?_, ?_⟩, ?_⟩
          · simp only [k2]; rfl
          · simp only; omega
          · have e1 : t.x.y.a + 1 = 3600 := by omega
            have e2 : ¬ t.x.y.a = 3600 := by omega
            simp [k1, e1, e2]
      · simp only [if_neg hn] at h1 h2 ⊢
        rw [if_neg (by omega)]
        simp only [Bool.true_or, and_true]
        by_cases hr : 60 ≤ (n : Int) - (3600 - s.x.y.a)
        · rw [if_pos hr] at h1
          rw [if_pos (by omega)]
          have k1 : t.is = false := h1
          show (rt1 t).is = false
          unfold rt1; rw [if_neg (by simp [k1])]; exact k1
        · rw [if_neg hr] at h1
          obtain ⟨k1, k2, k3⟩ := h1
          have ka : t.x.y.a = 3600 := by rw [k2]; rfl
          simp only at k3
          unfold rt1
          rw [if_pos k1, if_pos ka]
          by_cases hr2 : 60 ≤ ((n + 1 : Nat) : Int) - (3600 - s.x.y.a)
          · rw [if_pos hr2, if_pos (by omega)]; rfl
          · rw [if_neg hr2, if_neg (by omega)]
            exact ⟨rfl, k2, by simp only; omega⟩
    · simp only [if_neg h] at h1 h2 ⊢
      by_cases hr : s.l ≤ (n : Int)
      · rw [if_pos hr] at h1
        rw [if_pos (by omega)]
        have k1 : t.is = false := h1
        refine ⟨?_, by simp [rx1, k1]⟩
        show (rt1 t).is = false
        unfold rt1; rw [if_neg (by simp [k1])]; exact k1
      · rw [if_neg hr] at h1
        obtain ⟨k1, k2, k3⟩ := h1
        have ka : t.x.y.a = 3600 := by rw [k2]; simp only; omega
        simp only at k3
        refine ⟨?_, by simp [rx1, ka]⟩
        unfold rt1
        rw [if_pos k1, if_pos ka]
        by_cases hr2 : s.l ≤ ((n + 1 : Nat) : Int)
        · rw [if_pos hr2, if_pos (by omega)]; rfl
        · rw [if_neg hr2, if_neg (by omega)]
          exact ⟨rfl, k2, by simp only; omega⟩
theorem rtN_gone {s : Rs} (h : s.is = false) : ∀ n, rtN n s = s ∧ rxN n s = false
  | 0 => ⟨rfl, rfl⟩
  | n + 1 => by
    obtain ⟨h1, h2⟩ := rtN_gone h n
    show rt1 (rtN n s) = s ∧ (rxN n s || rx1 (rtN n s)) = false
    rw [h1, h2]
    exact ⟨by unfold rt1; rw [if_neg (by simp [h])], by simp [rx1, h]⟩
theorem rtN_db {R : Nat → Rs} (hok : DbOk (dbOf R)) (n : Nat) : dbOf (fun i => rtN n (R i)) = tickN n (dbOf R) ∧ ∀ i, i < 64 → rxN n (R i) = expH n (dbOf R i) := by
  have key : ∀ i, i < 64 → ((R i).is = true → Tr (rtN n (R i)) (tickH n ⟨(R i).x.y, (R i).l⟩).1 ∧ rxN n (R i) = (tickH n ⟨(R i).x.y, (R i).l⟩).2) := fun i hi h => by
    have := hok i ⟨(R i).x.y, (R i).l⟩ (by unfold dbOf; rw [if_pos ⟨hi, h⟩])
    exact rtN_tick h this.1.2.2.1.1 this.1.2.2.1.2 this.2.2.1 this.2.2.2 n
  constructor
  · funext i
    unfold tickN
    by_cases hi : i < 64
    · by_cases h : (R i).is = true
      · obtain ⟨h1, h2⟩ := key i hi h
        have e : dbOf R i = some ⟨(R i).x.y, (R i).l⟩ := by unfold dbOf; rw [if_pos ⟨hi, h⟩]
        rw [e]
        simp only
        unfold dbOf
        cases ht : (tickH n ⟨(R i).x.y, (R i).l⟩).1 with
        | none => rw [ht] at h1; have : (rtN n (R i)).is = false := h1; rw [if_neg (by simp [this])]
        | some x => rw [ht] at h1; obtain ⟨k1, k2, k3⟩ := h1; rw [if_pos ⟨hi, k1⟩, k2, k3]
      · have h' : (R i).is = false := by simpa using h
        have e : dbOf R i = none := by unfold dbOf; rw [if_neg (by simp [h'])]
        rw [e]
        unfold dbOf
        rw [if_neg (by show ¬ (i < 64 ∧ (rtN n (R i)).is = true); rw [(rtN_gone h' n).1]; simp [h'])]
    · have e : dbOf R i = none := by unfold dbOf; rw [if_neg (by simp [hi])]
      rw [e]
      unfold dbOf
      rw [if_neg (by simp [hi])]
  · intro i hi
    by_cases h : (R i).is = true
    · have e : dbOf R i = some ⟨(R i).x.y, (R i).l⟩ := by unfold dbOf; rw [if_pos ⟨hi, h⟩]
      rw [e, (key i hi h).2]; rfl
    · have h' : (R i).is = false := by simpa using h
      have e : dbOf R i = none := by unfold dbOf; rw [if_neg (by simp [h'])]
      rw [e, (rtN_gone h' n).2]; rfl
def exL (f : Nat → Bool) : List Int := ((List.range 64).filter f).map fun (i : Nat) => (i : Int)
theorem exL_tick {R : Nat → Rs} (hok : DbOk (dbOf R)) (n : Nat) : exL (fun i => rxN n (R i)) = tickL n (dbOf R) := by
  unfold exL tickL orgs
  rw [List.filter_filter, List.filter_map]
  congr 1
  refine List.filter_congr fun i hi => ?_
  have h := (rtN_db hok n).2 i (List.mem_range.1 hi)
  simp only [Function.comp, Int.toNat_natCast]
  rw [h]
  cases dbOf R i with
  | none => rfl
  | some x => simp
/-! ### What holds of what is held, behind ticks -/
theorem tickH_ok {n : Int} (hn : 0 ≤ n) {h h' : Hd} (hv : LaValid h.x) (h1 : 1 ≤ h.l) (h2 : h.l ≤ 60) (e : (tickH n h).1 = some h') : LaValid h'.x ∧ h'.x.o = h.x.o ∧ 1 ≤ h'.l ∧ h'.l ≤ 60 := by
  unfold tickH at e
  obtain ⟨k1, k2, k3, k4, k5, k6, k7, k8⟩ := id hv
  split at e
  · split at e
    · injection e with e; subst e
      exact ⟨⟨k1, k2, ⟨by simp only; omega, by simp only; omega⟩, k4, k5, fun h => by simp only at h; omega, k7, k8⟩, rfl, h1, h2⟩
    · split at e
      · cases e
      · injection e with e; subst e
        exact ⟨bare_purge h.x.o h.x.s k1.1 k1.2 k2.1 k2.2, rfl, by simp only; omega, by simp only; omega⟩
  · split at e
    · cases e
    · injection e with e; subst e
      exact ⟨hv, rfl, by simp only; omega, by simp only; omega⟩
theorem tick_ok {N : Db} (h : DbOk N) {n : Int} (hn : 0 ≤ n) : DbOk (tickN n N) := fun i x e => by
  unfold tickN at e
  cases hN : N i with
  | none => rw [hN] at e; cases e
  | some y =>
    rw [hN] at e
    obtain ⟨h1, h2, h3, h4⟩ := h i y hN
    obtain ⟨k1, k2, k3, k4⟩ := tickH_ok hn h1 h3 h4 e
    exact ⟨k1, by rw [k2, h2], k3, k4⟩
theorem RdOk.ticks {w : World} {R : Nat → Rs} (h : RdOk w R) : ∀ n, RdOk w (fun i => rtN n (R i))
  | 0 => h
  | n + 1 => RdOk.tick (h.ticks n)
theorem inst_ok {N : Db} (h : DbOk N) {a : La} (ha : vB a = true → LaValid a) : DbOk (instN N a) := fun i x e => by
  unfold instN at e
  split at e
  · rename_i hc
    have hv := ha hc.1
    simp only at e
    split at e
    · rename_i hi
      injection e with e; subst e
      have := hv.1
      exact ⟨hv, by simp only; omega, by simp, by simp⟩
    · exact h i x e
  · exact h i x e

end Go.Proofs.Ytnfldccaeibcpaa

namespace Go.Proofs.Ytnfldccaeibcpaa
set_option linter.unusedVariables false
open Go.RowKit Go.Maps Go.Sort

def exC (f : Nat → Bool) : List Value := (List.range 64).map fun i => .bool (f i)
theorem exC_len (f : Nat → Bool) : (exC f).length = 64 := by simp [exC]
theorem exC_at (f : Nat → Bool) {i : Nat} (hi : i < 64) : (exC f)[i]? = some (.bool (f i)) := by simp [exC, hi]
theorem exC_congr {f g : Nat → Bool} (h : ∀ i, i < 64 → f i = g i) : exC f = exC g := by
  unfold exC
  refine List.map_congr_left fun i hi => ?_
  rw [h i (List.mem_range.1 hi)]
theorem exC_set (f : Nat → Bool) {i : Nat} (hi : i < 64) : (exC f).set i (.bool true) = exC (fun j => f j || decide (j = i)) := by
  apply List.ext_getElem?
  intro n
  by_cases hn : n < 64
  · rw [exC_at _ hn]
    by_cases e : i = n
    · subst e; rw [List.getElem?_set_self (by rw [exC_len]; exact hi)]; simp
    · rw [List.getElem?_set_ne e, exC_at _ hn]
      have : ¬ n = i := fun h => e h.symm
      simp [this]
  · rw [List.getElem?_eq_none (by rw [List.length_set, exC_len]; omega), List.getElem?_eq_none (by rw [exC_len]; omega)]
theorem exC_zero : exC (fun _ => false) = [.bool false, .bool false, .bool false, .bool false, .bool false, .bool false, .bool false, .bool false, .bool false, .bool false, .bool false, .bool false, .bool false, .bool false, .bool false, .bool false, .bool false, .bool false, .bool false, .bool false, .bool false, .bool false, .bool false, .bool false, .bool false, .bool false, .bool false, .bool false, .bool false, .bool false, .bool false, .bool false, .bool false, .bool false, .bool false, .bool false, .bool false, .bool false, .bool false, .bool false, .bool false, .bool false, .bool false, .bool false, .bool false, .bool false, .bool false, .bool false, .bool false, .bool false, .bool false, .bool false, .bool false, .bool false, .bool false, .bool false, .bool false, .bool false, .bool false, .bool false, .bool false, .bool false, .bool false, .bool false] := by rfl
def exK (f : Nat → Bool) (k : Nat) : List Int := ((List.range k).filter f).map fun (i : Nat) => (i : Int)
theorem exK_t {f : Nat → Bool} {k : Nat} (h : f k = true) : exK f (k + 1) = exK f k ++ [(k : Int)] := by simp [exK, List.range_succ, List.filter_append, h]
theorem exK_f {f : Nat → Bool} {k : Nat} (h : f k = false) : exK f (k + 1) = exK f k := by simp [exK, List.range_succ, List.filter_append, h]
theorem exK_len (f : Nat → Bool) (k : Nat) : (exK f k).length ≤ k := by
  unfold exK
  rw [List.length_map]
  refine Nat.le_trans (List.length_filter_le _ _) ?_
  simp
theorem outR_mem {R : Nat → Rs} {x : Int} (h : x ∈ outR R 64) : ∃ q : Nat, x = (q : Int) ∧ q < 64 := by
  obtain ⟨q, hq, rfl⟩ := List.mem_map.1 h
  exact ⟨q, rfl, List.mem_range.1 (List.mem_filter.1 hq).1⟩
theorem outR_iff {R : Nat → Rs} {i : Nat} (hi : i < 64) : (i : Int) ∈ outR R 64 ↔ rx1 (R i) = true := by
  unfold outR
  rw [List.mem_map]
  constructor
  · rintro ⟨q, hq, e⟩
    obtain rfl : q = i := by omega
    exact (List.mem_filter.1 hq).2
  · intro h
    exact ⟨i, List.mem_filter.2 ⟨List.mem_range.2 hi, h⟩, rfl⟩
def fJ (f : Nat → Bool) (L : List Int) (j : Nat) : Nat → Bool := fun i => f i || decide ((i : Int) ∈ L.take j)
theorem fJ_next {f : Nat → Bool} {L : List Int} {j : Nat} (hj : j < L.length) {q : Nat} (hq : L[j] = (q : Int)) : (fun i => fJ f L j i || decide (i = q)) = fJ f L (j + 1) := by
  funext i
  unfold fJ
  rw [List.take_succ_eq_append_getElem hj, hq, Bool.or_assoc]
  congr 1
  rw [Bool.eq_iff_iff]
  simp only [Bool.or_eq_true, decide_eq_true_iff, List.mem_append, List.mem_singleton]
  constructor
  · rintro (h | h)
    · exact .inl h
    · right; omega
  · rintro (h | h)
    · exact .inl h
    · right; omega

def RTicksPost (w : World) (R : Nat → Rs) (m : Nat) (e : Ending) (w' : World) : Prop :=
  ∃ A c, e = .returned (.tuple #[.agg (rdC (fun i => rtN m (R i))).toArray, .slice A (tickL m (dbOf R)).length c]) ∧ w'.ownsRow w.heap.size 3 1 (.slice A (tickL m (dbOf R)).length c) (tickL m (dbOf R)).length ((tickL m (dbOf R)).map encZ) ∧ Below w.heap.size w w'

end Go.Proofs.Ytnfldccaeibcpaa

namespace Go.Proofs.Ytnfldccaeibcpaa
set_option linter.unusedVariables false
open Go.RowKit Go.Sort Go.ChangeShapes Go.WideShapes Go.ChangeAt

/-- A step as it lies in memory. -/
structure Sx where
  x : Lx
  t : Int
def sxL (s : Sx) : List Value := lxL s.x ++ [.int .i64 s.t]
def sxV : List Sx → List Value
  | [] => []
  | s :: l => sxL s ++ sxV l
theorem sxV_len (l : List Sx) : (sxV l).length = l.length * 7 := by
  induction l with
  | nil => rfl
  | cons r l ih => simp only [sxV, sxL, lxL, List.length_append, List.length_cons, List.length_nil, ih]; omega
theorem sxV_get (l : List Sx) : ∀ (k : Nat) (hk : k < l.length) (j : Nat) (hj : j < 7), (sxV l)[7 * k + j]? = (sxL l[k])[j]? := by
  induction l with
  | nil => intro k hk; simp at hk
  | cons r l ih =>
    intro k hk j hj
    have h8 : (sxL r).length = 7 := rfl
    cases k with
    | zero => simp only [sxV, List.getElem_cons_zero]; rw [List.getElem?_append_left (by omega)]; simp
    | succ k =>
      simp only [sxV, List.getElem_cons_succ]
      rw [List.getElem?_append_right (by omega), h8, show 7 * (k + 1) + j - 7 = 7 * k + j by omega]
      exact ih k (by simpa using hk) j hj
theorem sx_form {w : World} {A : Option Addr} {l : List Sx} (h : Rd w A (sxV l)) (hn : 0 < l.length) : ∃ b off, A = some ⟨b, off, none⟩ := by
  obtain ⟨b, off, e, hc⟩ := rd_at h (by rw [sxV_len]; omega)
  exact ⟨b, off, e⟩
/-- The cells of a step. -/
theorem sx_cells {w : World} {b off : Nat} {l : List Sx} (h : Rd w (some ⟨b, off, none⟩) (sxV l)) (k : Nat) (hk : k < l.length) (s : Sx) (hs : l[k] = s) :
    w.cell? ⟨b, off + k * 7, none⟩ = some (.int .i64 s.x.y.o) ∧ w.cell? ⟨b, off + k * 7 + 1, none⟩ = some (.int .i64 s.x.y.s) ∧ w.cell? ⟨b, off + k * 7 + 2, none⟩ = some (.int .i64 s.x.y.a) ∧
    w.cell? ⟨b, off + k * 7 + 3, none⟩ = some (.bool s.x.y.ov) ∧ w.cell? ⟨b, off + k * 7 + 4, none⟩ = some (.slice s.x.A s.x.y.adj.length s.x.c) ∧ w.cell? ⟨b, off + k * 7 + 5, none⟩ = some (.slice s.x.B s.x.y.pre.length s.x.d) ∧
    w.cell? ⟨b, off + k * 7 + 6, none⟩ = some (.int .i64 s.t) := by
  subst hs
  obtain ⟨b', off', e, hc⟩ := rd_at h (by rw [sxV_len]; omega)
  injection e with e
  injection e with e1 e2 e3
  subst e1 e2
  have key : ∀ j (u : Value), j < 7 → (sxL l[k])[j]? = some u → w.cell? ⟨b, off + k * 7 + j, none⟩ = some u := fun j u hj hu => by
    rw [Nat.add_assoc]
    exact hc _ _ (by rw [Nat.mul_comm k 7, sxV_get l k hk j hj]; exact hu)
  have x0 := key 0 _ (by omega) rfl
  simp only [Nat.add_zero] at x0
  exact ⟨x0, key 1 _ (by omega) rfl, key 2 _ (by omega) rfl, key 3 _ (by omega) rfl, key 4 _ (by omega) rfl, key 5 _ (by omega) rfl, key 6 _ (by omega) rfl⟩
theorem rep_sx {w : World} {xs : List (La × Int)} : ∀ {vs : List Value}, Rep (IsTwo (IsLa w) (IsInt .i64)) 7 xs vs → ∃ l : List Sx, vs = sxV l ∧ l.length = xs.length ∧ ∀ s ∈ l, LxOk w s.x ∧ (Lit.int .i64 s.t).wf = true := by
  induction xs with
  | nil => intro vs h; exact ⟨[], h, rfl, by simp⟩
  | cons b t ih =>
    rintro vs ⟨cs, q, rfl, ⟨c1, c2, rfl, ⟨hla, hl6⟩, hc2, hwf⟩, _, hr⟩
    obtain ⟨l, rfl, hl, hok⟩ := ih hr
    obtain ⟨A, cc, B, d, hv, hat⟩ := hla.opened
    have hcs : c1 = [.int .i64 b.1.o, .int .i64 b.1.s, .int .i64 b.1.a, .bool b.1.ov, .slice A b.1.adj.length cc, .slice B b.1.pre.length d] := by
      simp only [laV, Value.agg.injEq] at hv
      have := congrArg Array.toList hv
      simpa using this
    subst hcs hc2
    refine ⟨⟨⟨b.1, A, cc, B, d⟩, b.2⟩ :: l, rfl, by simp [hl], fun s hs => ?_⟩
    rcases List.mem_cons.1 hs with rfl | hs
    · exact ⟨hat, hwf⟩
    · exact hok s hs

section
variable {H : Type} {enc : TypeId × Value → H} {w : World} {base : Nat} {spare : Nat → Bool} {held : Bool} {r : Reach} {b0 : Nat} {v : Value} {d : DataW H} {ps : List MemPlace}
end
def tsum : List Sx → Int
  | [] => 0
  | s :: l => max 0 s.t + tsum l
theorem tsum_app (a b : List Sx) : tsum (a ++ b) = tsum a + tsum b := by
  induction a with
  | nil => simp [tsum]
  | cons x a ih => simp only [List.cons_append, tsum, ih]; omega
structure Small33 (l : List Sx) : Prop where
  len : l.length ≤ 12
  few : ∀ s ∈ l, fewB s.x.y = true ∧ s.t ≤ 4000
  sum : tsum l ≤ 8000
def FewPost (w : World) (l : List Sx) (e : Ending) (w' : World) : Prop := ∃ fv, e = .returned (.bool fv) ∧ (fv = true → Small33 l) ∧ Below w.heap.size w w'

end Go.Proofs.Ytnfldccaeibcpaa

namespace Go.Proofs.Ytnfldccaeibcpaa
set_option linter.unusedVariables false
open Go.RowKit Go.Maps Go.Sort

theorem tickH_zero {h : Hd} (h1 : 1 ≤ h.l) : tickH 0 h = (some h, false) := by
  unfold tickH
  by_cases ha : h.x.a < 3600
  · rw [if_pos ha, if_pos (by omega)]; simp
  · rw [if_neg ha, if_neg (by omega)]; simp
theorem tickN_zero {N : Db} (h : DbOk N) : tickN 0 N = N := by
  funext i
  unfold tickN
  cases hN : N i with
  | none => rfl
  | some x => simp only; rw [tickH_zero (h i x hN).2.2.1]
theorem tickL_zero {N : Db} (h : DbOk N) : tickL 0 N = [] := by
  unfold tickL
  rw [List.filter_eq_nil_iff]
  intro i hi
  unfold expH
  cases hN : N i.toNat with
  | none => simp
  | some x => simp only; rw [tickH_zero (h _ x hN).2.2.1]; simp

theorem DbAt.drew {w : World} {g b : Nat} {N : Db} (h : DbAt w g b N) : DbAt w.drew g b N := h.below ⟨rfl, rfl, rfl, Nat.le_refl _, fun _ _ => rfl⟩
theorem resR3 {fn : Func} {a p u : Tmp} (h : fn.results = #[.tmp a, .cell p 86, .tmp u]) {tmps : Array Value} {w : World} {g : Nat} {R : Nat → Rs} (hb : Box w g (rdC R)) (hp : tmps.getD p undef = .pointer (some ⟨g, 0, none⟩)) {v1 v2 : Value} (h1 : tmps.getD a undef = v1) (h2 : tmps.getD u undef = v2) :
    (results fn tmps).run Try.prog w = .ok (.tuple #[v1, .agg (rdC R).toArray, v2]) w := by
  subst h1 h2
  have hp' : tmps[p]?.getD undef = .pointer (some ⟨g, 0, none⟩) := by simpa using hp
  simp [results, h, hp', asAddr, run_loadR hb]
/-- What holds before each step. -/
structure PlAt (w wr : World) (g b g6 g3 : Nat) (R : Nat → Rs) (A : Option Addr) (l : List Sx) : Prop where
  db : DbAt wr g b (dbOf R)
  rd : RdOk w R
  ok : DbOk (dbOf R)
  st : St w wr [(g6, rdC R), (g3, rdC (fun _ => rsZ))] [(A, sxV l)]
  ty6 : ∃ cs, wr.heap[g6]? = some (.cells cs 86 (0, 0))
  ty3 : ∃ cs, wr.heap[g3]? = some (.cells cs 86 (0, 0))
  n6 : g6 ≠ b
  n3 : g3 ≠ b
  n63 : g3 ≠ g6
  n6g : g6 ≠ g
  n3g : g3 ≠ g
  l3 : w.heap.size ≤ g3
  l6 : w.heap.size ≤ g6
  lb : w.heap.size ≤ b
section
variable {w wr w' : World} {g b g6 g3 : Nat} {R R' : Nat → Rs} {A : Option Addr} {l : List Sx}
theorem ty_below {k : Nat} {t : TypeId} (h : ∃ cs, wr.heap[k]? = some (.cells cs t (0, 0))) (hb : Below wr.heap.size wr w') : ∃ cs, w'.heap[k]? = some (.cells cs t (0, 0)) := by
  obtain ⟨cs, e⟩ := h
  exact ⟨cs, (hb.block _ (heap_lt e)).trans e⟩
theorem ty_row {k m : Nat} {t : TypeId} (h : ∃ cs, wr.heap[k]? = some (.cells cs t (0, 0))) (hg : wr.grownBy w' (some m)) (hne : k ≠ m) : ∃ cs, w'.heap[k]? = some (.cells cs t (0, 0)) := by
  obtain ⟨cs, e⟩ := h
  exact ⟨cs, (hg.block _ (heap_lt e) (fun e2 => by injection e2 with e2; exact hne e2)).trans e⟩
theorem PlAt.below (h : PlAt w wr g b g6 g3 R A l) (hb : Below wr.heap.size wr w') : PlAt w w' g b g6 g3 R A l :=
  ⟨h.db.below hb, h.rd, h.ok, h.st.call hb, ty_below h.ty6 hb, ty_below h.ty3 hb, h.n6, h.n3, h.n63, h.n6g, h.n3g, h.l3, h.l6, h.lb⟩
/-- Behind the program's step: the database alone has turned. -/
structure PlMid (w wr : World) (g b g6 g3 : Nat) (R : Nat → Rs) (N : Db) (A : Option Addr) (l : List Sx) : Prop where
  db : DbAt wr g b N
  rd : RdOk w R
  ok : DbOk N
  st : St w wr [(g6, rdC R), (g3, rdC (fun _ => rsZ))] [(A, sxV l)]
  ty6 : ∃ cs, wr.heap[g6]? = some (.cells cs 86 (0, 0))
  ty3 : ∃ cs, wr.heap[g3]? = some (.cells cs 86 (0, 0))
  n6 : g6 ≠ b
  n3 : g3 ≠ b
  n63 : g3 ≠ g6
  n6g : g6 ≠ g
  n3g : g3 ≠ g
  l3 : w.heap.size ≤ g3
  l6 : w.heap.size ≤ g6
  lb : w.heap.size ≤ b
theorem PlMid.below {N : Db} (h : PlMid w wr g b g6 g3 R N A l) (hb : Below wr.heap.size wr w') : PlMid w w' g b g6 g3 R N A l :=
  ⟨h.db.below hb, h.rd, h.ok, h.st.call hb, ty_below h.ty6 hb, ty_below h.ty3 hb, h.n6, h.n3, h.n63, h.n6g, h.n3g, h.l3, h.l6, h.lb⟩
theorem PlAt.turn {N : Db} (h : PlAt w wr g b g6 g3 R A l) (hd : DbAt w' g b N) (hN : DbOk N) (hg : wr.grownBy w' (some b)) : PlMid w w' g b g6 g3 R N A l :=
  ⟨hd, h.rd, hN, h.st.via hg h.lb (by
    intro q hq
    simp only [List.mem_cons, List.not_mem_nil, or_false] at hq
    rcases hq with rfl | rfl
    · exact ⟨h.n6, by rw [rdC_len]; omega⟩
    · exact ⟨h.n3, by rw [rdC_len]; omega⟩), ty_row h.ty6 hg h.n6, ty_row h.ty3 hg h.n3, h.n6, h.n3, h.n63, h.n6g, h.n3g, h.l3, h.l6, h.lb⟩
/-- .. the reference's has turned too. -/
theorem PlMid.done (h : PlMid w wr g b g6 g3 R (dbOf R') A l) (hR : RdOk w R') : PlAt w (wr.setCells g6 0 (rdC R')) g b g6 g3 R' A l :=
  ⟨h.db.keptOff (setCells_grown _ _ _ _) h.ty6 (by decide) (by decide) h.n6g, hR, h.ok, h.st.setAllR 0 R' rfl h.l6 (by
    intro q hq
    simp only [List.eraseIdx_zero, List.tail_cons, List.mem_cons, List.not_mem_nil, or_false] at hq
    rw [hq]; exact h.n63) _ rfl, setCells_ty _ _ _ _ _ h.ty6, ty_row h.ty3 (setCells_grown _ _ _ _) h.n63, h.n6, h.n3, h.n63, h.n6g, h.n3g, h.l3, h.l6, h.lb⟩
end
def PlayPost (w : World) (e : Ending) (w' : World) : Prop :=
  ∃ g b R, e = .returned (.tuple #[.pointer (some ⟨g, 0, none⟩), .agg (rdC R).toArray, .bool true]) ∧ DbAt w' g b (dbOf R) ∧ RdOk w R ∧ DbOk (dbOf R) ∧ w.heap.size ≤ b ∧ Below w.heap.size w w'
theorem below_drewW {w w' : World} (h : Below w.drew.heap.size w.drew w') : Below w.heap.size w w' := ⟨h.os, h.tape, h.output, h.size, h.block⟩

end Go.Proofs.Ytnfldccaeibcpaa

namespace Go.Proofs.Ytnfldccaeibcpaa
set_option linter.unusedVariables false
open Go.RowKit Go.Maps Go.Sort

def smL (x : La) : List Value := [.int .i64 x.o, .int .i64 x.s, .bool (x.a == 3600)]
def smV : List La → List Value
  | [] => []
  | x :: l => smL x ++ smV l
theorem smV_app (a b : List La) : smV (a ++ b) = smV a ++ smV b := by
  induction a with
  | nil => rfl
  | cons r l ih => simp only [List.cons_append, smV, ih, List.append_assoc]
theorem smL_one (x : La) : ∀ u ∈ smL x, u.oneCell' = true := by
  intro u hu
  simp only [smL, List.mem_cons, List.not_mem_nil, or_false] at hu
  rcases hu with e | e | e <;> rw [e] <;> rfl
end Go.Proofs.Ytnfldccaeibcpaa

namespace Go.Proofs.Ytnfldccaeibcpaa
set_option linter.unusedVariables false
open Go.RowKit Go.Maps Go.Sort

theorem allR_la (R : Nat → Rs) : laL (allR R) = allN (dbOf R) := by
  unfold laL allR allK allN orgs
  rw [List.map_map, List.filter_map, List.map_map]
  have e : (List.range 64).filter ((fun i : Int => (dbOf R i.toNat).isSome) ∘ fun (i : Nat) => (i : Int)) = (List.range 64).filter fun i => (R i).is := by
    refine List.filter_congr fun i hi => ?_
    have h := List.mem_range.1 hi
    simp only [Function.comp, Int.toNat_natCast, dbOf]
    by_cases hr : (R i).is = true <;> simp [h, hr]
  rw [e]
  refine List.map_congr_left fun i hi => ?_
  obtain ⟨h1, h2⟩ := List.mem_filter.1 hi
  have h3 := List.mem_range.1 h1
  simp only [Function.comp, Int.toNat_natCast, dbOf]
  rw [if_pos ⟨h3, h2⟩]
  rfl
theorem allR_len (R : Nat → Rs) : (allR R).length = (orgs (dbOf R)).length := by
  have := congrArg List.length (allR_la R)
  simpa [laL, allN] using this
theorem allR_ok {w : World} {R : Nat → Rs} (h : RdOk w R) : ∀ s ∈ allR R, LxOk w s := fun s hs => by
  obtain ⟨i, hi, rfl⟩ := List.mem_map.1 hs
  exact h i (List.mem_range.1 (List.mem_filter.1 hi).1)

theorem smV_get (l : List La) : ∀ (k : Nat) (hk : k < l.length) (j : Nat) (hj : j < 3), (smV l)[3 * k + j]? = (smL l[k])[j]? := by
  induction l with
  | nil => intro k hk; simp at hk
  | cons r l ih =>
    intro k hk j hj
    have h8 : (smL r).length = 3 := rfl
    cases k with
    | zero => simp only [smV, List.getElem_cons_zero]; rw [List.getElem?_append_left (by omega)]; simp
    | succ k =>
      simp only [smV, List.getElem_cons_succ]
      rw [List.getElem?_append_right (by omega), h8, show 3 * (k + 1) + j - 3 = 3 * k + j by omega]
      exact ih k (by simpa using hk) j hj
theorem smV_len (l : List La) : (smV l).length = l.length * 3 := by
  induction l with
  | nil => rfl
  | cons r l ih => simp only [smV, smL, List.length_append, List.length_cons, List.length_nil, ih]; omega

end Go.Proofs.Ytnfldccaeibcpaa
