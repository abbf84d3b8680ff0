/-
  The texts Db9, RdI, RdR, RdK, RdT, RdN, RdW, DbS, DbP, one after the other.
-/
import Derived.Test.YtkmpmgojgidcgaaQPView0
import Derived.Deep.RegionHeld3
namespace Go.Proofs.Ytkmpmgojgidcgaa
set_option linter.unusedVariables false
open Go.RowKit Go.Maps Go.Sort

theorem own_rowNe {w w' : World} {base : Nat} {e : TypeId} {size : Nat} {v : Value} {n : Nat} {xs : List Value} {row : Option Nat} (h : w.ownsRow base e size v n xs) (hg : w.grownBy w' row) (hne : v.ownBlock = none ∨ v.ownBlock ≠ row) : w'.ownsRow base e size v n xs := by
  refine ⟨h.1, ?_⟩
  rcases h.2 with h2 | ⟨g, cap, cur, rfl, hgb, hh, r⟩
  · exact .inl h2
  · exact .inr ⟨g, cap, cur, rfl, hgb, (hg.block g (h.lt g rfl).2 (fun e => by
      rcases hne with h3 | h3
      · cases h3
      · exact h3 e)).trans hh, r⟩
theorem LaOwn.app {w w' : World} {base base2 : Nat} {u : Value} {x : La} {v2 : Value} {n : Nat} {xs : List Value} (h : LaOwn w base u x) (hl : w.ownsRow base2 30 6 v2 n xs) (hg : w.grownBy w' v2.ownBlock) : LaOwn w' base u x := by
  obtain ⟨A, c, B, d, rfl, o1, o2, hu⟩ := h
  exact ⟨A, c, B, d, rfl, own_rowNe o1 hg (own_ne o1 hl (by decide)), own_rowNe o2 hg (own_ne o2 hl (by decide)), hu⟩
theorem LaOwn.mono' {w : World} {base base' : Nat} {u : Value} {x : La} (h : LaOwn w base u x) (hb : base' ≤ base) : LaOwn w base' u x := by
  obtain ⟨A, c, B, d, rfl, o1, o2, hu⟩ := h
  exact ⟨A, c, B, d, rfl, own_mono o1 hb, own_mono o2 hb, hu⟩
/-- An advertisement of the call's own. -/
def LxOwn (w : World) (base : Nat) (s : Lx) : Prop := LaOwn w base (laV s.y.o s.y.s s.y.a s.y.ov s.A s.y.adj.length s.c s.B s.y.pre.length s.d) s.y
theorem LxOwn.ok {w : World} {base : Nat} {s : Lx} (h : LxOwn w base s) : LxOk w s := LaOwn.at h
def allN (N : Db) : List La := (orgs N).map fun i => getX (N i.toNat)
def DAllPost (w : World) (N : Db) (e : Ending) (w' : World) : Prop :=
  ∃ A c ls, e = .returned (.slice A (orgs N).length c) ∧ w'.ownsRow w.heap.size 30 6 (.slice A (orgs N).length c) (orgs N).length (lxV ls) ∧ laL ls = allN N ∧ (∀ s ∈ ls, LxOwn w' w.heap.size s) ∧ Below w.heap.size w w'
/-- Within the loop. -/
structure AllAt (w wr : World) (N : Db) (B : Option Addr) (d : Nat) (k : Nat) (v : Value) (ls : List Lx) : Prop where
  og : wr.ownsRow w.heap.size 3 1 (.slice B (orgs N).length d) (orgs N).length ((orgs N).map encZ)
  own : wr.ownsRow w.heap.size 30 6 v k (lxV ls)
  la : laL ls = (allN N).take k
  ok : ∀ s ∈ ls, LxOwn wr w.heap.size s
  bel : Below w.heap.size w wr
theorem AllAt.below {w wr w' : World} {N : Db} {B : Option Addr} {d k : Nat} {v : Value} {ls : List Lx} (h : AllAt w wr N B d k v ls) (hb : Below wr.heap.size wr w') : AllAt w w' N B d k v ls :=
  ⟨own_below h.og hb, own_below h.own hb, h.la, fun s hs => LaOwn.below (h.ok s hs) hb, h.bel.trans (hb.mono h.bel.size)⟩
theorem AllAt.app {w wr w' : World} {N : Db} {B : Option Addr} {d k : Nat} {v v' : Value} {ls : List Lx} (h : AllAt w wr N B d k v ls) {s : Lx} (hs : LxOwn wr w.heap.size s) (hk : k < (orgs N).length) (hy : s.y = getX (N (orgs N)[k].toNat))
    (ho : w'.ownsRow w.heap.size 30 6 v' (k + 1) (lxV ls ++ lxL s)) (hb : Below w.heap.size wr w') (hg : wr.grownBy w' v.ownBlock) : AllAt w w' N B d (k + 1) v' (ls ++ [s]) := by
  refine ⟨own_rowNe h.og hg (own_ne h.og h.own (by decide)), by rw [lxV_append]; simpa [lxV] using ho, ?_, fun z hz => ?_, h.bel.trans hb⟩
  · have hk2 : k < (allN N).length := by simpa [allN] using hk
    rw [List.take_succ_eq_append_getElem hk2, ← h.la]
    have e2 : (allN N)[k] = s.y := by rw [hy]; simp [allN]
    rw [e2]; simp [laL]
  · rcases List.mem_append.1 hz with hz | hz
    · exact LaOwn.app (h.ok z hz) h.own hg
    · rw [List.mem_singleton.1 hz]; exact LaOwn.app hs h.own hg

set_option maxRecDepth 100000 in
set_option maxHeartbeats 6400000 in
theorem dall_any (w : World) (g b : Nat) (N : Db) (h : DbAt w g b N) (hok : DbOk N) : Calls Try.prog 21 #[.pointer (some ⟨g, 0, none⟩)] w (DAllPost w N) := by
  have O := dorigins_any w g b N h
  have hlen := orgs_len N
  have hfin : Hid (∀ w' A c ls B d, AllAt w w' N B d (orgs N).length (.slice A (orgs N).length c) ls → DAllPost w N (.returned (.slice A (orgs N).length c)) w') := fun w' A c ls B d T => ⟨A, c, ls, rfl, T.own, by rw [T.la, List.take_of_length_le (by simp [allN])], T.ok, T.bel⟩
  obtain ⟨n, hn⟩ : ∃ n, (orgs N).length = n := ⟨_, rfl⟩
  rw [hn] at O hlen hfin
  replace O := Lib.hid O
  replace hok := Lib.hid hok
  replace hn := Lib.hid hn
  replace h := Lib.hid h
  go_enter Try.func21, Try.ntmps21
  go_wp2_with fail
  (with_reducible refine (O.out).mono ?_)
  rintro e w1 ⟨B, d, rfl, o14, hb⟩
  have hT : Hid (AllAt w w1 N B d 0 (.slice none 0 0) []) := ⟨by rw [hn.out]; exact o14, World.ownsRow_nil _ _ _ _, by simp [laL], by simp, hb⟩
  clear O o14 hb
  go_wp2_with fail
  go_loopw [3, 9] (fun v3 v9 wr => ∃ (k : Nat) (A : Option Addr) (c : Nat) (ls : List Lx), v9 = .int .i64 k ∧ v3 = .slice A k c ∧ k ≤ n ∧ Hid (AllAt w wr N B d k (.slice A k c) ls)) (fun _ v9 _ => n - (intOf v9).toNat)
  case atStart => exact ⟨0, none, 0, [], rfl, rfl, by omega, hT⟩
  case round =>
    clear hT
    obtain ⟨k, A, c, ls, rfl, rfl, hk, hT⟩ := hrel
    by_cases hkn : k < n
    · have hkl : k < (orgs N).length := by rw [hn.out]; exact hkn
      have hm1 := (orgs_mem (N := N) (orgs N)[k]).1 (List.getElem_mem hkl)
      have T := hT.out
      have og := T.og
      rw [hn.out] at og
      obtain ⟨b14, off14, rfl, hz14⟩ := rd_at (own_slice og) (by simp only [List.length_map]; omega)
      have z14 := hz14 k _ (by rw [List.getElem?_map, List.getElem?_eq_getElem hkl]; rfl)
      obtain ⟨q, hq⟩ := Int.eq_ofNat_of_zero_le hm1.1.1
      rw [hq] at hm1 z14
      rw [Int.toNat_natCast] at hm1
      have hq64 : q < 64 := by have := hm1.1.2; omega
      obtain ⟨x, hNq⟩ := Option.isSome_iff_exists.1 hm1.2
      have hgx : getX (N (orgs N)[k].toNat) = x.x := by rw [hq, Int.toNat_natCast, hNq]; rfl
      have hd := h.out.below T.bel
      obtain ⟨A1, c1, B1, d1, L1, la1⟩ := hd.el hq64 hNq
      have hf := hok.out.few q x hNq
      have x0 := hd.cell
      have K1 := L1 wr (Below.refl _ _)
      have FL1 := hd_field x.x A1 c1 B1 d1 x.l
      have CL := dclone_any wr _ x.x la1 hf.1 hf.2
      unfold hdV at K1 FL1
      obtain ⟨y, hy⟩ : ∃ y, x.x = y := ⟨_, rfl⟩
      rw [hy] at K1 FL1 CL hgx
      replace CL := Lib.hid CL
      replace hgx := Lib.hid hgx
      clear hd og hz14 hm1 hq hNq L1 la1 hf hy hT
      replace T := Lib.hid T
      go_wp2_with fail
      (with_reducible refine (CL.out).mono ?_)
      rintro e w2 ⟨v2, rfl, hown, hb⟩
      clear z14 x0 K1 FL1 CL
      have hown' : LaOwn w2 w.heap.size v2 y := hown.mono' T.out.bel.size
      replace T := T.out.below hb
      obtain ⟨A5, c5, B5, d5, hv5⟩ := hown'.at.form
      subst hv5
      have hb3 := below_new' w2 (.cells #[.int .i64 y.o, .int .i64 y.s, .int .i64 y.a, .bool y.ov, .slice A5 y.adj.length c5, .slice B5 y.pre.length d5] 30)
      have rd0 := Rd.lit w2 #[.int .i64 y.o, .int .i64 y.s, .int .i64 y.a, .bool y.ov, .slice A5 y.adj.length c5, .slice B5 y.pre.length d5] 30
      have T3 := T.below hb3
      have hown3 : LxOwn _ w.heap.size ⟨y, A5, c5, B5, d5⟩ := LaOwn.below hown' hb3
      have hsz := T3.bel.size
      have o3 := T3.own
      clear hown hown' hb hb3 T
      replace T3 := Lib.hid T3
      replace hown3 := Lib.hid hown3
      go_wp2_with (at_builtin; refine wpList_appB rfl laT (.tmp 13) (.tmp 22) rfl w.heap.size rfl o3 (m := 1) rfl (by simp) rd0 (lxL_one ⟨y, A5, c5, B5, d5⟩) (by simp only [maxLen]; omega) (by omega) hsz (k + 1) _ rfl rfl ?_; intro v6 w6 o6 hbel6 hg6 hv6)
      obtain ⟨A7, c7, rfl, -⟩ := own_rd o6
      have T4 := Lib.hid (T3.out.app hown3.out hkl hgx.out.symm o6 hbel6 hg6)
      clear o6 hbel6 hg6 hv6 o3 rd0 T3 hown3 hsz
      go_wp2_with fail
      go_round
      case rel => exact ⟨k + 1, A7, c7, _, by go_num, rfl, by omega, T4⟩
      case measure => simp [intOf]; omega
    · obtain rfl : k = n := by omega
      have hf := hfin.out _ _ _ _ _ _ hT.out
      replace hf := Lib.hid hf
      go_wp2_with fail
      go_ret
      exact hf.out

end Go.Proofs.Ytkmpmgojgidcgaa

namespace Go.Proofs.Ytkmpmgojgidcgaa
set_option linter.unusedVariables false
open Go.RowKit Go.Maps Go.Sort

/-! ### Whole values -/
theorem infoR (R : Nat → Rs) : (Try.prog.info? 46).map (·.size) = some (rdC R).length := by rw [rdC_len]; kernel_rfl
theorem run_loadR {w : World} {g : Nat} {R : Nat → Rs} (h : Box w g (rdC R)) : (loadVar 46 ⟨g, 0, none⟩).run Try.prog w = .ok (.agg (rdC R).toArray) w :=
  run_loadVar_mid w g 0 _ (rdC R) _ h.range Try.underlying46 rfl (infoR R)
theorem wpList_loadR {w : World} {g : Nat} {R : Nat → Rs} {ops : Array Oper} {rest : List Oper} {op : Oper} {a : Act} {Q : Exit → Act → World → Prop} (hgd : op.guard = none) (x : Operand) (ho : op.op = .load 46 x) (hx : a.eval x = .pointer (some ⟨g, 0, none⟩)) (h : Box w g (rdC R))
    (hK : wpList Try.prog ops Q rest (a.put op.dst (.agg (rdC R).toArray)) w) : wpList Try.prog ops Q (op :: rest) a w :=
  wpList_load_mid hgd _ x ho g 0 hx (rdC R) _ h.range Try.underlying46 rfl (infoR R) hK
theorem wpList_storeR {w : World} {g : Nat} {R R' : Nat → Rs} {ops : Array Oper} {rest : List Oper} {op : Oper} {a : Act} {Q : Exit → Act → World → Prop} (hgd : op.guard = none) (x y : Operand) (ho : op.op = .store 46 x y) (hx : a.eval x = .pointer (some ⟨g, 0, none⟩)) (hy : a.eval y = .agg (rdC R').toArray) (h : Box w g (rdC R))
    (hK : wpList Try.prog ops Q rest (a.put op.dst undef) (w.setCells g 0 (rdC R'))) : wpList Try.prog ops Q (op :: rest) a w :=
  wpList_store_mid hgd _ x y ho g 0 (rdC R').toArray hx hy (by rw [List.size_toArray, rdC_len]; exact h.there (rdC_len R)) (by rw [List.size_toArray]; exact infoR R') (all_oneCell_toArray (rdC_one R')) (by simpa using hK)
theorem resR {fn : Func} {p u : Tmp} (h : fn.results = #[.cell p 46, .tmp u]) {tmps : Array Value} {w : World} {g : Nat} {R : Nat → Rs} (hb : Box w g (rdC R)) (hp : tmps.getD p undef = .pointer (some ⟨g, 0, none⟩)) {v : Value} (hu : tmps.getD u undef = v) :
    (results fn tmps).run Try.prog w = .ok (.tuple #[.agg (rdC R).toArray, v]) w := by
  rw [results_cell_tmp h, hp, hu]
  simp only [asAddr, Sem.run_pure, Result.andThen_ok, run_loadR hb]
theorem St.setAllR {W w : World} {bs : List (Nat × List Value)} {rs : List (Option Addr × List Value)} (S : St W w bs rs) (i : Nat) (R' : Nat → Rs) {g : Nat} {R : Nat → Rs} (hi : bs[i]? = some (g, rdC R)) (hg : W.heap.size ≤ g)
    (hd : ∀ x ∈ bs.eraseIdx i, x.1 ≠ g) (bs' : List (Nat × List Value)) (hbs : bs.set i (g, rdC R') = bs') : St W (w.setCells g 0 (rdC R')) bs' rs :=
  S.setAll i (rdC R') hi (by rw [rdC_len, rdC_len]) hg hd bs' hbs
/-! ### Seven cells stored -/
theorem rdC_set_at' (R : Nat → Rs) {i : Nat} (hi : i < 64) {j : Nat} (hj : j < 7) (v : Value) (s t : Rs) (ht : R i = t) (hs : s.is = t.is) (hv : (hdL t).set j v = hdL s) : (rdC R).set (64 + i * 7 + j) v = rdC (upR R i s) :=
  rdC_set_at R hi hj v s (by rw [ht]; exact hs) (by rw [ht]; exact hv)
theorem rdC_set7 (R : Nat → Rs) {i : Nat} (hi : i < 64) (s : Rs) (hs : s.is = (R i).is) :
    (((((((rdC R).set (64 + i * 7) (.int .i64 s.x.y.o)).set (64 + i * 7 + 1) (.int .i64 s.x.y.s)).set (64 + i * 7 + 2) (.int .i64 s.x.y.a)).set (64 + i * 7 + 3) (.bool s.x.y.ov)).set (64 + i * 7 + 4) (.slice s.x.A s.x.y.adj.length s.x.c)).set (64 + i * 7 + 5) (.slice s.x.B s.x.y.pre.length s.x.d)).set (64 + i * 7 + 6) (.int .i64 s.l) = rdC (upR R i s) := by
  obtain ⟨⟨⟨o, sq, ag, ov, adj, pre⟩, A, c, B, d⟩, l, is⟩ := s
  obtain ⟨t, ht⟩ : ∃ t, R i = t := ⟨_, rfl⟩
  rw [ht] at hs
  obtain ⟨⟨⟨o', sq', ag', ov', adj', pre'⟩, A', c', B', d'⟩, l', is'⟩ := t
  simp only at hs ⊢
  subst hs
  have e0 := rdC_set_at' R hi (j := 0) (by omega) (.int .i64 o) ⟨⟨⟨o, sq', ag', ov', adj', pre'⟩, A', c', B', d'⟩, l', is⟩ _ ht rfl rfl
  rw [Nat.add_zero] at e0
  rw [e0]
  rw [rdC_set_at' (upR R i ⟨⟨⟨o, sq', ag', ov', adj', pre'⟩, A', c', B', d'⟩, l', is⟩) hi (j := 1) (by omega) (.int .i64 sq) ⟨⟨⟨o, sq, ag', ov', adj', pre'⟩, A', c', B', d'⟩, l', is⟩ ⟨⟨⟨o, sq', ag', ov', adj', pre'⟩, A', c', B', d'⟩, l', is⟩ (upR_same _ _ _) rfl rfl, upR_upR]
  rw [rdC_set_at' (upR R i ⟨⟨⟨o, sq, ag', ov', adj', pre'⟩, A', c', B', d'⟩, l', is⟩) hi (j := 2) (by omega) (.int .i64 ag) ⟨⟨⟨o, sq, ag, ov', adj', pre'⟩, A', c', B', d'⟩, l', is⟩ ⟨⟨⟨o, sq, ag', ov', adj', pre'⟩, A', c', B', d'⟩, l', is⟩ (upR_same _ _ _) rfl rfl, upR_upR]
  rw [rdC_set_at' (upR R i ⟨⟨⟨o, sq, ag, ov', adj', pre'⟩, A', c', B', d'⟩, l', is⟩) hi (j := 3) (by omega) (.bool ov) ⟨⟨⟨o, sq, ag, ov, adj', pre'⟩, A', c', B', d'⟩, l', is⟩ ⟨⟨⟨o, sq, ag, ov', adj', pre'⟩, A', c', B', d'⟩, l', is⟩ (upR_same _ _ _) rfl rfl, upR_upR]
  rw [rdC_set_at' (upR R i ⟨⟨⟨o, sq, ag, ov, adj', pre'⟩, A', c', B', d'⟩, l', is⟩) hi (j := 4) (by omega) (.slice A adj.length c) ⟨⟨⟨o, sq, ag, ov, adj, pre'⟩, A, c, B', d'⟩, l', is⟩ ⟨⟨⟨o, sq, ag, ov, adj', pre'⟩, A', c', B', d'⟩, l', is⟩ (upR_same _ _ _) rfl rfl, upR_upR]
  rw [rdC_set_at' (upR R i ⟨⟨⟨o, sq, ag, ov, adj, pre'⟩, A, c, B', d'⟩, l', is⟩) hi (j := 5) (by omega) (.slice B pre.length d) ⟨⟨⟨o, sq, ag, ov, adj, pre⟩, A, c, B, d⟩, l', is⟩ ⟨⟨⟨o, sq, ag, ov, adj, pre'⟩, A, c, B', d'⟩, l', is⟩ (upR_same _ _ _) rfl rfl, upR_upR]
  rw [rdC_set_at' (upR R i ⟨⟨⟨o, sq, ag, ov, adj, pre⟩, A, c, B, d⟩, l', is⟩) hi (j := 6) (by omega) (.int .i64 l) ⟨⟨⟨o, sq, ag, ov, adj, pre⟩, A, c, B, d⟩, l, is⟩ ⟨⟨⟨o, sq, ag, ov, adj, pre⟩, A, c, B, d⟩, l', is⟩ (upR_same _ _ _) rfl rfl, upR_upR]
theorem St.set1 {W w : World} {bs : List (Nat × List Value)} {rs : List (Option Addr × List Value)} {i g : Nat} {cs : List Value} (S : St W w bs rs ∧ bs[i]? = some (g, cs) ∧ (∀ x ∈ bs.eraseIdx i, x.1 ≠ g)) (hg : W.heap.size ≤ g) (j : Nat) (u : Value) (hj : j < cs.length) (cs' : List Value) (hcs : cs.set j u = cs') :
    St W (w.setCell ⟨g, j, none⟩ u) (bs.set i (g, cs')) rs ∧ (bs.set i (g, cs'))[i]? = some (g, cs') ∧ (∀ x ∈ (bs.set i (g, cs')).eraseIdx i, x.1 ≠ g) := by
  subst hcs
  obtain ⟨S, hi, hd⟩ := S
  have hl : i < bs.length := (List.getElem?_eq_some_iff.1 hi).1
  exact ⟨S.set i j u hi hj hg hd _ rfl, by rw [List.getElem?_set_self hl], by rwa [List.eraseIdx_set_eq]⟩
/-- A place stored anew. -/
theorem St.set7 {W w : World} {bs : List (Nat × List Value)} {rs : List (Option Addr × List Value)} {i g : Nat} {R : Nat → Rs} (S : St W w bs rs) (hi : bs[i]? = some (g, rdC R)) (hd : ∀ x ∈ bs.eraseIdx i, x.1 ≠ g) (hg : W.heap.size ≤ g) {k : Nat} (hk : k < 64) (s : Rs) (hs : s.is = (R k).is) (bs' : List (Nat × List Value)) (hbs : bs.set i (g, rdC (upR R k s)) = bs') :
    St W (((((((w.setCell ⟨g, 64 + k * 7, none⟩ (.int .i64 s.x.y.o)).setCell ⟨g, 64 + k * 7 + 1, none⟩ (.int .i64 s.x.y.s)).setCell ⟨g, 64 + k * 7 + 2, none⟩ (.int .i64 s.x.y.a)).setCell ⟨g, 64 + k * 7 + 3, none⟩ (.bool s.x.y.ov)).setCell ⟨g, 64 + k * 7 + 4, none⟩ (.slice s.x.A s.x.y.adj.length s.x.c)).setCell ⟨g, 64 + k * 7 + 5, none⟩ (.slice s.x.B s.x.y.pre.length s.x.d)).setCell ⟨g, 64 + k * 7 + 6, none⟩ (.int .i64 s.l)) bs' rs := by
  have hl : (rdC R).length = 512 := rdC_len R
  have T := St.set1 (St.set1 (St.set1 (St.set1 (St.set1 (St.set1 (St.set1 ⟨S, hi, hd⟩ hg (64 + k * 7) (.int .i64 s.x.y.o) (by omega) _ rfl) hg (64 + k * 7 + 1) (.int .i64 s.x.y.s) (by simp only [List.length_set]; omega) _ rfl) hg (64 + k * 7 + 2) (.int .i64 s.x.y.a) (by simp only [List.length_set]; omega) _ rfl) hg (64 + k * 7 + 3) (.bool s.x.y.ov) (by simp only [List.length_set]; omega) _ rfl) hg (64 + k * 7 + 4) (.slice s.x.A s.x.y.adj.length s.x.c) (by simp only [List.length_set]; omega) _ rfl) hg (64 + k * 7 + 5) (.slice s.x.B s.x.y.pre.length s.x.d) (by simp only [List.length_set]; omega) _ rfl) hg (64 + k * 7 + 6) (.int .i64 s.l) (by simp only [List.length_set]; omega) _ (rdC_set7 R hk s hs)
  have T1 := T.1
  simp only [List.set_set] at T1
  rwa [hbs] at T1

def RInstPost (w : World) (R : Nat → Rs) (v : Value) (a : La) (N' : Db) (r : Int) (e : Ending) (w' : World) : Prop :=
  ∃ R', e = .returned (.tuple #[.agg (rdC R').toArray, .int .i64 r]) ∧ (∀ W, RdOk W R → LaAt W v a → RdOk W R') ∧ dbOf R' = N' ∧ Below w.heap.size w w'
theorem dbOf_up (R : Nat → Rs) {k : Nat} (hk : k < 64) (s : Rs) (hs : s.is = true) : dbOf (upR R k s) = fun i => if i = k then some ⟨s.x.y, s.l⟩ else dbOf R i := by
  funext i
  unfold dbOf
  by_cases e : i = k
  · subst e; rw [upR_same, if_pos ⟨hk, hs⟩, if_pos rfl]
  · rw [upR_other R _ e, if_neg e]

set_option maxRecDepth 100000 in
set_option maxHeartbeats 6400000 in
theorem rinstall_any (w : World) (R : Nat → Rs) (v : Value) (a : La) (hR : RdOk w R) (hv : LaAt w v a) (hva : LaValid a) : Calls Try.prog 42 #[.agg (rdC R).toArray, v] w (RInstPost w R v a (instN (dbOf R) a) (instR (dbOf R) a)) := by
  obtain ⟨A, c, B, d, rfl, hl⟩ := hv.opened
  clear hv
  obtain ⟨ao, sq, aa, aov, adj, pre⟩ := a
  have ho := hva.1
  simp only at ho hl
  obtain ⟨k, rfl⟩ := Int.eq_ofNat_of_zero_le ho.1
  have hk : k < 64 := by omega
  have hpost : Hid (∀ R' r w', Below w.heap.size w w' → (∀ W, RdOk W R → LaAt W (laV k sq aa aov A adj.length c B pre.length d) ⟨k, sq, aa, aov, adj, pre⟩ → RdOk W R') → dbOf R' = instN (dbOf R) ⟨k, sq, aa, aov, adj, pre⟩ → instR (dbOf R) ⟨k, sq, aa, aov, adj, pre⟩ = r → RInstPost w R (laV k sq aa aov A adj.length c B pre.length d) ⟨k, sq, aa, aov, adj, pre⟩ (instN (dbOf R) ⟨k, sq, aa, aov, adj, pre⟩) (instR (dbOf R) ⟨k, sq, aa, aov, adj, pre⟩) (.returned (.tuple #[.agg (rdC R').toArray, .int .i64 r])) w') := fun R' r w' h1 h2 h3 h4 => ⟨R', by rw [h4], h2, h3, h1⟩
  have hvb := vB_t hva
  have hk9 : (k : Int) < 64 := by omega
  have hN : dbOf R k = if (R k).is = true then some ⟨(R k).x.y, (R k).l⟩ else none := by unfold dbOf; by_cases e : (R k).is = true <;> simp [e, hk]
  have hins : Hid (∀ (hr : instR (dbOf R) ⟨k, sq, aa, aov, adj, pre⟩ = 1), dbOf (upR (upR R k { R k with is := true }) k ⟨⟨⟨k, sq, aa, aov, adj, pre⟩, A, c, B, d⟩, 60, true⟩) = instN (dbOf R) ⟨k, sq, aa, aov, adj, pre⟩) := fun hr => by
    rw [upR_upR, dbOf_up R hk _ rfl]
    unfold instN
    rw [if_pos ⟨hvb, hr⟩]
    simp
  have hok2 : Hid (∀ W, RdOk W R → LaAt W (laV k sq aa aov A adj.length c B pre.length d) ⟨k, sq, aa, aov, adj, pre⟩ → RdOk W (upR (upR R k { R k with is := true }) k ⟨⟨⟨k, sq, aa, aov, adj, pre⟩, A, c, B, d⟩, 60, true⟩)) := fun W h1 h2 => by rw [upR_upR]; exact h1.up k _ h2
  have S := (((St.start w).new' (rdC R).toArray 46 w.heap.size (rdC R) rfl (by simp)).new' #[.int .i64 k, .int .i64 sq, .int .i64 aa, .bool aov, .slice A adj.length c, .slice B pre.length d] 30 (w.heap.size + 1) _ (by simp) rfl).new' Try.zeroCells46 46 (w.heap.size + 2) (rdC (fun _ => rsZ)) (by simp) (by rw [← rdC_zero])
  obtain ⟨is, his⟩ : ∃ z, (R k).is = z := ⟨_, rfl⟩
  rw [his] at hN
  have hd0 : ∀ x ∈ ([(w.heap.size + 2, rdC (fun _ => rsZ)), (w.heap.size + 1, [.int .i64 k, .int .i64 sq, .int .i64 aa, .bool aov, .slice A adj.length c, .slice B pre.length d]), (w.heap.size, rdC R)] : List (Nat × List Value)).eraseIdx 2, x.1 ≠ w.heap.size := by simp
  go_enter Try.func42, Try.ntmps42
  go_upto_region 1 with fail
  generalize World.alloc _ _ = w1 at *
  have b0 := S.c 1 0 rfl rfl
  have c0 := S.c 2 k rfl (rdC_is R hk)
  rw [his] at c0
  cases is with
  | false =>
    have hr : instR (dbOf R) ⟨k, sq, aa, aov, adj, pre⟩ = 1 := by
      unfold instR; rw [hvb, if_pos rfl]; simp only [Int.toNat_natCast, hN]; simp
    have hfin : Hid (∀ w', Below w.heap.size w w' → RInstPost w R (laV k sq aa aov A adj.length c B pre.length d) ⟨k, sq, aa, aov, adj, pre⟩ (instN (dbOf R) ⟨k, sq, aa, aov, adj, pre⟩) (instR (dbOf R) ⟨k, sq, aa, aov, adj, pre⟩) (.returned (.tuple #[.agg (rdC (upR (upR R k { R k with is := true }) k ⟨⟨⟨k, sq, aa, aov, adj, pre⟩, A, c, B, d⟩, 60, true⟩)).toArray, .int .i64 1])) w') := fun w' hb => hpost.out _ 1 w' hb hok2.out (hins.out hr) hr
    clear hN hins hr hpost hok2
    go_upto_region 7 with fail
    have T := S.set 2 k (.bool true) rfl (by rw [rdC_len]; omega) (Nat.le_refl _) hd0 [(w.heap.size + 2, rdC (fun _ => rsZ)), (w.heap.size + 1, [.int .i64 k, .int .i64 sq, .int .i64 aa, .bool aov, .slice A adj.length c, .slice B pre.length d]), (w.heap.size, rdC (upR R k { R k with is := true }))] (by rw [rdC_set_is R hk]; rfl)
    have T7 := T.set7 (i := 2) rfl (by simp) (Nat.le_refl _) hk ⟨⟨⟨k, sq, aa, aov, adj, pre⟩, A, c, B, d⟩, 60, true⟩ (by rw [upR_same]) _ rfl
    clear b0 c0
    have b0 := S.c 1 0 rfl rfl
    have b1 := S.c 1 1 rfl rfl
    have b2 := S.c 1 2 rfl rfl
    have b3 := S.c 1 3 rfl rfl
    have b4 := S.c 1 4 rfl rfl
    have b5 := S.c 1 5 rfl rfl
    have c0 := S.c 2 k rfl (rdC_is R hk)
    have g0 := S.f 2 k rfl (rdC_is R hk)
    have x0 := T.c 2 (64 + k * 7 + 0) rfl ((rdC_at _ hk (by omega)).trans (by rw [upR_same]; rfl))
    have f0 := S.f 2 (64 + k * 7 + 0) rfl ((rdC_at R hk (by omega)).trans rfl)
    have x1 := T.c 2 (64 + k * 7 + 1) rfl ((rdC_at _ hk (by omega)).trans (by rw [upR_same]; rfl))
    have f1 := S.f 2 (64 + k * 7 + 1) rfl ((rdC_at R hk (by omega)).trans rfl)
    have x2 := T.c 2 (64 + k * 7 + 2) rfl ((rdC_at _ hk (by omega)).trans (by rw [upR_same]; rfl))
    have f2 := S.f 2 (64 + k * 7 + 2) rfl ((rdC_at R hk (by omega)).trans rfl)
    have x3 := T.c 2 (64 + k * 7 + 3) rfl ((rdC_at _ hk (by omega)).trans (by rw [upR_same]; rfl))
    have f3 := S.f 2 (64 + k * 7 + 3) rfl ((rdC_at R hk (by omega)).trans rfl)
    have x4 := T.c 2 (64 + k * 7 + 4) rfl ((rdC_at _ hk (by omega)).trans (by rw [upR_same]; rfl))
    have f4 := S.f 2 (64 + k * 7 + 4) rfl ((rdC_at R hk (by omega)).trans rfl)
    have x5 := T.c 2 (64 + k * 7 + 5) rfl ((rdC_at _ hk (by omega)).trans (by rw [upR_same]; rfl))
    have f5 := S.f 2 (64 + k * 7 + 5) rfl ((rdC_at R hk (by omega)).trans rfl)
    have x6 := T.c 2 (64 + k * 7 + 6) rfl ((rdC_at _ hk (by omega)).trans (by rw [upR_same]; rfl))
    have f6 := S.f 2 (64 + k * 7 + 6) rfl ((rdC_at R hk (by omega)).trans rfl)
    simp only [Nat.add_zero] at x0 f0
    clear S T
    simp only at T7
    have T8 := T7.drew
    clear T7
    go_region_law (fail)
    all_goals
      clear b0 b1 b2 b3 b4 b5 c0 g0 x0 x1 x2 x3 x4 x5 x6 f0 f1 f2 f3 f4 f5 f6
      generalize World.drew _ = w8 at *
      generalize upR (upR R k _) k _ = R2 at *
      go_wp2_with (first | (refine wpList_loadR rfl (.tmp 2) rfl rfl (T8.box 2 rfl) ?_) | (refine wpList_storeR rfl (.tmp 4) (.tmp 35) rfl rfl rfl (T8.box 0 rfl) ?_))
      have T9 := T8.setAllR 0 R2 rfl (by omega) (by simp) _ rfl
      exact bodyPost_ret (v := .tuple #[.agg (rdC R2).toArray, .int .i64 1]) (resR rfl (T9.box 0 rfl) rfl rfl) rfl (hfin.out _ T9.b)
  | true =>
    have hN2 : dbOf R k = some ⟨(R k).x.y, (R k).l⟩ := by rw [hN]; simp
    clear hN
    have hRk := hR k hk
    unfold LxOk at hRk
    have hat := fun j (hj : j < 7) => rdC_at R hk (j := j) hj
    obtain ⟨s, hs⟩ : ∃ s, R k = s := ⟨_, rfl⟩
    have x0 := cell_regrown (S.c 2 (64 + k * 7 + 0) rfl ((hat 0 (by omega)).trans rfl))
    have x1 := cell_regrown (S.c 2 (64 + k * 7 + 1) rfl ((hat 1 (by omega)).trans rfl))
    have x2 := cell_regrown (S.c 2 (64 + k * 7 + 2) rfl ((hat 2 (by omega)).trans rfl))
    have x3 := cell_regrown (S.c 2 (64 + k * 7 + 3) rfl ((hat 3 (by omega)).trans rfl))
    have x4 := cell_regrown (S.c 2 (64 + k * 7 + 4) rfl ((hat 4 (by omega)).trans rfl))
    have x5 := cell_regrown (S.c 2 (64 + k * 7 + 5) rfl ((hat 5 (by omega)).trans rfl))
    simp only [Nat.add_zero] at x0
    rw [hs] at hRk hN2 x0 x1 x2 x3 x4 x5
    obtain ⟨⟨y, A9, c9, B9, d9⟩, lf, is9⟩ := s
    simp only at hRk hN2 x0 x1 x2 x3 x4 x5
    obtain ⟨z, hz⟩ : ∃ z, newI ⟨k, sq, aa, aov, adj, pre⟩ y = z := ⟨_, rfl⟩
    have NW : Hid (∀ W, Below w1.heap.size w1 W → Calls Try.prog 69 #[laV k sq aa aov A adj.length c B pre.length d, laV y.o y.s y.a y.ov A9 y.adj.length c9 B9 y.pre.length d9] W fun e w' => e = .returned (.int .i64 z) ∧ Below W.heap.size W w') := fun W hb => by
      have := rnewer_any W _ _ _ y ((hl.below S.b).below hb) ((hRk.below S.b).below hb)
      rwa [hz] at this
    have hR9 : instR (dbOf R) ⟨k, sq, aa, aov, adj, pre⟩ = if z = 0 then 2 else if z = -1 then 3 else 1 := by
      unfold instR; rw [hvb, if_pos rfl]; simp only [Int.toNat_natCast, hN2, hz]
    clear hat hN2 hs hz hRk
    go_upto_region 2 with fail
    clear b0
    have b0 := cell_regrown (S.c 1 0 rfl rfl)
    have b1 := cell_regrown (S.c 1 1 rfl rfl)
    have b2 := cell_regrown (S.c 1 2 rfl rfl)
    have b3 := cell_regrown (S.c 1 3 rfl rfl)
    have b4 := cell_regrown (S.c 1 4 rfl rfl)
    have b5 := cell_regrown (S.c 1 5 rfl rfl)
    refine wp_region_quiet_below (by kernel_rfl) (by kernel_rfl) ?_
    repeat (go_big_quiet_step ((first | (go_at_call 69; with_reducible exact Calls.regrown_of (NW.out _ (below_regrown _ _ _))))))
    refine wpQuiet_nil ?_
    intro _ hw'
    obtain ⟨⟨dq, osq⟩, hw''⟩ := hw'
    subst hw''
    replace S := S.call (below_regrown _ dq osq)
    generalize grow (redrawn _ dq) osq = w2 at *
    clear x0 x1 x2 x3 x4 x5 NW c0
    clear b0 b1 b2 b3 b4 b5
    by_cases hz0 : z = 0
    · subst hz0
      rw [if_pos rfl] at hR9
      have hfin : Hid (∀ w', Below w.heap.size w w' → RInstPost w R (laV k sq aa aov A adj.length c B pre.length d) ⟨k, sq, aa, aov, adj, pre⟩ (instN (dbOf R) ⟨k, sq, aa, aov, adj, pre⟩) (instR (dbOf R) ⟨k, sq, aa, aov, adj, pre⟩) (.returned (.tuple #[.agg (rdC R).toArray, .int .i64 2])) w') := fun w' hb => hpost.out _ 2 w' hb (fun W h1 _ => h1) (by unfold instN; rw [hR9, if_neg (by simp)]) hR9
      clear hR9 hpost hins hok2
      go_wp2_with (first | (refine wpList_loadR rfl (.tmp 2) rfl rfl (S.box 2 rfl) ?_) | (refine wpList_storeR rfl (.tmp 4) (.tmp 21) rfl rfl rfl (S.box 0 rfl) ?_))
      have T9 := S.setAllR 0 R rfl (by omega) (by simp) _ rfl
      exact bodyPost_ret (v := .tuple #[.agg (rdC R).toArray, .int .i64 2]) (resR rfl (T9.box 0 rfl) rfl rfl) rfl (hfin.out _ T9.b)
    by_cases hz1 : z = -1
    · subst hz1
      rw [if_neg (by omega), if_pos rfl] at hR9
      have hfin : Hid (∀ w', Below w.heap.size w w' → RInstPost w R (laV k sq aa aov A adj.length c B pre.length d) ⟨k, sq, aa, aov, adj, pre⟩ (instN (dbOf R) ⟨k, sq, aa, aov, adj, pre⟩) (instR (dbOf R) ⟨k, sq, aa, aov, adj, pre⟩) (.returned (.tuple #[.agg (rdC R).toArray, .int .i64 3])) w') := fun w' hb => hpost.out _ 3 w' hb (fun W h1 _ => h1) (by unfold instN; rw [hR9, if_neg (by simp)]) hR9
      clear hR9 hpost hins hok2 hz0
      go_wp2_with (first | (refine wpList_loadR rfl (.tmp 2) rfl rfl (S.box 2 rfl) ?_) | (refine wpList_storeR rfl (.tmp 4) (.tmp 24) rfl rfl rfl (S.box 0 rfl) ?_))
      have T9 := S.setAllR 0 R rfl (by omega) (by simp) _ rfl
      exact bodyPost_ret (v := .tuple #[.agg (rdC R).toArray, .int .i64 3]) (resR rfl (T9.box 0 rfl) rfl rfl) rfl (hfin.out _ T9.b)
    have hr : instR (dbOf R) ⟨k, sq, aa, aov, adj, pre⟩ = 1 := by rw [hR9, if_neg hz0, if_neg hz1]
    have z0 : (z == 0) = false := by simpa using hz0
    have z1 : (z == -1) = false := by simpa using hz1
    clear hR9 hz0 hz1
    have hfin : Hid (∀ w', Below w.heap.size w w' → RInstPost w R (laV k sq aa aov A adj.length c B pre.length d) ⟨k, sq, aa, aov, adj, pre⟩ (instN (dbOf R) ⟨k, sq, aa, aov, adj, pre⟩) (instR (dbOf R) ⟨k, sq, aa, aov, adj, pre⟩) (.returned (.tuple #[.agg (rdC (upR (upR R k { R k with is := true }) k ⟨⟨⟨k, sq, aa, aov, adj, pre⟩, A, c, B, d⟩, 60, true⟩)).toArray, .int .i64 1])) w') := fun w' hb => hpost.out _ 1 w' hb hok2.out (hins.out hr) hr
    clear hins hr hpost hok2
    go_upto_region 7 with fail
    have T := S.set 2 k (.bool true) rfl (by rw [rdC_len]; omega) (Nat.le_refl _) hd0 [(w.heap.size + 2, rdC (fun _ => rsZ)), (w.heap.size + 1, [.int .i64 k, .int .i64 sq, .int .i64 aa, .bool aov, .slice A adj.length c, .slice B pre.length d]), (w.heap.size, rdC (upR R k { R k with is := true }))] (by rw [rdC_set_is R hk]; rfl)
    have T7 := T.set7 (i := 2) rfl (by simp) (Nat.le_refl _) hk ⟨⟨⟨k, sq, aa, aov, adj, pre⟩, A, c, B, d⟩, 60, true⟩ (by rw [upR_same]) _ rfl
    have b0 := S.c 1 0 rfl rfl
    have b1 := S.c 1 1 rfl rfl
    have b2 := S.c 1 2 rfl rfl
    have b3 := S.c 1 3 rfl rfl
    have b4 := S.c 1 4 rfl rfl
    have b5 := S.c 1 5 rfl rfl
    have c0 := S.c 2 k rfl (rdC_is R hk)
    have g0 := S.f 2 k rfl (rdC_is R hk)
    have x0 := T.c 2 (64 + k * 7 + 0) rfl ((rdC_at _ hk (by omega)).trans (by rw [upR_same]; rfl))
    have f0 := S.f 2 (64 + k * 7 + 0) rfl ((rdC_at R hk (by omega)).trans rfl)
    have x1 := T.c 2 (64 + k * 7 + 1) rfl ((rdC_at _ hk (by omega)).trans (by rw [upR_same]; rfl))
    have f1 := S.f 2 (64 + k * 7 + 1) rfl ((rdC_at R hk (by omega)).trans rfl)
    have x2 := T.c 2 (64 + k * 7 + 2) rfl ((rdC_at _ hk (by omega)).trans (by rw [upR_same]; rfl))
    have f2 := S.f 2 (64 + k * 7 + 2) rfl ((rdC_at R hk (by omega)).trans rfl)
    have x3 := T.c 2 (64 + k * 7 + 3) rfl ((rdC_at _ hk (by omega)).trans (by rw [upR_same]; rfl))
    have f3 := S.f 2 (64 + k * 7 + 3) rfl ((rdC_at R hk (by omega)).trans rfl)
    have x4 := T.c 2 (64 + k * 7 + 4) rfl ((rdC_at _ hk (by omega)).trans (by rw [upR_same]; rfl))
    have f4 := S.f 2 (64 + k * 7 + 4) rfl ((rdC_at R hk (by omega)).trans rfl)
    have x5 := T.c 2 (64 + k * 7 + 5) rfl ((rdC_at _ hk (by omega)).trans (by rw [upR_same]; rfl))
    have f5 := S.f 2 (64 + k * 7 + 5) rfl ((rdC_at R hk (by omega)).trans rfl)
    have x6 := T.c 2 (64 + k * 7 + 6) rfl ((rdC_at _ hk (by omega)).trans (by rw [upR_same]; rfl))
    have f6 := S.f 2 (64 + k * 7 + 6) rfl ((rdC_at R hk (by omega)).trans rfl)
    simp only [Nat.add_zero] at x0 f0
    clear S T
    simp only at T7
    have T8 := T7.drew
    clear T7
    go_region_law (fail)
    all_goals
      clear b0 b1 b2 b3 b4 b5 c0 g0 x0 x1 x2 x3 x4 x5 x6 f0 f1 f2 f3 f4 f5 f6
      generalize World.drew _ = w8 at *
      generalize upR (upR R k _) k _ = R2 at *
      go_wp2_with (first | (refine wpList_loadR rfl (.tmp 2) rfl rfl (T8.box 2 rfl) ?_) | (refine wpList_storeR rfl (.tmp 4) (.tmp 35) rfl rfl rfl (T8.box 0 rfl) ?_))
      have T9 := T8.setAllR 0 R2 rfl (by omega) (by simp) _ rfl
      exact bodyPost_ret (v := .tuple #[.agg (rdC R2).toArray, .int .i64 1]) (resR rfl (T9.box 0 rfl) rfl rfl) rfl (hfin.out _ T9.b)

end Go.Proofs.Ytkmpmgojgidcgaa

namespace Go.Proofs.Ytkmpmgojgidcgaa
set_option linter.unusedVariables false
open Go.RowKit Go.Maps Go.Sort

section
variable {P : Program} {ops : Array Oper} {Q : Exit → Act → World → Prop} {md : Region.Mode} {S : World → Prop} {i : Nat} {oi : Oper} {fuel : Nat} {listed : Array Bool} {a : Act} {w : World} {R : Nat → Rs}
/-- An operation that is plain to see is taken first. -/
theorem take_first {v : Value} (d : Option Tmp) (hi : ops[i]? = some oi) (hd : oi.dst = d) (hs : Region.noSelect ops = true) (hf : Region.free md ops listed i = true) (hr : (Region.ready md ops listed).contains i = true)
    (hQ : ∀ c a w, Q (.panic c) (a.put d v) w → Q (.panic c) a w) (hy : YieldsIf P ops S oi v a) (hS : S w)
    (h : wpAnyH P md ops Q S fuel (listed.setIfInBounds i true) (a.put d v) w) : wpAnyH P md ops Q S (fuel + 1) listed a w := by
  subst hd
  exact wpAnyH_take hi hs hf hr hQ hy hS h
/-- The whole database is loaded. -/
theorem ready_loadR (hr : Region.ready md ops listed = [i]) (hi : ops[i]? = some oi) (x : Operand) (d : Option Tmp) (hgd : oi.guard = none) (hd : oi.dst = d) (ho : oi.op = .load 46 x) {g : Nat} {R : Nat → Rs} (hx : a.eval x = .pointer (some ⟨g, 0, none⟩)) (hb : Box w g (rdC R)) (hS : S w)
    (h : wpAnyH Try.prog md ops Q S fuel (listed.setIfInBounds i true) (a.put d (.agg (rdC R).toArray)) w) : wpAnyH Try.prog md ops Q S (fuel + 1) listed a w := by
  subst hd
  refine wpAnyH_ready hr (by simp) (AllReadyH.cons hi (fun K hK => ?_) AllReadyH.nil)
  have hw : Region.wanted oi (yielded ops a.tmps) = true := by simp [Region.wanted, hgd]
  rw [if_pos hw]
  exact wp_load_mid _ x ho g 0 hx (rdC R) _ hb.range Try.underlying46 rfl (infoR R) (hK.out _ _ hS (fun _ => h))
/-- .. where nothing in the region writes it. -/
theorem take_loadR (d : Option Tmp) (hi : ops[i]? = some oi) (hd : oi.dst = d) (hs : Region.noSelect ops = true) (hf : Region.free md ops listed i = true) (hr : (Region.ready md ops listed).contains i = true)
    (hQ : ∀ c a w, Q (.panic c) (a.put d (.agg (rdC R).toArray)) w → Q (.panic c) a w) (hw : Region.wanted oi (yielded ops a.tmps) = true) (x : Operand) (ho : oi.op = .load 46 x) {g : Nat} (hx : a.eval x = .pointer (some ⟨g, 0, none⟩)) (hS' : ∀ w, S w → w.rangeAt g 0 (rdC R)) (hS : S w)
    (h : wpAnyH Try.prog md ops Q S fuel (listed.setIfInBounds i true) (a.put d (.agg (rdC R).toArray)) w) : wpAnyH Try.prog md ops Q S (fuel + 1) listed a w :=
  take_first d hi hd hs hf hr hQ (yieldsIf_load_mid hw _ x ho g 0 hx (rdC R) _ hS' Try.underlying46 rfl (infoR R)) hS h
/-- .. and stored. -/
theorem ready_storeR (hr : Region.ready md ops listed = [i]) (hi : ops[i]? = some oi) (x y : Operand) (d : Option Tmp) (hgd : oi.guard = none) (hd : oi.dst = d) (ho : oi.op = .store 46 x y) {g : Nat} {R R' : Nat → Rs} (hx : a.eval x = .pointer (some ⟨g, 0, none⟩)) (hy : a.eval y = .agg (rdC R').toArray) (hb : Box w g (rdC R)) (hS : S (w.setCells g 0 (rdC R')))
    (h : wpAnyH Try.prog md ops Q S fuel (listed.setIfInBounds i true) (a.put d undef) (w.setCells g 0 (rdC R'))) : wpAnyH Try.prog md ops Q S (fuel + 1) listed a w := by
  subst hd
  refine wpAnyH_ready hr (by simp) (AllReadyH.cons hi (fun K hK => ?_) AllReadyH.nil)
  have hw : Region.wanted oi (yielded ops a.tmps) = true := by simp [Region.wanted, hgd]
  rw [if_pos hw]
  exact wp_store_mid _ x y ho g 0 (rdC R').toArray hx hy (by rw [List.size_toArray, rdC_len]; exact hb.there (rdC_len R)) (by rw [List.size_toArray]; exact infoR R') (all_oneCell_toArray (rdC_one R')) (by
    rw [List.toList_toArray]
    exact hK.out _ _ hS (fun _ => h))
/-- A call of a Go function. -/
theorem ready_call (hr : Region.ready md ops listed = [i]) (hi : ops[i]? = some oi) (d : Option Tmp) (hgd : oi.guard = none) (hd : oi.dst = d) {f : FuncId} {xs : Array Operand} {ts : Array TypeId} (ho : oi.op = .call { callee := .value (.func f), args := xs, argTypes := ts })
    (h : ∀ K : Act → World → Prop, Shut (∀ v w', S w' → (S w' → wpAnyH P md ops Q S fuel (listed.setIfInBounds i true) (a.put d v) w') → K (a.put d v) w') → Oper.wp P { oi with dst := d } a w K Q) : wpAnyH P md ops Q S (fuel + 1) listed a w := by
  subst hd
  refine wpAnyH_ready hr (by simp) (AllReadyH.cons hi (fun K hK => ?_) AllReadyH.nil)
  have hw : Region.wanted oi (yielded ops a.tmps) = true := by simp [Region.wanted, hgd]
  rw [if_pos hw]
  exact h K (fun v w' hs hv => hK.out _ _ hs hv)
end

end Go.Proofs.Ytkmpmgojgidcgaa

namespace Go.Proofs.Ytkmpmgojgidcgaa
set_option linter.unusedVariables false
open Go.RowKit Go.Maps Go.Sort

theorem setCells_heap (g : Nat) : ∀ (vs : List Value) (o : Nat) (w : World) (k : Nat), k ≠ g → (w.setCells g o vs).heap[k]? = w.heap[k]?
  | [], _, _, _, _ => rfl
  | v :: r, o, w, k, h => by
    rw [World.setCells, setCells_heap g r (o + 1) _ k h]
    exact heap_setCell_other w ⟨g, o, none⟩ k v h
theorem setCells_size (g : Nat) : ∀ (vs : List Value) (o : Nat) (w : World), (w.setCells g o vs).heap.size = w.heap.size
  | [], _, _ => rfl
  | v :: r, o, w => by rw [World.setCells, setCells_size g r (o + 1)]; simp
theorem setCells_ty (g : Nat) (t : TypeId) : ∀ (vs : List Value) (o : Nat) (w : World), (∃ cs, w.heap[g]? = some (.cells cs t (0, 0))) → ∃ cs, (w.setCells g o vs).heap[g]? = some (.cells cs t (0, 0))
  | [], _, _, h => h
  | v :: r, o, w, ⟨cs, h⟩ => by
    rw [World.setCells]
    exact setCells_ty g t r (o + 1) _ ⟨_, heap_setCell_same w g o cs t v h⟩
theorem setCells_rest (g : Nat) : ∀ (vs : List Value) (o : Nat) (w : World), (w.setCells g o vs).os = w.os ∧ (w.setCells g o vs).tape = w.tape ∧ (w.setCells g o vs).output = w.output
  | [], _, _ => ⟨rfl, rfl, rfl⟩
  | v :: r, o, w => by
    rw [World.setCells]
    obtain ⟨h1, h2, h3⟩ := setCells_rest g r (o + 1) (w.setCell ⟨g, o, none⟩ v)
    exact ⟨h1, h2, h3⟩
theorem setCells_grown (w : World) (g o : Nat) (vs : List Value) : w.grownBy (w.setCells g o vs) (some g) := by
  obtain ⟨h1, h2, h3⟩ := setCells_rest g vs o w
  exact ⟨h1, h2, h3, by rw [setCells_size]; exact Nat.le_refl _, fun k _ hk => setCells_heap g vs o w k (fun e => hk (by rw [e]))⟩
theorem Rd.keptOff {w w' : World} {A : Option Addr} {xs : List Value} {g : Nat} (h : Rd w A xs) (hg : w.grownBy w' (some g)) (hf : 0 < xs.length → ∀ ad, A = some ad → ad.block ≠ g) : Rd w' A xs := by
  intro hn
  obtain ⟨ad, e, hb⟩ := h.block hn
  obtain ⟨ad', e', hc⟩ := h hn
  rw [e] at e'
  injection e' with e'
  subst e'
  refine ⟨ad, e, fun j u hu => ?_⟩
  rw [World.cell?_of_block (hg.block _ (by rw [addr_add_block]; exact hb) (by rw [addr_add_block]; exact fun e2 => hf hn ad e (by injection e2)))]
  exact hc j u hu
theorem TyA.off {w : World} {A : Option Addr} {n : Nat} {e t : TypeId} {g : Nat} (h : TyA w A n e) (hty : ∃ cs, w.heap[g]? = some (.cells cs t (0, 0))) (hne : t ≠ e) : 0 < n → ∀ ad, A = some ad → ad.block ≠ g := fun hn ad ha e2 => by
  obtain ⟨cs, fr, h1⟩ := h hn ad ha
  obtain ⟨cs', h2⟩ := hty
  rw [e2, h2] at h1
  injection h1 with h1
  injection h1 with _ h1 _
  exact hne h1
theorem LaTy.keptOff {w w' : World} {x : La} {A : Option Addr} {c : Nat} {B : Option Addr} {d : Nat} {g : Nat} {t : TypeId} (h : LaTy w x A c B d) (hg : w.grownBy w' (some g)) (hty : ∃ cs, w.heap[g]? = some (.cells cs t (0, 0))) (n1 : t ≠ 61) (n2 : t ≠ 86) : LaTy w' x A c B d := by
  have f1 := h.2.1.off hty n1
  have f2 := h.2.2.off hty n2
  refine ⟨?_, h.2.1.keep fun ad ha hs ⟨cs, fr, e⟩ => hg.block _ (heap_lt e) (fun e3 => ?_), h.2.2.keep fun ad ha hs ⟨cs, fr, e⟩ => hg.block _ (heap_lt e) (fun e3 => ?_)⟩
  · obtain ⟨A9, c9, B9, d9, e9, r1, r2, r3⟩ := h.1
    simp only [laV, Value.agg.injEq, Array.mk.injEq, List.cons.injEq, Value.slice.injEq, true_and, and_true] at e9
    obtain ⟨⟨rfl, rfl⟩, rfl, rfl⟩ := e9
    exact ⟨_, _, _, _, rfl, r1.keptOff hg (by rw [adV_len]; intro h; exact f1 (by omega)), r2.keptOff hg (by rw [pfV_len]; intro h; exact f2 (by omega)), r3⟩
  · injection e3 with e3
    obtain ⟨cs', h2⟩ := hty
    rw [e3, h2] at e
    injection e with e
    injection e with _ e _
    exact n1 e
  · injection e3 with e3
    obtain ⟨cs', h2⟩ := hty
    rw [e3, h2] at e
    injection e with e
    injection e with _ e _
    exact n2 e
/-- The database behind a store into a block of another type. -/
theorem DbAt.keptOff {w w' : World} {g b g6 : Nat} {N : Db} {t : TypeId} (h : DbAt w g b N) (hg : w.grownBy w' (some g6)) (hty : ∃ cs, w.heap[g6]? = some (.cells cs t (0, 0))) (n1 : t ≠ 61) (n2 : t ≠ 86) (hne : g6 ≠ g) : DbAt w' g b N := by
  obtain ⟨⟨M, hm, he⟩, hc⟩ := h
  have hb6 : b ≠ g6 := fun e => by
    obtain ⟨D, ⟨es, clock, hb, _⟩, _⟩ := hm
    obtain ⟨cs, h2⟩ := hty
    rw [e, h2] at hb
    cases hb
  refine ⟨⟨M, hm.kept hg (fun e => by injection e with e; exact hb6 e.symm), fun i hi => ?_⟩, ?_⟩
  · have := he i hi
    match hv : M (i : Int), hN : N i, this with
    | none, none, _ => rw [hv, hN] at this; trivial
    | some v, some x, ⟨A, c, B, d, e, hl⟩ => exact ⟨A, c, B, d, e, hl.keptOff hg hty n1 n2⟩
    | none, some _, hf => exact hf
    | some _, none, hf => exact hf
  · rw [World.cell?_of_block (a := ⟨g, 0, none⟩) (hg.block g (World.block_lt_of_cell? _ _ hc) (fun e => by injection e with e; exact hne e.symm))]
    exact hc

end Go.Proofs.Ytkmpmgojgidcgaa

namespace Go.Proofs.Ytkmpmgojgidcgaa
set_option linter.unusedVariables false
open Go.RowKit Go.Maps Go.Sort

/-- A tick at one place. -/
def rt1 (s : Rs) : Rs :=
  if s.is = true then
    if s.x.y.a = 3600 then ⟨s.x, s.l - 1, if s.l - 1 = 0 then false else true⟩
    else if s.x.y.a + 1 = 3600 then ⟨⟨purgeX s.x.y, none, 0, none, 0⟩, 60, true⟩
    else ⟨⟨{ s.x.y with a := s.x.y.a + 1 }, s.x.A, s.x.c, s.x.B, s.x.d⟩, s.l, true⟩
  else s
def rx1 (s : Rs) : Bool := s.is && (!decide (s.x.y.a = 3600) && decide (s.x.y.a + 1 = 3600))
def midR (R : Nat → Rs) (k : Nat) : Nat → Rs := fun i => if i < k then rt1 (R i) else R i
def outR (R : Nat → Rs) (k : Nat) : List Int := ((List.range k).filter fun i => rx1 (R i)).map fun (i : Nat) => (i : Int)
theorem midR_zero (R : Nat → Rs) : midR R 0 = R := by funext i; simp [midR]
theorem midR_at (R : Nat → Rs) (k : Nat) : midR R k k = R k := by simp [midR]
theorem midR_next (R : Nat → Rs) (k : Nat) : midR R (k + 1) = upR (midR R k) k (rt1 (R k)) := by
  funext i
  unfold midR upR
  by_cases h : i = k
  · subst h; simp
  · by_cases h2 : i < k
    · have h3 : i < k + 1 := by omega
      simp [h, h2, h3]
    · have h3 : ¬ i < k + 1 := by omega
      simp [h, h2, h3]
theorem outR_t {R : Nat → Rs} {k : Nat} (h : rx1 (R k) = true) : outR R (k + 1) = outR R k ++ [(k : Int)] := by simp [outR, List.range_succ, List.filter_append, h]
theorem outR_f {R : Nat → Rs} {k : Nat} (h : rx1 (R k) = false) : outR R (k + 1) = outR R k := by simp [outR, List.range_succ, List.filter_append, h]
theorem outR_len (R : Nat → Rs) (k : Nat) : (outR R k).length ≤ k := by
  unfold outR
  rw [List.length_map]
  refine Nat.le_trans (List.length_filter_le _ _) ?_
  simp
theorem rdC_congr {R R' : Nat → Rs} (h : ∀ i, i < 64 → R i = R' i) : rdC R = rdC R' :=
  rdC_ext (rdC_len R) (fun i hi => by rw [rdC_is R hi, h i hi]) (fun i hi j hj => by rw [rdC_at R hi hj, h i hi])
theorem midR_end (R : Nat → Rs) : rdC (midR R 64) = rdC (fun i => rt1 (R i)) := rdC_congr fun i hi => by simp [midR, hi]
theorem purge_ok (w : World) (x : La) : LxOk w ⟨purgeX x, none, 0, none, 0⟩ :=
  ⟨none, 0, none, 0, rfl, Rd.nil _ _, Rd.nil _ _, by simp [purgeX], by simp [maxLen], by simp [purgeX], by simp [maxLen], by simp [purgeX]⟩
theorem rt1_ok {w : World} {s : Rs} (h : LxOk w s.x) : LxOk w (rt1 s).x := by
  unfold rt1
  split
  · split
    · exact h
    · split
      · exact purge_ok w _
      · unfold LxOk at *
        exact h.renum s.x.y.o s.x.y.s (s.x.y.a + 1) s.x.y.ov
  · exact h
theorem RdOk.tick {w : World} {R : Nat → Rs} (h : RdOk w R) : RdOk w (fun i => rt1 (R i)) := fun i hi => rt1_ok (h i hi)

/-- Memory within the loop: the reference's database in the first block of the call, the result's cell behind it, the list. -/
structure RTk (w wr : World) (R' : Nat → Rs) (v : Value) (os : List Int) : Prop where
  sz : w.heap.size + 2 ≤ wr.heap.size
  own : wr.ownsRow (w.heap.size + 2) 3 1 v os.length (os.map encZ)
  st : St w wr [(w.heap.size + 1, rdC (fun _ => rsZ)), (w.heap.size, rdC R')] []
section
variable {w wr w' : World} {R' : Nat → Rs} {v : Value} {os : List Int}
theorem RTk.set (h : RTk w wr R' v os) (j : Nat) (u : Value) (R2 : Nat → Rs) (hj : j < 512) (e : (rdC R').set j u = rdC R2) : RTk w (wr.setCell ⟨w.heap.size, j, none⟩ u) R2 v os :=
  ⟨by have := h.sz; simpa using this, own_far h.own (p := ⟨w.heap.size, j, none⟩) (fun b e => by have := h.own.lt b e; simp only; omega) u,
   h.st.set 1 j u rfl (by rw [rdC_len]; omega) (Nat.le_refl _) (by simp) _ (by rw [e]; rfl)⟩
theorem RTk.set_at (h : RTk w wr R' v os) {k : Nat} (hk : k < 64) {j : Nat} (hj : j < 7) (u : Value) (s t : Rs) (ht : R' k = t) (hs : s.is = t.is) (hv : (hdL t).set j u = hdL s) : RTk w (wr.setCell ⟨w.heap.size, 64 + k * 7 + j, none⟩ u) (upR R' k s) v os :=
  h.set _ u _ (by omega) (rdC_set_at' R' hk hj u s t ht hs hv)
theorem RTk.below (h : RTk w wr R' v os) (hb : Below wr.heap.size wr w') : RTk w w' R' v os := ⟨Nat.le_trans h.sz hb.size, own_below h.own hb, h.st.call hb⟩
theorem RTk.set7 (h : RTk w wr R' v os) {k : Nat} (hk : k < 64) (s t : Rs) (ht : R' k = t) (hs : s.is = t.is) :
    RTk w (((((((wr.setCell ⟨w.heap.size, 64 + k * 7, none⟩ (.int .i64 s.x.y.o)).setCell ⟨w.heap.size, 64 + k * 7 + 1, none⟩ (.int .i64 s.x.y.s)).setCell ⟨w.heap.size, 64 + k * 7 + 2, none⟩ (.int .i64 s.x.y.a)).setCell ⟨w.heap.size, 64 + k * 7 + 3, none⟩ (.bool s.x.y.ov)).setCell ⟨w.heap.size, 64 + k * 7 + 4, none⟩ (.slice s.x.A s.x.y.adj.length s.x.c)).setCell ⟨w.heap.size, 64 + k * 7 + 5, none⟩ (.slice s.x.B s.x.y.pre.length s.x.d)).setCell ⟨w.heap.size, 64 + k * 7 + 6, none⟩ (.int .i64 s.l)) (upR R' k s) v os := by
  refine ⟨by have := h.sz; simpa using this, ?_, h.st.set7 (i := 1) rfl (by simp) (Nat.le_refl _) hk s (by rw [ht]; exact hs) _ rfl⟩
  have hb : ∀ b, v.ownBlock = some b → b ≠ w.heap.size := fun b e => by have := h.own.lt b e; omega
  exact own_far (own_far (own_far (own_far (own_far (own_far (own_far h.own (p := ⟨w.heap.size, _, none⟩) hb _) (p := ⟨w.heap.size, _, none⟩) hb _) (p := ⟨w.heap.size, _, none⟩) hb _) (p := ⟨w.heap.size, _, none⟩) hb _) (p := ⟨w.heap.size, _, none⟩) hb _) (p := ⟨w.heap.size, _, none⟩) hb _) (p := ⟨w.heap.size, _, none⟩) hb _
theorem RTk.c (h : RTk w wr R' v os) (j : Nat) {u : Value} (e : (rdC R')[j]? = some u) : wr.cell? ⟨w.heap.size, j, none⟩ = some u := h.st.c 1 j rfl e
theorem RTk.f (h : RTk w wr R' v os) {j : Nat} (hj : j < 512) : wr.frozen? ⟨w.heap.size, j, none⟩ = false := h.st.f 1 j rfl (List.getElem?_eq_getElem (by rw [rdC_len]; exact hj))
theorem own_farAll {base : Nat} {e : TypeId} {size : Nat} {v : Value} {n : Nat} {xs : List Value} (g : Nat) (hg : ∀ b, v.ownBlock = some b → b ≠ g) : ∀ (vs : List Value) (o : Nat) (w : World), w.ownsRow base e size v n xs → (w.setCells g o vs).ownsRow base e size v n xs
  | [], _, _, h => h
  | u :: r, o, w, h => by
    rw [World.setCells]
    exact own_farAll g hg r (o + 1) _ (own_far h (p := ⟨g, o, none⟩) hg u)
theorem RTk.app (h : RTk w wr R' v os) {os' : List Int} {v' : Value} (ho : w'.ownsRow (w.heap.size + 2) 3 1 v' os'.length (os'.map encZ)) (hb : Below (w.heap.size + 2) wr w') : RTk w w' R' v' os' :=
  ⟨Nat.le_trans h.sz hb.size, ho, h.st.belowB hb (by omega) (by simp)⟩
theorem RTk.at (h : RTk w wr R' v os) {k : Nat} (hk : k < 64) {j : Nat} (hj : j < 7) {u : Value} (t : Rs) (ht : R' k = t) (e : (hdL t)[j]? = some u) : wr.cell? ⟨w.heap.size, 64 + k * 7 + j, none⟩ = some u := h.c _ (by rw [rdC_at R' hk hj, ht]; exact e)
end

def RTickPost (w : World) (R : Nat → Rs) (e : Ending) (w' : World) : Prop :=
  ∃ A c, e = .returned (.tuple #[.agg (rdC (fun i => rt1 (R i))).toArray, .slice A (outR R 64).length c]) ∧ w'.ownsRow w.heap.size 3 1 (.slice A (outR R 64).length c) (outR R 64).length ((outR R 64).map encZ) ∧ Below w.heap.size w w'

set_option maxRecDepth 100000 in
set_option maxHeartbeats 6400000 in
theorem rtick_any (w : World) (R : Nat → Rs) (hR : RdOk w R) (hok : DbOk (dbOf R)) : Calls Try.prog 68 #[.agg (rdC R).toArray] w (RTickPost w R) := by
  have T0 : RTk w ((w.alloc (.cells (rdC R).toArray 46)).alloc (.cells Try.zeroCells46 46)) (midR R 0) (.slice none (outR R 0).length 0) (outR R 0) :=
    ⟨by simp, World.ownsRow_nil _ _ _ _, ((St.start w).new' (rdC R).toArray 46 w.heap.size (rdC (midR R 0)) rfl (by rw [midR_zero])).new' Try.zeroCells46 46 (w.heap.size + 1) (rdC (fun _ => rsZ)) (by simp) (by rw [← rdC_zero])⟩
  have hpost : Hid (∀ A c w', w'.ownsRow (w.heap.size + 2) 3 1 (.slice A (outR R 64).length c) (outR R 64).length ((outR R 64).map encZ) → Below w.heap.size w w' → RTickPost w R (.returned (.tuple #[.agg (rdC (midR R 64)).toArray, .slice A (outR R 64).length c])) w') := fun A c w' h1 h2 => ⟨A, c, by rw [midR_end], own_mono h1 (by omega), h2⟩
  replace hok := Lib.hid hok
  go_enter Try.func68, Try.ntmps68
  go_upto_region 1 with fail
  generalize World.alloc (World.alloc w _) _ = w1 at *
  replace T0 := Lib.hid T0
  go_wp2_with fail
  go_loopw [4, 5] (fun v4 v5 wr => ∃ (k : Nat) (A : Option Addr) (c : Nat), v5 = .int .i64 k ∧ v4 = .slice A (outR R k).length c ∧ k ≤ 64 ∧ Hid (RTk w wr (midR R k) (.slice A (outR R k).length c) (outR R k))) (fun _ v5 _ => 64 - (intOf v5).toNat)
  case atStart => exact ⟨0, none, 0, rfl, rfl, by omega, T0⟩
  case round =>
    clear T0
    obtain ⟨k, A, c, rfl, rfl, hk, hT⟩ := hrel
    by_cases hkn : k < 64
    · have T := hT.out
      clear hT
      have hlen := outR_len R k
      have hnext := midR_next R k
      have hat0 := midR_at R k
      have hdk : (R k).is = true → LaValid (R k).x.y ∧ (R k).x.y.o = (k : Int) ∧ 1 ≤ (R k).l ∧ (R k).l ≤ 60 := fun h => hok.out k ⟨(R k).x.y, (R k).l⟩ (by unfold dbOf; rw [if_pos ⟨hkn, h⟩])
      have hot := @outR_t R k
      have hof := @outR_f R k
      generalize hRk : R k = s at hnext hdk hot hof hat0
      obtain ⟨⟨y, A9, c9, B9, d9⟩, lf, is⟩ := s
      simp only at hdk
      have c0 := T.c k (rdC_is (midR R k) hkn)
      rw [hat0] at c0
      simp only at c0
      cases is with
      | false =>
        rw [show rt1 ⟨⟨y, A9, c9, B9, d9⟩, lf, false⟩ = ⟨⟨y, A9, c9, B9, d9⟩, lf, false⟩ from rfl] at hnext
        have e1 : midR R (k + 1) = midR R k := by
          rw [hnext, ← hat0]; funext i; unfold upR; split
          · rename_i h; rw [h]
          · rfl
        have e2 := hof rfl
        rw [← e1, ← e2] at T
        rw [← e2]
        replace T := Lib.hid T
        clear hnext hot hof hdk e1 e2 hRk hat0 hlen
        go_wp2_with fail
        go_round
        case rel => exact ⟨k + 1, A, c, by go_num, rfl, by omega, T⟩
        case measure => simp [intOf]; omega
      | true =>
        obtain ⟨hva, -, hl1, hl2⟩ := hdk rfl
        have ha := hva.2.2.1
        clear hdk hva
        have x2 := T.at hkn (j := 2) (by omega) _ hat0 rfl
        by_cases hag : y.a = 3600
        · have hr1 : rt1 ⟨⟨y, A9, c9, B9, d9⟩, lf, true⟩ = ⟨⟨y, A9, c9, B9, d9⟩, lf - 1, if lf - 1 = 0 then false else true⟩ := by unfold rt1; simp [hag]
          have e2 := hof (by simp [rx1, hag])
          have e0 : (y.a == 3600) = true := by simp [hag]
          rw [hr1] at hnext
          rw [← e2] at T
          rw [← e2]
          have x6 := T.at hkn (j := 6) (by omega) _ hat0 rfl
          have f6 := T.f (j := 64 + k * 7 + 6) (by omega)
          have T2 := T.set_at hkn (j := 6) (by omega) (.int .i64 (lf - 1)) ⟨⟨y, A9, c9, B9, d9⟩, lf - 1, true⟩ _ hat0 rfl rfl
          clear T hr1 e2 hot hof hlen hRk hat0
          go_upto_region 8 with fail
          clear x2 x6 f6 c0 e0
          generalize World.setCell _ _ _ = w2 at *
          have x6 := T2.at hkn (j := 6) (by omega) _ (upR_same _ _ _) rfl
          by_cases hl0 : lf - 1 = 0
          · have g0 := T2.f (j := k) (by omega)
            have c0 := T2.c k (rdC_is _ hkn)
            have T3 := T2.set k (.bool false) (midR R (k + 1)) (by omega) (by rw [rdC_set_is _ hkn, upR_upR, upR_same, hnext, if_pos hl0])
            have e3 : (lf - 1 == 0) = true := by simp [hl0]
            clear hnext T2 hl0
            go_wp2_with fail
            generalize World.setCell _ _ _ = w3 at *
            replace T3 := Lib.hid T3
            go_round
            case rel => exact ⟨k + 1, A, c, by go_num, rfl, by omega, T3⟩
            case measure => simp [intOf]; omega
          · rw [if_neg hl0] at hnext
            rw [← hnext] at T2
            have e3 : (lf - 1 == 0) = false := by simp [hl0]
            clear hnext hl0
            replace T2 := Lib.hid T2
            go_wp2_with fail
            go_round
            case rel => exact ⟨k + 1, A, c, by go_num, rfl, by omega, T2⟩
            case measure => simp [intOf]; omega
        · have e0 : (y.a == 3600) = false := by simp [hag]
          have f2 := T.f (j := 64 + k * 7 + 2) (by omega)
          have T2 := T.set_at hkn (j := 2) (by omega) (.int .i64 (y.a + 1)) ⟨⟨{ y with a := y.a + 1 }, A9, c9, B9, d9⟩, lf, true⟩ _ hat0 rfl rfl
          have hRk2 := hRk
          clear T hRk hat0
          go_upto_region 11 with fail
          clear x2 f2 c0 e0
          generalize World.setCell _ _ _ = w2 at *
          have x2 := T2.at hkn (j := 2) (by omega) _ (upR_same _ _ _) rfl
          by_cases hl0 : y.a + 1 = 3600
          · have hr1 : rt1 ⟨⟨y, A9, c9, B9, d9⟩, lf, true⟩ = ⟨⟨purgeX y, none, 0, none, 0⟩, 60, true⟩ := by unfold rt1; simp [hag, hl0]
            have e2 := hot (by simp [rx1, hl0]; omega)
            have e3 : (y.a + 1 == 3600) = true := by simp [hl0]
            rw [hr1] at hnext
            have hla : LaAt w2 (laV y.o y.s (y.a + 1) y.ov A9 y.adj.length c9 B9 y.pre.length d9) { y with a := y.a + 1 } := by
              have := hR k hkn
              rw [hRk2] at this
              unfold LxOk at this
              exact (this.renum y.o y.s (y.a + 1) y.ov).below T2.st.b
            have PG := rpurge_any w2 _ _ hla
            have x0 := T2.at hkn (j := 0) (by omega) _ (upR_same _ _ _) rfl
            have x1 := T2.at hkn (j := 1) (by omega) _ (upR_same _ _ _) rfl
            have x3 := T2.at hkn (j := 3) (by omega) _ (upR_same _ _ _) rfl
            have x4 := T2.at hkn (j := 4) (by omega) _ (upR_same _ _ _) rfl
            have x5 := T2.at hkn (j := 5) (by omega) _ (upR_same _ _ _) rfl
            simp only [Nat.add_zero] at x0 x1 x3 x4 x5 PG
            replace PG := Lib.hid PG
            clear hl0 hr1 hla hag hot hof
            go_wp2_with fail
            (with_reducible refine (PG.out).mono ?_)
            rintro e w3 ⟨rfl, hb⟩
            replace T2 := T2.below hb
            clear x0 x1 x2 x3 x4 x5 PG hb e3
            have T3 := T2.set7 hkn ⟨⟨purgeX y, none, 0, none, 0⟩, 60, true⟩ _ (upR_same _ _ _) rfl
            rw [upR_upR, ← hnext] at T3
            have x0 := T2.at hkn (j := 0) (by omega) _ (upR_same _ _ _) rfl
            have x1 := T2.at hkn (j := 1) (by omega) _ (upR_same _ _ _) rfl
            have x2 := T2.at hkn (j := 2) (by omega) _ (upR_same _ _ _) rfl
            have x3 := T2.at hkn (j := 3) (by omega) _ (upR_same _ _ _) rfl
            have x4 := T2.at hkn (j := 4) (by omega) _ (upR_same _ _ _) rfl
            have x5 := T2.at hkn (j := 5) (by omega) _ (upR_same _ _ _) rfl
            have x6 := T2.at hkn (j := 6) (by omega) _ (upR_same _ _ _) rfl
            simp only [Nat.add_zero] at x0
            have f0 := T2.f (j := 64 + k * 7) (by omega)
            have f1 := T2.f (j := 64 + k * 7 + 1) (by omega)
            have f2 := T2.f (j := 64 + k * 7 + 2) (by omega)
            have f3 := T2.f (j := 64 + k * 7 + 3) (by omega)
            have f4 := T2.f (j := 64 + k * 7 + 4) (by omega)
            have f5 := T2.f (j := 64 + k * 7 + 5) (by omega)
            have f6 := T2.f (j := 64 + k * 7 + 6) (by omega)
            simp only [purgeX, List.length_nil] at T3
            clear hnext T2
            go_upto_region 13 with fail
            clear x0 x1 x2 x3 x4 x5 x6 f0 f1 f2 f3 f4 f5 f6
            generalize World.setCell _ _ _ = w4 at *
            have T4 := T3.below (below_new' w4 (.cells #[.int .i64 (k : Int)] 3))
            have rd0 := Rd.lit w4 #[.int .i64 (k : Int)] 3
            have o4 := T4.own
            have hsz4 := T4.sz
            clear T3
            have hl9 : (outR R (k + 1)).length = (outR R k).length + 1 := by rw [e2]; simp
            generalize hn : (outR R k).length = n at *
            replace hn := Lib.hid hn
            replace hl9 := Lib.hid hl9
            replace e2 := Lib.hid e2
            go_wp2_with (at_builtin; refine wpList_appB rfl intT (.tmp 68) (.tmp 70) rfl (w.heap.size + 2) rfl o4 (m := 1) rfl (by simp) rd0 (by simp [Value.oneCell']) (by simp only [maxLen]; omega) (by omega) hsz4 (n + 1) ((outR R k ++ [(k : Int)]).map encZ) rfl (by simp) ?_; intro v6 w6 o6 hbel6 hg6 hv6)
            rw [← e2.out, ← hl9.out] at o6
            have T5 := T4.app o6 hbel6
            obtain ⟨A7, c7, rfl, -⟩ := own_rd o6
            replace T5 := Lib.hid T5
            clear T4 o4 rd0 o6 hbel6 hg6 hv6 hsz4
            go_wp2_with fail
            go_round
            case rel => exact ⟨k + 1, A7, c7, by go_num, rfl, by omega, T5⟩
            case measure => simp [intOf]; omega
          · have hr1 : rt1 ⟨⟨y, A9, c9, B9, d9⟩, lf, true⟩ = ⟨⟨{ y with a := y.a + 1 }, A9, c9, B9, d9⟩, lf, true⟩ := by unfold rt1; simp [hag, hl0]
            have e2 := hof (by simp [rx1, hl0])
            have e3 : (y.a + 1 == 3600) = false := by simp [hl0]
            rw [hr1] at hnext
            rw [← hnext, ← e2] at T2
            rw [← e2]
            clear hnext hl0 hr1 e2 hot hof hlen hag
            replace T2 := Lib.hid T2
            go_wp2_with fail
            go_round
            case rel => exact ⟨k + 1, A, c, by go_num, rfl, by omega, T2⟩
            case measure => simp [intOf]; omega
    · obtain rfl : k = 64 := by omega
      have T := hT.out
      clear hT
      go_wp2_with (first | (refine wpList_loadR rfl (.tmp 1) rfl rfl (T.st.box 1 rfl) ?_) | (refine wpList_storeR rfl (.tmp 2) (.tmp 72) rfl rfl rfl (T.st.box 0 rfl) ?_))
      have T9 := T.st.setAllR 0 (midR R 64) rfl (by omega) (by simp) _ rfl
      have ho := own_farAll (w.heap.size + 1) (fun b e => by have := T.own.lt b e; omega) (rdC (midR R 64)) 0 wr T.own
      exact bodyPost_ret (v := .tuple #[.agg (rdC (midR R 64)).toArray, .slice A (outR R 64).length c]) (resR rfl (T9.box 0 rfl) rfl rfl) rfl (hpost.out _ _ _ ho T9.b)

end Go.Proofs.Ytkmpmgojgidcgaa

namespace Go.Proofs.Ytkmpmgojgidcgaa
set_option linter.unusedVariables false
open Go.RowKit Go.Maps Go.Sort

def rtN : Nat → Rs → Rs
  | 0, s => s
  | n + 1, s => rt1 (rtN n s)
def rxN : Nat → Rs → Bool
  | 0, _ => false
  | n + 1, s => rxN n s || rx1 (rtN n s)
/-- A place and what is held there. -/
def Tr (s : Rs) : Option Hd → Prop
  | none => s.is = false
  | some h => s.is = true ∧ s.x.y = h.x ∧ s.l = h.l
theorem purgeX_a (x : La) (a : Int) : purgeX { x with a := a } = purgeX x := rfl
theorem rtN_tick {s : Rs} (his : s.is = true) (ha0 : 0 ≤ s.x.y.a) (ha : s.x.y.a ≤ 3600) (hl0 : 1 ≤ s.l) (hl : s.l ≤ 60) : ∀ n : Nat, Tr (rtN n s) (tickH n ⟨s.x.y, s.l⟩).1 ∧ rxN n s = (tickH n ⟨s.x.y, s.l⟩).2
  | 0 => by
    unfold tickH rtN rxN
    by_cases h : s.x.y.a < 3600
    · simp only [if_pos h, show ((0 : Nat) : Int) < 3600 - s.x.y.a from by omega, if_true]
      exact ⟨⟨his, by simp, rfl⟩, trivial⟩
    · simp only [if_neg h]
      rw [if_neg (by omega)]
      exact ⟨⟨his, by simp, by simp⟩, by simp⟩
  | n + 1 => by
    obtain ⟨h1, h2⟩ := rtN_tick his ha0 ha hl0 hl n
    show Tr (rt1 (rtN n s)) _ ∧ (rxN n s || rx1 (rtN n s)) = _
    rw [h2]
    obtain ⟨y, l⟩ : ∃ p : La × Int, p = (s.x.y, s.l) := ⟨_, rfl⟩
    generalize rtN n s = t at *
    unfold tickH at h1 h2 ⊢
    simp only at *
    by_cases h : s.x.y.a < 3600
    · simp only [if_pos h] at h1 h2 ⊢
      by_cases hn : (n : Int) < 3600 - s.x.y.a
      · simp only [if_pos hn] at h1 h2 ⊢
        obtain ⟨k1, k2, k3⟩ := h1
        have ka : t.x.y.a = s.x.y.a + n := by rw [k2]
        by_cases hn1 : ((n + 1 : Nat) : Int) < 3600 - s.x.y.a
        · simp only [if_pos hn1]
          unfold rt1 rx1
          rw [if_pos k1, if_neg (by omega), if_neg (by omega)]
          refine ⟨⟨rfl, ?_, k3⟩, ?_⟩
          · simp only [k2]; congr 1; omega
          · have : ¬ t.x.y.a + 1 = 3600 := by omega
            simp [this]
        · simp only [if_neg hn1]
          unfold rt1 rx1
          rw [if_pos k1, if_neg (by omega), if_pos (by omega), if_neg (by omega)]
          refine ⟨⟨rfl, ?_, ?_⟩, ?_⟩
          · simp only [k2]; rfl
          · simp only; omega
          · have e1 : t.x.y.a + 1 = 3600 := by omega
            have e2 : ¬ t.x.y.a = 3600 := by omega
            simp [k1, e1, e2]
      · simp only [if_neg hn] at h1 h2 ⊢
        rw [if_neg (by omega)]
        simp only [Bool.true_or, and_true]
        by_cases hr : 60 ≤ (n : Int) - (3600 - s.x.y.a)
        · rw [if_pos hr] at h1
          rw [if_pos (by omega)]
          have k1 : t.is = false := h1
          show (rt1 t).is = false
          unfold rt1; rw [if_neg (by simp [k1])]; exact k1
        · rw [if_neg hr] at h1
          obtain ⟨k1, k2, k3⟩ := h1
          have ka : t.x.y.a = 3600 := by rw [k2]; rfl
          simp only at k3
          unfold rt1
          rw [if_pos k1, if_pos ka]
          by_cases hr2 : 60 ≤ ((n + 1 : Nat) : Int) - (3600 - s.x.y.a)
          · rw [if_pos hr2, if_pos (by omega)]; rfl
          · rw [if_neg hr2, if_neg (by omega)]
            exact ⟨rfl, k2, by simp only; omega⟩
    · simp only [if_neg h] at h1 h2 ⊢
      by_cases hr : s.l ≤ (n : Int)
      · rw [if_pos hr] at h1
        rw [if_pos (by omega)]
        have k1 : t.is = false := h1
        refine ⟨?_, by simp [rx1, k1]⟩
        show (rt1 t).is = false
        unfold rt1; rw [if_neg (by simp [k1])]; exact k1
      · rw [if_neg hr] at h1
        obtain ⟨k1, k2, k3⟩ := h1
        have ka : t.x.y.a = 3600 := by rw [k2]; simp only; omega
        simp only at k3
        refine ⟨?_, by simp [rx1, ka]⟩
        unfold rt1
        rw [if_pos k1, if_pos ka]
        by_cases hr2 : s.l ≤ ((n + 1 : Nat) : Int)
        · rw [if_pos hr2, if_pos (by omega)]; rfl
        · rw [if_neg hr2, if_neg (by omega)]
          exact ⟨rfl, k2, by simp only; omega⟩
theorem rtN_gone {s : Rs} (h : s.is = false) : ∀ n, rtN n s = s ∧ rxN n s = false
  | 0 => ⟨rfl, rfl⟩
  | n + 1 => by
    obtain ⟨h1, h2⟩ := rtN_gone h n
    show rt1 (rtN n s) = s ∧ (rxN n s || rx1 (rtN n s)) = false
    rw [h1, h2]
    exact ⟨by unfold rt1; rw [if_neg (by simp [h])], by simp [rx1, h]⟩
theorem rtN_db {R : Nat → Rs} (hok : DbOk (dbOf R)) (n : Nat) : dbOf (fun i => rtN n (R i)) = tickN n (dbOf R) ∧ ∀ i, i < 64 → rxN n (R i) = expH n (dbOf R i) := by
  have key : ∀ i, i < 64 → ((R i).is = true → Tr (rtN n (R i)) (tickH n ⟨(R i).x.y, (R i).l⟩).1 ∧ rxN n (R i) = (tickH n ⟨(R i).x.y, (R i).l⟩).2) := fun i hi h => by
    have := hok i ⟨(R i).x.y, (R i).l⟩ (by unfold dbOf; rw [if_pos ⟨hi, h⟩])
    exact rtN_tick h this.1.2.2.1.1 this.1.2.2.1.2 this.2.2.1 this.2.2.2 n
  constructor
  · funext i
    unfold tickN
    by_cases hi : i < 64
    · by_cases h : (R i).is = true
      · obtain ⟨h1, h2⟩ := key i hi h
        have e : dbOf R i = some ⟨(R i).x.y, (R i).l⟩ := by unfold dbOf; rw [if_pos ⟨hi, h⟩]
        rw [e]
        simp only
        unfold dbOf
        cases ht : (tickH n ⟨(R i).x.y, (R i).l⟩).1 with
        | none => rw [ht] at h1; have : (rtN n (R i)).is = false := h1; rw [if_neg (by simp [this])]
        | some x => rw [ht] at h1; obtain ⟨k1, k2, k3⟩ := h1; rw [if_pos ⟨hi, k1⟩, k2, k3]
      · have h' : (R i).is = false := by simpa using h
        have e : dbOf R i = none := by unfold dbOf; rw [if_neg (by simp [h'])]
        rw [e]
        unfold dbOf
        rw [if_neg (by show ¬ (i < 64 ∧ (rtN n (R i)).is = true); rw [(rtN_gone h' n).1]; simp [h'])]
    · have e : dbOf R i = none := by unfold dbOf; rw [if_neg (by simp [hi])]
      rw [e]
      unfold dbOf
      rw [if_neg (by simp [hi])]
  · intro i hi
    by_cases h : (R i).is = true
    · have e : dbOf R i = some ⟨(R i).x.y, (R i).l⟩ := by unfold dbOf; rw [if_pos ⟨hi, h⟩]
      rw [e, (key i hi h).2]; rfl
    · have h' : (R i).is = false := by simpa using h
      have e : dbOf R i = none := by unfold dbOf; rw [if_neg (by simp [h'])]
      rw [e, (rtN_gone h' n).2]; rfl
def exL (f : Nat → Bool) : List Int := ((List.range 64).filter f).map fun (i : Nat) => (i : Int)
theorem exL_tick {R : Nat → Rs} (hok : DbOk (dbOf R)) (n : Nat) : exL (fun i => rxN n (R i)) = tickL n (dbOf R) := by
  unfold exL tickL orgs
  rw [List.filter_filter, List.filter_map]
  congr 1
  refine List.filter_congr fun i hi => ?_
  have h := (rtN_db hok n).2 i (List.mem_range.1 hi)
  simp only [Function.comp, Int.toNat_natCast]
  rw [h]
  cases dbOf R i with
  | none => rfl
  | some x => simp
/-! ### What holds of what is held, behind ticks -/
theorem tickH_ok {n : Int} (hn : 0 ≤ n) {h h' : Hd} (hv : LaValid h.x) (h1 : 1 ≤ h.l) (h2 : h.l ≤ 60) (e : (tickH n h).1 = some h') : LaValid h'.x ∧ h'.x.o = h.x.o ∧ 1 ≤ h'.l ∧ h'.l ≤ 60 := by
  unfold tickH at e
  obtain ⟨k1, k2, k3, k4, k5, k6, k7, k8⟩ := id hv
  split at e
  · split at e
    · injection e with e; subst e
      exact ⟨⟨k1, k2, ⟨by simp only; omega, by simp only; omega⟩, k4, k5, fun h => by simp only at h; omega, k7, k8⟩, rfl, h1, h2⟩
    · split at e
      · cases e
      · injection e with e; subst e
        exact ⟨bare_purge h.x.o h.x.s k1.1 k1.2 k2.1 k2.2, rfl, by simp only; omega, by simp only; omega⟩
  · split at e
    · cases e
    · injection e with e; subst e
      exact ⟨hv, rfl, by simp only; omega, by simp only; omega⟩
theorem tick_ok {N : Db} (h : DbOk N) {n : Int} (hn : 0 ≤ n) : DbOk (tickN n N) := fun i x e => by
  unfold tickN at e
  cases hN : N i with
  | none => rw [hN] at e; cases e
  | some y =>
    rw [hN] at e
    obtain ⟨h1, h2, h3, h4⟩ := h i y hN
    obtain ⟨k1, k2, k3, k4⟩ := tickH_ok hn h1 h3 h4 e
    exact ⟨k1, by rw [k2, h2], k3, k4⟩
theorem RdOk.ticks {w : World} {R : Nat → Rs} (h : RdOk w R) : ∀ n, RdOk w (fun i => rtN n (R i))
  | 0 => h
  | n + 1 => RdOk.tick (h.ticks n)
theorem inst_ok {N : Db} (h : DbOk N) {a : La} (ha : vB a = true → LaValid a) : DbOk (instN N a) := fun i x e => by
  unfold instN at e
  split at e
  · rename_i hc
    have hv := ha hc.1
    simp only at e
    split at e
    · rename_i hi
      injection e with e; subst e
      have := hv.1
      exact ⟨hv, by simp only; omega, by simp, by simp⟩
    · exact h i x e
  · exact h i x e

end Go.Proofs.Ytkmpmgojgidcgaa

namespace Go.Proofs.Ytkmpmgojgidcgaa
set_option linter.unusedVariables false
open Go.RowKit Go.Maps Go.Sort

def exC (f : Nat → Bool) : List Value := (List.range 64).map fun i => .bool (f i)
theorem exC_len (f : Nat → Bool) : (exC f).length = 64 := by simp [exC]
theorem exC_at (f : Nat → Bool) {i : Nat} (hi : i < 64) : (exC f)[i]? = some (.bool (f i)) := by simp [exC, hi]
theorem exC_congr {f g : Nat → Bool} (h : ∀ i, i < 64 → f i = g i) : exC f = exC g := by
  unfold exC
  refine List.map_congr_left fun i hi => ?_
  rw [h i (List.mem_range.1 hi)]
theorem exC_set (f : Nat → Bool) {i : Nat} (hi : i < 64) : (exC f).set i (.bool true) = exC (fun j => f j || decide (j = i)) := by
  apply List.ext_getElem?
  intro n
  by_cases hn : n < 64
  · rw [exC_at _ hn]
    by_cases e : i = n
    · subst e; rw [List.getElem?_set_self (by rw [exC_len]; exact hi)]; simp
    · rw [List.getElem?_set_ne e, exC_at _ hn]
      have : ¬ n = i := fun h => e h.symm
      simp [this]
  · rw [List.getElem?_eq_none (by rw [List.length_set, exC_len]; omega), List.getElem?_eq_none (by rw [exC_len]; omega)]
theorem exC_zero : exC (fun _ => false) = [.bool false, .bool false, .bool false, .bool false, .bool false, .bool false, .bool false, .bool false, .bool false, .bool false, .bool false, .bool false, .bool false, .bool false, .bool false, .bool false, .bool false, .bool false, .bool false, .bool false, .bool false, .bool false, .bool false, .bool false, .bool false, .bool false, .bool false, .bool false, .bool false, .bool false, .bool false, .bool false, .bool false, .bool false, .bool false, .bool false, .bool false, .bool false, .bool false, .bool false, .bool false, .bool false, .bool false, .bool false, .bool false, .bool false, .bool false, .bool false, .bool false, .bool false, .bool false, .bool false, .bool false, .bool false, .bool false, .bool false, .bool false, .bool false, .bool false, .bool false, .bool false, .bool false, .bool false, .bool false] := by rfl
def exK (f : Nat → Bool) (k : Nat) : List Int := ((List.range k).filter f).map fun (i : Nat) => (i : Int)
theorem exK_t {f : Nat → Bool} {k : Nat} (h : f k = true) : exK f (k + 1) = exK f k ++ [(k : Int)] := by simp [exK, List.range_succ, List.filter_append, h]
theorem exK_f {f : Nat → Bool} {k : Nat} (h : f k = false) : exK f (k + 1) = exK f k := by simp [exK, List.range_succ, List.filter_append, h]
theorem exK_len (f : Nat → Bool) (k : Nat) : (exK f k).length ≤ k := by
  unfold exK
  rw [List.length_map]
  refine Nat.le_trans (List.length_filter_le _ _) ?_
  simp
theorem outR_mem {R : Nat → Rs} {x : Int} (h : x ∈ outR R 64) : ∃ q : Nat, x = (q : Int) ∧ q < 64 := by
  obtain ⟨q, hq, rfl⟩ := List.mem_map.1 h
  exact ⟨q, rfl, List.mem_range.1 (List.mem_filter.1 hq).1⟩
theorem outR_iff {R : Nat → Rs} {i : Nat} (hi : i < 64) : (i : Int) ∈ outR R 64 ↔ rx1 (R i) = true := by
  unfold outR
  rw [List.mem_map]
  constructor
  · rintro ⟨q, hq, e⟩
    obtain rfl : q = i := by omega
    exact (List.mem_filter.1 hq).2
  · intro h
    exact ⟨i, List.mem_filter.2 ⟨List.mem_range.2 hi, h⟩, rfl⟩
def fJ (f : Nat → Bool) (L : List Int) (j : Nat) : Nat → Bool := fun i => f i || decide ((i : Int) ∈ L.take j)
theorem fJ_next {f : Nat → Bool} {L : List Int} {j : Nat} (hj : j < L.length) {q : Nat} (hq : L[j] = (q : Int)) : (fun i => fJ f L j i || decide (i = q)) = fJ f L (j + 1) := by
  funext i
  unfold fJ
  rw [List.take_succ_eq_append_getElem hj, hq, Bool.or_assoc]
  congr 1
  rw [Bool.eq_iff_iff]
  simp only [Bool.or_eq_true, decide_eq_true_iff, List.mem_append, List.mem_singleton]
  constructor
  · rintro (h | h)
    · exact .inl h
    · right; omega
  · rintro (h | h)
    · exact .inl h
    · right; omega

def RTicksPost (w : World) (R : Nat → Rs) (m : Nat) (e : Ending) (w' : World) : Prop :=
  ∃ A c, e = .returned (.tuple #[.agg (rdC (fun i => rtN m (R i))).toArray, .slice A (tickL m (dbOf R)).length c]) ∧ w'.ownsRow w.heap.size 3 1 (.slice A (tickL m (dbOf R)).length c) (tickL m (dbOf R)).length ((tickL m (dbOf R)).map encZ) ∧ Below w.heap.size w w'

set_option maxRecDepth 100000 in
set_option maxHeartbeats 6400000 in
theorem rticks_any (w : World) (R : Nat → Rs) (hR : RdOk w R) (hok : DbOk (dbOf R)) (z : Int) (m : Nat) (hm : m = z.toNat) (hm4 : m ≤ 4000) : Calls Try.prog 40 #[.agg (rdC R).toArray, .int .i64 z] w (RTicksPost w R m) := by
  have S := (((St.start w).new' (rdC R).toArray 46 w.heap.size (rdC (fun i => rtN 0 (R i))) rfl rfl).new' Try.zeroCells46 46 (w.heap.size + 1) (rdC (fun _ => rsZ)) (by simp) (by rw [← rdC_zero])).new' (exC (fun _ => false)).toArray 41 (w.heap.size + 1 + 1) (exC (fun i => rxN 0 (R i))) (by simp) rfl
  rw [exC_zero] at S
  have hpost : Hid (∀ A c w', w'.ownsRow (w.heap.size + 3) 3 1 (.slice A (exK (fun i => rxN m (R i)) 64).length c) (exK (fun i => rxN m (R i)) 64).length ((exK (fun i => rxN m (R i)) 64).map encZ) → Below w.heap.size w w' → RTicksPost w R m (.returned (.tuple #[.agg (rdC (fun i => rtN m (R i))).toArray, .slice A (exK (fun i => rxN m (R i)) 64).length c])) w') := fun A c w' h1 h2 => by
    have e : exK (fun i => rxN m (R i)) 64 = tickL m (dbOf R) := exL_tick hok m
    rw [e] at h1 ⊢
    exact ⟨A, c, rfl, own_mono h1 (by omega), h2⟩
  replace hok := Lib.hid hok
  replace hR := Lib.hid hR
  replace hm := Lib.hid hm
  go_enter Try.func40, Try.ntmps40
  go_upto_region 2 with fail
  generalize World.alloc (World.alloc (World.alloc w _) _) _ = w1 at *
  go_wp2_with fail
  go_loopw [7] (fun v7 wr => ∃ (k : Nat), v7 = .int .i64 k ∧ k ≤ m ∧ St w wr [(w.heap.size + 1 + 1, exC (fun i => rxN k (R i))), (w.heap.size + 1, rdC (fun _ => rsZ)), (w.heap.size, rdC (fun i => rtN k (R i)))] []) (fun v7 _ => m - (intOf v7).toNat)
  case atStart => exact ⟨0, rfl, by omega, S⟩
  case round =>
    clear S
    obtain ⟨k, rfl, hk, S⟩ := hrel
    by_cases hkn : k < m
    · have hc1 : (k : Int) < z := by have := hm.out; omega
      have hc2 : (k : Int) < 4000 := by omega
      have TK := rtick_any wr (fun i => rtN k (R i)) ((hR.out.ticks k).below S.b) (by rw [(rtN_db hok.out k).1]; exact tick_ok hok.out (by omega))
      unfold RTickPost at TK
      have hL : ∀ x ∈ outR (fun i => rtN k (R i)) 64, ∃ q : Nat, x = (q : Int) ∧ q < 64 := fun x h => outR_mem h
      have hLi : ∀ i : Nat, i < 64 → ((i : Int) ∈ outR (fun i => rtN k (R i)) 64 ↔ rx1 (rtN k (R i)) = true) := fun i hi => outR_iff hi
      have hl64 := outR_len (fun i => rtN k (R i)) 64
      generalize outR (fun i => rtN k (R i)) 64 = L at *
      generalize hn : L.length = n at *
      rw [show (fun i => rt1 ((fun i => rtN k (R i)) i)) = (fun i => rtN (k + 1) (R i)) from rfl] at TK
      replace TK := Lib.hid TK
      replace hL := Lib.hid hL
      replace hLi := Lib.hid hLi
      replace hn := Lib.hid hn
      have hwr := S.lt 0 rfl (by rw [exC_len]; omega)
      go_wp2_with (first | (refine wpList_loadR (R := fun i => rtN k (R i)) rfl (.tmp 2) rfl rfl ?hb ?_; (case hb => exact S.box 2 rfl)))
      (with_reducible refine (TK.out).mono ?_)
      rintro e w2 ⟨A, c, rfl, ho, hb⟩
      replace S := S.call hb
      generalize wr.heap.size = gL at *
      clear TK hb
      go_upto_region 7 with (first | (refine wpList_storeR (R := fun i => rtN k (R i)) rfl (.tmp 2) (.tmp 24) rfl rfl rfl ?hb ?_; (case hb => exact S.box 2 rfl)))
      replace S := S.setAllR 2 (fun i => rtN (k + 1) (R i)) rfl (Nat.le_refl _) (by simp <;> omega) _ rfl
      replace ho := own_farAll w.heap.size (fun b e => by have := (ho.lt b e).1; omega) (rdC (fun i => rtN (k + 1) (R i))) 0 w2 ho
      generalize World.setCells _ _ _ _ = w3 at *
      have hf0 : exC (fun i => rxN k (R i)) = exC (fJ (fun i => rxN k (R i)) L 0) := exC_congr fun i _ => by simp [fJ]
      simp only [List.set_cons_succ, List.set_cons_zero] at S
      rw [hf0] at S
      clear hf0
      replace ho := Lib.hid ho
      go_wp2_with fail
      go_loopw [9] (fun v9 wr => ∃ (j : Nat), v9 = .int .i64 j ∧ j ≤ n ∧ Hid (wr.ownsRow gL 3 1 (.slice A n c) n (L.map encZ)) ∧ St w wr [(w.heap.size + 1 + 1, exC (fJ (fun i => rxN k (R i)) L j)), (w.heap.size + 1, rdC (fun _ => rsZ)), (w.heap.size, rdC (fun i => rtN (k + 1) (R i)))] []) (fun v9 _ => n - (intOf v9).toNat)
      case atStart => exact ⟨0, rfl, by omega, ho, S⟩
      case round =>
        clear S ho
        obtain ⟨j, rfl, hj, ho, S⟩ := hrel
        by_cases hjn : j < n
        · have hjl : j < L.length := by rw [hn.out]; exact hjn
          obtain ⟨q, hq, hq64⟩ := hL.out _ (List.getElem_mem hjl)
          obtain ⟨bL, oL, hAe, hz⟩ := rd_at (own_slice ho.out) (by simp only [List.length_map]; omega)
          subst hAe
          have z0 : _ = some (Value.int .i64 (q : Int)) := hz j _ (by rw [List.getElem?_map, List.getElem?_eq_getElem hjl, hq]; rfl)
          have hnx := fJ_next (f := fun i => rxN k (R i)) hjl hq
          clear hz hq hjl
          have c0 := S.c 0 q rfl (exC_at _ hq64)
          have f0 := S.f 0 q rfl (exC_at _ hq64)
          have hq9 : (q : Int) < 64 := by omega
          have S2 := S.set 0 q (.bool true) rfl (by rw [exC_len]; omega) (by omega) (by simp <;> omega) [(w.heap.size + 1 + 1, exC (fJ (fun i => rxN k (R i)) L (j + 1))), (w.heap.size + 1, rdC (fun _ => rsZ)), (w.heap.size, rdC (fun i => rtN (k + 1) (R i)))] (by rw [exC_set _ hq64, hnx]; rfl)
          have ho2 := Lib.hid (own_far ho.out (p := ⟨w.heap.size + 1 + 1, q, none⟩) (fun b e => by have := (ho.out.lt b e).1; simp only; omega) (.bool true))
          clear S ho hnx
          go_wp2_with fail
          clear c0 f0 z0
          generalize World.setCell _ _ _ = w4 at *
          go_round
          case rel => exact ⟨j + 1, by go_num, by omega, ho2, S2⟩
          case measure => simp [intOf]; omega
        · obtain rfl : j = n := by omega
          have hf1 : exC (fJ (fun i => rxN k (R i)) L j) = exC (fun i => rxN (k + 1) (R i)) := exC_congr fun i hi => by
            unfold fJ
            rw [List.take_of_length_le (by rw [hn.out]; exact Nat.le_refl _)]
            show _ = (rxN k (R i) || rx1 (rtN k (R i)))
            congr 1
            rw [Bool.eq_iff_iff, decide_eq_true_iff]
            exact hLi.out i hi
          rw [hf1] at S
          clear hf1 ho hL hLi
          go_wp2_with fail
          go_round
          case rel => exact ⟨k + 1, by go_num, by omega, S⟩
          case measure => simp [intOf]; omega
    · obtain rfl : k = m := by omega
      have hsz3 := S.lt 0 rfl (by rw [exC_len]; omega)
      have hown0 : Hid (wr.ownsRow (w.heap.size + 3) 3 1 (.slice none (exK (fun i => rxN k (R i)) 0).length 0) (exK (fun i => rxN k (R i)) 0).length ((exK (fun i => rxN k (R i)) 0).map encZ)) := World.ownsRow_nil _ _ _ _
      have hz : ¬ (k : Int) < z := by have := hm.out; omega
      go_wp2_with fail
      go_loopw [10, 11] (fun v10 v11 wr => ∃ (i : Nat) (A : Option Addr) (c : Nat), v11 = .int .i64 i ∧ v10 = .slice A (exK (fun i => rxN k (R i)) i).length c ∧ i ≤ 64 ∧ w.heap.size + 3 ≤ wr.heap.size ∧ Hid (wr.ownsRow (w.heap.size + 3) 3 1 (.slice A (exK (fun i => rxN k (R i)) i).length c) (exK (fun i => rxN k (R i)) i).length ((exK (fun i => rxN k (R i)) i).map encZ)) ∧ St w wr [(w.heap.size + 1 + 1, exC (fun i => rxN k (R i))), (w.heap.size + 1, rdC (fun _ => rsZ)), (w.heap.size, rdC (fun i => rtN k (R i)))] []) (fun _ v11 _ => 64 - (intOf v11).toNat)
      case atStart => exact ⟨0, none, 0, rfl, rfl, by omega, by omega, hown0, S⟩
      case round =>
        clear S hown0 hsz3
        obtain ⟨i, A, c, rfl, rfl, hi, hsz, hown, S⟩ := hrel
        by_cases hin : i < 64
        · have c0 := S.c 0 i rfl (exC_at _ hin)
          have hlen := exK_len (fun i => rxN k (R i)) i
          have ht := @exK_t (fun i => rxN k (R i)) i
          have hf := @exK_f (fun i => rxN k (R i)) i
          obtain ⟨ex, hex⟩ : ∃ z, rxN k (R i) = z := ⟨_, rfl⟩
          rw [hex] at c0 ht hf
          cases ex with
          | false =>
            have e2 := hf rfl
            rw [← e2] at hown ⊢
            clear ht hf hlen hex e2
            go_wp2_with fail
            go_round
            case rel => exact ⟨i + 1, A, c, by go_num, rfl, by omega, hsz, hown, S⟩
            case measure => simp [intOf]; omega
          | true =>
            have e2 := ht rfl
            clear ht hf hex
            have hl9 : (exK (fun i => rxN k (R i)) (i + 1)).length = (exK (fun i => rxN k (R i)) i).length + 1 := by rw [e2]; simp
            have S4 := S.alloc (.cells #[.int .i64 (i : Int)] 3)
            have rd0 := Rd.lit wr #[.int .i64 (i : Int)] 3
            have o4 := own_below hown.out (below_new' wr (.cells #[.int .i64 (i : Int)] 3))
            have hsz4 : w.heap.size + 3 ≤ (wr.alloc (.cells #[.int .i64 (i : Int)] 3)).heap.size := by simp; omega
            clear S hown
            generalize hn : (exK (fun i => rxN k (R i)) i).length = n at *
            replace hn := Lib.hid hn
            replace hl9 := Lib.hid hl9
            replace e2 := Lib.hid e2
            go_wp2_with (at_builtin; refine wpList_appB rfl intT (.tmp 44) (.tmp 46) rfl (w.heap.size + 3) rfl o4 (m := 1) rfl (by simp) rd0 (by simp [Value.oneCell']) (by simp only [maxLen]; omega) (by omega) hsz4 (n + 1) ((exK (fun i => rxN k (R i)) i ++ [(i : Int)]).map encZ) rfl (by simp) ?_; intro v6 w6 o6 hbel6 hg6 hv6)
            rw [← e2.out, ← hl9.out] at o6
            replace S4 := S4.belowB hbel6 (by omega) (by simp)
            have hsz6 := Nat.le_trans hsz4 hbel6.size
            obtain ⟨A7, c7, rfl, -⟩ := own_rd o6
            replace o6 := Lib.hid o6
            clear o4 rd0 hbel6 hg6 hv6 hsz4 c0
            go_wp2_with fail
            go_round
            case rel => exact ⟨i + 1, A7, c7, by go_num, by with_reducible rfl, by omega, hsz6, o6, S4⟩
            case measure => simp [intOf]; omega
        · obtain rfl : i = 64 := by omega
          go_wp2_with (first | (refine wpList_loadR (R := fun i => rtN k (R i)) rfl (.tmp 2) rfl rfl ?hb ?_; (case hb => exact S.box 2 rfl)) | (refine wpList_storeR (R := fun _ => rsZ) rfl (.tmp 4) (.tmp 48) rfl rfl rfl ?hb ?_; (case hb => exact S.box 1 rfl)))
          have T9 := S.setAllR 1 (fun i => rtN k (R i)) rfl (by omega) (by simp <;> omega) _ rfl
          have ho := own_farAll (w.heap.size + 1) (fun b e => by have := hown.out.lt b e; omega) (rdC (fun i => rtN k (R i))) 0 wr hown.out
          generalize exK (fun i => rxN k (R i)) 64 = X at *
          exact bodyPost_ret (v := .tuple #[.agg (rdC (fun i => rtN k (R i))).toArray, .slice A X.length c]) (resR rfl (T9.box 1 rfl) rfl rfl) rfl (hpost.out _ _ _ ho T9.b)

end Go.Proofs.Ytkmpmgojgidcgaa

namespace Go.Proofs.Ytkmpmgojgidcgaa
set_option linter.unusedVariables false
open Go.RowKit Go.Sort Go.ChangeShapes Go.WideShapes Go.ChangeAt

/-- A step as it lies in memory. -/
structure Sx where
  x : Lx
  t : Int
def sxL (s : Sx) : List Value := lxL s.x ++ [.int .i64 s.t]
def sxV : List Sx → List Value
  | [] => []
  | s :: l => sxL s ++ sxV l
theorem sxV_len (l : List Sx) : (sxV l).length = l.length * 7 := by
  induction l with
  | nil => rfl
  | cons r l ih => simp only [sxV, sxL, lxL, List.length_append, List.length_cons, List.length_nil, ih]; omega
theorem sxV_get (l : List Sx) : ∀ (k : Nat) (hk : k < l.length) (j : Nat) (hj : j < 7), (sxV l)[7 * k + j]? = (sxL l[k])[j]? := by
  induction l with
  | nil => intro k hk; simp at hk
  | cons r l ih =>
    intro k hk j hj
    have h8 : (sxL r).length = 7 := rfl
    cases k with
    | zero => simp only [sxV, List.getElem_cons_zero]; rw [List.getElem?_append_left (by omega)]; simp
    | succ k =>
      simp only [sxV, List.getElem_cons_succ]
      rw [List.getElem?_append_right (by omega), h8, show 7 * (k + 1) + j - 7 = 7 * k + j by omega]
      exact ih k (by simpa using hk) j hj
theorem sx_form {w : World} {A : Option Addr} {l : List Sx} (h : Rd w A (sxV l)) (hn : 0 < l.length) : ∃ b off, A = some ⟨b, off, none⟩ := by
  obtain ⟨b, off, e, hc⟩ := rd_at h (by rw [sxV_len]; omega)
  exact ⟨b, off, e⟩
/-- The cells of a step. -/
theorem sx_cells {w : World} {b off : Nat} {l : List Sx} (h : Rd w (some ⟨b, off, none⟩) (sxV l)) (k : Nat) (hk : k < l.length) (s : Sx) (hs : l[k] = s) :
    w.cell? ⟨b, off + k * 7, none⟩ = some (.int .i64 s.x.y.o) ∧ w.cell? ⟨b, off + k * 7 + 1, none⟩ = some (.int .i64 s.x.y.s) ∧ w.cell? ⟨b, off + k * 7 + 2, none⟩ = some (.int .i64 s.x.y.a) ∧
    w.cell? ⟨b, off + k * 7 + 3, none⟩ = some (.bool s.x.y.ov) ∧ w.cell? ⟨b, off + k * 7 + 4, none⟩ = some (.slice s.x.A s.x.y.adj.length s.x.c) ∧ w.cell? ⟨b, off + k * 7 + 5, none⟩ = some (.slice s.x.B s.x.y.pre.length s.x.d) ∧
    w.cell? ⟨b, off + k * 7 + 6, none⟩ = some (.int .i64 s.t) := by
  subst hs
  obtain ⟨b', off', e, hc⟩ := rd_at h (by rw [sxV_len]; omega)
  injection e with e
  injection e with e1 e2 e3
  subst e1 e2
  have key : ∀ j (u : Value), j < 7 → (sxL l[k])[j]? = some u → w.cell? ⟨b, off + k * 7 + j, none⟩ = some u := fun j u hj hu => by
    rw [Nat.add_assoc]
    exact hc _ _ (by rw [Nat.mul_comm k 7, sxV_get l k hk j hj]; exact hu)
  have x0 := key 0 _ (by omega) rfl
  simp only [Nat.add_zero] at x0
  exact ⟨x0, key 1 _ (by omega) rfl, key 2 _ (by omega) rfl, key 3 _ (by omega) rfl, key 4 _ (by omega) rfl, key 5 _ (by omega) rfl, key 6 _ (by omega) rfl⟩
theorem rep_sx {w : World} {xs : List (La × Int)} : ∀ {vs : List Value}, Rep (IsTwo (IsLa w) (IsInt .i64)) 7 xs vs → ∃ l : List Sx, vs = sxV l ∧ l.length = xs.length ∧ ∀ s ∈ l, LxOk w s.x ∧ (Lit.int .i64 s.t).wf = true := by
  induction xs with
  | nil => intro vs h; exact ⟨[], h, rfl, by simp⟩
  | cons b t ih =>
    rintro vs ⟨cs, q, rfl, ⟨c1, c2, rfl, ⟨hla, hl6⟩, hc2, hwf⟩, _, hr⟩
    obtain ⟨l, rfl, hl, hok⟩ := ih hr
    obtain ⟨A, cc, B, d, hv, hat⟩ := hla.opened
    have hcs : c1 = [.int .i64 b.1.o, .int .i64 b.1.s, .int .i64 b.1.a, .bool b.1.ov, .slice A b.1.adj.length cc, .slice B b.1.pre.length d] := by
      simp only [laV, Value.agg.injEq] at hv
      have := congrArg Array.toList hv
      simpa using this
    subst hcs hc2
    refine ⟨⟨⟨b.1, A, cc, B, d⟩, b.2⟩ :: l, rfl, by simp [hl], fun s hs => ?_⟩
    rcases List.mem_cons.1 hs with rfl | hs
    · exact ⟨hat, hwf⟩
    · exact hok s hs

section
variable {H : Type} {enc : TypeId × Value → H} {w : World} {base : Nat} {spare : Nat → Bool} {held : Bool} {r : Reach} {b0 : Nat} {v : Value} {d : DataW H} {ps : List MemPlace}
set_option maxRecDepth 100000 in
theorem arg_sx (hv : Value.okWide Try.prog w r b0 39 v) (h : DataW.Trod enc Try.prog w base spare held 39 v d ps) :
    ∃ (A : Option Addr) (n c : Nat) (l : List Sx), v = .slice A n c ∧ Rd w A (sxV l) ∧ l.length = n ∧ n ≤ maxLen ∧ ∀ s ∈ l, LxOk w s.x ∧ (Lit.int .i64 s.t).wf = true := by
  have OS : Opens Try.prog w 97 (IsTwo (IsLa w) (IsInt .i64)) := opens_struct2 Try.underlying97 rfl (by kernel_rfl) (by kernel_rfl) (opens_la w) (opens_int Try.underlying3 (by kernel_rfl))
  obtain ⟨A, n, c, x, rfl, A', c', vs, h1, h2, h3, h4, h5⟩ := arg_slice Try.underlying39 (opens_slice Try.underlying39 (by kernel_rfl) OS) hv h
  simp only [List.cons.injEq, Value.slice.injEq, and_true] at h1
  obtain ⟨rfl, rfl, rfl⟩ := h1
  rw [show Try.prog.cellsOf 97 = 7 from by kernel_rfl] at h4
  obtain ⟨l, rfl, hl, hok⟩ := rep_sx h4
  exact ⟨A, _, c, l, rfl, h5, hl, Nat.le_trans h2 h3, hok⟩
end
def tsum : List Sx → Int
  | [] => 0
  | s :: l => max 0 s.t + tsum l
theorem tsum_app (a b : List Sx) : tsum (a ++ b) = tsum a + tsum b := by
  induction a with
  | nil => simp [tsum]
  | cons x a ih => simp only [List.cons_append, tsum, ih]; omega
structure Small33 (l : List Sx) : Prop where
  len : l.length ≤ 12
  few : ∀ s ∈ l, fewB s.x.y = true ∧ s.t ≤ 4000
  sum : tsum l ≤ 8000
def FewPost (w : World) (l : List Sx) (e : Ending) (w' : World) : Prop := ∃ fv, e = .returned (.bool fv) ∧ (fv = true → Small33 l) ∧ Below w.heap.size w w'

set_option maxRecDepth 100000 in
set_option maxHeartbeats 3200000 in
theorem few33_any (w : World) (A : Option Addr) (n c : Nat) (l : List Sx) (hA : Rd w A (sxV l)) (hn : l.length = n) (hm : n ≤ 9223372036854775807) (hok : ∀ s ∈ l, LxOk w s.x ∧ (Lit.int .i64 s.t).wf = true) :
    Calls Try.prog 18 #[.slice A n c] w (FewPost w l) := by
  have S := (St.start w).read hA
  replace hok := Lib.hid hok
  replace hn := Lib.hid hn
  clear hA
  go_enter Try.func18, Try.ntmps18
  go_wp2_with fail
  by_cases h12 : n ≤ 12
  · have h0 : Hid ((∀ s ∈ l.take 0, fewB s.x.y = true ∧ s.t ≤ 4000) ∧ tsum (l.take 0) = 0) := ⟨by simp, rfl⟩
    go_loopw [3, 4] (fun v3 v4 wr => ∃ (k : Nat) (z : Int), v4 = .int .i64 k ∧ v3 = .int .i64 z ∧ k ≤ n ∧ 0 ≤ z ∧ z ≤ 4000 * k ∧ Hid ((∀ s ∈ l.take k, fewB s.x.y = true ∧ s.t ≤ 4000) ∧ tsum (l.take k) = z) ∧ St w wr [] [(A, sxV l)]) (fun _ v4 _ => n - (intOf v4).toNat)
    case atStart => exact ⟨0, 0, rfl, rfl, by omega, by omega, by omega, h0, S⟩
    case round =>
      clear S h0
      obtain ⟨k, z, rfl, rfl, hk, hz0, hz1, hv, S⟩ := hrel
      by_cases hkn : k < n
      · have hkl : k < l.length := by rw [hn.out]; exact hkn
        obtain ⟨ba, off, rfl⟩ := sx_form (S.r 0 rfl) (by omega)
        obtain ⟨hso, hwt⟩ := hok.out l[k] (List.getElem_mem hkl)
        have hnx : fewB l[k].x.y = true → l[k].t ≤ 4000 → (∀ s ∈ l.take (k + 1), fewB s.x.y = true ∧ s.t ≤ 4000) ∧ tsum (l.take (k + 1)) = z + max 0 l[k].t := fun h1 h2 => by
          rw [List.take_succ_eq_append_getElem hkl]
          refine ⟨fun s hs => ?_, by rw [tsum_app, hv.out.2]; simp [tsum]⟩
          rcases List.mem_append.1 hs with hs | hs
          · exact hv.out.1 s hs
          · rw [List.mem_singleton.1 hs]; exact ⟨h1, h2⟩
        obtain ⟨s, hs⟩ : ∃ s, l[k] = s := ⟨_, rfl⟩
        rw [hs] at hso hnx hwt
        have hcell := fun W (h : Rd W (some ⟨ba, off, none⟩) (sxV l)) => sx_cells h k hkl s hs
        clear hs hkl
        obtain ⟨⟨y, A2, c2, B2, d2⟩, t⟩ := s
        unfold LxOk at hso
        simp only at hso hnx hcell hwt
        have htb := bounds_i64 hwt
        replace hcell := Lib.hid hcell
        replace hnx := Lib.hid hnx
        obtain ⟨fb, hfb⟩ : ∃ z, fewB y = z := ⟨_, rfl⟩
        have F := fun W hb => few_any W _ y (hso.below hb)
        rw [hfb] at F hnx
        replace F := Lib.hid F
        clear hso hfb hv
        obtain ⟨x0, x1, x2, x3, x4, x5, x6⟩ := hcell.out _ (S.r 0 rfl)
        go_wp2_with fail
        (with_reducible refine (F.out _ S.b).mono ?_)
        rintro e w3 ⟨rfl, hb⟩
        clear x0 x1 x2 x3 x4 x5 x6 F
        replace S := S.call hb
        clear hb
        cases fb with
        | false =>
          go_wp2_with fail
          go_ret
          exact ⟨false, rfl, by simp, S.b⟩
        | true =>
        obtain ⟨x0, x1, x2, x3, x4, x5, x6⟩ := hcell.out _ (S.r 0 rfl)
        by_cases ht : 4000 < t
        · have htd : decide ((4000 : Int) < t) = true := by simp; omega
          go_wp2_with fail
          go_ret
          exact ⟨false, rfl, by simp, S.b⟩
        have htd : decide ((4000 : Int) < t) = false := by simp; omega
        have hnx2 := Lib.hid (hnx.out (by trivial) (by omega))
        clear hnx x0 x1 x2 x3 x4 x5
        go_wp2_with fail
        go_round
        case rel => exact ⟨k + 1, z + max 0 t, by go_num, rfl, by omega, by omega, by omega, hnx2, S⟩
        case measure => simp [intOf]; omega
      · obtain rfl : k = n := by omega
        have hv2 := hv.out
        rw [List.take_of_length_le (by rw [hn.out]; exact Nat.le_refl _)] at hv2
        have hd : decide ((k : Int) ≤ 12) = true := by simp; omega
        by_cases hz : z ≤ 8000
        · have hd2 : decide (z ≤ 8000) = true := by simp; omega
          have hs : Hid (Small33 l) := ⟨by rw [hn.out]; exact h12, hv2.1, by rw [hv2.2]; exact hz⟩
          clear hv hv2
          go_wp2_with fail
          go_ret
          exact ⟨true, rfl, fun _ => hs.out, S.b⟩
        · have hd2 : decide (z ≤ 8000) = false := by simp; omega
          clear hv hv2
          go_wp2_with fail
          go_ret
          exact ⟨false, rfl, by simp, S.b⟩
  · go_loopw [3, 4] (fun v3 v4 wr => ∃ (k : Nat) (z : Int), v4 = .int .i64 k ∧ v3 = .int .i64 z ∧ k ≤ n ∧ St w wr [] [(A, sxV l)]) (fun _ v4 _ => n - (intOf v4).toNat)
    case atStart => exact ⟨0, 0, rfl, rfl, by omega, S⟩
    case round =>
      clear S
      obtain ⟨k, z, rfl, rfl, hk, S⟩ := hrel
      by_cases hkn : k < n
      · have hkl : k < l.length := by rw [hn.out]; exact hkn
        obtain ⟨ba, off, rfl⟩ := sx_form (S.r 0 rfl) (by omega)
        obtain ⟨hso, hwt⟩ := hok.out l[k] (List.getElem_mem hkl)
        obtain ⟨s, hs⟩ : ∃ s, l[k] = s := ⟨_, rfl⟩
        rw [hs] at hso hwt
        have hcell := fun W (h : Rd W (some ⟨ba, off, none⟩) (sxV l)) => sx_cells h k hkl s hs
        clear hs hkl
        obtain ⟨⟨y, A2, c2, B2, d2⟩, t⟩ := s
        unfold LxOk at hso
        simp only at hso hcell hwt
        have htb := bounds_i64 hwt
        replace hcell := Lib.hid hcell
        obtain ⟨fb, hfb⟩ : ∃ z, fewB y = z := ⟨_, rfl⟩
        have F := fun W hb => few_any W _ y (hso.below hb)
        rw [hfb] at F
        replace F := Lib.hid F
        clear hso hfb
        obtain ⟨x0, x1, x2, x3, x4, x5, x6⟩ := hcell.out _ (S.r 0 rfl)
        go_wp2_with fail
        (with_reducible refine (F.out _ S.b).mono ?_)
        rintro e w3 ⟨rfl, hb⟩
        clear x0 x1 x2 x3 x4 x5 x6 F
        replace S := S.call hb
        clear hb
        cases fb with
        | false =>
          go_wp2_with fail
          go_ret
          exact ⟨false, rfl, by simp, S.b⟩
        | true =>
        obtain ⟨x0, x1, x2, x3, x4, x5, x6⟩ := hcell.out _ (S.r 0 rfl)
        by_cases ht : 4000 < t
        · have htd : decide ((4000 : Int) < t) = true := by simp; omega
          go_wp2_with fail
          go_ret
          exact ⟨false, rfl, by simp, S.b⟩
        have htd : decide ((4000 : Int) < t) = false := by simp; omega
        clear x0 x1 x2 x3 x4 x5
        go_wp2_with fail
        go_round
        case rel => exact ⟨k + 1, _, by go_num, rfl, by omega, S⟩
        case measure => simp [intOf]; omega
      · obtain rfl : k = n := by omega
        have hd : decide ((k : Int) ≤ 12) = false := by simp; omega
        go_wp2_with fail
        go_ret
        exact ⟨false, rfl, by simp, S.b⟩

set_option maxRecDepth 100000 in
set_option maxHeartbeats 3200000 in
/-- Two equal lists. -/
theorem ints_any (w : World) (A B : Option Addr) (n c d : Nat) (xs : List Int) (hA : Rd w A (xs.map encZ)) (hB : Rd w B (xs.map encZ)) (hn : xs.length = n) (b1 : n ≤ 9223372036854775807) :
    Calls Try.prog 41 #[.slice A n c, .slice B n d] w fun e w' => e = .returned (.bool true) ∧ Below w.heap.size w w' := by
  have S := ((St.start w).read hB).read hA
  clear hA hB
  replace hn := Lib.hid hn
  have e0 : ((n : Int) != (n : Int)) = false := by simp
  go_enter Try.func41, Try.ntmps41
  go_wp2_with fail
  go_loopw [5] (fun v5 wr => ∃ i : Nat, v5 = .int .i64 i ∧ i ≤ n ∧ St w wr [] [(A, xs.map encZ), (B, xs.map encZ)]) (fun v5 _ => n - (intOf v5).toNat)
  case atStart => exact ⟨0, rfl, by omega, S⟩
  case round =>
    clear S
    obtain ⟨i, rfl, hi, S⟩ := hrel
    by_cases him : i < n
    · have hkl : i < xs.length := by have := hn.out; omega
      obtain ⟨b, off, rfl, hc⟩ := rd_at (S.r 0 rfl) (by simp only [List.length_map]; omega)
      obtain ⟨b', off', rfl, hc'⟩ := rd_at (S.r 1 rfl) (by simp only [List.length_map]; omega)
      have x0 : wr.cell? ⟨b, off + i, none⟩ = some (.int .i64 xs[i]) := hc i _ (by rw [List.getElem?_map, List.getElem?_eq_getElem hkl]; rfl)
      have y0 : wr.cell? ⟨b', off' + i, none⟩ = some (.int .i64 xs[i]) := hc' i _ (by rw [List.getElem?_map, List.getElem?_eq_getElem hkl]; rfl)
      clear hc hc'
      generalize xs[i] = x at *
      have e1 : (x != x) = false := by simp
      go_wp2_with fail
      go_quiet (fail)
      go_wp2_with fail
      go_round
      case rel => exact ⟨i + 1, by go_num, by omega, S.drewN nq⟩
      case measure => simp [intOf]; omega
    · obtain rfl : i = n := by omega
      go_wp2_with fail
      go_ret
      exact ⟨rfl, S.b⟩

set_option maxRecDepth 100000 in
set_option maxHeartbeats 3200000 in
/-- Two lists of the same advertisements. -/
theorem rsamelist_any (w : World) (A B : Option Addr) (n c d : Nat) (la lb : List Lx) (hA : Rd w A (lxV la)) (hB : Rd w B (lxV lb)) (hn : la.length = n) (hm : lb.length = n) (b1 : n ≤ 9223372036854775807) (oka : ∀ s ∈ la, LxOk w s) (okb : ∀ s ∈ lb, LxOk w s) (hE : laL la = laL lb) :
    Calls Try.prog 20 #[.slice A n c, .slice B n d] w fun e w' => e = .returned (.bool true) ∧ Below w.heap.size w w' := by
  have S := ((St.start w).read hB).read hA
  clear hA hB
  replace hn := Lib.hid hn
  replace hm := Lib.hid hm
  replace oka := Lib.hid oka
  replace okb := Lib.hid okb
  replace hE := Lib.hid hE
  have e0 : ((n : Int) != (n : Int)) = false := by simp
  go_enter Try.func20, Try.ntmps20
  go_wp2_with fail
  go_loopw [5] (fun v5 wr => ∃ i : Nat, v5 = .int .i64 i ∧ i ≤ n ∧ St w wr [] [(A, lxV la), (B, lxV lb)]) (fun v5 _ => n - (intOf v5).toNat)
  case atStart => exact ⟨0, rfl, by omega, S⟩
  case round =>
    clear S
    obtain ⟨i, rfl, hi, S⟩ := hrel
    by_cases him : i < n
    · have hka : i < la.length := by have := hn.out; omega
      have hkb : i < lb.length := by have := hm.out; omega
      obtain ⟨b, off, rfl⟩ := lx_form (S.r 0 rfl) (by omega)
      obtain ⟨b', off', rfl⟩ := lx_form (S.r 1 rfl) (by omega)
      have h1 := oka.out la[i] (List.getElem_mem hka)
      have h2 := okb.out lb[i] (List.getElem_mem hkb)
      have hyy : la[i].y = lb[i].y := by rw [← laL_get la i hka, ← laL_get lb i hkb]; simp only [hE.out]
      obtain ⟨x0, x1, x2, x3, x4, x5⟩ := lx_cells (S.r 0 rfl) i hka _ rfl
      obtain ⟨y0, y1, y2, y3, y4, y5⟩ := lx_cells (S.r 1 rfl) i hkb _ rfl
      clear e0
      generalize la[i] = s at *
      generalize lb[i] = u at *
      obtain ⟨y, A2, c2, B2, d2⟩ := s
      obtain ⟨y', A3, c3, B3, d3⟩ := u
      simp only at hyy
      subst hyy
      unfold LxOk at h1 h2
      simp only at h1 h2 x0 x1 x2 x3 x4 x5 y0 y1 y2 y3 y4 y5
      have EQ : Hid (∀ W, Below wr.heap.size wr W → Calls Try.prog 24 #[laV y.o y.s y.a y.ov A2 y.adj.length c2 B2 y.pre.length d2, laV y.o y.s y.a y.ov A3 y.adj.length c3 B3 y.pre.length d3] W fun e w' => e = .returned (.bool true) ∧ Below W.heap.size W w') := fun W hb => by
        have := equal_any W _ _ y y ((h1.below S.b).below hb) ((h2.below S.b).below hb)
        rwa [equB_refl'] at this
      clear h1 h2 hka hkb
      replace x0 := cell_regrown x0
      replace x1 := cell_regrown x1
      replace x2 := cell_regrown x2
      replace x3 := cell_regrown x3
      replace x4 := cell_regrown x4
      replace x5 := cell_regrown x5
      replace y0 := cell_regrown y0
      replace y1 := cell_regrown y1
      replace y2 := cell_regrown y2
      replace y3 := cell_regrown y3
      replace y4 := cell_regrown y4
      replace y5 := cell_regrown y5
      go_upto_region 6 with fail
      refine wp_region_quiet_below (by kernel_rfl) (by kernel_rfl) ?_
      repeat (go_big_quiet_step ((first | (go_at_call 24; with_reducible exact Calls.regrown_of (EQ.out _ (below_regrown _ _ _))))))
      refine wpQuiet_nil ?_
      intro _ hw'
      obtain ⟨⟨dq, osq⟩, hw''⟩ := hw'
      subst hw''
      replace S := S.call (below_regrown _ dq osq)
      generalize grow (redrawn _ dq) osq = w6 at *
      clear x0 x1 x2 x3 x4 x5 y0 y1 y2 y3 y4 y5 EQ
      go_wp2_with fail
      go_round
      case rel => exact ⟨i + 1, by go_num, by omega, S⟩
      case measure => simp [intOf]; omega
    · obtain rfl : i = n := by omega
      go_wp2_with fail
      go_ret
      exact ⟨rfl, S.b⟩

end Go.Proofs.Ytkmpmgojgidcgaa

namespace Go.Proofs.Ytkmpmgojgidcgaa
set_option linter.unusedVariables false
open Go.RowKit Go.Maps Go.Sort

theorem tickH_zero {h : Hd} (h1 : 1 ≤ h.l) : tickH 0 h = (some h, false) := by
  unfold tickH
  by_cases ha : h.x.a < 3600
  · rw [if_pos ha, if_pos (by omega)]; simp
  · rw [if_neg ha, if_neg (by omega)]; simp
theorem tickN_zero {N : Db} (h : DbOk N) : tickN 0 N = N := by
  funext i
  unfold tickN
  cases hN : N i with
  | none => rfl
  | some x => simp only; rw [tickH_zero (h i x hN).2.2.1]
theorem tickL_zero {N : Db} (h : DbOk N) : tickL 0 N = [] := by
  unfold tickL
  rw [List.filter_eq_nil_iff]
  intro i hi
  unfold expH
  cases hN : N i.toNat with
  | none => simp
  | some x => simp only; rw [tickH_zero (h _ x hN).2.2.1]; simp

set_option maxRecDepth 100000 in
set_option maxHeartbeats 1600000 in
theorem dtick_all (w : World) (g b : Nat) (N : Db) (n : Int) (h : DbAt w g b N) (hok : DbOk N) (hN : ∀ i, 64 ≤ i → N i = none) (hn : n ≤ 1000000) (m : Nat) (hm : m = n.toNat) :
    Calls Try.prog 32 #[.pointer (some ⟨g, 0, none⟩), .int .i64 n] w (DTickPost w g b N (m : Int)) := by
  by_cases h0 : 0 < n
  · rw [hm, Int.toNat_of_nonneg (by omega)]
    exact dtick_any w g b N n h hok hN h0 hn
  · have hp : Hid (DTickPost w g b N (m : Int) (.returned (.slice none 0 0)) w) := by
      have e : m = 0 := by omega
      show DTickPost _ _ _ _ _ _ _
      rw [e]
      refine ⟨_, rfl, ?_, ?_, (below_row (Below.refl _ _) _)⟩
      · show World.ownsRow _ _ _ _ _ _ _
        rw [show ((0 : Nat) : Int) = 0 from rfl, tickL_zero hok]
        exact World.ownsRow_nil _ _ _ _
      · rw [show ((0 : Nat) : Int) = 0 from rfl, tickN_zero hok]; exact h
    have hd : decide (n ≤ 0) = true := by simp; omega
    clear h hok hN hm
    go_enter Try.func32, Try.ntmps32
    go_wp2_with fail
    go_ret
    exact hp.out

theorem DbAt.drew {w : World} {g b : Nat} {N : Db} (h : DbAt w g b N) : DbAt w.drew g b N := h.below ⟨rfl, rfl, rfl, Nat.le_refl _, fun _ _ => rfl⟩
theorem resR3 {fn : Func} {a p u : Tmp} (h : fn.results = #[.tmp a, .cell p 46, .tmp u]) {tmps : Array Value} {w : World} {g : Nat} {R : Nat → Rs} (hb : Box w g (rdC R)) (hp : tmps.getD p undef = .pointer (some ⟨g, 0, none⟩)) {v1 v2 : Value} (h1 : tmps.getD a undef = v1) (h2 : tmps.getD u undef = v2) :
    (results fn tmps).run Try.prog w = .ok (.tuple #[v1, .agg (rdC R).toArray, v2]) w := by
  subst h1 h2
  have hp' : tmps[p]?.getD undef = .pointer (some ⟨g, 0, none⟩) := by simpa using hp
  simp [results, h, hp', asAddr, run_loadR hb]
/-- What holds before each step. -/
structure PlAt (w wr : World) (g b g6 g3 : Nat) (R : Nat → Rs) (A : Option Addr) (l : List Sx) : Prop where
  db : DbAt wr g b (dbOf R)
  rd : RdOk w R
  ok : DbOk (dbOf R)
  st : St w wr [(g6, rdC R), (g3, rdC (fun _ => rsZ))] [(A, sxV l)]
  ty6 : ∃ cs, wr.heap[g6]? = some (.cells cs 46 (0, 0))
  ty3 : ∃ cs, wr.heap[g3]? = some (.cells cs 46 (0, 0))
  n6 : g6 ≠ b
  n3 : g3 ≠ b
  n63 : g3 ≠ g6
  n6g : g6 ≠ g
  n3g : g3 ≠ g
  l3 : w.heap.size ≤ g3
  l6 : w.heap.size ≤ g6
  lb : w.heap.size ≤ b
section
variable {w wr w' : World} {g b g6 g3 : Nat} {R R' : Nat → Rs} {A : Option Addr} {l : List Sx}
theorem ty_below {k : Nat} {t : TypeId} (h : ∃ cs, wr.heap[k]? = some (.cells cs t (0, 0))) (hb : Below wr.heap.size wr w') : ∃ cs, w'.heap[k]? = some (.cells cs t (0, 0)) := by
  obtain ⟨cs, e⟩ := h
  exact ⟨cs, (hb.block _ (heap_lt e)).trans e⟩
theorem ty_row {k m : Nat} {t : TypeId} (h : ∃ cs, wr.heap[k]? = some (.cells cs t (0, 0))) (hg : wr.grownBy w' (some m)) (hne : k ≠ m) : ∃ cs, w'.heap[k]? = some (.cells cs t (0, 0)) := by
  obtain ⟨cs, e⟩ := h
  exact ⟨cs, (hg.block _ (heap_lt e) (fun e2 => by injection e2 with e2; exact hne e2)).trans e⟩
theorem PlAt.below (h : PlAt w wr g b g6 g3 R A l) (hb : Below wr.heap.size wr w') : PlAt w w' g b g6 g3 R A l :=
  ⟨h.db.below hb, h.rd, h.ok, h.st.call hb, ty_below h.ty6 hb, ty_below h.ty3 hb, h.n6, h.n3, h.n63, h.n6g, h.n3g, h.l3, h.l6, h.lb⟩
/-- Behind the program's step: the database alone has turned. -/
structure PlMid (w wr : World) (g b g6 g3 : Nat) (R : Nat → Rs) (N : Db) (A : Option Addr) (l : List Sx) : Prop where
  db : DbAt wr g b N
  rd : RdOk w R
  ok : DbOk N
  st : St w wr [(g6, rdC R), (g3, rdC (fun _ => rsZ))] [(A, sxV l)]
  ty6 : ∃ cs, wr.heap[g6]? = some (.cells cs 46 (0, 0))
  ty3 : ∃ cs, wr.heap[g3]? = some (.cells cs 46 (0, 0))
  n6 : g6 ≠ b
  n3 : g3 ≠ b
  n63 : g3 ≠ g6
  n6g : g6 ≠ g
  n3g : g3 ≠ g
  l3 : w.heap.size ≤ g3
  l6 : w.heap.size ≤ g6
  lb : w.heap.size ≤ b
theorem PlMid.below {N : Db} (h : PlMid w wr g b g6 g3 R N A l) (hb : Below wr.heap.size wr w') : PlMid w w' g b g6 g3 R N A l :=
  ⟨h.db.below hb, h.rd, h.ok, h.st.call hb, ty_below h.ty6 hb, ty_below h.ty3 hb, h.n6, h.n3, h.n63, h.n6g, h.n3g, h.l3, h.l6, h.lb⟩
theorem PlAt.turn {N : Db} (h : PlAt w wr g b g6 g3 R A l) (hd : DbAt w' g b N) (hN : DbOk N) (hg : wr.grownBy w' (some b)) : PlMid w w' g b g6 g3 R N A l :=
  ⟨hd, h.rd, hN, h.st.via hg h.lb (by
    intro q hq
    simp only [List.mem_cons, List.not_mem_nil, or_false] at hq
    rcases hq with rfl | rfl
    · exact ⟨h.n6, by rw [rdC_len]; omega⟩
    · exact ⟨h.n3, by rw [rdC_len]; omega⟩), ty_row h.ty6 hg h.n6, ty_row h.ty3 hg h.n3, h.n6, h.n3, h.n63, h.n6g, h.n3g, h.l3, h.l6, h.lb⟩
/-- .. the reference's has turned too. -/
theorem PlMid.done (h : PlMid w wr g b g6 g3 R (dbOf R') A l) (hR : RdOk w R') : PlAt w (wr.setCells g6 0 (rdC R')) g b g6 g3 R' A l :=
  ⟨h.db.keptOff (setCells_grown _ _ _ _) h.ty6 (by decide) (by decide) h.n6g, hR, h.ok, h.st.setAllR 0 R' rfl h.l6 (by
    intro q hq
    simp only [List.eraseIdx_zero, List.tail_cons, List.mem_cons, List.not_mem_nil, or_false] at hq
    rw [hq]; exact h.n63) _ rfl, setCells_ty _ _ _ _ _ h.ty6, ty_row h.ty3 (setCells_grown _ _ _ _) h.n63, h.n6, h.n3, h.n63, h.n6g, h.n3g, h.l3, h.l6, h.lb⟩
end
def PlayPost (w : World) (e : Ending) (w' : World) : Prop :=
  ∃ g b R, e = .returned (.tuple #[.pointer (some ⟨g, 0, none⟩), .agg (rdC R).toArray, .bool true]) ∧ DbAt w' g b (dbOf R) ∧ RdOk w R ∧ DbOk (dbOf R) ∧ w.heap.size ≤ b ∧ Below w.heap.size w w'
theorem below_drewW {w w' : World} (h : Below w.drew.heap.size w.drew w') : Below w.heap.size w w' := ⟨h.os, h.tape, h.output, h.size, h.block⟩

set_option maxRecDepth 100000 in
set_option maxHeartbeats 12800000 in
theorem play_any (w : World) (A : Option Addr) (n c : Nat) (l : List Sx) (hA : Rd w A (sxV l)) (hn : l.length = n) (hsm : Small33 l) (hok : ∀ s ∈ l, LxOk w s.x ∧ (Lit.int .i64 s.t).wf = true) :
    Calls Try.prog 19 #[.slice A n c] w (PlayPost w) := by
  have S := ((St.start w).read hA).new' Try.zeroCells46 46 w.heap.size (rdC (fun _ => rsZ)) rfl (by rw [← rdC_zero])
  have hn12 : n ≤ 12 := by rw [← hn]; exact hsm.len
  replace hok := Lib.hid hok
  replace hn := Lib.hid hn
  replace hsm := Lib.hid hsm
  clear hA
  go_enter Try.func19, Try.ntmps19
  go_upto_region 1 with fail
  obtain ⟨w0, hw0⟩ : ∃ z, w.alloc (.cells Try.zeroCells46 46) = z := ⟨_, rfl⟩
  rw [hw0] at S ⊢
  have hs0 := S.b.size
  have hs00 := S.lt 0 rfl (by rw [rdC_len]; omega)
  go_wp2_with fail
  (with_reducible refine (dnew_any _).mono ?_)
  rintro e w1 ⟨rfl, dat, hb⟩
  replace S := S.call hb
  have hlt := dat.lt
  have ht3 : ∃ cs, w1.heap[w.heap.size]? = some (.cells cs 46 (0, 0)) := ty_below ⟨_, by rw [← hw0]; exact heap_alloc_new w _⟩ hb
  clear hb
  generalize hgb : w0.heap.size = b at *
  clear hgb
  have S2 := S.new' Try.zeroCells46 46 w1.heap.size (rdC (fun _ => rsZ)) rfl (by rw [← rdC_zero])
  have hP : PlAt w (w1.alloc (.cells Try.zeroCells46 46)) (b + 1) b w1.heap.size w.heap.size (fun _ => rsZ) A l :=
    ⟨by rw [dbOf_zero]; exact dat.below (below_new' _ _), rsZ_ok _, by rw [dbOf_zero]; exact (fun i h e => nomatch e), S2, ⟨_, heap_alloc_new w1 _⟩, ty_below ht3 (below_new' _ _), by omega, by omega, by omega, by omega, by omega, Nat.le_refl _, by omega, by omega⟩
  clear S2 S dat
  generalize b + 1 = g at *
  go_upto_region 3 with fail
  generalize World.alloc w1 _ = w2 at *
  generalize w1.heap.size = g6 at *
  replace hP := Lib.hid hP
  clear hlt hs00 hs0 hw0 ht3
  go_wp2_with fail
  go_loopw [7] (fun v7 wr => ∃ (k : Nat) (R : Nat → Rs), v7 = .int .i64 k ∧ k ≤ n ∧ Hid (PlAt w wr g b g6 w.heap.size R A l)) (fun v7 _ => n - (intOf v7).toNat)
  case atStart => exact ⟨0, _, rfl, by omega, hP⟩
  case round =>
    clear hP
    obtain ⟨k, R, rfl, hk, hP⟩ := hrel
    by_cases hkn : k < n
    · have hkl : k < l.length := by rw [hn.out]; exact hkn
      have P := hP.out
      clear hP
      obtain ⟨ba, off, rfl⟩ := sx_form (P.st.r 0 rfl) (by omega)
      obtain ⟨hso, hwt⟩ := hok.out l[k] (List.getElem_mem hkl)
      have ht4 := (hsm.out.few l[k] (List.getElem_mem hkl)).2
      obtain ⟨s, hs⟩ : ∃ s, l[k] = s := ⟨_, rfl⟩
      rw [hs] at hso hwt ht4
      have hcell := fun W (h : Rd W (some ⟨ba, off, none⟩) (sxV l)) => sx_cells h k hkl s hs
      clear hs hkl
      obtain ⟨⟨y, A2, c2, B2, d2⟩, t⟩ := s
      unfold LxOk at hso
      simp only at hso hcell hwt ht4
      have htb := bounds_i64 hwt
      replace hcell := Lib.hid hcell
      obtain ⟨x0, x1, x2, x3, x4, x5, x6⟩ := hcell.out _ (P.st.r 0 rfl)
      by_cases ht0 : t = 0
      · subst ht0
        obtain ⟨vb, hvb⟩ : ∃ z, vB y = z := ⟨_, rfl⟩
        have I := dinstall_any wr g b (dbOf R) _ y P.db (hso.below P.st.b)
        have V := fun W hb => rvalid_at W _ y (hso.below hb)
        have hnok := inst_ok P.ok (a := y) (fun h => vB_iff.1 h)
        unfold InstPost at I
        rw [hvb] at V
        obtain ⟨ie, hie⟩ : ∃ z, instE y = z := ⟨_, rfl⟩
        obtain ⟨ir, hir⟩ : ∃ z, instR (dbOf R) y = z := ⟨_, rfl⟩
        rw [hie, hir] at I
        have hie2 : ie = if vb = true then 0 else 1 := by rw [← hie]; unfold instE; rw [hvb]
        replace hie2 := Lib.hid hie2
        replace hir := Lib.hid hir
        replace hvb := Lib.hid hvb
        replace I := Lib.hid I
        replace V := Lib.hid V
        replace P := Lib.hid P
        clear hie
        go_wp2_with fail
        (with_reducible refine (I.out).mono ?_)
        rintro e w3 ⟨rfl, dat, hg⟩
        clear x0 x1 x2 x3 x4 x5 x6 I
        have P3 := P.out.turn dat hnok hg
        have hPR := P.out.rd
        clear dat hg hnok P
        obtain ⟨x0, x1, x2, x3, x4, x5, x6⟩ := hcell.out _ (P3.st.r 0 rfl)
        clear x6
        replace hPR := Lib.hid hPR
        have V3 := V.out _ P3.st.b
        replace V3 := Lib.hid V3
        clear V
        replace P3 := Lib.hid P3
        go_wp2_with fail
        (with_reducible refine (V3.out).mono ?_)
        rintro e w4 ⟨rfl, hb⟩
        clear x0 x1 x2 x3 x4 x5 V3
        replace P3 := P3.out.below hb
        clear hb
        cases vb with
        | false =>
          have e1 : ie = 1 := by rw [hie2.out]; rfl
          subst e1
          have e2 : ir = 0 := by rw [← hir.out]; unfold instR; rw [hvb.out, if_neg (by simp)]
          subst e2
          have eN : instN (dbOf R) y = dbOf R := by unfold instN; rw [hvb.out, if_neg (by simp)]
          rw [eN] at P3
          have P5 : Hid (PlAt w w4 g b g6 w.heap.size R (some ⟨ba, off, none⟩) l) := ⟨P3.db, P3.rd, P3.ok, P3.st, P3.ty6, P3.ty3, P3.n6, P3.n3, P3.n63, P3.n6g, P3.n3g, P3.l3, P3.l6, P3.lb⟩
          clear P3 eN hir hie2 hvb
          go_wp2_with fail
          go_round
          case rel => exact ⟨k + 1, R, by go_num, by omega, P5⟩
          case measure => simp [intOf]; omega
        | true =>
          have e1 : ie = 0 := by rw [hie2.out]; rfl
          subst e1
          have hva := vB_iff.1 hvb.out
          have RI := fun W (hr : RdOk W R) (hl : LaAt W (laV y.o y.s y.a y.ov A2 y.adj.length c2 B2 y.pre.length d2) y) => rinstall_any W R _ y hr hl hva
          unfold RInstPost at RI
          rw [hir.out] at RI
          replace RI := Lib.hid RI
          obtain ⟨x0, x1, x2, x3, x4, x5, x6⟩ := hcell.out _ (P3.st.r 0 rfl)
          clear x6
          go_upto_region 17 with fail
          have hbx := P3.st.box 0 rfl
          have hbxd : Box w4.drew g6 (rdC R) := hbx.drew
          have R3d : RdOk w4.drew R := (P3.rd.below P3.st.b).below ⟨rfl, rfl, rfl, Nat.le_refl _, fun _ _ => rfl⟩
          have h3d : LaAt w4.drew (laV y.o y.s y.a y.ov A2 y.adj.length c2 B2 y.pre.length d2) y := (hso.below P3.st.b).below ⟨rfl, rfl, rfl, Nat.le_refl _, fun _ _ => rfl⟩
          replace R3d := Lib.hid R3d
          replace h3d := Lib.hid h3d
          replace hbx := Lib.hid hbx
          replace P3 := Lib.hid P3
          have hX : w4.drew.cell? ⟨ba, off + k * 7, none⟩ = some (.int .i64 y.o) ∧ w4.drew.cell? ⟨ba, off + k * 7 + 1, none⟩ = some (.int .i64 y.s) ∧ w4.drew.cell? ⟨ba, off + k * 7 + 2, none⟩ = some (.int .i64 y.a) ∧ w4.drew.cell? ⟨ba, off + k * 7 + 3, none⟩ = some (.bool y.ov) ∧ w4.drew.cell? ⟨ba, off + k * 7 + 4, none⟩ = some (.slice A2 y.adj.length c2) ∧ w4.drew.cell? ⟨ba, off + k * 7 + 5, none⟩ = some (.slice B2 y.pre.length d2) := ⟨x0, x1, x2, x3, x4, x5⟩
          clear x0 x1 x2 x3 x4 x5
          refine wp_region_noPanic ?_
          refine wp_region_held_drew (S := fun w' => w'.cell? ⟨ba, off + k * 7, none⟩ = some (.int .i64 y.o) ∧ w'.cell? ⟨ba, off + k * 7 + 1, none⟩ = some (.int .i64 y.s) ∧ w'.cell? ⟨ba, off + k * 7 + 2, none⟩ = some (.int .i64 y.a) ∧ w'.cell? ⟨ba, off + k * 7 + 3, none⟩ = some (.bool y.ov) ∧ w'.cell? ⟨ba, off + k * 7 + 4, none⟩ = some (.slice A2 y.adj.length c2) ∧ w'.cell? ⟨ba, off + k * 7 + 5, none⟩ = some (.slice B2 y.pre.length d2)) (by kernel_rfl) hX (fun hHeld => ?_)
          refine take_first (i := 1) (v := .slice (some ⟨ba, off, none⟩) n c) (some 76) rfl rfl (by kernel_rfl) (by kernel_rfl) (by kernel_rfl) (fun _ _ _ h => h) (Or.inl ⟨by rfl, fun _ _ => rfl⟩) (by assumption) ?_
          (try simp only [Act.put]); (try simp only [List.setIfInBounds_toArray]); (try simp only [List.set_cons_succ]); (try simp only [List.set_cons_zero])
          refine take_first (i := 2) (v := .int .i64 k) (some 77) rfl rfl (by kernel_rfl) (by kernel_rfl) (by kernel_rfl) (fun _ _ _ h => h) (Or.inl ⟨by rfl, fun _ _ => rfl⟩) (by assumption) ?_
          (try simp only [Act.put]); (try simp only [List.setIfInBounds_toArray]); (try simp only [List.set_cons_succ]); (try simp only [List.set_cons_zero])
          refine take_first (i := 3) (v := ?_) (some 78) rfl rfl (by kernel_rfl) (by kernel_rfl) (by kernel_rfl) (fun _ _ _ h => h) (Or.inl ⟨by rfl, ?_⟩) (by assumption) ?_
          rotate_left
          · intro w hSw; (try dsimp only at hSw); go_simp; (try with_reducible rfl)
          (try simp only [Act.put]); (try simp only [List.setIfInBounds_toArray]); (try simp only [List.set_cons_succ]); (try simp only [List.set_cons_zero])
          refine take_first (i := 4) (v := ?_) (some 79) rfl rfl (by kernel_rfl) (by kernel_rfl) (by kernel_rfl) (fun _ _ _ h => h) (Or.inl ⟨by rfl, ?_⟩) (by assumption) ?_
          rotate_left
          · intro w hSw; (try dsimp only at hSw); go_simp; (try with_reducible rfl)
          (try simp only [Act.put]); (try simp only [List.setIfInBounds_toArray]); (try simp only [List.set_cons_succ]); (try simp only [List.set_cons_zero])
          refine take_first (i := 5) (v := ?_) (some 80) rfl rfl (by kernel_rfl) (by kernel_rfl) (by kernel_rfl) (fun _ _ _ h => h) (Or.inl ⟨by rfl, ?_⟩) (by assumption) ?_
          rotate_left
          · intro w hSw; (try dsimp only at hSw); go_simp; (try with_reducible rfl)
          (try simp only [Act.put]); (try simp only [List.setIfInBounds_toArray]); (try simp only [List.set_cons_succ]); (try simp only [List.set_cons_zero])
          refine ready_loadR (i := 0) (by kernel_rfl) rfl (.tmp 6) (some 75) rfl rfl rfl rfl hbxd hHeld ?_
          (try simp only [Act.put]); (try simp only [List.setIfInBounds_toArray]); (try simp only [List.set_cons_succ]); (try simp only [List.set_cons_zero])
          refine wpAnyH_ready (rs := [6]) (by kernel_rfl) (by simp) ?_
          refine AllReadyH.cons rfl (fun K hK => ?_) AllReadyH.nil
          go_simp
          (with_reducible refine (RI.out w4.drew R3d.out h3d.out).mono ?_)
          rintro e wa ⟨R', rfl, hRk, hdb, hba⟩
          dsimp only
          have hbxa := hbx.out.drew.later hba
          have P4 := P3.out.below (below_drewW hba)
          have hR' := hRk w hPR.out hso
          rw [← hdb] at P4
          have P5 := P4.done hR'
          have q4 := hcell.out _ (P4.st.r 0 rfl)
          have q5 := hcell.out _ (P5.st.r 0 rfl)
          have hXa := (⟨q4.1, q4.2.1, q4.2.2.1, q4.2.2.2.1, q4.2.2.2.2.1, q4.2.2.2.2.2.1⟩ : wa.cell? ⟨ba, off + k * 7, none⟩ = some (.int .i64 y.o) ∧ wa.cell? ⟨ba, off + k * 7 + 1, none⟩ = some (.int .i64 y.s) ∧ wa.cell? ⟨ba, off + k * 7 + 2, none⟩ = some (.int .i64 y.a) ∧ wa.cell? ⟨ba, off + k * 7 + 3, none⟩ = some (.bool y.ov) ∧ wa.cell? ⟨ba, off + k * 7 + 4, none⟩ = some (.slice A2 y.adj.length c2) ∧ wa.cell? ⟨ba, off + k * 7 + 5, none⟩ = some (.slice B2 y.pre.length d2))
          have hXb : ((wa.setCells g6 0 (rdC R')).cell? ⟨ba, off + k * 7, none⟩ = some (.int .i64 y.o) ∧ (wa.setCells g6 0 (rdC R')).cell? ⟨ba, off + k * 7 + 1, none⟩ = some (.int .i64 y.s) ∧ (wa.setCells g6 0 (rdC R')).cell? ⟨ba, off + k * 7 + 2, none⟩ = some (.int .i64 y.a) ∧ (wa.setCells g6 0 (rdC R')).cell? ⟨ba, off + k * 7 + 3, none⟩ = some (.bool y.ov) ∧ (wa.setCells g6 0 (rdC R')).cell? ⟨ba, off + k * 7 + 4, none⟩ = some (.slice A2 y.adj.length c2) ∧ (wa.setCells g6 0 (rdC R')).cell? ⟨ba, off + k * 7 + 5, none⟩ = some (.slice B2 y.pre.length d2)) := ⟨q5.1, q5.2.1, q5.2.2.1, q5.2.2.2.1, q5.2.2.2.2.1, q5.2.2.2.2.2.1⟩
          refine hK.out _ _ hXa (fun hHeld => ?_)
          clear hK K q4 q5
          replace P5 := Lib.hid P5
          clear P4 hdb hRk hR'
          refine take_first (i := 7) (v := .tuple #[.agg (rdC R').toArray, .int .i64 ir]) (some 74) rfl rfl (by kernel_rfl) (by kernel_rfl) (by kernel_rfl) (fun _ _ _ h => h) (Or.inl ⟨by rfl, fun _ _ => rfl⟩) (by assumption) ?_
          (try simp only [Act.put]); (try simp only [List.setIfInBounds_toArray]); (try simp only [List.set_cons_succ]); (try simp only [List.set_cons_zero])
          refine take_first (i := 8) (v := .agg (rdC R').toArray) (some 82) rfl rfl (by kernel_rfl) (by kernel_rfl) (by kernel_rfl) (fun _ _ _ h => h) (Or.inl ⟨by rfl, fun _ _ => rfl⟩) (by assumption) ?_
          (try simp only [Act.put]); (try simp only [List.setIfInBounds_toArray]); (try simp only [List.set_cons_succ]); (try simp only [List.set_cons_zero])
          refine take_first (i := 9) (v := .int .i64 ir) (some 83) rfl rfl (by kernel_rfl) (by kernel_rfl) (by kernel_rfl) (fun _ _ _ h => h) (Or.inl ⟨by rfl, fun _ _ => rfl⟩) (by assumption) ?_
          (try simp only [Act.put]); (try simp only [List.setIfInBounds_toArray]); (try simp only [List.set_cons_succ]); (try simp only [List.set_cons_zero])
          refine ready_storeR (i := 10) (by kernel_rfl) rfl (.tmp 6) (.tmp 82) none rfl rfl rfl rfl rfl hbxa hXb ?_
          clear hHeld hXa hX
          (try simp only [Act.put]); (try simp only [List.setIfInBounds_toArray]); (try simp only [List.set_cons_succ]); (try simp only [List.set_cons_zero])
          refine take_first (i := 11) (v := .int .i64 ir) (some 12) rfl rfl (by kernel_rfl) (by kernel_rfl) (by kernel_rfl) (fun _ _ _ h => h) (Or.inl ⟨by rfl, fun _ _ => rfl⟩) (by assumption) ?_
          (try simp only [Act.put]); (try simp only [List.setIfInBounds_toArray]); (try simp only [List.set_cons_succ]); (try simp only [List.set_cons_zero])
          refine wpAnyH_done (by kernel_rfl) ?_ _
          refine NoPanic.normal ?_
          generalize World.setCells _ _ _ _ = w5 at *
          have e9 : (ir != ir) = false := by simp
          clear hXb hbxa hbxd hba hir hie2
          go_wp2_with fail
          go_round
          case rel => exact ⟨k + 1, R', by go_num, by omega, P5⟩
          case measure => simp [intOf]; omega
      · have e0 : (t != 0) = true := by simp [ht0]
        obtain ⟨m, hm⟩ : ∃ m, m = t.toNat := ⟨_, rfl⟩
        have TD := dtick_all wr g b (dbOf R) t P.db P.ok (dbOf_small R) (by omega) m hm
        unfold DTickPost at TD
        have hdb := (rtN_db P.ok m).1
        have RT := fun W (hr : RdOk W R) => rticks_any W R hr P.ok t m hm (by omega)
        unfold RTicksPost at RT
        have hl64 : (tickL (m : Int) (dbOf R)).length ≤ 64 := by unfold tickL; exact Nat.le_trans (List.length_filter_le _ _) (orgs_len _)
        generalize tickL (m : Int) (dbOf R) = L at *
        generalize hLn : L.length = ln at *
        replace TD := Lib.hid TD
        replace RT := Lib.hid RT
        replace hdb := Lib.hid hdb
        replace hLn := Lib.hid hLn
        replace hm := Lib.hid hm
        have hgr6 : g6 < wr.heap.size := P.st.lt 0 rfl (by rw [rdC_len]; omega)
        replace P := Lib.hid P
        go_wp2_with fail
        (with_reducible refine (TD.out).mono ?_)
        rintro e w3 ⟨v3, rfl, o3, dat, hg⟩
        clear x0 x1 x2 x3 x4 x5 x6 TD e0
        obtain ⟨A3, c3, rfl, -⟩ := own_rd o3
        have P3 := P.out.turn dat (tick_ok P.out.ok (by omega)) hg
        rw [← hdb.out] at P3
        have hR' := RdOk.ticks P.out.rd m
        clear dat hg P
        obtain ⟨x0, x1, x2, x3, x4, x5, x6⟩ := hcell.out _ (P3.st.r 0 rfl)
        clear x0 x1 x2 x3 x4 x5
        go_upto_region 9 with fail
        have hbx := P3.st.box 0 rfl
        have hbxd : Box w3.drew g6 (rdC R) := hbx.drew
        have R3d : RdOk w3.drew R := (P3.rd.below P3.st.b).below ⟨rfl, rfl, rfl, Nat.le_refl _, fun _ _ => rfl⟩
        have hg3 : g6 < w3.heap.size := P3.st.lt 0 rfl (by rw [rdC_len]; omega)
        replace R3d := Lib.hid R3d
        replace hbx := Lib.hid hbx
        replace P3 := Lib.hid P3
        replace hR' := Lib.hid hR'
        replace o3 := Lib.hid o3
        refine wp_region_noPanic ?_
        refine wp_region_held_drew (S := fun w' => w'.cell? ⟨ba, off + k * 7 + 6, none⟩ = some (.int .i64 t)) (by kernel_rfl) x6 (fun hHeld => ?_)
        refine take_first (i := 1) (v := .slice (some ⟨ba, off, none⟩) n c) (some 35) rfl rfl (by kernel_rfl) (by kernel_rfl) (by kernel_rfl) (fun _ _ _ h => h) (Or.inl ⟨by rfl, fun _ _ => rfl⟩) (by assumption) ?_
        (try simp only [Act.put]); (try simp only [List.setIfInBounds_toArray]); (try simp only [List.set_cons_succ]); (try simp only [List.set_cons_zero])
        refine take_first (i := 2) (v := .int .i64 k) (some 36) rfl rfl (by kernel_rfl) (by kernel_rfl) (by kernel_rfl) (fun _ _ _ h => h) (Or.inl ⟨by rfl, fun _ _ => rfl⟩) (by assumption) ?_
        (try simp only [Act.put]); (try simp only [List.setIfInBounds_toArray]); (try simp only [List.set_cons_succ]); (try simp only [List.set_cons_zero])
        refine take_first (i := 3) (v := ?_) (some 37) rfl rfl (by kernel_rfl) (by kernel_rfl) (by kernel_rfl) (fun _ _ _ h => h) (Or.inl ⟨by rfl, ?_⟩) (by assumption) ?_
        rotate_left
        · intro w hSw; (try dsimp only at hSw); go_simp; (try with_reducible rfl)
        (try simp only [Act.put]); (try simp only [List.setIfInBounds_toArray]); (try simp only [List.set_cons_succ]); (try simp only [List.set_cons_zero])
        refine take_first (i := 4) (v := ?_) (some 38) rfl rfl (by kernel_rfl) (by kernel_rfl) (by kernel_rfl) (fun _ _ _ h => h) (Or.inl ⟨by rfl, ?_⟩) (by assumption) ?_
        rotate_left
        · intro w hSw; (try dsimp only at hSw); go_simp; (try with_reducible rfl)
        (try simp only [Act.put]); (try simp only [List.setIfInBounds_toArray]); (try simp only [List.set_cons_succ]); (try simp only [List.set_cons_zero])
        refine take_first (i := 5) (v := ?_) (some 39) rfl rfl (by kernel_rfl) (by kernel_rfl) (by kernel_rfl) (fun _ _ _ h => h) (Or.inl ⟨by rfl, ?_⟩) (by assumption) ?_
        rotate_left
        · intro w hSw; (try dsimp only at hSw); go_simp; (try with_reducible rfl)
        (try simp only [Act.put]); (try simp only [List.setIfInBounds_toArray]); (try simp only [List.set_cons_succ]); (try simp only [List.set_cons_zero])
        refine ready_loadR (i := 0) (by kernel_rfl) rfl (.tmp 6) (some 34) rfl rfl rfl rfl hbxd hHeld ?_
        (try simp only [Act.put]); (try simp only [List.setIfInBounds_toArray]); (try simp only [List.set_cons_succ]); (try simp only [List.set_cons_zero])
        refine wpAnyH_ready (rs := [6]) (by kernel_rfl) (by simp) ?_
        refine AllReadyH.cons rfl (fun K hK => ?_) AllReadyH.nil
        go_simp
        (with_reducible refine (RT.out w3.drew R3d.out).mono ?_)
        rintro e wa ⟨A4, c4, rfl, o4, hba⟩
        dsimp only
        have x6a := cell_later hba hHeld
        have hbxa := hbx.out.drew.later hba
        have P4 := P3.out.below (below_drewW hba)
        have P5 := P4.done hR'.out
        have o3' := own_below o3.out (below_drewW hba)
        refine hK.out _ _ x6a (fun hHeld => ?_)
        clear hK K
        refine take_first (i := 7) (v := .tuple #[.agg (rdC fun i => rtN m (R i)).toArray, .slice A4 ln c4]) (some 33) rfl rfl (by kernel_rfl) (by kernel_rfl) (by kernel_rfl) (fun _ _ _ h => h) (Or.inl ⟨by rfl, fun _ _ => rfl⟩) (by assumption) ?_
        (try simp only [Act.put]); (try simp only [List.setIfInBounds_toArray]); (try simp only [List.set_cons_succ]); (try simp only [List.set_cons_zero])
        refine take_first (i := 8) (v := .agg (rdC fun i => rtN m (R i)).toArray) (some 41) rfl rfl (by kernel_rfl) (by kernel_rfl) (by kernel_rfl) (fun _ _ _ h => h) (Or.inl ⟨by rfl, fun _ _ => rfl⟩) (by assumption) ?_
        (try simp only [Act.put]); (try simp only [List.setIfInBounds_toArray]); (try simp only [List.set_cons_succ]); (try simp only [List.set_cons_zero])
        refine take_first (i := 9) (v := .slice A4 ln c4) (some 42) rfl rfl (by kernel_rfl) (by kernel_rfl) (by kernel_rfl) (fun _ _ _ h => h) (Or.inl ⟨by rfl, fun _ _ => rfl⟩) (by assumption) ?_
        (try simp only [Act.put]); (try simp only [List.setIfInBounds_toArray]); (try simp only [List.set_cons_succ]); (try simp only [List.set_cons_zero])
        have x6s : (wa.setCells g6 0 (rdC (fun i => rtN m (R i)))).cell? ⟨ba, off + k * 7 + 6, none⟩ = some (.int .i64 t) := (hcell.out _ (P5.st.r 0 rfl)).2.2.2.2.2.2
        have oA := own_slice (own_farAll g6 (fun b e => by have := (o3'.lt b e).1; omega) (rdC (fun i => rtN m (R i))) 0 wa o3')
        have oB := own_slice (own_farAll g6 (fun b e => by have := (o4.lt b e).1; have h9 : w3.drew.heap.size = w3.heap.size := rfl; omega) (rdC (fun i => rtN m (R i))) 0 wa o4)
        replace P5 := Lib.hid P5
        refine ready_storeR (i := 10) (by kernel_rfl) rfl (.tmp 6) (.tmp 41) none rfl rfl rfl rfl rfl hbxa x6s ?_
        clear hHeld x6a
        (try simp only [Act.put]); (try simp only [List.setIfInBounds_toArray]); (try simp only [List.set_cons_succ]); (try simp only [List.set_cons_zero])
        refine take_first (i := 11) (v := .slice A4 ln c4) (some 9) rfl rfl (by kernel_rfl) (by kernel_rfl) (by kernel_rfl) (fun _ _ _ h => h) (Or.inl ⟨by rfl, fun _ _ => rfl⟩) (by assumption) ?_
        (try simp only [Act.put]); (try simp only [List.setIfInBounds_toArray]); (try simp only [List.set_cons_succ]); (try simp only [List.set_cons_zero])
        refine wpAnyH_done (by kernel_rfl) ?_ _
        refine NoPanic.normal ?_
        generalize World.setCells _ _ _ _ = w5 at *
        have IT := ints_any w5 A3 A4 ln c3 c4 L oA oB hLn.out (by omega)
        replace IT := Lib.hid IT
        clear oA oB x6s hbxa hbxd P4 o3' o4 hba
        go_wp2_with fail
        (with_reducible refine (IT.out).mono ?_)
        rintro e w6 ⟨rfl, hb⟩
        replace P5 := Lib.hid (P5.out.below hb)
        go_wp2_with fail
        go_round
        case rel => exact ⟨k + 1, _, by go_num, by omega, P5⟩
        case measure => simp [intOf]; omega
    · obtain rfl : k = n := by omega
      have P := hP.out
      have hbd : DbAt (wr.drew.setCells w.heap.size 0 (rdC R)) g b (dbOf R) := P.db.drew.keptOff (setCells_grown _ _ _ _) P.ty3 (by decide) (by decide) P.n3g
      have hS := P.st.drew.setAllR 1 R rfl P.l3 (by
        intro q hq
        simp only [List.eraseIdx_cons_succ, List.eraseIdx_zero, List.tail_cons, List.mem_cons, List.not_mem_nil, or_false] at hq
        rw [hq]; exact fun e => P.n63 e.symm) _ rfl
      have hfin : Hid (PlayPost w (.returned (.tuple #[.pointer (some ⟨g, 0, none⟩), .agg (rdC R).toArray, .bool true])) (wr.drew.setCells w.heap.size 0 (rdC R))) := ⟨g, b, R, rfl, hbd, P.rd, P.ok, P.lb, hS.b⟩
      have hbx6 : Box wr.drew g6 (rdC R) := (P.st.box 0 rfl).drew
      have hbx3 : Box wr.drew w.heap.size (rdC (fun _ => rsZ)) := (P.st.box 1 rfl).drew
      have hbx9 := hS.box 1 rfl
      clear hbd hS P hP
      go_upto_region 20 with fail
      refine wp_region_noPanic ?_
      refine wp_region_held_drew (S := fun w' => True) (by kernel_rfl) trivial (fun hHeld => ?_)
      refine take_first (i := 0) (v := .pointer (some ⟨g, 0, none⟩)) (some 93) rfl rfl (by kernel_rfl) (by kernel_rfl) (by kernel_rfl) (fun _ _ _ h => h) (Or.inl ⟨by rfl, fun _ _ => rfl⟩) (by assumption) ?_
      (try simp only [Act.put]); (try simp only [List.setIfInBounds_toArray]); (try simp only [List.set_cons_succ]); (try simp only [List.set_cons_zero])
      refine take_first (i := 2) (v := .pointer (some ⟨g, 0, none⟩)) (some 2) rfl rfl (by kernel_rfl) (by kernel_rfl) (by kernel_rfl) (fun _ _ _ h => h) (Or.inl ⟨by rfl, fun _ _ => rfl⟩) (by assumption) ?_
      (try simp only [Act.put]); (try simp only [List.setIfInBounds_toArray]); (try simp only [List.set_cons_succ]); (try simp only [List.set_cons_zero])
      refine ready_loadR (i := 1) (by kernel_rfl) rfl (.tmp 6) (some 94) rfl rfl rfl rfl hbx6 trivial ?_
      (try simp only [Act.put]); (try simp only [List.setIfInBounds_toArray]); (try simp only [List.set_cons_succ]); (try simp only [List.set_cons_zero])
      refine ready_storeR (i := 3) (by kernel_rfl) rfl (.tmp 3) (.tmp 94) none rfl rfl rfl rfl rfl hbx3 trivial ?_
      (try simp only [Act.put]); (try simp only [List.setIfInBounds_toArray]); (try simp only [List.set_cons_succ]); (try simp only [List.set_cons_zero])
      refine take_first (i := 4) (v := .bool true) (some 4) rfl rfl (by kernel_rfl) (by kernel_rfl) (by kernel_rfl) (fun _ _ _ h => h) (Or.inl ⟨by rfl, fun _ _ => rfl⟩) (by assumption) ?_
      (try simp only [Act.put]); (try simp only [List.setIfInBounds_toArray]); (try simp only [List.set_cons_succ]); (try simp only [List.set_cons_zero])
      refine wpAnyH_done (by kernel_rfl) ?_ _
      refine NoPanic.normal ?_
      generalize World.setCells _ _ _ _ = w5 at *
      clear hbx6 hbx3
      go_wp2_with fail
      exact bodyPost_ret (v := .tuple #[.pointer (some ⟨g, 0, none⟩), .agg (rdC R).toArray, .bool true]) (resR3 rfl hbx9 rfl rfl rfl) rfl hfin.out

end Go.Proofs.Ytkmpmgojgidcgaa
