/-
  The statement FloodRepeats: for every input that can be read, the law returns true and leaves its arguments as they were. No condition.
-/
import Derived.Test.YtgbcnglagnlmhaaQPRepeats0
import Derived.Test.YtgbcnglagnlmhaaSame
import Derived.Test.YtgbcnglagnlmhaaLaArg
namespace Go.Proofs.Ytgbcnglagnlmhaa
set_option linter.unusedVariables false
open Go.RowKit Go.Maps Go.Sort

/-! ### Plain -/
def orgs (D : Db) : List Int := ((List.range 64).map fun (i : Nat) => (i : Int)).filter fun i => (D i.toNat).isSome
theorem orgs_mem {D : Db} (i : Int) : i ∈ orgs D ↔ (0 ≤ i ∧ i < 64) ∧ (D i.toNat).isSome = true := by
  unfold orgs
  rw [List.mem_filter, List.mem_map]
  constructor
  · rintro ⟨⟨k, hk, rfl⟩, h⟩
    exact ⟨⟨by omega, by have := List.mem_range.1 hk; omega⟩, h⟩
  · rintro ⟨⟨h0, h1⟩, h⟩
    exact ⟨⟨i.toNat, List.mem_range.2 (by omega), Int.toNat_of_nonneg h0⟩, h⟩
theorem orgs_len (D : Db) : (orgs D).length ≤ 64 := by
  unfold orgs
  refine Nat.le_trans (List.length_filter_le _ _) ?_
  simp
theorem orgs_sorted (D : Db) : (orgs D).Pairwise (· < ·) := by
  unfold orgs
  refine List.Pairwise.filter _ ?_
  rw [List.pairwise_map]
  exact List.pairwise_lt_range.imp fun h => by omega
theorem orgs_not {D : Db} {k : Nat} (hk : k < (orgs D).length) : (orgs D)[k] ∉ (orgs D).take k := fun hm => by
  obtain ⟨j, hj, e⟩ := List.getElem_of_mem hm
  have hj2 : j < k := by simp at hj; omega
  rw [List.getElem_take] at e
  have := (List.pairwise_iff_getElem.1 (orgs_sorted D)) j k (by omega) hk hj2
  omega
theorem keysL_orgs {w : World} {M : Int → Option Value} {D : Db} (he : ∀ o : Nat, o < 64 → ElAt w (M (o : Int)) (D o)) : keysL 64 M = orgs D := by
  unfold keysL orgs
  refine List.filter_congr fun i hi => ?_
  obtain ⟨k, hk, rfl⟩ := List.mem_map.1 hi
  rw [(he k (List.mem_range.1 hk)).isS, Int.toNat_natCast]
def polH (iv : Int) (h : Hd) : Hd := if 0 < h.l then h else ⟨h.x, iv⟩
def polD (iv : Int) (D : Db) : Db := fun o => (D o).map (polH iv)
def polN (iv : Int) (N : Fn) : Fn := fun i => (N i).map (polD iv)
def polJ (iv : Int) (D : Db) (j : Nat) : Db := fun o => if (o : Int) ∈ (orgs D).take j then (D o).map (polH iv) else D o
def polK (iv : Int) (N : Fn) (k : Nat) : Fn := fun i => if (i : Int) ∈ (lks N).take k then (N i).map (polD iv) else N i
def due (D : Db) (o : Int) : Option La := match D o.toNat with | some h => if 0 < h.l then none else some h.x | none => none
def sndJ (q : Int) (D : Db) (os : List Int) : List (Int × La) := os.filterMap fun o => (due D o).map fun x => (q, x)
def sndK (N : Fn) (ls : List Int) : List (Int × La) := ls.flatMap fun q => match N q.toNat with | some D => sndJ q D (orgs D) | none => []
theorem polK_zero (iv : Int) (N : Fn) : polK iv N 0 = N := by funext i; simp [polK]
theorem polK_end (iv : Int) (N : Fn) (i : Nat) (hi : i < 256) : polK iv N (lks N).length i = polN iv N i := by
  unfold polK polN
  rw [List.take_length]
  by_cases h : (i : Int) ∈ lks N
  · rw [if_pos h]
  · rw [if_neg h]
    cases hN : N i with
    | none => rfl
    | some D => exact absurd ((lks_mem (i : Int)).2 ⟨⟨by omega, by omega⟩, by rw [Int.toNat_natCast, hN]; rfl⟩) h
theorem polK_some (iv : Int) (N : Fn) (k i : Nat) : (polK iv N k i).isSome = (N i).isSome := by
  unfold polK; split <;> simp
theorem polK_at (iv : Int) (N : Fn) (k : Nat) (hk : k < (lks N).length) (q : Nat) (hq : (lks N)[k] = (q : Int)) : polK iv N k q = N q := by
  unfold polK
  rw [if_neg (by rw [← hq]; exact lks_not hk)]
theorem polK_succ (iv : Int) (N : Fn) (k : Nat) (hk : k < (lks N).length) (q : Nat) (hq : (lks N)[k] = (q : Int)) {D : Db} (hD : N q = some D) : polK iv N (k + 1) = setN (polK iv N k) q (polD iv D) := by
  funext i
  unfold polK setN
  rw [List.take_succ_eq_append_getElem hk, hq]
  by_cases e : i = q
  · subst e; simp [hD]
  · have e2 : (i : Int) ≠ (q : Int) := by omega
    simp [e, e2]
theorem sndK_succ (N : Fn) (k : Nat) (hk : k < (lks N).length) (q : Nat) (hq : (lks N)[k] = (q : Int)) {D : Db} (hD : N q = some D) : sndK N ((lks N).take (k + 1)) = sndK N ((lks N).take k) ++ sndJ (q : Int) D (orgs D) := by
  unfold sndK
  rw [List.take_succ_eq_append_getElem hk, List.flatMap_append, hq]
  simp [hD]
theorem polJ_zero (iv : Int) (D : Db) : polJ iv D 0 = D := by funext i; simp [polJ]
theorem polJ_end (iv : Int) (D : Db) (hD : ∀ o, 64 ≤ o → D o = none) : polJ iv D (orgs D).length = polD iv D := by
  funext o
  unfold polJ polD
  rw [List.take_length]
  by_cases h : (o : Int) ∈ orgs D
  · rw [if_pos h]
  · rw [if_neg h]
    cases hN : D o with
    | none => rfl
    | some x =>
      by_cases ho : 64 ≤ o
      · rw [hD o ho] at hN; cases hN
      · exact absurd ((orgs_mem (o : Int)).2 ⟨⟨by omega, by omega⟩, by rw [Int.toNat_natCast, hN]; rfl⟩) h
theorem polJ_end64 (iv : Int) (D : Db) (o : Nat) (ho : o < 64) : polJ iv D (orgs D).length o = polD iv D o := by
  unfold polJ polD
  rw [List.take_length]
  by_cases h : (o : Int) ∈ orgs D
  · rw [if_pos h]
  · rw [if_neg h]
    cases hN : D o with
    | none => rfl
    | some x => exact absurd ((orgs_mem (o : Int)).2 ⟨⟨by omega, by omega⟩, by rw [Int.toNat_natCast, hN]; rfl⟩) h
theorem polJ_at (iv : Int) (D : Db) (j : Nat) (hj : j < (orgs D).length) (o : Nat) (ho : (orgs D)[j] = (o : Int)) : polJ iv D j o = D o := by
  unfold polJ
  rw [if_neg (by rw [← ho]; exact orgs_not hj)]
theorem polJ_succ (iv : Int) (D : Db) (j : Nat) (hj : j < (orgs D).length) (o : Nat) (ho : (orgs D)[j] = (o : Int)) {h : Hd} (hD : D o = some h) : polJ iv D (j + 1) = fun i => if i = o then some (polH iv h) else polJ iv D j i := by
  funext i
  unfold polJ
  rw [List.take_succ_eq_append_getElem hj, ho]
  by_cases e : i = o
  · subst e; simp [hD]
  · have e2 : (i : Int) ≠ (o : Int) := by omega
    simp [e, e2]
theorem polJ_same (iv : Int) (D : Db) (j : Nat) (hj : j < (orgs D).length) (o : Nat) (ho : (orgs D)[j] = (o : Int)) {h : Hd} (hD : D o = some h) (hl : 0 < h.l) : polJ iv D (j + 1) = polJ iv D j := by
  rw [polJ_succ iv D j hj o ho hD]
  funext i
  by_cases e : i = o
  · subst e
    rw [if_pos rfl, polJ_at iv D j hj i ho, hD]
    unfold polH
    rw [if_pos hl]
  · rw [if_neg e]
theorem sndJ_no (q : Int) (D : Db) (j : Nat) (hj : j < (orgs D).length) (o : Nat) (ho : (orgs D)[j] = (o : Int)) {h : Hd} (hD : D o = some h) (hl : 0 < h.l) : sndJ q D ((orgs D).take (j + 1)) = sndJ q D ((orgs D).take j) := by
  unfold sndJ
  rw [List.take_succ_eq_append_getElem hj, List.filterMap_append, ho]
  have : due D (o : Int) = none := by unfold due; rw [Int.toNat_natCast, hD]; simp [hl]
  simp [this]
theorem sndJ_yes (q : Int) (D : Db) (j : Nat) (hj : j < (orgs D).length) (o : Nat) (ho : (orgs D)[j] = (o : Int)) {h : Hd} (hD : D o = some h) (hl : ¬ 0 < h.l) : sndJ q D ((orgs D).take (j + 1)) = sndJ q D ((orgs D).take j) ++ [(q, h.x)] := by
  unfold sndJ
  rw [List.take_succ_eq_append_getElem hj, List.filterMap_append, ho]
  have : due D (o : Int) = some h.x := by unfold due; rw [Int.toNat_natCast, hD]; simp [hl]
  simp [this]

/-! ### In memory -/
/-- A send as it lies in memory. -/
structure Sd where
  q : Int
  x : Lx
def sdL (s : Sd) : List Value := .int .i64 s.q :: lxL s.x
def sdV : List Sd → List Value
  | [] => []
  | s :: l => sdL s ++ sdV l
theorem sdV_len (l : List Sd) : (sdV l).length = l.length * 7 := by
  induction l with
  | nil => rfl
  | cons r l ih => simp only [sdV, sdL, lxL, List.length_append, List.length_cons, List.length_nil, ih]; omega
theorem sdV_append (a b : List Sd) : sdV (a ++ b) = sdV a ++ sdV b := by
  induction a with
  | nil => rfl
  | cons r l ih => simp only [List.cons_append, sdV, ih, List.append_assoc]
theorem sdL_one (s : Sd) : ∀ u ∈ sdL s, u.oneCell' = true := by
  intro u hu
  simp only [sdL, lxL, List.mem_cons, List.not_mem_nil, or_false] at hu
  rcases hu with rfl | rfl | rfl | rfl | rfl | rfl | rfl <;> rfl
def sdP (l : List Sd) : List (Int × La) := l.map fun s => (s.q, s.x.y)
theorem sdT : ElemT Try.prog 35 61 (.agg #[.int .i64 0, .int .i64 0, .int .i64 0, .int .i64 0, .bool false, .slice none 0 0, .slice none 0 0]) 7 88 := ⟨Try.underlying35, by kernel_rfl, rfl, by omega⟩
theorem own_rowNe {w w' : World} {base : Nat} {e : TypeId} {size : Nat} {v : Value} {n : Nat} {xs : List Value} {row : Option Nat} (h : w.ownsRow base e size v n xs) (hg : w.grownBy w' row) (hne : v.ownBlock = none ∨ v.ownBlock ≠ row) : w'.ownsRow base e size v n xs := by
  refine ⟨h.1, ?_⟩
  rcases h.2 with h2 | ⟨g, cap, cur, rfl, hgb, hh, r⟩
  · exact .inl h2
  · exact .inr ⟨g, cap, cur, rfl, hgb, (hg.block g (h.lt g rfl).2 (fun e => by
      rcases hne with h3 | h3
      · cases h3
      · exact h3 e)).trans hh, r⟩
/-- A block of another type is not the slice's. -/
theorem own_offTy {w : World} {base : Nat} {e t : TypeId} {size : Nat} {v : Value} {n : Nat} {xs : List Value} {k : Nat} (h : w.ownsRow base e size v n xs) (hk : ∃ cs fr, w.heap[k]? = some (.cells cs t fr)) (hne : t ≠ e) : v.ownBlock = none ∨ v.ownBlock ≠ some k := by
  rcases h.2 with ⟨rfl, _⟩ | ⟨g, cap, cur, rfl, _, hh, _⟩
  · exact .inl rfl
  · right
    intro e2
    simp only [Value.ownBlock, Option.some.injEq] at e2
    subst e2
    obtain ⟨cs, fr, hk⟩ := hk
    rw [hh] at hk
    injection hk with hk
    injection hk with _ h3
    exact hne h3.symm
def LxOwn (w : World) (base : Nat) (s : Lx) : Prop := LaOwn w base (laV s.y.o s.y.s s.y.a s.y.ov s.A s.y.adj.length s.c s.B s.y.pre.length s.d) s.y
theorem LaOwn.row {w w' : World} {base : Nat} {u : Value} {x : La} {k : Nat} {t : TypeId} (h : LaOwn w base u x) (hg : w.grownBy w' (some k)) (hk : ∃ cs fr, w.heap[k]? = some (.cells cs t fr)) (h1 : t ≠ 91) (h2 : t ≠ 94) : LaOwn w' base u x := by
  obtain ⟨A, c, B, d, rfl, o1, o2, hu⟩ := h
  exact ⟨A, c, B, d, rfl, own_rowNe o1 hg (own_offTy o1 hk h1), own_rowNe o2 hg (own_offTy o2 hk h2), hu⟩
theorem LaOwn.mono' {w : World} {base base' : Nat} {u : Value} {x : La} (h : LaOwn w base u x) (hb : base' ≤ base) : LaOwn w base' u x := by
  obtain ⟨A, c, B, d, rfl, o1, o2, hu⟩ := h
  exact ⟨A, c, B, d, rfl, own_mono o1 hb, own_mono o2 hb, hu⟩
theorem LaOwn.app {w w' : World} {base base2 : Nat} {u : Value} {x : La} {v2 : Value} {n : Nat} {xs : List Value} (h : LaOwn w base u x) (hl : w.ownsRow base2 61 7 v2 n xs) (hg : w.grownBy w' v2.ownBlock) : LaOwn w' base u x := by
  obtain ⟨A, c, B, d, rfl, o1, o2, hu⟩ := h
  exact ⟨A, c, B, d, rfl, own_rowNe o1 hg (own_ne o1 hl (by decide)), own_rowNe o2 hg (own_ne o2 hl (by decide)), hu⟩
/-- The lists of a poll on the way: the links, the origins, the sends. -/
structure PoA (B0 B : Nat) (wr : World) (A1 : Option Addr) (n1 c1 : Nat) (zs1 : List Int) (A2 : Option Addr) (n2 c2 : Nat) (zs2 : List Int) (v : Value) (ls : List Sd) : Prop where
  o1 : wr.ownsRow B0 3 1 (.slice A1 n1 c1) n1 (zs1.map encZ)
  o2 : wr.ownsRow B 3 1 (.slice A2 n2 c2) n2 (zs2.map encZ)
  os : wr.ownsRow B 61 7 v ls.length (sdV ls)
  ok : ∀ s ∈ ls, LxOwn wr B s.x
section
variable {B0 B : Nat} {wr w' : World} {A1 : Option Addr} {n1 c1 : Nat} {zs1 : List Int} {A2 : Option Addr} {n2 c2 : Nat} {zs2 : List Int} {v v' : Value} {ls : List Sd}
theorem PoA.below (h : PoA B0 B wr A1 n1 c1 zs1 A2 n2 c2 zs2 v ls) (hb : Below wr.heap.size wr w') : PoA B0 B w' A1 n1 c1 zs1 A2 n2 c2 zs2 v ls :=
  ⟨own_below h.o1 hb, own_below h.o2 hb, own_below h.os hb, fun s hs => LaOwn.below (h.ok s hs) hb⟩
theorem PoA.kq (h : PoA B0 B wr A1 n1 c1 zs1 A2 n2 c2 zs2 v ls) (hq : Kq wr w') : PoA B0 B w' A1 n1 c1 zs1 A2 n2 c2 zs2 v ls :=
  ⟨hq.own h.o1, hq.own h.o2, hq.own h.os, fun s hs => hq.laOwn (h.ok s hs)⟩
theorem PoA.row (h : PoA B0 B wr A1 n1 c1 zs1 A2 n2 c2 zs2 v ls) {k : Nat} (hg : wr.grownBy w' (some k)) (hk : ∃ cs fr, wr.heap[k]? = some (.cells cs 69 fr)) : PoA B0 B w' A1 n1 c1 zs1 A2 n2 c2 zs2 v ls :=
  ⟨own_rowNe h.o1 hg (own_offTy h.o1 hk (by decide)), own_rowNe h.o2 hg (own_offTy h.o2 hk (by decide)), own_rowNe h.os hg (own_offTy h.os hk (by decide)), fun s hs => LaOwn.row (h.ok s hs) hg hk (by decide) (by decide)⟩
theorem PoA.app (h : PoA B0 B wr A1 n1 c1 zs1 A2 n2 c2 zs2 v ls) {s : Sd} (hs : LxOwn wr B s.x) (ho : w'.ownsRow B 61 7 v' (ls.length + 1) (sdV ls ++ sdL s)) (hg : wr.grownBy w' v.ownBlock) : PoA B0 B w' A1 n1 c1 zs1 A2 n2 c2 zs2 v' (ls ++ [s]) :=
  ⟨own_rowNe h.o1 hg (own_ne h.o1 h.os (by decide)), own_rowNe h.o2 hg (own_ne h.o2 h.os (by decide)), by rw [sdV_append]; simpa [sdV] using ho, fun z hz => by
    rcases List.mem_append.1 hz with hz | hz
    · exact LaOwn.app (h.ok z hz) h.os hg
    · rw [List.mem_singleton.1 hz]; exact LaOwn.app hs h.os hg⟩
end
theorem ty_below {wr w' : World} {k : Nat} {t : TypeId} (h : ∃ cs fr, wr.heap[k]? = some (.cells cs t fr)) (hb : Below wr.heap.size wr w') : ∃ cs fr, w'.heap[k]? = some (.cells cs t fr) := by
  obtain ⟨cs, fr, e⟩ := h
  exact ⟨cs, fr, (hb.block _ (Array.getElem?_eq_some_iff.1 e).1).trans e⟩
theorem ty_row {wr w' : World} {k : Nat} {t : TypeId} {row : Option Nat} (h : ∃ cs fr, wr.heap[k]? = some (.cells cs t fr)) (hg : wr.grownBy w' row) (hne : row ≠ some k) : ∃ cs fr, w'.heap[k]? = some (.cells cs t fr) := by
  obtain ⟨cs, fr, e⟩ := h
  exact ⟨cs, fr, (hg.block _ (Array.getElem?_eq_some_iff.1 e).1 (fun e2 => hne e2.symm)).trans e⟩
/-- Behind an append to a list that is new since w. -/
theorem FlMid.app {w wr w' : World} {g b : Nat} {N N' : Fn} {f : Nat → Nat} {iv : Int} {B : Nat} (h : FlMid w wr g b N f N') (hb : Below B wr w') (hB : w.heap.size ≤ B) (hF : FlAt w g b iv N f) (hs : ∀ i, i < 256 → (N' i).isSome = true → (N i).isSome = true) : FlMid w w' g b N f N' := by
  obtain ⟨iv, a, a'⟩ := h.c0
  have hlt := hF.lt
  have hc : ∀ j, w'.cell? ⟨g, j, none⟩ = wr.cell? ⟨g, j, none⟩ := fun j => World.cell?_of_block (a := ⟨g, j, none⟩) (hb.block g (by omega))
  have hm : ∀ {Bb k : Nat} {M : Int → Option Value}, MapIs Bb wr k M → k < w.heap.size → MapIs Bb w' k M := fun {Bb k M} hm hk => by
    obtain ⟨D, ⟨es, clock, hbk, r⟩, hd⟩ := hm
    exact ⟨D, ⟨es, clock, (hb.block k (by omega)).trans hbk, r⟩, hd⟩
  exact ⟨⟨iv, (hc 0).trans a, a'⟩, (hc 1).trans h.c1, hm h.nb hlt.2, fun i hi D hD => by
    obtain ⟨M, hm0, he⟩ := h.el i hi D hD
    exact ⟨M, hm hm0 (hF.flt hi (hs i hi (by rw [hD]; rfl))), he⟩, h.kf.belowB hb hB⟩

end Go.Proofs.Ytgbcnglagnlmhaa

namespace Go.Proofs.Ytgbcnglagnlmhaa
set_option linter.unusedVariables false
open Go.RowKit Go.Maps Go.Sort

def PollPost (w : World) (g b : Nat) (iv : Int) (N : Fn) (f : Nat → Nat) (e : Ending) (w' : World) : Prop :=
  ∃ A c ls, e = .returned (.slice A ls.length c) ∧ w'.ownsRow w.heap.size 61 7 (.slice A ls.length c) ls.length (sdV ls) ∧ sdP ls = sndK N (lks N) ∧ (∀ s ∈ ls, LxOwn w' w.heap.size s.x) ∧ FlAt w' g b iv (polN iv N) f ∧ Kf (FS N f) w w'

set_option maxRecDepth 100000 in
set_option maxHeartbeats 12800000 in
theorem fpoll_any (w : World) (g b : Nat) (iv : Int) (N : Fn) (f : Nat → Nat) (h : FlAt w g b iv N f) (hok : FnOk N) :
    Calls Try.prog 10 #[.pointer (some ⟨g, 0, none⟩)] w (PollPost w g b iv N f) := by
  have O := flinks_any w g b iv N f h
  unfold IntsPost at O
  obtain ⟨len, hlen⟩ : ∃ z, (lks N).length = z := ⟨_, rfl⟩
  have hl256 : len ≤ 256 := by rw [← hlen]; exact lks_len N
  rw [hlen] at O
  replace O := Lib.hid O
  go_enter Try.func10, Try.ntmps10
  go_wp2_with fail
  (with_reducible refine (O.out).mono ?_)
  rintro e w1 ⟨A, c, rfl, og, hb⟩
  clear O
  have hF := h.below hb
  have hsz1 := hb.size
  have hfin : Hid (∀ wr AS cS ls, FlMid w1 wr g b N f (polK iv N len) → wr.ownsRow w1.heap.size 61 7 (.slice AS ls.length cS) ls.length (sdV ls) → sdP ls = sndK N (lks N) → (∀ s ∈ ls, LxOwn wr w1.heap.size s.x) → PollPost w g b iv N f (.returned (.slice AS ls.length cS)) wr) := fun wr AS cS ls hm ho hp hx => by
    have h1 := hm.fin hF (fun i _ => polK_some iv N len i)
    refine ⟨AS, cS, ls, rfl, own_mono ho hsz1, hp, fun s hs => LaOwn.mono' (hx s hs) hsz1, ?_, ((Kf.refl _ w).below hb).trans hm.kf⟩
    refine ⟨h1.c0, h1.c1, ?_, fun i hi D hD => h1.el i hi D (by rw [← hlen, polK_end iv N i hi]; exact hD), fun i hi hs => hF.ne i hi (by simpa [polN] using hs), fun i j hi hj hs hs' => hF.inj i j hi hj (by simpa [polN] using hs) (by simpa [polN] using hs')⟩
    have e : nbM (polN iv N) f = nbM (polK iv N len) f := by
      funext z
      unfold nbM
      by_cases hz : 0 ≤ z ∧ z < 256
      · rw [if_pos hz, if_pos hz, ← hlen, polK_end iv N z.toNat (by omega)]
      · rw [if_neg hz, if_neg hz]
    rw [e]; exact h1.nb
  have hmid : Hid (FlMid w1 w1 g b N f (polK iv N 0)) := by rw [polK_zero]; exact hF.mid
  have hpo : Hid (PoA w.heap.size w1.heap.size w1 A len c (lks N) none 0 0 [] (.slice none 0 0) []) := ⟨by rw [hlen] at *; exact og, World.ownsRow_nil _ _ _ _, World.ownsRow_nil _ _ _ _, by simp⟩
  have hsp : Hid (sdP [] = sndK N ((lks N).take 0)) := rfl
  replace hF := Lib.hid hF
  replace hok := Lib.hid hok
  replace hlen := Lib.hid hlen
  clear h og hb
  go_wp2_with fail
  go_loopw [3, 13] (fun v3 v13 wr => ∃ (k : Nat) (AS : Option Addr) (cS : Nat) (ls : List Sd), v13 = .int .i64 k ∧ v3 = .slice AS ls.length cS ∧ k ≤ len ∧ ls.length ≤ 64 * k ∧ Hid (FlMid w1 wr g b N f (polK iv N k)) ∧ Hid (PoA w.heap.size w1.heap.size wr A len c (lks N) none 0 0 [] (.slice AS ls.length cS) ls) ∧ Hid (sdP ls = sndK N ((lks N).take k))) (fun _ v13 _ => len - (intOf v13).toNat)
  case atStart => exact ⟨0, none, 0, [], rfl, rfl, by omega, by simp, hmid, hpo, hsp⟩
  case round =>
    clear hmid hpo hsp
    obtain ⟨k, AS, cS, ls, rfl, rfl, hk, hls, hmid, hpo, hsp⟩ := hrel
    by_cases hkn : k < len
    · have hkl : k < (lks N).length := by rw [hlen.out]; exact hkn
      have hmem := (lks_mem (N := N) (lks N)[k]).1 (List.getElem_mem hkl)
      obtain ⟨q, hq⟩ := Int.eq_ofNat_of_zero_le hmem.1.1
      have hq256 : q < 256 := by have := hmem.1.2; omega
      have hqs : (N q).isSome = true := by have := hmem.2; rwa [hq, Int.toNat_natCast] at this
      obtain ⟨D, hD⟩ := Option.isSome_iff_exists.1 hqs
      have hat := polK_at iv N k hkl q hq
      have hsucc := polK_succ iv N k hkl q hq hD
      have hssc := sndK_succ N k hkl q hq hD
      obtain ⟨M, hm, he⟩ := hmid.out.el q hq256 D (by rw [hat, hD])
      have hko := keysL_orgs he
      have hrd2 : Rd wr A ((lks N).map encZ) := own_slice hpo.out.o1
      obtain ⟨bz, offz, rfl, hz⟩ := rd_at hrd2 (by simp only [List.length_map]; omega)
      have z0 := hz k _ (by rw [List.getElem?_map, List.getElem?_eq_getElem hkl]; rfl)
      rw [hq] at z0
      unfold encZ at z0
      have x1 := hmid.out.c1
      have hwq : (Lit.int .i64 (q : Int)).wf = true := wf64 (by omega) (by omega)
      have K1 := hmid.out.nb.run_at nbT hwq
      rw [nbM_at hq256, hD] at K1
      simp only [Option.map_some, Option.getD_some] at K1
      have SO := sortedP_any wr (f q) 64 M hm (by omega)
      unfold SortedPost at SO
      rw [hko] at SO
      obtain ⟨no, hno⟩ : ∃ z, (orgs D).length = z := ⟨_, rfl⟩
      have hno64 : no ≤ 64 := by rw [← hno]; exact orgs_len D
      rw [hno] at SO
      replace SO := Lib.hid SO
      replace hsucc := Lib.hid hsucc
      replace hssc := Lib.hid hssc
      replace hq := Lib.hid hq
      replace hno := Lib.hid hno
      have hkl' := Lib.hid hkl
      clear hz hrd2 hmem hat hm he hko
      go_wp2_with fail
      (with_reducible refine (keysP_any _ _).mono ?_)
      rintro e w4 ⟨rfl, rfl⟩
      go_wp2_with fail
      (with_reducible refine SO.out.mono ?_)
      rintro e w5 ⟨A2, c2, rfl, og2, hb5⟩
      clear SO K1 x1 z0
      have hb4 := (below_new' wr (.cells #[.map (some (f q))] 66)).trans (hb5.mono (by simp))
      have hmid5 : Hid (FlMid w1 w5 g b N f (setN (polK iv N k) q (polJ iv D 0))) := by
        have h1 := hmid.out.below hb4
        have e : setN (polK iv N k) q (polJ iv D 0) = polK iv N k := by
          rw [polJ_zero]
          funext j
          unfold setN
          by_cases e : j = q
          · subst e; rw [if_pos rfl, polK_at iv N k hkl j hq.out, hD]
          · rw [if_neg e]
        rw [e]; exact h1
      have hszw : w1.heap.size ≤ wr.heap.size := hmid.out.kf.size
      have hpo5 : Hid (PoA w.heap.size w1.heap.size w5 (some ⟨bz, offz, none⟩) len c (lks N) A2 no c2 (orgs D) (.slice AS ls.length cS) ls) := by
        have h1 := hpo.out.below hb4
        exact ⟨h1.o1, own_mono og2 (by simp; omega), h1.os, h1.ok⟩
      have hsp5 : Hid (sdP ls = sndK N ((lks N).take k) ++ sndJ (q : Int) D ((orgs D).take 0)) := by
        show _ = _
        rw [hsp.out]; simp [sndJ]
      clear hmid hpo hsp og2 hb5 hb4
      go_wp2_with fail
      go_loopw [3, 27] (fun v3 v27 wx => ∃ (j : Nat) (AS : Option Addr) (cS : Nat) (ls : List Sd), v27 = .int .i64 j ∧ v3 = .slice AS ls.length cS ∧ j ≤ no ∧ ls.length ≤ 64 * k + j ∧ Hid (FlMid w1 wx g b N f (setN (polK iv N k) q (polJ iv D j))) ∧ Hid (PoA w.heap.size w1.heap.size wx (some ⟨bz, offz, none⟩) len c (lks N) A2 no c2 (orgs D) (.slice AS ls.length cS) ls) ∧ Hid (sdP ls = sndK N ((lks N).take k) ++ sndJ (q : Int) D ((orgs D).take j))) (fun _ v27 _ => no - (intOf v27).toNat)
      case atStart => exact ⟨0, AS, cS, ls, rfl, rfl, by omega, by omega, hmid5, hpo5, hsp5⟩
      case round =>
        clear hmid5 hpo5 hsp5
        obtain ⟨j, AS, cS, ls, rfl, rfl, hj, hls, hmid, hpo, hsp⟩ := hrel
        by_cases hjn : j < no
        · have hjl : j < (orgs D).length := by rw [hno.out]; exact hjn
          have hmem := (orgs_mem (D := D) (orgs D)[j]).1 (List.getElem_mem hjl)
          obtain ⟨o, ho⟩ := Int.eq_ofNat_of_zero_le hmem.1.1
          have ho64 : o < 64 := by have := hmem.1.2; omega
          obtain ⟨hh, hDo⟩ : ∃ hh, D o = some hh := by
            have := hmem.2
            rw [ho, Int.toNat_natCast] at this
            exact Option.isSome_iff_exists.1 this
          have hst : Hid (∀ i, i < 256 → (setN (polK iv N k) q (polJ iv D j) i).isSome = true → (N i).isSome = true) := fun i hi hs => by
            unfold setN at hs
            split at hs
            · next e => rw [e]; exact hqs
            · rwa [polK_some] at hs
          obtain ⟨M, hm, he⟩ := hmid.out.el q hq256 (polJ iv D j) (by unfold setN; rw [if_pos rfl])
          have hel := he o ho64
          rw [polJ_at iv D j hjl o ho, hDo] at hel
          obtain ⟨Mv, hMv⟩ : ∃ Mv, M (o : Int) = Mv := ⟨_, rfl⟩
          rw [hMv] at hel
          cases Mv with
          | none => exact hel.elim
          | some vv =>
          obtain ⟨A5, c5, B5, d5, rfl, hla⟩ := hel
          have hwo : (Lit.int .i64 (o : Int)).wf = true := wf64 (by omega) (by omega)
          have K2 := hm.run_at pdT hwo
          rw [hMv] at K2
          simp only [Option.getD_some] at K2
          have hrd2 : Rd wr A2 ((orgs D).map encZ) := own_slice hpo.out.o2
          obtain ⟨by2, offy, rfl, hz⟩ := rd_at hrd2 (by simp only [List.length_map]; omega)
          have z0 := hz j _ (by rw [List.getElem?_map, List.getElem?_eq_getElem hjl]; rfl)
          rw [ho] at z0
          unfold encZ at z0
          have hb5 := hok.out q D o hh hD hDo
          have hKq := hmid.out.kf.kq hF.out.maps
          have hla2 := hKq.la hla
          replace hla := Lib.hid hla
          replace hb5 := Lib.hid hb5
          unfold hdV at K2
          replace hm := Lib.hid hm
          replace he := Lib.hid he
          replace hMv := Lib.hid hMv
          have hjl' := Lib.hid hjl
          replace ho := Lib.hid ho
          clear hz hrd2 hmem hKq
          by_cases hll : 0 < hh.l
          · have hs1 : Hid (setN (polK iv N k) q (polJ iv D (j + 1)) = setN (polK iv N k) q (polJ iv D j)) := by
              show _ = _
              rw [polJ_same iv D j hjl o ho.out hDo hll]
            have hs2 := sndJ_no (q : Int) D j hjl o ho.out hDo hll
            rw [← hs1.out] at hmid
            rw [← hs2] at hsp
            have hbn := below_new' wr (.cells #[.int .i64 hh.x.o, .int .i64 hh.x.s, .int .i64 hh.x.a, .bool hh.x.ov, .slice A5 hh.x.adj.length c5, .slice B5 hh.x.pre.length d5, .int .i64 hh.l] 69)
            have hbx := Box.new' wr #[.int .i64 hh.x.o, .int .i64 hh.x.s, .int .i64 hh.x.a, .bool hh.x.ov, .slice A5 hh.x.adj.length c5, .slice B5 hh.x.pre.length d5, .int .i64 hh.l] 69 wr.heap.size _ rfl rfl
            replace hmid := Lib.hid (hmid.out.below hbn)
            replace hpo := Lib.hid (hpo.out.below hbn)
            clear hs1 hs2 hm he hla2 hbn
            go_upto_region 10 with fail
            clear K2 z0
            generalize World.alloc wr _ = w6 at *
            generalize wr.heap.size = g6 at *
            have a6 := hbx.c 6 rfl
            clear hbx
            go_wp2_with fail
            go_round
            case rel => exact ⟨j + 1, AS, cS, ls, by go_num, rfl, by omega, by omega, hmid, hpo, hsp⟩
            case measure => simp [intOf]; omega
          · have hs2 := sndJ_yes (q : Int) D j hjl o ho.out hDo hll
            have hpj := polJ_succ iv D j hjl o ho.out hDo
            have hadj := hb5.out.1.2.2.2.1
            have hpre := hb5.out.1.2.2.2.2.1
            have C := fun W hb => fclone_any W _ hh.x (hla2.below hb) (by omega) (by omega)
            replace C := Lib.hid C
            have hbn := below_new' wr (.cells #[.int .i64 hh.x.o, .int .i64 hh.x.s, .int .i64 hh.x.a, .bool hh.x.ov, .slice A5 hh.x.adj.length c5, .slice B5 hh.x.pre.length d5, .int .i64 hh.l] 69)
            have hbx := Box.new' wr #[.int .i64 hh.x.o, .int .i64 hh.x.s, .int .i64 hh.x.a, .bool hh.x.ov, .slice A5 hh.x.adj.length c5, .slice B5 hh.x.pre.length d5, .int .i64 hh.l] 69 wr.heap.size _ rfl rfl
            have hty : ∃ cs fr, (wr.alloc (.cells #[.int .i64 hh.x.o, .int .i64 hh.x.s, .int .i64 hh.x.a, .bool hh.x.ov, .slice A5 hh.x.adj.length c5, .slice B5 hh.x.pre.length d5, .int .i64 hh.l] 69)).heap[wr.heap.size]? = some (.cells cs 69 fr) := ⟨_, _, heap_alloc_new wr _⟩
            have hg6 : w1.heap.size ≤ wr.heap.size := hmid.out.kf.size
            replace hmid := Lib.hid (hmid.out.below hbn)
            replace hpo := Lib.hid (hpo.out.below hbn)
            have C6 := C.out _ hbn
            replace C6 := Lib.hid C6
            replace hs2 := Lib.hid hs2
            replace hpj := Lib.hid hpj
            clear hm he hla2 hbn C
            go_upto_region 10 with fail
            clear K2 z0
            generalize World.alloc wr _ = w6 at *
            generalize wr.heap.size = g6 at *
            have a0 := hbx.c 0 rfl
            have a1 := hbx.c 1 rfl
            have a2 := hbx.c 2 rfl
            have a3 := hbx.c 3 rfl
            have a4 := hbx.c 4 rfl
            have a5 := hbx.c 5 rfl
            have a6 := hbx.c 6 rfl
            have hl0 : decide (0 < hh.l) = false := by simpa using hll
            go_wp2_with fail
            (with_reducible refine (C6.out).mono ?_)
            rintro e w7 ⟨v7, rfl, hown, hb7⟩
            clear a0 a1 a2 a3 a4 a5 a6 C6
            have hsz6 : w1.heap.size ≤ w6.heap.size := hmid.out.kf.size
            have hown' : LaOwn w7 w1.heap.size v7 hh.x := hown.mono' hsz6
            replace hmid := Lib.hid (hmid.out.below hb7)
            replace hpo := Lib.hid (hpo.out.below hb7)
            replace hbx := hbx.later hb7
            replace hty := ty_below hty hb7
            obtain ⟨A7, c7, B7, d7, hv7⟩ := hown'.at.form
            subst hv7
            have hb8 := below_new' w7 (.cells #[.int .i64 (q : Int), .int .i64 hh.x.o, .int .i64 hh.x.s, .int .i64 hh.x.a, .bool hh.x.ov, .slice A7 hh.x.adj.length c7, .slice B7 hh.x.pre.length d7] 61)
            have rd0 := Rd.lit w7 #[.int .i64 (q : Int), .int .i64 hh.x.o, .int .i64 hh.x.s, .int .i64 hh.x.a, .bool hh.x.ov, .slice A7 hh.x.adj.length c7, .slice B7 hh.x.pre.length d7] 61
            have hown8 : LxOwn _ w1.heap.size ⟨hh.x, A7, c7, B7, d7⟩ := LaOwn.below hown' hb8
            have hpo8 := hpo.out.below hb8
            have hmid8 := hmid.out.below hb8
            have hbx8 := hbx.later hb8
            have hty8 := ty_below hty hb8
            have hos := hpo8.os
            have hsz8 := hmid8.kf.size
            clear hown hown' hmid hpo hbx hty hb7 hb8
            replace hown8 := Lib.hid hown8
            replace hpo8 := Lib.hid hpo8
            replace hmid8 := Lib.hid hmid8
            replace hbx8 := Lib.hid hbx8
            replace hty8 := Lib.hid hty8
            have hone := sdL_one ⟨(q : Int), ⟨hh.x, A7, c7, B7, d7⟩⟩
            have hb9a : ls.length + 1 ≤ maxLen := by simp only [maxLen]; omega
            have hb9b : (ls.length + 1) * 88 ≤ 140737488355328 := by omega
            go_upto_region 12 with (at_builtin; refine wpList_appB rfl sdT (.tmp 37) (.tmp 43) rfl w1.heap.size rfl hos (m := 1) rfl (by simp) rd0 hone hb9a hb9b hsz8 (ls.length + 1) _ rfl rfl ?_; intro v9 w9 ho9 hbel9 hg9 hv9; obtain ⟨A9, c9, rfl, -⟩ := own_rd ho9)
            have hne9 := own_offTy hos hty8.out (by decide)
            have hne9' : (Value.slice AS ls.length cS).ownBlock ≠ some g6 := by
              rcases hne9 with e | e
              · rw [e]; simp
              · exact e
            have hpo9 := PoA.app (s := ⟨(q : Int), ⟨hh.x, A7, c7, B7, d7⟩⟩) hpo8.out hown8.out ho9 hg9
            have hmid9 := hmid8.out.app hbel9 (Nat.le_refl _) hF.out hst.out
            have hbx9 := hbx8.out.kept hg9 (fun e => hne9' e.symm) (by simp)
            have hty9 := ty_row hty8.out hg9 hne9'
            have x0 : w9.cell? ⟨g, 0, none⟩ = some (.int .i64 iv) := by
              obtain ⟨iv', e1, e2⟩ := hmid9.c0
              rw [hF.out.c0] at e2
              rw [e1, ← e2]
            clear hos hpo8 hmid8 hbx8 hty8 hown8 hone hb9a hb9b rd0 ho9 hbel9 hg9 hv9 hne9 hne9'
            have a6 := hbx9.c 6 rfl
            have f6 := hbx9.f 6 rfl
            have hgs := grownBy_set w9 g6 6 (.int .i64 iv)
            have hpo10 := Lib.hid (hpo9.row hgs hty9)
            have hmid10 := Lib.hid (hmid9.new hgs hg6 hF.out hst.out)
            have hbx10 := hbx9.set 6 (.int .i64 iv) (by simp)
            clear hgs hpo9 hmid9 hbx9 hty9
            go_upto_region 13 with fail
            clear x0 a6 f6
            generalize World.setCell w9 _ _ = w10 at *
            obtain ⟨M2, hm2, he2⟩ := hmid10.out.el q hq256 (polJ iv D j) (by unfold setN; rw [if_pos rfl])
            obtain ⟨w11, run11, hm11, hg11⟩ := hm2.run_put pdT (by omega) (i := (o : Int)) (by omega) (by omega) (hdV hh.x A5 c5 B5 d5 iv)
            have hmid11 : Hid (FlMid w1 w11 g b N f (setN (polK iv N k) q (polJ iv D (j + 1)))) := by
              have h1 := hmid10.out.turn hF.out hq256 hqs hst.out (D' := polJ iv D (j + 1)) hm11 (fun o' ho' => by
                rw [hpj.out]
                by_cases e : o' = o
                · subst e
                  simp only [if_true]
                  refine ⟨A5, c5, B5, d5, ?_, ?_⟩
                  · unfold polH; rw [if_neg (by omega)]
                  · unfold polH; rw [if_neg (by omega)]; exact hla.out
                · have e' : ¬ (o' : Int) = (o : Int) := by omega
                  simp only [if_neg e, if_neg e']
                  exact he2 o' ho') hg11
              have e : setN (setN (polK iv N k) q (polJ iv D j)) q (polJ iv D (j + 1)) = setN (polK iv N k) q (polJ iv D (j + 1)) := by
                funext z; unfold setN; split <;> rfl
              rw [e] at h1
              exact h1
            have hpo11 : Hid (PoA w.heap.size w1.heap.size w11 (some ⟨bz, offz, none⟩) len c (lks N) (some ⟨by2, offy, none⟩) no c2 (orgs D) (.slice A9 (ls.length + 1) c9) (ls ++ [⟨(q : Int), ⟨hh.x, A7, c7, B7, d7⟩⟩])) := hpo10.out.kq (Kq.of_map hm2 hg11)
            have hsp11 : Hid (sdP (ls ++ [⟨(q : Int), ⟨hh.x, A7, c7, B7, d7⟩⟩]) = sndK N ((lks N).take k) ++ sndJ (q : Int) D ((orgs D).take (j + 1))) := by
              show _ = _
              rw [hs2.out, ← List.append_assoc, ← hsp.out]
              simp [sdP]
            unfold hdV at run11
            have a0 := hbx10.c 0 rfl
            have a1 := hbx10.c 1 rfl
            have a2 := hbx10.c 2 rfl
            have a3 := hbx10.c 3 rfl
            have a4 := hbx10.c 4 rfl
            have a5 := hbx10.c 5 rfl
            have a6 := hbx10.c 6 rfl
            clear hpo10 hmid10 hbx10 hm2 he2 hm11 hg11 hsp hs2 hpj hla
            go_wp2_with fail
            go_round
            case rel => exact ⟨j + 1, A9, c9, ls ++ [⟨(q : Int), ⟨hh.x, A7, c7, B7, d7⟩⟩], by go_num, by simp, by omega, by simp; omega, hmid11, by simpa using hpo11, hsp11⟩
            case measure => simp [intOf]; omega
        · obtain rfl : j = no := by omega
          have hmidE : Hid (FlMid w1 wr g b N f (polK iv N (k + 1))) := by
            rw [hsucc.out]
            have h1 := hmid.out
            rw [← hno.out] at h1
            exact ⟨h1.c0, h1.c1, h1.nb, fun i hi E hE => by
              unfold setN at hE
              by_cases e : i = q
              · subst e
                simp only [if_true, Option.some.injEq] at hE
                subst hE
                obtain ⟨M, hm, he⟩ := h1.el i hi (polJ iv D (orgs D).length) (by unfold setN; rw [if_pos rfl])
                exact ⟨M, hm, fun o ho => by rw [← polJ_end64 iv D o ho]; exact he o ho⟩
              · simp only [if_neg e] at hE
                exact h1.el i hi E (by unfold setN; rw [if_neg e]; exact hE), h1.kf⟩
          have hspE : Hid (sdP ls = sndK N ((lks N).take (k + 1))) := by
            show _ = _
            rw [hssc.out, hsp.out, ← hno.out, List.take_length]
          have hpoE : Hid (PoA w.heap.size w1.heap.size wr (some ⟨bz, offz, none⟩) len c (lks N) none 0 0 [] (.slice AS ls.length cS) ls) := ⟨hpo.out.o1, World.ownsRow_nil _ _ _ _, hpo.out.os, hpo.out.ok⟩
          clear hmid hpo hsp
          go_wp2_with fail
          go_round
          case rel => exact ⟨k + 1, AS, cS, ls, by go_num, rfl, by omega, by omega, hmidE, hpoE, hspE⟩
          case measure => simp [intOf]; omega
    · obtain rfl : k = len := by omega
      have hf := hfin.out _ _ _ _ hmid.out hpo.out.os (by rw [hsp.out, ← hlen.out, List.take_length]) hpo.out.ok
      replace hf := Lib.hid hf
      clear hmid hpo hsp
      go_wp2_with fail
      go_ret
      exact hf.out

end Go.Proofs.Ytgbcnglagnlmhaa

namespace Go.Proofs.Ytgbcnglagnlmhaa
set_option linter.unusedVariables false
open Go.RowKit Go.Maps Go.Sort

def dO (D : Db) (o : Int) : Option Hd := if 0 ≤ o ∧ o < 64 then D o.toNat else none
def ackB (D : Db) (a : La) : Bool := match dO D a.o with | some h => sameB h.x a | none => false
def ackD (D : Db) (a : La) : Db := if ackB D a = true then fun i => if i = a.o.toNat then none else D i else D
def AckPost (w : World) (g b : Nat) (iv : Int) (N : Fn) (f : Nat → Nat) (lk : Nat) (D : Db) (a : La) (e : Ending) (w' : World) : Prop :=
  e = .returned (.tuple #[.bool (ackB D a), .int .i64 0]) ∧ FlAt w' g b iv (setN N lk (ackD D a)) f ∧ w.grownBy w' (some (f lk))
set_option maxRecDepth 100000 in
set_option maxHeartbeats 6400000 in
theorem fack_any (w : World) (g b : Nat) (iv : Int) (N : Fn) (f : Nat → Nat) (h : FlAt w g b iv N f) (lk : Nat) (hl : lk < 256) (D : Db) (hD : N lk = some D) (v : Value) (a : La) (hv : LaAt w v a) (hwf : (Lit.int .i64 a.o).wf = true) :
    Calls Try.prog 16 #[.pointer (some ⟨g, 0, none⟩), .int .i64 (lk : Int), v] w (AckPost w g b iv N f lk D a) := by
  obtain ⟨A, c, B, d, rfl, hla⟩ := hv.opened
  clear hv
  have S := (St.start w).new' #[.int .i64 a.o, .int .i64 a.s, .int .i64 a.a, .bool a.ov, .slice A a.adj.length c, .slice B a.pre.length d] 32 w.heap.size _ rfl rfl
  have hs : (N lk).isSome = true := by rw [hD]; rfl
  obtain ⟨M, hm, he⟩ := h.el lk hl D hD
  have hek : ElAt w (M a.o) (dO D a.o) := by
    unfold dO
    by_cases ho : 0 ≤ a.o ∧ a.o < 64
    · rw [if_pos ho]
      have := he a.o.toNat (by omega)
      rwa [Int.toNat_of_nonneg ho.1] at this
    · rw [if_neg ho]
      cases hM : M a.o with
      | none => trivial
      | some z => exact absurd (hm.small (i := a.o) (by rw [hM]; rfl)) (by omega)
  have hwl : (Lit.int .i64 (lk : Int)).wf = true := wf64 (by omega) (by omega)
  have hfin : Hid (∀ w', Below w.heap.size w w' → ackB D a = false → AckPost w g b iv N f lk D a (.returned (.tuple #[.bool false, .int .i64 0])) w') := fun w' hb ho => by
    have e : setN N lk (ackD D a) = N := by
      unfold setN ackD
      rw [ho, if_neg (by simp)]
      funext j
      by_cases e : j = lk
      · subst e; rw [if_pos rfl, hD]
      · rw [if_neg e]
    refine ⟨by rw [ho], ?_, below_row hb _⟩
    rw [e]; exact h.below hb
  have hdel : Hid (∀ wa w', Below w.heap.size w wa → ackB D a = true → MapIs 64 w' (f lk) (fun j => if j = a.o then none else M j) → wa.grownBy w' (some (f lk)) → AckPost w g b iv N f lk D a (.returned (.tuple #[.bool true, .int .i64 0])) w') := fun wa w' hb ho hm' hg => by
    have hgr := (below_row hb (some (f lk))).trans hg
    have hq := (Kq.of_below hb).trans (Kq.of_map (hm.below hb) hg)
    have ho64 : 0 ≤ a.o ∧ a.o < 64 := by
      by_cases h9 : 0 ≤ a.o ∧ a.o < 64
      · exact h9
      · unfold ackB dO at ho
        rw [if_neg h9] at ho
        cases ho
    obtain ⟨k, hk⟩ := Int.eq_ofNat_of_zero_le ho64.1
    rw [hk] at hm'
    have hin := InAt.put hm he hq k (by omega) none none trivial hm'
    have e : setN N lk (ackD D a) = fun j => if j = lk then some (fun i => if i = k then none else D i) else N j := by
      unfold setN ackD
      rw [ho, if_pos rfl, hk, Int.toNat_natCast]
    refine ⟨by rw [ho], ?_, hgr⟩
    rw [e]
    exact h.turn hl hs hin hgr
  have hc1 := cell_later S.b h.c1
  have K1 := (h.nb.below S.b).run_ok nbT hwl
  rw [nbM_at hl, hD] at K1
  simp only [Option.map_some, Option.getD_some, Option.isSome_some] at K1
  have K2 := (hm.below S.b).run_ok pdT hwf
  have hu : ∃ u0 u1 u2 u3 A9 n9 c9 B9 m9 d9 u6, (M a.o).getD hdZ = .agg #[.int .i64 u0, .int .i64 u1, .int .i64 u2, .bool u3, .slice A9 n9 c9, .slice B9 m9 d9, .int .i64 u6] := by
    cases hM : M a.o with
    | none => exact ⟨_, _, _, _, _, _, _, _, _, _, _, rfl⟩
    | some vv =>
      rw [hM] at hek
      cases hN : dO D a.o with
      | none => rw [hN] at hek; exact hek.elim
      | some hh =>
        rw [hN] at hek
        obtain ⟨A9, c9, B9, d9, rfl, _⟩ := hek
        exact ⟨_, _, _, _, _, _, _, _, _, _, _, rfl⟩
  obtain ⟨u0, u1, u2, u3, A9, n9, c9, B9, m9, d9, u6, hu⟩ := hu
  rw [hu] at K2
  obtain ⟨ok, hok⟩ : ∃ z, (M a.o).isSome = z := ⟨_, rfl⟩
  rw [hok] at K2
  replace hu := Lib.hid hu
  replace hok := Lib.hid hok
  replace hm := Lib.hid hm
  have a0 := S.c 0 0 rfl rfl
  have a1 := S.c 0 1 rfl rfl
  have a2 := S.c 0 2 rfl rfl
  have a3 := S.c 0 3 rfl rfl
  have a4 := S.c 0 4 rfl rfl
  have a5 := S.c 0 5 rfl rfl
  clear h he
  go_enter Try.func16, Try.ntmps16
  go_upto_region 7 with fail
  clear a0 a1 a2 a3 a4 a5
  clear hc1 K1 K2
  have S2 := S.new' #[.int .i64 u0, .int .i64 u1, .int .i64 u2, .bool u3, .slice A9 n9 c9, .slice B9 m9 d9, .int .i64 u6] 69 (w.heap.size + 1) _ (by simp) rfl
  clear S
  generalize World.alloc (World.alloc w _) _ = w2 at *
  cases ok with
  | false =>
    have hno : ackB D a = false := by
      unfold ackB
      cases hN : dO D a.o with
      | none => rfl
      | some hh =>
        rw [hN] at hek
        cases hM : M a.o with
        | none => rw [hM] at hek; exact hek.elim
        | some z => have := hok.out; rw [hM] at this; cases this
    have hf := hfin.out _ S2.b hno
    replace hf := Lib.hid hf
    clear hfin hdel hno hek
    go_wp2_with fail
    go_ret2
    exact hf.out
  | true =>
    obtain ⟨hh, hNk, hu2, hlx⟩ : ∃ hh, dO D a.o = some hh ∧ (.agg #[.int .i64 u0, .int .i64 u1, .int .i64 u2, .bool u3, .slice A9 n9 c9, .slice B9 m9 d9, .int .i64 u6] : Value) = hdV hh.x A9 c9 B9 d9 hh.l ∧ LaAt w (laV hh.x.o hh.x.s hh.x.a hh.x.ov A9 hh.x.adj.length c9 B9 hh.x.pre.length d9) hh.x := by
      cases hM : M a.o with
      | none => have := hok.out; rw [hM] at this; cases this
      | some vv =>
        rw [hM] at hek
        cases hN : dO D a.o with
        | none => rw [hN] at hek; exact hek.elim
        | some hh =>
          rw [hN] at hek
          obtain ⟨A8, c8, B8, d8, rfl, hla⟩ := hek
          have hv := hu.out
          rw [hM] at hv
          simp only [Option.getD_some, Value.agg.injEq, Array.mk.injEq, List.cons.injEq, Value.slice.injEq, Value.int.injEq, Value.bool.injEq, true_and, and_true] at hv
          obtain ⟨rfl, rfl, rfl, rfl, ⟨rfl, rfl, rfl⟩, ⟨rfl, rfl, rfl⟩, rfl⟩ := hv
          exact ⟨hh, rfl, rfl, hla⟩
    simp only [Value.agg.injEq, Array.mk.injEq, List.cons.injEq, Value.slice.injEq, Value.int.injEq, Value.bool.injEq, true_and, and_true] at hu2
    obtain ⟨rfl, rfl, rfl, rfl, rfl, rfl, rfl⟩ := hu2
    have SM := lsame_any w2 _ _ hh.x a (hlx.below S2.b) (hla.below S2.b)
    have hoz : Hid (ackB D a = sameB hh.x a) := by show _ = _; unfold ackB; rw [hNk]
    generalize sameB hh.x a = z at *
    replace SM := Lib.hid SM
    clear hek hNk hla hlx
    have a0 := S2.c 1 0 rfl rfl
    have a1 := S2.c 1 1 rfl rfl
    have a2 := S2.c 1 2 rfl rfl
    have a3 := S2.c 1 3 rfl rfl
    have a4 := S2.c 1 4 rfl rfl
    have a5 := S2.c 1 5 rfl rfl
    have r0 := S2.c 0 0 rfl rfl
    have r1 := S2.c 0 1 rfl rfl
    have r2 := S2.c 0 2 rfl rfl
    have r3 := S2.c 0 3 rfl rfl
    have r4 := S2.c 0 4 rfl rfl
    have r5 := S2.c 0 5 rfl rfl
    go_wp2_with fail
    (with_reducible refine (SM.out).mono ?_)
    rintro e w3 ⟨rfl, hb⟩
    clear a0 a1 a2 a3 a4 a5
    clear r0 r1 r2 r3 r4 r5
    replace S2 := S2.call hb
    clear SM hb
    cases z with
    | false =>
      have hf := hfin.out _ S2.b hoz.out
      replace hf := Lib.hid hf
      clear hfin hdel hoz
      go_wp2_with fail
      go_ret2
      exact hf.out
    | true =>
      obtain ⟨w9, run9, hm9, hg9⟩ := (hm.out.below S2.b).run_del pdT 0 (i := a.o) hwf
      have hf := hdel.out _ _ S2.b hoz.out hm9 hg9
      replace hf := Lib.hid hf
      clear hfin hdel hoz hm9 hg9
      have a0 := S2.c 1 0 rfl rfl
      have a1 := S2.c 1 1 rfl rfl
      have a2 := S2.c 1 2 rfl rfl
      have a3 := S2.c 1 3 rfl rfl
      have a4 := S2.c 1 4 rfl rfl
      have a5 := S2.c 1 5 rfl rfl
      go_wp2_with fail
      go_ret2
      exact hf.out

end Go.Proofs.Ytgbcnglagnlmhaa

namespace Go.Proofs.Ytgbcnglagnlmhaa
set_option linter.unusedVariables false
open Go.RowKit Go.Maps Go.Sort

theorem laT : ElemT Try.prog 33 32 (.agg #[.int .i64 0, .int .i64 0, .int .i64 0, .bool false, .slice none 0 0, .slice none 0 0]) 6 80 := ⟨Try.underlying33, by kernel_rfl, rfl, by omega⟩
theorem lxL_one (s : Lx) : ∀ u ∈ lxL s, u.oneCell' = true := by
  intro u hu
  simp only [lxL, List.mem_cons, List.not_mem_nil, or_false] at hu
  rcases hu with rfl | rfl | rfl | rfl | rfl | rfl <;> rfl
theorem lxV_append (a b : List Lx) : lxV (a ++ b) = lxV a ++ lxV b := by
  induction a with
  | nil => rfl
  | cons r l ih => simp only [List.cons_append, lxV, ih, List.append_assoc]
theorem LaOwn.appL {w w' : World} {base base2 : Nat} {u : Value} {x : La} {v2 : Value} {n : Nat} {xs : List Value} (h : LaOwn w base u x) (hl : w.ownsRow base2 32 6 v2 n xs) (hg : w.grownBy w' v2.ownBlock) : LaOwn w' base u x := by
  obtain ⟨A, c, B, d, rfl, o1, o2, hu⟩ := h
  exact ⟨A, c, B, d, rfl, own_rowNe o1 hg (own_ne o1 hl (by decide)), own_rowNe o2 hg (own_ne o2 hl (by decide)), hu⟩
theorem pd_field (x : La) (A : Option Addr) (c : Nat) (B : Option Addr) (d : Nat) (l : Int) (W : World) : (Instr.field 69 (hdV x A c B d l) 0).run Try.prog W = .ok (laV x.o x.s x.a x.ov A x.adj.length c B x.pre.length d) W := by kernel_rfl

def getX (o : Option Hd) : La := match o with | some h => h.x | none => laZero
def pendL (D : Db) : List La := (orgs D).map fun i => getX (D i.toNat)
def PendPost (w : World) (D : Db) (e : Ending) (w' : World) : Prop :=
  ∃ A c ls, e = .returned (.slice A (orgs D).length c) ∧ w'.ownsRow w.heap.size 32 6 (.slice A (orgs D).length c) (orgs D).length (lxV ls) ∧ laL ls = pendL D ∧ (∀ s ∈ ls, LxOwn w' w.heap.size s) ∧ Below w.heap.size w w'
/-- Within the loop. -/
structure PenAt (w wr : World) (D : Db) (B : Option Addr) (d : Nat) (k : Nat) (v : Value) (ls : List Lx) : Prop where
  og : wr.ownsRow w.heap.size 3 1 (.slice B (orgs D).length d) (orgs D).length ((orgs D).map encZ)
  own : wr.ownsRow w.heap.size 32 6 v k (lxV ls)
  la : laL ls = (pendL D).take k
  ok : ∀ s ∈ ls, LxOwn wr w.heap.size s
  bel : Below w.heap.size w wr
theorem PenAt.below {w wr w' : World} {N : Db} {B : Option Addr} {d k : Nat} {v : Value} {ls : List Lx} (h : PenAt w wr N B d k v ls) (hb : Below wr.heap.size wr w') : PenAt w w' N B d k v ls :=
  ⟨own_below h.og hb, own_below h.own hb, h.la, fun s hs => LaOwn.below (h.ok s hs) hb, h.bel.trans (hb.mono h.bel.size)⟩
theorem PenAt.app {w wr w' : World} {N : Db} {B : Option Addr} {d k : Nat} {v v' : Value} {ls : List Lx} (h : PenAt w wr N B d k v ls) {s : Lx} (hs : LxOwn wr w.heap.size s) (hk : k < (orgs N).length) (hy : s.y = getX (N (orgs N)[k].toNat))
    (ho : w'.ownsRow w.heap.size 32 6 v' (k + 1) (lxV ls ++ lxL s)) (hb : Below w.heap.size wr w') (hg : wr.grownBy w' v.ownBlock) : PenAt w w' N B d (k + 1) v' (ls ++ [s]) := by
  refine ⟨own_rowNe h.og hg (own_ne h.og h.own (by decide)), by rw [lxV_append]; simpa [lxV] using ho, ?_, fun z hz => ?_, h.bel.trans hb⟩
  · have hk2 : k < (pendL N).length := by simpa [pendL] using hk
    rw [List.take_succ_eq_append_getElem hk2, ← h.la]
    have e2 : (pendL N)[k] = s.y := by rw [hy]; simp [pendL]
    rw [e2]; simp [laL]
  · rcases List.mem_append.1 hz with hz | hz
    · exact LaOwn.appL (h.ok z hz) h.own hg
    · rw [List.mem_singleton.1 hz]; exact LaOwn.appL hs h.own hg

set_option maxRecDepth 100000 in
set_option maxHeartbeats 6400000 in
theorem fpend_any (w : World) (g b : Nat) (iv : Int) (N : Fn) (f : Nat → Nat) (h : FlAt w g b iv N f) (hok : FnOk N) (lk : Nat) (hl : lk < 256) (D : Db) (hD : N lk = some D) :
    Calls Try.prog 11 #[.pointer (some ⟨g, 0, none⟩), .int .i64 (lk : Int)] w (PendPost w D) := by
  obtain ⟨M, hm, he⟩ := h.el lk hl D hD
  have hko := keysL_orgs he
  have SO := sortedP_any w (f lk) 64 M hm (by omega)
  unfold SortedPost at SO
  rw [hko] at SO
  have hlen := orgs_len D
  have hfin : Hid (∀ w' A c ls B d, PenAt w w' D B d (orgs D).length (.slice A (orgs D).length c) ls → PendPost w D (.returned (.slice A (orgs D).length c)) w') := fun w' A c ls B d T => ⟨A, c, ls, rfl, T.own, by rw [T.la, List.take_of_length_le (by simp [pendL])], T.ok, T.bel⟩
  obtain ⟨n, hn⟩ : ∃ n, (orgs D).length = n := ⟨_, rfl⟩
  rw [hn] at SO hlen hfin
  have hwl : (Lit.int .i64 (lk : Int)).wf = true := wf64 (by omega) (by omega)
  have K1 := h.nb.run_at nbT hwl
  rw [nbM_at hl, hD] at K1
  simp only [Option.map_some, Option.getD_some] at K1
  have x1 := h.c1
  replace SO := Lib.hid SO
  replace hn := Lib.hid hn
  replace hm := Lib.hid hm
  replace he := Lib.hid he
  have hfl := hok lk D
  replace hfl := Lib.hid (fun o hh e => hfl o hh hD e)
  clear h hok hD hko
  go_enter Try.func11, Try.ntmps11
  go_wp2_with fail
  (with_reducible refine (keysP_any _ _).mono ?_)
  rintro e w4 ⟨rfl, rfl⟩
  go_wp2_with fail
  (with_reducible refine SO.out.mono ?_)
  rintro e w1 ⟨B, d, rfl, o14, hb5⟩
  have hb := (below_new' w (.cells #[.map (some (f lk))] 66)).trans (hb5.mono (by simp))
  have hT : Hid (PenAt w w1 D B d 0 (.slice none 0 0) []) := ⟨by rw [hn.out]; exact own_mono o14 (by simp), World.ownsRow_nil _ _ _ _, by simp [laL], by simp, hb⟩
  clear SO o14 hb hb5 K1 x1
  go_wp2_with fail
  go_loopw [5, 21] (fun v5 v21 wr => ∃ (k : Nat) (A : Option Addr) (c : Nat) (ls : List Lx), v21 = .int .i64 k ∧ v5 = .slice A k c ∧ k ≤ n ∧ Hid (PenAt w wr D B d k (.slice A k c) ls)) (fun _ v21 _ => n - (intOf v21).toNat)
  case atStart => exact ⟨0, none, 0, [], rfl, rfl, by omega, hT⟩
  case round =>
    clear hT
    obtain ⟨k, A, c, ls, rfl, rfl, hk, hT⟩ := hrel
    by_cases hkn : k < n
    · have hkl : k < (orgs D).length := by rw [hn.out]; exact hkn
      have hm1 := (orgs_mem (D := D) (orgs D)[k]).1 (List.getElem_mem hkl)
      have T := hT.out
      have og := T.og
      rw [hn.out] at og
      obtain ⟨b14, off14, rfl, hz14⟩ := rd_at (own_slice og) (by simp only [List.length_map]; omega)
      have z14 := hz14 k _ (by rw [List.getElem?_map, List.getElem?_eq_getElem hkl]; rfl)
      obtain ⟨q, hq⟩ := Int.eq_ofNat_of_zero_le hm1.1.1
      rw [hq] at hm1 z14
      unfold encZ at z14
      rw [Int.toNat_natCast] at hm1
      have hq64 : q < 64 := by have := hm1.1.2; omega
      obtain ⟨x, hNq⟩ := Option.isSome_iff_exists.1 hm1.2
      have hgx : getX (D (orgs D)[k].toNat) = x.x := by rw [hq, Int.toNat_natCast, hNq]; rfl
      have hel := he.out q hq64
      rw [hNq] at hel
      have hwq : (Lit.int .i64 (q : Int)).wf = true := wf64 (by omega) (by omega)
      have K1 := (MapIs.below hm.out T.bel).run_at pdT hwq
      cases hMq : M (q : Int) with
      | none => rw [hMq] at hel; exact hel.elim
      | some vv =>
      rw [hMq] at hel K1
      obtain ⟨A1, c1, B1, d1, rfl, la1⟩ := hel
      simp only [Option.getD_some] at K1
      replace la1 := la1.below T.bel
      have hf := (hfl.out q x hNq).1
      have hadj := hf.2.2.2.1
      have hpre := hf.2.2.2.2.1
      have FL1 := pd_field x.x A1 c1 B1 d1 x.l
      have CL := fclone_any wr _ x.x la1 (by omega) (by omega)
      unfold hdV at K1 FL1
      obtain ⟨y, hy⟩ : ∃ y, x.x = y := ⟨_, rfl⟩
      rw [hy] at K1 FL1 CL hgx
      replace CL := Lib.hid CL
      replace hgx := Lib.hid hgx
      clear og hz14 hm1 hq hNq la1 hf hadj hpre hy hT hMq
      replace T := Lib.hid T
      go_wp2_with fail
      (with_reducible refine (CL.out).mono ?_)
      rintro e w2 ⟨v2, rfl, hown, hb⟩
      clear z14 K1 FL1 CL
      have hown' : LaOwn w2 w.heap.size v2 y := hown.mono' T.out.bel.size
      replace T := T.out.below hb
      obtain ⟨A5, c5, B5, d5, hv5⟩ := hown'.at.form
      subst hv5
      have hb3 := below_new' w2 (.cells #[.int .i64 y.o, .int .i64 y.s, .int .i64 y.a, .bool y.ov, .slice A5 y.adj.length c5, .slice B5 y.pre.length d5] 32)
      have rd0 := Rd.lit w2 #[.int .i64 y.o, .int .i64 y.s, .int .i64 y.a, .bool y.ov, .slice A5 y.adj.length c5, .slice B5 y.pre.length d5] 32
      have T3 := T.below hb3
      have hown3 : LxOwn _ w.heap.size ⟨y, A5, c5, B5, d5⟩ := LaOwn.below hown' hb3
      have hsz := T3.bel.size
      have o3 := T3.own
      clear hown hown' hb hb3 T
      replace T3 := Lib.hid T3
      replace hown3 := Lib.hid hown3
      go_wp2_with (at_builtin; refine wpList_appB rfl laT (.tmp 25) (.tmp 31) rfl w.heap.size rfl o3 (m := 1) rfl (by simp) rd0 (lxL_one ⟨y, A5, c5, B5, d5⟩) (by simp only [maxLen]; omega) (by omega) hsz (k + 1) _ rfl rfl ?_; intro v6 w6 o6 hbel6 hg6 hv6)
      obtain ⟨A7, c7, rfl, -⟩ := own_rd o6
      have T4 := Lib.hid (T3.out.app hown3.out hkl hgx.out.symm o6 hbel6 hg6)
      clear o6 hbel6 hg6 hv6 o3 rd0 T3 hown3 hsz
      go_wp2_with fail
      go_round
      case rel => exact ⟨k + 1, A7, c7, _, by go_num, rfl, by omega, T4⟩
      case measure => simp [intOf]; omega
    · obtain rfl : k = n := by omega
      have hf := hfin.out _ _ _ _ _ _ hT.out
      replace hf := Lib.hid hf
      go_wp2_with fail
      go_ret
      exact hf.out

end Go.Proofs.Ytgbcnglagnlmhaa

namespace Go.Proofs.Ytgbcnglagnlmhaa
set_option linter.unusedVariables false
open Go.RowKit Go.Maps Go.Sort

theorem bare_at (w : World) (o s a : Int) (ov : Bool) : LaAt w (laV o s a ov none 0 0 none 0 0) ⟨o, s, a, ov, [], []⟩ := ⟨none, 0, none, 0, rfl, Rd.nil _ _, Rd.nil _ _, by simp, by simp [maxLen], by simp, by simp [maxLen], by simp⟩
theorem bare_valid (o s a : Int) (ov : Bool) (h0 : 0 ≤ o) (h1 : o ≤ 63) (h2 : 1 ≤ s) (h3 : s ≤ 1073741824) (h4 : 0 ≤ a) (h5 : a < 3600) : LaValid ⟨o, s, a, ov, [], []⟩ := by
  refine ⟨⟨h0, h1⟩, ⟨h2, h3⟩, ⟨h4, by simp only; omega⟩, by simp, by simp, fun h => by simp only at h; omega, fun k x hk => by simp at hk, fun k x hk => by simp at hk⟩
theorem sameB_refl' (x : La) : sameB x x = true := by simp [sameB, conB]

/-! ### Plain -/
def D1 (o : Nat) (h : Option Hd) : Db := fun p => if p = o then h else none
def N1 (i o : Nat) (h : Option Hd) : Fn := fun j => if j = i then some (D1 o h) else none
theorem sorted_single {l : List Int} {a : Int} (hs : l.Pairwise (· < ·)) (hm : ∀ x, x ∈ l ↔ x = a) : l = [a] := by
  match l, hs, hm with
  | [], _, hm => exact absurd ((hm a).2 rfl) (by simp)
  | [x], _, hm => rw [(hm x).1 (by simp)]
  | x :: y :: t, hs, hm =>
    have h1 := (hm x).1 (by simp)
    have h2 := (hm y).1 (by simp)
    have := (List.pairwise_cons.1 hs).1 y (by simp)
    omega
theorem lks_N1 {i o : Nat} {h : Option Hd} (hi : i < 256) : lks (N1 i o h) = [(i : Int)] := by
  refine sorted_single (lks_sorted _) fun x => ?_
  rw [lks_mem]
  unfold N1
  constructor
  · rintro ⟨⟨h0, h1⟩, hs⟩
    by_cases e : x.toNat = i
    · omega
    · rw [if_neg e] at hs; simp at hs
  · rintro rfl
    exact ⟨⟨by omega, by omega⟩, by rw [Int.toNat_natCast, if_pos rfl]; rfl⟩
theorem orgs_D1 {o : Nat} {h : Hd} (ho : o < 64) : orgs (D1 o (some h)) = [(o : Int)] := by
  refine sorted_single (orgs_sorted _) fun x => ?_
  rw [orgs_mem]
  unfold D1
  constructor
  · rintro ⟨⟨h0, h1⟩, hs⟩
    by_cases e : x.toNat = o
    · omega
    · rw [if_neg e] at hs; simp at hs
  · rintro rfl
    exact ⟨⟨by omega, by omega⟩, by rw [Int.toNat_natCast, if_pos rfl]; rfl⟩
theorem orgs_D1n {o : Nat} : orgs (D1 o none) = [] := by
  refine List.eq_nil_iff_forall_not_mem.2 fun x hx => ?_
  have := ((orgs_mem x).1 hx).2
  unfold D1 at this
  split at this <;> simp at this
theorem tik_N1 (n : Int) (i o : Nat) (h : Option Hd) : tikN n (N1 i o h) = N1 i o (h.map (tikH n)) := by
  funext j; unfold tikN N1
  split
  · simp only [Option.map_some, Option.some.injEq]; funext p; unfold tikD D1; split <;> rfl
  · rfl
theorem pol_N1 (iv : Int) (i o : Nat) (h : Option Hd) : polN iv (N1 i o h) = N1 i o (h.map (polH iv)) := by
  funext j; unfold polN N1
  split
  · simp only [Option.map_some, Option.some.injEq]; funext p; unfold polD D1; split <;> rfl
  · rfl
theorem snd_N1 {i o : Nat} {h : Hd} (hi : i < 256) (ho : o < 64) : sndK (N1 i o (some h)) (lks (N1 i o (some h))) = if 0 < h.l then [] else [((i : Int), h.x)] := by
  rw [lks_N1 hi]
  unfold sndK
  simp only [List.flatMap_cons, List.flatMap_nil, List.append_nil, Int.toNat_natCast]
  have e : N1 i o (some h) i = some (D1 o (some h)) := by unfold N1; rw [if_pos rfl]
  rw [e]
  simp only [orgs_D1 ho]
  unfold sndJ
  have e2 : due (D1 o (some h)) (o : Int) = if 0 < h.l then none else some h.x := by unfold due D1; rw [Int.toNat_natCast, if_pos rfl]
  rw [List.filterMap_cons, e2]
  by_cases hl : 0 < h.l
  · simp [hl]
  · simp [hl]
theorem snd_N1n {i o : Nat} (hi : i < 256) : sndK (N1 i o none) (lks (N1 i o none)) = [] := by
  rw [lks_N1 hi]
  unfold sndK
  simp only [List.flatMap_cons, List.flatMap_nil, List.append_nil, Int.toNat_natCast]
  have e : N1 i o none i = some (D1 o none) := by unfold N1; rw [if_pos rfl]
  rw [e]
  simp only [orgs_D1n]
  rfl
def HdOk (o : Nat) : Option Hd → Prop
  | none => True
  | some h => LaValid h.x ∧ h.x.o = (o : Int) ∧ 0 ≤ h.l ∧ h.l ≤ 65536
theorem ok_N1 {i o : Nat} {h : Option Hd} (hh : HdOk o h) : FnOk (N1 i o h) := by
  intro j D p x hN hD
  unfold N1 at hN
  split at hN
  · injection hN with hN; subst hN
    unfold D1 at hD
    split at hD
    · next e => subst e; subst hD; exact hh
    · cases hD
  · cases hN
theorem fs_N1 {i o : Nat} {h : Option Hd} {f : Nat → Nat} {k : Nat} (hk : FS (N1 i o h) f k) : k = f i := by
  obtain ⟨j, _, hs, rfl⟩ := hk
  unfold N1 at hs
  split at hs
  · next e => rw [e]
  · simp at hs
theorem grown_below {B k : Nat} {w w' : World} (hg : w.grownBy w' (some k)) (hk : B ≤ k) (hs : B ≤ w.heap.size) : Below B w w' :=
  (Below.refl B w).grown hg hs (fun j hj => by injection hj with hj; omega)

/-! ### In memory -/
structure One (B : Nat) (w : World) (g b : Nat) (iv : Int) (k i o : Nat) (h : Option Hd) : Prop where
  ex : ∃ f : Nat → Nat, f i = k ∧ FlAt w g b iv (N1 i o h) f
  bb : B ≤ b
  bk : B ≤ k
  bs : B ≤ w.heap.size
  ok : HdOk o h
section
variable {B : Nat} {w w' : World} {g b : Nat} {iv : Int} {k i o : Nat} {h : Option Hd}
theorem One.below (H : One B w g b iv k i o h) (hb : Below w.heap.size w w') : One B w' g b iv k i o h := by
  obtain ⟨f, e, F⟩ := H.ex
  exact ⟨⟨f, e, F.below hb⟩, H.bb, H.bk, Nat.le_trans H.bs hb.size, H.ok⟩
/-- A call on the flooder keeps what was read, and all below B. -/
structure Step1 (B : Nat) (w w' : World) : Prop where
  kq : Kq w w'
  bel : Below B w w'
def PollOne (B : Nat) (w : World) (g b : Nat) (iv : Int) (k i o : Nat) (h : Hd) (e : Ending) (w' : World) : Prop :=
  ∃ A c ls, e = .returned (.slice A (if 0 < h.l then 0 else 1) c) ∧ ls.length = (if 0 < h.l then 0 else 1) ∧ Rd w' A (sdV ls) ∧ sdP ls = (if 0 < h.l then [] else [((i : Int), h.x)]) ∧ One B w' g b iv k i o (some (polH iv h)) ∧ Step1 B w w'
theorem poll_one {h' : Hd} (H : One B w g b iv k i o (some h')) (hi : i < 256) (ho : o < 64) (hiv : 0 ≤ iv ∧ iv ≤ 65536) : Calls Try.prog 10 #[.pointer (some ⟨g, 0, none⟩)] w (PollOne B w g b iv k i o h') := by
  obtain ⟨f, e, F⟩ := H.ex
  refine (fpoll_any w g b iv _ f F (ok_N1 H.ok)).mono ?_
  rintro ee w' ⟨A, c, ls, rfl, hown, hp, hx, F', hk⟩
  rw [snd_N1 hi ho] at hp
  rw [pol_N1] at F'
  have hl : ls.length = (if 0 < h'.l then 0 else 1) := by
    have := congrArg List.length hp
    simp only [sdP, List.length_map] at this
    rw [this]; split <;> rfl
  refine ⟨A, c, ls, by rw [hl], hl, own_slice hown, hp, ⟨⟨f, e, F'⟩, H.bb, H.bk, Nat.le_trans H.bs hk.size, ?_⟩, hk.kq F.maps, hk.toBelow (fun j hj => by rw [fs_N1 hj, e]; exact H.bk) H.bs⟩
  obtain ⟨a1, a2, a3, a4⟩ := H.ok
  unfold polH
  refine ⟨by split <;> exact a1, by split <;> exact a2, by split <;> first | omega | (simp only; omega), by split <;> first | omega | (simp only; omega)⟩
theorem poll_none (H : One B w g b iv k i o none) (hi : i < 256) : Calls Try.prog 10 #[.pointer (some ⟨g, 0, none⟩)] w fun e w' => ∃ A c, e = .returned (.slice A 0 c) ∧ One B w' g b iv k i o none ∧ Step1 B w w' := by
  obtain ⟨f, e, F⟩ := H.ex
  refine (fpoll_any w g b iv _ f F (ok_N1 H.ok)).mono ?_
  rintro ee w' ⟨A, c, ls, rfl, hown, hp, hx, F', hk⟩
  rw [snd_N1n hi] at hp
  rw [pol_N1] at F'
  have hl : ls.length = 0 := by
    have := congrArg List.length hp
    simp only [sdP, List.length_map] at this
    exact this
  exact ⟨A, c, by rw [hl], ⟨⟨f, e, F'⟩, H.bb, H.bk, Nat.le_trans H.bs hk.size, trivial⟩, hk.kq F.maps, hk.toBelow (fun j hj => by rw [fs_N1 hj, e]; exact H.bk) H.bs⟩
theorem tick_one (H : One B w g b iv k i o h) (n : Int) (hn : 0 < n) : Calls Try.prog 9 #[.pointer (some ⟨g, 0, none⟩), .int .i64 n] w fun e w' => e = .returned (.tuple #[]) ∧ One B w' g b iv k i o (h.map (tikH n)) ∧ Step1 B w w' := by
  obtain ⟨f, e, F⟩ := H.ex
  refine (ftick_any w g b iv _ f F (ok_N1 H.ok) n hn).mono ?_
  rintro ee w' ⟨rfl, F', hk⟩
  rw [tik_N1] at F'
  refine ⟨rfl, ⟨⟨f, e, F'⟩, H.bb, H.bk, Nat.le_trans H.bs hk.size, ?_⟩, hk.kq F.maps, hk.toBelow (fun j hj => by rw [fs_N1 hj, e]; exact H.bk) H.bs⟩
  cases h with
  | none => trivial
  | some h =>
    obtain ⟨a1, a2, a3, a4⟩ := H.ok
    exact ⟨a1, a2, by simp only [tikH]; omega, by simp only [tikH]; omega⟩
theorem ack_one {h : Hd} (H : One B w g b iv k i o (some h)) (hi : i < 256) (ho : o < 64) (z : Int) (hz : z = (i : Int)) {v : Value} (hv : LaAt w v h.x) : Calls Try.prog 16 #[.pointer (some ⟨g, 0, none⟩), .int .i64 z, v] w fun e w' => e = .returned (.tuple #[.bool true, .int .i64 0]) ∧ One B w' g b iv k i o none ∧ Step1 B w w' := by
  subst hz
  obtain ⟨f, e, F⟩ := H.ex
  obtain ⟨a1, a2, a3, a4⟩ := H.ok
  have hNi : N1 i o (some h) i = some (D1 o (some h)) := by unfold N1; rw [if_pos rfl]
  have hd : dO (D1 o (some h)) h.x.o = some h := by unfold dO D1; rw [a2, if_pos ⟨by omega, by omega⟩, Int.toNat_natCast, if_pos rfl]
  have hB : ackB (D1 o (some h)) h.x = true := by unfold ackB; rw [hd]; exact sameB_refl' _
  refine (fack_any w g b iv _ f F i hi _ hNi v h.x hv (by rw [a2]; exact wf64 (by omega) (by omega))).mono ?_
  rintro ee w' ⟨rfl, F', hg⟩
  have e2 : setN (N1 i o (some h)) i (ackD (D1 o (some h)) h.x) = N1 i o none := by
    funext j
    unfold setN N1
    split
    · unfold ackD; rw [hB, if_pos rfl, a2, Int.toNat_natCast]
      congr 1; funext p; unfold D1; split <;> rfl
    · rfl
  rw [hB]
  rw [e2] at F'
  rw [e] at hg
  obtain ⟨M, hM, _⟩ := F.el i hi _ hNi
  rw [e] at hM
  exact ⟨rfl, ⟨⟨f, e, F'⟩, H.bb, H.bk, Nat.le_trans H.bs hg.size, trivial⟩, Kq.of_map hM hg, grown_below hg H.bk H.bs⟩
theorem links_one (H : One B w g b iv k i o h) (hi : i < 256) : Calls Try.prog 14 #[.pointer (some ⟨g, 0, none⟩)] w fun e w' => ∃ A c, e = .returned (.slice A 1 c) ∧ Below w.heap.size w w' := by
  obtain ⟨f, e, F⟩ := H.ex
  refine (flinks_any w g b iv _ f F).mono ?_
  rintro ee w' ⟨A, c, rfl, ho, hb⟩
  rw [lks_N1 hi]
  exact ⟨A, c, rfl, hb⟩
theorem pend_one {h : Hd} (H : One B w g b iv k i o (some h)) (hi : i < 256) (ho : o < 64) (z : Int) (hz : z = (i : Int)) : Calls Try.prog 11 #[.pointer (some ⟨g, 0, none⟩), .int .i64 z] w fun e w' => ∃ A c, e = .returned (.slice A 1 c) ∧ Below w.heap.size w w' := by
  subst hz
  obtain ⟨f, e, F⟩ := H.ex
  have hNi : N1 i o (some h) i = some (D1 o (some h)) := by unfold N1; rw [if_pos rfl]
  refine (fpend_any w g b iv _ f F (ok_N1 H.ok) i hi _ hNi).mono ?_
  rintro ee w' ⟨A, c, ls, rfl, _, _, _, hb⟩
  rw [orgs_D1 ho]
  exact ⟨A, c, rfl, hb⟩
/-- New, then Up with one advertisement without adjacencies and prefixes. -/
theorem up_one {B : Nat} {w1 : World} {iv : Int} {g b : Nat} (F : FlAt w1 g b iv (fun _ => none) (fun _ => 0)) (hbb : B ≤ b) (hB : B ≤ w1.heap.size) (i : Nat) (hi : i < 256) (z : Int) (hz : z = (i : Int)) (A : Option Addr) (c : Nat) (o : Nat) (zo : Int) (hzo : zo = (o : Int)) (s : Int) (ho : o < 64) (h1 : 1 ≤ s) (h2 : s ≤ 1073741824)
    (hA : Rd w1 A [.int .i64 zo, .int .i64 s, .int .i64 0, .bool false, .slice none 0 0, .slice none 0 0]) :
    Calls Try.prog 8 #[.pointer (some ⟨g, 0, none⟩), .int .i64 z, .slice A 1 c] w1 fun e w' => e = .returned (.int .i64 0) ∧ ∃ k, One B w' g b iv k i o (some ⟨⟨zo, s, 0, false, [], []⟩, 0⟩) ∧ Step1 B w1 w' := by
  subst hz
  have hv : LaValid ⟨zo, s, 0, false, [], []⟩ := bare_valid _ _ _ _ (by omega) (by omega) (by omega) (by omega) (by omega) (by omega)
  refine (fup_any w1 g b iv _ _ F i hi A 1 c [⟨⟨zo, s, 0, false, [], []⟩, none, 0, none, 0⟩] hA rfl (by omega) (fun x hx => ?_)).mono ?_
  · rw [List.mem_singleton.1 hx]
    exact ⟨bare_at _ _ _ _ _, hv⟩
  · rintro ee w' ⟨rfl, k, hk, F', hg⟩
    have e : setN (fun _ => none) i (offs (fun _ => none) (laL [⟨⟨zo, s, 0, false, [], []⟩, none, 0, none, 0⟩])) = N1 i o (some ⟨⟨zo, s, 0, false, [], []⟩, 0⟩) := by
      funext j
      unfold setN N1
      split
      · subst hzo; congr 1
      · rfl
    rw [e] at F'
    exact ⟨rfl, k, ⟨⟨_, by simp, F'⟩, hbb, by omega, Nat.le_trans hB hg.size, hv, hzo, by simp, by simp⟩, Kq.of_map F.nb hg, grown_below hg hbb hB⟩
end

end Go.Proofs.Ytgbcnglagnlmhaa

namespace Go.Proofs.Ytgbcnglagnlmhaa
set_option linter.unusedVariables false
open Go.RowKit Go.Maps Go.Sort

theorem Step1.trans {B : Nat} {w w' w'' : World} (h : Step1 B w w') (h2 : Step1 B w' w'') (hs : B ≤ w.heap.size) : Step1 B w w'' := ⟨h.kq.trans h2.kq, h.bel.trans h2.bel⟩
theorem sd_one {l : List Sd} {q : Int} {x : La} (h : sdP l = [(q, x)]) : ∃ A c B d, sdV l = [.int .i64 q, .int .i64 x.o, .int .i64 x.s, .int .i64 x.a, .bool x.ov, .slice A x.adj.length c, .slice B x.pre.length d] := by
  match l, h with
  | [s], h =>
    simp only [sdP, List.map_cons, List.map_nil, List.cons.injEq, Prod.mk.injEq, and_true] at h
    obtain ⟨rfl, rfl⟩ := h
    exact ⟨_, _, _, _, rfl⟩
theorem rd_cells {w : World} {b off : Nat} {xs : List Value} (h : Rd w (some ⟨b, off, none⟩) xs) (hn : 0 < xs.length) : ∀ (i : Nat) (u : Value), xs[i]? = some u → w.cell? ⟨b, off + i, none⟩ = some u := by
  obtain ⟨b', o', e, hz⟩ := rd_at h hn
  injection e with e
  injection e with e1 e2
  subst e1 e2
  exact hz
theorem poll_due {B : Nat} {w : World} {g b : Nat} {iv : Int} {k i o : Nat} {x : La} (H : One B w g b iv k i o (some ⟨x, 0⟩)) (hi : i < 256) (ho : o < 64) (hiv : 0 ≤ iv ∧ iv ≤ 65536) (z : Int) (hz : z = (i : Int)) : Calls Try.prog 10 #[.pointer (some ⟨g, 0, none⟩)] w fun e w' =>
    ∃ bb off c Aa ca Ba da, e = .returned (.slice (some ⟨bb, off, none⟩) 1 c) ∧ Rd w' (some ⟨bb, off, none⟩) [.int .i64 z, .int .i64 x.o, .int .i64 x.s, .int .i64 x.a, .bool x.ov, .slice Aa x.adj.length ca, .slice Ba x.pre.length da] ∧ One B w' g b iv k i o (some ⟨x, iv⟩) ∧ Step1 B w w' := by
  subst hz
  refine (poll_one H hi ho hiv).mono ?_
  rintro e w' ⟨A, c, ls, rfl, hl, hR, hp, O, T⟩
  rw [if_neg (by simp)] at hp
  obtain ⟨Aa, ca, Ba, da, e⟩ := sd_one hp
  rw [e] at hR
  obtain ⟨bb, off, rfl, _⟩ := rd_at hR (by simp)
  exact ⟨bb, off, c, Aa, ca, Ba, da, by simp, hR, O, T⟩
theorem poll_not {B : Nat} {w : World} {g b : Nat} {iv : Int} {k i o : Nat} {x : La} {l : Int} (H : One B w g b iv k i o (some ⟨x, l⟩)) (hl : 0 < l) (hi : i < 256) (ho : o < 64) (hiv : 0 ≤ iv ∧ iv ≤ 65536) : Calls Try.prog 10 #[.pointer (some ⟨g, 0, none⟩)] w fun e w' =>
    ∃ A c, e = .returned (.slice A 0 c) ∧ One B w' g b iv k i o (some ⟨x, l⟩) ∧ Step1 B w w' := by
  refine (poll_one H hi ho hiv).mono ?_
  rintro e w' ⟨A, c, ls, rfl, _, hR, hp, O, T⟩
  unfold polH at O
  rw [if_pos hl] at O
  exact ⟨A, c, by simp [hl], O, T⟩

set_option maxRecDepth 100000 in
set_option maxHeartbeats 6400000 in
theorem awake_any (w : World) : Calls Try.prog 6 #[] w fun e w' => e = .returned (.bool true) ∧ Below w.heap.size w w' := by
  go_enter Try.func6, Try.ntmps6
  go_wp2_with fail
  (with_reducible refine (fnew_any _ 5 (by omega) (by omega)).mono ?_)
  rintro e w1 ⟨rfl, F, B⟩
  have hb2 := below_new' w1 (.cells #[.int .i64 2, .int .i64 4, .int .i64 0, .bool false, .slice none 0 0, .slice none 0 0] 32)
  have X := Rd.lit w1 #[.int .i64 2, .int .i64 4, .int .i64 0, .bool false, .slice none 0 0, .slice none 0 0] 32
  replace F := F.below hb2
  replace B := B.trans (hb2.mono B.size)
  have U := up_one F (Nat.le_refl w.heap.size) B.size 3 (by omega) 3 rfl _ 1 2 2 rfl 4 (by omega) (by omega) (by omega) X
  replace U := Lib.hid U
  replace B := Lib.hid B
  clear F hb2 X
  go_wp2_with fail
  (with_reducible refine (U.out).mono ?_)
  rintro e w3 ⟨rfl, k, O3, T⟩
  clear U
  replace B := B.out.trans T.bel
  clear T
  have P := poll_due O3 (by omega) (by omega) (by omega) 3 rfl
  replace P := Lib.hid P
  clear O3
  replace B := Lib.hid B
  go_wp2_with fail
  (with_reducible refine (P.out).mono ?_)
  rintro e w4 ⟨b4, off4, c4, Aa, ca, Ba, da, rfl, R4, O4, T⟩
  clear P
  replace B := B.out.trans T.bel
  clear T
  have P := poll_not O4 (by omega) (by omega) (by omega) (by omega)
  replace P := Lib.hid P
  clear O4
  replace B := Lib.hid B
  replace R4 := Lib.hid R4
  go_wp2_with fail
  (with_reducible refine (P.out).mono ?_)
  rintro e w5 ⟨A5, c5, rfl, O5, T⟩
  clear P
  replace B := B.out.trans T.bel
  replace R4 := T.kq.rd R4.out
  clear T
  have P := tick_one O5 5 (by omega)
  replace P := Lib.hid P
  clear O5
  replace B := Lib.hid B
  replace R4 := Lib.hid R4
  go_wp2_with fail
  (with_reducible refine (P.out).mono ?_)
  rintro e w6 ⟨rfl, O6, T⟩
  clear P
  replace B := B.out.trans T.bel
  replace R4 := T.kq.rd R4.out
  clear T
  have P := poll_due O6 (by omega) (by omega) (by omega) 3 rfl
  replace P := Lib.hid P
  clear O6
  replace B := Lib.hid B
  replace R4 := Lib.hid R4
  go_wp2_with fail
  (with_reducible refine (P.out).mono ?_)
  rintro e w7 ⟨b7, off7, c7, Ab, cb, Bb, db, rfl, R7, O7, T⟩
  clear P R7
  replace B := B.out.trans T.bel
  replace R4 := T.kq.rd R4.out
  clear T
  have P := ack_one O7 (by omega) (by omega) 3 rfl (bare_at _ 2 4 0 false)
  replace P := Lib.hid P
  clear O7
  replace B := Lib.hid B
  replace R4 := Lib.hid R4
  go_wp2_with fail
  (with_reducible refine (P.out).mono ?_)
  rintro e w8 ⟨rfl, O8, T⟩
  clear P
  replace B := B.out.trans T.bel
  replace R4 := T.kq.rd R4.out
  clear T
  have P := tick_one O8 5 (by omega)
  replace P := Lib.hid P
  clear O8
  replace B := Lib.hid B
  replace R4 := Lib.hid R4
  go_wp2_with fail
  (with_reducible refine (P.out).mono ?_)
  rintro e w9 ⟨rfl, O9, T⟩
  clear P
  replace B := B.out.trans T.bel
  replace R4 := T.kq.rd R4.out
  clear T
  have P := poll_none O9 (by omega)
  replace P := Lib.hid P
  clear O9
  replace B := Lib.hid B
  have a0 := rd_cells R4 (by simp) 0 _ rfl
  have a1 := rd_cells R4 (by simp) 1 _ rfl
  have a2 := rd_cells R4 (by simp) 2 _ rfl
  simp only [Nat.add_zero] at a0
  have a3 : w9.cell? ⟨b4, off4 + 1 + 1, none⟩ = some (.int .i64 4) := a2
  clear R4
  go_wp2_with fail
  (with_reducible refine (P.out).mono ?_)
  rintro e w10 ⟨A10, c10, rfl, O10, T⟩
  clear P a0 a1 a2 a3
  replace B := B.out.trans T.bel
  clear T
  have P := links_one O10 (by omega)
  replace P := Lib.hid P
  clear O10
  replace B := Lib.hid B
  go_wp2_with fail
  (with_reducible refine (P.out).mono ?_)
  rintro e w11 ⟨A11, c11, rfl, hb⟩
  clear P
  go_wp2_with fail
  go_wp2_with fail
  go_ret
  exact ⟨rfl, B.out.trans (hb.mono B.out.size)⟩

end Go.Proofs.Ytgbcnglagnlmhaa

namespace Go.Proofs.Ytgbcnglagnlmhaa
set_option linter.unusedVariables false
open Go.RowKit Go.Maps Go.Sort

set_option maxHeartbeats 800000 in
theorem ftick_le (w : World) (p : Option Addr) (n : Int) (h0 : n ≤ 0) : Calls Try.prog 9 #[.pointer p, .int .i64 n] w fun e w' => e = .returned (.tuple #[]) ∧ w = w' := by
  go_enter Try.func9, Try.ntmps9
  go_wp2_with fail
  exact bodyPost_ret (v := .tuple #[]) (by simp [results, Try.results9, go_sem]) rfl ⟨rfl, rfl⟩
theorem tick_le1 {B : Nat} {w : World} {g b : Nat} {iv : Int} {k i o : Nat} {x : La} {l : Int} (H : One B w g b iv k i o (some ⟨x, l⟩)) (n : Int) (hn : 0 ≤ n) : Calls Try.prog 9 #[.pointer (some ⟨g, 0, none⟩), .int .i64 n] w fun e w' => e = .returned (.tuple #[]) ∧ One B w' g b iv k i o (some ⟨x, l - min n l⟩) ∧ Below B w w' := by
  by_cases h0 : n ≤ 0
  · refine (ftick_le w _ n h0).mono ?_
    rintro e w' ⟨rfl, rfl⟩
    obtain ⟨a1, a2, a3, a4⟩ := H.ok
    have e : l - min n l = l := by simp only at a3; omega
    rw [e]
    exact ⟨rfl, H, Below.refl _ _⟩
  · refine (tick_one H n (by omega)).mono ?_
    rintro e w' ⟨rfl, O, T⟩
    exact ⟨rfl, O, T.bel⟩

set_option maxRecDepth 100000 in
set_option maxHeartbeats 6400000 in
theorem repeats_law (w : World) (z : Int) (hz : (Lit.int .u8 z).wf = true) (A : Option Addr) (n c : Nat) (bs : List UInt8) (hA : Bs w A bs) (hn : bs.length = n) (hm : n ≤ maxLen) :
    Calls Try.prog 3 #[.int .u8 z, .slice A n c] w fun e w' => e = .returned (.bool true) ∧ Below w.heap.size w w' := by
  have ⟨hn0, hn1⟩ := bounds_u8 hz
  clear hz
  unfold maxLen at hm
  replace hA := Lib.hid hA
  replace hn := Lib.hid hn
  go_enter Try.func3, Try.ntmps3
  go_wp2_with fail
  (with_reducible refine (awake_any _).mono ?_)
  rintro e w1 ⟨rfl, B1⟩
  by_cases h40 : 40 < n
  · have h40b : decide ((40 : Int) < (n : Int)) = true := by simp; omega
    go_wp2_with fail
    go_ret
    exact ⟨rfl, B1⟩
  have h40b : decide ((40 : Int) < (n : Int)) = false := by simp; omega
  obtain ⟨q, hq⟩ : ∃ q, 1 + z % 10 = q := ⟨_, rfl⟩
  have hq0 : 1 ≤ q := by omega
  have hq1 : q ≤ 10 := by omega
  have N := fnew_any w1 q (by omega) (by omega)
  replace N := Lib.hid N
  have hs1 := B1.size
  go_wp2_with fail
  clear hq h40b hn0 hn1
  (with_reducible refine (N.out).mono ?_)
  rintro e w2 ⟨rfl, F, hb⟩
  clear N
  replace B1 := B1.trans (hb.mono hs1)
  clear hb
  generalize w1.heap.size = b at *
  generalize hg : b + 1 = g at *
  clear hg
  have hb2 := below_new' w2 (.cells #[.int .i64 1, .int .i64 1, .int .i64 0, .bool false, .slice none 0 0, .slice none 0 0] 32)
  have X := Rd.lit w2 #[.int .i64 1, .int .i64 1, .int .i64 0, .bool false, .slice none 0 0, .slice none 0 0] 32
  replace F := F.below hb2
  replace B1 := B1.trans (hb2.mono B1.size)
  have U := up_one F hs1 B1.size 7 (by omega) 7 rfl _ 1 1 1 rfl 1 (by omega) (by omega) (by omega) X
  replace U := Lib.hid U
  replace B1 := Lib.hid B1
  clear F hb2 X
  go_wp2_with fail
  (with_reducible refine (U.out).mono ?_)
  rintro e w3 ⟨rfl, kb, O, T⟩
  clear U
  replace B1 := B1.out.trans T.bel
  clear T
  replace B1 := Lib.hid B1
  replace O := Lib.hid O
  go_wp2_with fail
  go_loopw [8, 9] (fun v8 v9 wr => ∃ (k : Nat) (s l : Int), v9 = .int .i64 k ∧ v8 = .int .i64 s ∧ k ≤ n ∧ 0 ≤ s ∧ s ≤ 10 + 12 * k ∧ l = max 0 (q - s) ∧ Hid (One w.heap.size wr g b q kb 7 1 (some ⟨⟨1, 1, 0, false, [], []⟩, l⟩)) ∧ Hid (Below w.heap.size w wr)) (fun _ v9 _ => n - (intOf v9).toNat)
  case atStart => exact ⟨0, q, 0, rfl, rfl, by omega, by omega, by omega, by omega, O, B1⟩
  case round =>
    clear B1 O
    obtain ⟨k, s, l, rfl, rfl, hk, hs0, hs1', hl, O, B1⟩ := hrel
    by_cases hkn : k < n
    · have hkl : k < bs.length := by rw [hn.out]; exact hkn
      obtain ⟨ba, off, rfl, hc⟩ := rd_at (Rd.below hA.out B1.out) (by simp only [List.length_map]; omega)
      have x0 := hc k _ (by rw [List.getElem?_map, List.getElem?_eq_getElem hkl]; rfl)
      obtain ⟨t, ht⟩ : ∃ t : Nat, (bs[k]).toNat = t := ⟨_, rfl⟩
      have ht1 : t < 256 := by rw [← ht]; exact UInt8.toNat_lt _
      unfold u8v at x0
      rw [ht] at x0
      have hd0 : 0 ≤ (t : Int) % 12 := by omega
      have hd1 : (t : Int) % 12 < 12 := by omega
      clear hc ht
      have T := tick_le1 O.out ((t : Int) % 12) hd0
      replace T := Lib.hid T
      clear O
      replace hl := Lib.hid hl
      go_wp2_with fail
      clear x0
      (with_reducible refine (T.out).mono ?_)
      rintro e w4 ⟨rfl, O, hb⟩
      generalize (t : Int) % 12 = d at *
      clear T
      replace B1 := B1.out.trans hb
      clear hb
      replace B1 := Lib.hid B1
      have e1 : Hid (l - min d l = max 0 (q - (s + d))) := by show _ = _; have := hl.out; omega
      generalize l - min d l = l2 at *
      generalize hsd : s + d = s2 at *
      by_cases hz : l2 = 0
      · subst hz
        have hge : decide (q ≤ s2) = true := by have := e1.out; simp; omega
        have P := poll_due O (by omega) (by omega) (by omega) 7 rfl
        replace P := Lib.hid P
        clear O
        go_wp2_with fail
        (with_reducible refine (P.out).mono ?_)
        rintro e w5 ⟨b5, off5, c5, Aa, ca, Ba, da, rfl, R5, O5, T⟩
        clear P R5
        replace B1 := Lib.hid (B1.out.trans T.bel)
        replace O5 := Lib.hid O5
        clear T
        go_wp2_with fail
        go_round
        case rel => exact ⟨k + 1, 0, q, by go_num, rfl, by omega, by omega, by omega, by omega, O5, B1⟩
        case measure => simp [intOf]; omega
      · have hge : decide (q ≤ s2) = false := by have := e1.out; simp; omega
        have P := poll_not O (by have := e1.out; omega) (by omega) (by omega) (by omega)
        replace P := Lib.hid P
        clear O
        go_wp2_with fail
        (with_reducible refine (P.out).mono ?_)
        rintro e w5 ⟨A5, c5, rfl, O5, T⟩
        clear P
        replace B1 := Lib.hid (B1.out.trans T.bel)
        replace O5 := Lib.hid O5
        clear T
        go_wp2_with fail
        go_round
        case rel => exact ⟨k + 1, s2, l2, by go_num, rfl, by omega, by omega, by omega, e1.out, O5, B1⟩
        case measure => simp [intOf]; omega
    · obtain rfl : k = n := by omega
      have P := pend_one O.out (by omega) (by omega) 7 rfl
      replace P := Lib.hid P
      clear O hl
      go_wp2_with fail
      (with_reducible refine (P.out).mono ?_)
      rintro e w5 ⟨A5, c5, rfl, hb⟩
      clear P
      have B2 := B1.out.trans (hb.mono B1.out.size)
      go_wp2_with fail
      go_ret
      exact ⟨rfl, B2⟩

end Go.Proofs.Ytgbcnglagnlmhaa

namespace Go.Proofs.Ytgbcnglagnlmhaa.floodRepeats
open Go.ChangeShapes Go.WideShapes Go.ChangeAt Go.RowKit
set_option linter.unusedVariables false

set_option maxRecDepth 100000 in
theorem lifted (os : Os) (started : os.Started) (H : Type) (enc : TypeId × Value → H) :
    ReturnsInHanded {} Try.checked os 3 .any (Rows.floodRepeatsSpec.pre6 enc Try.prog Try.f3 Rows.floodRepeatsRow.domain false) (Rows.floodRepeatsSpec.post enc Try.prog Try.f3 false true false false) := by
  refine returnsInHanded_of_change (C := Try.checked) frame_own started (by kernel_rfl) Try.func3
    (ChangeSpec.witness6 (enc := enc) (C := Try.checked) false ⟨#[], #[.int .u8 0, .slice none 0 0], []⟩ 8 (by kernel_rfl) (by kernel_rfl) (by kernel_rfl) (by kernel_rfl)) ?_
  intro W base args ds gs before hval0 hW hcnd _
  have hval : ∀ (j : Nat) t v, Try.f3.params[j]? = some t → args[j]? = some v → Value.okWide Try.prog W .any base t v := hval0
  have hW' := hW
  obtain ⟨p, q, hA0, hV, rfl, hfz, hnd⟩ := hW
  have hA : DataW.TrodAll enc Try.prog W 0 (fun _ => true) true Try.f3.params.toList args.toList ds p := hA0
  rw [Try.params3] at hA hval
  obtain ⟨v0, vs0, d0, ds0, p0', q0', hargs, rfl, rfl, h0, r0⟩ := trodAll_cons hA
  obtain ⟨v1, vs1, d1, ds1, p1', q1', rfl, rfl, rfl, h1, r1⟩ := trodAll_cons r0
  obtain ⟨rfl, rfl, rfl⟩ := trodAll_nil r1
  obtain rfl : args = #[v0, v1] := by cases args; simp_all
  obtain ⟨rfl, rfl⟩ := trodVars_none hV
  have k0 := h0
  have lt0 : ∀ x ∈ p0', x.block < W.heap.size := by obtain ⟨m, hm⟩ := k0; exact DataW.trod_lt m _ _ _ hm
  have k1 := h1
  have lt1 : ∀ x ∈ p1', x.block < W.heap.size := by obtain ⟨m, hm⟩ := k1; exact DataW.trod_lt m _ _ _ hm
  obtain ⟨z0, rfl, _, _, hz0⟩ := open_int Try.underlying5 (hval 0 5 v0 rfl rfl) h0
  obtain ⟨A1, n1, c1, b1, rfl, hb1, hn1, hm1⟩ := arg_bytes Try.underlying22 (by kernel_rfl) Try.underlying5 (by kernel_rfl) (hval 1 22 v1 rfl rfl) h1
  clear hA0 hval0
  refine (repeats_law W z0 hz0 A1 n1 c1 b1 hb1 hn1 hm1).mono fun e W' ⟨he, bel⟩ => ?_
  subst he
  exact ⟨_, rfl, _, _, _, [], _, [], hW', trodAll_mk1 (shut_bool Try.underlying4 _), (trodAll_cons_mk (Below.trod frame_laidOut (by kernel_rfl) (of_decide_eq_true (by kernel_rfl)) k0 bel lt0) (trodAll_cons_mk (Below.trod frame_laidOut (by kernel_rfl) (of_decide_eq_true (by kernel_rfl)) k1 bel lt1) trodAll_mk0)), rfl, bel.frame _, fun h => by cases h⟩

theorem over : Rows.floodRepeatsRow.holds Try.pinned (OpenSpec.ofChange Rows.floodRepeatsSpec) :=
  OpenClaim.holds_of_wide 3 Try.f3 rfl rfl rfl rfl rfl rfl rfl ⟨rfl, rfl, rfl, rfl, rfl⟩ rfl rfl rfl rfl rfl (by kernel_rfl) Try.func3 (by kernel_rfl)
    (of_decide_eq_true (by kernel_rfl)) (by unfold Func.isWrapper; first | (rw [if_pos (by decide +kernel)]; kernel_rfl) | (rw [if_neg (by decide +kernel)]; exact ⟨rfl, rfl⟩))
    (fun os started H enc _ => lifted os started H enc)

theorem proved : Rows.FloodRepeatsSaid := over
#print axioms proved
end Go.Proofs.Ytgbcnglagnlmhaa.floodRepeats
