/-
  lsa.Encode: what its captured variables hold; the contracts of its two closures.
-/
import Derived.Test.YtnfldccaeibcpaaValW
import Derived.Test.YtnfldccaeibcpaaCodN
namespace Go.Proofs.Ytnfldccaeibcpaa
set_option linter.unusedVariables false
open Go.RowKit

theorem recT : ElemT Try.prog 136 139 (.agg #[.int .i64 0, .slice none 0 0]) 2 32 := ⟨Try.underlying136, by kernel_rfl, rfl, by omega⟩

/-- The value lies in none of the boxes. -/
def Far (v : Value) (bs : List (Nat × List Value)) : Prop := ∀ x ∈ bs, v.ownBlock ≠ some x.1
abbrev rcv (r : Rc) : Value := .slice r.A r.n r.c

/-- The captured slice (block g1), the captured error (block g2), what the slice holds; boxes of the caller; slices that it reads. -/
structure EncC (W w : World) (g1 g2 : Nat) (bs : List (Nat × List Value)) (rd : List (Option Addr × List Value)) (v : Value) (rs : List Rc) : Prop where
  S : St W w ((g1, [v]) :: (g2, [.int .i64 0]) :: bs) rd
  own : w.ownsRow W.heap.size 139 2 v rs.length (recV rs)
  recs : ∀ r ∈ rs, RcOwn w W.heap.size 5 r
  far : Far v ((g1, [v]) :: (g2, [.int .i64 0]) :: bs)
  rfar : ∀ r ∈ rs, Far (rcv r) ((g1, [v]) :: (g2, [.int .i64 0]) :: bs)
  lo1 : W.heap.size ≤ g1
  lo2 : W.heap.size ≤ g2
  ne : g1 ≠ g2
  neb : ∀ x ∈ bs, x.1 ≠ g1 ∧ x.1 ≠ g2
  pos : ∀ x ∈ bs, 0 < x.2.length
/-- .. and what the records say. -/
def EncS (W w : World) (g1 g2 : Nat) (bs : List (Nat × List Value)) (rd : List (Option Addr × List Value)) (l : List Rec) : Prop :=
  ∃ v rs, EncC W w g1 g2 bs rd v rs ∧ rs.map dat = l

section
variable {W w w' : World} {g1 g2 : Nat} {bs : List (Nat × List Value)} {rd : List (Option Addr × List Value)} {v : Value} {rs : List Rc} {l : List Rec}
theorem own_lt2 {w : World} {base : Nat} {e : TypeId} {size : Nat} {v : Value} {n : Nat} {xs : List Value} (h : w.ownsRow base e size v n xs) {g : Nat} (hg : w.heap.size ≤ g) : v.ownBlock ≠ some g := fun e => by
  have := (h.lt g e).2
  omega
theorem EncC.call (h : EncC W w g1 g2 bs rd v rs) (hb : Below w.heap.size w w') : EncC W w' g1 g2 bs rd v rs :=
  { h with S := h.S.call hb, own := own_below h.own hb, recs := fun r hr => (h.recs r hr).below hb }
theorem EncS.call (h : EncS W w g1 g2 bs rd l) (hb : Below w.heap.size w w') : EncS W w' g1 g2 bs rd l := by
  obtain ⟨v, rs, h, e⟩ := h
  exact ⟨v, rs, h.call hb, e⟩
/-- At the beginning: nothing in the slice. -/
theorem EncS.start (h : St W w bs rd) (hp : ∀ x ∈ bs, 0 < x.2.length) (t1 t2 : TypeId) : EncS W ((w.alloc (.cells #[.slice none 0 0] t1)).alloc (.cells #[.int .i64 0] t2)) w.heap.size (w.heap.size + 1) bs rd [] := by
  have S2 := (h.new' #[.slice none 0 0] t1 w.heap.size _ rfl rfl).new' #[.int .i64 0] t2 (w.heap.size + 1) _ (by simp) rfl
  have lb : ∀ x ∈ bs, x.1 < w.heap.size := fun x hx => by
    obtain ⟨i, hi, he⟩ := List.getElem_of_mem hx
    exact (h.bx i x (by simp [List.getElem?_eq_getElem hi, he])).lt (hp x hx)
  have hsz := h.b.size
  refine ⟨.slice none 0 0, [], ⟨⟨S2.b, fun i x hx => ?_, S2.rd⟩, World.ownsRow_nil _ _ _ _, by simp, fun x hx => by simp [Value.ownBlock], by simp, hsz, by omega, by omega, fun x hx => by have := lb x hx; omega, hp⟩, rfl⟩
  rcases i with _ | _ | i
  · simp at hx; subst hx
    exact S2.box 1 rfl
  · simp at hx; subst hx
    exact S2.box 0 rfl
  · exact S2.bx (i + 2) x (by simpa using hx)
/-- A new box of the caller. -/
theorem EncS.new (h : EncS W w g1 g2 bs rd l) (cs : Array Value) (t : TypeId) (hc : 0 < cs.size) : EncS W (w.alloc (.cells cs t)) g1 g2 ((w.heap.size, cs.toList) :: bs) rd l := by
  obtain ⟨v, rs, h, e⟩ := h
  have h1 := h.call (below_new' w (.cells cs t))
  have l1 := (h.S.box 0 rfl).lt (by simp)
  have l2 := (h.S.box 1 rfl).lt (by simp)
  refine ⟨v, rs, { h1 with S := ?_, far := ?_, rfar := ?_, neb := ?_, pos := ?_ }, e⟩
  · refine ⟨h1.S.b, fun i x hx => ?_, h1.S.rd⟩
    rcases i with _ | _ | _ | i
    · simp at hx; subst hx; exact h1.S.box 0 rfl
    · simp at hx; subst hx; exact h1.S.box 1 rfl
    · simp at hx; subst hx; exact Box.new w cs t
    · exact h1.S.bx (i + 2) x (by simpa using hx)
  · intro x hx
    simp only [List.mem_cons] at hx
    rcases hx with rfl | rfl | rfl | hx
    · exact h.far _ (by simp)
    · exact h.far _ (by simp)
    · exact own_lt2 h.own (Nat.le_refl _)
    · exact h.far x (by simp [hx])
  · intro r hr x hx
    simp only [List.mem_cons] at hx
    rcases hx with rfl | rfl | rfl | hx
    · exact h.rfar r hr _ (by simp)
    · exact h.rfar r hr _ (by simp)
    · exact own_lt2 (h.recs r hr) (Nat.le_refl _)
    · exact h.rfar r hr x (by simp [hx])
  · intro x hx
    rcases List.mem_cons.1 hx with rfl | hx
    · constructor
      · simp only; omega
      · simp only; omega
    · exact h.neb x hx
  · intro x hx
    rcases List.mem_cons.1 hx with rfl | hx
    · simpa using hc
    · exact h.pos x hx
theorem EncS.drop (h : EncS W w g1 g2 bs rd l) (bs' : List (Nat × List Value)) (hs : ∀ x ∈ bs', x ∈ bs) : EncS W w g1 g2 bs' rd l := by
  obtain ⟨v, rs, h, e⟩ := h
  have hm : ∀ x ∈ (g1, [v]) :: (g2, [.int .i64 0]) :: bs', x ∈ (g1, [v]) :: (g2, [.int .i64 0]) :: bs := by
    intro x hx
    simp only [List.mem_cons] at hx ⊢
    rcases hx with hx | hx | hx
    · exact .inl hx
    · exact .inr (.inl hx)
    · exact .inr (.inr (hs x hx))
  exact ⟨v, rs, { h with S := h.S.keepBoxes _ hm, far := fun x hx => h.far x (hm x hx), rfar := fun r hr x hx => h.rfar r hr x (hm x hx), neb := fun x hx => h.neb x (hs x hx), pos := fun x hx => h.pos x (hs x hx) }, e⟩
theorem EncS.c (h : EncS W w g1 g2 bs rd l) (i j : Nat) {g : Nat} {cs : List Value} {u : Value} (hi : bs[i]? = some (g, cs)) (hj : cs[j]? = some u) : w.cell? ⟨g, j, none⟩ = some u := by
  obtain ⟨v, rs, h, e⟩ := h
  exact h.S.c (i + 2) j (by simpa using hi) hj
theorem EncS.r (h : EncS W w g1 g2 bs rd l) (i : Nat) {A : Option Addr} {xs : List Value} (hi : rd[i]? = some (A, xs)) : Rd w A xs := by
  obtain ⟨v, rs, h, e⟩ := h
  exact h.S.r i hi
theorem EncS.b (h : EncS W w g1 g2 bs rd l) : Below W.heap.size W w := by
  obtain ⟨v, rs, h, e⟩ := h
  exact h.S.b
/-- The captured slice was appended to, and stored. -/
theorem EncC.begun (h : EncC W w g1 g2 bs rd v rs) (kind : Int) {v' : Value} (hown : w'.ownsRow W.heap.size 139 2 v' (rs.length + 1) (recV rs ++ [.int .i64 kind, .slice none 0 0]))
    (hg : w.grownBy w' v.ownBlock) (hv : v'.ownBlock = v.ownBlock ∨ v'.ownBlock = some w.heap.size) : EncC W (w'.setCell ⟨g1, 0, none⟩ v') g1 g2 bs rd v' (rs ++ [⟨kind, none, 0, 0, []⟩]) := by
  have l1 := (h.S.box 0 rfl).lt (by simp)
  have l2 := (h.S.box 1 rfl).lt (by simp)
  have lb : ∀ x ∈ bs, x.1 < w.heap.size := fun x hx => by
    obtain ⟨i, hi, he⟩ := List.getElem_of_mem hx
    exact (h.S.bx (i + 2) x (by simp [List.getElem?_eq_getElem hi, he])).lt (h.pos x hx)
  have hfar : ∀ g, g < w.heap.size → v.ownBlock ≠ some g → v'.ownBlock ≠ some g := by
    intro g hlt hn e
    rcases hv with hv | hv
    · exact hn (hv ▸ e)
    · rw [hv] at e; injection e with e; omega
  have f1 := h.far (g1, [v]) (by simp)
  have f2 := h.far (g2, [.int .i64 0]) (by simp)
  have k1 : Box w' g1 [v] := (h.S.box 0 rfl).kept hg (fun e => f1 e.symm) (by simp)
  have k2 : Box w' g2 [.int .i64 0] := (h.S.box 1 rfl).kept hg (fun e => f2 e.symm) (by simp)
  have hbel : Below W.heap.size W w' := below_own h.S.b h.own hg (Nat.le_refl _) h.S.b.size
  refine ⟨⟨hbel.setCell (p := ⟨g1, 0, none⟩) h.lo1 _, ?_, h.S.rd⟩, ?_, ?_, ?_, ?_, h.lo1, h.lo2, h.ne, h.neb, h.pos⟩
  · intro i x hx
    rcases i with _ | _ | i
    · simp at hx; subst hx
      exact k1.set 0 v' (by simp)
    · simp at hx; subst hx
      exact k2.far _ (by simpa using h.ne)
    · have hx' : bs[i]? = some x := by simpa using hx
      have hm := List.mem_of_getElem? hx'
      have := h.S.bx (i + 2) x (by simpa using hx)
      exact (this.kept hg (fun e => h.far x (by simp [hm]) e.symm) (h.pos x hm)).far _ (fun e => (h.neb x hm).1 e.symm)
  · have he : recV (rs ++ [⟨kind, none, 0, 0, []⟩]) = recV rs ++ [.int .i64 kind, .slice none 0 0] := by rw [recV_append]; rfl
    rw [he, List.length_append]
    exact hown.kept (grownBy_set w' g1 0 v') (.inr (hfar g1 l1 f1))
  · intro r hr
    rcases List.mem_append.1 hr with hr | hr
    · have h1 := RcOwn.grown (h.recs r hr) h.own (by decide) hg
      exact h1.kept (grownBy_set w' g1 0 v') (.inr (h.rfar r hr (g1, [v]) (by simp)))
    · simp at hr; subst hr
      exact World.ownsRow_nil _ _ _ _
  · intro x hx
    simp only [List.mem_cons] at hx
    rcases hx with rfl | rfl | hx
    · exact hfar g1 l1 f1
    · exact hfar g2 l2 f2
    · exact hfar x.1 (lb x hx) (h.far x (by simp [hx]))
  · intro r hr x hx
    rcases List.mem_append.1 hr with hr | hr
    · simp only [List.mem_cons] at hx
      rcases hx with rfl | rfl | hx
      · exact h.rfar r hr (g1, [v]) (by simp)
      · exact h.rfar r hr (g2, [.int .i64 0]) (by simp)
      · exact h.rfar r hr x (by simp [hx])
    · simp at hr; subst hr
      simp [Value.ownBlock]
/-- The last record got other bytes; the error was stored. -/
theorem EncC.puts {g n cap : Nat} {rs0 : List Rc} {r r' : Rc} (h : EncC W w g1 g2 bs rd (.slice (some ⟨g, 0, none⟩) n cap) (rs0 ++ [r])) (ht : r'.t = r.t) (hr' : RcOwn w W.heap.size 5 r')
    (hf' : Far (rcv r') ((g1, [.slice (some ⟨g, 0, none⟩) n cap]) :: (g2, [.int .i64 0]) :: bs)) :
    EncC W ((w.setCell ⟨g2, 0, none⟩ (.int .i64 0)).setCell ⟨g, rs0.length * 2 + 1, none⟩ (rcv r')) g1 g2 bs rd (.slice (some ⟨g, 0, none⟩) n cap) (rs0 ++ [r']) := by
  have fg1 : g ≠ g1 := fun e => h.far (g1, [.slice (some ⟨g, 0, none⟩) n cap]) (by simp) (by simp [Value.ownBlock, e])
  have fg2 : g ≠ g2 := fun e => h.far (g2, [.int .i64 0]) (by simp) (by simp [Value.ownBlock, e])
  have fgb : ∀ x ∈ bs, g ≠ x.1 := fun x hx e => h.far x (by simp [hx]) (by simp [Value.ownBlock, e])
  have hgl := h.own.lt g rfl
  obtain rfl : n = (rs0 ++ [r]).length := by
    rcases h.own.2 with ⟨e, _⟩ | ⟨g', cap', cur, e, _⟩
    · cases e
    · simp only [Value.slice.injEq] at e; exact e.2.1
  have hS : St W (w.setCell ⟨g2, 0, none⟩ (.int .i64 0)) ((g1, [.slice (some ⟨g, 0, none⟩) (rs0 ++ [r]).length cap]) :: (g2, [.int .i64 0]) :: bs) rd :=
    h.S.set 1 0 (.int .i64 0) rfl (by simp) h.lo2 (by
      intro x hx
      simp only [List.eraseIdx_cons_succ, List.eraseIdx_cons_zero, List.mem_cons] at hx
      rcases hx with rfl | hx
      · exact h.ne
      · exact (h.neb x hx).2) _ rfl
  have o1 := h.own.kept (grownBy_set w g2 0 (.int .i64 0)) (.inr (by simpa [Value.ownBlock] using fg2))
  have o2 := (o1.stored (rs0.length * 2 + 1) (rcv r')).1
  have R1 : ∀ q, RcOwn w W.heap.size 5 q → (rcv q).ownBlock ≠ some g2 → RcOwn ((w.setCell ⟨g2, 0, none⟩ (.int .i64 0)).setCell ⟨g, rs0.length * 2 + 1, none⟩ (rcv r')) W.heap.size 5 q := by
    intro q hq hne
    have q1 : RcOwn (w.setCell ⟨g2, 0, none⟩ (.int .i64 0)) W.heap.size 5 q := hq.kept (grownBy_set w g2 0 (.int .i64 0)) (.inr hne)
    exact q1.grown o1 (by decide) (o1.stored (rs0.length * 2 + 1) (rcv r')).2
  refine ⟨⟨hS.b.setCell (p := ⟨g, _, none⟩) hgl.1 _, ?_, h.S.rd⟩, ?_, ?_, h.far, ?_, h.lo1, h.lo2, h.ne, h.neb, h.pos⟩
  · intro i x hx
    have hne : g ≠ x.1 := by
      rcases i with _ | _ | i
      · simp at hx; subst hx; exact fg1
      · simp at hx; subst hx; exact fg2
      · exact fgb x (List.mem_of_getElem? (by simpa using hx))
    exact (hS.bx i x hx).far _ hne
  · have e : (recV (rs0 ++ [r])).set (rs0.length * 2 + 1) (rcv r') = recV (rs0 ++ [r']) := by
      rw [recV_append, recV_append, List.set_append_right _ _ (by rw [recV_len]; omega), recV_len, show rs0.length * 2 + 1 - rs0.length * 2 = 1 by omega]
      simp [recV, ht]
    rw [e, List.length_append] at o2
    rw [List.length_append, List.length_append]
    exact o2
  · intro q hq
    rcases List.mem_append.1 hq with hq | hq
    · exact R1 q (h.recs q (by simp [hq])) (h.rfar q (by simp [hq]) (g2, [.int .i64 0]) (by simp))
    · simp at hq; subst hq
      exact R1 _ hr' (hf' (g2, [.int .i64 0]) (by simp))
  · intro q hq
    rcases List.mem_append.1 hq with hq | hq
    · exact h.rfar q (by simp [hq])
    · simp at hq; subst hq
      exact hf'
end

end Go.Proofs.Ytnfldccaeibcpaa
