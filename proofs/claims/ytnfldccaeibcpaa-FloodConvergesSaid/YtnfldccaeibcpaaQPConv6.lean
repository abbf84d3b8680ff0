/-
  The texts Fn1, Fn2, Fn7, Fn3, Fn4, Fn6, one after the other.
-/
import Derived.Test.YtnfldccaeibcpaaWin
import Derived.Test.YtnfldccaeibcpaaQPConv5
import Derived.Test.YtnfldccaeibcpaaQPConv4
import Derived.Test.YtnfldccaeibcpaaQPConv1
import Derived.BigQuiet
import Derived.Deep.RegionLaw
import Derived.Deep.DeepCutAuto
import Derived.Test.YtnfldccaeibcpaaOrdZ
namespace Go.Proofs.Ytnfldccaeibcpaa
set_option linter.unusedVariables false
open Go.RowKit Go.Maps

/-! ### What a step of the network may turn -/
/-- Map blocks of one colour, the network's own box, the messages' block (from q on). -/
structure Nf (col : Nat → Nat) (c g q : Nat) (w w' : World) : Prop where
  os : w'.os = w.os
  tape : w'.tape = w.tape
  output : w'.output = w.output
  size : w.heap.size ≤ w'.heap.size
  block : ∀ k, k < w.heap.size → w'.heap[k]? = w.heap[k]? ∨ (∃ es ck, w.heap[k]? = some (.map es ck) ∧ col k = c) ∨ k = g ∨ (q ≤ k ∧ ∃ cur fr, w.heap[k]? = some (.cells cur 47 fr))
/-- The network's box is of its type. -/
def NetB (w : World) (g : Nat) : Prop := ∃ cur fr, w.heap[g]? = some (.cells cur 39 fr)
section
variable {col : Nat → Nat} {c g q : Nat} {w w' : World}
theorem Nf.of_below (hb : Below w.heap.size w w') : Nf col c g q w w' := ⟨hb.os, hb.tape, hb.output, hb.size, fun k hk => .inl (hb.block k hk)⟩
theorem Nf.cells (h : Nf col c g q w w') (hg : NetB w g) {k : Nat} {cur : Array Value} {T : TypeId} {fr : Nat × Nat} (hk : w.heap[k]? = some (.cells cur T fr)) (h1 : T ≠ 39) (h2 : T ≠ 47) : w'.heap[k]? = w.heap[k]? := by
  rcases h.block k (Array.getElem?_eq_some_iff.1 hk).1 with e | ⟨es, ck, e, _⟩ | rfl | ⟨_, cur', fr', e⟩
  · exact e
  · rw [hk] at e; cases e
  · obtain ⟨cur', fr', e⟩ := hg
    rw [hk] at e
    injection e with e
    injection e with _ e _
    exact absurd e h1
  · rw [hk] at e
    injection e with e
    injection e with _ e _
    exact absurd e h2
theorem Nf.map (h : Nf col c g q w w') (hg : NetB w g) {k : Nat} (hk : ∃ es ck, w.heap[k]? = some (.map es ck)) (hc : col k ≠ c) : w'.heap[k]? = w.heap[k]? := by
  obtain ⟨es, ck, hk⟩ := hk
  rcases h.block k (Array.getElem?_eq_some_iff.1 hk).1 with e | ⟨_, _, _, e⟩ | rfl | ⟨_, cur', fr', e⟩
  · exact e
  · exact absurd e hc
  · obtain ⟨cur', fr', e⟩ := hg
    rw [hk] at e; cases e
  · rw [hk] at e; cases e
theorem Nf.low (h : Nf col c g q w w') {k : Nat} (hk : k < w.heap.size) (hm : ∀ es ck, w.heap[k]? ≠ some (.map es ck)) (hq : k < q) (hkg : k ≠ g) : w'.heap[k]? = w.heap[k]? := by
  rcases h.block k hk with e | ⟨es, ck, e, _⟩ | e | ⟨e, _⟩
  · exact e
  · exact absurd e (hm es ck)
  · exact absurd e hkg
  · omega
theorem Nf.rd (h : Nf col c g q w w') (hg : NetB w g) {A : Option Addr} {xs : List Value} {n : Nat} {T : TypeId} (hr : Rd w A xs) (ht : Fd.TyF w A n T) (hn : 0 < xs.length → 0 < n) (h1 : T ≠ 39) (h2 : T ≠ 47) : Rd w' A xs := by
  intro hx
  obtain ⟨ad, e, hc⟩ := hr hx
  obtain ⟨cur, fr, hk⟩ := ht (hn hx) ad e
  refine ⟨ad, e, fun j u hu => ?_⟩
  have e2 : w'.cell? (ad.add j) = w.cell? (ad.add j) := World.cell?_of_block (by rw [addr_add_block]; exact h.cells hg hk h1 h2)
  rw [e2]
  exact hc j u hu
theorem Nf.ty (h : Nf col c g q w w') (hg : NetB w g) {A : Option Addr} {n : Nat} {T : TypeId} (ht : Fd.TyF w A n T) (h1 : T ≠ 39) (h2 : T ≠ 47) : Fd.TyF w' A n T :=
  ht.keep fun k cs fr _ hk => h.cells hg hk h1 h2
theorem Nf.la (h : Nf col c g q w w') (hg : NetB w g) {x : La} {A : Option Addr} {c1 : Nat} {B : Option Addr} {d : Nat} (hl : Fd.LaTf w x A c1 B d) : Fd.LaTf w' x A c1 B d := by
  obtain ⟨⟨A', c', B', d', e, r1, r2, r3⟩, t1, t2⟩ := hl
  simp only [laV, Value.agg.injEq, Array.mk.injEq, List.cons.injEq, Value.slice.injEq, true_and, and_true] at e
  obtain ⟨⟨rfl, rfl⟩, rfl, rfl⟩ := e
  exact ⟨⟨_, _, _, _, rfl, h.rd hg r1 t1 (by rw [adV_len]; omega) (by decide) (by decide), h.rd hg r2 t2 (by rw [pfV_len]; omega) (by decide) (by decide), r3⟩, h.ty hg t1 (by decide) (by decide), h.ty hg t2 (by decide) (by decide)⟩
theorem Nf.own (h : Nf col c g q w w') (hg : NetB w g) {base : Nat} {T : TypeId} {size : Nat} {v : Value} {n : Nat} {xs : List Value} (ho : w.ownsRow base T size v n xs) (h1 : T ≠ 39) (h2 : T ≠ 47) : w'.ownsRow base T size v n xs := by
  refine ⟨ho.1, ?_⟩
  rcases ho.2 with e | ⟨k, cap, cur, rfl, hgb, hh, r⟩
  · exact .inl e
  · exact .inr ⟨k, cap, cur, rfl, hgb, (h.cells hg hh h1 h2).trans hh, r⟩
theorem Nf.el0 (h : Nf col c g q w w') (hg : NetB w g) {v : Option Value} {x : Option Hd} (he : ElAt w v x) : ElAt w' v x := by
  match v, x, he with
  | none, none, _ => trivial
  | some v, some x, ⟨A, c1, B, d, e, hl⟩ => exact ⟨A, c1, B, d, e, h.la hg hl⟩
theorem Nf.db (h : Nf col c g q w w') (hg : NetB w g) {gd b : Nat} {N : Db} (hd : DbAt w gd b N) (hc : col b ≠ c) (h1 : gd < q) (h2 : gd ≠ g) : DbAt w' gd b N := by
  obtain ⟨⟨M, ⟨D, ⟨es, ck, hb, r⟩, hD⟩, he⟩, hcell⟩ := hd
  refine ⟨⟨M, ⟨D, ⟨es, ck, (h.map hg ⟨es, ck, hb⟩ hc).trans hb, r⟩, hD⟩, fun i hi => ?_⟩, ?_⟩
  · exact h.el0 hg (he i hi)
  · rw [World.cell?_of_block (a := ⟨gd, 0, none⟩) (h.low (World.block_lt_of_cell? _ _ hcell) (Fd.not_map_of_cell hcell) h1 h2)]
    exact hcell
theorem Nf.el (h : Nf col c g q w w') (hg : NetB w g) {v : Option Value} {x : Option Fd.Hd} (he : Fd.ElAt w v x) : Fd.ElAt w' v x := by
  match v, x, he with
  | none, none, _ => trivial
  | some v, some x, ⟨A, c1, B, d, e, hl⟩ => exact ⟨A, c1, B, d, e, h.la hg hl⟩
theorem Nf.mp (h : Nf col c g q w w') (hg : NetB w g) {B b : Nat} {M : Int → Option Value} (hm : Fd.MapIs B w b M) (hc : col b ≠ c) : Fd.MapIs B w' b M := by
  obtain ⟨D, ⟨es, ck, hb, r⟩, hD⟩ := hm
  exact ⟨D, ⟨es, ck, (h.map hg ⟨es, ck, hb⟩ hc).trans hb, r⟩, hD⟩
theorem Nf.fl (h : Nf col c g q w w') (hg : NetB w g) {gf b : Nat} {iv : Int} {N : Fd.Fn} {f : Nat → Nat} (hf : Fd.FlAt w gf b iv N f) (hc : col b ≠ c) (hcf : ∀ i, i < 256 → (N i).isSome = true → col (f i) ≠ c) (h1 : gf < q) (h2 : gf ≠ g) : Fd.FlAt w' gf b iv N f := by
  have hcl : ∀ j v, w.cell? ⟨gf, j, none⟩ = some v → w'.cell? ⟨gf, j, none⟩ = some v := fun j v e => by
    rw [World.cell?_of_block (a := ⟨gf, j, none⟩) (h.low (World.block_lt_of_cell? _ _ e) (Fd.not_map_of_cell e) h1 h2)]
    exact e
  refine ⟨hcl _ _ hf.c0, hcl _ _ hf.c1, h.mp hg hf.nb hc, fun i hi D hD => ?_, hf.ne, hf.inj⟩
  obtain ⟨M, hm, he⟩ := hf.el i hi D hD
  exact ⟨M, h.mp hg hm (hcf i hi (by rw [hD]; rfl)), fun o ho => h.el hg (he o ho)⟩
/-- A call that turns maps of one colour alone. -/
theorem Nf.of_kf {S : Nat → Prop} (hk : Fd.Kf S w w') (hS : ∀ k, S k → (∃ es ck, w.heap[k]? = some (.map es ck)) ∧ col k = c) : Nf col c g q w w' :=
  ⟨hk.os, hk.tape, hk.output, hk.size, fun k hlt => by
    by_cases e : S k
    · obtain ⟨⟨es, ck, hm⟩, hc⟩ := hS k e
      exact .inr (.inl ⟨es, ck, hm, hc⟩)
    · exact .inl (hk.block k hlt e)⟩
theorem Nf.of_row {k : Nat} (hg : w.grownBy w' (some k)) (hk : ∃ es ck, w.heap[k]? = some (.map es ck)) (hc : col k = c) : Nf col c g q w w' :=
  ⟨hg.os, hg.tape, hg.output, hg.size, fun j hj => by
    by_cases e : j = k
    · subst e
      obtain ⟨es, ck, hk⟩ := hk
      exact .inr (.inl ⟨es, ck, hk, hc⟩)
    · exact .inl (hg.block j hj (fun e2 => e (by injection e2)))⟩
end

end Go.Proofs.Ytnfldccaeibcpaa

namespace Go.Proofs.Ytnfldccaeibcpaa
set_option linter.unusedVariables false
open Go.RowKit Go.Maps

/-- A message as it lies in memory. -/
structure Mx where
  q : Nat
  t : Nat
  k : Bool
  x : Fd.Lx
def mxL (s : Mx) : List Value := [.int .i64 (s.q : Int), .int .i64 (s.t : Int), .bool s.k, .int .i64 s.x.y.o, .int .i64 s.x.y.s, .int .i64 s.x.y.a, .bool s.x.y.ov, .slice s.x.A s.x.y.adj.length s.x.c, .slice s.x.B s.x.y.pre.length s.x.d]
def mxV : List Mx → List Value
  | [] => []
  | s :: l => mxL s ++ mxV l
def mxP (s : Mx) : Msg := ⟨s.q, s.t, s.k, s.x.y⟩
theorem mxV_len (l : List Mx) : (mxV l).length = l.length * 9 := by
  induction l with
  | nil => rfl
  | cons r l ih => simp only [mxV, mxL, List.length_append, List.length_cons, List.length_nil, ih]; omega
theorem mxV_append (a b : List Mx) : mxV (a ++ b) = mxV a ++ mxV b := by
  induction a with
  | nil => rfl
  | cons r l ih => simp only [List.cons_append, mxV, ih, List.append_assoc]
theorem mxV_take (l : List Mx) : ∀ k, mxV (l.take k) = (mxV l).take (k * 9) := by
  induction l with
  | nil => intro k; simp [mxV]
  | cons s l ih =>
    intro k
    cases k with
    | zero => simp [mxV]
    | succ k =>
      rw [List.take_succ_cons]
      show mxL s ++ mxV (l.take k) = (mxL s ++ mxV l).take ((k + 1) * 9)
      rw [ih k, List.take_append, List.take_of_length_le (l := mxL s) (by simp [mxL]; omega)]
      congr 2
      simp [mxL]; omega
theorem mxV_drop (l : List Mx) : ∀ k, mxV (l.drop k) = (mxV l).drop (k * 9) := by
  induction l with
  | nil => intro k; simp [mxV]
  | cons s l ih =>
    intro k
    cases k with
    | zero => simp [mxV]
    | succ k =>
      rw [List.drop_succ_cons]
      show mxV (l.drop k) = (mxL s ++ mxV l).drop ((k + 1) * 9)
      have e : (mxL s).drop ((k + 1) * 9) = [] := List.drop_of_length_le (by simp [mxL]; omega)
      rw [ih k, List.drop_append, e, List.nil_append]
      congr 1
      simp [mxL]; omega
theorem mxL_one (s : Mx) : ∀ u ∈ mxL s, u.oneCell' = true := by
  intro u hu
  simp only [mxL, List.mem_cons, List.not_mem_nil, or_false] at hu
  rcases hu with rfl | rfl | rfl | rfl | rfl | rfl | rfl | rfl | rfl <;> rfl
theorem mxV_one (l : List Mx) : ∀ u ∈ mxV l, u.oneCell' = true := by
  induction l with
  | nil => intro u hu; cases hu
  | cons s l ih =>
    intro u hu
    rcases List.mem_append.1 hu with h | h
    · exact mxL_one s u h
    · exact ih u h
theorem mxV_get (l : List Mx) : ∀ (k : Nat) (hk : k < l.length) (j : Nat) (hj : j < 9), (mxV l)[9 * k + j]? = (mxL l[k])[j]? := by
  induction l with
  | nil => intro k hk; cases hk
  | cons r l ih =>
    intro k hk j hj
    cases k with
    | zero => simp only [mxV, List.getElem_cons_zero]; rw [List.getElem?_append_left (by simp [mxL]; omega)]; simp
    | succ k =>
      simp only [mxV, List.getElem_cons_succ]
      rw [List.getElem?_append_right (by simp [mxL]; omega), show 9 * (k + 1) + j - (mxL r).length = 9 * k + j by simp [mxL]; omega]
      exact ih k (by simpa using hk) j hj
theorem mx_form {w : World} {A : Option Addr} {l : List Mx} (h : Rd w A (mxV l)) (hn : 0 < l.length) : ∃ b off, A = some ⟨b, off, none⟩ := by
  obtain ⟨b, off, e, _⟩ := rd_at h (by rw [mxV_len]; omega)
  exact ⟨b, off, e⟩
theorem mx_cells {w : World} {b off : Nat} {l : List Mx} (h : Rd w (some ⟨b, off, none⟩) (mxV l)) (k : Nat) (hk : k < l.length) (s : Mx) (hs : l[k] = s) : ∀ j u, j < 9 → (mxL s)[j]? = some u → w.cell? ⟨b, off + k * 9 + j, none⟩ = some u := by
  subst hs
  obtain ⟨b', off', e, hc⟩ := rd_at h (by rw [mxV_len]; omega)
  injection e with e
  injection e with e1 e2 e3
  subst e1 e2
  intro j u hj hu
  rw [Nat.add_assoc]
  exact hc _ _ (by rw [Nat.mul_comm k 9, mxV_get l k hk j hj]; exact hu)
def lk2 : Lks → List Value
  | [] => []
  | p :: l => .int .i64 (p.1 : Int) :: .int .i64 (p.2 : Int) :: lk2 l
theorem lk2_len (l : Lks) : (lk2 l).length = l.length * 2 := by
  induction l with
  | nil => rfl
  | cons r l ih => simp only [lk2, List.length_cons, ih]; omega
theorem lk2_append (a b : Lks) : lk2 (a ++ b) = lk2 a ++ lk2 b := by
  induction a with
  | nil => rfl
  | cons r l ih => simp only [List.cons_append, lk2, ih]
theorem lk2_get (l : Lks) : ∀ (k : Nat) (p : Nat × Nat), l[k]? = some p → (lk2 l)[2 * k]? = some (.int .i64 (p.1 : Int)) ∧ (lk2 l)[2 * k + 1]? = some (.int .i64 (p.2 : Int)) := by
  induction l with
  | nil => intro k p h; simp at h
  | cons r l ih =>
    intro k p h
    cases k with
    | zero => simp at h; subst h; exact ⟨rfl, rfl⟩
    | succ k =>
      have := ih k p (by simpa using h)
      rw [show 2 * (k + 1) = 2 * k + 1 + 1 by omega]
      exact this
/-- Where the network lies: its box g; its messages from block q on. -/
structure Nm where
  g : Nat
  q : Nat
  A0 : Option Addr
  c0 : Nat
  A1 : Option Addr
  c1 : Nat
  A2 : Option Addr
  c2 : Nat
  gd : Nat → Nat
  bd : Nat → Nat
  gf : Nat → Nat
  bf : Nat → Nat
  ff : Nat → Nat → Nat
  col : Nat → Nat
def ptrs (n : Nat) (f : Nat → Nat) : List Value := (List.range n).map fun i => .pointer (some ⟨f i, 0, none⟩)
theorem ptrs_get {n : Nat} {f : Nat → Nat} {i : Nat} (h : i < n) : (ptrs n f)[i]? = some (.pointer (some ⟨f i, 0, none⟩)) := by
  unfold ptrs
  rw [List.getElem?_map, List.getElem?_range h]
  rfl
theorem ptrs_len (n : Nat) (f : Nat → Nat) : (ptrs n f).length = n := by simp [ptrs]
structure NtAt (B0 : Nat) (w0 w : World) (m : Nm) (n : Nat) (ls : Lks) (S : Ns) (Aw : Option Addr) (cw : Nat) (ms : List Mx) : Prop where
  bx : Box w m.g [.slice m.A0 n m.c0, .slice m.A1 n m.c1, .slice m.A2 ls.length m.c2, .slice Aw ms.length cw]
  nb : NetB w m.g
  r0 : w.ownsRow B0 63 1 (.slice m.A0 n m.c0) n (ptrs n m.gd)
  r1 : w.ownsRow B0 40 1 (.slice m.A1 n m.c1) n (ptrs n m.gf)
  r2 : w.ownsRow B0 66 2 (.slice m.A2 ls.length m.c2) ls.length (lk2 ls)
  wy : Win w m.q 47 9 (.slice Aw ms.length cw) ms.length (mxV ms)
  mo : ∀ s ∈ ms, Fd.LaTf w s.x.y s.x.A s.x.c s.x.B s.x.d
  mp : ms.map mxP = S.way
  db : ∀ i, i < n → DbAt w (m.gd i) (m.bd i) (S.db i)
  fl : ∀ i, i < n → Fd.FlAt w (m.gf i) (m.bf i) 4 (S.fl i) (m.ff i)
  cd : ∀ i, i < n → m.col (m.bd i) = 2 * i + 1
  cb : ∀ i, i < n → m.col (m.bf i) = 2 * i + 2
  cf : ∀ i l, i < n → l < 256 → (S.fl i l).isSome = true → m.col (m.ff i l) = 2 * i + 2
  lo : B0 ≤ m.g ∧ m.g < m.q ∧ m.q ≤ w.heap.size
  gl : ∀ i, i < n → m.gd i < m.q ∧ m.gd i ≠ m.g ∧ m.gf i < m.q ∧ m.gf i ≠ m.g
  bl : ∀ i, i < n → B0 ≤ m.bd i ∧ B0 ≤ m.bf i ∧ ∀ l, l < 256 → (S.fl i l).isSome = true → B0 ≤ m.ff i l
  bel : Below B0 w0 w
section
variable {B0 : Nat} {w0 w w' : World} {m : Nm} {n : Nat} {ls : Lks} {S : Ns} {Aw : Option Addr} {cw : Nat} {ms : List Mx}
theorem NtAt.b0 (h : NtAt B0 w0 w m n ls S Aw cw ms) : B0 ≤ w.heap.size := by have := h.lo; omega
theorem NtAt.below (h : NtAt B0 w0 w m n ls S Aw cw ms) (hb : Below w.heap.size w w') : NtAt B0 w0 w' m n ls S Aw cw ms := by
  have hnf : Nf m.col 0 m.g m.q w w' := Nf.of_below hb
  obtain ⟨cur, fr, hnb⟩ := h.nb
  exact ⟨h.bx.later hb, ⟨cur, fr, (hb.block _ (Array.getElem?_eq_some_iff.1 hnb).1).trans hnb⟩, own_below h.r0 hb, own_below h.r1 hb, own_below h.r2 hb, h.wy.below hb, fun s hs => (h.mo s hs).below hb, h.mp, fun i hi => (h.db i hi).below hb, fun i hi => (h.fl i hi).below hb, h.cd, h.cb, h.cf, ⟨h.lo.1, h.lo.2.1, Nat.le_trans h.lo.2.2 hb.size⟩, h.gl, h.bl, h.bel.trans (hb.mono h.b0)⟩
theorem win_kq {w w' : World} {base : Nat} {e : TypeId} {size : Nat} {v : Value} {n : Nat} {xs : List Value} (h : Win w base e size v n xs) (hq : Fd.Kq w w') : Win w' base e size v n xs :=
  h.kept fun k hk => by
    obtain ⟨cur, e⟩ := h.ty k hk
    exact hq.block k (h.lt k hk).2 (fun es c e2 => by rw [e] at e2; cases e2)
theorem netb_kq {w w' : World} {g : Nat} (h : NetB w g) (hq : Fd.Kq w w') : NetB w' g := by
  obtain ⟨cur, fr, e⟩ := h
  exact ⟨cur, fr, (hq.block g (Array.getElem?_eq_some_iff.1 e).1 (fun es c e2 => by rw [e] at e2; cases e2)).trans e⟩
theorem db_map {w : World} {g b : Nat} {N : Db} (h : DbAt w g b N) : ∃ es ck, w.heap[b]? = some (.map es ck) := by
  obtain ⟨⟨M, ⟨D, ⟨es, ck, hb, _⟩, _⟩, _⟩, _⟩ := h
  exact ⟨es, ck, hb⟩
/-- One node's database turns. -/
theorem NtAt.dbTurn (h : NtAt B0 w0 w m n ls S Aw cw ms) {i : Nat} (hi : i < n) {N' : Db} (hg : w.grownBy w' (some (m.bd i))) (hd : DbAt w' (m.gd i) (m.bd i) N') : NtAt B0 w0 w' m n ls ⟨upd S.db i N', S.fl, S.way⟩ Aw cw ms := by
  have hmap := db_map (h.db i hi)
  have hq : Fd.Kq w w' := ⟨hg.os, hg.tape, hg.output, hg.size, fun k hk hne => hg.block k hk (fun e => by
    injection e with e
    subst e
    obtain ⟨es, ck, e⟩ := hmap
    exact hne es ck e)⟩
  have hnf : Nf m.col (2 * i + 1) m.g m.q w w' := Nf.of_row hg hmap (h.cd i hi)
  refine ⟨hq.box h.bx, netb_kq h.nb hq, hq.own h.r0, hq.own h.r1, hq.own h.r2, win_kq h.wy hq, fun s hs => hq.laF (h.mo s hs), h.mp, fun j hj => ?_, fun j hj => ?_, h.cd, h.cb, h.cf, ⟨h.lo.1, h.lo.2.1, Nat.le_trans h.lo.2.2 hg.size⟩, h.gl, h.bl, ?_⟩
  · simp only
    by_cases e : j = i
    · subst e; rw [upd_same]; exact hd
    · rw [upd_ne e]
      exact hnf.db h.nb (h.db j hj) (by rw [h.cd j hj]; omega) (h.gl j hj).1 (h.gl j hj).2.1
  · exact hnf.fl h.nb (h.fl j hj) (by rw [h.cb j hj]; omega) (fun l hl hs => by rw [h.cf j l hj hl hs]; omega) (h.gl j hj).2.2.1 (h.gl j hj).2.2.2
  · exact h.bel.trans ⟨hg.os, hg.tape, hg.output, hg.size, fun k hk => hg.block k (Nat.lt_of_lt_of_le hk h.b0) (fun e => by injection e with e; have := (h.bl i hi).1; omega)⟩
/-- One node's flooder turns. -/
theorem NtAt.flTurn (h : NtAt B0 w0 w m n ls S Aw cw ms) {i : Nat} (hi : i < n) {F' : Fd.Fn} (hk : Fd.Kf (Fd.FS (S.fl i) (m.ff i)) w w') (hf : Fd.FlAt w' (m.gf i) (m.bf i) 4 F' (m.ff i)) (hs : ∀ l, (F' l).isSome = (S.fl i l).isSome) : NtAt B0 w0 w' m n ls ⟨S.db, upd S.fl i F', S.way⟩ Aw cw ms := by
  have hmaps := (h.fl i hi).maps
  have hq : Fd.Kq w w' := hk.kq hmaps
  have hnf : Nf m.col (2 * i + 2) m.g m.q w w' := Nf.of_kf hk (fun k hS => ⟨hmaps k hS, by
    obtain ⟨l, hl, hls, rfl⟩ := hS
    exact h.cf i l hi hl hls⟩)
  refine ⟨hq.box h.bx, netb_kq h.nb hq, hq.own h.r0, hq.own h.r1, hq.own h.r2, win_kq h.wy hq, fun s hs => hq.laF (h.mo s hs), h.mp, fun j hj => ?_, fun j hj => ?_, h.cd, h.cb, fun j l hj hl hjs => ?_, ⟨h.lo.1, h.lo.2.1, Nat.le_trans h.lo.2.2 hk.size⟩, h.gl, fun j hj => ?_, ?_⟩
  · exact hnf.db h.nb (h.db j hj) (by rw [h.cd j hj]; omega) (h.gl j hj).1 (h.gl j hj).2.1
  · simp only
    by_cases e : j = i
    · subst e; rw [upd_same]; exact hf
    · rw [upd_ne e]
      exact hnf.fl h.nb (h.fl j hj) (by rw [h.cb j hj]; omega) (fun l hl hs => by rw [h.cf j l hj hl hs]; omega) (h.gl j hj).2.2.1 (h.gl j hj).2.2.2
  · simp only at hjs
    by_cases e : j = i
    · subst e; rw [upd_same, hs] at hjs; exact h.cf j l hj hl hjs
    · rw [upd_ne e] at hjs; exact h.cf j l hj hl hjs
  · obtain ⟨b1, b2, b3⟩ := h.bl j hj
    refine ⟨b1, b2, fun l hl hjs => ?_⟩
    simp only at hjs
    by_cases e : j = i
    · subst e; rw [upd_same, hs] at hjs; exact b3 l hl hjs
    · rw [upd_ne e] at hjs; exact b3 l hl hjs
  · exact h.bel.trans (hk.toBelow (fun k hS => by
      obtain ⟨l, hl, hls, rfl⟩ := hS
      exact (h.bl i hi).2.2 l hl hls) h.b0)
theorem kf_row {F : Fd.Fn} {f : Nat → Nat} {l : Nat} (hl : l < 256) (hs : (F l).isSome = true) (hg : w.grownBy w' (some (f l))) : Fd.Kf (Fd.FS F f) w w' := (Fd.Kf.refl _ w).row hg (.inl ⟨l, hl, hs, rfl⟩)
/-- The messages' slice is another one. -/
theorem NtAt.put (h : NtAt B0 w0 w m n ls S Aw cw ms) {v' : Value} {w2 : World} {ms' : List Mx} {way' : List Msg} {A' : Option Addr} {c' : Nat} (hv : v' = .slice A' ms'.length c')
    (hw : Win w2 m.q 47 9 v' ms'.length (mxV ms')) (hg : w.grownBy w2 (Value.slice Aw ms.length cw).ownBlock) (hmo : ∀ s ∈ ms', Fd.LaTf w s.x.y s.x.A s.x.c s.x.B s.x.d) (hmp : ms'.map mxP = way') :
    NtAt B0 w0 (w2.setCell ⟨m.g, 3, none⟩ v') m n ls ⟨S.db, S.fl, way'⟩ A' c' ms' := by
  subst hv
  have hlo := h.lo
  have hlt := h.wy.lt
  have hty := h.wy.ty
  have hgo : (Value.slice Aw ms.length cw).ownBlock ≠ some m.g := fun e => by have := (hlt _ e).1; omega
  have hbx2 : Box w2 m.g [.slice m.A0 n m.c0, .slice m.A1 n m.c1, .slice m.A2 ls.length m.c2, .slice Aw ms.length cw] := h.bx.kept hg (fun e => hgo e.symm) (by simp)
  have hnb2 : NetB w2 m.g := by
    obtain ⟨cur, fr, e⟩ := h.nb
    exact ⟨cur, fr, (hg.block m.g (Array.getElem?_eq_some_iff.1 e).1 (fun e => hgo e.symm)).trans e⟩
  have hnf : Nf m.col 0 m.g m.q w (w2.setCell ⟨m.g, 3, none⟩ (.slice A' ms'.length c')) := ⟨hg.os, hg.tape, hg.output, by simpa using hg.size, fun k hk => by
    by_cases e1 : k = m.g
    · exact .inr (.inr (.inl e1))
    · by_cases e2 : (Value.slice Aw ms.length cw).ownBlock = some k
      · obtain ⟨cur, e3⟩ := hty k e2
        exact .inr (.inr (.inr ⟨(hlt k e2).1, cur, _, e3⟩))
      · left
        rw [heap_setCell_other w2 ⟨m.g, 3, none⟩ k _ e1]
        exact hg.block k hk (fun e => e2 e.symm)⟩
  have hsz : w2.heap.size = (w2.setCell ⟨m.g, 3, none⟩ (.slice A' ms'.length c')).heap.size := by simp
  refine ⟨?_, ?_, hnf.own h.nb h.r0 (by decide) (by decide), hnf.own h.nb h.r1 (by decide) (by decide), hnf.own h.nb h.r2 (by decide) (by decide), ?_, fun s hs => hnf.la h.nb (hmo s hs), hmp, fun j hj => hnf.db h.nb (h.db j hj) (by rw [h.cd j hj]; omega) (h.gl j hj).1 (h.gl j hj).2.1, fun j hj => hnf.fl h.nb (h.fl j hj) (by rw [h.cb j hj]; omega) (fun l hl hs => by rw [h.cf j l hj hl hs]; omega) (h.gl j hj).2.2.1 (h.gl j hj).2.2.2, h.cd, h.cb, h.cf, ?_, h.gl, h.bl, ?_⟩
  · exact hbx2.set 3 (.slice A' ms'.length c') (by simp)
  · obtain ⟨cur, fr, e⟩ := hnb2
    exact ⟨_, fr, by simp [World.setCell, Array.getElem?_modify, e]; rfl⟩
  · refine hw.kept fun k hk => heap_setCell_other w2 ⟨m.g, 3, none⟩ k _ (fun e => ?_)
    have := (hw.lt k hk).1
    simp only at e
    omega
  · have := hg.size
    rw [← hsz]
    omega
  · refine (h.bel.trans (?_ : Below B0 w w2)).setCell (p := ⟨m.g, 3, none⟩) hlo.1 _
    exact below_win (Below.refl _ _) h.wy hg (by omega) h.b0
theorem NtAt.pushed (h : NtAt B0 w0 w m n ls S Aw cw ms) {x : Mx} {w2 : World} {A' : Option Addr} {c' : Nat}
    (hw : Win w2 m.q 47 9 (.slice A' (ms.length + 1) c') (ms.length + 1) (mxV ms ++ mxL x)) (hg : w.grownBy w2 (Value.slice Aw ms.length cw).ownBlock) (hx : Fd.LaTf w x.x.y x.x.A x.x.c x.x.B x.x.d) :
    NtAt B0 w0 (w2.setCell ⟨m.g, 3, none⟩ (.slice A' (ms.length + 1) c')) m n ls ⟨S.db, S.fl, S.way ++ [mxP x]⟩ A' c' (ms ++ [x]) := by
  refine h.put (v' := .slice A' (ms.length + 1) c') (by simp) ?_ hg (fun s hs => ?_) ?_
  · rw [mxV_append]
    simpa [mxV] using hw
  · rcases List.mem_append.1 hs with hs | hs
    · exact h.mo s hs
    · rw [List.mem_singleton.1 hs]; exact hx
  · rw [List.map_append, h.mp]
    rfl
theorem NtAt.kept6 (h : NtAt B0 w0 w m n ls S Aw cw ms) {w2 : World} (hg : w.grownBy w2 (Value.slice Aw ms.length cw).ownBlock) : Box w2 m.g [.slice m.A0 n m.c0, .slice m.A1 n m.c1, .slice m.A2 ls.length m.c2, .slice Aw ms.length cw] :=
  h.bx.kept hg (fun e => by have := (h.wy.lt _ e.symm).1; have := h.lo; omega) (by simp)
end

end Go.Proofs.Ytnfldccaeibcpaa

namespace Go.Proofs.Ytnfldccaeibcpaa
set_option linter.unusedVariables false
open Go.RowKit Go.Maps

/-! ### What a list of the network's own does not share -/
/-- An element of an owned slice, by its block. -/
theorem own_elem {w : World} {base : Nat} {e : TypeId} {size : Nat} {v : Value} {n : Nat} {xs : List Value} (h : w.ownsRow base e size v n xs) {k : Nat} (hk : v.ownBlock = some k) {j : Nat} {u : Value} (hu : xs[j]? = some u) : w.cell? ⟨k, j, none⟩ = some u := by
  rcases h.2 with ⟨rfl, _⟩ | ⟨g, cap, cur, rfl, hg, hh, _⟩
  · simp [Value.ownBlock] at hk
  · simp only [Value.ownBlock, Option.some.injEq] at hk
    subst hk
    have hc := h.cells (g := g) rfl j u hu
    have hadd : (⟨g, 0, none⟩ : Addr).add j = ⟨g, j, none⟩ := by unfold Addr.add; split <;> simp_all
    rwa [hadd] at hc
theorem own_cells {w : World} {base : Nat} {e : TypeId} {size : Nat} {v : Value} {n : Nat} {xs : List Value} (h : w.ownsRow base e size v n xs) {k : Nat} (hk : v.ownBlock = some k) : base ≤ k ∧ ∃ cur, w.heap[k]? = some (.cells cur e (0, 0)) := by
  rcases h.2 with ⟨rfl, _⟩ | ⟨g, cap, cur, rfl, hg, hh, _⟩
  · simp [Value.ownBlock] at hk
  · simp only [Value.ownBlock, Option.some.injEq] at hk
    subst hk
    exact ⟨hg, cur, hh⟩
/-- What is written lies in no block of the nodes' databases and flooders. -/
def Off (w : World) (row : Option Nat) (gd bd gf bf : Nat → Nat) (nd nf : Nat) : Prop := ∀ k, row = some k → (∀ i, i < nd → k ≠ gd i ∧ k ≠ bd i) ∧ (∀ i, i < nf → k ≠ gf i ∧ k ≠ bf i)
theorem db_keep0 {w w' : World} {g b : Nat} (h : DbAt w g b (fun _ => none)) (h1 : w'.heap[g]? = w.heap[g]?) (h2 : w'.heap[b]? = w.heap[b]?) : DbAt w' g b (fun _ => none) := by
  obtain ⟨⟨M, ⟨D, ⟨es, ck, hb, r⟩, hD⟩, he⟩, hcell⟩ := h
  refine ⟨⟨M, ⟨D, ⟨es, ck, h2.trans hb, r⟩, hD⟩, fun i hi => ?_⟩, ?_⟩
  · have := he i hi
    cases hM : M (i : Int) with
    | none => trivial
    | some v => rw [hM] at this; exact absurd this (by simp [ElAt])
  · rw [World.cell?_of_block (a := ⟨g, 0, none⟩) h1]; exact hcell
theorem fl_keep0 {w w' : World} {g b : Nat} {iv : Int} {f : Nat → Nat} (h : Fd.FlAt w g b iv (fun _ => none) f) (h1 : w'.heap[g]? = w.heap[g]?) (h2 : w'.heap[b]? = w.heap[b]?) : Fd.FlAt w' g b iv (fun _ => none) f := by
  refine ⟨?_, ?_, ?_, fun i _ D h => (nomatch h), fun i _ h => by simp at h, fun i j _ _ h => by simp at h⟩
  · rw [World.cell?_of_block (a := ⟨g, 0, none⟩) h1]; exact h.c0
  · rw [World.cell?_of_block (a := ⟨g, 1, none⟩) h1]; exact h.c1
  · obtain ⟨D, ⟨es, ck, hb, r⟩, hD⟩ := h.nb
    exact ⟨D, ⟨es, ck, h2.trans hb, r⟩, hD⟩
theorem fl_nbmap {w : World} {g b : Nat} {iv : Int} {N : Fd.Fn} {f : Nat → Nat} (h : Fd.FlAt w g b iv N f) : ∃ es ck, w.heap[b]? = some (.map es ck) := by
  obtain ⟨D, ⟨es, ck, hb, r⟩, hD⟩ := h.nb
  exact ⟨es, ck, hb⟩
/-- While the nodes are made: nd databases, nf flooders; the box's cells, the two lists. -/
structure NdAt (B0 : Nat) (w0 w : World) (g : Nat) (gd bd gf bf col : Nat → Nat) (nd nf : Nat) (bx : List Value) (v0 : Value) (n0 : Nat) (v1 : Value) (n1 : Nat) : Prop where
  bx : Box w g bx
  nb : NetB w g
  r0 : w.ownsRow B0 63 1 v0 n0 (ptrs n0 gd)
  r1 : w.ownsRow B0 40 1 v1 n1 (ptrs n1 gf)
  e0 : n0 = 0 → v0 = .slice none 0 0
  e1 : n1 = 0 → v1 = .slice none 0 0
  le : n0 ≤ nd ∧ n1 ≤ nf
  db : ∀ i, i < nd → DbAt w (gd i) (bd i) (fun _ => none)
  fl : ∀ i, i < nf → Fd.FlAt w (gf i) (bf i) 4 (fun _ => none) (fun _ => 0)
  cd : ∀ i, i < nd → col (bd i) = 2 * i + 1
  cb : ∀ i, i < nf → col (bf i) = 2 * i + 2
  gl : (∀ i, i < nd → gd i ≠ g ∧ B0 ≤ bd i) ∧ (∀ i, i < nf → gf i ≠ g ∧ B0 ≤ bf i)
  lo : B0 ≤ g
  bel : Below B0 w0 w
section
variable {B0 : Nat} {w0 w w' : World} {g : Nat} {gd bd gf bf col : Nat → Nat} {nd nf : Nat} {bx : List Value} {v0 v1 : Value} {n0 n1 : Nat}
theorem ptrs_upd {n nd : Nat} {f : Nat → Nat} {x : Nat} (h : n ≤ nd) : ptrs n (upd f nd x) = ptrs n f := by
  unfold ptrs
  refine List.map_congr_left fun i hi => ?_
  rw [upd_ne (by have := List.mem_range.1 hi; omega)]
theorem ptrs_succ (n : Nat) (f : Nat → Nat) : ptrs (n + 1) f = ptrs n f ++ [.pointer (some ⟨f n, 0, none⟩)] := by
  unfold ptrs
  rw [List.range_succ, List.map_append]
  rfl
theorem NdAt.off (h : NdAt B0 w0 w g gd bd gf bf col nd nf bx v0 n0 v1 n1) {k : Nat} (hk : v0.ownBlock = some k ∨ v1.ownBlock = some k) : B0 ≤ k ∧ k ≠ g ∧ (∀ i, i < nd → k ≠ gd i ∧ k ≠ bd i) ∧ (∀ i, i < nf → k ≠ gf i ∧ k ≠ bf i) := by
  have key : B0 ≤ k ∧ (∃ cur T, T ≠ 39 ∧ w.heap[k]? = some (.cells cur T (0, 0))) ∧ ∃ p, w.cell? ⟨k, 0, none⟩ = some (.pointer p) := by
    rcases hk with hk | hk
    · obtain ⟨h1, cur, h2⟩ := own_cells h.r0 hk
      have hn : 0 < n0 := Nat.pos_of_ne_zero fun e => by rw [h.e0 e] at hk; simp [Value.ownBlock] at hk
      exact ⟨h1, ⟨cur, _, by decide, h2⟩, _, own_elem h.r0 hk (ptrs_get hn)⟩
    · obtain ⟨h1, cur, h2⟩ := own_cells h.r1 hk
      have hn : 0 < n1 := Nat.pos_of_ne_zero fun e => by rw [h.e1 e] at hk; simp [Value.ownBlock] at hk
      exact ⟨h1, ⟨cur, _, by decide, h2⟩, _, own_elem h.r1 hk (ptrs_get hn)⟩
  obtain ⟨h1, ⟨cur, T, hT, h2⟩, p, h3⟩ := key
  refine ⟨h1, fun e => ?_, fun i hi => ⟨fun e => ?_, fun e => ?_⟩, fun i hi => ⟨fun e => ?_, fun e => ?_⟩⟩
  · subst e
    obtain ⟨cur', fr, e⟩ := h.nb
    rw [h2] at e
    injection e with e
    injection e with _ e _
    exact hT e
  · subst e
    rw [(h.db i hi).cell] at h3
    cases h3
  · subst e
    obtain ⟨es, ck, e⟩ := db_map (h.db i hi)
    rw [h2] at e; cases e
  · subst e
    rw [(h.fl i hi).c0] at h3
    cases h3
  · subst e
    obtain ⟨es, ck, e⟩ := fl_nbmap (h.fl i hi)
    rw [h2] at e; cases e
theorem own_grown {w w' : World} {base : Nat} {e : TypeId} {size : Nat} {v : Value} {n : Nat} {xs : List Value} {row : Option Nat} (h : w.ownsRow base e size v n xs) (hg : w.grownBy w' row) (hne : ∀ k, v.ownBlock = some k → some k ≠ row) : w'.ownsRow base e size v n xs := by
  refine ⟨h.1, ?_⟩
  rcases h.2 with h2 | ⟨k, cap, cur, rfl, hb, hh, r⟩
  · exact .inl h2
  · exact .inr ⟨k, cap, cur, rfl, hb, (hg.block k (h.lt k rfl).2 (hne k rfl)).trans hh, r⟩
/-- Something grew. -/
theorem NdAt.via (h : NdAt B0 w0 w g gd bd gf bf col nd nf bx v0 n0 v1 n1) {row : Option Nat} (hg : w.grownBy w' row) (hr : ∀ k, row = some k → B0 ≤ k ∧ (∀ i, i < nd → k ≠ gd i ∧ k ≠ bd i) ∧ (∀ i, i < nf → k ≠ gf i ∧ k ≠ bf i)) (hB : B0 ≤ w.heap.size)
    {bx' : List Value} {v0' v1' : Value} {n0' n1' : Nat} (hbx : Box w' g bx') (hnb : NetB w' g) (hr0 : w'.ownsRow B0 63 1 v0' n0' (ptrs n0' gd)) (hr1 : w'.ownsRow B0 40 1 v1' n1' (ptrs n1' gf)) (he0 : n0' = 0 → v0' = .slice none 0 0) (he1 : n1' = 0 → v1' = .slice none 0 0) (hle : n0' ≤ nd ∧ n1' ≤ nf) :
    NdAt B0 w0 w' g gd bd gf bf col nd nf bx' v0' n0' v1' n1' := by
  have hk : ∀ j, j < w.heap.size → (∀ k, row = some k → k ≠ j) → w'.heap[j]? = w.heap[j]? := fun j hj hn => hg.block j hj (fun e => hn j e.symm rfl)
  refine ⟨hbx, hnb, hr0, hr1, he0, he1, hle, fun i hi => db_keep0 (h.db i hi) (hk _ (h.db i hi).lt.1 fun k e => ((hr k e).2.1 i hi).1) (hk _ (h.db i hi).lt.2 fun k e => ((hr k e).2.1 i hi).2), fun i hi => fl_keep0 (h.fl i hi) (hk _ (h.fl i hi).lt.1 fun k e => ((hr k e).2.2 i hi).1) (hk _ (h.fl i hi).lt.2 fun k e => ((hr k e).2.2 i hi).2), h.cd, h.cb, h.gl, h.lo, ?_⟩
  exact h.bel.trans ⟨hg.os, hg.tape, hg.output, hg.size, fun k hk2 => hg.block k (Nat.lt_of_lt_of_le hk2 hB) (fun e => by have := (hr k e.symm).1; omega)⟩
theorem netb_grown {row : Option Nat} (h : NetB w g) (hg : w.grownBy w' row) (hne : ∀ k, row = some k → k ≠ g) : NetB w' g := by
  obtain ⟨cur, fr, e⟩ := h
  exact ⟨cur, fr, (hg.block g (Array.getElem?_eq_some_iff.1 e).1 (fun e2 => hne g e2.symm rfl)).trans e⟩
theorem grown_below (hb : Below w.heap.size w w') : w.grownBy w' none := ⟨hb.os, hb.tape, hb.output, hb.size, fun k hk _ => hb.block k hk⟩
theorem NdAt.b0 (h : NdAt B0 w0 w g gd bd gf bf col nd nf bx v0 n0 v1 n1) (hp : 0 < bx.length) : B0 ≤ w.heap.size := by have := h.lo; have := h.bx.lt hp; omega
theorem NdAt.below (h : NdAt B0 w0 w g gd bd gf bf col nd nf bx v0 n0 v1 n1) (hp : 0 < bx.length) (hb : Below w.heap.size w w') : NdAt B0 w0 w' g gd bd gf bf col nd nf bx v0 n0 v1 n1 :=
  h.via (grown_below hb) (fun k e => (by cases e)) (h.b0 hp) (h.bx.later hb) (netb_grown h.nb (grown_below hb) (fun k e => (by cases e))) (own_below h.r0 hb) (own_below h.r1 hb) h.e0 h.e1 h.le
/-- One more database. -/
theorem NdAt.newDb (h : NdAt B0 w0 w g gd bd gf bf col nd nf bx v0 n0 v1 n1) (hp : 0 < bx.length) {g1 b1 : Nat} (hd : DbAt w' g1 b1 (fun _ => none)) (hb : Below w.heap.size w w') (h1 : w.heap.size ≤ g1) (h2 : w.heap.size ≤ b1) :
    ∃ gd' bd' col', gd' nd = g1 ∧ NdAt B0 w0 w' g gd' bd' gf bf col' (nd + 1) nf bx v0 n0 v1 n1 := by
  refine ⟨upd gd nd g1, upd bd nd b1, upd col b1 (2 * nd + 1), upd_same _ _ _, ?_⟩
  have H := h.below hp hb
  have hb0 := h.b0 hp
  have hgl := h.bx.lt hp
  refine ⟨H.bx, H.nb, by rw [ptrs_upd H.le.1]; exact H.r0, H.r1, H.e0, H.e1, ⟨by have := H.le.1; omega, H.le.2⟩, fun i hi => ?_, H.fl, fun i hi => ?_, fun i hi => ?_, ⟨fun i hi => ?_, H.gl.2⟩, H.lo, H.bel⟩
  · by_cases e : i = nd
    · subst e; rw [upd_same, upd_same]; exact hd
    · rw [upd_ne e, upd_ne e]; exact H.db i (by omega)
  · by_cases e : i = nd
    · subst e; rw [upd_same, upd_same]
    · rw [upd_ne e, upd_ne]
      · exact H.cd i (by omega)
      · have := (h.db i (by omega)).lt.2; omega
  · rw [upd_ne]
    · exact H.cb i hi
    · have := (h.fl i hi).lt.2; omega
  · by_cases e : i = nd
    · subst e; rw [upd_same, upd_same]; omega
    · rw [upd_ne e, upd_ne e]; exact H.gl.1 i (by omega)
/-- One more flooder. -/
theorem NdAt.newFl (h : NdAt B0 w0 w g gd bd gf bf col nd nf bx v0 n0 v1 n1) (hp : 0 < bx.length) {g1 b1 : Nat} (hd : Fd.FlAt w' g1 b1 4 (fun _ => none) (fun _ => 0)) (hb : Below w.heap.size w w') (h1 : w.heap.size ≤ g1) (h2 : w.heap.size ≤ b1) :
    ∃ gf' bf' col', gf' nf = g1 ∧ NdAt B0 w0 w' g gd bd gf' bf' col' nd (nf + 1) bx v0 n0 v1 n1 := by
  refine ⟨upd gf nf g1, upd bf nf b1, upd col b1 (2 * nf + 2), upd_same _ _ _, ?_⟩
  have H := h.below hp hb
  have hb0 := h.b0 hp
  have hgl := h.bx.lt hp
  refine ⟨H.bx, H.nb, H.r0, by rw [ptrs_upd H.le.2]; exact H.r1, H.e0, H.e1, ⟨H.le.1, by have := H.le.2; omega⟩, H.db, fun i hi => ?_, fun i hi => ?_, fun i hi => ?_, ⟨H.gl.1, fun i hi => ?_⟩, H.lo, H.bel⟩
  · by_cases e : i = nf
    · subst e; rw [upd_same, upd_same]; exact hd
    · rw [upd_ne e, upd_ne e]; exact H.fl i (by omega)
  · rw [upd_ne]
    · exact H.cd i hi
    · have := (h.db i hi).lt.2; omega
  · by_cases e : i = nf
    · subst e; rw [upd_same, upd_same]
    · rw [upd_ne e, upd_ne]
      · exact H.cb i (by omega)
      · have := (h.fl i (by omega)).lt.2; omega
  · by_cases e : i = nf
    · subst e; rw [upd_same, upd_same]; omega
    · rw [upd_ne e, upd_ne e]; exact H.gl.2 i (by omega)
theorem NdAt.rows (h : NdAt B0 w0 w g gd bd gf bf col nd nf bx v0 n0 v1 n1) : ∀ k, v0.ownBlock = some k → some k ≠ v1.ownBlock := fun k hk => by
  rcases own_ne h.r0 h.r1 (by decide) with e | e
  · rw [e] at hk; cases hk
  · rw [← hk]; exact e
/-- The databases' list grows. -/
theorem NdAt.app0 (h : NdAt B0 w0 w g gd bd gf bf col nd nf bx v0 n0 v1 n1) (hp : 0 < bx.length) (hg : w.grownBy w' v0.ownBlock) {v0' : Value} (hn : n0 < nd) {x : Nat} (hx : gd n0 = x) (hr : w'.ownsRow B0 63 1 v0' (n0 + 1) (ptrs n0 gd ++ [.pointer (some ⟨x, 0, none⟩)])) : NdAt B0 w0 w' g gd bd gf bf col nd nf bx v0' (n0 + 1) v1 n1 := by
  subst hx
  have hoff := fun k (hk : v0.ownBlock = some k) => h.off (.inl hk)
  refine h.via hg (fun k hk => ⟨(hoff k hk).1, (hoff k hk).2.2⟩) (h.b0 hp) (h.bx.kept hg (fun e => (hoff g e.symm).2.1 rfl) hp) (netb_grown h.nb hg fun k hk => (hoff k hk).2.1) (by rw [ptrs_succ]; exact hr) (own_grown h.r1 hg fun k hk e => h.rows k e.symm hk.symm) (fun e => by omega) h.e1 ⟨by omega, h.le.2⟩
theorem NdAt.app1 (h : NdAt B0 w0 w g gd bd gf bf col nd nf bx v0 n0 v1 n1) (hp : 0 < bx.length) (hg : w.grownBy w' v1.ownBlock) {v1' : Value} (hn : n1 < nf) {x : Nat} (hx : gf n1 = x) (hr : w'.ownsRow B0 40 1 v1' (n1 + 1) (ptrs n1 gf ++ [.pointer (some ⟨x, 0, none⟩)])) : NdAt B0 w0 w' g gd bd gf bf col nd nf bx v0 n0 v1' (n1 + 1) := by
  subst hx
  have hoff := fun k (hk : v1.ownBlock = some k) => h.off (.inr hk)
  refine h.via hg (fun k hk => ⟨(hoff k hk).1, (hoff k hk).2.2⟩) (h.b0 hp) (h.bx.kept hg (fun e => (hoff g e.symm).2.1 rfl) hp) (netb_grown h.nb hg fun k hk => (hoff k hk).2.1) (own_grown h.r0 hg fun k hk e => h.rows k hk e) (by rw [ptrs_succ]; exact hr) h.e0 (fun e => by omega) ⟨h.le.1, by omega⟩
theorem netb_set (h : NetB w g) (i : Nat) (u : Value) : NetB (w.setCell ⟨g, i, none⟩ u) g := by
  obtain ⟨cur, fr, e⟩ := h
  exact ⟨_, fr, by simp [World.setCell, Array.getElem?_modify, e]; rfl⟩
/-- A cell of the box. -/
theorem NdAt.set (h : NdAt B0 w0 w g gd bd gf bf col nd nf bx v0 n0 v1 n1) (i : Nat) (u : Value) (hi : i < bx.length) : NdAt B0 w0 (w.setCell ⟨g, i, none⟩ u) g gd bd gf bf col nd nf (bx.set i u) v0 n0 v1 n1 := by
  have hg := grownBy_set w g i u
  have hp : 0 < bx.length := by omega
  have hB := h.b0 hp
  have hlt := h.bx.lt hp
  have ho0 : ∀ k, v0.ownBlock = some k → some k ≠ some g := fun k hk e => by injection e with e; exact (h.off (.inl hk)).2.1 e
  have ho1 : ∀ k, v1.ownBlock = some k → some k ≠ some g := fun k hk e => by injection e with e; exact (h.off (.inr hk)).2.1 e
  obtain ⟨cur, fr, hnb⟩ := h.nb
  refine h.via hg (fun k e => ?_) hB (h.bx.set i u hi) (netb_set h.nb i u) (own_grown h.r0 hg ho0) (own_grown h.r1 hg ho1) h.e0 h.e1 h.le
  injection e with e
  subst e
  refine ⟨h.lo, fun i hi => ⟨fun e => (h.gl.1 i hi).1 e.symm, fun e => ?_⟩, fun i hi => ⟨fun e => (h.gl.2 i hi).1 e.symm, fun e => ?_⟩⟩
  · obtain ⟨es, ck, e2⟩ := db_map (h.db i hi)
    rw [← e, hnb] at e2; cases e2
  · obtain ⟨es, ck, e2⟩ := fl_nbmap (h.fl i hi)
    rw [← e, hnb] at e2; cases e2
/-- All nodes are made. -/
theorem NdAt.nt (n : Nat) {A0 A1 : Option Addr} {c0 c1 : Nat} (h : NdAt B0 w0 w g gd bd gf bf col n n [.slice A0 n c0, .slice A1 n c1, .slice none 0 0, .slice none 0 0] (.slice A0 n c0) n (.slice A1 n c1) n) :
    NtAt B0 w0 w ⟨g, w.heap.size, A0, c0, A1, c1, none, 0, gd, bd, gf, bf, fun _ _ => 0, col⟩ n [] ⟨fun _ _ => none, fun _ _ => none, []⟩ none 0 [] := by
  have hlt := h.bx.lt (by simp)
  exact ⟨h.bx, h.nb, h.r0, h.r1, World.ownsRow_nil w B0 _ _, win_nil w _ _ _, fun s hs => (by cases hs), rfl, h.db, h.fl, h.cd, h.cb, fun i l _ _ e => (by simp at e), ⟨h.lo, hlt, Nat.le_refl _⟩, fun i hi => ⟨(h.db i hi).lt.1, (h.gl.1 i hi).1, (h.fl i hi).lt.1, (h.gl.2 i hi).1⟩, fun i hi => ⟨(h.gl.1 i hi).2, (h.gl.2 i hi).2, fun l _ e => by simp at e⟩, h.bel⟩
end

/-! ### Links -/
section
variable {B0 : Nat} {w0 w w' : World} {m : Nm} {n : Nat} {ls : Lks} {S : Ns} {Aw : Option Addr} {cw : Nat} {ms : List Mx}
theorem NtAt.off2 (h : NtAt B0 w0 w m n ls S Aw cw ms) (he : ls = [] → m.A2 = none) {k : Nat} (hk : (Value.slice m.A2 ls.length m.c2).ownBlock = some k) : B0 ≤ k ∧ k ≠ m.g ∧ (∃ cur, w.heap[k]? = some (.cells cur 66 (0, 0))) ∧ (∀ i, i < n → k ≠ m.gd i ∧ k ≠ m.gf i) := by
  obtain ⟨h1, cur, h2⟩ := own_cells h.r2 hk
  have hx : ∃ x y, w.cell? ⟨k, 0, none⟩ = some (.int .i64 x) ∧ w.cell? ⟨k, 1, none⟩ = some (.int .i64 y) := by
    cases ls with
    | nil =>
      rw [he rfl] at hk
      simp [Value.ownBlock] at hk
    | cons p l => exact ⟨_, _, own_elem h.r2 hk (j := 0) rfl, own_elem h.r2 hk (j := 1) rfl⟩
  obtain ⟨x, y, hx, hy⟩ := hx
  refine ⟨h1, fun e => ?_, ⟨cur, h2⟩, fun i hi => ⟨fun e => ?_, fun e => ?_⟩⟩
  · subst e
    obtain ⟨cur', fr, e⟩ := h.nb
    rw [h2] at e
    injection e with e
    injection e with _ e _
    exact absurd e (by decide)
  · subst e
    rw [(h.db i hi).cell] at hx
    cases hx
  · subst e
    rw [(h.fl i hi).c1] at hy
    cases hy
/-- The links' list is another one. -/
theorem NtAt.link (h : NtAt B0 w0 w m n ls S none 0 []) (hS : S.way = []) (he : ls = [] → m.A2 = none) (hS0 : (∀ i, i < n → S.db i = fun _ => none) ∧ ∀ i l D, i < n → S.fl i l = some D → D = fun _ => none) {A2 : Option Addr} {c2 : Nat} {p : Nat × Nat} {w2 : World} (hg : w.grownBy w2 (Value.slice m.A2 ls.length m.c2).ownBlock)
    (hr : w2.ownsRow B0 66 2 (.slice A2 (ls.length + 1) c2) (ls.length + 1) (lk2 ls ++ [.int .i64 (p.1 : Int), .int .i64 (p.2 : Int)])) :
    NtAt B0 w0 (w2.setCell ⟨m.g, 2, none⟩ (.slice A2 (ls.length + 1) c2)) ⟨m.g, (w2.setCell ⟨m.g, 2, none⟩ (.slice A2 (ls.length + 1) c2)).heap.size, m.A0, m.c0, m.A1, m.c1, A2, c2, m.gd, m.bd, m.gf, m.bf, m.ff, m.col⟩ n (ls ++ [p]) S none 0 [] := by
  have hoff := fun k hk => h.off2 he (k := k) hk
  have hb0 := h.b0
  have hsz : w2.heap.size = (w2.setCell ⟨m.g, 2, none⟩ (.slice A2 (ls.length + 1) c2)).heap.size := by simp
  -- what is kept
  have hk2 : ∀ k, k < w.heap.size → k ≠ m.g → (Value.slice m.A2 ls.length m.c2).ownBlock ≠ some k → (w2.setCell ⟨m.g, 2, none⟩ (.slice A2 (ls.length + 1) c2)).heap[k]? = w.heap[k]? := fun k hk h1 h2 => by
    rw [heap_setCell_other w2 ⟨m.g, 2, none⟩ k _ h1]
    exact hg.block k hk (fun e => h2 e.symm)
  have hmap : ∀ k, (∃ es ck, w.heap[k]? = some (Obj.map es ck)) → (w2.setCell ⟨m.g, 2, none⟩ (.slice A2 (ls.length + 1) c2)).heap[k]? = w.heap[k]? := fun k hm => by
    obtain ⟨es, ck, hm⟩ := hm
    refine hk2 k (Array.getElem?_eq_some_iff.1 hm).1 (fun e => ?_) (fun e => ?_)
    · subst e
      obtain ⟨cur, fr, e⟩ := h.nb
      rw [hm] at e; cases e
    · obtain ⟨cur, e2⟩ := (hoff k e).2.2.1
      rw [hm] at e2; cases e2
  have hrow : ∀ {e : TypeId} {sz : Nat} {v : Value} {k2 : Nat} {xs : List Value}, e ≠ 66 → e ≠ 39 → w.ownsRow B0 e sz v k2 xs → (w2.setCell ⟨m.g, 2, none⟩ (.slice A2 (ls.length + 1) c2)).ownsRow B0 e sz v k2 xs := fun {e sz v k2 xs} n1 n2 ho => by
    refine ⟨ho.1, ?_⟩
    rcases ho.2 with e2 | ⟨k, cap, cur, rfl, hgb, hh, r⟩
    · exact .inl e2
    · refine .inr ⟨k, cap, cur, rfl, hgb, (hk2 k (ho.lt k rfl).2 (fun e2 => ?_) (fun e2 => ?_)).trans hh, r⟩
      · subst e2
        obtain ⟨cur', fr, e2⟩ := h.nb
        rw [hh] at e2
        injection e2 with e2
        injection e2 with _ e2 _
        exact n2 e2
      · obtain ⟨cur', e3⟩ := (hoff k e2).2.2.1
        rw [hh] at e3
        injection e3 with e3
        injection e3 with _ e3 _
        exact n1 e3
  have hgd : ∀ i, i < n → DbAt (w2.setCell ⟨m.g, 2, none⟩ (.slice A2 (ls.length + 1) c2)) (m.gd i) (m.bd i) (S.db i) := fun i hi => by
    have hd := h.db i hi
    rw [hS0.1 i hi] at hd ⊢
    exact db_keep0 hd (hk2 _ hd.lt.1 (h.gl i hi).2.1 (fun e => ((hoff _ e).2.2.2 i hi).1 rfl)) (hmap _ (db_map hd))
  have hgf : ∀ i, i < n → Fd.FlAt (w2.setCell ⟨m.g, 2, none⟩ (.slice A2 (ls.length + 1) c2)) (m.gf i) (m.bf i) 4 (S.fl i) (m.ff i) := fun i hi => by
    have hf := h.fl i hi
    have hkg := hk2 _ hf.lt.1 (h.gl i hi).2.2.2 (fun e => ((hoff _ e).2.2.2 i hi).2 rfl)
    refine ⟨?_, ?_, ?_, fun l hl D hD => ?_, hf.ne, hf.inj⟩
    · rw [World.cell?_of_block (a := ⟨m.gf i, 0, none⟩) hkg]; exact hf.c0
    · rw [World.cell?_of_block (a := ⟨m.gf i, 1, none⟩) hkg]; exact hf.c1
    · obtain ⟨D, ⟨es, ck, hb, r⟩, hD⟩ := hf.nb
      exact ⟨D, ⟨es, ck, (hmap _ ⟨es, ck, hb⟩).trans hb, r⟩, hD⟩
    · have hDe := hS0.2 i l D hi hD
      subst hDe
      obtain ⟨M, ⟨D, ⟨es, ck, hb, r⟩, hD2⟩, he2⟩ := hf.el l hl _ hD
      refine ⟨M, ⟨D, ⟨es, ck, (hmap _ ⟨es, ck, hb⟩).trans hb, r⟩, hD2⟩, fun o ho => ?_⟩
      have := he2 o ho
      cases hM : M (o : Int) with
      | none => trivial
      | some v => rw [hM] at this; exact absurd this (by simp [Fd.ElAt])
  have hbx2 : Box w2 m.g [.slice m.A0 n m.c0, .slice m.A1 n m.c1, .slice m.A2 ls.length m.c2, .slice none ([] : List Mx).length 0] := h.bx.kept hg (fun e => (hoff _ e.symm).2.1 rfl) (by simp)
  have hlen : (ls ++ [p]).length = ls.length + 1 := by simp
  refine ⟨?_, netb_set (netb_grown h.nb hg fun k hk => (hoff k hk).2.1) 2 _, hrow (by decide) (by decide) h.r0, hrow (by decide) (by decide) h.r1, ?_, win_nil _ _ _ _, fun s hs => (by cases hs), by rw [hS]; rfl, hgd, hgf, h.cd, h.cb, h.cf, ?_, fun i hi => ?_, h.bl, ?_⟩
  · have := hbx2.set 2 (.slice A2 (ls.length + 1) c2) (by simp)
    rw [hlen]
    exact this
  · simp only
    rw [hlen, lk2_append]
    exact own_grown hr (grownBy_set w2 m.g 2 _) fun k hk e => by
      injection e with e
      subst e
      obtain ⟨_, cur, e⟩ := own_cells hr hk
      obtain ⟨cur', fr, e2⟩ := netb_grown h.nb hg fun k hk => (hoff k hk).2.1
      rw [e] at e2
      injection e2 with e2
      injection e2 with _ e2 _
      exact absurd e2 (by decide)
  · have := h.lo
    have := hg.size
    simp only
    omega
  · have h1 := h.gl i hi
    have := h.lo
    have := hg.size
    refine ⟨?_, h1.2.1, ?_, h1.2.2.2⟩
    · simp only; omega
    · simp only; omega
  · refine (h.bel.trans (?_ : Below B0 w w2)).setCell (p := ⟨m.g, 2, none⟩) h.lo.1 _
    exact below_own (Below.refl _ _) h.r2 hg (Nat.le_refl _) hb0
/-- One node's flooder has one neighbour more. -/
theorem NtAt.up (h : NtAt B0 w0 w m n ls S none 0 []) {i l : Nat} (hi : i < n) {F' : Fd.Fn} {k : Nat} (hk : w.heap.size ≤ k) (hs : ∀ l', (F' l').isSome = true → l' = l ∨ (S.fl i l').isSome = true)
    (hf : Fd.FlAt w' (m.gf i) (m.bf i) 4 F' (fun j => if j = l then k else m.ff i j)) (hg : w.grownBy w' (some (m.bf i))) :
    NtAt B0 w0 w' ⟨m.g, m.q, m.A0, m.c0, m.A1, m.c1, m.A2, m.c2, m.gd, m.bd, m.gf, m.bf, upd m.ff i (fun j => if j = l then k else m.ff i j), upd m.col k (2 * i + 2)⟩ n ls ⟨S.db, upd S.fl i F', S.way⟩ none 0 [] := by
  have hmap := fl_nbmap (h.fl i hi)
  have hq : Fd.Kq w w' := ⟨hg.os, hg.tape, hg.output, hg.size, fun k hk hne => hg.block k hk (fun e => by
    injection e with e
    subst e
    obtain ⟨es, ck, e⟩ := hmap
    exact hne es ck e)⟩
  have hnf : Nf m.col (2 * i + 2) m.g m.q w w' := Nf.of_row hg hmap (h.cb i hi)
  refine ⟨hq.box h.bx, netb_kq h.nb hq, hq.own h.r0, hq.own h.r1, hq.own h.r2, win_kq h.wy hq, fun s hs => (by cases hs), h.mp, fun j hj => ?_, fun j hj => ?_, fun j hj => ?_, fun j hj => ?_, fun j l' hj hl hjs => ?_, ⟨h.lo.1, h.lo.2.1, Nat.le_trans h.lo.2.2 hg.size⟩, h.gl, fun j hj => ?_, ?_⟩
  · exact hnf.db h.nb (h.db j hj) (by rw [h.cd j hj]; omega) (h.gl j hj).1 (h.gl j hj).2.1
  · simp only
    by_cases e : j = i
    · subst e; rw [upd_same, upd_same]; exact hf
    · rw [upd_ne e, upd_ne e]
      exact hnf.fl h.nb (h.fl j hj) (by rw [h.cb j hj]; omega) (fun l hl hs => by rw [h.cf j l hj hl hs]; omega) (h.gl j hj).2.2.1 (h.gl j hj).2.2.2
  · simp only
    rw [upd_ne (by have := (h.db j hj).lt.2; omega)]
    exact h.cd j hj
  · simp only
    rw [upd_ne (by have := (h.fl j hj).lt.2; omega)]
    exact h.cb j hj
  · simp only at hjs ⊢
    by_cases e : j = i
    · subst e
      rw [upd_same] at hjs ⊢
      by_cases e2 : l' = l
      · rw [if_pos e2, upd_same]
      · rw [if_neg e2]
        rcases hs l' hjs with h1 | h1
        · exact absurd h1 e2
        · rw [upd_ne (by have := (h.fl j hj).flt hl h1; omega)]
          exact h.cf j l' hj hl h1
    · rw [upd_ne e] at hjs ⊢
      rw [upd_ne (by have := (h.fl j hj).flt hl hjs; omega)]
      exact h.cf j l' hj hl hjs
  · obtain ⟨b1, b2, b3⟩ := h.bl j hj
    refine ⟨b1, b2, fun l' hl hjs => ?_⟩
    simp only at hjs ⊢
    by_cases e : j = i
    · subst e
      rw [upd_same] at hjs ⊢
      by_cases e2 : l' = l
      · rw [if_pos e2]; have := h.b0; omega
      · rw [if_neg e2]
        rcases hs l' hjs with h1 | h1
        · exact absurd h1 e2
        · exact b3 l' hl h1
    · rw [upd_ne e] at hjs ⊢
      exact b3 l' hl hjs
  · exact h.bel.trans ⟨hg.os, hg.tape, hg.output, hg.size, fun k hk => hg.block k (Nat.lt_of_lt_of_le hk h.b0) (fun e => by injection e with e; have := (h.bl i hi).2.1; omega)⟩
end

end Go.Proofs.Ytnfldccaeibcpaa

namespace Go.Proofs.Ytnfldccaeibcpaa
set_option linter.unusedVariables false
open Go.RowKit Go.Maps

theorem mxT : ElemT Try.prog 37 47 (.agg #[.int .i64 0, .int .i64 0, .bool false, .int .i64 0, .int .i64 0, .int .i64 0, .bool false, .slice none 0 0, .slice none 0 0]) 9 104 := ⟨Try.underlying37, by kernel_rfl, rfl, by omega⟩
theorem lk2_cells {w : World} {A : Option Addr} {ls : Lks} (h : Rd w A (lk2 ls)) {l : Nat} {p : Nat × Nat} (hp : ls[l]? = some p) : ∃ b off, A = some ⟨b, off, none⟩ ∧ w.cell? ⟨b, off + l * 2, none⟩ = some (.int .i64 (p.1 : Int)) ∧ w.cell? ⟨b, off + l * 2 + 1, none⟩ = some (.int .i64 (p.2 : Int)) := by
  have hl := (List.getElem?_eq_some_iff.1 hp).1
  obtain ⟨b, off, e, hc⟩ := rd_at h (by rw [lk2_len]; omega)
  obtain ⟨g1, g2⟩ := lk2_get ls l p hp
  rw [Nat.mul_comm] at g1 g2
  exact ⟨b, off, e, hc _ _ g1, by rw [Nat.add_assoc]; exact hc _ _ g2⟩
set_option maxRecDepth 100000 in
set_option maxHeartbeats 3200000 in
theorem other_any {B0 : Nat} {w0 w : World} {m : Nm} {n : Nat} {ls : Lks} {S : Ns} {Aw : Option Addr} {cw : Nat} {ms : List Mx} (h : NtAt B0 w0 w m n ls S Aw cw ms) (hn : n ≤ 1000) (hls : ∀ l i, Inc ls l i → i < n) {l i : Nat} (hl : Inc ls l i) (hl8 : ls.length ≤ 1000) :
    Calls Try.prog 20 #[.pointer (some ⟨m.g, 0, none⟩), .int .i64 (l : Int), .int .i64 (i : Int)] w fun e w' => e = .returned (.int .i64 (oth ls l i : Int)) ∧ Below w.heap.size w w' := by
  have hi := hls _ _ hl
  have ho := hls _ _ hl.oth
  obtain ⟨p, hp, h1, h2⟩ := hl
  have hoe : ((oth ls l i : Nat) : Int) = (p.1 : Int) + (p.2 : Int) - (i : Int) := by
    unfold oth
    rw [hp]
    simp only
    omega
  have hll := (List.getElem?_eq_some_iff.1 hp).1
  obtain ⟨b, off, hA, c0, c1⟩ := lk2_cells (own_slice h.r2) hp
  have x2 := h.bx.c 2 rfl
  rw [hA] at x2
  have p1 : p.1 < n := by
    rcases h2 with e | e
    · omega
    · have := hls l p.1 ⟨p, hp, h1, .inl rfl⟩; omega
  have p2 : p.2 < n := by
    have := hls l p.2 ⟨p, hp, h1, .inr rfl⟩; omega
  generalize oth ls l i = o at *
  have hrw : Hid (∀ e w', e = Ending.returned (.int .i64 ((p.1 : Int) + (p.2 : Int) - (i : Int))) → Below w.heap.size w w' → e = .returned (.int .i64 (o : Int)) ∧ Below w.heap.size w w') := fun e w' he hb => ⟨by rw [hoe]; exact he, hb⟩
  clear hoe hA
  generalize p.1 = a at *
  generalize p.2 = bb at *
  generalize ls.length = L at *
  go_enter Try.func20, Try.ntmps20
  go_wp2_with fail
  go_quiet (fail)
  go_wp2_with fail
  go_ret
  exact hrw.out _ _ rfl (below_drewN (Below.refl _ _) nq)

/-- With the message in its box. -/
structure DvAt (B0 : Nat) (w0 w : World) (m : Nm) (n : Nat) (ls : Lks) (S : Ns) (Aw : Option Addr) (cw : Nat) (ms : List Mx) (km : Nat) (x : Mx) : Prop where
  nt : NtAt B0 w0 w m n ls S Aw cw ms
  bx : Box w km (mxL x)
  la : Fd.LaTf w x.x.y x.x.A x.x.c x.x.B x.x.d
  kq : m.q ≤ km
  kw : (Value.slice Aw ms.length cw).ownBlock ≠ some km
section
variable {B0 : Nat} {w0 w w' : World} {m : Nm} {n : Nat} {ls : Lks} {S : Ns} {Aw : Option Addr} {cw : Nat} {ms : List Mx} {km : Nat} {x : Mx}
theorem DvAt.below (h : DvAt B0 w0 w m n ls S Aw cw ms km x) (hb : Below w.heap.size w w') : DvAt B0 w0 w' m n ls S Aw cw ms km x :=
  ⟨h.nt.below hb, h.bx.later hb, h.la.below hb, h.kq, h.kw⟩
theorem DvAt.dbTurn (h : DvAt B0 w0 w m n ls S Aw cw ms km x) {i : Nat} (hi : i < n) {N' : Db} (hg : w.grownBy w' (some (m.bd i))) (hd : DbAt w' (m.gd i) (m.bd i) N') : DvAt B0 w0 w' m n ls ⟨upd S.db i N', S.fl, S.way⟩ Aw cw ms km x := by
  have hmap := db_map (h.nt.db i hi)
  have hq : Fd.Kq w w' := ⟨hg.os, hg.tape, hg.output, hg.size, fun k hk hne => hg.block k hk (fun e => by
    injection e with e
    subst e
    obtain ⟨es, ck, e⟩ := hmap
    exact hne es ck e)⟩
  exact ⟨h.nt.dbTurn hi hg hd, hq.box h.bx, hq.laF h.la, h.kq, h.kw⟩
theorem DvAt.flTurn (h : DvAt B0 w0 w m n ls S Aw cw ms km x) {i : Nat} (hi : i < n) {F' : Fd.Fn} (hk : Fd.Kf (Fd.FS (S.fl i) (m.ff i)) w w') (hf : Fd.FlAt w' (m.gf i) (m.bf i) 4 F' (m.ff i)) (hs : ∀ l, (F' l).isSome = (S.fl i l).isSome) : DvAt B0 w0 w' m n ls ⟨S.db, upd S.fl i F', S.way⟩ Aw cw ms km x := by
  have hq := hk.kq (h.nt.fl i hi).maps
  exact ⟨h.nt.flTurn hi hk hf hs, hq.box h.bx, hq.laF h.la, h.kq, h.kw⟩
theorem DvAt.kept6 (h : DvAt B0 w0 w m n ls S Aw cw ms km x) {w2 : World} (hg : w.grownBy w2 (Value.slice Aw ms.length cw).ownBlock) : Box w2 km (mxL x) := h.bx.kept hg (fun e => h.kw e.symm) (by simp [mxL])
theorem DvAt.cl {q t : Nat} {k : Bool} {y : La} {A : Option Addr} {c : Nat} {B : Option Addr} {d : Nat} (h : DvAt B0 w0 w m n ls S Aw cw ms km ⟨q, t, k, ⟨y, A, c, B, d⟩⟩) :
    w.cell? ⟨km, 0, none⟩ = some (.int .i64 (q : Int)) ∧ w.cell? ⟨km, 1, none⟩ = some (.int .i64 (t : Int)) ∧ w.cell? ⟨km, 2, none⟩ = some (.bool k) ∧ w.cell? ⟨km, 3, none⟩ = some (.int .i64 y.o) ∧ w.cell? ⟨km, 4, none⟩ = some (.int .i64 y.s) ∧ w.cell? ⟨km, 5, none⟩ = some (.int .i64 y.a) ∧
    w.cell? ⟨km, 6, none⟩ = some (.bool y.ov) ∧ w.cell? ⟨km, 7, none⟩ = some (.slice A y.adj.length c) ∧ w.cell? ⟨km, 8, none⟩ = some (.slice B y.pre.length d) :=
  ⟨h.bx.c 0 rfl, h.bx.c 1 rfl, h.bx.c 2 rfl, h.bx.c 3 rfl, h.bx.c 4 rfl, h.bx.c 5 rfl, h.bx.c 6 rfl, h.bx.c 7 rfl, h.bx.c 8 rfl⟩
end
theorem upd_self {α : Type} (f : Nat → α) (i : Nat) : upd f i (f i) = f := by funext j; unfold upd; split <;> simp_all
/-- What a delivery leaves behind. -/
def DlvPost (B0 : Nat) (w0 : World) (m : Nm) (n : Nat) (ls : Lks) (S' : Ns) (e : Ending) (w' : World) : Prop := e = .returned (.bool true) ∧ ∃ Aw cw ms, NtAt B0 w0 w' m n ls S' Aw cw ms

set_option maxRecDepth 100000 in
set_option maxHeartbeats 12800000 in
theorem deliver_any {B0 : Nat} {w0 w : World} {m : Nm} {n : Nat} {ls : Lks} {S : Ns} {Aw : Option Addr} {cw : Nat} {ms : List Mx} {G : La → Nat → Prop} {bs : List (La × Nat)} (h : NtAt B0 w0 w m n ls S Aw cw ms) (H : Inv n ls G bs S) (hG : GOk ls G) (hls : ∀ l i, Inc ls l i → i < n)
    (hn : n ≤ 5) (hL : ls.length ≤ 8) (x : Mx) (hx : Fd.LaTf w x.x.y x.x.A x.x.c x.x.B x.x.d) (hm : MsgOk n ls G S (mxP x)) (hms : ms.length ≤ 100000) :
    Calls Try.prog 8 #[.pointer (some ⟨m.g, 0, none⟩), .agg (mxL x).toArray] w (DlvPost B0 w0 m n ls (dlv ls S (mxP x))) := by
  obtain ⟨q, t, k, ⟨y, A, c, B, d⟩⟩ := x
  unfold mxP at hm ⊢
  simp only at hx hm ⊢
  have hva := hG.v hm.g
  have ht := hm.lt
  have hq8 := hm.inc.lt
  simp only at hva ht hq8
  have hb1 := below_new' w (.cells #[.int .i64 (q : Int), .int .i64 (t : Int), .bool k, .int .i64 y.o, .int .i64 y.s, .int .i64 y.a, .bool y.ov, .slice A y.adj.length c, .slice B y.pre.length d] 47)
  have V : DvAt B0 w0 (w.alloc (.cells #[.int .i64 (q : Int), .int .i64 (t : Int), .bool k, .int .i64 y.o, .int .i64 y.s, .int .i64 y.a, .bool y.ov, .slice A y.adj.length c, .slice B y.pre.length d] 47)) m n ls S Aw cw ms w.heap.size ⟨q, t, k, ⟨y, A, c, B, d⟩⟩ :=
    ⟨h.below hb1, Box.new' w _ _ _ _ rfl rfl, hx.below hb1, h.lo.2.2, fun e => by have := (h.wy.lt _ e).2; omega⟩
  obtain ⟨D, hD⟩ := Option.isSome_iff_exists.1 ((H.inc t q ht).2 hm.inc)
  have hDs : (S.fl t q).isSome = true := by rw [hD]; rfl
  clear h hx hb1
  show Calls _ _ #[.pointer (some ⟨m.g, 0, none⟩), .agg #[.int .i64 (q : Int), .int .i64 (t : Int), .bool k, .int .i64 y.o, .int .i64 y.s, .int .i64 y.a, .bool y.ov, .slice A y.adj.length c, .slice B y.pre.length d]] w _
  go_enter Try.func8, Try.ntmps8
  go_upto_region 1 with fail
  generalize World.alloc w _ = w1 at *
  generalize w.heap.size = km at *
  obtain ⟨b0, off0, hA0, z0⟩ := rd_at (own_slice V.nt.r0) (by rw [ptrs_len]; omega)
  obtain ⟨b1, off1, hA1, z1⟩ := rd_at (own_slice V.nt.r1) (by rw [ptrs_len]; omega)
  have x0 := V.nt.bx.c 0 rfl
  have x1 := V.nt.bx.c 1 rfl
  rw [hA0] at x0
  rw [hA1] at x1
  replace z0 := z0 t _ (ptrs_get ht)
  replace z1 := z1 t _ (ptrs_get ht)
  have y1 := V.bx.c 1 rfl
  clear hA0 hA1
  go_quiet (fail)
  replace V := V.below (below_drewN (Below.refl _ _) nq)
  clear x0 x1 z0 z1 y1
  generalize World.drewN w1 nq = w2 at *
  have hwf : (Lit.int .i64 y.o).wf = true := wf64 hva.1.1 (by have := hva.1; omega)
  have hla := V.la.1
  cases k with
  | true =>
    have hend : Hid (∀ w', NtAt B0 w0 w' m n ls ⟨S.db, upd S.fl t (Fd.setN (S.fl t) q (Fd.ackD D y)), S.way⟩ Aw cw ms → DlvPost B0 w0 m n ls (dlv ls S ⟨q, t, true, y⟩) (.returned (.bool true)) w') := fun w' h => by
      have e : dlv ls S ⟨q, t, true, y⟩ = ⟨S.db, upd S.fl t (Fd.setN (S.fl t) q (Fd.ackD D y)), S.way⟩ := by
        unfold dlv ackF
        rw [if_pos rfl]
        simp only [hD]
      rw [e]
      exact ⟨rfl, _, _, _, h⟩
    have AK := Fd.fack_any w2 (m.gf t) (m.bf t) 4 (S.fl t) (m.ff t) (V.nt.fl t ht) q (by omega) D hD _ y hla hwf
    unfold Fd.AckPost at AK
    replace AK := Lib.hid AK
    obtain ⟨y0, y1, y2, y3, y4, y5, y6, y7, y8⟩ := V.cl
    replace V := Lib.hid V
    go_wp2_with fail
    (with_reducible refine (AK.out).mono ?_)
    rintro e w3 ⟨rfl, hf, hg⟩
    have V3 := V.out.flTurn ht (kf_row (by omega) hDs hg) hf (fun l => by
      unfold Fd.setN
      by_cases e : l = q
      · subst e; simp [hDs]
      · simp [e])
    have hfin := hend.out _ V3.nt
    replace hfin := Lib.hid hfin
    clear y0 y1 y2 y3 y4 y5 y6 y7 y8 V AK V3 hf hg hend
    go_wp2_with fail
    go_ret
    exact hfin.out
  | false =>
    have DI := dinstall_any w2 (m.gd t) (m.bd t) (S.db t) _ y (V.nt.db t ht) hla
    have hE : instE y = 0 := by unfold instE; rw [vB_t hva, if_pos rfl]
    unfold InstPost at DI
    rw [hE] at DI
    rcases instR_cases (N := S.db t) hva with ⟨hr, -⟩ | ⟨hr, -⟩ | ⟨hr, hh, hdb, -⟩
    · rw [hr] at DI
      replace DI := Lib.hid DI
      obtain ⟨y0, y1, y2, y3, y4, y5, y6, y7, y8⟩ := V.cl
      replace V := Lib.hid V
      go_wp2_with fail
      (with_reducible refine (DI.out).mono ?_)
      rintro e w3 ⟨rfl, hd, hg⟩
      have V3 := V.out.dbTurn ht hg hd
      clear y0 y1 y2 y3 y4 y5 y6 y7 y8 V DI hd hg
      obtain ⟨y0, y1, y2, y3, y4, y5, y6, y7, y8⟩ := V3.cl
      have SP := Fd.fspread_any w3 (m.gf t) (m.bf t) 4 (S.fl t) (m.ff t) (V3.nt.fl t ht) _ y V3.la.1 hva (q : Int)
      unfold Fd.SprPost at SP
      replace SP := Lib.hid SP
      replace V3 := Lib.hid V3
      go_wp2_with fail
      (with_reducible refine (SP.out).mono ?_)
      rintro e w4 ⟨rfl, hf, hkf⟩
      have V4 := V3.out.flTurn ht hkf hf (fun l => isS_spr l)
      clear y0 y1 y2 y3 y4 y5 y6 y7 y8 V3 SP hf hkf
      obtain ⟨y0, y1, y2, y3, y4, y5, y6, y7, y8⟩ := V4.cl
      have x3 := V4.nt.bx.c 3 rfl
      have hmi := hm.inc
      simp only at hmi
      have V5 := V4.below ((Below.refl w4.heap.size w4).drew)
      have OT := other_any V5.nt (by omega) hls hmi (by omega)
      have hend : Hid (∀ w' Aw' cw' ms', NtAt B0 w0 w' m n ls ⟨upd S.db t (instN (S.db t) y), upd S.fl t (Fd.sprN (S.fl t) y (q : Int)), S.way ++ [⟨q, oth ls q t, true, y⟩]⟩ Aw' cw' ms' → DlvPost B0 w0 m n ls (dlv ls S ⟨q, t, false, y⟩) (.returned (.bool true)) w') := fun w' Aw' cw' ms' h => by
        have e : dlv ls S ⟨q, t, false, y⟩ = ⟨upd S.db t (instN (S.db t) y), upd S.fl t (Fd.sprN (S.fl t) y (q : Int)), S.way ++ [⟨q, oth ls q t, true, y⟩]⟩ := by
          unfold dlv
          rw [if_neg (by simp), if_pos hr]
        rw [e]
        exact ⟨rfl, _, _, _, h⟩
      have tok1 : True := trivial
      replace OT := Lib.hid OT
      replace V4 := Lib.hid V4
      replace V5 := Lib.hid V5
      obtain ⟨o, ho⟩ : ∃ o, oth ls q t = o := ⟨_, rfl⟩
      rw [ho] at OT hend
      clear ho
      go_upto_region 15 with fail
      refine wp_region_noPanic ?_
      refine wp_region_Z (S := fun W => W.cell? ⟨m.g, 3, none⟩ = some (.slice Aw ms.length cw) ∧ W.cell? ⟨km, 0, none⟩ = some (.int .i64 (q : Int)) ∧ W.cell? ⟨km, 1, none⟩ = some (.int .i64 (t : Int)) ∧ W.cell? ⟨km, 3, none⟩ = some (.int .i64 y.o) ∧ W.cell? ⟨km, 4, none⟩ = some (.int .i64 y.s) ∧ W.cell? ⟨km, 5, none⟩ = some (.int .i64 y.a) ∧ W.cell? ⟨km, 6, none⟩ = some (.bool y.ov) ∧ W.cell? ⟨km, 7, none⟩ = some (.slice A y.adj.length c) ∧ W.cell? ⟨km, 8, none⟩ = some (.slice B y.pre.length d)) [20] (by kernel_rfl) ⟨x3, y0, y1, y3, y4, y5, y6, y7, y8⟩ (fun hHeld => ?_)
      refine takeZ (i := 0) (v := .pointer (some ⟨m.g, 0, none⟩)) (some 85) rfl rfl (by kernel_rfl) (by kernel_rfl) (by kernel_rfl) (by kernel_rfl) (fun _ _ _ h => h) (Or.inl ⟨by rfl, fun _ _ => rfl⟩) (by assumption) ?_
      (try simp only [Act.put]); (try simp only [List.setIfInBounds_toArray]); (try simp only [List.set_cons_succ]); (try simp only [List.set_cons_zero])
      refine takeZ (i := 1) (v := .pointer (some ⟨m.g, 0, none⟩)) (some 86) rfl rfl (by kernel_rfl) (by kernel_rfl) (by kernel_rfl) (by kernel_rfl) (fun _ _ _ h => h) (Or.inl ⟨by rfl, fun _ _ => rfl⟩) (by assumption) ?_
      (try simp only [Act.put]); (try simp only [List.setIfInBounds_toArray]); (try simp only [List.set_cons_succ]); (try simp only [List.set_cons_zero])
      refine takeZ (i := 2) (v := ?_) (some 87) rfl rfl (by kernel_rfl) (by kernel_rfl) (by kernel_rfl) (by kernel_rfl) (fun _ _ _ h => h) (Or.inl ⟨by rfl, ?_⟩) (by assumption) ?_
      rotate_left
      · intro w hSw; (try dsimp only at hSw); go_simp; (try with_reducible rfl)
      (try simp only [Act.put]); (try simp only [List.setIfInBounds_toArray]); (try simp only [List.set_cons_succ]); (try simp only [List.set_cons_zero])
      refine takeZ (i := 3) (v := ?_) (some 88) rfl rfl (by kernel_rfl) (by kernel_rfl) (by kernel_rfl) (by kernel_rfl) (fun _ _ _ h => h) (Or.inl ⟨by rfl, ?_⟩) (by assumption) ?_
      rotate_left
      · intro w hSw; (try dsimp only at hSw); go_simp; (try with_reducible rfl)
      (try simp only [Act.put]); (try simp only [List.setIfInBounds_toArray]); (try simp only [List.set_cons_succ]); (try simp only [List.set_cons_zero])
      refine takeZ (i := 4) (v := ?_) (some 89) rfl rfl (by kernel_rfl) (by kernel_rfl) (by kernel_rfl) (by kernel_rfl) (fun _ _ _ h => h) (Or.inl ⟨by rfl, ?_⟩) (by assumption) ?_
      rotate_left
      · intro w hSw; (try dsimp only at hSw); go_simp; (try with_reducible rfl)
      (try simp only [Act.put]); (try simp only [List.setIfInBounds_toArray]); (try simp only [List.set_cons_succ]); (try simp only [List.set_cons_zero])
      refine takeZ (i := 5) (v := ?_) (some 90) rfl rfl (by kernel_rfl) (by kernel_rfl) (by kernel_rfl) (by kernel_rfl) (fun _ _ _ h => h) (Or.inl ⟨by rfl, ?_⟩) (by assumption) ?_
      rotate_left
      · intro w hSw; (try dsimp only at hSw); go_simp; (try with_reducible rfl)
      (try simp only [Act.put]); (try simp only [List.setIfInBounds_toArray]); (try simp only [List.set_cons_succ]); (try simp only [List.set_cons_zero])
      refine takeZ (i := 6) (v := ?_) (some 91) rfl rfl (by kernel_rfl) (by kernel_rfl) (by kernel_rfl) (by kernel_rfl) (fun _ _ _ h => h) (Or.inl ⟨by rfl, ?_⟩) (by assumption) ?_
      rotate_left
      · intro w hSw; (try dsimp only at hSw); go_simp; (try with_reducible rfl)
      (try simp only [Act.put]); (try simp only [List.setIfInBounds_toArray]); (try simp only [List.set_cons_succ]); (try simp only [List.set_cons_zero])
      refine takeZ (i := 7) (v := .pointer (some ⟨m.g, 0, none⟩)) (some 92) rfl rfl (by kernel_rfl) (by kernel_rfl) (by kernel_rfl) (by kernel_rfl) (fun _ _ _ h => h) (Or.inl ⟨by rfl, fun _ _ => rfl⟩) (by assumption) ?_
      (try simp only [Act.put]); (try simp only [List.setIfInBounds_toArray]); (try simp only [List.set_cons_succ]); (try simp only [List.set_cons_zero])
      refine takeZ (i := 8) (v := ?_) (some 93) rfl rfl (by kernel_rfl) (by kernel_rfl) (by kernel_rfl) (by kernel_rfl) (fun _ _ _ h => h) (Or.inl ⟨by rfl, ?_⟩) (by assumption) ?_
      rotate_left
      · intro w hSw; (try dsimp only at hSw); go_simp; (try with_reducible rfl)
      (try simp only [Act.put]); (try simp only [List.setIfInBounds_toArray]); (try simp only [List.set_cons_succ]); (try simp only [List.set_cons_zero])
      refine takeZ (i := 9) (v := ?_) (some 94) rfl rfl (by kernel_rfl) (by kernel_rfl) (by kernel_rfl) (by kernel_rfl) (fun _ _ _ h => h) (Or.inl ⟨by rfl, ?_⟩) (by assumption) ?_
      rotate_left
      · intro w hSw; (try dsimp only at hSw); go_simp; (try with_reducible rfl)
      (try simp only [Act.put]); (try simp only [List.setIfInBounds_toArray]); (try simp only [List.set_cons_succ]); (try simp only [List.set_cons_zero])
      refine takeZ (i := 10) (v := ?_) (some 95) rfl rfl (by kernel_rfl) (by kernel_rfl) (by kernel_rfl) (by kernel_rfl) (fun _ _ _ h => h) (Or.inl ⟨by rfl, ?_⟩) (by assumption) ?_
      rotate_left
      · intro w hSw; (try dsimp only at hSw); go_simp; (try with_reducible rfl)
      (try simp only [Act.put]); (try simp only [List.setIfInBounds_toArray]); (try simp only [List.set_cons_succ]); (try simp only [List.set_cons_zero])
      refine takeZ (i := 11) (v := ?_) (some 96) rfl rfl (by kernel_rfl) (by kernel_rfl) (by kernel_rfl) (by kernel_rfl) (fun _ _ _ h => h) (Or.inl ⟨by rfl, ?_⟩) (by assumption) ?_
      rotate_left
      · intro w hSw; (try dsimp only at hSw); go_simp; (try with_reducible rfl)
      (try simp only [Act.put]); (try simp only [List.setIfInBounds_toArray]); (try simp only [List.set_cons_succ]); (try simp only [List.set_cons_zero])
      refine takeZ (i := 13) (v := ?_) (some 98) rfl rfl (by kernel_rfl) (by kernel_rfl) (by kernel_rfl) (by kernel_rfl) (fun _ _ _ h => h) (Or.inl ⟨by rfl, ?_⟩) (by assumption) ?_
      rotate_left
      · intro w hSw; (try dsimp only at hSw); go_simp; (try with_reducible rfl)
      (try simp only [Act.put]); (try simp only [List.setIfInBounds_toArray]); (try simp only [List.set_cons_succ]); (try simp only [List.set_cons_zero])
      refine takeZ (i := 14) (v := ?_) (some 99) rfl rfl (by kernel_rfl) (by kernel_rfl) (by kernel_rfl) (by kernel_rfl) (fun _ _ _ h => h) (Or.inl ⟨by rfl, ?_⟩) (by assumption) ?_
      rotate_left
      · intro w hSw; (try dsimp only at hSw); go_simp; (try with_reducible rfl)
      (try simp only [Act.put]); (try simp only [List.setIfInBounds_toArray]); (try simp only [List.set_cons_succ]); (try simp only [List.set_cons_zero])
      refine anyZ_ready (rs := [12]) (by kernel_rfl) (by simp) ?_
      refine readyZ_cons rfl (fun K hK => ?_) readyZ_nil
      go_simp
      (with_reducible refine (OT.out).mono ?_)
      rintro e wa ⟨rfl, hba⟩
      dsimp only
      have V6 := V5.out.below hba
      obtain ⟨a0, a1, a2, a3, a4, a5, a6, a7, a8⟩ := V6.cl
      refine hK.out _ _ (fun _ => ⟨V6.nt.bx.c 3 rfl, a0, a1, a3, a4, a5, a6, a7, a8⟩) (fun hHeld0 => ?_)
      replace hHeld := hHeld0 (by decide)
      clear hK K hHeld0 OT V4 V5 x3 y0 y1 y2 y3 y4 y5 y6 y7 y8
      refine takeZ (i := 15) (v := ?_) (some 100) rfl rfl (by kernel_rfl) (by kernel_rfl) (by kernel_rfl) (by kernel_rfl) (fun _ _ _ h => h) (Or.inl ⟨by rfl, ?_⟩) (by assumption) ?_
      rotate_left
      · intro w hSw; (try dsimp only at hSw); go_simp; (try with_reducible rfl)
      (try simp only [Act.put]); (try simp only [List.setIfInBounds_toArray]); (try simp only [List.set_cons_succ]); (try simp only [List.set_cons_zero])
      have hb7 := below_new' wa (.cells #[.int .i64 (q : Int), .int .i64 (o : Int), .bool true, .int .i64 y.o, .int .i64 y.s, .int .i64 y.a, .bool y.ov, .slice A y.adj.length c, .slice B y.pre.length d] 47)
      have V7 := V6.below hb7
      have hown7 := V7.nt.wy
      have rd7 := Rd.lit wa #[.int .i64 (q : Int), .int .i64 (o : Int), .bool true, .int .i64 y.o, .int .i64 y.s, .int .i64 y.a, .bool y.ov, .slice A y.adj.length c, .slice B y.pre.length d] 47
      refine anyZ_ready (rs := [16]) (by kernel_rfl) (by simp) ?_
      refine readyZ_cons rfl (fun K hK => ?_) readyZ_nil
      go_simp
      obtain ⟨a0, a1, a2, a3, a4, a5, a6, a7, a8⟩ := V7.cl
      refine hK.out _ _ (fun _ => ⟨V7.nt.bx.c 3 rfl, a0, a1, a3, a4, a5, a6, a7, a8⟩) (fun hHeld0 => ?_)
      replace hHeld := hHeld0 (by decide)
      clear hK K hHeld0
      refine anyZ_ready (rs := [17]) (by kernel_rfl) (by simp) ?_
      refine readyZ_cons rfl (fun K hK => ?_) readyZ_nil
      refine step_appW rfl mxT (.tmp 89) (.tmp 101) (by rfl) m.q (by rfl) hown7 (by rfl) (m := 1) (by rfl) rd7 (mxL_one ⟨q, o, true, ⟨y, A, c, B, d⟩⟩) (by omega) (by simp only [maxLen]; omega) (by omega) V7.nt.lo.2.2 (ms.length + 1) _ rfl rfl ?_
      intro v6 w6 hw6 hb6 hg6 hor6
      obtain ⟨A6, c6, rfl, -⟩ := hw6.form
      have P := V7.nt.pushed (x := ⟨q, o, true, ⟨y, A, c, B, d⟩⟩) hw6 hg6 V7.la
      have bx6 := V7.nt.kept6 hg6
      have V8 := V7.kept6 hg6
      refine hK.out _ _ (fun _ => ⟨bx6.c 3 rfl, V8.c 0 rfl, V8.c 1 rfl, V8.c 3 rfl, V8.c 4 rfl, V8.c 5 rfl, V8.c 6 rfl, V8.c 7 rfl, V8.c 8 rfl⟩) (fun hHeld0 => ?_)
      replace hHeld := hHeld0 (by decide)
      clear hK K hHeld0
      refine anyZ_ready (rs := [18]) (by kernel_rfl) (by simp) ?_
      refine readyZ_cons rfl (fun K hK => ?_) readyZ_nil
      go_simp
      refine hK.out _ _ (fun _ => hHeld) (fun _ => ?_)
      clear hK K
      refine takeZ (i := 19) (v := ?_) (some 104) rfl rfl (by kernel_rfl) (by kernel_rfl) (by kernel_rfl) (by kernel_rfl) (fun _ _ _ h => h) (Or.inl ⟨by rfl, ?_⟩) (by assumption) ?_
      rotate_left
      · intro w hSw; (try dsimp only at hSw); go_simp; (try with_reducible rfl)
      (try simp only [Act.put]); (try simp only [List.setIfInBounds_toArray]); (try simp only [List.set_cons_succ]); (try simp only [List.set_cons_zero])
      have f3 := bx6.f 3 rfl
      have p3 := bx6.c 3 rfl
      refine anyZ_ready (rs := [20]) (by kernel_rfl) (by simp) ?_
      refine readyZ_cons rfl (fun K hK => ?_) readyZ_nil
      go_simp
      refine hK.out _ _ (fun h => absurd h (by decide)) (fun _ => ?_)
      clear hK K hHeld
      refine anyZ_done (by kernel_rfl) ?_ _
      refine NoPanic.normal ?_
      have hfin := hend.out _ _ _ _ P
      replace hfin := Lib.hid hfin
      clear P bx6 V8 hend hw6 hb6 hg6 hor6 f3 p3
      go_wp2_with fail
      go_ret
      exact hfin.out
    · have hin : instN (S.db t) y = S.db t := by unfold instN; rw [if_neg (fun e => by omega)]
      rw [hr, hin] at DI
      replace DI := Lib.hid DI
      obtain ⟨y0, y1, y2, y3, y4, y5, y6, y7, y8⟩ := V.cl
      replace V := Lib.hid V
      go_wp2_with fail
      (with_reducible refine (DI.out).mono ?_)
      rintro e w3 ⟨rfl, hd, hg⟩
      have V3 := V.out.dbTurn ht hg hd
      rw [upd_self] at V3
      clear y0 y1 y2 y3 y4 y5 y6 y7 y8 V DI hd hg
      obtain ⟨y0, y1, y2, y3, y4, y5, y6, y7, y8⟩ := V3.cl
      have AK := Fd.fack_any w3 (m.gf t) (m.bf t) 4 (S.fl t) (m.ff t) (V3.nt.fl t ht) q (by omega) D hD _ y V3.la.1 hwf
      unfold Fd.AckPost at AK
      replace AK := Lib.hid AK
      replace V3 := Lib.hid V3
      go_wp2_with fail
      (with_reducible refine (AK.out).mono ?_)
      rintro e w4 ⟨rfl, hf, hg⟩
      have V4 := V3.out.flTurn ht (kf_row (by omega) hDs hg) hf (fun l => by
        unfold Fd.setN
        by_cases e : l = q
        · subst e; simp [hDs]
        · simp [e])
      clear y0 y1 y2 y3 y4 y5 y6 y7 y8 V3 AK hf hg
      obtain ⟨y0, y1, y2, y3, y4, y5, y6, y7, y8⟩ := V4.cl
      have x3 := V4.nt.bx.c 3 rfl
      have hmi := hm.inc
      simp only at hmi
      have V5 := V4.below ((Below.refl w4.heap.size w4).drew)
      have OT := other_any V5.nt (by omega) hls hmi (by omega)
      have hend : Hid (∀ w' Aw' cw' ms', NtAt B0 w0 w' m n ls ⟨S.db, upd S.fl t (Fd.setN (S.fl t) q (Fd.ackD D y)), S.way ++ [⟨q, oth ls q t, true, y⟩]⟩ Aw' cw' ms' → DlvPost B0 w0 m n ls (dlv ls S ⟨q, t, false, y⟩) (.returned (.bool true)) w') := fun w' Aw' cw' ms' h => by
        have e : dlv ls S ⟨q, t, false, y⟩ = ⟨S.db, upd S.fl t (Fd.setN (S.fl t) q (Fd.ackD D y)), S.way ++ [⟨q, oth ls q t, true, y⟩]⟩ := by
          unfold dlv ackF
          rw [if_neg (by simp), if_neg (by simp only; omega), if_pos hr]
          simp only [hD]
        rw [e]
        exact ⟨rfl, _, _, _, h⟩
      have tok1 : True := trivial
      replace OT := Lib.hid OT
      replace V4 := Lib.hid V4
      replace V5 := Lib.hid V5
      obtain ⟨o, ho⟩ : ∃ o, oth ls q t = o := ⟨_, rfl⟩
      rw [ho] at OT hend
      clear ho
      go_upto_region 15 with fail
      refine wp_region_noPanic ?_
      refine wp_region_Z (S := fun W => W.cell? ⟨m.g, 3, none⟩ = some (.slice Aw ms.length cw) ∧ W.cell? ⟨km, 0, none⟩ = some (.int .i64 (q : Int)) ∧ W.cell? ⟨km, 1, none⟩ = some (.int .i64 (t : Int)) ∧ W.cell? ⟨km, 3, none⟩ = some (.int .i64 y.o) ∧ W.cell? ⟨km, 4, none⟩ = some (.int .i64 y.s) ∧ W.cell? ⟨km, 5, none⟩ = some (.int .i64 y.a) ∧ W.cell? ⟨km, 6, none⟩ = some (.bool y.ov) ∧ W.cell? ⟨km, 7, none⟩ = some (.slice A y.adj.length c) ∧ W.cell? ⟨km, 8, none⟩ = some (.slice B y.pre.length d)) [20] (by kernel_rfl) ⟨x3, y0, y1, y3, y4, y5, y6, y7, y8⟩ (fun hHeld => ?_)
      refine takeZ (i := 0) (v := .pointer (some ⟨m.g, 0, none⟩)) (some 85) rfl rfl (by kernel_rfl) (by kernel_rfl) (by kernel_rfl) (by kernel_rfl) (fun _ _ _ h => h) (Or.inl ⟨by rfl, fun _ _ => rfl⟩) (by assumption) ?_
      (try simp only [Act.put]); (try simp only [List.setIfInBounds_toArray]); (try simp only [List.set_cons_succ]); (try simp only [List.set_cons_zero])
      refine takeZ (i := 1) (v := .pointer (some ⟨m.g, 0, none⟩)) (some 86) rfl rfl (by kernel_rfl) (by kernel_rfl) (by kernel_rfl) (by kernel_rfl) (fun _ _ _ h => h) (Or.inl ⟨by rfl, fun _ _ => rfl⟩) (by assumption) ?_
      (try simp only [Act.put]); (try simp only [List.setIfInBounds_toArray]); (try simp only [List.set_cons_succ]); (try simp only [List.set_cons_zero])
      refine takeZ (i := 2) (v := ?_) (some 87) rfl rfl (by kernel_rfl) (by kernel_rfl) (by kernel_rfl) (by kernel_rfl) (fun _ _ _ h => h) (Or.inl ⟨by rfl, ?_⟩) (by assumption) ?_
      rotate_left
      · intro w hSw; (try dsimp only at hSw); go_simp; (try with_reducible rfl)
      (try simp only [Act.put]); (try simp only [List.setIfInBounds_toArray]); (try simp only [List.set_cons_succ]); (try simp only [List.set_cons_zero])
      refine takeZ (i := 3) (v := ?_) (some 88) rfl rfl (by kernel_rfl) (by kernel_rfl) (by kernel_rfl) (by kernel_rfl) (fun _ _ _ h => h) (Or.inl ⟨by rfl, ?_⟩) (by assumption) ?_
      rotate_left
      · intro w hSw; (try dsimp only at hSw); go_simp; (try with_reducible rfl)
      (try simp only [Act.put]); (try simp only [List.setIfInBounds_toArray]); (try simp only [List.set_cons_succ]); (try simp only [List.set_cons_zero])
      refine takeZ (i := 4) (v := ?_) (some 89) rfl rfl (by kernel_rfl) (by kernel_rfl) (by kernel_rfl) (by kernel_rfl) (fun _ _ _ h => h) (Or.inl ⟨by rfl, ?_⟩) (by assumption) ?_
      rotate_left
      · intro w hSw; (try dsimp only at hSw); go_simp; (try with_reducible rfl)
      (try simp only [Act.put]); (try simp only [List.setIfInBounds_toArray]); (try simp only [List.set_cons_succ]); (try simp only [List.set_cons_zero])
      refine takeZ (i := 5) (v := ?_) (some 90) rfl rfl (by kernel_rfl) (by kernel_rfl) (by kernel_rfl) (by kernel_rfl) (fun _ _ _ h => h) (Or.inl ⟨by rfl, ?_⟩) (by assumption) ?_
      rotate_left
      · intro w hSw; (try dsimp only at hSw); go_simp; (try with_reducible rfl)
      (try simp only [Act.put]); (try simp only [List.setIfInBounds_toArray]); (try simp only [List.set_cons_succ]); (try simp only [List.set_cons_zero])
      refine takeZ (i := 6) (v := ?_) (some 91) rfl rfl (by kernel_rfl) (by kernel_rfl) (by kernel_rfl) (by kernel_rfl) (fun _ _ _ h => h) (Or.inl ⟨by rfl, ?_⟩) (by assumption) ?_
      rotate_left
      · intro w hSw; (try dsimp only at hSw); go_simp; (try with_reducible rfl)
      (try simp only [Act.put]); (try simp only [List.setIfInBounds_toArray]); (try simp only [List.set_cons_succ]); (try simp only [List.set_cons_zero])
      refine takeZ (i := 7) (v := .pointer (some ⟨m.g, 0, none⟩)) (some 92) rfl rfl (by kernel_rfl) (by kernel_rfl) (by kernel_rfl) (by kernel_rfl) (fun _ _ _ h => h) (Or.inl ⟨by rfl, fun _ _ => rfl⟩) (by assumption) ?_
      (try simp only [Act.put]); (try simp only [List.setIfInBounds_toArray]); (try simp only [List.set_cons_succ]); (try simp only [List.set_cons_zero])
      refine takeZ (i := 8) (v := ?_) (some 93) rfl rfl (by kernel_rfl) (by kernel_rfl) (by kernel_rfl) (by kernel_rfl) (fun _ _ _ h => h) (Or.inl ⟨by rfl, ?_⟩) (by assumption) ?_
      rotate_left
      · intro w hSw; (try dsimp only at hSw); go_simp; (try with_reducible rfl)
      (try simp only [Act.put]); (try simp only [List.setIfInBounds_toArray]); (try simp only [List.set_cons_succ]); (try simp only [List.set_cons_zero])
      refine takeZ (i := 9) (v := ?_) (some 94) rfl rfl (by kernel_rfl) (by kernel_rfl) (by kernel_rfl) (by kernel_rfl) (fun _ _ _ h => h) (Or.inl ⟨by rfl, ?_⟩) (by assumption) ?_
      rotate_left
      · intro w hSw; (try dsimp only at hSw); go_simp; (try with_reducible rfl)
      (try simp only [Act.put]); (try simp only [List.setIfInBounds_toArray]); (try simp only [List.set_cons_succ]); (try simp only [List.set_cons_zero])
      refine takeZ (i := 10) (v := ?_) (some 95) rfl rfl (by kernel_rfl) (by kernel_rfl) (by kernel_rfl) (by kernel_rfl) (fun _ _ _ h => h) (Or.inl ⟨by rfl, ?_⟩) (by assumption) ?_
      rotate_left
      · intro w hSw; (try dsimp only at hSw); go_simp; (try with_reducible rfl)
      (try simp only [Act.put]); (try simp only [List.setIfInBounds_toArray]); (try simp only [List.set_cons_succ]); (try simp only [List.set_cons_zero])
      refine takeZ (i := 11) (v := ?_) (some 96) rfl rfl (by kernel_rfl) (by kernel_rfl) (by kernel_rfl) (by kernel_rfl) (fun _ _ _ h => h) (Or.inl ⟨by rfl, ?_⟩) (by assumption) ?_
      rotate_left
      · intro w hSw; (try dsimp only at hSw); go_simp; (try with_reducible rfl)
      (try simp only [Act.put]); (try simp only [List.setIfInBounds_toArray]); (try simp only [List.set_cons_succ]); (try simp only [List.set_cons_zero])
      refine takeZ (i := 13) (v := ?_) (some 98) rfl rfl (by kernel_rfl) (by kernel_rfl) (by kernel_rfl) (by kernel_rfl) (fun _ _ _ h => h) (Or.inl ⟨by rfl, ?_⟩) (by assumption) ?_
      rotate_left
      · intro w hSw; (try dsimp only at hSw); go_simp; (try with_reducible rfl)
      (try simp only [Act.put]); (try simp only [List.setIfInBounds_toArray]); (try simp only [List.set_cons_succ]); (try simp only [List.set_cons_zero])
      refine takeZ (i := 14) (v := ?_) (some 99) rfl rfl (by kernel_rfl) (by kernel_rfl) (by kernel_rfl) (by kernel_rfl) (fun _ _ _ h => h) (Or.inl ⟨by rfl, ?_⟩) (by assumption) ?_
      rotate_left
      · intro w hSw; (try dsimp only at hSw); go_simp; (try with_reducible rfl)
      (try simp only [Act.put]); (try simp only [List.setIfInBounds_toArray]); (try simp only [List.set_cons_succ]); (try simp only [List.set_cons_zero])
      refine anyZ_ready (rs := [12]) (by kernel_rfl) (by simp) ?_
      refine readyZ_cons rfl (fun K hK => ?_) readyZ_nil
      go_simp
      (with_reducible refine (OT.out).mono ?_)
      rintro e wa ⟨rfl, hba⟩
      dsimp only
      have V6 := V5.out.below hba
      obtain ⟨a0, a1, a2, a3, a4, a5, a6, a7, a8⟩ := V6.cl
      refine hK.out _ _ (fun _ => ⟨V6.nt.bx.c 3 rfl, a0, a1, a3, a4, a5, a6, a7, a8⟩) (fun hHeld0 => ?_)
      replace hHeld := hHeld0 (by decide)
      clear hK K hHeld0 OT V4 V5 x3 y0 y1 y2 y3 y4 y5 y6 y7 y8
      refine takeZ (i := 15) (v := ?_) (some 100) rfl rfl (by kernel_rfl) (by kernel_rfl) (by kernel_rfl) (by kernel_rfl) (fun _ _ _ h => h) (Or.inl ⟨by rfl, ?_⟩) (by assumption) ?_
      rotate_left
      · intro w hSw; (try dsimp only at hSw); go_simp; (try with_reducible rfl)
      (try simp only [Act.put]); (try simp only [List.setIfInBounds_toArray]); (try simp only [List.set_cons_succ]); (try simp only [List.set_cons_zero])
      have hb7 := below_new' wa (.cells #[.int .i64 (q : Int), .int .i64 (o : Int), .bool true, .int .i64 y.o, .int .i64 y.s, .int .i64 y.a, .bool y.ov, .slice A y.adj.length c, .slice B y.pre.length d] 47)
      have V7 := V6.below hb7
      have hown7 := V7.nt.wy
      have rd7 := Rd.lit wa #[.int .i64 (q : Int), .int .i64 (o : Int), .bool true, .int .i64 y.o, .int .i64 y.s, .int .i64 y.a, .bool y.ov, .slice A y.adj.length c, .slice B y.pre.length d] 47
      refine anyZ_ready (rs := [16]) (by kernel_rfl) (by simp) ?_
      refine readyZ_cons rfl (fun K hK => ?_) readyZ_nil
      go_simp
      obtain ⟨a0, a1, a2, a3, a4, a5, a6, a7, a8⟩ := V7.cl
      refine hK.out _ _ (fun _ => ⟨V7.nt.bx.c 3 rfl, a0, a1, a3, a4, a5, a6, a7, a8⟩) (fun hHeld0 => ?_)
      replace hHeld := hHeld0 (by decide)
      clear hK K hHeld0
      refine anyZ_ready (rs := [17]) (by kernel_rfl) (by simp) ?_
      refine readyZ_cons rfl (fun K hK => ?_) readyZ_nil
      refine step_appW rfl mxT (.tmp 89) (.tmp 101) (by rfl) m.q (by rfl) hown7 (by rfl) (m := 1) (by rfl) rd7 (mxL_one ⟨q, o, true, ⟨y, A, c, B, d⟩⟩) (by omega) (by simp only [maxLen]; omega) (by omega) V7.nt.lo.2.2 (ms.length + 1) _ rfl rfl ?_
      intro v6 w6 hw6 hb6 hg6 hor6
      obtain ⟨A6, c6, rfl, -⟩ := hw6.form
      have P := V7.nt.pushed (x := ⟨q, o, true, ⟨y, A, c, B, d⟩⟩) hw6 hg6 V7.la
      have bx6 := V7.nt.kept6 hg6
      have V8 := V7.kept6 hg6
      refine hK.out _ _ (fun _ => ⟨bx6.c 3 rfl, V8.c 0 rfl, V8.c 1 rfl, V8.c 3 rfl, V8.c 4 rfl, V8.c 5 rfl, V8.c 6 rfl, V8.c 7 rfl, V8.c 8 rfl⟩) (fun hHeld0 => ?_)
      replace hHeld := hHeld0 (by decide)
      clear hK K hHeld0
      refine anyZ_ready (rs := [18]) (by kernel_rfl) (by simp) ?_
      refine readyZ_cons rfl (fun K hK => ?_) readyZ_nil
      go_simp
      refine hK.out _ _ (fun _ => hHeld) (fun _ => ?_)
      clear hK K
      refine takeZ (i := 19) (v := ?_) (some 104) rfl rfl (by kernel_rfl) (by kernel_rfl) (by kernel_rfl) (by kernel_rfl) (fun _ _ _ h => h) (Or.inl ⟨by rfl, ?_⟩) (by assumption) ?_
      rotate_left
      · intro w hSw; (try dsimp only at hSw); go_simp; (try with_reducible rfl)
      (try simp only [Act.put]); (try simp only [List.setIfInBounds_toArray]); (try simp only [List.set_cons_succ]); (try simp only [List.set_cons_zero])
      have f3 := bx6.f 3 rfl
      have p3 := bx6.c 3 rfl
      refine anyZ_ready (rs := [20]) (by kernel_rfl) (by simp) ?_
      refine readyZ_cons rfl (fun K hK => ?_) readyZ_nil
      go_simp
      refine hK.out _ _ (fun h => absurd h (by decide)) (fun _ => ?_)
      clear hK K hHeld
      refine anyZ_done (by kernel_rfl) ?_ _
      refine NoPanic.normal ?_
      have hfin := hend.out _ _ _ _ P
      replace hfin := Lib.hid hfin
      clear P bx6 V8 hend hw6 hb6 hg6 hor6 f3 p3
      go_wp2_with fail
      go_ret
      exact hfin.out
    · have hin : instN (S.db t) y = S.db t := by unfold instN; rw [if_neg (fun e => by omega)]
      rw [hr, hin] at DI
      have hgo : getO (S.db t) y.o = some hh := by
        unfold getO
        rw [if_pos (by have := hva.1; omega)]
        exact hdb
      have hgx : getX (getO (S.db t) y.o) = hh.x := by rw [hgo]; rfl
      have hhv : LaValid hh.x := hG.v (H.db t _ hh ht hdb).1
      have hfew : Few33 (S.db t) := fun i h e => by
        have hv := hG.v (H.db t i h ht e).1
        have := hv.2.2.2.1
        have := hv.2.2.2.2.1
        omega
      have hend : Hid (∀ w', NtAt B0 w0 w' m n ls ⟨S.db, upd S.fl t (Fd.setN (S.fl t) q (Fd.offD D hh.x)), S.way⟩ Aw cw ms → DlvPost B0 w0 m n ls (dlv ls S ⟨q, t, false, y⟩) (.returned (.bool true)) w') := fun w' h => by
        have e : dlv ls S ⟨q, t, false, y⟩ = ⟨S.db, upd S.fl t (Fd.setN (S.fl t) q (Fd.offD D hh.x)), S.way⟩ := by
          unfold dlv offF
          rw [if_neg (by simp), if_neg (by simp only; omega), if_neg (by simp only; omega)]
          simp only [hD, hgx]
        rw [e]
        exact ⟨rfl, _, _, _, h⟩
      replace DI := Lib.hid DI
      obtain ⟨y0, y1, y2, y3, y4, y5, y6, y7, y8⟩ := V.cl
      replace V := Lib.hid V
      go_wp2_with fail
      (with_reducible refine (DI.out).mono ?_)
      rintro e w3 ⟨rfl, hd, hg⟩
      have V3 := V.out.dbTurn ht hg hd
      rw [upd_self] at V3
      clear y0 y1 y2 y3 y4 y5 y6 y7 y8 V DI hd hg
      obtain ⟨y0, y1, y2, y3, y4, y5, y6, y7, y8⟩ := V3.cl
      have DG := dget_any w3 (m.gd t) (m.bd t) (S.db t) y.o hwf (V3.nt.db t ht) hfew
      unfold GetPost at DG
      rw [hgo] at DG
      simp only [getX, Option.isSome_some] at DG
      replace DG := Lib.hid DG
      replace V3 := Lib.hid V3
      clear hgo hgx hfew
      go_wp2_with fail
      (with_reducible refine (DG.out).mono ?_)
      rintro e w4 ⟨v4, rfl, hown, hb⟩
      have V4 := V3.out.below hb
      clear y0 y1 y2 y3 y4 y5 y6 y7 y8 V3 DG hb
      obtain ⟨A9, c9, B9, d9, rfl, hL9⟩ := hown.open
      have hb5 := below_new' w4 (.cells #[.int .i64 hh.x.o, .int .i64 hh.x.s, .int .i64 hh.x.a, .bool hh.x.ov, .slice A9 hh.x.adj.length c9, .slice B9 hh.x.pre.length d9] 45)
      have V5 := V4.below hb5
      have S5 := Box.new' w4 #[.int .i64 hh.x.o, .int .i64 hh.x.s, .int .i64 hh.x.a, .bool hh.x.ov, .slice A9 hh.x.adj.length c9, .slice B9 hh.x.pre.length d9] 45 w4.heap.size _ rfl rfl
      have hx9 := hL9.out _ hb5
      clear V4 hown hL9 hb5
      obtain ⟨y0, y1, y2, y3, y4, y5, y6, y7, y8⟩ := V5.cl
      have e0 := S5.c 0 rfl
      have e1 := S5.c 1 rfl
      have e2 := S5.c 2 rfl
      have e3 := S5.c 3 rfl
      have e4 := S5.c 4 rfl
      have e5 := S5.c 5 rfl
      have OF := Fd.foffer_yes _ (m.gf t) (m.bf t) 4 (S.fl t) (m.ff t) (V5.nt.fl t ht) q (by omega) D hD _ hh.x hx9 hhv
      unfold Fd.FofPost at OF
      replace OF := Lib.hid OF
      replace V5 := Lib.hid V5
      clear hx9 S5
      go_wp2_with fail
      (with_reducible refine (OF.out).mono ?_)
      rintro e w6 ⟨rfl, hf, hg⟩
      have V6 := V5.out.flTurn ht (kf_row (by omega) hDs hg) hf (fun l => by
        unfold Fd.setN
        by_cases e : l = q
        · subst e; simp [hDs]
        · simp [e])
      have hfin := hend.out _ V6.nt
      replace hfin := Lib.hid hfin
      clear y0 y1 y2 y3 y4 y5 y6 y7 y8 e0 e1 e2 e3 e4 e5 V5 OF V6 hf hg hend
      go_wp2_with fail
      go_ret
      exact hfin.out

end Go.Proofs.Ytnfldccaeibcpaa

namespace Go.Proofs.Ytnfldccaeibcpaa
set_option linter.unusedVariables false
open Go.RowKit Go.Maps

theorem NtAt.putNf {B0 : Nat} {w0 w : World} {m : Nm} {n : Nat} {ls : Lks} {S : Ns} {Aw : Option Addr} {cw : Nat} {ms : List Mx} (h : NtAt B0 w0 w m n ls S Aw cw ms) {w2 : World} (hg : w.grownBy w2 (Value.slice Aw ms.length cw).ownBlock) (v : Value) : Nf m.col 0 m.g m.q w (w2.setCell ⟨m.g, 3, none⟩ v) :=
  ⟨hg.os, hg.tape, hg.output, by simpa using hg.size, fun k hk => by
    by_cases e1 : k = m.g
    · exact .inr (.inr (.inl e1))
    · by_cases e2 : (Value.slice Aw ms.length cw).ownBlock = some k
      · obtain ⟨cur, e3⟩ := h.wy.ty k e2
        exact .inr (.inr (.inr ⟨(h.wy.lt k e2).1, cur, _, e3⟩))
      · left
        rw [heap_setCell_other w2 ⟨m.g, 3, none⟩ k _ e1]
        exact hg.block k hk (fun e => e2 e.symm)⟩
theorem NtAt.appNf {B0 : Nat} {w0 w : World} {m : Nm} {n : Nat} {ls : Lks} {S : Ns} {Aw : Option Addr} {cw : Nat} {ms : List Mx} (h : NtAt B0 w0 w m n ls S Aw cw ms) {w2 : World} (hg : w.grownBy w2 (Value.slice Aw ms.length cw).ownBlock) : Nf m.col 0 m.g m.q w w2 :=
  ⟨hg.os, hg.tape, hg.output, hg.size, fun k hk => by
    by_cases e2 : (Value.slice Aw ms.length cw).ownBlock = some k
    · obtain ⟨cur, e3⟩ := h.wy.ty k e2
      exact .inr (.inr (.inr ⟨(h.wy.lt k e2).1, cur, _, e3⟩))
    · exact .inl (hg.block k hk (fun e => e2 e.symm))⟩
theorem sdV_get (l : List Fd.Sd) : ∀ (k : Nat) (hk : k < l.length) (j : Nat) (hj : j < 7), (Fd.sdV l)[7 * k + j]? = (Fd.sdL l[k])[j]? := by
  induction l with
  | nil => intro k hk; cases hk
  | cons r l ih =>
    intro k hk j hj
    cases k with
    | zero => simp only [Fd.sdV, List.getElem_cons_zero]; rw [List.getElem?_append_left (by simp [Fd.sdL, Fd.lxL]; omega)]; simp
    | succ k =>
      simp only [Fd.sdV, List.getElem_cons_succ]
      rw [List.getElem?_append_right (by simp [Fd.sdL, Fd.lxL]; omega), show 7 * (k + 1) + j - (Fd.sdL r).length = 7 * k + j by simp [Fd.sdL, Fd.lxL]; omega]
      exact ih k (by simpa using hk) j hj
theorem sd_cells {w : World} {A : Option Addr} {l : List Fd.Sd} (h : Rd w A (Fd.sdV l)) (k : Nat) (hk : k < l.length) (s : Fd.Sd) (hs : l[k] = s) : ∃ b off, A = some ⟨b, off, none⟩ ∧ ∀ j u, j < 7 → (Fd.sdL s)[j]? = some u → w.cell? ⟨b, off + k * 7 + j, none⟩ = some u := by
  subst hs
  obtain ⟨b, off, e, hc⟩ := rd_at h (by rw [Fd.sdV_len]; omega)
  refine ⟨b, off, e, fun j u hj hu => ?_⟩
  rw [Nat.add_assoc]
  exact hc _ _ (by rw [Nat.mul_comm k 7, sdV_get l k hk j hj]; exact hu)
theorem snd_small (F : Fd.Fn) : (Fd.sndK F (Fd.lks F)).length ≤ 16384 := by
  rw [snd_len]
  have h : (Sm (List.range 256) fun l => Sm (List.range 64) fun o => ind (dueB F l o)) ≤ Sm (List.range 256) fun _ => 64 := Sm_le fun l _ => by
    have : (Sm (List.range 64) fun o => ind (dueB F l o)) ≤ Sm (List.range 64) fun _ => 1 := Sm_le fun o _ => ind_le _
    rw [Sm_const, List.length_range] at this
    omega
  rw [Sm_const, List.length_range] at h
  omega
/-- While the nodes send: a nodes' times have turned, those of b are on their way, and ex of the next. -/
structure PlIs (n : Nat) (ls : Lks) (S S1 : Ns) (a b : Nat) (ex : List Msg) : Prop where
  db : S1.db = S.db
  fl : ∀ j, j < n → S1.fl j = if j < a then Fd.polN 4 (S.fl j) else S.fl j
  way : S1.way = S.way ++ ((List.range b).flatMap fun j => sndM ls (S.fl j) j) ++ ex
theorem flat_small (ls : Lks) (f : Nat → Fd.Fn) : ∀ i, ((List.range i).flatMap fun j => sndM ls (f j) j).length ≤ i * 16384
  | 0 => by simp
  | i + 1 => by
    rw [List.range_succ, List.flatMap_append, List.length_append]
    have h1 := flat_small ls f i
    have h2 : ((List.flatMap (fun j => sndM ls (f j) j) [i])).length ≤ 16384 := by
      simp only [List.flatMap_cons, List.flatMap_nil, List.append_nil]
      unfold sndM
      rw [List.length_map]
      exact snd_small _
    omega
theorem PlIs.len {n : Nat} {ls : Lks} {S S1 : Ns} {a i : Nat} {ex : List Msg} (h : PlIs n ls S S1 a i ex) (hS : S.way.length ≤ 10000) (hi : i ≤ 5) (hex : ex.length ≤ 16384) : S1.way.length ≤ 110000 := by
  rw [h.way, List.length_append, List.length_append]
  have := flat_small ls S.fl i
  omega
/-- A neighbour's is sent over a link that is one. -/
theorem Inv.fnok {n : Nat} {ls : Lks} {G : La → Nat → Prop} {bs : List (La × Nat)} {S : Ns} (H : Inv n ls G bs S) (hG : GOk ls G) {i : Nat} (hi : i < n) : Fd.FnOk (S.fl i) := fun l D o h h1 h2 => by
  have e := pdA_some.2 ⟨D, h1, h2⟩
  obtain ⟨_, p1, _, p2⟩ := H.pd64 hG hi e
  have p3 := (H.J i l o h hi e).2
  exact ⟨hG.v p2, p1, p3.1, by omega⟩
def PollPost (B0 : Nat) (w0 : World) (m : Nm) (n : Nat) (ls : Lks) (S : Ns) (e : Ending) (w' : World) : Prop := e = .returned (.tuple #[]) ∧ ∃ S1 Aw cw ms, PlIs n ls S S1 n n [] ∧ NtAt B0 w0 w' m n ls S1 Aw cw ms
/-- Within node i's sends. -/
structure PkAt (B0 : Nat) (w0 wr : World) (m : Nm) (n : Nat) (ls : Lks) (S : Ns) (i : Nat) (sd : List Fd.Sd) (A : Option Addr) (c : Nat) (k : Nat) (S1 : Ns) (Aw : Option Addr) (cw : Nat) (ms : List Mx) : Prop where
  p : PlIs n ls S S1 (i + 1) i ((sndM ls (S.fl i) i).take k)
  nt : NtAt B0 w0 wr m n ls S1 Aw cw ms
  sr : wr.ownsRow B0 60 7 (.slice A sd.length c) sd.length (Fd.sdV sd)
  so : ∀ s ∈ sd, Fd.LaTf wr s.x.y s.x.A s.x.c s.x.B s.x.d
section
variable {B0 : Nat} {w0 wr w' : World} {m : Nm} {n : Nat} {ls : Lks} {S : Ns} {i : Nat} {sd : List Fd.Sd} {A : Option Addr} {c : Nat} {k : Nat} {S1 : Ns} {Aw : Option Addr} {cw : Nat} {ms : List Mx}
theorem PkAt.below (h : PkAt B0 w0 wr m n ls S i sd A c k S1 Aw cw ms) (hb : Below wr.heap.size wr w') : PkAt B0 w0 w' m n ls S i sd A c k S1 Aw cw ms :=
  ⟨h.p, h.nt.below hb, own_below h.sr hb, fun s hs => (h.so s hs).below hb⟩
end

theorem lx_tf {w : World} {base : Nat} {s : Fd.Lx} (h : Fd.LxOwn w base s) : Fd.LaTf w s.y s.A s.c s.B s.d := by
  have ha := LaOwn.at h
  obtain ⟨A, c, B, d, e, o1, o2, _⟩ := h
  simp only [laV, Value.agg.injEq, Array.mk.injEq, List.cons.injEq, Value.slice.injEq, true_and, and_true] at e
  obtain ⟨⟨rfl, rfl⟩, rfl, rfl⟩ := e
  exact ⟨ha, Fd.own_tf o1, Fd.own_tf o2⟩
theorem sndM_len (ls : Lks) (F : Fd.Fn) (i : Nat) {sd : List Fd.Sd} (h : Fd.sdP sd = Fd.sndK F (Fd.lks F)) : (sndM ls F i).length = sd.length := by
  unfold sndM
  rw [List.length_map, ← h]
  simp [Fd.sdP]
theorem sndM_at (ls : Lks) (F : Fd.Fn) (i : Nat) {sd : List Fd.Sd} (h : Fd.sdP sd = Fd.sndK F (Fd.lks F)) {k : Nat} (hk : k < sd.length) : (sndM ls F i).take (k + 1) = (sndM ls F i).take k ++ [⟨sd[k].q.toNat, oth ls sd[k].q.toNat i, false, sd[k].x.y⟩] := by
  have hl := sndM_len ls F i h
  rw [List.take_succ_eq_append_getElem (by omega)]
  congr 2
  unfold sndM
  simp only [List.getElem_map, ← h]
  simp [Fd.sdP]
theorem sd_mem {F : Fd.Fn} {sd : List Fd.Sd} (h : Fd.sdP sd = Fd.sndK F (Fd.lks F)) {k : Nat} (hk : k < sd.length) : (sd[k].q, sd[k].x.y) ∈ Fd.sndK F (Fd.lks F) := by
  rw [← h]
  exact List.mem_map.2 ⟨sd[k], List.getElem_mem hk, rfl⟩

set_option maxRecDepth 100000 in
set_option maxHeartbeats 12800000 in
theorem poll_any {B0 : Nat} {w0 w : World} {m : Nm} {n : Nat} {ls : Lks} {S : Ns} {Aw : Option Addr} {cw : Nat} {ms : List Mx} {G : La → Nat → Prop} {bs : List (La × Nat)} (h : NtAt B0 w0 w m n ls S Aw cw ms) (H : Inv n ls G bs S) (hG : GOk ls G) (hls : ∀ l i, Inc ls l i → i < n)
    (hn : n ≤ 5) (hL : ls.length ≤ 8) (hS : S.way.length ≤ 10000) :
    Calls Try.prog 7 #[.pointer (some ⟨m.g, 0, none⟩)] w (PollPost B0 w0 m n ls S) := by
  have h0 : PlIs n ls S S 0 0 [] := ⟨rfl, fun j _ => by simp, by simp⟩
  have hfn := fun i (hi : i < n) => H.fnok hG hi
  have hsq := fun i (hi : i < n) q x (hq : (q, x) ∈ Fd.sndK (S.fl i) (Fd.lks (S.fl i))) => (show ∃ l : Nat, q = (l : Int) ∧ Inc ls l i from by
    obtain ⟨l, o, hd, hl, ho, e, hle, rfl, rfl⟩ := snd_mem.1 hq
    exact ⟨l, rfl, (H.pd64 hG hi e).2.2.1⟩)
  replace h := Lib.hid h
  replace h0 := Lib.hid h0
  replace hfn := Lib.hid hfn
  replace hsq := Lib.hid hsq
  replace hls := Lib.hid hls
  go_enter Try.func7, Try.ntmps7
  go_wp2_with fail
  go_loopw [2] (fun v2 wr => ∃ (i : Nat) (S1 : Ns) (Aw : Option Addr) (cw : Nat) (ms : List Mx), v2 = .int .i64 i ∧ i ≤ n ∧ Hid (PlIs n ls S S1 i i []) ∧ Hid (NtAt B0 w0 wr m n ls S1 Aw cw ms)) (fun v2 _ => n - (intOf v2).toNat)
  case atStart => exact ⟨0, S, Aw, cw, ms, rfl, by omega, h0, h⟩
  case round =>
    clear h h0
    obtain ⟨i, S1, Aw, cw, ms, rfl, hi, hp, h⟩ := hrel
    obtain ⟨b1, off1, hA1, z1⟩ : ∃ b1 off1, (0 < n → m.A1 = some ⟨b1, off1, none⟩) ∧ ∀ j, j < n → wr.cell? ⟨b1, off1 + j, none⟩ = some (.pointer (some ⟨m.gf j, 0, none⟩)) := by
      by_cases hn0 : 0 < n
      · obtain ⟨b1, off1, hA1, z1⟩ := rd_at (own_slice h.out.r1) (by rw [ptrs_len]; exact hn0)
        exact ⟨b1, off1, fun _ => hA1, fun j hj => z1 j _ (ptrs_get hj)⟩
      · exact ⟨0, 0, fun h => absurd h hn0, fun j hj => by omega⟩
    have x1 := h.out.bx.c 1 rfl
    by_cases hin : i < n
    · have z := z1 i hin
      rw [hA1 (by omega)] at x1
      have hSi : S1.fl i = S.fl i := by rw [hp.out.fl i hin, if_neg (by omega)]
      have PL := Fd.fpoll_any wr (m.gf i) (m.bf i) 4 (S.fl i) (m.ff i) (by have := h.out.fl i hin; rwa [hSi] at this) (hfn.out i hin)
      unfold Fd.PollPost at PL
      replace PL := Lib.hid PL
      clear z1 hA1
      go_wp2_with fail
      (with_reducible refine (PL.out).mono ?_)
      rintro e w3 ⟨A3, c3, sd, rfl, o3, hsd, hso, hf3, hk3⟩
      have hn3 := h.out.flTurn (F' := Fd.polN 4 (S.fl i)) hin (by rw [hSi]; exact hk3) hf3 (fun l => by rw [isS_pol, hSi])
      have hb0 := h.out.b0
      have hP : PkAt B0 w0 w3 m n ls S i sd A3 c3 0 ⟨S1.db, upd S1.fl i (Fd.polN 4 (S.fl i)), S1.way⟩ Aw cw ms := by
        refine ⟨⟨hp.out.db, fun j hj => ?_, ?_⟩, hn3, own_mono o3 hb0, fun s hs => lx_tf (hso s hs)⟩
        · simp only
          by_cases e : j = i
          · subst e; rw [upd_same, if_pos (by omega)]
          · rw [upd_ne e, hp.out.fl j hj]
            by_cases e2 : j < i
            · rw [if_pos e2, if_pos (by omega)]
            · rw [if_neg e2, if_neg (by omega)]
        · simp only [List.take_zero]
          rw [hp.out.way]
      have hml := sndM_len ls (S.fl i) i hsd
      have hex : ∀ k, ((sndM ls (S.fl i) i).take k).length ≤ 16384 := fun k => by
        rw [List.length_take]
        unfold sndM
        rw [List.length_map]
        have := snd_small (S.fl i)
        omega
      have hsl : sd.length ≤ 16384 := by
        rw [← hml]; unfold sndM; rw [List.length_map]; exact snd_small _
      obtain ⟨nd, hnd⟩ : ∃ nd, sd.length = nd := ⟨_, rfl⟩
      rw [hnd]
      have hsd' := Lib.hid hsd
      replace hml := Lib.hid hml
      replace hex := Lib.hid hex
      replace hP := Lib.hid hP
      have hnd' := Lib.hid hnd
      rw [hnd] at hsl
      clear hn3 hb0 o3 hso hf3 hk3 PL x1 z h hp hsd hnd
      go_wp2_with fail
      go_loopw [4] (fun v4 wr => ∃ (k : Nat) (S1 : Ns) (Aw : Option Addr) (cw : Nat) (ms : List Mx), v4 = .int .i64 k ∧ k ≤ nd ∧ Hid (PkAt B0 w0 wr m n ls S i sd A3 c3 k S1 Aw cw ms)) (fun v4 _ => nd - (intOf v4).toNat)
      case atStart => exact ⟨0, _, _, _, _, rfl, by omega, hP⟩
      case round =>
        clear hP
        obtain ⟨k, S1, Aw, cw, ms, rfl, hk, hP⟩ := hrel
        by_cases hkn : k < nd
        · have hkl : k < sd.length := by rw [hnd'.out]; exact hkn
          obtain ⟨l, hl, hinc⟩ := hsq.out i hin _ _ (sd_mem hsd'.out hkl)
          obtain ⟨b3, off3, rfl, hc3⟩ := sd_cells (own_slice hP.out.sr) k hkl _ rfl
          have hnext := sndM_at ls (S.fl i) i hsd'.out hkl
          have hla := hP.out.so _ (List.getElem_mem hkl)
          have hmsl : ms.length ≤ 110000 := by
            have e := hP.out.p.len hS (by omega) (hex.out k)
            rw [← hP.out.nt.mp, List.length_map] at e
            exact e
          obtain ⟨s, hs⟩ : ∃ s, sd[k] = s := ⟨_, rfl⟩
          rw [hs] at hl hc3 hnext hla
          obtain ⟨sq, ⟨y, A, c, B, d⟩⟩ := s
          simp only at hl hnext hla
          subst hl
          rw [Int.toNat_natCast] at hnext
          have hl8 := hinc.lt
          have y0 : wr.cell? ⟨b3, off3 + k * 7, none⟩ = some (.int .i64 (l : Int)) := hc3 0 _ (by omega) rfl
          have y1 : wr.cell? ⟨b3, off3 + k * 7 + 1, none⟩ = some (.int .i64 y.o) := hc3 1 _ (by omega) rfl
          have y2 : wr.cell? ⟨b3, off3 + k * 7 + 2, none⟩ = some (.int .i64 y.s) := hc3 2 _ (by omega) rfl
          have y3 : wr.cell? ⟨b3, off3 + k * 7 + 3, none⟩ = some (.int .i64 y.a) := hc3 3 _ (by omega) rfl
          have y4 : wr.cell? ⟨b3, off3 + k * 7 + 4, none⟩ = some (.bool y.ov) := hc3 4 _ (by omega) rfl
          have y5 : wr.cell? ⟨b3, off3 + k * 7 + 5, none⟩ = some (.slice A y.adj.length c) := hc3 5 _ (by omega) rfl
          have y6 : wr.cell? ⟨b3, off3 + k * 7 + 6, none⟩ = some (.slice B y.pre.length d) := hc3 6 _ (by omega) rfl
          have x2 := hP.out.nt.bx.c 2 rfl
          have g0 : decide ((0 : Int) ≤ (l : Int)) = true := by simp
          have g1 : decide (l < ls.length) = true := by simpa using hl8
          clear hc3
          go_upto_region 7 with fail
          go_quiet (fail)
          have V5 := hP.out.below (w' := wr.drewN (nq + 1)) (below_drewN (Below.refl _ _) (nq + 1))
          have hla5 := hla.below (w' := wr.drewN (nq + 1)) (below_drewN (Below.refl _ _) (nq + 1))
          have OT := other_any V5.nt (by omega) hls.out hinc (by omega)
          obtain ⟨o, ho⟩ : ∃ o, oth ls l i = o := ⟨_, rfl⟩
          rw [ho] at OT hnext
          replace OT := Lib.hid OT
          replace hnext := Lib.hid hnext
          have x3 := hP.out.nt.bx.c 3 rfl
          clear ho hP hla g0 g1 x2
          replace V5 := Lib.hid V5
          go_upto_region 8 with fail
          refine wp_region_noPanic ?_
          refine wp_region_Z (S := fun W => W.cell? ⟨m.g, 3, none⟩ = some (.slice Aw ms.length cw) ∧ W.cell? ⟨b3, off3 + k * 7, none⟩ = some (.int .i64 (l : Int)) ∧ W.cell? ⟨b3, off3 + k * 7 + 1, none⟩ = some (.int .i64 y.o) ∧ W.cell? ⟨b3, off3 + k * 7 + 2, none⟩ = some (.int .i64 y.s) ∧ W.cell? ⟨b3, off3 + k * 7 + 3, none⟩ = some (.int .i64 y.a) ∧ W.cell? ⟨b3, off3 + k * 7 + 4, none⟩ = some (.bool y.ov) ∧ W.cell? ⟨b3, off3 + k * 7 + 5, none⟩ = some (.slice A y.adj.length c) ∧ W.cell? ⟨b3, off3 + k * 7 + 6, none⟩ = some (.slice B y.pre.length d)) [28] (by kernel_rfl) ⟨x3, y0, y1, y2, y3, y4, y5, y6⟩ (fun hHeld => ?_)
          refine takeZ (i := 0) (v := ?_) (some 47) rfl rfl (by kernel_rfl) (by kernel_rfl) (by kernel_rfl) (by kernel_rfl) (fun _ _ _ h => h) (Or.inl ⟨by rfl, ?_⟩) (by assumption) ?_
          rotate_left
          · intro w hSw; (try dsimp only at hSw); go_simp; (try with_reducible rfl)
          (try simp only [Act.put]); (try simp only [List.setIfInBounds_toArray]); (try simp only [List.set_cons_succ]); (try simp only [List.set_cons_zero])
          refine takeZ (i := 1) (v := ?_) (some 48) rfl rfl (by kernel_rfl) (by kernel_rfl) (by kernel_rfl) (by kernel_rfl) (fun _ _ _ h => h) (Or.inl ⟨by rfl, ?_⟩) (by assumption) ?_
          rotate_left
          · intro w hSw; (try dsimp only at hSw); go_simp; (try with_reducible rfl)
          (try simp only [Act.put]); (try simp only [List.setIfInBounds_toArray]); (try simp only [List.set_cons_succ]); (try simp only [List.set_cons_zero])
          refine takeZ (i := 2) (v := ?_) (some 49) rfl rfl (by kernel_rfl) (by kernel_rfl) (by kernel_rfl) (by kernel_rfl) (fun _ _ _ h => h) (Or.inl ⟨by rfl, ?_⟩) (by assumption) ?_
          rotate_left
          · intro w hSw; (try dsimp only at hSw); go_simp; (try with_reducible rfl)
          (try simp only [Act.put]); (try simp only [List.setIfInBounds_toArray]); (try simp only [List.set_cons_succ]); (try simp only [List.set_cons_zero])
          refine takeZ (i := 3) (v := ?_) (some 50) rfl rfl (by kernel_rfl) (by kernel_rfl) (by kernel_rfl) (by kernel_rfl) (fun _ _ _ h => h) (Or.inl ⟨by rfl, ?_⟩) (by assumption) ?_
          rotate_left
          · intro w hSw; (try dsimp only at hSw); go_simp; (try with_reducible rfl)
          (try simp only [Act.put]); (try simp only [List.setIfInBounds_toArray]); (try simp only [List.set_cons_succ]); (try simp only [List.set_cons_zero])
          refine takeZ (i := 4) (v := ?_) (some 51) rfl rfl (by kernel_rfl) (by kernel_rfl) (by kernel_rfl) (by kernel_rfl) (fun _ _ _ h => h) (Or.inl ⟨by rfl, ?_⟩) (by assumption) ?_
          rotate_left
          · intro w hSw; (try dsimp only at hSw); go_simp; (try with_reducible rfl)
          (try simp only [Act.put]); (try simp only [List.setIfInBounds_toArray]); (try simp only [List.set_cons_succ]); (try simp only [List.set_cons_zero])
          refine takeZ (i := 5) (v := ?_) (some 52) rfl rfl (by kernel_rfl) (by kernel_rfl) (by kernel_rfl) (by kernel_rfl) (fun _ _ _ h => h) (Or.inl ⟨by rfl, ?_⟩) (by assumption) ?_
          rotate_left
          · intro w hSw; (try dsimp only at hSw); go_simp; (try with_reducible rfl)
          (try simp only [Act.put]); (try simp only [List.setIfInBounds_toArray]); (try simp only [List.set_cons_succ]); (try simp only [List.set_cons_zero])
          refine takeZ (i := 6) (v := ?_) (some 53) rfl rfl (by kernel_rfl) (by kernel_rfl) (by kernel_rfl) (by kernel_rfl) (fun _ _ _ h => h) (Or.inl ⟨by rfl, ?_⟩) (by assumption) ?_
          rotate_left
          · intro w hSw; (try dsimp only at hSw); go_simp; (try with_reducible rfl)
          (try simp only [Act.put]); (try simp only [List.setIfInBounds_toArray]); (try simp only [List.set_cons_succ]); (try simp only [List.set_cons_zero])
          refine takeZ (i := 7) (v := ?_) (some 54) rfl rfl (by kernel_rfl) (by kernel_rfl) (by kernel_rfl) (by kernel_rfl) (fun _ _ _ h => h) (Or.inl ⟨by rfl, ?_⟩) (by assumption) ?_
          rotate_left
          · intro w hSw; (try dsimp only at hSw); go_simp; (try with_reducible rfl)
          (try simp only [Act.put]); (try simp only [List.setIfInBounds_toArray]); (try simp only [List.set_cons_succ]); (try simp only [List.set_cons_zero])
          refine takeZ (i := 8) (v := ?_) (some 55) rfl rfl (by kernel_rfl) (by kernel_rfl) (by kernel_rfl) (by kernel_rfl) (fun _ _ _ h => h) (Or.inl ⟨by rfl, ?_⟩) (by assumption) ?_
          rotate_left
          · intro w hSw; (try dsimp only at hSw); go_simp; (try with_reducible rfl)
          (try simp only [Act.put]); (try simp only [List.setIfInBounds_toArray]); (try simp only [List.set_cons_succ]); (try simp only [List.set_cons_zero])
          refine takeZ (i := 9) (v := ?_) (some 56) rfl rfl (by kernel_rfl) (by kernel_rfl) (by kernel_rfl) (by kernel_rfl) (fun _ _ _ h => h) (Or.inl ⟨by rfl, ?_⟩) (by assumption) ?_
          rotate_left
          · intro w hSw; (try dsimp only at hSw); go_simp; (try with_reducible rfl)
          (try simp only [Act.put]); (try simp only [List.setIfInBounds_toArray]); (try simp only [List.set_cons_succ]); (try simp only [List.set_cons_zero])
          refine takeZ (i := 10) (v := ?_) (some 57) rfl rfl (by kernel_rfl) (by kernel_rfl) (by kernel_rfl) (by kernel_rfl) (fun _ _ _ h => h) (Or.inl ⟨by rfl, ?_⟩) (by assumption) ?_
          rotate_left
          · intro w hSw; (try dsimp only at hSw); go_simp; (try with_reducible rfl)
          (try simp only [Act.put]); (try simp only [List.setIfInBounds_toArray]); (try simp only [List.set_cons_succ]); (try simp only [List.set_cons_zero])
          refine takeZ (i := 11) (v := ?_) (some 58) rfl rfl (by kernel_rfl) (by kernel_rfl) (by kernel_rfl) (by kernel_rfl) (fun _ _ _ h => h) (Or.inl ⟨by rfl, ?_⟩) (by assumption) ?_
          rotate_left
          · intro w hSw; (try dsimp only at hSw); go_simp; (try with_reducible rfl)
          (try simp only [Act.put]); (try simp only [List.setIfInBounds_toArray]); (try simp only [List.set_cons_succ]); (try simp only [List.set_cons_zero])
          refine takeZ (i := 12) (v := ?_) (some 59) rfl rfl (by kernel_rfl) (by kernel_rfl) (by kernel_rfl) (by kernel_rfl) (fun _ _ _ h => h) (Or.inl ⟨by rfl, ?_⟩) (by assumption) ?_
          rotate_left
          · intro w hSw; (try dsimp only at hSw); go_simp; (try with_reducible rfl)
          (try simp only [Act.put]); (try simp only [List.setIfInBounds_toArray]); (try simp only [List.set_cons_succ]); (try simp only [List.set_cons_zero])
          refine takeZ (i := 13) (v := ?_) (some 60) rfl rfl (by kernel_rfl) (by kernel_rfl) (by kernel_rfl) (by kernel_rfl) (fun _ _ _ h => h) (Or.inl ⟨by rfl, ?_⟩) (by assumption) ?_
          rotate_left
          · intro w hSw; (try dsimp only at hSw); go_simp; (try with_reducible rfl)
          (try simp only [Act.put]); (try simp only [List.setIfInBounds_toArray]); (try simp only [List.set_cons_succ]); (try simp only [List.set_cons_zero])
          refine takeZ (i := 14) (v := ?_) (some 61) rfl rfl (by kernel_rfl) (by kernel_rfl) (by kernel_rfl) (by kernel_rfl) (fun _ _ _ h => h) (Or.inl ⟨by rfl, ?_⟩) (by assumption) ?_
          rotate_left
          · intro w hSw; (try dsimp only at hSw); go_simp; (try with_reducible rfl)
          (try simp only [Act.put]); (try simp only [List.setIfInBounds_toArray]); (try simp only [List.set_cons_succ]); (try simp only [List.set_cons_zero])
          refine takeZ (i := 15) (v := ?_) (some 62) rfl rfl (by kernel_rfl) (by kernel_rfl) (by kernel_rfl) (by kernel_rfl) (fun _ _ _ h => h) (Or.inl ⟨by rfl, ?_⟩) (by assumption) ?_
          rotate_left
          · intro w hSw; (try dsimp only at hSw); go_simp; (try with_reducible rfl)
          (try simp only [Act.put]); (try simp only [List.setIfInBounds_toArray]); (try simp only [List.set_cons_succ]); (try simp only [List.set_cons_zero])
          refine takeZ (i := 16) (v := ?_) (some 63) rfl rfl (by kernel_rfl) (by kernel_rfl) (by kernel_rfl) (by kernel_rfl) (fun _ _ _ h => h) (Or.inl ⟨by rfl, ?_⟩) (by assumption) ?_
          rotate_left
          · intro w hSw; (try dsimp only at hSw); go_simp; (try with_reducible rfl)
          (try simp only [Act.put]); (try simp only [List.setIfInBounds_toArray]); (try simp only [List.set_cons_succ]); (try simp only [List.set_cons_zero])
          refine takeZ (i := 18) (v := ?_) (some 65) rfl rfl (by kernel_rfl) (by kernel_rfl) (by kernel_rfl) (by kernel_rfl) (fun _ _ _ h => h) (Or.inl ⟨by rfl, ?_⟩) (by assumption) ?_
          rotate_left
          · intro w hSw; (try dsimp only at hSw); go_simp; (try with_reducible rfl)
          (try simp only [Act.put]); (try simp only [List.setIfInBounds_toArray]); (try simp only [List.set_cons_succ]); (try simp only [List.set_cons_zero])
          refine takeZ (i := 19) (v := ?_) (some 66) rfl rfl (by kernel_rfl) (by kernel_rfl) (by kernel_rfl) (by kernel_rfl) (fun _ _ _ h => h) (Or.inl ⟨by rfl, ?_⟩) (by assumption) ?_
          rotate_left
          · intro w hSw; (try dsimp only at hSw); go_simp; (try with_reducible rfl)
          (try simp only [Act.put]); (try simp only [List.setIfInBounds_toArray]); (try simp only [List.set_cons_succ]); (try simp only [List.set_cons_zero])
          refine takeZ (i := 20) (v := ?_) (some 67) rfl rfl (by kernel_rfl) (by kernel_rfl) (by kernel_rfl) (by kernel_rfl) (fun _ _ _ h => h) (Or.inl ⟨by rfl, ?_⟩) (by assumption) ?_
          rotate_left
          · intro w hSw; (try dsimp only at hSw); go_simp; (try with_reducible rfl)
          (try simp only [Act.put]); (try simp only [List.setIfInBounds_toArray]); (try simp only [List.set_cons_succ]); (try simp only [List.set_cons_zero])
          refine takeZ (i := 21) (v := ?_) (some 68) rfl rfl (by kernel_rfl) (by kernel_rfl) (by kernel_rfl) (by kernel_rfl) (fun _ _ _ h => h) (Or.inl ⟨by rfl, ?_⟩) (by assumption) ?_
          rotate_left
          · intro w hSw; (try dsimp only at hSw); go_simp; (try with_reducible rfl)
          (try simp only [Act.put]); (try simp only [List.setIfInBounds_toArray]); (try simp only [List.set_cons_succ]); (try simp only [List.set_cons_zero])
          refine takeZ (i := 22) (v := ?_) (some 69) rfl rfl (by kernel_rfl) (by kernel_rfl) (by kernel_rfl) (by kernel_rfl) (fun _ _ _ h => h) (Or.inl ⟨by rfl, ?_⟩) (by assumption) ?_
          rotate_left
          · intro w hSw; (try dsimp only at hSw); go_simp; (try with_reducible rfl)
          (try simp only [Act.put]); (try simp only [List.setIfInBounds_toArray]); (try simp only [List.set_cons_succ]); (try simp only [List.set_cons_zero])
          refine anyZ_ready (rs := [17]) (by kernel_rfl) (by simp) ?_
          refine readyZ_cons rfl (fun K hK => ?_) readyZ_nil
          go_simp
          (with_reducible refine (OT.out).mono ?_)
          rintro e wa ⟨rfl, hba⟩
          dsimp only
          have V6 := V5.out.below hba
          have hla6 := hla5.below hba
          have hcs : ∀ W, W.cell? ⟨m.g, 3, none⟩ = some (.slice Aw ms.length cw) → Rd W (some ⟨b3, off3, none⟩) (Fd.sdV sd) → (W.cell? ⟨m.g, 3, none⟩ = some (.slice Aw ms.length cw) ∧ W.cell? ⟨b3, off3 + k * 7, none⟩ = some (.int .i64 (l : Int)) ∧ W.cell? ⟨b3, off3 + k * 7 + 1, none⟩ = some (.int .i64 y.o) ∧ W.cell? ⟨b3, off3 + k * 7 + 2, none⟩ = some (.int .i64 y.s) ∧ W.cell? ⟨b3, off3 + k * 7 + 3, none⟩ = some (.int .i64 y.a) ∧ W.cell? ⟨b3, off3 + k * 7 + 4, none⟩ = some (.bool y.ov) ∧ W.cell? ⟨b3, off3 + k * 7 + 5, none⟩ = some (.slice A y.adj.length c) ∧ W.cell? ⟨b3, off3 + k * 7 + 6, none⟩ = some (.slice B y.pre.length d)) := fun W hW3 hW => by
            obtain ⟨b', off', e', hc3⟩ := sd_cells hW k hkl _ hs
            injection e' with e'
            injection e' with e1 e2
            subst e1 e2
            exact ⟨hW3, hc3 0 _ (by omega) rfl, hc3 1 _ (by omega) rfl, hc3 2 _ (by omega) rfl, hc3 3 _ (by omega) rfl, hc3 4 _ (by omega) rfl, hc3 5 _ (by omega) rfl, hc3 6 _ (by omega) rfl⟩
          refine hK.out _ _ (fun _ => hcs _ (V6.nt.bx.c 3 rfl) (own_slice V6.sr)) (fun hHeld0 => ?_)
          replace hHeld := hHeld0 (by decide)
          clear hK K hHeld0 OT V5 x3 y0 y1 y2 y3 y4 y5 y6
          refine takeZ (i := 23) (v := ?_) (some 70) rfl rfl (by kernel_rfl) (by kernel_rfl) (by kernel_rfl) (by kernel_rfl) (fun _ _ _ h => h) (Or.inl ⟨by rfl, ?_⟩) (by assumption) ?_
          rotate_left
          · intro w hSw; (try dsimp only at hSw); go_simp; (try with_reducible rfl)
          (try simp only [Act.put]); (try simp only [List.setIfInBounds_toArray]); (try simp only [List.set_cons_succ]); (try simp only [List.set_cons_zero])
          have hb7 := below_new' wa (.cells #[.int .i64 (l : Int), .int .i64 (o : Int), .bool false, .int .i64 y.o, .int .i64 y.s, .int .i64 y.a, .bool y.ov, .slice A y.adj.length c, .slice B y.pre.length d] 47)
          have V7 := V6.below hb7
          have hla7 := hla6.below hb7
          have hown7 := V7.nt.wy
          have rd7 := Rd.lit wa #[.int .i64 (l : Int), .int .i64 (o : Int), .bool false, .int .i64 y.o, .int .i64 y.s, .int .i64 y.a, .bool y.ov, .slice A y.adj.length c, .slice B y.pre.length d] 47
          refine anyZ_ready (rs := [24]) (by kernel_rfl) (by simp) ?_
          refine readyZ_cons rfl (fun K hK => ?_) readyZ_nil
          go_simp
          refine hK.out _ _ (fun _ => hcs _ (V7.nt.bx.c 3 rfl) (own_slice V7.sr)) (fun hHeld0 => ?_)
          replace hHeld := hHeld0 (by decide)
          clear hK K hHeld0
          refine anyZ_ready (rs := [25]) (by kernel_rfl) (by simp) ?_
          refine readyZ_cons rfl (fun K hK => ?_) readyZ_nil
          refine step_appW rfl mxT (.tmp 51) (.tmp 71) (by rfl) m.q (by rfl) hown7 (by rfl) (m := 1) (by rfl) rd7 (mxL_one ⟨l, o, false, ⟨y, A, c, B, d⟩⟩) (by omega) (by simp only [maxLen]; omega) (by omega) V7.nt.lo.2.2 (ms.length + 1) _ rfl rfl ?_
          intro v6 w6 hw6 hb6 hg6 hor6
          obtain ⟨A6, c6, rfl, -⟩ := hw6.form
          have P := V7.nt.pushed (x := ⟨l, o, false, ⟨y, A, c, B, d⟩⟩) hw6 hg6 hla7
          have bx6 := V7.nt.kept6 hg6
          have hnf := V7.nt.putNf hg6 (.slice A6 (ms.length + 1) c6)
          have hnf6 := V7.nt.appNf hg6
          have hP9 : PkAt B0 w0 (w6.setCell ⟨m.g, 3, none⟩ (.slice A6 (ms.length + 1) c6)) m n ls S i sd (some ⟨b3, off3, none⟩) c3 (k + 1) ⟨S1.db, S1.fl, S1.way ++ [⟨l, o, false, y⟩]⟩ A6 c6 (ms ++ [⟨l, o, false, ⟨y, A, c, B, d⟩⟩]) :=
            ⟨⟨V7.p.db, V7.p.fl, by simp only; rw [V7.p.way, hnext.out, List.append_assoc, List.append_assoc]⟩, P, hnf.own V7.nt.nb V7.sr (by decide) (by decide), fun s hs => hnf.la V7.nt.nb (V7.so s hs)⟩
          refine hK.out _ _ (fun _ => hcs _ (bx6.c 3 rfl) (own_slice (hnf6.own V7.nt.nb V7.sr (by decide) (by decide)))) (fun hHeld0 => ?_)
          replace hHeld := hHeld0 (by decide)
          clear hK K hHeld0
          refine anyZ_ready (rs := [26]) (by kernel_rfl) (by simp) ?_
          refine readyZ_cons rfl (fun K hK => ?_) readyZ_nil
          go_simp
          refine hK.out _ _ (fun _ => hHeld) (fun _ => ?_)
          clear hK K
          refine takeZ (i := 27) (v := ?_) (some 74) rfl rfl (by kernel_rfl) (by kernel_rfl) (by kernel_rfl) (by kernel_rfl) (fun _ _ _ h => h) (Or.inl ⟨by rfl, ?_⟩) (by assumption) ?_
          rotate_left
          · intro w hSw; (try dsimp only at hSw); go_simp; (try with_reducible rfl)
          (try simp only [Act.put]); (try simp only [List.setIfInBounds_toArray]); (try simp only [List.set_cons_succ]); (try simp only [List.set_cons_zero])
          have f3 := bx6.f 3 rfl
          have p3 := bx6.c 3 rfl
          refine anyZ_ready (rs := [28]) (by kernel_rfl) (by simp) ?_
          refine readyZ_cons rfl (fun K hK => ?_) readyZ_nil
          go_simp
          refine hK.out _ _ (fun h => absurd h (by decide)) (fun _ => ?_)
          clear hK K hHeld
          refine anyZ_done (by kernel_rfl) ?_ _
          refine NoPanic.normal ?_
          replace hP9 := Lib.hid hP9
          clear P bx6 hnf hnf6 hcs hw6 hb6 hg6 hor6 f3 p3 V6 V7 hla6 hla7 hla5 hb7 rd7 hown7 hba
          go_wp2_with fail
          go_round
          case rel => exact ⟨k + 1, _, _, _, _, by go_num, by omega, hP9⟩
          case measure => simp [intOf]; omega
        · obtain rfl : k = nd := by omega
          have hp9 : PlIs n ls S S1 (i + 1) (i + 1) [] := by
            refine ⟨hP.out.p.db, hP.out.p.fl, ?_⟩
            rw [hP.out.p.way, List.take_of_length_le (by rw [hml.out, hnd'.out]; exact Nat.le_refl _), List.range_succ, List.flatMap_append]
            simp
          have hn9 := Lib.hid hP.out.nt
          replace hp9 := Lib.hid hp9
          clear hP
          go_wp2_with fail
          go_round
          case rel => exact ⟨i + 1, S1, Aw, cw, ms, by go_num, by omega, hp9, hn9⟩
          case measure => simp [intOf]; omega
    · obtain rfl : n = i := by omega
      have hfin : PollPost B0 w0 m n ls S (.returned (.tuple #[])) wr := ⟨rfl, S1, Aw, cw, ms, hp.out, h.out⟩
      replace hfin := Lib.hid hfin
      clear h hp z1
      go_wp2_with fail
      exact bodyPost_end (v := .tuple #[]) (by simp [results, Try.results7, go_sem]) rfl hfin.out

end Go.Proofs.Ytnfldccaeibcpaa

namespace Go.Proofs.Ytnfldccaeibcpaa
set_option linter.unusedVariables false
open Go.RowKit Go.Maps Go.Sort

theorem NtAt.ext {B0 : Nat} {w0 w : World} {m : Nm} {n : Nat} {ls : Lks} {S S' : Ns} {Aw : Option Addr} {cw : Nat} {ms : List Mx} (h : NtAt B0 w0 w m n ls S Aw cw ms) (hd : ∀ i, i < n → S'.db i = S.db i) (hf : ∀ i, i < n → S'.fl i = S.fl i) (hw : S'.way = S.way) : NtAt B0 w0 w m n ls S' Aw cw ms :=
  ⟨h.bx, h.nb, h.r0, h.r1, h.r2, h.wy, h.mo, by rw [hw]; exact h.mp, fun i hi => by rw [hd i hi]; exact h.db i hi, fun i hi => by rw [hf i hi]; exact h.fl i hi, h.cd, h.cb, fun i l hi hl hs => h.cf i l hi hl (by rw [← hf i hi]; exact hs), h.lo, h.gl, fun i hi => by
    obtain ⟨b1, b2, b3⟩ := h.bl i hi
    exact ⟨b1, b2, fun l hl hs => b3 l hl (by rw [← hf i hi]; exact hs)⟩, h.bel⟩
/-- Behind poll. -/
theorem PlIs.pol {n : Nat} {ls : Lks} {S S1 : Ns} (h : PlIs n ls S S1 n n []) : (∀ i, i < n → (polS n ls S).db i = S1.db i) ∧ (∀ i, i < n → (polS n ls S).fl i = S1.fl i) ∧ (polS n ls S).way = S1.way :=
  ⟨fun i _ => by rw [h.db]; rfl, fun i hi => by rw [h.fl i hi, if_pos hi]; rfl, by rw [h.way, List.append_nil]; rfl⟩

end Go.Proofs.Ytnfldccaeibcpaa
