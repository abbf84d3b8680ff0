/-
  The texts OrgR, one after the other.
-/
import Derived.Test.YtfpoghhjpfkbaaaQ7
namespace Go.Proofs.Ytfpoghhjpfkbaaa
set_option linter.unusedVariables false
open Go.RowKit Go.Sort

/-- The reference's originator. -/
structure RO where
  node : Int
  floor : Int
  is : Bool
  now : La
  since : Int
abbrev roV (r : RO) (A : Option Addr) (c : Nat) (B : Option Addr) (d : Nat) : Value :=
  .agg #[.int .i64 r.node, .int .i64 r.floor, .bool r.is, .int .i64 r.now.o, .int .i64 r.now.s, .int .i64 r.now.a, .bool r.now.ov, .slice A r.now.adj.length c, .slice B r.now.pre.length d, .int .i64 r.since]
def RoAt (w : World) (v : Value) (r : RO) : Prop := ∃ A c B d, v = roV r A c B d ∧ LaAt w (laV r.now.o r.now.s r.now.a r.now.ov A r.now.adj.length c B r.now.pre.length d) r.now
theorem RoAt.below {w w' : World} {v : Value} {r : RO} (h : RoAt w v r) (hb : Below w.heap.size w w') : RoAt w' v r := by
  obtain ⟨A, c, B, d, hv, h⟩ := h
  exact ⟨A, c, B, d, hv, h.below hb⟩
theorem RoAt.renum {w : World} {r : RO} {A : Option Addr} {c : Nat} {B : Option Addr} {d : Nat} (h : LaAt w (laV r.now.o r.now.s r.now.a r.now.ov A r.now.adj.length c B r.now.pre.length d) r.now) (node floor : Int) (is : Bool) (o s a : Int) (since : Int) :
    RoAt w (roV ⟨node, floor, is, num o s a r.now, since⟩ A c B d) ⟨node, floor, is, num o s a r.now, since⟩ := ⟨A, c, B, d, rfl, h.renum o s a r.now.ov⟩

set_option maxRecDepth 100000 in
set_option maxHeartbeats 1600000 in
theorem rwith_any (w : World) (node seq o s a : Int) (ov : Bool) (A : Option Addr) (n c : Nat) (B : Option Addr) (m d : Nat) :
    Calls Try.prog 24 #[.int .i64 node, .int .i64 seq, laV o s a ov A n c B m d] w fun e w' => e = .returned (laV node seq 0 ov A n c B m d) ∧ Below w.heap.size w w' := by
  have S := ((St.start w).new' #[.int .i64 o, .int .i64 s, .int .i64 a, .bool ov, .slice A n c, .slice B m d] 32 w.heap.size _ rfl rfl).new' #[.int .i64 node, .int .i64 seq, .int .i64 0, .bool ov, .slice A n c, .slice B m d] 32 (w.heap.size + 1) _ (by simp) rfl
  have a0 := S.c 1 0 rfl rfl
  have a1 := S.c 1 1 rfl rfl
  have a2 := S.c 1 2 rfl rfl
  have a3 := S.c 1 3 rfl rfl
  have a4 := S.c 1 4 rfl rfl
  have a5 := S.c 1 5 rfl rfl
  have r0 := S.c 0 0 rfl rfl
  have r1 := S.c 0 1 rfl rfl
  have r2 := S.c 0 2 rfl rfl
  have r3 := S.c 0 3 rfl rfl
  have r4 := S.c 0 4 rfl rfl
  have r5 := S.c 0 5 rfl rfl
  have hb := S.b
  go_enter Try.func24, Try.ntmps24
  go_wp2_with fail
  exact bodyPost_ret (v := laV node seq 0 ov A n c B m d) (by simp [results, Try.results24, go_sem, r0, r1, r2, r3, r4, r5]) rfl ⟨rfl, hb⟩

theorem St.tail {W w : World} {b : Nat × List Value} {bs : List (Nat × List Value)} {rs : List (Option Addr × List Value)} (S : St W w (b :: bs) rs) : St W w bs rs := S.keepBoxes bs fun x hx => List.mem_cons_of_mem _ hx
/-- A box of ten cells. -/
theorem St.set10 {W w : World} {g : Nat} {bs : List (Nat × List Value)} {rs : List (Option Addr × List Value)} {a0 a1 a2 a3 a4 a5 a6 a7 a8 a9 : Value} (S : St W w ((g, [a0, a1, a2, a3, a4, a5, a6, a7, a8, a9]) :: bs) rs) (b0 b1 b2 b3 b4 b5 b6 b7 b8 b9 : Value) (hg : W.heap.size ≤ g) (hd : ∀ x ∈ bs, x.1 ≠ g) :
    St W ((((((((((w.setCell ⟨g, 0, none⟩ b0).setCell ⟨g, 1, none⟩ b1).setCell ⟨g, 2, none⟩ b2).setCell ⟨g, 3, none⟩ b3).setCell ⟨g, 4, none⟩ b4).setCell ⟨g, 5, none⟩ b5).setCell ⟨g, 6, none⟩ b6).setCell ⟨g, 7, none⟩ b7).setCell ⟨g, 8, none⟩ b8).setCell ⟨g, 9, none⟩ b9) ((g, [b0, b1, b2, b3, b4, b5, b6, b7, b8, b9]) :: bs) rs :=
  (((((((((S.set 0 0 b0 rfl (by simp) hg hd _ rfl).set 0 1 b1 rfl (by simp) hg hd _ rfl).set 0 2 b2 rfl (by simp) hg hd _ rfl).set 0 3 b3 rfl (by simp) hg hd _ rfl).set 0 4 b4 rfl (by simp) hg hd _ rfl).set 0 5 b5 rfl (by simp) hg hd _ rfl).set 0 6 b6 rfl (by simp) hg hd _ rfl).set 0 7 b7 rfl (by simp) hg hd _ rfl).set 0 8 b8 rfl (by simp) hg hd _ rfl).set 0 9 b9 rfl (by simp) hg hd _ rfl

set_option maxRecDepth 100000 in
set_option maxHeartbeats 3200000 in
theorem remake_any (w : World) (node floor : Int) (is : Bool) (o s a : Int) (ov : Bool) (A : Option Addr) (n c : Nat) (B : Option Addr) (m d : Nat) (since : Int)
    (o' s' a' : Int) (ov' : Bool) (A' : Option Addr) (n' c' : Nat) (B' : Option Addr) (m' d' : Nat) (hf0 : 0 ≤ floor) (hf1 : floor < 1073741824) :
    Calls Try.prog 41 #[.agg #[.int .i64 node, .int .i64 floor, .bool is, .int .i64 o, .int .i64 s, .int .i64 a, .bool ov, .slice A n c, .slice B m d, .int .i64 since], laV o' s' a' ov' A' n' c' B' m' d'] w fun e w' =>
      e = .returned (.tuple #[.agg #[.int .i64 node, .int .i64 (floor + 1), .bool true, .int .i64 node, .int .i64 (floor + 1), .int .i64 0, .bool ov', .slice A' n' c', .slice B' m' d', .int .i64 0], .bool true]) ∧ Below w.heap.size w w' := by
  have S := (((St.start w).new' #[.int .i64 node, .int .i64 (floor + 1), .bool is, .int .i64 o, .int .i64 s, .int .i64 a, .bool ov, .slice A n c, .slice B m d, .int .i64 since] 34 w.heap.size _ rfl rfl).new' #[.int .i64 o', .int .i64 s', .int .i64 a', .bool ov', .slice A' n' c', .slice B' m' d'] 32 (w.heap.size + 1) _ (by simp) rfl).new' #[.int .i64 0, .int .i64 0, .bool false, .int .i64 0, .int .i64 0, .int .i64 0, .bool false, .slice none 0 0, .slice none 0 0, .int .i64 0] 34 (w.heap.size + 2) _ (by simp) rfl
  go_enter Try.func41, Try.ntmps41
  go_wp2_with fail
  (with_reducible refine (rwith_any _ _ _ _ _ _ _ _ _ _ _ _ _).mono ?_)
  rintro e w1 ⟨rfl, hb⟩
  replace S := S.call hb
  clear hb
  have p0 := S.c 2 0 rfl rfl
  have p1 := S.c 2 1 rfl rfl
  have p2 := S.c 2 2 rfl rfl
  have p3 := S.c 2 3 rfl rfl
  have p4 := S.c 2 4 rfl rfl
  have p5 := S.c 2 5 rfl rfl
  have p6 := S.c 2 6 rfl rfl
  have p7 := S.c 2 7 rfl rfl
  have p8 := S.c 2 8 rfl rfl
  have p9 := S.c 2 9 rfl rfl
  have f0 := S.f 2 0 rfl rfl
  have f1 := S.f 2 1 rfl rfl
  have f2 := S.f 2 2 rfl rfl
  have f3 := S.f 2 3 rfl rfl
  have f4 := S.f 2 4 rfl rfl
  have f5 := S.f 2 5 rfl rfl
  have f6 := S.f 2 6 rfl rfl
  have f7 := S.f 2 7 rfl rfl
  have f8 := S.f 2 8 rfl rfl
  have f9 := S.f 2 9 rfl rfl
  have S2 := (((((((S.set 2 2 (.bool true) rfl (by simp) (by omega) (by simp) _ rfl).set 2 3 (.int .i64 node) rfl (by simp) (by omega) (by simp) _ rfl).set 2 4 (.int .i64 (floor + 1)) rfl (by simp) (by omega) (by simp) _ rfl).set 2 5 (.int .i64 0) rfl (by simp) (by omega) (by simp) _ rfl).set 2 6 (.bool ov') rfl (by simp) (by omega) (by simp) _ rfl).set 2 7 (.slice A' n' c') rfl (by simp) (by omega) (by simp) _ rfl).set 2 8 (.slice B' m' d') rfl (by simp) (by omega) (by simp) _ rfl).set 2 9 (.int .i64 0) rfl (by simp) (by omega) (by simp) _ rfl
  go_upto_region 5 with fail
  clear p0 p1 p2 p3 p4 p5 p6 p7 p8 p9
  clear f0 f1 f2 f3 f4 f5 f6 f7 f8 f9
  clear S
  generalize World.setCell (World.setCell (World.setCell (World.setCell (World.setCell (World.setCell (World.setCell (World.setCell w1 _ _) _ _) _ _) _ _) _ _) _ _) _ _) _ _ = w2 at *
  have p0 := S2.c 2 0 rfl rfl
  have p1 := S2.c 2 1 rfl rfl
  have p2 := S2.c 2 2 rfl rfl
  have p3 := S2.c 2 3 rfl rfl
  have p4 := S2.c 2 4 rfl rfl
  have p5 := S2.c 2 5 rfl rfl
  have p6 := S2.c 2 6 rfl rfl
  have p7 := S2.c 2 7 rfl rfl
  have p8 := S2.c 2 8 rfl rfl
  have p9 := S2.c 2 9 rfl rfl
  have r0 := S2.c 0 0 rfl rfl
  have r1 := S2.c 0 1 rfl rfl
  have r2 := S2.c 0 2 rfl rfl
  have r3 := S2.c 0 3 rfl rfl
  have r4 := S2.c 0 4 rfl rfl
  have r5 := S2.c 0 5 rfl rfl
  have r6 := S2.c 0 6 rfl rfl
  have r7 := S2.c 0 7 rfl rfl
  have r8 := S2.c 0 8 rfl rfl
  have r9 := S2.c 0 9 rfl rfl
  have f0 := S2.f 0 0 rfl rfl
  have f1 := S2.f 0 1 rfl rfl
  have f2 := S2.f 0 2 rfl rfl
  have f3 := S2.f 0 3 rfl rfl
  have f4 := S2.f 0 4 rfl rfl
  have f5 := S2.f 0 5 rfl rfl
  have f6 := S2.f 0 6 rfl rfl
  have f7 := S2.f 0 7 rfl rfl
  have f8 := S2.f 0 8 rfl rfl
  have f9 := S2.f 0 9 rfl rfl
  have hb := (S2.set10 (.int .i64 node) (.int .i64 (floor + 1)) (.bool true) (.int .i64 node) (.int .i64 (floor + 1)) (.int .i64 0) (.bool ov') (.slice A' n' c') (.slice B' m' d') (.int .i64 0) (by omega) (by simp)).b
  clear S2
  go_wp2_with fail
  exact bodyPost_ret (v := .tuple #[.agg #[.int .i64 node, .int .i64 (floor + 1), .bool true, .int .i64 node, .int .i64 (floor + 1), .int .i64 0, .bool ov', .slice A' n' c', .slice B' m' d', .int .i64 0], .bool true]) (by simp [results, Try.results41, go_sem, r0, r1, r2, r3, r4, r5, r6, r7, r8, r9]) rfl ⟨rfl, hb⟩

set_option maxRecDepth 100000 in
set_option maxHeartbeats 3200000 in
theorem remake_no (w : World) (node floor : Int) (is : Bool) (o s a : Int) (ov : Bool) (A : Option Addr) (n c : Nat) (B : Option Addr) (m d : Nat) (since : Int)
    (o' s' a' : Int) (ov' : Bool) (A' : Option Addr) (n' c' : Nat) (B' : Option Addr) (m' d' : Nat) (hf1 : 1073741824 ≤ floor) :
    Calls Try.prog 41 #[.agg #[.int .i64 node, .int .i64 floor, .bool is, .int .i64 o, .int .i64 s, .int .i64 a, .bool ov, .slice A n c, .slice B m d, .int .i64 since], laV o' s' a' ov' A' n' c' B' m' d'] w fun e w' =>
      e = .returned (.tuple #[.agg #[.int .i64 node, .int .i64 floor, .bool is, .int .i64 o, .int .i64 s, .int .i64 a, .bool ov, .slice A n c, .slice B m d, .int .i64 since], .bool false]) ∧ Below w.heap.size w w' := by
  have S := (((St.start w).new' #[.int .i64 node, .int .i64 floor, .bool is, .int .i64 o, .int .i64 s, .int .i64 a, .bool ov, .slice A n c, .slice B m d, .int .i64 since] 34 w.heap.size _ rfl rfl).new' #[.int .i64 o', .int .i64 s', .int .i64 a', .bool ov', .slice A' n' c', .slice B' m' d'] 32 (w.heap.size + 1) _ (by simp) rfl).new' #[.int .i64 node, .int .i64 floor, .bool is, .int .i64 o, .int .i64 s, .int .i64 a, .bool ov, .slice A n c, .slice B m d, .int .i64 since] 34 (w.heap.size + 2) _ (by simp) rfl
  have r0 := S.c 0 0 rfl rfl
  have r1 := S.c 0 1 rfl rfl
  have r2 := S.c 0 2 rfl rfl
  have r3 := S.c 0 3 rfl rfl
  have r4 := S.c 0 4 rfl rfl
  have r5 := S.c 0 5 rfl rfl
  have r6 := S.c 0 6 rfl rfl
  have r7 := S.c 0 7 rfl rfl
  have r8 := S.c 0 8 rfl rfl
  have r9 := S.c 0 9 rfl rfl
  have hb := S.b
  clear S
  go_enter Try.func41, Try.ntmps41
  go_wp2_with fail
  exact bodyPost_ret (v := .tuple #[.agg #[.int .i64 node, .int .i64 floor, .bool is, .int .i64 o, .int .i64 s, .int .i64 a, .bool ov, .slice A n c, .slice B m d, .int .i64 since], .bool false]) (by simp [results, Try.results41, go_sem, r0, r1, r2, r3, r4, r5, r6, r7, r8, r9]) rfl ⟨rfl, hb⟩

def curR (r : RO) : La := if r.is = true then { r.now with a := r.since } else r.now
set_option maxRecDepth 100000 in
set_option maxHeartbeats 3200000 in
theorem rcurrent_any (w : World) (v : Value) (r : RO) (h : RoAt w v r) :
    Calls Try.prog 14 #[v] w fun e w' => ∃ v', e = .returned v' ∧ LaAt w' v' (curR r) ∧ Below w.heap.size w w' := by
  obtain ⟨A, c, B, d, rfl, hl⟩ := h
  obtain ⟨node, floor, is, now, since⟩ := r
  simp only at hl
  cases is with
  | true =>
    have S := (((St.start w).new' #[.int .i64 node, .int .i64 floor, .bool true, .int .i64 now.o, .int .i64 now.s, .int .i64 now.a, .bool now.ov, .slice A now.adj.length c, .slice B now.pre.length d, .int .i64 since] 34 w.heap.size _ rfl rfl).new' #[.int .i64 now.o, .int .i64 now.s, .int .i64 since, .bool now.ov, .slice A now.adj.length c, .slice B now.pre.length d] 32 (w.heap.size + 1) _ (by simp) rfl).new' #[.int .i64 now.o, .int .i64 now.s, .int .i64 since, .bool now.ov, .slice A now.adj.length c, .slice B now.pre.length d] 32 (w.heap.size + 2) _ (by simp) rfl
    have r0 := S.c 1 0 rfl rfl
    have r1 := S.c 1 1 rfl rfl
    have r2 := S.c 1 2 rfl rfl
    have r3 := S.c 1 3 rfl rfl
    have r4 := S.c 1 4 rfl rfl
    have r5 := S.c 1 5 rfl rfl
    have hb := S.b
    have hla := (hl.below hb).renum now.o now.s since now.ov
    clear S hl
    go_enter Try.func14, Try.ntmps14
    go_wp2_with fail
    exact bodyPost_ret (v := laV now.o now.s since now.ov A now.adj.length c B now.pre.length d) (by simp [results, Try.results14, go_sem, r0, r1, r2, r3, r4, r5]) rfl ⟨_, rfl, hla, hb⟩
  | false =>
    have S := (((St.start w).new' #[.int .i64 node, .int .i64 floor, .bool false, .int .i64 now.o, .int .i64 now.s, .int .i64 now.a, .bool now.ov, .slice A now.adj.length c, .slice B now.pre.length d, .int .i64 since] 34 w.heap.size _ rfl rfl).new' #[.int .i64 now.o, .int .i64 now.s, .int .i64 now.a, .bool now.ov, .slice A now.adj.length c, .slice B now.pre.length d] 32 (w.heap.size + 1) _ (by simp) rfl).new' #[.int .i64 now.o, .int .i64 now.s, .int .i64 now.a, .bool now.ov, .slice A now.adj.length c, .slice B now.pre.length d] 32 (w.heap.size + 2) _ (by simp) rfl
    have r0 := S.c 1 0 rfl rfl
    have r1 := S.c 1 1 rfl rfl
    have r2 := S.c 1 2 rfl rfl
    have r3 := S.c 1 3 rfl rfl
    have r4 := S.c 1 4 rfl rfl
    have r5 := S.c 1 5 rfl rfl
    have hb := S.b
    have hla := hl.below hb
    clear S hl
    go_enter Try.func14, Try.ntmps14
    go_wp2_with fail
    exact bodyPost_ret (v := laV now.o now.s now.a now.ov A now.adj.length c B now.pre.length d) (by simp [results, Try.results14, go_sem, r0, r1, r2, r3, r4, r5]) rfl ⟨_, rfl, hla, hb⟩

structure RR where
  r : RO
  made : Bool
  err : Int
noncomputable def rsetP (r : RO) (y : La) : RR :=
  if vB (num r.node 1 0 y) = true then if r.is = true ∧ conB r.now y = true then ⟨r, false, 0⟩ else if 1073741824 ≤ r.floor then ⟨r, false, 6⟩ else ⟨⟨r.node, r.floor + 1, true, num r.node (r.floor + 1) 0 y, 0⟩, true, 0⟩ else ⟨r, false, 1⟩
noncomputable def rhearP (r : RO) (a : La) : RR :=
  if vB a = true ∧ a.o = r.node then if r.is = true then if newI a r.now ≤ 0 then ⟨r, false, 0⟩ else if 1073741824 ≤ a.s then ⟨r, false, 6⟩ else ⟨⟨r.node, a.s + 1, true, num r.node (a.s + 1) 0 r.now, 0⟩, true, 0⟩ else ⟨{ r with floor := max r.floor a.s }, false, 0⟩ else ⟨r, false, 1⟩
/-- W: the world in which the slices are read. -/
def RRPost (W w : World) (z : RR) (e : Ending) (w' : World) : Prop := ∃ v, e = .returned (.tuple #[v, .bool z.made, .int .i64 z.err]) ∧ RoAt W v z.r ∧ Below w.heap.size w w'

set_option maxRecDepth 100000 in
set_option maxHeartbeats 6400000 in
theorem rset_any (W0 w : World) (hB0 : Below W0.heap.size W0 w) (v u : Value) (r : RO) (y : La) (h : RoAt W0 v r) (hy : LaAt W0 u y) (hf0 : 0 ≤ r.floor) :
    Calls Try.prog 26 #[v, u] w (RRPost W0 w (rsetP r y)) := by
  obtain ⟨A, c, B, d, rfl, hl⟩ := h
  obtain ⟨A', c', B', d', rfl⟩ := hy.form
  obtain ⟨node, floor, is, now, since⟩ := r
  simp only at hl hf0 ⊢
  have hl0 := hl
  have hy0 := hy
  replace hl := hl.below hB0
  replace hy := hy.below hB0
  have S := (((St.start w).new' #[.int .i64 node, .int .i64 floor, .bool is, .int .i64 now.o, .int .i64 now.s, .int .i64 now.a, .bool now.ov, .slice A now.adj.length c, .slice B now.pre.length d, .int .i64 since] 34 w.heap.size _ rfl rfl).new' #[.int .i64 y.o, .int .i64 y.s, .int .i64 y.a, .bool y.ov, .slice A' y.adj.length c', .slice B' y.pre.length d'] 32 (w.heap.size + 1) _ (by simp) rfl).new' #[.int .i64 0, .int .i64 0, .bool false, .int .i64 0, .int .i64 0, .int .i64 0, .bool false, .slice none 0 0, .slice none 0 0, .int .i64 0] 34 (w.heap.size + 2) _ (by simp) rfl
  obtain ⟨z, hz⟩ : ∃ z, rsetP ⟨node, floor, is, now, since⟩ y = z := ⟨_, rfl⟩
  rw [hz]
  unfold rsetP at hz
  have V := fun W (hb : Below w.heap.size w W) => rvalid_at W _ (num node 1 0 y) ((hy.below hb).renum node 1 0 y.ov)
  have C := fun W (hb : Below w.heap.size w W) => contents_any W _ _ now y (hl.below hb) (hy.below hb)
  have hsame : Hid (RoAt W0 (roV ⟨node, floor, is, now, since⟩ A c B d) ⟨node, floor, is, now, since⟩) := ⟨A, c, B, d, rfl, hl0⟩
  have hnew : Hid (RoAt W0 (roV ⟨node, floor + 1, true, num node (floor + 1) 0 y, 0⟩ A' c' B' d') ⟨node, floor + 1, true, num node (floor + 1) 0 y, 0⟩) := ⟨A', c', B', d', rfl, hy0.renum node (floor + 1) 0 y.ov⟩
  generalize vB (num node 1 0 y) = vb at *
  generalize conB now y = cb at *
  replace V := Lib.hid V
  replace C := Lib.hid C
  replace hz := Lib.hid hz
  clear hl hy hl0 hy0
  go_enter Try.func26, Try.ntmps26
  go_wp2_with fail
  (with_reducible refine (rwith_any _ _ _ _ _ _ _ _ _ _ _ _ _).mono ?_)
  rintro e w1 ⟨rfl, hb⟩
  replace S := S.call hb
  clear hb
  go_wp2_with fail
  (with_reducible refine (V.out _ S.b).mono ?_)
  rintro e w2 ⟨rfl, hb⟩
  clear V
  replace S := S.call hb
  clear hb
  have p0 := S.c 2 0 rfl rfl
  have p1 := S.c 2 1 rfl rfl
  have p2 := S.c 2 2 rfl rfl
  have p3 := S.c 2 3 rfl rfl
  have p4 := S.c 2 4 rfl rfl
  have p5 := S.c 2 5 rfl rfl
  have p6 := S.c 2 6 rfl rfl
  have p7 := S.c 2 7 rfl rfl
  have p8 := S.c 2 8 rfl rfl
  have p9 := S.c 2 9 rfl rfl
  have r0 := S.c 0 0 rfl rfl
  have r1 := S.c 0 1 rfl rfl
  have r2 := S.c 0 2 rfl rfl
  have r3 := S.c 0 3 rfl rfl
  have r4 := S.c 0 4 rfl rfl
  have r5 := S.c 0 5 rfl rfl
  have r6 := S.c 0 6 rfl rfl
  have r7 := S.c 0 7 rfl rfl
  have r8 := S.c 0 8 rfl rfl
  have r9 := S.c 0 9 rfl rfl
  have f0 := S.f 0 0 rfl rfl
  have f1 := S.f 0 1 rfl rfl
  have f2 := S.f 0 2 rfl rfl
  have f3 := S.f 0 3 rfl rfl
  have f4 := S.f 0 4 rfl rfl
  have f5 := S.f 0 5 rfl rfl
  have f6 := S.f 0 6 rfl rfl
  have f7 := S.f 0 7 rfl rfl
  have f8 := S.f 0 8 rfl rfl
  have f9 := S.f 0 9 rfl rfl
  have hb9 := (S.set10 (.int .i64 node) (.int .i64 floor) (.bool is) (.int .i64 now.o) (.int .i64 now.s) (.int .i64 now.a) (.bool now.ov) (.slice A now.adj.length c) (.slice B now.pre.length d) (.int .i64 since) (by omega) (by simp)).b
  cases vb with
  | false =>
    obtain rfl : ⟨⟨node, floor, is, now, since⟩, false, 1⟩ = z := by rw [← hz.out, if_neg (by simp)]
    go_wp2_with fail
    exact bodyPost_ret (v := .tuple #[roV ⟨node, floor, is, now, since⟩ A c B d, .bool false, .int .i64 1]) (by simp [results, Try.results26, go_sem, r0, r1, r2, r3, r4, r5, r6, r7, r8, r9]) rfl ⟨_, rfl, hsame.out, hb9⟩
  | true =>
  have hz2 := hz.out
  rw [if_pos (by simp)] at hz2
  replace hz := Lib.hid hz2
  clear hz2
  cases is with
  | true =>
    have q0 := S.c 1 0 rfl rfl
    have q1 := S.c 1 1 rfl rfl
    have q2 := S.c 1 2 rfl rfl
    have q3 := S.c 1 3 rfl rfl
    have q4 := S.c 1 4 rfl rfl
    have q5 := S.c 1 5 rfl rfl
    go_wp2_with fail
    (with_reducible refine (C.out _ S.b).mono ?_)
    rintro e w4 ⟨rfl, hb⟩
    clear p0 p1 p2 p3 p4 p5 p6 p7 p8 p9
    clear r0 r1 r2 r3 r4 r5 r6 r7 r8 r9
    clear f0 f1 f2 f3 f4 f5 f6 f7 f8 f9
    clear q0 q1 q2 q3 q4 q5
    clear hb9 C
    replace S := S.call hb
    clear hb
    have p0 := S.c 2 0 rfl rfl
    have p1 := S.c 2 1 rfl rfl
    have p2 := S.c 2 2 rfl rfl
    have p3 := S.c 2 3 rfl rfl
    have p4 := S.c 2 4 rfl rfl
    have p5 := S.c 2 5 rfl rfl
    have p6 := S.c 2 6 rfl rfl
    have p7 := S.c 2 7 rfl rfl
    have p8 := S.c 2 8 rfl rfl
    have p9 := S.c 2 9 rfl rfl
    have r0 := S.c 0 0 rfl rfl
    have r1 := S.c 0 1 rfl rfl
    have r2 := S.c 0 2 rfl rfl
    have r3 := S.c 0 3 rfl rfl
    have r4 := S.c 0 4 rfl rfl
    have r5 := S.c 0 5 rfl rfl
    have r6 := S.c 0 6 rfl rfl
    have r7 := S.c 0 7 rfl rfl
    have r8 := S.c 0 8 rfl rfl
    have r9 := S.c 0 9 rfl rfl
    have f0 := S.f 0 0 rfl rfl
    have f1 := S.f 0 1 rfl rfl
    have f2 := S.f 0 2 rfl rfl
    have f3 := S.f 0 3 rfl rfl
    have f4 := S.f 0 4 rfl rfl
    have f5 := S.f 0 5 rfl rfl
    have f6 := S.f 0 6 rfl rfl
    have f7 := S.f 0 7 rfl rfl
    have f8 := S.f 0 8 rfl rfl
    have f9 := S.f 0 9 rfl rfl
    cases cb with
    | true =>
      obtain rfl : ⟨⟨node, floor, true, now, since⟩, false, 0⟩ = z := by rw [← hz.out, if_pos (by simp)]
      have hb9 := (S.set10 (.int .i64 node) (.int .i64 floor) (.bool true) (.int .i64 now.o) (.int .i64 now.s) (.int .i64 now.a) (.bool now.ov) (.slice A now.adj.length c) (.slice B now.pre.length d) (.int .i64 since) (by omega) (by simp)).b
      go_wp2_with fail
      exact bodyPost_ret (v := .tuple #[roV ⟨node, floor, true, now, since⟩ A c B d, .bool false, .int .i64 0]) (by simp [results, Try.results26, go_sem, r0, r1, r2, r3, r4, r5, r6, r7, r8, r9]) rfl ⟨_, rfl, hsame.out, hb9⟩
    | false =>
      by_cases hf : 1073741824 ≤ floor
      · obtain rfl : ⟨⟨node, floor, true, now, since⟩, false, 6⟩ = z := by rw [← hz.out, if_neg (by simp), if_pos hf]
        have q0 := S.c 1 0 rfl rfl
        have q1 := S.c 1 1 rfl rfl
        have q2 := S.c 1 2 rfl rfl
        have q3 := S.c 1 3 rfl rfl
        have q4 := S.c 1 4 rfl rfl
        have q5 := S.c 1 5 rfl rfl
        go_wp2_with fail
        (with_reducible refine (remake_no _ _ _ _ _ _ _ _ _ _ _ _ _ _ _ _ _ _ _ _ _ _ _ _ _ hf).mono ?_)
        rintro e w5 ⟨rfl, hb⟩
        clear p0 p1 p2 p3 p4 p5 p6 p7 p8 p9
        clear r0 r1 r2 r3 r4 r5 r6 r7 r8 r9
        clear f0 f1 f2 f3 f4 f5 f6 f7 f8 f9
        clear q0 q1 q2 q3 q4 q5
        replace S := S.call hb
        clear hb
        have hlt := S.lt 0 rfl (by simp)
        have S2 := S.call (below_new' w5 (.cells #[.int .i64 node, .int .i64 floor, .bool true, .int .i64 now.o, .int .i64 now.s, .int .i64 now.a, .bool now.ov, .slice A now.adj.length c, .slice B now.pre.length d, .int .i64 since] 34))
        go_upto_region 6 with fail
        clear S
        generalize w5.alloc _ = w6 at *
        have hb9 := (S2.set10 (.int .i64 node) (.int .i64 floor) (.bool true) (.int .i64 now.o) (.int .i64 now.s) (.int .i64 now.a) (.bool now.ov) (.slice A now.adj.length c) (.slice B now.pre.length d) (.int .i64 since) (by omega) (by simp)).b
        have p0 := S2.c 2 0 rfl rfl
        have p1 := S2.c 2 1 rfl rfl
        have p2 := S2.c 2 2 rfl rfl
        have p3 := S2.c 2 3 rfl rfl
        have p4 := S2.c 2 4 rfl rfl
        have p5 := S2.c 2 5 rfl rfl
        have p6 := S2.c 2 6 rfl rfl
        have p7 := S2.c 2 7 rfl rfl
        have p8 := S2.c 2 8 rfl rfl
        have p9 := S2.c 2 9 rfl rfl
        have r0 := S2.c 0 0 rfl rfl
        have r1 := S2.c 0 1 rfl rfl
        have r2 := S2.c 0 2 rfl rfl
        have r3 := S2.c 0 3 rfl rfl
        have r4 := S2.c 0 4 rfl rfl
        have r5 := S2.c 0 5 rfl rfl
        have r6 := S2.c 0 6 rfl rfl
        have r7 := S2.c 0 7 rfl rfl
        have r8 := S2.c 0 8 rfl rfl
        have r9 := S2.c 0 9 rfl rfl
        have f0 := S2.f 0 0 rfl rfl
        have f1 := S2.f 0 1 rfl rfl
        have f2 := S2.f 0 2 rfl rfl
        have f3 := S2.f 0 3 rfl rfl
        have f4 := S2.f 0 4 rfl rfl
        have f5 := S2.f 0 5 rfl rfl
        have f6 := S2.f 0 6 rfl rfl
        have f7 := S2.f 0 7 rfl rfl
        have f8 := S2.f 0 8 rfl rfl
        have f9 := S2.f 0 9 rfl rfl
        clear S2
        go_wp2_with fail
        exact bodyPost_ret (v := .tuple #[roV ⟨node, floor, true, now, since⟩ A c B d, .bool false, .int .i64 6]) (by simp [results, Try.results26, go_sem, r0, r1, r2, r3, r4, r5, r6, r7, r8, r9]) rfl ⟨_, rfl, hsame.out, hb9⟩
      · obtain rfl : ⟨⟨node, floor + 1, true, num node (floor + 1) 0 y, 0⟩, true, 0⟩ = z := by rw [← hz.out, if_neg (by simp), if_neg hf]
        have q0 := S.c 1 0 rfl rfl
        have q1 := S.c 1 1 rfl rfl
        have q2 := S.c 1 2 rfl rfl
        have q3 := S.c 1 3 rfl rfl
        have q4 := S.c 1 4 rfl rfl
        have q5 := S.c 1 5 rfl rfl
        go_wp2_with fail
        (with_reducible refine (remake_any _ _ _ _ _ _ _ _ _ _ _ _ _ _ _ _ _ _ _ _ _ _ _ _ _ hf0 (by omega)).mono ?_)
        rintro e w5 ⟨rfl, hb⟩
        clear p0 p1 p2 p3 p4 p5 p6 p7 p8 p9
        clear r0 r1 r2 r3 r4 r5 r6 r7 r8 r9
        clear f0 f1 f2 f3 f4 f5 f6 f7 f8 f9
        clear q0 q1 q2 q3 q4 q5
        replace S := S.call hb
        clear hb
        have hlt := S.lt 0 rfl (by simp)
        have S2 := S.new' #[.int .i64 node, .int .i64 (floor + 1), .bool true, .int .i64 node, .int .i64 (floor + 1), .int .i64 0, .bool y.ov, .slice A' y.adj.length c', .slice B' y.pre.length d', .int .i64 0] 34 w5.heap.size _ rfl rfl
        go_upto_region 6 with fail
        clear S
        generalize w5.alloc _ = w6 at *
        have S3 := S2.tail
        have hb9 := (S3.set10 (.int .i64 node) (.int .i64 (floor + 1)) (.bool true) (.int .i64 node) (.int .i64 (floor + 1)) (.int .i64 0) (.bool y.ov) (.slice A' y.adj.length c') (.slice B' y.pre.length d') (.int .i64 0) (by omega) (by simp)).b
        have p0 := S2.c 0 0 rfl rfl
        have p1 := S2.c 0 1 rfl rfl
        have p2 := S2.c 0 2 rfl rfl
        have p3 := S2.c 0 3 rfl rfl
        have p4 := S2.c 0 4 rfl rfl
        have p5 := S2.c 0 5 rfl rfl
        have p6 := S2.c 0 6 rfl rfl
        have p7 := S2.c 0 7 rfl rfl
        have p8 := S2.c 0 8 rfl rfl
        have p9 := S2.c 0 9 rfl rfl
        have r0 := S2.c 1 0 rfl rfl
        have r1 := S2.c 1 1 rfl rfl
        have r2 := S2.c 1 2 rfl rfl
        have r3 := S2.c 1 3 rfl rfl
        have r4 := S2.c 1 4 rfl rfl
        have r5 := S2.c 1 5 rfl rfl
        have r6 := S2.c 1 6 rfl rfl
        have r7 := S2.c 1 7 rfl rfl
        have r8 := S2.c 1 8 rfl rfl
        have r9 := S2.c 1 9 rfl rfl
        have f0 := S2.f 1 0 rfl rfl
        have f1 := S2.f 1 1 rfl rfl
        have f2 := S2.f 1 2 rfl rfl
        have f3 := S2.f 1 3 rfl rfl
        have f4 := S2.f 1 4 rfl rfl
        have f5 := S2.f 1 5 rfl rfl
        have f6 := S2.f 1 6 rfl rfl
        have f7 := S2.f 1 7 rfl rfl
        have f8 := S2.f 1 8 rfl rfl
        have f9 := S2.f 1 9 rfl rfl
        clear S2
        go_wp2_with fail
        exact bodyPost_ret (v := .tuple #[roV ⟨node, floor + 1, true, num node (floor + 1) 0 y, 0⟩ A' c' B' d', .bool true, .int .i64 0]) (by simp [results, Try.results26, go_sem, num, r0, r1, r2, r3, r4, r5, r6, r7, r8, r9]) rfl ⟨_, rfl, hnew.out, hb9⟩
  | false =>
    clear hb9 C
    by_cases hf : 1073741824 ≤ floor
    · obtain rfl : ⟨⟨node, floor, false, now, since⟩, false, 6⟩ = z := by rw [← hz.out, if_neg (by simp), if_pos hf]
      have q0 := S.c 1 0 rfl rfl
      have q1 := S.c 1 1 rfl rfl
      have q2 := S.c 1 2 rfl rfl
      have q3 := S.c 1 3 rfl rfl
      have q4 := S.c 1 4 rfl rfl
      have q5 := S.c 1 5 rfl rfl
      go_wp2_with fail
      (with_reducible refine (remake_no _ _ _ _ _ _ _ _ _ _ _ _ _ _ _ _ _ _ _ _ _ _ _ _ _ hf).mono ?_)
      rintro e w5 ⟨rfl, hb⟩
      clear p0 p1 p2 p3 p4 p5 p6 p7 p8 p9
      clear r0 r1 r2 r3 r4 r5 r6 r7 r8 r9
      clear f0 f1 f2 f3 f4 f5 f6 f7 f8 f9
      clear q0 q1 q2 q3 q4 q5
      replace S := S.call hb
      clear hb
      have hlt := S.lt 0 rfl (by simp)
      have S2 := S.call (below_new' w5 (.cells #[.int .i64 node, .int .i64 floor, .bool false, .int .i64 now.o, .int .i64 now.s, .int .i64 now.a, .bool now.ov, .slice A now.adj.length c, .slice B now.pre.length d, .int .i64 since] 34))
      go_upto_region 6 with fail
      clear S
      generalize w5.alloc _ = w6 at *
      have hb9 := (S2.set10 (.int .i64 node) (.int .i64 floor) (.bool false) (.int .i64 now.o) (.int .i64 now.s) (.int .i64 now.a) (.bool now.ov) (.slice A now.adj.length c) (.slice B now.pre.length d) (.int .i64 since) (by omega) (by simp)).b
      have p0 := S2.c 2 0 rfl rfl
      have p1 := S2.c 2 1 rfl rfl
      have p2 := S2.c 2 2 rfl rfl
      have p3 := S2.c 2 3 rfl rfl
      have p4 := S2.c 2 4 rfl rfl
      have p5 := S2.c 2 5 rfl rfl
      have p6 := S2.c 2 6 rfl rfl
      have p7 := S2.c 2 7 rfl rfl
      have p8 := S2.c 2 8 rfl rfl
      have p9 := S2.c 2 9 rfl rfl
      have r0 := S2.c 0 0 rfl rfl
      have r1 := S2.c 0 1 rfl rfl
      have r2 := S2.c 0 2 rfl rfl
      have r3 := S2.c 0 3 rfl rfl
      have r4 := S2.c 0 4 rfl rfl
      have r5 := S2.c 0 5 rfl rfl
      have r6 := S2.c 0 6 rfl rfl
      have r7 := S2.c 0 7 rfl rfl
      have r8 := S2.c 0 8 rfl rfl
      have r9 := S2.c 0 9 rfl rfl
      have f0 := S2.f 0 0 rfl rfl
      have f1 := S2.f 0 1 rfl rfl
      have f2 := S2.f 0 2 rfl rfl
      have f3 := S2.f 0 3 rfl rfl
      have f4 := S2.f 0 4 rfl rfl
      have f5 := S2.f 0 5 rfl rfl
      have f6 := S2.f 0 6 rfl rfl
      have f7 := S2.f 0 7 rfl rfl
      have f8 := S2.f 0 8 rfl rfl
      have f9 := S2.f 0 9 rfl rfl
      clear S2
      go_wp2_with fail
      exact bodyPost_ret (v := .tuple #[roV ⟨node, floor, false, now, since⟩ A c B d, .bool false, .int .i64 6]) (by simp [results, Try.results26, go_sem, r0, r1, r2, r3, r4, r5, r6, r7, r8, r9]) rfl ⟨_, rfl, hsame.out, hb9⟩
    · obtain rfl : ⟨⟨node, floor + 1, true, num node (floor + 1) 0 y, 0⟩, true, 0⟩ = z := by rw [← hz.out, if_neg (by simp), if_neg hf]
      have q0 := S.c 1 0 rfl rfl
      have q1 := S.c 1 1 rfl rfl
      have q2 := S.c 1 2 rfl rfl
      have q3 := S.c 1 3 rfl rfl
      have q4 := S.c 1 4 rfl rfl
      have q5 := S.c 1 5 rfl rfl
      go_wp2_with fail
      (with_reducible refine (remake_any _ _ _ _ _ _ _ _ _ _ _ _ _ _ _ _ _ _ _ _ _ _ _ _ _ hf0 (by omega)).mono ?_)
      rintro e w5 ⟨rfl, hb⟩
      clear p0 p1 p2 p3 p4 p5 p6 p7 p8 p9
      clear r0 r1 r2 r3 r4 r5 r6 r7 r8 r9
      clear f0 f1 f2 f3 f4 f5 f6 f7 f8 f9
      clear q0 q1 q2 q3 q4 q5
      replace S := S.call hb
      clear hb
      have hlt := S.lt 0 rfl (by simp)
      have S2 := S.new' #[.int .i64 node, .int .i64 (floor + 1), .bool true, .int .i64 node, .int .i64 (floor + 1), .int .i64 0, .bool y.ov, .slice A' y.adj.length c', .slice B' y.pre.length d', .int .i64 0] 34 w5.heap.size _ rfl rfl
      go_upto_region 6 with fail
      clear S
      generalize w5.alloc _ = w6 at *
      have S3 := S2.tail
      have hb9 := (S3.set10 (.int .i64 node) (.int .i64 (floor + 1)) (.bool true) (.int .i64 node) (.int .i64 (floor + 1)) (.int .i64 0) (.bool y.ov) (.slice A' y.adj.length c') (.slice B' y.pre.length d') (.int .i64 0) (by omega) (by simp)).b
      have p0 := S2.c 0 0 rfl rfl
      have p1 := S2.c 0 1 rfl rfl
      have p2 := S2.c 0 2 rfl rfl
      have p3 := S2.c 0 3 rfl rfl
      have p4 := S2.c 0 4 rfl rfl
      have p5 := S2.c 0 5 rfl rfl
      have p6 := S2.c 0 6 rfl rfl
      have p7 := S2.c 0 7 rfl rfl
      have p8 := S2.c 0 8 rfl rfl
      have p9 := S2.c 0 9 rfl rfl
      have r0 := S2.c 1 0 rfl rfl
      have r1 := S2.c 1 1 rfl rfl
      have r2 := S2.c 1 2 rfl rfl
      have r3 := S2.c 1 3 rfl rfl
      have r4 := S2.c 1 4 rfl rfl
      have r5 := S2.c 1 5 rfl rfl
      have r6 := S2.c 1 6 rfl rfl
      have r7 := S2.c 1 7 rfl rfl
      have r8 := S2.c 1 8 rfl rfl
      have r9 := S2.c 1 9 rfl rfl
      have f0 := S2.f 1 0 rfl rfl
      have f1 := S2.f 1 1 rfl rfl
      have f2 := S2.f 1 2 rfl rfl
      have f3 := S2.f 1 3 rfl rfl
      have f4 := S2.f 1 4 rfl rfl
      have f5 := S2.f 1 5 rfl rfl
      have f6 := S2.f 1 6 rfl rfl
      have f7 := S2.f 1 7 rfl rfl
      have f8 := S2.f 1 8 rfl rfl
      have f9 := S2.f 1 9 rfl rfl
      clear S2
      go_wp2_with fail
      exact bodyPost_ret (v := .tuple #[roV ⟨node, floor + 1, true, num node (floor + 1) 0 y, 0⟩ A' c' B' d', .bool true, .int .i64 0]) (by simp [results, Try.results26, go_sem, num, r0, r1, r2, r3, r4, r5, r6, r7, r8, r9]) rfl ⟨_, rfl, hnew.out, hb9⟩

end Go.Proofs.Ytfpoghhjpfkbaaa
