/-
  The texts OrgH, OrgK, one after the other.
-/
import Derived.Test.YtfpoghhjpfkbaaaQ8
namespace Go.Proofs.Ytfpoghhjpfkbaaa
set_option linter.unusedVariables false
open Go.RowKit Go.Sort

set_option maxRecDepth 100000 in
set_option maxHeartbeats 12800000 in
theorem rhear_bad1 (W0 w : World) (hB0 : Below W0.heap.size W0 w) (v u : Value) (r : RO) (a : La) (h : RoAt W0 v r) (hy : LaAt W0 u a) (hf0 : 0 ≤ r.floor) (hP : vB a = false) :
    Calls Try.prog 27 #[v, u] w (RRPost W0 w (rhearP r a)) := by
  obtain ⟨A, c, B, d, rfl, hl⟩ := h
  obtain ⟨A', c', B', d', rfl⟩ := hy.form
  obtain ⟨node, floor, is, now, since⟩ := r
  simp only at hl hf0 hP ⊢
  have hl0 := hl
  have hy0 := hy
  replace hl := hl.below hB0
  replace hy := hy.below hB0
  have S := (((St.start w).new' #[.int .i64 node, .int .i64 floor, .bool is, .int .i64 now.o, .int .i64 now.s, .int .i64 now.a, .bool now.ov, .slice A now.adj.length c, .slice B now.pre.length d, .int .i64 since] 34 w.heap.size _ rfl rfl).new' #[.int .i64 a.o, .int .i64 a.s, .int .i64 a.a, .bool a.ov, .slice A' a.adj.length c', .slice B' a.pre.length d'] 32 (w.heap.size + 1) _ (by simp) rfl).new' #[.int .i64 0, .int .i64 0, .bool false, .int .i64 0, .int .i64 0, .int .i64 0, .bool false, .slice none 0 0, .slice none 0 0, .int .i64 0] 34 (w.heap.size + 2) _ (by simp) rfl
  obtain ⟨z, hz⟩ : ∃ z, rhearP ⟨node, floor, is, now, since⟩ a = z := ⟨_, rfl⟩
  rw [hz]
  unfold rhearP at hz
  have V := fun W (hb : Below w.heap.size w W) => rvalid_at W _ a (hy.below hb)
  have N := fun W (hb : Below w.heap.size w W) => rnewer_any W _ _ a now (hy.below hb) (hl.below hb)
  have hvs : vB a = true → 1 ≤ a.s ∧ a.s ≤ 1073741824 := fun h => (vB_iff.1 h).2.1
  have hsame : Hid (RoAt W0 (roV ⟨node, floor, is, now, since⟩ A c B d) ⟨node, floor, is, now, since⟩) := ⟨A, c, B, d, rfl, hl0⟩
  have hmax : Hid (∀ m, RoAt W0 (roV ⟨node, m, is, now, since⟩ A c B d) ⟨node, m, is, now, since⟩) := fun m => ⟨A, c, B, d, rfl, hl0⟩
  have hnew : Hid (RoAt W0 (roV ⟨node, a.s + 1, true, num node (a.s + 1) 0 now, 0⟩ A c B d) ⟨node, a.s + 1, true, num node (a.s + 1) 0 now, 0⟩) := ⟨A, c, B, d, rfl, hl0.renum node (a.s + 1) 0 now.ov⟩
  rw [hP] at V hz hvs
  clear hP
  generalize newI a now = nz at *
  replace V := Lib.hid V
  replace N := Lib.hid N
  replace hz := Lib.hid hz
  replace hvs := Lib.hid hvs
  clear hl hy hl0 hy0
  have q0 := S.c 1 0 rfl rfl
  have q1 := S.c 1 1 rfl rfl
  have q2 := S.c 1 2 rfl rfl
  have q3 := S.c 1 3 rfl rfl
  have q4 := S.c 1 4 rfl rfl
  have q5 := S.c 1 5 rfl rfl
  go_enter Try.func27, Try.ntmps27
  go_wp2_with fail
  (with_reducible refine (V.out _ S.b).mono ?_)
  rintro e w2 ⟨rfl, hb⟩
  clear q0 q1 q2 q3 q4 q5
  clear V
  replace S := S.call hb
  clear hb
  have p0 := S.c 2 0 rfl rfl
  have p1 := S.c 2 1 rfl rfl
  have p2 := S.c 2 2 rfl rfl
  have p3 := S.c 2 3 rfl rfl
  have p4 := S.c 2 4 rfl rfl
  have p5 := S.c 2 5 rfl rfl
  have p6 := S.c 2 6 rfl rfl
  have p7 := S.c 2 7 rfl rfl
  have p8 := S.c 2 8 rfl rfl
  have p9 := S.c 2 9 rfl rfl
  have q0 := S.c 1 0 rfl rfl
  have q1 := S.c 1 1 rfl rfl
  have q2 := S.c 1 2 rfl rfl
  have q3 := S.c 1 3 rfl rfl
  have q4 := S.c 1 4 rfl rfl
  have q5 := S.c 1 5 rfl rfl
  have r0 := S.c 0 0 rfl rfl
  have r1 := S.c 0 1 rfl rfl
  have r2 := S.c 0 2 rfl rfl
  have r3 := S.c 0 3 rfl rfl
  have r4 := S.c 0 4 rfl rfl
  have r5 := S.c 0 5 rfl rfl
  have r6 := S.c 0 6 rfl rfl
  have r7 := S.c 0 7 rfl rfl
  have r8 := S.c 0 8 rfl rfl
  have r9 := S.c 0 9 rfl rfl
  have f0 := S.f 0 0 rfl rfl
  have f1 := S.f 0 1 rfl rfl
  have f2 := S.f 0 2 rfl rfl
  have f3 := S.f 0 3 rfl rfl
  have f4 := S.f 0 4 rfl rfl
  have f5 := S.f 0 5 rfl rfl
  have f6 := S.f 0 6 rfl rfl
  have f7 := S.f 0 7 rfl rfl
  have f8 := S.f 0 8 rfl rfl
  have f9 := S.f 0 9 rfl rfl
  obtain rfl : ⟨⟨node, floor, is, now, since⟩, false, 1⟩ = z := by rw [← hz.out, if_neg (by simp)]
  have hb9 := (S.set10 (.int .i64 node) (.int .i64 floor) (.bool is) (.int .i64 now.o) (.int .i64 now.s) (.int .i64 now.a) (.bool now.ov) (.slice A now.adj.length c) (.slice B now.pre.length d) (.int .i64 since) (by omega) (by simp)).b
  go_wp2_with fail
  exact bodyPost_ret (v := .tuple #[roV ⟨node, floor, is, now, since⟩ A c B d, .bool false, .int .i64 1]) (by simp [results, Try.results27, go_sem, r0, r1, r2, r3, r4, r5, r6, r7, r8, r9]) rfl ⟨_, rfl, hsame.out, hb9⟩

set_option maxRecDepth 100000 in
set_option maxHeartbeats 12800000 in
theorem rhear_bad2 (W0 w : World) (hB0 : Below W0.heap.size W0 w) (v u : Value) (r : RO) (a : La) (h : RoAt W0 v r) (hy : LaAt W0 u a) (hf0 : 0 ≤ r.floor) (hP : vB a = true ∧ a.o ≠ r.node) :
    Calls Try.prog 27 #[v, u] w (RRPost W0 w (rhearP r a)) := by
  obtain ⟨A, c, B, d, rfl, hl⟩ := h
  obtain ⟨A', c', B', d', rfl⟩ := hy.form
  obtain ⟨node, floor, is, now, since⟩ := r
  simp only at hl hf0 hP ⊢
  have hl0 := hl
  have hy0 := hy
  replace hl := hl.below hB0
  replace hy := hy.below hB0
  have S := (((St.start w).new' #[.int .i64 node, .int .i64 floor, .bool is, .int .i64 now.o, .int .i64 now.s, .int .i64 now.a, .bool now.ov, .slice A now.adj.length c, .slice B now.pre.length d, .int .i64 since] 34 w.heap.size _ rfl rfl).new' #[.int .i64 a.o, .int .i64 a.s, .int .i64 a.a, .bool a.ov, .slice A' a.adj.length c', .slice B' a.pre.length d'] 32 (w.heap.size + 1) _ (by simp) rfl).new' #[.int .i64 0, .int .i64 0, .bool false, .int .i64 0, .int .i64 0, .int .i64 0, .bool false, .slice none 0 0, .slice none 0 0, .int .i64 0] 34 (w.heap.size + 2) _ (by simp) rfl
  obtain ⟨z, hz⟩ : ∃ z, rhearP ⟨node, floor, is, now, since⟩ a = z := ⟨_, rfl⟩
  rw [hz]
  unfold rhearP at hz
  have V := fun W (hb : Below w.heap.size w W) => rvalid_at W _ a (hy.below hb)
  have N := fun W (hb : Below w.heap.size w W) => rnewer_any W _ _ a now (hy.below hb) (hl.below hb)
  have hvs : vB a = true → 1 ≤ a.s ∧ a.s ≤ 1073741824 := fun h => (vB_iff.1 h).2.1
  have hsame : Hid (RoAt W0 (roV ⟨node, floor, is, now, since⟩ A c B d) ⟨node, floor, is, now, since⟩) := ⟨A, c, B, d, rfl, hl0⟩
  have hmax : Hid (∀ m, RoAt W0 (roV ⟨node, m, is, now, since⟩ A c B d) ⟨node, m, is, now, since⟩) := fun m => ⟨A, c, B, d, rfl, hl0⟩
  have hnew : Hid (RoAt W0 (roV ⟨node, a.s + 1, true, num node (a.s + 1) 0 now, 0⟩ A c B d) ⟨node, a.s + 1, true, num node (a.s + 1) 0 now, 0⟩) := ⟨A, c, B, d, rfl, hl0.renum node (a.s + 1) 0 now.ov⟩
  obtain ⟨hP, ho⟩ := hP
  rw [hP] at V hz hvs
  clear hP
  generalize newI a now = nz at *
  replace V := Lib.hid V
  replace N := Lib.hid N
  replace hz := Lib.hid hz
  replace hvs := Lib.hid hvs
  clear hl hy hl0 hy0
  have q0 := S.c 1 0 rfl rfl
  have q1 := S.c 1 1 rfl rfl
  have q2 := S.c 1 2 rfl rfl
  have q3 := S.c 1 3 rfl rfl
  have q4 := S.c 1 4 rfl rfl
  have q5 := S.c 1 5 rfl rfl
  go_enter Try.func27, Try.ntmps27
  go_wp2_with fail
  (with_reducible refine (V.out _ S.b).mono ?_)
  rintro e w2 ⟨rfl, hb⟩
  clear q0 q1 q2 q3 q4 q5
  clear V
  replace S := S.call hb
  clear hb
  have p0 := S.c 2 0 rfl rfl
  have p1 := S.c 2 1 rfl rfl
  have p2 := S.c 2 2 rfl rfl
  have p3 := S.c 2 3 rfl rfl
  have p4 := S.c 2 4 rfl rfl
  have p5 := S.c 2 5 rfl rfl
  have p6 := S.c 2 6 rfl rfl
  have p7 := S.c 2 7 rfl rfl
  have p8 := S.c 2 8 rfl rfl
  have p9 := S.c 2 9 rfl rfl
  have q0 := S.c 1 0 rfl rfl
  have q1 := S.c 1 1 rfl rfl
  have q2 := S.c 1 2 rfl rfl
  have q3 := S.c 1 3 rfl rfl
  have q4 := S.c 1 4 rfl rfl
  have q5 := S.c 1 5 rfl rfl
  have r0 := S.c 0 0 rfl rfl
  have r1 := S.c 0 1 rfl rfl
  have r2 := S.c 0 2 rfl rfl
  have r3 := S.c 0 3 rfl rfl
  have r4 := S.c 0 4 rfl rfl
  have r5 := S.c 0 5 rfl rfl
  have r6 := S.c 0 6 rfl rfl
  have r7 := S.c 0 7 rfl rfl
  have r8 := S.c 0 8 rfl rfl
  have r9 := S.c 0 9 rfl rfl
  have f0 := S.f 0 0 rfl rfl
  have f1 := S.f 0 1 rfl rfl
  have f2 := S.f 0 2 rfl rfl
  have f3 := S.f 0 3 rfl rfl
  have f4 := S.f 0 4 rfl rfl
  have f5 := S.f 0 5 rfl rfl
  have f6 := S.f 0 6 rfl rfl
  have f7 := S.f 0 7 rfl rfl
  have f8 := S.f 0 8 rfl rfl
  have f9 := S.f 0 9 rfl rfl
  have ho2 : (a.o != node) = true := by simpa using ho
  obtain rfl : ⟨⟨node, floor, is, now, since⟩, false, 1⟩ = z := by rw [← hz.out, if_neg (by simp [ho])]
  clear hz
  have hb9 := (S.set10 (.int .i64 node) (.int .i64 floor) (.bool is) (.int .i64 now.o) (.int .i64 now.s) (.int .i64 now.a) (.bool now.ov) (.slice A now.adj.length c) (.slice B now.pre.length d) (.int .i64 since) (by omega) (by simp)).b
  go_wp2_with fail
  exact bodyPost_ret (v := .tuple #[roV ⟨node, floor, is, now, since⟩ A c B d, .bool false, .int .i64 1]) (by simp [results, Try.results27, go_sem, r0, r1, r2, r3, r4, r5, r6, r7, r8, r9]) rfl ⟨_, rfl, hsame.out, hb9⟩

set_option maxRecDepth 100000 in
set_option maxHeartbeats 12800000 in
theorem rhear_not (W0 w : World) (hB0 : Below W0.heap.size W0 w) (v u : Value) (r : RO) (a : La) (h : RoAt W0 v r) (hy : LaAt W0 u a) (hf0 : 0 ≤ r.floor) (hP : vB a = true ∧ a.o = r.node) (his : r.is = false) :
    Calls Try.prog 27 #[v, u] w (RRPost W0 w (rhearP r a)) := by
  obtain ⟨A, c, B, d, rfl, hl⟩ := h
  obtain ⟨A', c', B', d', rfl⟩ := hy.form
  obtain ⟨node, floor, is, now, since⟩ := r
  simp only at hl hf0 hP his ⊢
  subst his
  have hl0 := hl
  have hy0 := hy
  replace hl := hl.below hB0
  replace hy := hy.below hB0
  have S := (((St.start w).new' #[.int .i64 node, .int .i64 floor, .bool false, .int .i64 now.o, .int .i64 now.s, .int .i64 now.a, .bool now.ov, .slice A now.adj.length c, .slice B now.pre.length d, .int .i64 since] 34 w.heap.size _ rfl rfl).new' #[.int .i64 a.o, .int .i64 a.s, .int .i64 a.a, .bool a.ov, .slice A' a.adj.length c', .slice B' a.pre.length d'] 32 (w.heap.size + 1) _ (by simp) rfl).new' #[.int .i64 0, .int .i64 0, .bool false, .int .i64 0, .int .i64 0, .int .i64 0, .bool false, .slice none 0 0, .slice none 0 0, .int .i64 0] 34 (w.heap.size + 2) _ (by simp) rfl
  obtain ⟨z, hz⟩ : ∃ z, rhearP ⟨node, floor, false, now, since⟩ a = z := ⟨_, rfl⟩
  rw [hz]
  unfold rhearP at hz
  have V := fun W (hb : Below w.heap.size w W) => rvalid_at W _ a (hy.below hb)
  have N := fun W (hb : Below w.heap.size w W) => rnewer_any W _ _ a now (hy.below hb) (hl.below hb)
  have hvs : vB a = true → 1 ≤ a.s ∧ a.s ≤ 1073741824 := fun h => (vB_iff.1 h).2.1
  have hsame : Hid (RoAt W0 (roV ⟨node, floor, false, now, since⟩ A c B d) ⟨node, floor, false, now, since⟩) := ⟨A, c, B, d, rfl, hl0⟩
  have hmax : Hid (∀ m, RoAt W0 (roV ⟨node, m, false, now, since⟩ A c B d) ⟨node, m, false, now, since⟩) := fun m => ⟨A, c, B, d, rfl, hl0⟩
  have hnew : Hid (RoAt W0 (roV ⟨node, a.s + 1, true, num node (a.s + 1) 0 now, 0⟩ A c B d) ⟨node, a.s + 1, true, num node (a.s + 1) 0 now, 0⟩) := ⟨A, c, B, d, rfl, hl0.renum node (a.s + 1) 0 now.ov⟩
  obtain ⟨hP, ho⟩ := hP
  replace ho := Lib.hid ho
  rw [hP] at V hz hvs
  clear hP
  generalize newI a now = nz at *
  replace V := Lib.hid V
  replace N := Lib.hid N
  replace hz := Lib.hid hz
  replace hvs := Lib.hid hvs
  clear hl hy hl0 hy0
  have q0 := S.c 1 0 rfl rfl
  have q1 := S.c 1 1 rfl rfl
  have q2 := S.c 1 2 rfl rfl
  have q3 := S.c 1 3 rfl rfl
  have q4 := S.c 1 4 rfl rfl
  have q5 := S.c 1 5 rfl rfl
  go_enter Try.func27, Try.ntmps27
  go_wp2_with fail
  (with_reducible refine (V.out _ S.b).mono ?_)
  rintro e w2 ⟨rfl, hb⟩
  clear q0 q1 q2 q3 q4 q5
  clear V
  replace S := S.call hb
  clear hb
  have p0 := S.c 2 0 rfl rfl
  have p1 := S.c 2 1 rfl rfl
  have p2 := S.c 2 2 rfl rfl
  have p3 := S.c 2 3 rfl rfl
  have p4 := S.c 2 4 rfl rfl
  have p5 := S.c 2 5 rfl rfl
  have p6 := S.c 2 6 rfl rfl
  have p7 := S.c 2 7 rfl rfl
  have p8 := S.c 2 8 rfl rfl
  have p9 := S.c 2 9 rfl rfl
  have q0 := S.c 1 0 rfl rfl
  have q1 := S.c 1 1 rfl rfl
  have q2 := S.c 1 2 rfl rfl
  have q3 := S.c 1 3 rfl rfl
  have q4 := S.c 1 4 rfl rfl
  have q5 := S.c 1 5 rfl rfl
  have r0 := S.c 0 0 rfl rfl
  have r1 := S.c 0 1 rfl rfl
  have r2 := S.c 0 2 rfl rfl
  have r3 := S.c 0 3 rfl rfl
  have r4 := S.c 0 4 rfl rfl
  have r5 := S.c 0 5 rfl rfl
  have r6 := S.c 0 6 rfl rfl
  have r7 := S.c 0 7 rfl rfl
  have r8 := S.c 0 8 rfl rfl
  have r9 := S.c 0 9 rfl rfl
  have f0 := S.f 0 0 rfl rfl
  have f1 := S.f 0 1 rfl rfl
  have f2 := S.f 0 2 rfl rfl
  have f3 := S.f 0 3 rfl rfl
  have f4 := S.f 0 4 rfl rfl
  have f5 := S.f 0 5 rfl rfl
  have f6 := S.f 0 6 rfl rfl
  have f7 := S.f 0 7 rfl rfl
  have f8 := S.f 0 8 rfl rfl
  have f9 := S.f 0 9 rfl rfl
  replace ho := ho.out
  have ho2 : (a.o != node) = false := by simpa using ho
  have hz2 := hz.out
  rw [if_pos ⟨by simp, ho⟩] at hz2
  replace hz := Lib.hid hz2
  have hvs2 := hvs.out (by simp)
  clear hz2 hvs ho
  have hmx : (floor < a.s ∧ a.s = max floor a.s) ∨ (¬ floor < a.s ∧ floor = max floor a.s) := by omega
  obtain rfl : ⟨⟨node, max floor a.s, false, now, since⟩, false, 0⟩ = z := by rw [← hz.out, if_neg (by simp)]
  generalize max floor a.s = m at *
  have S2 := S.set 2 1 (.int .i64 m) rfl (by simp) (by omega) (by simp) _ rfl
  have g1 := S.f 2 1 rfl rfl
  rcases hmx with ⟨hm1, rfl⟩ | ⟨hm1, rfl⟩
  · go_upto_region 5 with fail
    clear p0 p1 p2 p3 p4 p5 p6 p7 p8 p9
    clear q0 q1 q2 q3 q4 q5
    clear r0 r1 r2 r3 r4 r5 r6 r7 r8 r9
    clear f0 f1 f2 f3 f4 f5 f6 f7 f8 f9
    clear S g1
    generalize World.setCell w2 _ _ = w3 at *
    have p0 := S2.c 2 0 rfl rfl
    have p1 := S2.c 2 1 rfl rfl
    have p2 := S2.c 2 2 rfl rfl
    have p3 := S2.c 2 3 rfl rfl
    have p4 := S2.c 2 4 rfl rfl
    have p5 := S2.c 2 5 rfl rfl
    have p6 := S2.c 2 6 rfl rfl
    have p7 := S2.c 2 7 rfl rfl
    have p8 := S2.c 2 8 rfl rfl
    have p9 := S2.c 2 9 rfl rfl
    have q0 := S2.c 1 0 rfl rfl
    have q1 := S2.c 1 1 rfl rfl
    have q2 := S2.c 1 2 rfl rfl
    have q3 := S2.c 1 3 rfl rfl
    have q4 := S2.c 1 4 rfl rfl
    have q5 := S2.c 1 5 rfl rfl
    have r0 := S2.c 0 0 rfl rfl
    have r1 := S2.c 0 1 rfl rfl
    have r2 := S2.c 0 2 rfl rfl
    have r3 := S2.c 0 3 rfl rfl
    have r4 := S2.c 0 4 rfl rfl
    have r5 := S2.c 0 5 rfl rfl
    have r6 := S2.c 0 6 rfl rfl
    have r7 := S2.c 0 7 rfl rfl
    have r8 := S2.c 0 8 rfl rfl
    have r9 := S2.c 0 9 rfl rfl
    have f0 := S2.f 0 0 rfl rfl
    have f1 := S2.f 0 1 rfl rfl
    have f2 := S2.f 0 2 rfl rfl
    have f3 := S2.f 0 3 rfl rfl
    have f4 := S2.f 0 4 rfl rfl
    have f5 := S2.f 0 5 rfl rfl
    have f6 := S2.f 0 6 rfl rfl
    have f7 := S2.f 0 7 rfl rfl
    have f8 := S2.f 0 8 rfl rfl
    have f9 := S2.f 0 9 rfl rfl
    have hb9 := (S2.set10 (.int .i64 node) (.int .i64 (a.s)) (.bool false) (.int .i64 now.o) (.int .i64 now.s) (.int .i64 now.a) (.bool now.ov) (.slice A now.adj.length c) (.slice B now.pre.length d) (.int .i64 since) (by omega) (by simp)).b
    go_wp2_with fail
    exact bodyPost_ret (v := .tuple #[roV ⟨node, a.s, false, now, since⟩ A c B d, .bool false, .int .i64 0]) (by simp [results, Try.results27, go_sem, r0, r1, r2, r3, r4, r5, r6, r7, r8, r9]) rfl ⟨_, rfl, hmax.out a.s, hb9⟩
  · go_upto_region 5 with fail
    clear p0 p1 p2 p3 p4 p5 p6 p7 p8 p9
    clear q0 q1 q2 q3 q4 q5
    clear r0 r1 r2 r3 r4 r5 r6 r7 r8 r9
    clear f0 f1 f2 f3 f4 f5 f6 f7 f8 f9
    clear S g1
    generalize World.setCell w2 _ _ = w3 at *
    have p0 := S2.c 2 0 rfl rfl
    have p1 := S2.c 2 1 rfl rfl
    have p2 := S2.c 2 2 rfl rfl
    have p3 := S2.c 2 3 rfl rfl
    have p4 := S2.c 2 4 rfl rfl
    have p5 := S2.c 2 5 rfl rfl
    have p6 := S2.c 2 6 rfl rfl
    have p7 := S2.c 2 7 rfl rfl
    have p8 := S2.c 2 8 rfl rfl
    have p9 := S2.c 2 9 rfl rfl
    have q0 := S2.c 1 0 rfl rfl
    have q1 := S2.c 1 1 rfl rfl
    have q2 := S2.c 1 2 rfl rfl
    have q3 := S2.c 1 3 rfl rfl
    have q4 := S2.c 1 4 rfl rfl
    have q5 := S2.c 1 5 rfl rfl
    have r0 := S2.c 0 0 rfl rfl
    have r1 := S2.c 0 1 rfl rfl
    have r2 := S2.c 0 2 rfl rfl
    have r3 := S2.c 0 3 rfl rfl
    have r4 := S2.c 0 4 rfl rfl
    have r5 := S2.c 0 5 rfl rfl
    have r6 := S2.c 0 6 rfl rfl
    have r7 := S2.c 0 7 rfl rfl
    have r8 := S2.c 0 8 rfl rfl
    have r9 := S2.c 0 9 rfl rfl
    have f0 := S2.f 0 0 rfl rfl
    have f1 := S2.f 0 1 rfl rfl
    have f2 := S2.f 0 2 rfl rfl
    have f3 := S2.f 0 3 rfl rfl
    have f4 := S2.f 0 4 rfl rfl
    have f5 := S2.f 0 5 rfl rfl
    have f6 := S2.f 0 6 rfl rfl
    have f7 := S2.f 0 7 rfl rfl
    have f8 := S2.f 0 8 rfl rfl
    have f9 := S2.f 0 9 rfl rfl
    have hb9 := (S2.set10 (.int .i64 node) (.int .i64 (floor)) (.bool false) (.int .i64 now.o) (.int .i64 now.s) (.int .i64 now.a) (.bool now.ov) (.slice A now.adj.length c) (.slice B now.pre.length d) (.int .i64 since) (by omega) (by simp)).b
    go_wp2_with fail
    exact bodyPost_ret (v := .tuple #[roV ⟨node, floor, false, now, since⟩ A c B d, .bool false, .int .i64 0]) (by simp [results, Try.results27, go_sem, r0, r1, r2, r3, r4, r5, r6, r7, r8, r9]) rfl ⟨_, rfl, hmax.out floor, hb9⟩

set_option maxRecDepth 100000 in
set_option maxHeartbeats 12800000 in
theorem rhear_is (W0 w : World) (hB0 : Below W0.heap.size W0 w) (v u : Value) (r : RO) (a : La) (h : RoAt W0 v r) (hy : LaAt W0 u a) (hf0 : 0 ≤ r.floor) (hP : vB a = true ∧ a.o = r.node) (his : r.is = true) :
    Calls Try.prog 27 #[v, u] w (RRPost W0 w (rhearP r a)) := by
  obtain ⟨A, c, B, d, rfl, hl⟩ := h
  obtain ⟨A', c', B', d', rfl⟩ := hy.form
  obtain ⟨node, floor, is, now, since⟩ := r
  simp only at hl hf0 hP his ⊢
  subst his
  have hl0 := hl
  have hy0 := hy
  replace hl := hl.below hB0
  replace hy := hy.below hB0
  have S := (((St.start w).new' #[.int .i64 node, .int .i64 floor, .bool true, .int .i64 now.o, .int .i64 now.s, .int .i64 now.a, .bool now.ov, .slice A now.adj.length c, .slice B now.pre.length d, .int .i64 since] 34 w.heap.size _ rfl rfl).new' #[.int .i64 a.o, .int .i64 a.s, .int .i64 a.a, .bool a.ov, .slice A' a.adj.length c', .slice B' a.pre.length d'] 32 (w.heap.size + 1) _ (by simp) rfl).new' #[.int .i64 0, .int .i64 0, .bool false, .int .i64 0, .int .i64 0, .int .i64 0, .bool false, .slice none 0 0, .slice none 0 0, .int .i64 0] 34 (w.heap.size + 2) _ (by simp) rfl
  obtain ⟨z, hz⟩ : ∃ z, rhearP ⟨node, floor, true, now, since⟩ a = z := ⟨_, rfl⟩
  rw [hz]
  unfold rhearP at hz
  have V := fun W (hb : Below w.heap.size w W) => rvalid_at W _ a (hy.below hb)
  have N := fun W (hb : Below w.heap.size w W) => rnewer_any W _ _ a now (hy.below hb) (hl.below hb)
  have hvs : vB a = true → 1 ≤ a.s ∧ a.s ≤ 1073741824 := fun h => (vB_iff.1 h).2.1
  have hsame : Hid (RoAt W0 (roV ⟨node, floor, true, now, since⟩ A c B d) ⟨node, floor, true, now, since⟩) := ⟨A, c, B, d, rfl, hl0⟩
  have hmax : Hid (∀ m, RoAt W0 (roV ⟨node, m, true, now, since⟩ A c B d) ⟨node, m, true, now, since⟩) := fun m => ⟨A, c, B, d, rfl, hl0⟩
  have hnew : Hid (RoAt W0 (roV ⟨node, a.s + 1, true, num node (a.s + 1) 0 now, 0⟩ A c B d) ⟨node, a.s + 1, true, num node (a.s + 1) 0 now, 0⟩) := ⟨A, c, B, d, rfl, hl0.renum node (a.s + 1) 0 now.ov⟩
  obtain ⟨hP, ho⟩ := hP
  replace ho := Lib.hid ho
  rw [hP] at V hz hvs
  clear hP
  generalize newI a now = nz at *
  replace V := Lib.hid V
  replace N := Lib.hid N
  replace hz := Lib.hid hz
  replace hvs := Lib.hid hvs
  clear hl hy hl0 hy0
  have q0 := S.c 1 0 rfl rfl
  have q1 := S.c 1 1 rfl rfl
  have q2 := S.c 1 2 rfl rfl
  have q3 := S.c 1 3 rfl rfl
  have q4 := S.c 1 4 rfl rfl
  have q5 := S.c 1 5 rfl rfl
  go_enter Try.func27, Try.ntmps27
  go_wp2_with fail
  (with_reducible refine (V.out _ S.b).mono ?_)
  rintro e w2 ⟨rfl, hb⟩
  clear q0 q1 q2 q3 q4 q5
  clear V
  replace S := S.call hb
  clear hb
  have p0 := S.c 2 0 rfl rfl
  have p1 := S.c 2 1 rfl rfl
  have p2 := S.c 2 2 rfl rfl
  have p3 := S.c 2 3 rfl rfl
  have p4 := S.c 2 4 rfl rfl
  have p5 := S.c 2 5 rfl rfl
  have p6 := S.c 2 6 rfl rfl
  have p7 := S.c 2 7 rfl rfl
  have p8 := S.c 2 8 rfl rfl
  have p9 := S.c 2 9 rfl rfl
  have q0 := S.c 1 0 rfl rfl
  have q1 := S.c 1 1 rfl rfl
  have q2 := S.c 1 2 rfl rfl
  have q3 := S.c 1 3 rfl rfl
  have q4 := S.c 1 4 rfl rfl
  have q5 := S.c 1 5 rfl rfl
  have r0 := S.c 0 0 rfl rfl
  have r1 := S.c 0 1 rfl rfl
  have r2 := S.c 0 2 rfl rfl
  have r3 := S.c 0 3 rfl rfl
  have r4 := S.c 0 4 rfl rfl
  have r5 := S.c 0 5 rfl rfl
  have r6 := S.c 0 6 rfl rfl
  have r7 := S.c 0 7 rfl rfl
  have r8 := S.c 0 8 rfl rfl
  have r9 := S.c 0 9 rfl rfl
  have f0 := S.f 0 0 rfl rfl
  have f1 := S.f 0 1 rfl rfl
  have f2 := S.f 0 2 rfl rfl
  have f3 := S.f 0 3 rfl rfl
  have f4 := S.f 0 4 rfl rfl
  have f5 := S.f 0 5 rfl rfl
  have f6 := S.f 0 6 rfl rfl
  have f7 := S.f 0 7 rfl rfl
  have f8 := S.f 0 8 rfl rfl
  have f9 := S.f 0 9 rfl rfl
  replace ho := ho.out
  have ho2 : (a.o != node) = false := by simpa using ho
  have hz2 := hz.out
  rw [if_pos ⟨by simp, ho⟩] at hz2
  replace hz := Lib.hid hz2
  have hvs2 := hvs.out (by simp)
  clear hz2 hvs ho
  go_wp2_with fail
  (with_reducible refine (N.out _ S.b).mono ?_)
  rintro e w3 ⟨rfl, hb⟩
  clear p0 p1 p2 p3 p4 p5 p6 p7 p8 p9
  clear q0 q1 q2 q3 q4 q5
  clear r0 r1 r2 r3 r4 r5 r6 r7 r8 r9
  clear f0 f1 f2 f3 f4 f5 f6 f7 f8 f9
  clear N hmax
  replace S := S.call hb
  clear hb
  by_cases hnz : nz ≤ 0
  · obtain rfl : ⟨⟨node, floor, true, now, since⟩, false, 0⟩ = z := by rw [← hz.out, if_pos (by simp), if_pos hnz]
    clear hz
    have p0 := S.c 2 0 rfl rfl
    have p1 := S.c 2 1 rfl rfl
    have p2 := S.c 2 2 rfl rfl
    have p3 := S.c 2 3 rfl rfl
    have p4 := S.c 2 4 rfl rfl
    have p5 := S.c 2 5 rfl rfl
    have p6 := S.c 2 6 rfl rfl
    have p7 := S.c 2 7 rfl rfl
    have p8 := S.c 2 8 rfl rfl
    have p9 := S.c 2 9 rfl rfl
    have r0 := S.c 0 0 rfl rfl
    have r1 := S.c 0 1 rfl rfl
    have r2 := S.c 0 2 rfl rfl
    have r3 := S.c 0 3 rfl rfl
    have r4 := S.c 0 4 rfl rfl
    have r5 := S.c 0 5 rfl rfl
    have r6 := S.c 0 6 rfl rfl
    have r7 := S.c 0 7 rfl rfl
    have r8 := S.c 0 8 rfl rfl
    have r9 := S.c 0 9 rfl rfl
    have f0 := S.f 0 0 rfl rfl
    have f1 := S.f 0 1 rfl rfl
    have f2 := S.f 0 2 rfl rfl
    have f3 := S.f 0 3 rfl rfl
    have f4 := S.f 0 4 rfl rfl
    have f5 := S.f 0 5 rfl rfl
    have f6 := S.f 0 6 rfl rfl
    have f7 := S.f 0 7 rfl rfl
    have f8 := S.f 0 8 rfl rfl
    have f9 := S.f 0 9 rfl rfl
    have hb9 := (S.set10 (.int .i64 node) (.int .i64 floor) (.bool true) (.int .i64 now.o) (.int .i64 now.s) (.int .i64 now.a) (.bool now.ov) (.slice A now.adj.length c) (.slice B now.pre.length d) (.int .i64 since) (by omega) (by simp)).b
    go_wp2_with fail
    exact bodyPost_ret (v := .tuple #[roV ⟨node, floor, true, now, since⟩ A c B d, .bool false, .int .i64 0]) (by simp [results, Try.results27, go_sem, r0, r1, r2, r3, r4, r5, r6, r7, r8, r9]) rfl ⟨_, rfl, hsame.out, hb9⟩
  have hz2 := hz.out
  rw [if_pos (by simp), if_neg hnz] at hz2
  replace hz := Lib.hid hz2
  clear hz2
  have hlt := S.lt 0 rfl (by simp)
  have S2 := S.new' #[.int .i64 node, .int .i64 a.s, .bool true, .int .i64 now.o, .int .i64 now.s, .int .i64 now.a, .bool now.ov, .slice A now.adj.length c, .slice B now.pre.length d, .int .i64 since] 34 w3.heap.size _ rfl rfl
  have S1 := S.new' #[.int .i64 node, .int .i64 floor, .bool true, .int .i64 now.o, .int .i64 now.s, .int .i64 now.a, .bool now.ov, .slice A now.adj.length c, .slice B now.pre.length d, .int .i64 since] 34 w3.heap.size _ rfl rfl
  have p0 := S.c 2 0 rfl rfl
  have p1 := S.c 2 1 rfl rfl
  have p2 := S.c 2 2 rfl rfl
  have p3 := S.c 2 3 rfl rfl
  have p4 := S.c 2 4 rfl rfl
  have p5 := S.c 2 5 rfl rfl
  have p6 := S.c 2 6 rfl rfl
  have p7 := S.c 2 7 rfl rfl
  have p8 := S.c 2 8 rfl rfl
  have p9 := S.c 2 9 rfl rfl
  have q0 := S1.c 2 0 rfl rfl
  have q1 := S1.c 2 1 rfl rfl
  have q2 := S1.c 2 2 rfl rfl
  have q3 := S1.c 2 3 rfl rfl
  have q4 := S1.c 2 4 rfl rfl
  have q5 := S1.c 2 5 rfl rfl
  clear S1
  go_upto_region 10 with fail
  clear p0 p1 p2 p3 p4 p5 p6 p7 p8 p9
  clear q0 q1 q2 q3 q4 q5
  generalize w3.alloc _ = w4 at *
  have n0 := S2.c 0 0 rfl rfl
  have n1 := S2.c 0 1 rfl rfl
  have n2 := S2.c 0 2 rfl rfl
  have n3 := S2.c 0 3 rfl rfl
  have n4 := S2.c 0 4 rfl rfl
  have n5 := S2.c 0 5 rfl rfl
  have n6 := S2.c 0 6 rfl rfl
  have n7 := S2.c 0 7 rfl rfl
  have n8 := S2.c 0 8 rfl rfl
  have n9 := S2.c 0 9 rfl rfl
  have p0 := S2.c 3 0 rfl rfl
  have p1 := S2.c 3 1 rfl rfl
  have p2 := S2.c 3 2 rfl rfl
  have p3 := S2.c 3 3 rfl rfl
  have p4 := S2.c 3 4 rfl rfl
  have p5 := S2.c 3 5 rfl rfl
  have p6 := S2.c 3 6 rfl rfl
  have p7 := S2.c 3 7 rfl rfl
  have p8 := S2.c 3 8 rfl rfl
  have p9 := S2.c 3 9 rfl rfl
  clear S
  by_cases hf : 1073741824 ≤ a.s
  · obtain rfl : ⟨⟨node, floor, true, now, since⟩, false, 6⟩ = z := by rw [← hz.out, if_pos hf]
    clear hz
    go_wp2_with fail
    (with_reducible refine (remake_no _ _ _ _ _ _ _ _ _ _ _ _ _ _ _ _ _ _ _ _ _ _ _ _ _ hf).mono ?_)
    rintro e w5 ⟨rfl, hb⟩
    clear n0 n1 n2 n3 n4 n5 n6 n7 n8 n9
    clear p0 p1 p2 p3 p4 p5 p6 p7 p8 p9
    replace S2 := S2.call hb
    clear hb
    have n0 := S2.c 0 0 rfl rfl
    have n1 := S2.c 0 1 rfl rfl
    have n2 := S2.c 0 2 rfl rfl
    have n3 := S2.c 0 3 rfl rfl
    have n4 := S2.c 0 4 rfl rfl
    have n5 := S2.c 0 5 rfl rfl
    have n6 := S2.c 0 6 rfl rfl
    have n7 := S2.c 0 7 rfl rfl
    have n8 := S2.c 0 8 rfl rfl
    have n9 := S2.c 0 9 rfl rfl
    have nf0 := S2.f 0 0 rfl rfl
    have nf1 := S2.f 0 1 rfl rfl
    have nf2 := S2.f 0 2 rfl rfl
    have nf3 := S2.f 0 3 rfl rfl
    have nf4 := S2.f 0 4 rfl rfl
    have nf5 := S2.f 0 5 rfl rfl
    have nf6 := S2.f 0 6 rfl rfl
    have nf7 := S2.f 0 7 rfl rfl
    have nf8 := S2.f 0 8 rfl rfl
    have nf9 := S2.f 0 9 rfl rfl
    have S3 := S2.set10 (.int .i64 node) (.int .i64 a.s) (.bool true) (.int .i64 now.o) (.int .i64 now.s) (.int .i64 now.a) (.bool now.ov) (.slice A now.adj.length c) (.slice B now.pre.length d) (.int .i64 since) (by omega) (by simp only [List.mem_cons, List.not_mem_nil, or_false]; rintro x (rfl | rfl | rfl) <;> simp only <;> omega)
    go_upto_region 11 with fail
    clear n0 n1 n2 n3 n4 n5 n6 n7 n8 n9
    clear nf0 nf1 nf2 nf3 nf4 nf5 nf6 nf7 nf8 nf9
    clear S2
    generalize World.setCell (World.setCell (World.setCell (World.setCell (World.setCell (World.setCell (World.setCell (World.setCell (World.setCell (World.setCell w5 _ _) _ _) _ _) _ _) _ _) _ _) _ _) _ _) _ _) _ _ = w6 at *
    have S := S3.tail
    clear S3
    have p0 := S.c 2 0 rfl rfl
    have p1 := S.c 2 1 rfl rfl
    have p2 := S.c 2 2 rfl rfl
    have p3 := S.c 2 3 rfl rfl
    have p4 := S.c 2 4 rfl rfl
    have p5 := S.c 2 5 rfl rfl
    have p6 := S.c 2 6 rfl rfl
    have p7 := S.c 2 7 rfl rfl
    have p8 := S.c 2 8 rfl rfl
    have p9 := S.c 2 9 rfl rfl
    have r0 := S.c 0 0 rfl rfl
    have r1 := S.c 0 1 rfl rfl
    have r2 := S.c 0 2 rfl rfl
    have r3 := S.c 0 3 rfl rfl
    have r4 := S.c 0 4 rfl rfl
    have r5 := S.c 0 5 rfl rfl
    have r6 := S.c 0 6 rfl rfl
    have r7 := S.c 0 7 rfl rfl
    have r8 := S.c 0 8 rfl rfl
    have r9 := S.c 0 9 rfl rfl
    have f0 := S.f 0 0 rfl rfl
    have f1 := S.f 0 1 rfl rfl
    have f2 := S.f 0 2 rfl rfl
    have f3 := S.f 0 3 rfl rfl
    have f4 := S.f 0 4 rfl rfl
    have f5 := S.f 0 5 rfl rfl
    have f6 := S.f 0 6 rfl rfl
    have f7 := S.f 0 7 rfl rfl
    have f8 := S.f 0 8 rfl rfl
    have f9 := S.f 0 9 rfl rfl
    have hb9 := (S.set10 (.int .i64 node) (.int .i64 floor) (.bool true) (.int .i64 now.o) (.int .i64 now.s) (.int .i64 now.a) (.bool now.ov) (.slice A now.adj.length c) (.slice B now.pre.length d) (.int .i64 since) (by omega) (by simp)).b
    go_wp2_with fail
    exact bodyPost_ret (v := .tuple #[roV ⟨node, floor, true, now, since⟩ A c B d, .bool false, .int .i64 6]) (by simp [results, Try.results27, go_sem, r0, r1, r2, r3, r4, r5, r6, r7, r8, r9]) rfl ⟨_, rfl, hsame.out, hb9⟩
  · obtain rfl : ⟨⟨node, a.s + 1, true, num node (a.s + 1) 0 now, 0⟩, true, 0⟩ = z := by rw [← hz.out, if_neg hf]
    clear hz hsame
    go_wp2_with fail
    (with_reducible refine (remake_any _ _ _ _ _ _ _ _ _ _ _ _ _ _ _ _ _ _ _ _ _ _ _ _ _ (by omega) (by omega)).mono ?_)
    rintro e w5 ⟨rfl, hb⟩
    clear n0 n1 n2 n3 n4 n5 n6 n7 n8 n9
    clear p0 p1 p2 p3 p4 p5 p6 p7 p8 p9
    replace S2 := S2.call hb
    clear hb
    have n0 := S2.c 0 0 rfl rfl
    have n1 := S2.c 0 1 rfl rfl
    have n2 := S2.c 0 2 rfl rfl
    have n3 := S2.c 0 3 rfl rfl
    have n4 := S2.c 0 4 rfl rfl
    have n5 := S2.c 0 5 rfl rfl
    have n6 := S2.c 0 6 rfl rfl
    have n7 := S2.c 0 7 rfl rfl
    have n8 := S2.c 0 8 rfl rfl
    have n9 := S2.c 0 9 rfl rfl
    have nf0 := S2.f 0 0 rfl rfl
    have nf1 := S2.f 0 1 rfl rfl
    have nf2 := S2.f 0 2 rfl rfl
    have nf3 := S2.f 0 3 rfl rfl
    have nf4 := S2.f 0 4 rfl rfl
    have nf5 := S2.f 0 5 rfl rfl
    have nf6 := S2.f 0 6 rfl rfl
    have nf7 := S2.f 0 7 rfl rfl
    have nf8 := S2.f 0 8 rfl rfl
    have nf9 := S2.f 0 9 rfl rfl
    have S3 := S2.set10 (.int .i64 node) (.int .i64 (a.s + 1)) (.bool true) (.int .i64 node) (.int .i64 (a.s + 1)) (.int .i64 0) (.bool now.ov) (.slice A now.adj.length c) (.slice B now.pre.length d) (.int .i64 0) (by omega) (by simp only [List.mem_cons, List.not_mem_nil, or_false]; rintro x (rfl | rfl | rfl) <;> simp only <;> omega)
    go_upto_region 11 with fail
    clear n0 n1 n2 n3 n4 n5 n6 n7 n8 n9
    clear nf0 nf1 nf2 nf3 nf4 nf5 nf6 nf7 nf8 nf9
    clear S2
    generalize World.setCell (World.setCell (World.setCell (World.setCell (World.setCell (World.setCell (World.setCell (World.setCell (World.setCell (World.setCell w5 _ _) _ _) _ _) _ _) _ _) _ _) _ _) _ _) _ _) _ _ = w6 at *
    have S := S3.tail
    have p0 := S3.c 0 0 rfl rfl
    have p1 := S3.c 0 1 rfl rfl
    have p2 := S3.c 0 2 rfl rfl
    have p3 := S3.c 0 3 rfl rfl
    have p4 := S3.c 0 4 rfl rfl
    have p5 := S3.c 0 5 rfl rfl
    have p6 := S3.c 0 6 rfl rfl
    have p7 := S3.c 0 7 rfl rfl
    have p8 := S3.c 0 8 rfl rfl
    have p9 := S3.c 0 9 rfl rfl
    have r0 := S.c 0 0 rfl rfl
    have r1 := S.c 0 1 rfl rfl
    have r2 := S.c 0 2 rfl rfl
    have r3 := S.c 0 3 rfl rfl
    have r4 := S.c 0 4 rfl rfl
    have r5 := S.c 0 5 rfl rfl
    have r6 := S.c 0 6 rfl rfl
    have r7 := S.c 0 7 rfl rfl
    have r8 := S.c 0 8 rfl rfl
    have r9 := S.c 0 9 rfl rfl
    have f0 := S.f 0 0 rfl rfl
    have f1 := S.f 0 1 rfl rfl
    have f2 := S.f 0 2 rfl rfl
    have f3 := S.f 0 3 rfl rfl
    have f4 := S.f 0 4 rfl rfl
    have f5 := S.f 0 5 rfl rfl
    have f6 := S.f 0 6 rfl rfl
    have f7 := S.f 0 7 rfl rfl
    have f8 := S.f 0 8 rfl rfl
    have f9 := S.f 0 9 rfl rfl
    clear S3
    have hb9 := (S.set10 (.int .i64 node) (.int .i64 (a.s + 1)) (.bool true) (.int .i64 node) (.int .i64 (a.s + 1)) (.int .i64 0) (.bool now.ov) (.slice A now.adj.length c) (.slice B now.pre.length d) (.int .i64 0) (by omega) (by simp)).b
    go_wp2_with fail
    exact bodyPost_ret (v := .tuple #[roV ⟨node, a.s + 1, true, num node (a.s + 1) 0 now, 0⟩ A c B d, .bool true, .int .i64 0]) (by simp [results, Try.results27, go_sem, num, r0, r1, r2, r3, r4, r5, r6, r7, r8, r9]) rfl ⟨_, rfl, hnew.out, hb9⟩


set_option maxRecDepth 100000 in
set_option maxHeartbeats 12800000 in
theorem rhear_any (W0 w : World) (hB0 : Below W0.heap.size W0 w) (v u : Value) (r : RO) (a : La) (h : RoAt W0 v r) (hy : LaAt W0 u a) (hf0 : 0 ≤ r.floor) :
    Calls Try.prog 27 #[v, u] w (RRPost W0 w (rhearP r a)) := by
  rcases h1 : vB a with _ | _
  · exact rhear_bad1 W0 w hB0 v u r a h hy hf0 h1
  · by_cases h2 : a.o = r.node
    · rcases h3 : r.is with _ | _
      · exact rhear_not W0 w hB0 v u r a h hy hf0 ⟨h1, h2⟩ h3
      · exact rhear_is W0 w hB0 v u r a h hy hf0 ⟨h1, h2⟩ h3
    · exact rhear_bad2 W0 w hB0 v u r a h hy hf0 ⟨h1, h2⟩

end Go.Proofs.Ytfpoghhjpfkbaaa

namespace Go.Proofs.Ytfpoghhjpfkbaaa
set_option linter.unusedVariables false
open Go.RowKit Go.Sort

def min1 (z : Int) : Int := if z + 1 ≤ 3599 then z + 1 else 3599
def stepO (r : RO) : RO := if 1800 ≤ min1 r.since ∧ r.floor < 1073741824 then ⟨r.node, r.floor + 1, true, num r.node (r.floor + 1) 0 r.now, 0⟩ else { r with since := min1 r.since }
def stepB (r : RO) : Bool := decide (1800 ≤ min1 r.since) && decide (r.floor < 1073741824)
def iterO (r : RO) : Nat → RO
  | 0 => r
  | k + 1 => stepO (iterO r k)
def iterB (r : RO) : Nat → Bool
  | 0 => false
  | k + 1 => iterB r k || stepB (iterO r k)
theorem iterO_is {r : RO} (h : r.is = true) : ∀ k, (iterO r k).is = true := by
  intro k
  induction k with
  | zero => exact h
  | succ k ih => show (stepO (iterO r k)).is = true; unfold stepO; split <;> simp [ih]
theorem iterO_floor {r : RO} (h : r.floor ≤ 1073741824) : ∀ k, r.floor ≤ (iterO r k).floor ∧ (iterO r k).floor ≤ 1073741824 := by
  intro k
  induction k with
  | zero => exact ⟨Int.le_refl _, h⟩
  | succ k ih =>
    show r.floor ≤ (stepO (iterO r k)).floor ∧ (stepO (iterO r k)).floor ≤ 1073741824
    unfold stepO
    split
    · next h => simp only; omega
    · exact ih
theorem iterO_since {r : RO} (h : 0 ≤ r.since ∧ r.since ≤ 3599) : ∀ k, 0 ≤ (iterO r k).since ∧ (iterO r k).since ≤ 3599 := by
  intro k
  induction k with
  | zero => exact h
  | succ k ih =>
    show 0 ≤ (stepO (iterO r k)).since ∧ (stepO (iterO r k)).since ≤ 3599
    unfold stepO
    split
    · exact ⟨Int.le_refl 0, (by decide : (0 : Int) ≤ 3599)⟩
    · show 0 ≤ min1 (iterO r k).since ∧ min1 (iterO r k).since ≤ 3599
      unfold min1
      split <;> omega

/-- The states agree. -/
def Rel (x : La) (mk : Bool) (r : RO) : Prop := r.node = x.o ∧ r.floor = x.s ∧ r.is = mk ∧ (mk = true → r.now = num x.o x.s 0 x ∧ r.since = x.a) ∧ (mk = false → r.now = laZero ∧ r.since = 0)
/-- What holds of the states. -/
def Inv (x : La) (mk : Bool) : Prop := 0 ≤ x.s ∧ x.s ≤ 1073741824 ∧ 0 ≤ x.a ∧ x.a ≤ 3599 ∧ (x.a < 1800 ∨ 1073741824 ≤ x.s)
/-- The closed form. -/
def tS (x : La) (n : Int) : Int := if (x.a + n) / 1800 ≤ 1073741824 - x.s then (x.a + n) / 1800 else 1073741824 - x.s
theorem tick_closed (x : La) (n : Int) (hi : Inv x true) (hn : 0 ≤ n) :
    tickX x true n = num x.o (x.s + tS x n) (capA (x.a + n - tS x n * 1800)) x ∧ tickB x true n = decide (0 < tS x n) := by
  obtain ⟨s0, s1, a0, a1, hc⟩ := hi
  by_cases hn0 : 0 < n
  · have e1 : tickX x true n = if renews x n = true then { x with s := x.s + times x n, a := capA (n - (1800 - x.a) - (times x n - 1) * 1800) } else { x with a := capA (x.a + n) } := by unfold tickX; rw [if_pos ⟨rfl, hn0⟩]
    have e2 : tickB x true n = renews x n := by unfold tickB; rw [decide_eq_true hn0]; simp
    rw [e1, e2]
    by_cases hr : x.a < 1800 ∧ 1800 - x.a ≤ n ∧ x.s < 1073741824
    · obtain ⟨r1, r2, r3⟩ := hr
      have hre : renews x n = true := by unfold renews; rw [decide_eq_true r1, decide_eq_true r2, decide_eq_true r3]; rfl
      have ht : times x n = tS x n ∧ 0 < tS x n := by unfold times tS; split <;> split <;> omega
      rw [hre, ht.1, if_pos rfl, decide_eq_true ht.2, show n - (1800 - x.a) - (tS x n - 1) * 1800 = x.a + n - tS x n * 1800 by omega]
      exact ⟨rfl, rfl⟩
    · have hre : renews x n = false := by
        unfold renews
        by_cases r1 : x.a < 1800
        · by_cases r2 : 1800 - x.a ≤ n
          · rw [decide_eq_false (by omega : ¬ x.s < 1073741824)]; simp
          · rw [decide_eq_false r2]; simp
        · rw [decide_eq_false r1]; simp
      have ht : tS x n = 0 := by unfold tS; split <;> omega
      rw [hre, ht, if_neg (by simp), decide_eq_false (by omega), Int.add_zero, show x.a + n - 0 * 1800 = x.a + n by omega]
      exact ⟨rfl, rfl⟩
  · obtain rfl : n = 0 := by omega
    have e1 : tickX x true 0 = x := by unfold tickX; rw [if_neg (by simp)]
    have e2 : tickB x true 0 = false := by unfold tickB; simp
    have ht : tS x 0 = 0 := by unfold tS; split <;> omega
    have hcap : capA (x.a + 0 - 0 * 1800) = x.a := by unfold capA; split <;> omega
    rw [e1, e2, ht, hcap, decide_eq_false (by omega), Int.add_zero]
    exact ⟨rfl, rfl⟩
theorem step_int (x : La) (k : Int) (hi : Inv x true) (hk : 0 ≤ k) :
    ((1800 ≤ min1 (capA (x.a + k - tS x k * 1800)) ∧ x.s + tS x k < 1073741824) → tS x (k + 1) = tS x k + 1 ∧ capA (x.a + (k + 1) - tS x (k + 1) * 1800) = 0) ∧
    (¬ (1800 ≤ min1 (capA (x.a + k - tS x k * 1800)) ∧ x.s + tS x k < 1073741824) → tS x (k + 1) = tS x k ∧ capA (x.a + (k + 1) - tS x (k + 1) * 1800) = min1 (capA (x.a + k - tS x k * 1800))) := by
  obtain ⟨s0, s1, a0, a1, hc⟩ := hi
  by_cases h : (x.a + k) / 1800 ≤ 1073741824 - x.s
  · have e1 : tS x k = (x.a + k) / 1800 := by unfold tS; rw [if_pos h]
    by_cases h' : (x.a + (k + 1)) / 1800 ≤ 1073741824 - x.s
    · have e2 : tS x (k + 1) = (x.a + (k + 1)) / 1800 := by unfold tS; rw [if_pos h']
      rw [e1, e2]
      unfold min1 capA
      constructor
      · intro hh
        split at hh <;> split at hh <;> first | omega | (refine ⟨by omega, ?_⟩; split <;> omega)
      · intro hh
        refine ⟨?_, ?_⟩
        · split at hh <;> split at hh <;> omega
        · split at hh <;> split at hh <;> (repeat' split) <;> omega
    · have e2 : tS x (k + 1) = 1073741824 - x.s := by unfold tS; rw [if_neg h']
      rw [e1, e2]
      unfold min1 capA
      constructor
      · intro hh
        split at hh <;> split at hh <;> first | omega | (refine ⟨by omega, ?_⟩; split <;> omega)
      · intro hh
        refine ⟨?_, ?_⟩
        · split at hh <;> split at hh <;> omega
        · split at hh <;> split at hh <;> (repeat' split) <;> omega
  · have e1 : tS x k = 1073741824 - x.s := by unfold tS; rw [if_neg h]
    have e2 : tS x (k + 1) = 1073741824 - x.s := by unfold tS; rw [if_neg (by omega)]
    rw [e1, e2]
    unfold min1 capA
    constructor
    · intro hh; omega
    · intro hh
      refine ⟨rfl, ?_⟩
      (repeat' split) <;> omega
theorem tick_iter (x : La) (hi : Inv x true) (r : RO) (hr : Rel x true r) : ∀ k : Nat, Rel (tickX x true k) true (iterO r k) ∧ iterB r k = tickB x true k := by
  intro k
  have hi' := hi
  obtain ⟨s0, s1, a0, a1, hc⟩ := hi
  induction k with
  | zero =>
    have e1 : tickX x true ((0 : Nat) : Int) = x := by unfold tickX; rw [if_neg (by simp)]
    have e2 : tickB x true ((0 : Nat) : Int) = false := by unfold tickB; simp
    rw [e1, e2]
    exact ⟨hr, rfl⟩
  | succ k ih =>
    obtain ⟨⟨h1, h2, h3, h4, _⟩, h5⟩ := ih
    obtain ⟨h4, h6⟩ := h4 rfl
    obtain ⟨c1, c2⟩ := tick_closed x k hi' (by omega)
    obtain ⟨d1, d2⟩ := tick_closed x ((k + 1 : Nat) : Int) hi' (by omega)
    rw [c1] at h1 h2 h4 h6
    rw [c2] at h5
    rw [d1, d2]
    show Rel _ true (stepO (iterO r k)) ∧ (iterB r k || stepB (iterO r k)) = _
    rw [h5]
    simp only [num] at h1 h2 h4 h6
    have hcast : ((k + 1 : Nat) : Int) = (k : Int) + 1 := by omega
    rw [hcast]
    obtain ⟨p1, p2⟩ := step_int x k hi' (by omega)
    unfold stepB stepO
    rw [h6, h2]
    by_cases hcond : 1800 ≤ min1 (capA (x.a + k - tS x k * 1800)) ∧ x.s + tS x k < 1073741824
    · obtain ⟨q1, q2⟩ := p1 hcond
      rw [if_pos hcond, decide_eq_true hcond.1, decide_eq_true hcond.2, q2, q1]
      refine ⟨⟨h1, by simp only [num]; omega, rfl, fun _ => ⟨?_, rfl⟩, fun h => by simp at h⟩, ?_⟩
      · rw [h1, h4]; simp only [num, La.mk.injEq, true_and, and_true]; omega
      · have : 0 ≤ tS x k := by unfold tS; split <;> omega
        rw [decide_eq_true (by omega : 0 < tS x k + 1)]; simp
    · obtain ⟨q1, q2⟩ := p2 hcond
      rw [if_neg hcond, q2, q1]
      refine ⟨⟨h1, rfl, h3, fun _ => ⟨?_, rfl⟩, fun h => by simp at h⟩, ?_⟩
      · simp only; rw [h4]; rfl
      · have : (decide (1800 ≤ min1 (capA (x.a + k - tS x k * 1800))) && decide (x.s + tS x k < 1073741824)) = false := by
          rw [Bool.and_eq_false_iff]
          by_cases h : 1800 ≤ min1 (capA (x.a + k - tS x k * 1800))
          · right; rw [decide_eq_false_iff_not]; exact fun h' => hcond ⟨h, h'⟩
          · left; rw [decide_eq_false_iff_not]; exact h
        rw [this, Bool.or_false]


def RTPost (W w : World) (r : RO) (b : Bool) (e : Ending) (w' : World) : Prop := ∃ v, e = .returned (.tuple #[v, .bool b]) ∧ RoAt W v r ∧ Below w.heap.size w w'
/-- What the reference's Tick returns. -/
def rtickR (r : RO) (n : Int) : RO := if r.is = true then iterO r n.toNat else r
def rtickB (r : RO) (n : Int) : Bool := if r.is = true then iterB r n.toNat else false

end Go.Proofs.Ytfpoghhjpfkbaaa
