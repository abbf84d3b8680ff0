/-
  The texts Fl6, FlD, FlS, Fl4, Fl8, FlO, FlAw, one after the other.
-/
import Derived.Test.YtnfldccaeibcpaaQPConv3
import Derived.Test.YtnfldccaeibcpaaSame
import Derived.Deep.RegionLaw
namespace Go.Proofs.Ytnfldccaeibcpaa.Fd
set_option linter.unusedVariables false
open Go.RowKit Go.Maps Go.Sort

def dO (D : Db) (o : Int) : Option Hd := if 0 ≤ o ∧ o < 64 then D o.toNat else none
def ackB (D : Db) (a : La) : Bool := match dO D a.o with | some h => sameB h.x a | none => false
def ackD (D : Db) (a : La) : Db := if ackB D a = true then fun i => if i = a.o.toNat then none else D i else D
def AckPost (w : World) (g b : Nat) (iv : Int) (N : Fn) (f : Nat → Nat) (lk : Nat) (D : Db) (a : La) (e : Ending) (w' : World) : Prop :=
  e = .returned (.tuple #[.bool (ackB D a), .int .i64 0]) ∧ FlAt w' g b iv (setN N lk (ackD D a)) f ∧ w.grownBy w' (some (f lk))
set_option maxRecDepth 100000 in
set_option maxHeartbeats 6400000 in
theorem fack_any (w : World) (g b : Nat) (iv : Int) (N : Fn) (f : Nat → Nat) (h : FlAt w g b iv N f) (lk : Nat) (hl : lk < 256) (D : Db) (hD : N lk = some D) (v : Value) (a : La) (hv : LaAt w v a) (hwf : (Lit.int .i64 a.o).wf = true) :
    Calls Try.prog 13 #[.pointer (some ⟨g, 0, none⟩), .int .i64 (lk : Int), v] w (AckPost w g b iv N f lk D a) := by
  obtain ⟨A, c, B, d, rfl, hla⟩ := hv.opened
  clear hv
  have S := (St.start w).new' #[.int .i64 a.o, .int .i64 a.s, .int .i64 a.a, .bool a.ov, .slice A a.adj.length c, .slice B a.pre.length d] 45 w.heap.size _ rfl rfl
  have hs : (N lk).isSome = true := by rw [hD]; rfl
  obtain ⟨M, hm, he⟩ := h.el lk hl D hD
  have hek : ElAt w (M a.o) (dO D a.o) := by
    unfold dO
    by_cases ho : 0 ≤ a.o ∧ a.o < 64
    · rw [if_pos ho]
      have := he a.o.toNat (by omega)
      rwa [Int.toNat_of_nonneg ho.1] at this
    · rw [if_neg ho]
      cases hM : M a.o with
      | none => trivial
      | some z => exact absurd (hm.small (i := a.o) (by rw [hM]; rfl)) (by omega)
  have hwl : (Lit.int .i64 (lk : Int)).wf = true := wf64 (by omega) (by omega)
  have hfin : Hid (∀ w', Below w.heap.size w w' → ackB D a = false → AckPost w g b iv N f lk D a (.returned (.tuple #[.bool false, .int .i64 0])) w') := fun w' hb ho => by
    have e : setN N lk (ackD D a) = N := by
      unfold setN ackD
      rw [ho, if_neg (by simp)]
      funext j
      by_cases e : j = lk
      · subst e; rw [if_pos rfl, hD]
      · rw [if_neg e]
    refine ⟨by rw [ho], ?_, below_row hb _⟩
    rw [e]; exact h.below hb
  have hdel : Hid (∀ wa w', Below w.heap.size w wa → ackB D a = true → MapIs 64 w' (f lk) (fun j => if j = a.o then none else M j) → wa.grownBy w' (some (f lk)) → AckPost w g b iv N f lk D a (.returned (.tuple #[.bool true, .int .i64 0])) w') := fun wa w' hb ho hm' hg => by
    have hgr := (below_row hb (some (f lk))).trans hg
    have hq := (Kq.of_below hb).trans (Kq.of_map (hm.below hb) hg)
    have ho64 : 0 ≤ a.o ∧ a.o < 64 := by
      by_cases h9 : 0 ≤ a.o ∧ a.o < 64
      · exact h9
      · unfold ackB dO at ho
        rw [if_neg h9] at ho
        cases ho
    obtain ⟨k, hk⟩ := Int.eq_ofNat_of_zero_le ho64.1
    rw [hk] at hm'
    have hin := InAt.put hm he hq k (by omega) none none trivial hm'
    have e : setN N lk (ackD D a) = fun j => if j = lk then some (fun i => if i = k then none else D i) else N j := by
      unfold setN ackD
      rw [ho, if_pos rfl, hk, Int.toNat_natCast]
    refine ⟨by rw [ho], ?_, hgr⟩
    rw [e]
    exact h.turn hl hs hin hgr
  have hc1 := cell_later S.b h.c1
  have K1 := (h.nb.below S.b).run_ok nbT hwl
  rw [nbM_at hl, hD] at K1
  simp only [Option.map_some, Option.getD_some, Option.isSome_some] at K1
  have K2 := (hm.below S.b).run_ok pdT hwf
  have hu : ∃ u0 u1 u2 u3 A9 n9 c9 B9 m9 d9 u6, (M a.o).getD hdZ = .agg #[.int .i64 u0, .int .i64 u1, .int .i64 u2, .bool u3, .slice A9 n9 c9, .slice B9 m9 d9, .int .i64 u6] := by
    cases hM : M a.o with
    | none => exact ⟨_, _, _, _, _, _, _, _, _, _, _, rfl⟩
    | some vv =>
      rw [hM] at hek
      cases hN : dO D a.o with
      | none => rw [hN] at hek; exact hek.elim
      | some hh =>
        rw [hN] at hek
        obtain ⟨A9, c9, B9, d9, rfl, _⟩ := hek
        exact ⟨_, _, _, _, _, _, _, _, _, _, _, rfl⟩
  obtain ⟨u0, u1, u2, u3, A9, n9, c9, B9, m9, d9, u6, hu⟩ := hu
  rw [hu] at K2
  obtain ⟨ok, hok⟩ : ∃ z, (M a.o).isSome = z := ⟨_, rfl⟩
  rw [hok] at K2
  replace hu := Lib.hid hu
  replace hok := Lib.hid hok
  replace hm := Lib.hid hm
  have a0 := S.c 0 0 rfl rfl
  have a1 := S.c 0 1 rfl rfl
  have a2 := S.c 0 2 rfl rfl
  have a3 := S.c 0 3 rfl rfl
  have a4 := S.c 0 4 rfl rfl
  have a5 := S.c 0 5 rfl rfl
  clear h he
  go_enter Try.func13, Try.ntmps13
  go_upto_region 7 with fail
  clear a0 a1 a2 a3 a4 a5
  clear hc1 K1 K2
  have S2 := S.new' #[.int .i64 u0, .int .i64 u1, .int .i64 u2, .bool u3, .slice A9 n9 c9, .slice B9 m9 d9, .int .i64 u6] 76 (w.heap.size + 1) _ (by simp) rfl
  clear S
  generalize World.alloc (World.alloc w _) _ = w2 at *
  cases ok with
  | false =>
    have hno : ackB D a = false := by
      unfold ackB
      cases hN : dO D a.o with
      | none => rfl
      | some hh =>
        rw [hN] at hek
        cases hM : M a.o with
        | none => rw [hM] at hek; exact hek.elim
        | some z => have := hok.out; rw [hM] at this; cases this
    have hf := hfin.out _ S2.b hno
    replace hf := Lib.hid hf
    clear hfin hdel hno hek
    go_wp2_with fail
    go_ret2
    exact hf.out
  | true =>
    obtain ⟨hh, hNk, hu2, hlx⟩ : ∃ hh, dO D a.o = some hh ∧ (.agg #[.int .i64 u0, .int .i64 u1, .int .i64 u2, .bool u3, .slice A9 n9 c9, .slice B9 m9 d9, .int .i64 u6] : Value) = hdV hh.x A9 c9 B9 d9 hh.l ∧ LaAt w (laV hh.x.o hh.x.s hh.x.a hh.x.ov A9 hh.x.adj.length c9 B9 hh.x.pre.length d9) hh.x := by
      cases hM : M a.o with
      | none => have := hok.out; rw [hM] at this; cases this
      | some vv =>
        rw [hM] at hek
        cases hN : dO D a.o with
        | none => rw [hN] at hek; exact hek.elim
        | some hh =>
          rw [hN] at hek
          obtain ⟨A8, c8, B8, d8, rfl, hla⟩ := hek
          have hv := hu.out
          rw [hM] at hv
          simp only [Option.getD_some, Value.agg.injEq, Array.mk.injEq, List.cons.injEq, Value.slice.injEq, Value.int.injEq, Value.bool.injEq, true_and, and_true] at hv
          obtain ⟨rfl, rfl, rfl, rfl, ⟨rfl, rfl, rfl⟩, ⟨rfl, rfl, rfl⟩, rfl⟩ := hv
          exact ⟨hh, rfl, rfl, hla.1⟩
    simp only [Value.agg.injEq, Array.mk.injEq, List.cons.injEq, Value.slice.injEq, Value.int.injEq, Value.bool.injEq, true_and, and_true] at hu2
    obtain ⟨rfl, rfl, rfl, rfl, rfl, rfl, rfl⟩ := hu2
    have SM := lsame_any w2 _ _ hh.x a (hlx.below S2.b) (hla.below S2.b)
    have hoz : Hid (ackB D a = sameB hh.x a) := by show _ = _; unfold ackB; rw [hNk]
    generalize sameB hh.x a = z at *
    replace SM := Lib.hid SM
    clear hek hNk hla hlx
    have a0 := S2.c 1 0 rfl rfl
    have a1 := S2.c 1 1 rfl rfl
    have a2 := S2.c 1 2 rfl rfl
    have a3 := S2.c 1 3 rfl rfl
    have a4 := S2.c 1 4 rfl rfl
    have a5 := S2.c 1 5 rfl rfl
    have r0 := S2.c 0 0 rfl rfl
    have r1 := S2.c 0 1 rfl rfl
    have r2 := S2.c 0 2 rfl rfl
    have r3 := S2.c 0 3 rfl rfl
    have r4 := S2.c 0 4 rfl rfl
    have r5 := S2.c 0 5 rfl rfl
    go_wp2_with fail
    (with_reducible refine (SM.out).mono ?_)
    rintro e w3 ⟨rfl, hb⟩
    clear a0 a1 a2 a3 a4 a5
    clear r0 r1 r2 r3 r4 r5
    replace S2 := S2.call hb
    clear SM hb
    cases z with
    | false =>
      have hf := hfin.out _ S2.b hoz.out
      replace hf := Lib.hid hf
      clear hfin hdel hoz
      go_wp2_with fail
      go_ret2
      exact hf.out
    | true =>
      obtain ⟨w9, run9, hm9, hg9⟩ := (hm.out.below S2.b).run_del pdT 0 (i := a.o) hwf
      have hf := hdel.out _ _ S2.b hoz.out hm9 hg9
      replace hf := Lib.hid hf
      clear hfin hdel hoz hm9 hg9
      have a0 := S2.c 1 0 rfl rfl
      have a1 := S2.c 1 1 rfl rfl
      have a2 := S2.c 1 2 rfl rfl
      have a3 := S2.c 1 3 rfl rfl
      have a4 := S2.c 1 4 rfl rfl
      have a5 := S2.c 1 5 rfl rfl
      go_wp2_with fail
      go_ret2
      exact hf.out

end Go.Proofs.Ytnfldccaeibcpaa.Fd

namespace Go.Proofs.Ytnfldccaeibcpaa.Fd
set_option linter.unusedVariables false
open Go.RowKit Go.Maps Go.Sort Go.Shelf

/-- What is kept for a link of any number. -/
def lkO (N : Fn) (z : Int) : Option Db := if 0 ≤ z ∧ z < 256 then N z.toNat else none
theorem lkO_nat {N : Fn} {i : Nat} (hi : i < 256) : lkO N (i : Int) = N i := by
  unfold lkO; rw [if_pos ⟨by omega, by omega⟩, Int.toNat_natCast]
theorem nbM_none' {N : Fn} {f : Nat → Nat} {z : Int} (h : lkO N z = none) : nbM N f z = none := by
  unfold nbM
  unfold lkO at h
  split
  · next h2 => rw [if_pos h2] at h; rw [h]; rfl
  · rfl
theorem lkO_form {N : Fn} {z : Int} {D : Db} (h : lkO N z = some D) : ∃ i : Nat, z = (i : Int) ∧ i < 256 ∧ N i = some D := by
  unfold lkO at h
  split at h
  · next h2 => exact ⟨z.toNat, by omega, by omega, h⟩
  · cases h
section
variable {w w' : World} {g b : Nat} {iv : Int} {N : Fn} {f : Nat → Nat}
theorem FlAt.down (h : FlAt w g b iv N f) {i : Nat} (hi : i < 256) (hm : MapIs 256 w' b (fun j => if j = (i : Int) then none else nbM N f j)) (hg : w.grownBy w' (some b)) : FlAt w' g b iv (dropN N i) f := by
  have hq := Kq.of_map h.nb hg
  refine ⟨hq.cell h.c0, hq.cell h.c1, ?_, fun j hj D hD => ?_, fun j hj hs => ?_, fun j k hj hk hjs hks e => ?_⟩
  · have e : nbM (dropN N i) f = fun j => if j = (i : Int) then none else nbM N f j := by
      funext z
      unfold nbM dropN
      by_cases e : z = (i : Int)
      · subst e; simp
      · rw [if_neg e]
        split
        · next h2 => rw [if_neg (by omega)]
        · rfl
    rw [e]; exact hm
  · unfold dropN at hD
    split at hD
    · cases hD
    · exact (h.el j hj D hD).kept hq hg (h.ne j hj (by rw [hD]; rfl))
  · unfold dropN at hs
    split at hs
    · cases hs
    · exact h.ne j hj hs
  · unfold dropN at hjs hks
    split at hjs
    · cases hjs
    · split at hks
      · cases hks
      · exact h.inj j k hj hk hjs hks e
end
def DownPost (w : World) (g b : Nat) (iv : Int) (N' : Fn) (f : Nat → Nat) (e : Ending) (w' : World) : Prop := e = .returned (.int .i64 0) ∧ FlAt w' g b iv N' f ∧ w.grownBy w' (some b)
set_option maxRecDepth 100000 in
set_option maxHeartbeats 1600000 in
theorem foffer_no (w : World) (g b : Nat) (iv : Int) (N : Fn) (f : Nat → Nat) (h : FlAt w g b iv N f) (z : Int) (hz : (Lit.int .i64 z).wf = true) (hN : lkO N z = none) (v : Value) (a : La) (hv : LaAt w v a) :
    Calls Try.prog 22 #[.pointer (some ⟨g, 0, none⟩), .int .i64 z, v] w fun e w' => e = .returned (.int .i64 8) ∧ Below w.heap.size w w' := by
  obtain ⟨A, c, B, d, rfl, hla⟩ := hv.opened
  have S := (St.start w).new' #[.int .i64 a.o, .int .i64 a.s, .int .i64 a.a, .bool a.ov, .slice A a.adj.length c, .slice B a.pre.length d] 45 w.heap.size _ rfl rfl
  have hb9 := S.b
  have c1 := cell_later S.b h.c1
  have K1 := (h.nb.below S.b).run_ok nbT hz
  rw [nbM_none' hN] at K1
  simp only [Option.getD_none, Option.isSome_none] at K1
  clear h hN hla hv S
  go_enter Try.func22, Try.ntmps22
  go_wp2_with fail
  go_ret
  exact ⟨rfl, hb9⟩
def FofPost (w : World) (g b : Nat) (iv : Int) (N' : Fn) (f : Nat → Nat) (k : Nat) (er : Int) (e : Ending) (w' : World) : Prop := e = .returned (.int .i64 er) ∧ FlAt w' g b iv N' f ∧ w.grownBy w' (some k)
set_option maxRecDepth 100000 in
set_option maxHeartbeats 3200000 in
theorem foffer_bad (w : World) (g b : Nat) (iv : Int) (N : Fn) (f : Nat → Nat) (h : FlAt w g b iv N f) (i : Nat) (hi : i < 256) (D : Db) (hD : N i = some D) (v : Value) (a : La) (hv : LaAt w v a) (hva : ¬ LaValid a) :
    Calls Try.prog 22 #[.pointer (some ⟨g, 0, none⟩), .int .i64 (i : Int), v] w fun e w' => e = .returned (.int .i64 1) ∧ Below w.heap.size w w' := by
  obtain ⟨A, c, B, d, rfl, hla⟩ := hv.opened
  have S := (St.start w).new' #[.int .i64 a.o, .int .i64 a.s, .int .i64 a.a, .bool a.ov, .slice A a.adj.length c, .slice B a.pre.length d] 45 w.heap.size _ rfl rfl
  have c1 := cell_later S.b h.c1
  have hwf : (Lit.int .i64 (i : Int)).wf = true := wf64 (by omega) (by omega)
  have K1 := (h.nb.below S.b).run_ok nbT hwf
  rw [nbM_at hi, hD] at K1
  simp only [Option.map_some, Option.getD_some, Option.isSome_some] at K1
  have V := valid_at _ _ a (hla.below S.b)
  rw [vB_f hva] at V
  replace V := Lib.hid V
  clear h hla hv
  have q0 := S.c 0 0 rfl rfl
  have q1 := S.c 0 1 rfl rfl
  have q2 := S.c 0 2 rfl rfl
  have q3 := S.c 0 3 rfl rfl
  have q4 := S.c 0 4 rfl rfl
  have q5 := S.c 0 5 rfl rfl
  go_enter Try.func22, Try.ntmps22
  go_wp2_with fail
  (with_reducible refine (V.out).mono ?_)
  rintro e w1 ⟨rfl, hb⟩
  replace S := S.call hb
  have hb9 := S.b
  clear hb V S
  clear q0 q1 q2 q3 q4 q5
  go_wp2_with fail
  go_ret
  exact ⟨rfl, hb9⟩
set_option maxRecDepth 100000 in
set_option maxHeartbeats 3200000 in
theorem foffer_yes (w : World) (g b : Nat) (iv : Int) (N : Fn) (f : Nat → Nat) (h : FlAt w g b iv N f) (i : Nat) (hi : i < 256) (D : Db) (hD : N i = some D) (v : Value) (a : La) (hv : LaAt w v a) (hva : LaValid a) :
    Calls Try.prog 22 #[.pointer (some ⟨g, 0, none⟩), .int .i64 (i : Int), v] w (FofPost w g b iv (setN N i (offD D a)) f (f i) 0) := by
  obtain ⟨A, c, B, d, rfl, hla⟩ := hv.opened
  have S := (St.start w).new' #[.int .i64 a.o, .int .i64 a.s, .int .i64 a.a, .bool a.ov, .slice A a.adj.length c, .slice B a.pre.length d] 45 w.heap.size _ rfl rfl
  have c1 := cell_later S.b h.c1
  have hwf : (Lit.int .i64 (i : Int)).wf = true := wf64 (by omega) (by omega)
  have K1 := (h.nb.below S.b).run_ok nbT hwf
  rw [nbM_at hi, hD] at K1
  simp only [Option.map_some, Option.getD_some, Option.isSome_some] at K1
  have V := valid_at _ _ a (hla.below S.b)
  rw [vB_t hva] at V
  have OF := fun W (hb : Below w.heap.size w W) => foffer0_any W g b iv N f (h.below hb) i hi D hD _ a (hla.below hb) hva
  replace V := Lib.hid V
  replace OF := Lib.hid OF
  clear h hla hv
  have q0 := S.c 0 0 rfl rfl
  have q1 := S.c 0 1 rfl rfl
  have q2 := S.c 0 2 rfl rfl
  have q3 := S.c 0 3 rfl rfl
  have q4 := S.c 0 4 rfl rfl
  have q5 := S.c 0 5 rfl rfl
  go_enter Try.func22, Try.ntmps22
  go_wp2_with fail
  (with_reducible refine (V.out).mono ?_)
  rintro e w1 ⟨rfl, hb⟩
  clear q0 q1 q2 q3 q4 q5
  replace S := S.call hb
  clear hb V
  have q0 := S.c 0 0 rfl rfl
  have q1 := S.c 0 1 rfl rfl
  have q2 := S.c 0 2 rfl rfl
  have q3 := S.c 0 3 rfl rfl
  have q4 := S.c 0 4 rfl rfl
  have q5 := S.c 0 5 rfl rfl
  have hbs := S.b
  go_wp2_with fail
  (with_reducible refine (OF.out _ hbs).mono ?_)
  rintro e w2 ⟨rfl, hF, hg⟩
  clear q0 q1 q2 q3 q4 q5
  have hf : FofPost w g b iv (setN N i (offD D a)) f (f i) 0 (.returned (.int .i64 0)) w2 := ⟨rfl, hF, (below_row hbs _).trans hg⟩
  replace hf := Lib.hid hf
  clear hF hg S OF
  go_wp2_with fail
  go_ret
  exact hf.out
set_option maxRecDepth 100000 in
set_option maxHeartbeats 1600000 in
theorem fack_no (w : World) (g b : Nat) (iv : Int) (N : Fn) (f : Nat → Nat) (h : FlAt w g b iv N f) (z : Int) (hz : (Lit.int .i64 z).wf = true) (hN : lkO N z = none) (v : Value) (a : La) (hv : LaAt w v a) :
    Calls Try.prog 13 #[.pointer (some ⟨g, 0, none⟩), .int .i64 z, v] w fun e w' => e = .returned (.tuple #[.bool false, .int .i64 8]) ∧ Below w.heap.size w w' := by
  obtain ⟨A, c, B, d, rfl, hla⟩ := hv.opened
  have S := (St.start w).new' #[.int .i64 a.o, .int .i64 a.s, .int .i64 a.a, .bool a.ov, .slice A a.adj.length c, .slice B a.pre.length d] 45 w.heap.size _ rfl rfl
  have hb9 := S.b
  have c1 := cell_later S.b h.c1
  have K1 := (h.nb.below S.b).run_ok nbT hz
  rw [nbM_none' hN] at K1
  simp only [Option.getD_none, Option.isSome_none] at K1
  clear h hN hla hv S
  go_enter Try.func13, Try.ntmps13
  go_wp2_with fail
  go_ret2
  exact ⟨rfl, hb9⟩

/-! ### Pending of a link that is no neighbour -/
theorem sortedNil_any (w : World) :
    Calls Try.prog 29 #[.func (.func 45) #[] #[.pointer (some ⟨w.heap.size, 0, none⟩)]] (w.alloc (.cells #[.map none] 71)) fun e w' => e = .returned (.slice none 0 0) ∧ Below w.heap.size w w' := by
  have hseq := AnyZI.keys_gives_nil (ρ := Try.lkeysp_ren) { Try.lkeysp with } Fence.wide 2 trivial rfl w.heap.size (w.alloc (.cells #[.map none] 71)) (by simp) (by simp)
  have cS := AnyZI.sorted_in Try.lsorted Fence.wide 5 trivial trivial trivial trivial rfl (by omega) (sorts_in _) (enters_of Try.func44 (by kernel_rfl) rfl) 45 #[.pointer (some ⟨w.heap.size, 0, none⟩)] trivial (enters_of Try.func45 (by kernel_rfl) rfl) _ 0 (by unfold maxLen; omega) (by omega) _ hseq
  change CallsIn _ _ Try.prog 29 _ _ _ at cS
  refine ((callsIn_wide (n := 5)).1 cS).mono ?_
  rintro e w' ⟨v, ss, he, hp, hrow, hnil, hb⟩
  rw [hnil.2 hp] at he
  exact ⟨he, (below_new' w _).trans (hb.mono (by simp))⟩
end Go.Proofs.Ytnfldccaeibcpaa.Fd

namespace Go.Proofs.Ytnfldccaeibcpaa.Fd
set_option linter.unusedVariables false
open Go.RowKit Go.Maps Go.Sort

/-! ### A turn of each neighbour's, one after the other -/
def genK (F : Nat → Db → Db) (N : Fn) (k : Nat) : Fn := fun i => if (i : Int) ∈ (lks N).take k then (N i).map (F i) else N i
theorem genK_zero (F : Nat → Db → Db) (N : Fn) : genK F N 0 = N := by funext i; simp [genK]
theorem genK_end (F : Nat → Db → Db) (N : Fn) (i : Nat) (hi : i < 256) : genK F N (lks N).length i = (N i).map (F i) := by
  unfold genK
  rw [List.take_length]
  by_cases h : (i : Int) ∈ lks N
  · rw [if_pos h]
  · rw [if_neg h]
    cases hN : N i with
    | none => rfl
    | some D => exact absurd ((lks_mem (i : Int)).2 ⟨⟨by omega, by omega⟩, by rw [Int.toNat_natCast, hN]; rfl⟩) h
theorem genK_at (F : Nat → Db → Db) (N : Fn) (k : Nat) (hk : k < (lks N).length) (q : Nat) (hq : (lks N)[k] = (q : Int)) : genK F N k q = N q := by
  unfold genK
  rw [if_neg (by rw [← hq]; exact lks_not hk)]
theorem genK_succ (F : Nat → Db → Db) (N : Fn) (k : Nat) (hk : k < (lks N).length) (q : Nat) (hq : (lks N)[k] = (q : Int)) {D : Db} (hD : N q = some D) : genK F N (k + 1) = setN (genK F N k) q (F q D) := by
  funext i
  unfold genK setN
  rw [List.take_succ_eq_append_getElem hk, hq]
  by_cases e : i = q
  · subst e; simp [hD]
  · have e2 : (i : Int) ≠ (q : Int) := by omega
    simp [e, e2]
theorem genK_some (F : Nat → Db → Db) (N : Fn) (k i : Nat) : (genK F N k i).isSome = (N i).isSome := by
  unfold genK; split <;> simp
theorem FlAt.ext {w : World} {g b : Nat} {iv : Int} {N N' : Fn} {f : Nat → Nat} (h : FlAt w g b iv N f) (e : ∀ i, i < 256 → N' i = N i) : FlAt w g b iv N' f := by
  refine ⟨h.c0, h.c1, ?_, fun i hi D hD => h.el i hi D (by rw [← e i hi]; exact hD), fun i hi hs => h.ne i hi (by rw [← e i hi]; exact hs), fun i j hi hj hs hs' => h.inj i j hi hj (by rw [← e i hi]; exact hs) (by rw [← e j hj]; exact hs')⟩
  have e2 : nbM N' f = nbM N f := by
    funext z
    unfold nbM
    by_cases hz : 0 ≤ z ∧ z < 256
    · rw [if_pos hz, if_pos hz, e z.toNat (by omega)]
    · rw [if_neg hz, if_neg hz]
  rw [e2]; exact h.nb

noncomputable def rmB (D : Db) (a : La) : Bool := match D a.o.toNat with | some h => decide (newI h.x a ≤ 0) | none => false
noncomputable def rmD (D : Db) (a : La) : Db := if rmB D a = true then fun i => if i = a.o.toNat then none else D i else D
noncomputable def sprD (a : La) (ex : Int) (i : Nat) (D : Db) : Db := if ((i : Int) != ex) = true then offD D a else rmD D a
noncomputable def sprN (N : Fn) (a : La) (ex : Int) : Fn := fun i => (N i).map (sprD a ex i)
def SprPost (w : World) (g b : Nat) (iv : Int) (N : Fn) (f : Nat → Nat) (a : La) (ex : Int) (e : Ending) (w' : World) : Prop := e = .returned (.int .i64 0) ∧ FlAt w' g b iv (sprN N a ex) f ∧ Kf (FS N f) w w'

set_option maxRecDepth 100000 in
set_option maxHeartbeats 1600000 in
theorem fspread_bad (w : World) (g : Nat) (v : Value) (a : La) (hv : LaAt w v a) (hva : ¬ LaValid a) (ex : Int) :
    Calls Try.prog 19 #[.pointer (some ⟨g, 0, none⟩), v, .int .i64 ex] w fun e w' => e = .returned (.int .i64 1) ∧ Below w.heap.size w w' := by
  obtain ⟨A, c, B, d, rfl, hla⟩ := hv.opened
  have S := (St.start w).new' #[.int .i64 a.o, .int .i64 a.s, .int .i64 a.a, .bool a.ov, .slice A a.adj.length c, .slice B a.pre.length d] 45 w.heap.size _ rfl rfl
  have V := valid_at _ _ a (hla.below S.b)
  rw [vB_f hva] at V
  replace V := Lib.hid V
  clear hla hv
  have q0 := S.c 0 0 rfl rfl
  have q1 := S.c 0 1 rfl rfl
  have q2 := S.c 0 2 rfl rfl
  have q3 := S.c 0 3 rfl rfl
  have q4 := S.c 0 4 rfl rfl
  have q5 := S.c 0 5 rfl rfl
  go_enter Try.func19, Try.ntmps19
  go_wp2_with fail
  (with_reducible refine (V.out).mono ?_)
  rintro e w1 ⟨rfl, hb⟩
  replace S := S.call hb
  have hb9 := S.b
  clear hb V S
  clear q0 q1 q2 q3 q4 q5
  go_wp2_with fail
  go_ret
  exact ⟨rfl, hb9⟩

set_option maxRecDepth 100000 in
set_option maxHeartbeats 6400000 in
theorem fspread_any (w : World) (g b : Nat) (iv : Int) (N : Fn) (f : Nat → Nat) (h : FlAt w g b iv N f) (v : Value) (a : La) (hv : LaAt w v a) (hva : LaValid a) (ex : Int) :
    Calls Try.prog 19 #[.pointer (some ⟨g, 0, none⟩), v, .int .i64 ex] w (SprPost w g b iv N f a ex) := by
  obtain ⟨A, c, B, d, rfl, hla⟩ := hv.opened
  have S := (St.start w).new' #[.int .i64 a.o, .int .i64 a.s, .int .i64 a.a, .bool a.ov, .slice A a.adj.length c, .slice B a.pre.length d] 45 w.heap.size _ rfl rfl
  have V := valid_at _ _ a (hla.below S.b)
  rw [vB_t hva] at V
  have O := fun W (hb : Below w.heap.size w W) => flinks_any W g b iv N f (h.below hb)
  unfold IntsPost at O
  obtain ⟨len, hlen⟩ : ∃ z, (lks N).length = z := ⟨_, rfl⟩
  have hl256 : len ≤ 256 := by rw [← hlen]; exact lks_len N
  rw [hlen] at O
  replace V := Lib.hid V
  replace O := Lib.hid O
  have q0 := S.c 0 0 rfl rfl
  have q1 := S.c 0 1 rfl rfl
  have q2 := S.c 0 2 rfl rfl
  have q3 := S.c 0 3 rfl rfl
  have q4 := S.c 0 4 rfl rfl
  have q5 := S.c 0 5 rfl rfl
  go_enter Try.func19, Try.ntmps19
  go_wp2_with fail
  (with_reducible refine (V.out).mono ?_)
  rintro e w1 ⟨rfl, hb⟩
  clear q0 q1 q2 q3 q4 q5
  replace S := S.call hb
  clear hb V
  go_wp2_with fail
  (with_reducible refine (O.out _ S.b).mono ?_)
  rintro e w2 ⟨A1, c1, rfl, og, hb⟩
  replace S := S.call hb
  have hF := h.below S.b
  have hla2 := hla.below S.b
  have hrd : Rd w2 A1 ((lks N).map encZ) := own_slice og
  have hbx := S.box 0 rfl
  have hfin : Hid (∀ wr, FlAt wr g b iv (genK (sprD a ex) N len) f → Kf (FS N f) w2 wr → SprPost w g b iv N f a ex (.returned (.int .i64 0)) wr) := fun wr h1 h2 =>
    ⟨rfl, h1.ext fun i hi => by rw [← hlen, genK_end (sprD a ex) N i hi]; rfl, ((Kf.refl _ w).below S.b).trans h2⟩
  have hmid : Hid (FlAt w2 g b iv (genK (sprD a ex) N 0) f ∧ Kf (FS N f) w2 w2) := by
    show _ ∧ _
    rw [genK_zero]; exact ⟨hF, Kf.refl _ _⟩
  replace hF := Lib.hid hF
  replace hla2 := Lib.hid hla2
  replace hrd := Lib.hid hrd
  replace hbx := Lib.hid hbx
  replace hlen := Lib.hid hlen
  clear h hla hv og hb O S
  go_wp2_with fail
  go_loopw [19] (fun v19 wr => ∃ (k : Nat), v19 = .int .i64 k ∧ k ≤ len ∧ Hid (FlAt wr g b iv (genK (sprD a ex) N k) f ∧ Kf (FS N f) w2 wr)) (fun v19 _ => len - (intOf v19).toNat)
  case atStart => exact ⟨0, rfl, by omega, hmid⟩
  case round =>
    clear hmid
    obtain ⟨k, rfl, hk, hmid⟩ := hrel
    obtain ⟨hFl, hKf⟩ := hmid.out
    by_cases hkn : k < len
    · have hkl : k < (lks N).length := by rw [hlen.out]; exact hkn
      have hmem := (lks_mem (N := N) (lks N)[k]).1 (List.getElem_mem hkl)
      obtain ⟨q, hq⟩ := Int.eq_ofNat_of_zero_le hmem.1.1
      have hq256 : q < 256 := by have := hmem.1.2; omega
      have hqs : (N q).isSome = true := by have := hmem.2; rwa [hq, Int.toNat_natCast] at this
      obtain ⟨D, hD⟩ := Option.isSome_iff_exists.1 hqs
      have hat := genK_at (sprD a ex) N k hkl q hq
      have hsucc := genK_succ (sprD a ex) N k hkl q hq hD
      have hDk : genK (sprD a ex) N k q = some D := by rw [hat, hD]
      have hKq := hKf.kq hF.out.maps
      obtain ⟨bz, offz, rfl, hz⟩ := rd_at (hKq.rd hrd.out) (by simp only [List.length_map]; omega)
      have z0 := hz k _ (by rw [List.getElem?_map, List.getElem?_eq_getElem hkl]; rfl)
      rw [hq] at z0
      unfold encZ at z0
      have hB := hKq.box hbx.out
      have hla := hKq.la hla2.out
      have hrow : ∀ w', wr.grownBy w' (some (f q)) → Kf (FS N f) w2 w' := fun w' hg => hKf.row hg (.inl ⟨q, hq256, hqs, rfl⟩)
      replace hrow := Lib.hid hrow
      replace hsucc := Lib.hid hsucc
      replace hDk := Lib.hid hDk
      replace hq := Lib.hid hq
      clear hz hKq hmem hat
      have q0 := hB.c 0 rfl
      have q1 := hB.c 1 rfl
      have q2 := hB.c 2 rfl
      have q3 := hB.c 3 rfl
      have q4 := hB.c 4 rfl
      have q5 := hB.c 5 rfl
      cases hqe : ((q : Int) != ex) with
      | true =>
        have OF := Lib.hid (foffer0_any wr g b iv _ f hFl q hq256 D hDk.out _ a hla hva)
        have e9 : Hid (genK (sprD a ex) N (k + 1) = setN (genK (sprD a ex) N k) q (offD D a)) := show _ = _ by rw [hsucc.out]; unfold sprD; rw [if_pos hqe]
        clear hFl hKf hsucc
        go_wp2_with fail
        (with_reducible refine (OF.out).mono ?_)
        rintro e w3 ⟨rfl, hF3, hg⟩
        clear q0 q1 q2 q3 q4 q5 z0 OF
        have hm9 : Hid (FlAt w3 g b iv (genK (sprD a ex) N (k + 1)) f ∧ Kf (FS N f) w2 w3) := show _ ∧ _ by rw [e9.out]; exact ⟨hF3, hrow.out w3 hg⟩
        clear hF3 hg e9 hrow hB hla
        go_wp2_with fail
        go_round
        case rel => exact ⟨k + 1, by go_num, by omega, hm9⟩
        case measure => simp [intOf]; omega
      | false =>
        have ho := hva.1
        obtain ⟨kk, hkk⟩ := Int.eq_ofNat_of_zero_le ho.1
        obtain ⟨M, hm, he⟩ := hFl.el q hq256 D hDk.out
        have hek := he kk (by omega)
        have hwf : (Lit.int .i64 a.o).wf = true := wf64 ho.1 (by omega)
        have hwl : (Lit.int .i64 (q : Int)).wf = true := wf64 (by omega) (by omega)
        have hnb : (nbM (genK (sprD a ex) N k) f (q : Int)).getD (.map none) = .map (some (f q)) := by rw [nbM_at hq256, hDk.out]; rfl
        have hsame : Hid (rmB D a = false → ∀ w', Below wr.heap.size wr w' → FlAt w' g b iv (genK (sprD a ex) N (k + 1)) f ∧ Kf (FS N f) w2 w') := fun hr w' hb => by
          refine ⟨?_, hKf.below hb⟩
          rw [hsucc.out]
          have eD : sprD a ex q D = D := by unfold sprD rmD; rw [if_neg (by rw [hqe]; simp), hr, if_neg (by simp)]
          rw [eD]
          refine (hFl.below hb).ext fun i hi => ?_
          unfold setN
          by_cases e : i = q
          · subst e; rw [if_pos rfl, hDk.out]
          · rw [if_neg e]
        have hdel : Hid (rmB D a = true → ∀ wa w', Below wr.heap.size wr wa → MapIs 64 w' (f q) (fun j => if j = a.o then none else M j) → wa.grownBy w' (some (f q)) → FlAt w' g b iv (genK (sprD a ex) N (k + 1)) f ∧ Kf (FS N f) w2 w') := fun hr wa w' hb hm' hg => by
          have hgr := (below_row hb (some (f q))).trans hg
          have hq9 := (Kq.of_below hb).trans (Kq.of_map (hm.below hb) hg)
          rw [hkk] at hm'
          have hin := InAt.put hm he hq9 kk (by omega) none none trivial hm'
          refine ⟨?_, hrow.out w' hgr⟩
          rw [hsucc.out]
          have e9 : sprD a ex q D = fun i => if i = kk then none else D i := by
            unfold sprD rmD
            rw [if_neg (by rw [hqe]; simp), hr, if_pos rfl, hkk, Int.toNat_natCast]
          rw [e9]
          exact hFl.turn hq256 (by rw [hDk.out]; rfl) hin hgr
        have c1 := hFl.c1
        have hnbm := hFl.nb
        generalize hMv : (M a.o).getD hdZ = u at *
        generalize hMs : (M a.o).isSome = ok at *
        have hu : ∃ u0 u1 u2 u3 A9 n9 c9 B9 m9 d9 u6, u = .agg #[.int .i64 u0, .int .i64 u1, .int .i64 u2, .bool u3, .slice A9 n9 c9, .slice B9 m9 d9, .int .i64 u6] := by
          rw [← hMv]
          cases hM : M a.o with
          | none => exact ⟨_, _, _, _, _, _, _, _, _, _, _, rfl⟩
          | some vv =>
            rw [← hkk, hM] at hek
            cases hN : D kk with
            | none => rw [hN] at hek; exact hek.elim
            | some hh =>
              rw [hN] at hek
              obtain ⟨A9, c9, B9, d9, rfl, _⟩ := hek
              exact ⟨_, _, _, _, _, _, _, _, _, _, _, rfl⟩
        obtain ⟨u0, u1, u2, u3, A9, n9, c9, B9, m9, d9, u6, rfl⟩ := hu
        replace hMv := Lib.hid hMv
        replace hMs := Lib.hid hMs
        replace hkk := Lib.hid hkk
        clear hFl hKf hmid hsucc
        go_upto_region 10 with fail
        have b2 := below_new' wr (.cells #[.int .i64 0, .int .i64 0, .int .i64 0, .bool false, .slice none 0 0, .slice none 0 0, .int .i64 0] 76)
        have L1 := (hm.drew).run_ok pdT hwf
        have L2 := (hm.below b2).drew.run_ok pdT hwf
        have K1 := (hnbm.drew).run_at nbT hwl
        have K2 := (hnbm.below b2).drew.run_at nbT hwl
        rw [hnb] at K1 K2
        rw [hMv.out, hMs.out] at L1 L2
        have r1 : wr.drew.cell? ⟨g, 1, none⟩ = some (.map (some b)) := c1
        have r2 : (wr.alloc (.cells #[.int .i64 0, .int .i64 0, .int .i64 0, .bool false, .slice none 0 0, .slice none 0 0, .int .i64 0] 76)).drew.cell? ⟨g, 1, none⟩ = some (.map (some b)) := (by have := cell_later b2 c1; exact this)
        have t0 : wr.drew.cell? ⟨w.heap.size, 0, none⟩ = some (.int .i64 a.o) := q0
        have t1 : (wr.alloc (.cells #[.int .i64 0, .int .i64 0, .int .i64 0, .bool false, .slice none 0 0, .slice none 0 0, .int .i64 0] 76)).drew.cell? ⟨w.heap.size, 0, none⟩ = some (.int .i64 a.o) := (by have := cell_later b2 q0; exact this)
        have hnb' := Lib.hid hnb
        clear hnb q0 q1 q2 q3 q4 q5
        go_cut [9, 10] (fun v9 v10 wx => v9 = .pointer (some ⟨wr.heap.size, 0, none⟩) ∧ v10 = .bool ok ∧ wx = (wr.alloc (.cells #[.int .i64 u0, .int .i64 u1, .int .i64 u2, .bool u3, .slice A9 n9 c9, .slice B9 m9 d9, .int .i64 u6] 76)).drew)
        case first =>
          go_region_law (fail)
          all_goals
            go_wp2_with fail
            go_meet
            exact ⟨rfl, rfl, rfl⟩
        case rest =>
          obtain ⟨rfl, rfl, rfl⟩ := hcut
          clear L1 L2 K1 K2 r1 r2 t0 t1 b2
          have b3 := (below_new' wr (.cells #[.int .i64 u0, .int .i64 u1, .int .i64 u2, .bool u3, .slice A9 n9 c9, .slice B9 m9 d9, .int .i64 u6] 76)).drew
          have hx := (Box.new' wr #[.int .i64 u0, .int .i64 u1, .int .i64 u2, .bool u3, .slice A9 n9 c9, .slice B9 m9 d9, .int .i64 u6] 76 wr.heap.size _ rfl rfl).drew
          have hB4 := hB.later b3
          have hla4 := hla.below b3
          have hm4 := hm.below b3
          have hn4 := hnbm.below b3
          have c4 := cell_later b3 c1
          generalize (wr.alloc _).drew = w4 at *
          have b3' := b3
          generalize hxb : wr.heap.size = xb at *
          replace hxb := Lib.hid hxb
          rw [← hxb.out] at b3'
          have x0 := hx.c 0 rfl
          have x1 := hx.c 1 rfl
          have x2 := hx.c 2 rfl
          have x3 := hx.c 3 rfl
          have x4 := hx.c 4 rfl
          have x5 := hx.c 5 rfl
          have q0 := hB4.c 0 rfl
          have q1 := hB4.c 1 rfl
          have q2 := hB4.c 2 rfl
          have q3 := hB4.c 3 rfl
          have q4 := hB4.c 4 rfl
          have q5 := hB4.c 5 rfl
          cases ok with
          | false =>
            have hno : rmB D a = false := by
              have hMn : M a.o = none := by have := hMs.out; simpa using this
              rw [← hkk.out, hMn] at hek
              unfold rmB
              rw [hkk.out, Int.toNat_natCast]
              cases hN : D kk with
              | none => rfl
              | some hh => rw [hN] at hek; exact hek.elim
            have hm9 := Lib.hid (hsame.out hno w4 b3)
            clear hsame hdel hek hno hx hB4 hla4 hm4 hn4 c4
            go_wp2_with fail
            go_round
            case rel => exact ⟨k + 1, by go_num, by omega, hm9⟩
            case measure => simp [intOf]; omega
          | true =>
            obtain ⟨hh, hNk, hu, hlx⟩ : ∃ hh, D kk = some hh ∧ (.agg #[.int .i64 u0, .int .i64 u1, .int .i64 u2, .bool u3, .slice A9 n9 c9, .slice B9 m9 d9, .int .i64 u6] : Value) = hdV hh.x A9 c9 B9 d9 hh.l ∧ LaAt wr (laV hh.x.o hh.x.s hh.x.a hh.x.ov A9 hh.x.adj.length c9 B9 hh.x.pre.length d9) hh.x := by
              rw [hkk.out] at hMs hMv
              cases hM : M (kk : Int) with
              | none => have := hMs.out; rw [hM] at this; cases this
              | some vv =>
                rw [hM] at hek
                cases hN : D kk with
                | none => rw [hN] at hek; exact hek.elim
                | some hh =>
                  rw [hN] at hek
                  obtain ⟨A8, c8, B8, d8, rfl, hla⟩ := hek
                  have hv := hMv.out
                  rw [hM] at hv
                  simp only [Option.getD_some, Value.agg.injEq, Array.mk.injEq, List.cons.injEq, Value.slice.injEq, Value.int.injEq, Value.bool.injEq, true_and, and_true] at hv
                  obtain ⟨rfl, rfl, rfl, rfl, ⟨rfl, rfl, rfl⟩, ⟨rfl, rfl, rfl⟩, rfl⟩ := hv
                  exact ⟨hh, rfl, rfl, hla.1⟩
            simp only [Value.agg.injEq, Array.mk.injEq, List.cons.injEq, Value.slice.injEq, Value.int.injEq, Value.bool.injEq, true_and, and_true] at hu
            obtain ⟨rfl, rfl, rfl, rfl, rfl, rfl, rfl⟩ := hu
            have NW := lnewer_any w4 _ _ hh.x a (hlx.below b3') hla4
            have hoz : Hid (rmB D a = decide (newI hh.x a ≤ 0)) := by show _ = _; unfold rmB; rw [hkk.out, Int.toNat_natCast, hNk]
            generalize newI hh.x a = z at *
            replace NW := Lib.hid NW
            clear hek hNk hlx hx hla4 hMv hMs
            go_wp2_with fail
            (with_reducible refine (NW.out).mono ?_)
            rintro e w5 ⟨rfl, hb5⟩
            clear NW x0 x1 x2 x3 x4 x5 q0 q1 q2 q3 q4 q5
            have b5 := b3.trans (hb5.mono (by rw [← hxb.out]; exact b3'.size))
            rcases hz : decide (z ≤ 0) with _ | _
            · have hm9 := Lib.hid (hsame.out (by rw [hoz.out, hz]) w5 b5)
              clear hsame hdel hoz hB4 hm4 hn4 c4 hb5
              go_wp2_with fail
              go_round
              case rel => exact ⟨k + 1, by go_num, by omega, hm9⟩
              case measure => simp [intOf]; omega
            · have c5 := cell_later hb5 c4
              have q0 := (hB4.later hb5).c 0 rfl
              have K5 := ((hn4.below hb5).drew).run_at nbT hwl
              rw [hnb'.out] at K5
              obtain ⟨w9, run9, hm9, hg9⟩ := ((hm4.below hb5).drew).run_del pdT 0 (i := a.o) hwf
              have hmz := Lib.hid (hdel.out (by rw [hoz.out, hz]) _ _ b5.drew hm9 hg9)
              clear hsame hdel hoz hB4 hm4 hn4 c4 hb5 hm9 hg9
              go_upto_region 12 with fail
              have s1 : w5.drew.cell? ⟨g, 1, none⟩ = some (.map (some b)) := c5
              have s2 : w5.drew.cell? ⟨w.heap.size, 0, none⟩ = some (.int .i64 a.o) := q0
              go_region_law (fail)
              all_goals
                go_wp2_with fail
                go_round
                case rel => exact ⟨k + 1, by go_num, by omega, hmz⟩
                case measure => simp [intOf]; omega
    · obtain rfl : len = k := by omega
      have hf := hfin.out _ hFl hKf
      clear hFl hKf hmid
      go_wp2_with fail
      go_ret
      exact hf

end Go.Proofs.Ytnfldccaeibcpaa.Fd

namespace Go.Proofs.Ytnfldccaeibcpaa.Fd
set_option linter.unusedVariables false
open Go.RowKit Go.Maps Go.Sort

/-- What a list of offers makes. -/
noncomputable def offs (D : Db) (l : List La) : Db := l.foldl offD D
theorem offs_next (l : List Lx) (k : Nat) (hk : k < l.length) (D : Db) : offs D ((laL l).take (k + 1)) = offD (offs D ((laL l).take k)) l[k].y := by
  unfold offs
  rw [List.take_succ_eq_append_getElem (by simpa [laL] using hk), List.foldl_append, laL_get l k hk]
  rfl
/-- A new neighbour. -/
theorem FlAt.up {w w' : World} {g b : Nat} {iv : Int} {N : Fn} {f : Nat → Nat} (h : FlAt w g b iv N f) {i : Nat} (hi : i < 256) (hm' : MapIs 256 w' b (fun j => if j = (i : Int) then some (.map (some w.heap.size)) else nbM N f j))
    (hnew : MapIs 64 w' w.heap.size (fun _ => none)) (hq : Kq w w') (hkeep : ∀ j, j < 256 → (N j).isSome = true → ∀ D, N j = some D → InAt w' (f j) D) : FlAt w' g b iv (setN N i (fun _ => none)) (fun j => if j = i then w.heap.size else f j) := by
  have hlt := h.lt
  refine ⟨hq.cell h.c0, hq.cell h.c1, ?_, fun j hj D hD => ?_, fun j hj hs => ?_, fun j k hj hk hjs hks e => ?_⟩
  · have e : nbM (setN N i (fun _ => none)) (fun j => if j = i then w.heap.size else f j) = (fun j => if j = (i : Int) then some (.map (some w.heap.size)) else nbM N f j) := by
      funext z
      unfold nbM setN
      by_cases e : z = (i : Int)
      · subst e
        rw [if_pos ⟨by omega, by omega⟩]
        simp
      · simp only [if_neg e]
        by_cases hz : 0 ≤ z ∧ z < 256
        · have e2 : z.toNat ≠ i := by omega
          simp only [if_pos hz, if_neg e2]
        · simp only [if_neg hz]
    rw [e]; exact hm'
  · unfold setN at hD
    by_cases e : j = i
    · subst e
      simp only [if_true, Option.some.injEq] at hD
      subst hD
      simp only [if_true]
      exact ⟨_, hnew, fun o _ => trivial⟩
    · simp only [if_neg e] at hD ⊢
      exact hkeep j hj (by rw [hD]; rfl) D hD
  · unfold setN at hs
    by_cases e : j = i
    · simp only [if_pos e]; omega
    · simp only [if_neg e] at hs ⊢; exact h.ne j hj hs
  · unfold setN at hjs hks
    by_cases e1 : j = i
    · by_cases e2 : k = i
      · omega
      · simp only [if_pos e1, if_neg e2] at e hks
        have := h.flt hk hks
        omega
    · by_cases e2 : k = i
      · simp only [if_neg e1, if_pos e2] at e hjs
        have := h.flt hj hjs
        omega
      · simp only [if_neg e1, if_neg e2] at e hjs hks
        exact h.inj j k hj hk hjs hks e
def UpPost (w : World) (g b : Nat) (iv : Int) (N' : Fn) (f : Nat → Nat) (i : Nat) (e : Ending) (w' : World) : Prop := e = .returned (.int .i64 0) ∧ ∃ k, w.heap.size ≤ k ∧ FlAt w' g b iv N' (fun j => if j = i then k else f j) ∧ w.grownBy w' (some b)

set_option maxRecDepth 100000 in
set_option maxHeartbeats 6400000 in
theorem fup_any (w : World) (g b : Nat) (iv : Int) (N : Fn) (f : Nat → Nat) (h : FlAt w g b iv N f) (i : Nat) (hi : i < 256) (A : Option Addr) (n c : Nat) (l : List Lx) (hA : Rd w A (lxV l)) (hn : l.length = n) (hm : n ≤ 1000000) (hok : ∀ s ∈ l, LxOk w s ∧ LaValid s.y) :
    Calls Try.prog 11 #[.pointer (some ⟨g, 0, none⟩), .int .i64 (i : Int), .slice A n c] w (UpPost w g b iv (setN N i (offs (fun _ => none) (laL l))) f i) := by
  have S := (St.start w).read hA
  have hnb := h.nb
  have hc1 := h.c1
  have hgb := h.lt
  have hwi : (Lit.int .i64 (i : Int)).wf = true := wf64 (by omega) (by omega)
  have hi9 : (i : Int) < 256 := by omega
  replace hn := Lib.hid hn
  replace hok := Lib.hid hok
  clear hA
  have hmk := @run_makeMap Try.prog
  go_enter Try.func11, Try.ntmps11
  go_wp2_with fail
  go_loopw [21] (fun v21 wr => ∃ (k : Nat), v21 = .int .i64 k ∧ k ≤ n ∧ St w wr [] [(A, lxV l)]) (fun v21 _ => n - (intOf v21).toNat)
  case atStart => exact ⟨0, rfl, by omega, S⟩
  case round =>
    clear S
    obtain ⟨k, rfl, hk, S⟩ := hrel
    by_cases hkn : k < n
    · have hkl : k < l.length := by rw [hn.out]; exact hkn
      obtain ⟨ba, off, rfl⟩ := lx_form (S.r 0 rfl) (by omega)
      obtain ⟨hso, hva⟩ := hok.out l[k] (List.getElem_mem hkl)
      obtain ⟨s, hs⟩ : ∃ s, l[k] = s := ⟨_, rfl⟩
      rw [hs] at hso hva
      have hcell := fun W (h : Rd W (some ⟨ba, off, none⟩) (lxV l)) => lx_cells h k hkl s hs
      clear hs hkl
      obtain ⟨y, A2, c2, B2, d2⟩ := s
      unfold LxOk at hso
      simp only at hso hcell hva
      obtain ⟨x0, x1, x2, x3, x4, x5⟩ := hcell _ (S.r 0 rfl)
      have V := fun W hb => valid_at W _ y (hso.below hb)
      rw [vB_t hva] at V
      replace V := Lib.hid V
      clear hcell hso
      go_upto_region 8 with fail
      replace S := S.new' #[.int .i64 y.o, .int .i64 y.s, .int .i64 y.a, .bool y.ov, .slice A2 y.adj.length c2, .slice B2 y.pre.length d2] 45 wr.heap.size _ rfl rfl
      clear x0 x1 x2 x3 x4 x5
      generalize World.alloc wr _ = w4 at *
      generalize wr.heap.size = g4 at *
      have r0 := S.c 0 0 rfl rfl
      have r1 := S.c 0 1 rfl rfl
      have r2 := S.c 0 2 rfl rfl
      have r3 := S.c 0 3 rfl rfl
      have r4 := S.c 0 4 rfl rfl
      have r5 := S.c 0 5 rfl rfl
      go_wp2_with fail
      (with_reducible refine (V.out _ S.b).mono ?_)
      rintro e w5 ⟨rfl, hb⟩
      clear r0 r1 r2 r3 r4 r5
      replace S := (S.call hb).keepBoxes [] (by simp)
      clear hb V
      go_wp2_with fail
      go_round
      case rel => exact ⟨k + 1, by go_num, by omega, S⟩
      case measure => simp [intOf]; omega
    · obtain rfl : k = n := by omega
      have hc2 := cell_later S.b hc1
      have eqn := fun W => (show (binOp .eql 72 (.map (some b)) (.map none)).run Try.prog W = .ok (.bool false) W by kernel_rfl)
      have hnb2 := hnb.below S.b
      have hFl := h.below S.b
      have hb0 := Lib.hid S.b
      have hsz := S.b.size
      -- the new map
      have hba := below_new' wr (.map #[] 0)
      obtain ⟨w9, run9, hm9, hg9⟩ := (hnb2.below hba).run_put nbT (by omega) (i := (i : Int)) (by omega) hi9 (.map (some wr.heap.size))
      have hq9 := (Kq.of_below hba).trans (Kq.of_map (hnb2.below hba) hg9)
      have hFl9 : FlAt w9 g b iv (setN N i (fun _ => none)) (fun j => if j = i then wr.heap.size else f j) := hFl.up hi hm9 ((MapIs.made 64 wr).kept hg9 (fun e => by injection e with e; have := hFl.lt; omega)) hq9 (fun j hj hs D hD => ((hFl.below hba).el j hj D hD).kept (Kq.of_map (hnb2.below hba) hg9) hg9 (h.ne j hj hs))
      have hg0 : w.grownBy w9 (some b) := (below_row hb0.out (some b)).andThen ((below_row hba (some b)).trans hg9) (fun j e => .inr e)
      have hq0 : Kq w w9 := (Kq.of_below hb0.out).trans hq9
      have hkb : w.heap.size ≤ wr.heap.size := hsz
      have e0 : offs (fun _ => none) ((laL l).take 0) = fun _ => none := rfl
      rw [← e0] at hFl9
      clear e0 hm9 hg9 hq9 hba hFl hnb2 hb0 hsz hnb
      obtain ⟨kb, hkbe⟩ : ∃ z, wr.heap.size = z := ⟨_, rfl⟩
      rw [hkbe] at hFl9 hkb
      have hrd0 : Hid (Rd w A (lxV l)) := S.rd 0 _ rfl
      replace hFl9 := Lib.hid hFl9
      replace hg0 := Lib.hid hg0
      replace hq0 := Lib.hid hq0
      replace hkbe := Lib.hid hkbe
      clear S
      go_wp2_with fail
      go_loopw [46] (fun v46 wr => ∃ (q : Nat), v46 = .int .i64 q ∧ q ≤ k ∧ Hid (FlAt wr g b iv (setN N i (offs (fun _ => none) ((laL l).take q))) (fun j => if j = i then kb else f j)) ∧ Hid (w.grownBy wr (some b)) ∧ Hid (Kq w wr)) (fun v46 _ => k - (intOf v46).toNat)
      case atStart => exact ⟨0, rfl, by omega, hFl9, hg0, hq0⟩
      case round =>
        clear hFl9 hg0 hq0 run9
        obtain ⟨q, rfl, hq, hFl, hg, hKq⟩ := hrel
        by_cases hqn : q < k
        · have hql : q < l.length := by rw [hn.out]; exact hqn
          have hrd := hKq.out.rd hrd0.out
          obtain ⟨ba, off, rfl⟩ := lx_form hrd (by omega)
          obtain ⟨hso, hva⟩ := hok.out l[q] (List.getElem_mem hql)
          have hnx := offs_next l q hql (fun _ => none)
          obtain ⟨s, hs⟩ : ∃ s, l[q] = s := ⟨_, rfl⟩
          rw [hs] at hso hva hnx
          obtain ⟨x0, x1, x2, x3, x4, x5⟩ := lx_cells hrd q hql s hs
          clear hs hql hrd
          obtain ⟨y, A2, c2, B2, d2⟩ := s
          unfold LxOk at hso
          simp only at hso x0 x1 x2 x3 x4 x5 hva hnx
          have hbn := below_new' wr (.cells #[.int .i64 y.o, .int .i64 y.s, .int .i64 y.a, .bool y.ov, .slice A2 y.adj.length c2, .slice B2 y.pre.length d2] 45)
          have hbx := Box.new' wr #[.int .i64 y.o, .int .i64 y.s, .int .i64 y.a, .bool y.ov, .slice A2 y.adj.length c2, .slice B2 y.pre.length d2] 45 wr.heap.size _ rfl rfl
          have OF := foffer0_any _ g b iv _ _ (hFl.out.below hbn) i hi (offs (fun _ => none) ((laL l).take q)) (by unfold setN; rw [if_pos rfl]) _ y ((hKq.out.la hso).below hbn) hva
          unfold OfferPost at OF
          have hKq2 := hKq.out.trans (Kq.of_below hbn)
          have hg2 := hg.out.andThen (below_row hbn none) (fun j e => by cases e)
          replace OF := Lib.hid OF
          replace hnx := Lib.hid hnx
          have hin : ∃ M, MapIs 64 (wr.alloc (.cells #[.int .i64 y.o, .int .i64 y.s, .int .i64 y.a, .bool y.ov, .slice A2 y.adj.length c2, .slice B2 y.pre.length d2] 45)) kb M := by
            obtain ⟨M, hm, _⟩ := (hFl.out.below hbn).el i hi (offs (fun _ => none) ((laL l).take q)) (by unfold setN; rw [if_pos rfl])
            simp only [if_true] at hm
            exact ⟨M, hm⟩
          replace hin := Lib.hid hin
          clear hso hFl hKq hg hbn
          go_upto_region 17 with fail
          generalize World.alloc wr _ = w4 at *
          generalize wr.heap.size = g4 at *
          have r0 := hbx.c 0 rfl
          have r1 := hbx.c 1 rfl
          have r2 := hbx.c 2 rfl
          have r3 := hbx.c 3 rfl
          have r4 := hbx.c 4 rfl
          have r5 := hbx.c 5 rfl
          clear x0 x1 x2 x3 x4 x5 hbx
          go_wp2_with fail
          (with_reducible refine (OF.out).mono ?_)
          rintro e w5 ⟨rfl, hFl5, hg5⟩
          clear r0 r1 r2 r3 r4 r5
          simp only [if_true] at hg5
          have hFl6 : Hid (FlAt w5 g b iv (setN N i (offs (fun _ => none) ((laL l).take (q + 1)))) (fun j => if j = i then kb else f j)) := by
            rw [hnx.out]
            have e : setN (setN N i (offs (fun _ => none) ((laL l).take q))) i (offD (offs (fun _ => none) ((laL l).take q)) y) = setN N i (offD (offs (fun _ => none) ((laL l).take q)) y) := by
              funext j; unfold setN; split <;> rfl
            rw [e] at hFl5
            exact hFl5
          have hg6 : Hid (w.grownBy w5 (some b)) := hg2.andThen hg5 (fun j e => by injection e with e; exact .inl (by omega))
          obtain ⟨M, hmM⟩ := hin.out
          have hKq6 : Hid (Kq w w5) := hKq2.trans (Kq.of_map hmM hg5)
          clear hFl5 hg5 hg2 hKq2 OF hnx hmM hin
          go_wp2_with fail
          go_round
          case rel => exact ⟨q + 1, by go_num, by omega, hFl6, hg6, hKq6⟩
          case measure => simp [intOf]; omega
        · obtain rfl : q = k := by omega
          have hf : Hid (UpPost w g b iv (setN N i (offs (fun _ => none) (laL l))) f i (.returned (.int .i64 0)) wr) := by
            have e : (laL l).take q = laL l := List.take_of_length_le (by rw [List.length_map, hn.out]; omega)
            have hF := hFl.out
            rw [e] at hF
            exact ⟨rfl, kb, hkb, hF, hg.out⟩
          clear hFl hg hKq
          go_wp2_with fail
          go_ret
          exact hf.out

end Go.Proofs.Ytnfldccaeibcpaa.Fd

namespace Go.Proofs.Ytnfldccaeibcpaa.Fd
set_option linter.unusedVariables false
open Go.RowKit Go.Maps Go.Sort

def PollPost (w : World) (g b : Nat) (iv : Int) (N : Fn) (f : Nat → Nat) (e : Ending) (w' : World) : Prop :=
  ∃ A c ls, e = .returned (.slice A ls.length c) ∧ w'.ownsRow w.heap.size 60 7 (.slice A ls.length c) ls.length (sdV ls) ∧ sdP ls = sndK N (lks N) ∧ (∀ s ∈ ls, LxOwn w' w.heap.size s.x) ∧ FlAt w' g b iv (polN iv N) f ∧ Kf (FS N f) w w'

set_option maxRecDepth 100000 in
set_option maxHeartbeats 12800000 in
theorem fpoll_any (w : World) (g b : Nat) (iv : Int) (N : Fn) (f : Nat → Nat) (h : FlAt w g b iv N f) (hok : FnOk N) :
    Calls Try.prog 12 #[.pointer (some ⟨g, 0, none⟩)] w (PollPost w g b iv N f) := by
  have O := flinks_any w g b iv N f h
  unfold IntsPost at O
  obtain ⟨len, hlen⟩ : ∃ z, (lks N).length = z := ⟨_, rfl⟩
  have hl256 : len ≤ 256 := by rw [← hlen]; exact lks_len N
  rw [hlen] at O
  replace O := Lib.hid O
  go_enter Try.func12, Try.ntmps12
  go_wp2_with fail
  (with_reducible refine (O.out).mono ?_)
  rintro e w1 ⟨A, c, rfl, og, hb⟩
  clear O
  have hF := h.below hb
  have hsz1 := hb.size
  have hfin : Hid (∀ wr AS cS ls, FlMid w1 wr g b N f (polK iv N len) → wr.ownsRow w1.heap.size 60 7 (.slice AS ls.length cS) ls.length (sdV ls) → sdP ls = sndK N (lks N) → (∀ s ∈ ls, LxOwn wr w1.heap.size s.x) → PollPost w g b iv N f (.returned (.slice AS ls.length cS)) wr) := fun wr AS cS ls hm ho hp hx => by
    have h1 := hm.fin hF (fun i _ => polK_some iv N len i)
    refine ⟨AS, cS, ls, rfl, own_mono ho hsz1, hp, fun s hs => LaOwn.monoF (hx s hs) hsz1, ?_, ((Kf.refl _ w).below hb).trans hm.kf⟩
    refine ⟨h1.c0, h1.c1, ?_, fun i hi D hD => h1.el i hi D (by rw [← hlen, polK_end iv N i hi]; exact hD), fun i hi hs => hF.ne i hi (by simpa [polN] using hs), fun i j hi hj hs hs' => hF.inj i j hi hj (by simpa [polN] using hs) (by simpa [polN] using hs')⟩
    have e : nbM (polN iv N) f = nbM (polK iv N len) f := by
      funext z
      unfold nbM
      by_cases hz : 0 ≤ z ∧ z < 256
      · rw [if_pos hz, if_pos hz, ← hlen, polK_end iv N z.toNat (by omega)]
      · rw [if_neg hz, if_neg hz]
    rw [e]; exact h1.nb
  have hmid : Hid (FlMid w1 w1 g b N f (polK iv N 0)) := by rw [polK_zero]; exact hF.mid
  have hpo : Hid (PoA w.heap.size w1.heap.size w1 A len c (lks N) none 0 0 [] (.slice none 0 0) []) := ⟨by rw [hlen] at *; exact og, World.ownsRow_nil _ _ _ _, World.ownsRow_nil _ _ _ _, by simp⟩
  have hsp : Hid (sdP [] = sndK N ((lks N).take 0)) := rfl
  replace hF := Lib.hid hF
  replace hok := Lib.hid hok
  replace hlen := Lib.hid hlen
  clear h og hb
  go_wp2_with fail
  go_loopw [3, 13] (fun v3 v13 wr => ∃ (k : Nat) (AS : Option Addr) (cS : Nat) (ls : List Sd), v13 = .int .i64 k ∧ v3 = .slice AS ls.length cS ∧ k ≤ len ∧ ls.length ≤ 64 * k ∧ Hid (FlMid w1 wr g b N f (polK iv N k)) ∧ Hid (PoA w.heap.size w1.heap.size wr A len c (lks N) none 0 0 [] (.slice AS ls.length cS) ls) ∧ Hid (sdP ls = sndK N ((lks N).take k))) (fun _ v13 _ => len - (intOf v13).toNat)
  case atStart => exact ⟨0, none, 0, [], rfl, rfl, by omega, by simp, hmid, hpo, hsp⟩
  case round =>
    clear hmid hpo hsp
    obtain ⟨k, AS, cS, ls, rfl, rfl, hk, hls, hmid, hpo, hsp⟩ := hrel
    by_cases hkn : k < len
    · have hkl : k < (lks N).length := by rw [hlen.out]; exact hkn
      have hmem := (lks_mem (N := N) (lks N)[k]).1 (List.getElem_mem hkl)
      obtain ⟨q, hq⟩ := Int.eq_ofNat_of_zero_le hmem.1.1
      have hq256 : q < 256 := by have := hmem.1.2; omega
      have hqs : (N q).isSome = true := by have := hmem.2; rwa [hq, Int.toNat_natCast] at this
      obtain ⟨D, hD⟩ := Option.isSome_iff_exists.1 hqs
      have hat := polK_at iv N k hkl q hq
      have hsucc := polK_succ iv N k hkl q hq hD
      have hssc := sndK_succ N k hkl q hq hD
      obtain ⟨M, hm, he⟩ := hmid.out.el q hq256 D (by rw [hat, hD])
      have hko := keysL_orgs he
      have hrd2 : Rd wr A ((lks N).map encZ) := own_slice hpo.out.o1
      obtain ⟨bz, offz, rfl, hz⟩ := rd_at hrd2 (by simp only [List.length_map]; omega)
      have z0 := hz k _ (by rw [List.getElem?_map, List.getElem?_eq_getElem hkl]; rfl)
      rw [hq] at z0
      unfold encZ at z0
      have x1 := hmid.out.c1
      have hwq : (Lit.int .i64 (q : Int)).wf = true := wf64 (by omega) (by omega)
      have K1 := hmid.out.nb.run_at nbT hwq
      rw [nbM_at hq256, hD] at K1
      simp only [Option.map_some, Option.getD_some] at K1
      have SO := sortedP_any wr (f q) 64 M hm (by omega)
      unfold SortedPost at SO
      rw [hko] at SO
      obtain ⟨no, hno⟩ : ∃ z, (orgs D).length = z := ⟨_, rfl⟩
      have hno64 : no ≤ 64 := by rw [← hno]; exact orgs_len D
      rw [hno] at SO
      replace SO := Lib.hid SO
      replace hsucc := Lib.hid hsucc
      replace hssc := Lib.hid hssc
      replace hq := Lib.hid hq
      replace hno := Lib.hid hno
      have hkl' := Lib.hid hkl
      clear hz hrd2 hmem hat hm he hko
      go_wp2_with fail
      (with_reducible refine (keysP_any _ _).mono ?_)
      rintro e w4 ⟨rfl, rfl⟩
      go_wp2_with fail
      (with_reducible refine SO.out.mono ?_)
      rintro e w5 ⟨A2, c2, rfl, og2, hb5⟩
      clear SO K1 x1 z0
      have hb4 := (below_new' wr (.cells #[.map (some (f q))] 71)).trans (hb5.mono (by simp))
      have hmid5 : Hid (FlMid w1 w5 g b N f (setN (polK iv N k) q (polJ iv D 0))) := by
        have h1 := hmid.out.below hb4
        have e : setN (polK iv N k) q (polJ iv D 0) = polK iv N k := by
          rw [polJ_zero]
          funext j
          unfold setN
          by_cases e : j = q
          · subst e; rw [if_pos rfl, polK_at iv N k hkl j hq.out, hD]
          · rw [if_neg e]
        rw [e]; exact h1
      have hszw : w1.heap.size ≤ wr.heap.size := hmid.out.kf.size
      have hpo5 : Hid (PoA w.heap.size w1.heap.size w5 (some ⟨bz, offz, none⟩) len c (lks N) A2 no c2 (orgs D) (.slice AS ls.length cS) ls) := by
        have h1 := hpo.out.below hb4
        exact ⟨h1.o1, own_mono og2 (by simp; omega), h1.os, h1.ok⟩
      have hsp5 : Hid (sdP ls = sndK N ((lks N).take k) ++ sndJ (q : Int) D ((orgs D).take 0)) := by
        show _ = _
        rw [hsp.out]; simp [sndJ]
      clear hmid hpo hsp og2 hb5 hb4
      go_wp2_with fail
      go_loopw [3, 27] (fun v3 v27 wx => ∃ (j : Nat) (AS : Option Addr) (cS : Nat) (ls : List Sd), v27 = .int .i64 j ∧ v3 = .slice AS ls.length cS ∧ j ≤ no ∧ ls.length ≤ 64 * k + j ∧ Hid (FlMid w1 wx g b N f (setN (polK iv N k) q (polJ iv D j))) ∧ Hid (PoA w.heap.size w1.heap.size wx (some ⟨bz, offz, none⟩) len c (lks N) A2 no c2 (orgs D) (.slice AS ls.length cS) ls) ∧ Hid (sdP ls = sndK N ((lks N).take k) ++ sndJ (q : Int) D ((orgs D).take j))) (fun _ v27 _ => no - (intOf v27).toNat)
      case atStart => exact ⟨0, AS, cS, ls, rfl, rfl, by omega, by omega, hmid5, hpo5, hsp5⟩
      case round =>
        clear hmid5 hpo5 hsp5
        obtain ⟨j, AS, cS, ls, rfl, rfl, hj, hls, hmid, hpo, hsp⟩ := hrel
        by_cases hjn : j < no
        · have hjl : j < (orgs D).length := by rw [hno.out]; exact hjn
          have hmem := (orgs_mem (D := D) (orgs D)[j]).1 (List.getElem_mem hjl)
          obtain ⟨o, ho⟩ := Int.eq_ofNat_of_zero_le hmem.1.1
          have ho64 : o < 64 := by have := hmem.1.2; omega
          obtain ⟨hh, hDo⟩ : ∃ hh, D o = some hh := by
            have := hmem.2
            rw [ho, Int.toNat_natCast] at this
            exact Option.isSome_iff_exists.1 this
          have hst : Hid (∀ i, i < 256 → (setN (polK iv N k) q (polJ iv D j) i).isSome = true → (N i).isSome = true) := fun i hi hs => by
            unfold setN at hs
            split at hs
            · next e => rw [e]; exact hqs
            · rwa [polK_some] at hs
          obtain ⟨M, hm, he⟩ := hmid.out.el q hq256 (polJ iv D j) (by unfold setN; rw [if_pos rfl])
          have hel := he o ho64
          rw [polJ_at iv D j hjl o ho, hDo] at hel
          obtain ⟨Mv, hMv⟩ : ∃ Mv, M (o : Int) = Mv := ⟨_, rfl⟩
          rw [hMv] at hel
          cases Mv with
          | none => exact hel.elim
          | some vv =>
          obtain ⟨A5, c5, B5, d5, rfl, hla⟩ := hel
          have hwo : (Lit.int .i64 (o : Int)).wf = true := wf64 (by omega) (by omega)
          have K2 := hm.run_at pdT hwo
          rw [hMv] at K2
          simp only [Option.getD_some] at K2
          have hrd2 : Rd wr A2 ((orgs D).map encZ) := own_slice hpo.out.o2
          obtain ⟨by2, offy, rfl, hz⟩ := rd_at hrd2 (by simp only [List.length_map]; omega)
          have z0 := hz j _ (by rw [List.getElem?_map, List.getElem?_eq_getElem hjl]; rfl)
          rw [ho] at z0
          unfold encZ at z0
          have hb5 := hok.out q D o hh hD hDo
          have hKq := hmid.out.kf.kq hF.out.maps
          have hla2 := hKq.la hla.1
          replace hla := Lib.hid hla
          replace hb5 := Lib.hid hb5
          unfold hdV at K2
          replace hm := Lib.hid hm
          replace he := Lib.hid he
          replace hMv := Lib.hid hMv
          have hjl' := Lib.hid hjl
          replace ho := Lib.hid ho
          clear hz hrd2 hmem hKq
          by_cases hll : 0 < hh.l
          · have hs1 : Hid (setN (polK iv N k) q (polJ iv D (j + 1)) = setN (polK iv N k) q (polJ iv D j)) := by
              show _ = _
              rw [polJ_same iv D j hjl o ho.out hDo hll]
            have hs2 := sndJ_no (q : Int) D j hjl o ho.out hDo hll
            rw [← hs1.out] at hmid
            rw [← hs2] at hsp
            have hbn := below_new' wr (.cells #[.int .i64 hh.x.o, .int .i64 hh.x.s, .int .i64 hh.x.a, .bool hh.x.ov, .slice A5 hh.x.adj.length c5, .slice B5 hh.x.pre.length d5, .int .i64 hh.l] 76)
            have hbx := Box.new' wr #[.int .i64 hh.x.o, .int .i64 hh.x.s, .int .i64 hh.x.a, .bool hh.x.ov, .slice A5 hh.x.adj.length c5, .slice B5 hh.x.pre.length d5, .int .i64 hh.l] 76 wr.heap.size _ rfl rfl
            replace hmid := Lib.hid (hmid.out.below hbn)
            replace hpo := Lib.hid (hpo.out.below hbn)
            clear hs1 hs2 hm he hla2 hbn
            go_upto_region 10 with fail
            clear K2 z0
            generalize World.alloc wr _ = w6 at *
            generalize wr.heap.size = g6 at *
            have a6 := hbx.c 6 rfl
            clear hbx
            go_wp2_with fail
            go_round
            case rel => exact ⟨j + 1, AS, cS, ls, by go_num, rfl, by omega, by omega, hmid, hpo, hsp⟩
            case measure => simp [intOf]; omega
          · have hs2 := sndJ_yes (q : Int) D j hjl o ho.out hDo hll
            have hpj := polJ_succ iv D j hjl o ho.out hDo
            have hadj := hb5.out.1.2.2.2.1
            have hpre := hb5.out.1.2.2.2.2.1
            have C := fun W hb => fclone_any W _ hh.x (hla2.below hb) (by omega) (by omega)
            replace C := Lib.hid C
            have hbn := below_new' wr (.cells #[.int .i64 hh.x.o, .int .i64 hh.x.s, .int .i64 hh.x.a, .bool hh.x.ov, .slice A5 hh.x.adj.length c5, .slice B5 hh.x.pre.length d5, .int .i64 hh.l] 76)
            have hbx := Box.new' wr #[.int .i64 hh.x.o, .int .i64 hh.x.s, .int .i64 hh.x.a, .bool hh.x.ov, .slice A5 hh.x.adj.length c5, .slice B5 hh.x.pre.length d5, .int .i64 hh.l] 76 wr.heap.size _ rfl rfl
            have hty : ∃ cs fr, (wr.alloc (.cells #[.int .i64 hh.x.o, .int .i64 hh.x.s, .int .i64 hh.x.a, .bool hh.x.ov, .slice A5 hh.x.adj.length c5, .slice B5 hh.x.pre.length d5, .int .i64 hh.l] 76)).heap[wr.heap.size]? = some (.cells cs 76 fr) := ⟨_, _, heap_alloc_new wr _⟩
            have hg6 : w1.heap.size ≤ wr.heap.size := hmid.out.kf.size
            replace hmid := Lib.hid (hmid.out.below hbn)
            replace hpo := Lib.hid (hpo.out.below hbn)
            have C6 := C.out _ hbn
            replace C6 := Lib.hid C6
            replace hs2 := Lib.hid hs2
            replace hpj := Lib.hid hpj
            clear hm he hla2 hbn C
            go_upto_region 10 with fail
            clear K2 z0
            generalize World.alloc wr _ = w6 at *
            generalize wr.heap.size = g6 at *
            have a0 := hbx.c 0 rfl
            have a1 := hbx.c 1 rfl
            have a2 := hbx.c 2 rfl
            have a3 := hbx.c 3 rfl
            have a4 := hbx.c 4 rfl
            have a5 := hbx.c 5 rfl
            have a6 := hbx.c 6 rfl
            have hl0 : decide (0 < hh.l) = false := by simpa using hll
            go_wp2_with fail
            (with_reducible refine (C6.out).mono ?_)
            rintro e w7 ⟨v7, rfl, hown, hb7⟩
            clear a0 a1 a2 a3 a4 a5 a6 C6
            have hsz6 : w1.heap.size ≤ w6.heap.size := hmid.out.kf.size
            have hown' : LaOwn w7 w1.heap.size v7 hh.x := hown.monoF hsz6
            replace hmid := Lib.hid (hmid.out.below hb7)
            replace hpo := Lib.hid (hpo.out.below hb7)
            replace hbx := hbx.later hb7
            replace hty := ty_below hty hb7
            obtain ⟨A7, c7, B7, d7, hv7⟩ := hown'.at.form
            subst hv7
            have hb8 := below_new' w7 (.cells #[.int .i64 (q : Int), .int .i64 hh.x.o, .int .i64 hh.x.s, .int .i64 hh.x.a, .bool hh.x.ov, .slice A7 hh.x.adj.length c7, .slice B7 hh.x.pre.length d7] 60)
            have rd0 := Rd.lit w7 #[.int .i64 (q : Int), .int .i64 hh.x.o, .int .i64 hh.x.s, .int .i64 hh.x.a, .bool hh.x.ov, .slice A7 hh.x.adj.length c7, .slice B7 hh.x.pre.length d7] 60
            have hown8 : LxOwn _ w1.heap.size ⟨hh.x, A7, c7, B7, d7⟩ := LaOwn.below hown' hb8
            have hpo8 := hpo.out.below hb8
            have hmid8 := hmid.out.below hb8
            have hbx8 := hbx.later hb8
            have hty8 := ty_below hty hb8
            have hos := hpo8.os
            have hsz8 := hmid8.kf.size
            clear hown hown' hmid hpo hbx hty hb7 hb8
            replace hown8 := Lib.hid hown8
            replace hpo8 := Lib.hid hpo8
            replace hmid8 := Lib.hid hmid8
            replace hbx8 := Lib.hid hbx8
            replace hty8 := Lib.hid hty8
            have hone := sdL_one ⟨(q : Int), ⟨hh.x, A7, c7, B7, d7⟩⟩
            have hb9a : ls.length + 1 ≤ maxLen := by simp only [maxLen]; omega
            have hb9b : (ls.length + 1) * 88 ≤ 140737488355328 := by omega
            go_upto_region 12 with (at_builtin; refine wpList_appB rfl sdT (.tmp 37) (.tmp 43) rfl w1.heap.size rfl hos (m := 1) rfl (by simp) rd0 hone hb9a hb9b hsz8 (ls.length + 1) _ rfl rfl ?_; intro v9 w9 ho9 hbel9 hg9 hv9; obtain ⟨A9, c9, rfl, -⟩ := own_rd ho9)
            have hne9 := own_offTy hos hty8.out (by decide)
            have hne9' : (Value.slice AS ls.length cS).ownBlock ≠ some g6 := by
              rcases hne9 with e | e
              · rw [e]; simp
              · exact e
            have hpo9 := PoA.app (s := ⟨(q : Int), ⟨hh.x, A7, c7, B7, d7⟩⟩) hpo8.out hown8.out ho9 hg9
            have hmid9 := hmid8.out.app hbel9 (Nat.le_refl _) hF.out hst.out
            have hbx9 := hbx8.out.kept hg9 (fun e => hne9' e.symm) (by simp)
            have hty9 := ty_row hty8.out hg9 hne9'
            have x0 : w9.cell? ⟨g, 0, none⟩ = some (.int .i64 iv) := by
              obtain ⟨iv', e1, e2⟩ := hmid9.c0
              rw [hF.out.c0] at e2
              rw [e1, ← e2]
            clear hos hpo8 hmid8 hbx8 hty8 hown8 hone hb9a hb9b rd0 ho9 hbel9 hg9 hv9 hne9 hne9'
            have a6 := hbx9.c 6 rfl
            have f6 := hbx9.f 6 rfl
            have hgs := grownBy_set w9 g6 6 (.int .i64 iv)
            have hpo10 := Lib.hid (hpo9.row hgs hty9)
            have hmid10 := Lib.hid (hmid9.new hgs hg6 hF.out hst.out)
            have hbx10 := hbx9.set 6 (.int .i64 iv) (by simp)
            clear hgs hpo9 hmid9 hbx9 hty9
            go_upto_region 13 with fail
            clear x0 a6 f6
            generalize World.setCell w9 _ _ = w10 at *
            obtain ⟨M2, hm2, he2⟩ := hmid10.out.el q hq256 (polJ iv D j) (by unfold setN; rw [if_pos rfl])
            obtain ⟨w11, run11, hm11, hg11⟩ := hm2.run_put pdT (by omega) (i := (o : Int)) (by omega) (by omega) (hdV hh.x A5 c5 B5 d5 iv)
            have hmid11 : Hid (FlMid w1 w11 g b N f (setN (polK iv N k) q (polJ iv D (j + 1)))) := by
              have h1 := hmid10.out.turn hF.out hq256 hqs hst.out (D' := polJ iv D (j + 1)) hm11 (fun o' ho' => by
                rw [hpj.out]
                by_cases e : o' = o
                · subst e
                  simp only [if_true]
                  refine ⟨A5, c5, B5, d5, ?_, ?_⟩
                  · unfold polH; rw [if_neg (by omega)]
                  · unfold polH; rw [if_neg (by omega)]; exact hla.out
                · have e' : ¬ (o' : Int) = (o : Int) := by omega
                  simp only [if_neg e, if_neg e']
                  exact he2 o' ho') hg11
              have e : setN (setN (polK iv N k) q (polJ iv D j)) q (polJ iv D (j + 1)) = setN (polK iv N k) q (polJ iv D (j + 1)) := by
                funext z; unfold setN; split <;> rfl
              rw [e] at h1
              exact h1
            have hpo11 : Hid (PoA w.heap.size w1.heap.size w11 (some ⟨bz, offz, none⟩) len c (lks N) (some ⟨by2, offy, none⟩) no c2 (orgs D) (.slice A9 (ls.length + 1) c9) (ls ++ [⟨(q : Int), ⟨hh.x, A7, c7, B7, d7⟩⟩])) := hpo10.out.kq (Kq.of_map hm2 hg11)
            have hsp11 : Hid (sdP (ls ++ [⟨(q : Int), ⟨hh.x, A7, c7, B7, d7⟩⟩]) = sndK N ((lks N).take k) ++ sndJ (q : Int) D ((orgs D).take (j + 1))) := by
              show _ = _
              rw [hs2.out, ← List.append_assoc, ← hsp.out]
              simp [sdP]
            unfold hdV at run11
            have a0 := hbx10.c 0 rfl
            have a1 := hbx10.c 1 rfl
            have a2 := hbx10.c 2 rfl
            have a3 := hbx10.c 3 rfl
            have a4 := hbx10.c 4 rfl
            have a5 := hbx10.c 5 rfl
            have a6 := hbx10.c 6 rfl
            clear hpo10 hmid10 hbx10 hm2 he2 hm11 hg11 hsp hs2 hpj hla
            go_wp2_with fail
            go_round
            case rel => exact ⟨j + 1, A9, c9, ls ++ [⟨(q : Int), ⟨hh.x, A7, c7, B7, d7⟩⟩], by go_num, by simp, by omega, by simp; omega, hmid11, by simpa using hpo11, hsp11⟩
            case measure => simp [intOf]; omega
        · obtain rfl : j = no := by omega
          have hmidE : Hid (FlMid w1 wr g b N f (polK iv N (k + 1))) := by
            rw [hsucc.out]
            have h1 := hmid.out
            rw [← hno.out] at h1
            exact ⟨h1.c0, h1.c1, h1.nb, fun i hi E hE => by
              unfold setN at hE
              by_cases e : i = q
              · subst e
                simp only [if_true, Option.some.injEq] at hE
                subst hE
                obtain ⟨M, hm, he⟩ := h1.el i hi (polJ iv D (orgs D).length) (by unfold setN; rw [if_pos rfl])
                exact ⟨M, hm, fun o ho => by rw [← polJ_end64 iv D o ho]; exact he o ho⟩
              · simp only [if_neg e] at hE
                exact h1.el i hi E (by unfold setN; rw [if_neg e]; exact hE), h1.kf⟩
          have hspE : Hid (sdP ls = sndK N ((lks N).take (k + 1))) := by
            show _ = _
            rw [hssc.out, hsp.out, ← hno.out, List.take_length]
          have hpoE : Hid (PoA w.heap.size w1.heap.size wr (some ⟨bz, offz, none⟩) len c (lks N) none 0 0 [] (.slice AS ls.length cS) ls) := ⟨hpo.out.o1, World.ownsRow_nil _ _ _ _, hpo.out.os, hpo.out.ok⟩
          clear hmid hpo hsp
          go_wp2_with fail
          go_round
          case rel => exact ⟨k + 1, AS, cS, ls, by go_num, rfl, by omega, by omega, hmidE, hpoE, hspE⟩
          case measure => simp [intOf]; omega
    · obtain rfl : k = len := by omega
      have hf := hfin.out _ _ _ _ hmid.out hpo.out.os (by rw [hsp.out, ← hlen.out, List.take_length]) hpo.out.ok
      replace hf := Lib.hid hf
      clear hmid hpo hsp
      go_wp2_with fail
      go_ret
      exact hf.out

end Go.Proofs.Ytnfldccaeibcpaa.Fd

namespace Go.Proofs.Ytnfldccaeibcpaa.Fd
set_option linter.unusedVariables false
open Go.RowKit Go.Maps Go.Sort

theorem bare_at (w : World) (o s a : Int) (ov : Bool) : LaAt w (laV o s a ov none 0 0 none 0 0) ⟨o, s, a, ov, [], []⟩ := ⟨none, 0, none, 0, rfl, Rd.nil _ _, Rd.nil _ _, by simp, by simp [maxLen], by simp, by simp [maxLen], by simp⟩
theorem bare_valid (o s a : Int) (ov : Bool) (h0 : 0 ≤ o) (h1 : o ≤ 63) (h2 : 1 ≤ s) (h3 : s ≤ 1073741824) (h4 : 0 ≤ a) (h5 : a < 3600) : LaValid ⟨o, s, a, ov, [], []⟩ := by
  refine ⟨⟨h0, h1⟩, ⟨h2, h3⟩, ⟨h4, by simp only; omega⟩, by simp, by simp, fun h => by simp only at h; omega, fun k x hk => by simp at hk, fun k x hk => by simp at hk⟩
theorem sameB_refl' (x : La) : sameB x x = true := by simp [sameB, conB]

/-! ### Plain -/
def D1 (o : Nat) (h : Option Hd) : Db := fun p => if p = o then h else none
def N1 (i o : Nat) (h : Option Hd) : Fn := fun j => if j = i then some (D1 o h) else none
theorem sorted_single {l : List Int} {a : Int} (hs : l.Pairwise (· < ·)) (hm : ∀ x, x ∈ l ↔ x = a) : l = [a] := by
  match l, hs, hm with
  | [], _, hm => exact absurd ((hm a).2 rfl) (by simp)
  | [x], _, hm => rw [(hm x).1 (by simp)]
  | x :: y :: t, hs, hm =>
    have h1 := (hm x).1 (by simp)
    have h2 := (hm y).1 (by simp)
    have := (List.pairwise_cons.1 hs).1 y (by simp)
    omega
theorem lks_N1 {i o : Nat} {h : Option Hd} (hi : i < 256) : lks (N1 i o h) = [(i : Int)] := by
  refine sorted_single (lks_sorted _) fun x => ?_
  rw [lks_mem]
  unfold N1
  constructor
  · rintro ⟨⟨h0, h1⟩, hs⟩
    by_cases e : x.toNat = i
    · omega
    · rw [if_neg e] at hs; simp at hs
  · rintro rfl
    exact ⟨⟨by omega, by omega⟩, by rw [Int.toNat_natCast, if_pos rfl]; rfl⟩
theorem orgs_D1 {o : Nat} {h : Hd} (ho : o < 64) : orgs (D1 o (some h)) = [(o : Int)] := by
  refine sorted_single (orgs_sorted _) fun x => ?_
  rw [orgs_mem]
  unfold D1
  constructor
  · rintro ⟨⟨h0, h1⟩, hs⟩
    by_cases e : x.toNat = o
    · omega
    · rw [if_neg e] at hs; simp at hs
  · rintro rfl
    exact ⟨⟨by omega, by omega⟩, by rw [Int.toNat_natCast, if_pos rfl]; rfl⟩
theorem orgs_D1n {o : Nat} : orgs (D1 o none) = [] := by
  refine List.eq_nil_iff_forall_not_mem.2 fun x hx => ?_
  have := ((orgs_mem x).1 hx).2
  unfold D1 at this
  split at this <;> simp at this
theorem tik_N1 (n : Int) (i o : Nat) (h : Option Hd) : tikN n (N1 i o h) = N1 i o (h.map (tikH n)) := by
  funext j; unfold tikN N1
  split
  · simp only [Option.map_some, Option.some.injEq]; funext p; unfold tikD D1; split <;> rfl
  · rfl
theorem pol_N1 (iv : Int) (i o : Nat) (h : Option Hd) : polN iv (N1 i o h) = N1 i o (h.map (polH iv)) := by
  funext j; unfold polN N1
  split
  · simp only [Option.map_some, Option.some.injEq]; funext p; unfold polD D1; split <;> rfl
  · rfl
theorem snd_N1 {i o : Nat} {h : Hd} (hi : i < 256) (ho : o < 64) : sndK (N1 i o (some h)) (lks (N1 i o (some h))) = if 0 < h.l then [] else [((i : Int), h.x)] := by
  rw [lks_N1 hi]
  unfold sndK
  simp only [List.flatMap_cons, List.flatMap_nil, List.append_nil, Int.toNat_natCast]
  have e : N1 i o (some h) i = some (D1 o (some h)) := by unfold N1; rw [if_pos rfl]
  rw [e]
  simp only [orgs_D1 ho]
  unfold sndJ
  have e2 : due (D1 o (some h)) (o : Int) = if 0 < h.l then none else some h.x := by unfold due D1; rw [Int.toNat_natCast, if_pos rfl]
  rw [List.filterMap_cons, e2]
  by_cases hl : 0 < h.l
  · simp [hl]
  · simp [hl]
theorem snd_N1n {i o : Nat} (hi : i < 256) : sndK (N1 i o none) (lks (N1 i o none)) = [] := by
  rw [lks_N1 hi]
  unfold sndK
  simp only [List.flatMap_cons, List.flatMap_nil, List.append_nil, Int.toNat_natCast]
  have e : N1 i o none i = some (D1 o none) := by unfold N1; rw [if_pos rfl]
  rw [e]
  simp only [orgs_D1n]
  rfl
def HdOk (o : Nat) : Option Hd → Prop
  | none => True
  | some h => LaValid h.x ∧ h.x.o = (o : Int) ∧ 0 ≤ h.l ∧ h.l ≤ 65536
theorem ok_N1 {i o : Nat} {h : Option Hd} (hh : HdOk o h) : FnOk (N1 i o h) := by
  intro j D p x hN hD
  unfold N1 at hN
  split at hN
  · injection hN with hN; subst hN
    unfold D1 at hD
    split at hD
    · next e => subst e; subst hD; exact hh
    · cases hD
  · cases hN
theorem fs_N1 {i o : Nat} {h : Option Hd} {f : Nat → Nat} {k : Nat} (hk : FS (N1 i o h) f k) : k = f i := by
  obtain ⟨j, _, hs, rfl⟩ := hk
  unfold N1 at hs
  split at hs
  · next e => rw [e]
  · simp at hs
theorem grown_below {B k : Nat} {w w' : World} (hg : w.grownBy w' (some k)) (hk : B ≤ k) (hs : B ≤ w.heap.size) : Below B w w' :=
  (Below.refl B w).grown hg hs (fun j hj => by injection hj with hj; omega)

/-! ### In memory -/
structure One (B : Nat) (w : World) (g b : Nat) (iv : Int) (k i o : Nat) (h : Option Hd) : Prop where
  ex : ∃ f : Nat → Nat, f i = k ∧ FlAt w g b iv (N1 i o h) f
  bb : B ≤ b
  bk : B ≤ k
  bs : B ≤ w.heap.size
  ok : HdOk o h
section
variable {B : Nat} {w w' : World} {g b : Nat} {iv : Int} {k i o : Nat} {h : Option Hd}
theorem One.below (H : One B w g b iv k i o h) (hb : Below w.heap.size w w') : One B w' g b iv k i o h := by
  obtain ⟨f, e, F⟩ := H.ex
  exact ⟨⟨f, e, F.below hb⟩, H.bb, H.bk, Nat.le_trans H.bs hb.size, H.ok⟩
/-- A call on the flooder keeps what was read, and all below B. -/
structure Step1 (B : Nat) (w w' : World) : Prop where
  kq : Kq w w'
  bel : Below B w w'
def PollOne (B : Nat) (w : World) (g b : Nat) (iv : Int) (k i o : Nat) (h : Hd) (e : Ending) (w' : World) : Prop :=
  ∃ A c ls, e = .returned (.slice A (if 0 < h.l then 0 else 1) c) ∧ ls.length = (if 0 < h.l then 0 else 1) ∧ Rd w' A (sdV ls) ∧ sdP ls = (if 0 < h.l then [] else [((i : Int), h.x)]) ∧ One B w' g b iv k i o (some (polH iv h)) ∧ Step1 B w w'
theorem poll_one {h' : Hd} (H : One B w g b iv k i o (some h')) (hi : i < 256) (ho : o < 64) (hiv : 0 ≤ iv ∧ iv ≤ 65536) : Calls Try.prog 12 #[.pointer (some ⟨g, 0, none⟩)] w (PollOne B w g b iv k i o h') := by
  obtain ⟨f, e, F⟩ := H.ex
  refine (fpoll_any w g b iv _ f F (ok_N1 H.ok)).mono ?_
  rintro ee w' ⟨A, c, ls, rfl, hown, hp, hx, F', hk⟩
  rw [snd_N1 hi ho] at hp
  rw [pol_N1] at F'
  have hl : ls.length = (if 0 < h'.l then 0 else 1) := by
    have := congrArg List.length hp
    simp only [sdP, List.length_map] at this
    rw [this]; split <;> rfl
  refine ⟨A, c, ls, by rw [hl], hl, own_slice hown, hp, ⟨⟨f, e, F'⟩, H.bb, H.bk, Nat.le_trans H.bs hk.size, ?_⟩, hk.kq F.maps, hk.toBelow (fun j hj => by rw [fs_N1 hj, e]; exact H.bk) H.bs⟩
  obtain ⟨a1, a2, a3, a4⟩ := H.ok
  unfold polH
  refine ⟨by split <;> exact a1, by split <;> exact a2, by split <;> first | omega | (simp only; omega), by split <;> first | omega | (simp only; omega)⟩
theorem poll_none (H : One B w g b iv k i o none) (hi : i < 256) : Calls Try.prog 12 #[.pointer (some ⟨g, 0, none⟩)] w fun e w' => ∃ A c, e = .returned (.slice A 0 c) ∧ One B w' g b iv k i o none ∧ Step1 B w w' := by
  obtain ⟨f, e, F⟩ := H.ex
  refine (fpoll_any w g b iv _ f F (ok_N1 H.ok)).mono ?_
  rintro ee w' ⟨A, c, ls, rfl, hown, hp, hx, F', hk⟩
  rw [snd_N1n hi] at hp
  rw [pol_N1] at F'
  have hl : ls.length = 0 := by
    have := congrArg List.length hp
    simp only [sdP, List.length_map] at this
    exact this
  exact ⟨A, c, by rw [hl], ⟨⟨f, e, F'⟩, H.bb, H.bk, Nat.le_trans H.bs hk.size, trivial⟩, hk.kq F.maps, hk.toBelow (fun j hj => by rw [fs_N1 hj, e]; exact H.bk) H.bs⟩
theorem tick_one (H : One B w g b iv k i o h) (n : Int) (hn : 0 < n) : Calls Try.prog 6 #[.pointer (some ⟨g, 0, none⟩), .int .i64 n] w fun e w' => e = .returned (.tuple #[]) ∧ One B w' g b iv k i o (h.map (tikH n)) ∧ Step1 B w w' := by
  obtain ⟨f, e, F⟩ := H.ex
  refine (ftick_any w g b iv _ f F (ok_N1 H.ok) n hn).mono ?_
  rintro ee w' ⟨rfl, F', hk⟩
  rw [tik_N1] at F'
  refine ⟨rfl, ⟨⟨f, e, F'⟩, H.bb, H.bk, Nat.le_trans H.bs hk.size, ?_⟩, hk.kq F.maps, hk.toBelow (fun j hj => by rw [fs_N1 hj, e]; exact H.bk) H.bs⟩
  cases h with
  | none => trivial
  | some h =>
    obtain ⟨a1, a2, a3, a4⟩ := H.ok
    exact ⟨a1, a2, by simp only [tikH]; omega, by simp only [tikH]; omega⟩
theorem ack_one {h : Hd} (H : One B w g b iv k i o (some h)) (hi : i < 256) (ho : o < 64) (z : Int) (hz : z = (i : Int)) {v : Value} (hv : LaAt w v h.x) : Calls Try.prog 13 #[.pointer (some ⟨g, 0, none⟩), .int .i64 z, v] w fun e w' => e = .returned (.tuple #[.bool true, .int .i64 0]) ∧ One B w' g b iv k i o none ∧ Step1 B w w' := by
  subst hz
  obtain ⟨f, e, F⟩ := H.ex
  obtain ⟨a1, a2, a3, a4⟩ := H.ok
  have hNi : N1 i o (some h) i = some (D1 o (some h)) := by unfold N1; rw [if_pos rfl]
  have hd : dO (D1 o (some h)) h.x.o = some h := by unfold dO D1; rw [a2, if_pos ⟨by omega, by omega⟩, Int.toNat_natCast, if_pos rfl]
  have hB : ackB (D1 o (some h)) h.x = true := by unfold ackB; rw [hd]; exact sameB_refl' _
  refine (fack_any w g b iv _ f F i hi _ hNi v h.x hv (by rw [a2]; exact wf64 (by omega) (by omega))).mono ?_
  rintro ee w' ⟨rfl, F', hg⟩
  have e2 : setN (N1 i o (some h)) i (ackD (D1 o (some h)) h.x) = N1 i o none := by
    funext j
    unfold setN N1
    split
    · unfold ackD; rw [hB, if_pos rfl, a2, Int.toNat_natCast]
      congr 1; funext p; unfold D1; split <;> rfl
    · rfl
  rw [hB]
  rw [e2] at F'
  rw [e] at hg
  obtain ⟨M, hM, _⟩ := F.el i hi _ hNi
  rw [e] at hM
  exact ⟨rfl, ⟨⟨f, e, F'⟩, H.bb, H.bk, Nat.le_trans H.bs hg.size, trivial⟩, Kq.of_map hM hg, grown_below hg H.bk H.bs⟩
theorem links_one (H : One B w g b iv k i o h) (hi : i < 256) : Calls Try.prog 14 #[.pointer (some ⟨g, 0, none⟩)] w fun e w' => ∃ A c, e = .returned (.slice A 1 c) ∧ Below w.heap.size w w' := by
  obtain ⟨f, e, F⟩ := H.ex
  refine (flinks_any w g b iv _ f F).mono ?_
  rintro ee w' ⟨A, c, rfl, ho, hb⟩
  rw [lks_N1 hi]
  exact ⟨A, c, rfl, hb⟩
/-- New, then Up with one advertisement without adjacencies and prefixes. -/
theorem up_one {B : Nat} {w1 : World} {iv : Int} {g b : Nat} (F : FlAt w1 g b iv (fun _ => none) (fun _ => 0)) (hbb : B ≤ b) (hB : B ≤ w1.heap.size) (i : Nat) (hi : i < 256) (z : Int) (hz : z = (i : Int)) (A : Option Addr) (c : Nat) (o : Nat) (zo : Int) (hzo : zo = (o : Int)) (s : Int) (ho : o < 64) (h1 : 1 ≤ s) (h2 : s ≤ 1073741824)
    (hA : Rd w1 A [.int .i64 zo, .int .i64 s, .int .i64 0, .bool false, .slice none 0 0, .slice none 0 0]) :
    Calls Try.prog 11 #[.pointer (some ⟨g, 0, none⟩), .int .i64 z, .slice A 1 c] w1 fun e w' => e = .returned (.int .i64 0) ∧ ∃ k, One B w' g b iv k i o (some ⟨⟨zo, s, 0, false, [], []⟩, 0⟩) ∧ Step1 B w1 w' := by
  subst hz
  have hv : LaValid ⟨zo, s, 0, false, [], []⟩ := bare_valid _ _ _ _ (by omega) (by omega) (by omega) (by omega) (by omega) (by omega)
  refine (fup_any w1 g b iv _ _ F i hi A 1 c [⟨⟨zo, s, 0, false, [], []⟩, none, 0, none, 0⟩] hA rfl (by omega) (fun x hx => ?_)).mono ?_
  · rw [List.mem_singleton.1 hx]
    exact ⟨bare_at _ _ _ _ _, hv⟩
  · rintro ee w' ⟨rfl, k, hk, F', hg⟩
    have e : setN (fun _ => none) i (offs (fun _ => none) (laL [⟨⟨zo, s, 0, false, [], []⟩, none, 0, none, 0⟩])) = N1 i o (some ⟨⟨zo, s, 0, false, [], []⟩, 0⟩) := by
      funext j
      unfold setN N1
      split
      · subst hzo; congr 1
      · rfl
    rw [e] at F'
    exact ⟨rfl, k, ⟨⟨_, by simp, F'⟩, hbb, by omega, Nat.le_trans hB hg.size, hv, hzo, by simp, by simp⟩, Kq.of_map F.nb hg, grown_below hg hbb hB⟩
end

end Go.Proofs.Ytnfldccaeibcpaa.Fd

namespace Go.Proofs.Ytnfldccaeibcpaa.Fd
set_option linter.unusedVariables false
open Go.RowKit Go.Maps Go.Sort

theorem Step1.trans {B : Nat} {w w' w'' : World} (h : Step1 B w w') (h2 : Step1 B w' w'') (hs : B ≤ w.heap.size) : Step1 B w w'' := ⟨h.kq.trans h2.kq, h.bel.trans h2.bel⟩
theorem sd_one {l : List Sd} {q : Int} {x : La} (h : sdP l = [(q, x)]) : ∃ A c B d, sdV l = [.int .i64 q, .int .i64 x.o, .int .i64 x.s, .int .i64 x.a, .bool x.ov, .slice A x.adj.length c, .slice B x.pre.length d] := by
  match l, h with
  | [s], h =>
    simp only [sdP, List.map_cons, List.map_nil, List.cons.injEq, Prod.mk.injEq, and_true] at h
    obtain ⟨rfl, rfl⟩ := h
    exact ⟨_, _, _, _, rfl⟩
theorem rd_cells {w : World} {b off : Nat} {xs : List Value} (h : Rd w (some ⟨b, off, none⟩) xs) (hn : 0 < xs.length) : ∀ (i : Nat) (u : Value), xs[i]? = some u → w.cell? ⟨b, off + i, none⟩ = some u := by
  obtain ⟨b', o', e, hz⟩ := rd_at h hn
  injection e with e
  injection e with e1 e2
  subst e1 e2
  exact hz
theorem poll_due {B : Nat} {w : World} {g b : Nat} {iv : Int} {k i o : Nat} {x : La} (H : One B w g b iv k i o (some ⟨x, 0⟩)) (hi : i < 256) (ho : o < 64) (hiv : 0 ≤ iv ∧ iv ≤ 65536) (z : Int) (hz : z = (i : Int)) : Calls Try.prog 12 #[.pointer (some ⟨g, 0, none⟩)] w fun e w' =>
    ∃ bb off c Aa ca Ba da, e = .returned (.slice (some ⟨bb, off, none⟩) 1 c) ∧ Rd w' (some ⟨bb, off, none⟩) [.int .i64 z, .int .i64 x.o, .int .i64 x.s, .int .i64 x.a, .bool x.ov, .slice Aa x.adj.length ca, .slice Ba x.pre.length da] ∧ One B w' g b iv k i o (some ⟨x, iv⟩) ∧ Step1 B w w' := by
  subst hz
  refine (poll_one H hi ho hiv).mono ?_
  rintro e w' ⟨A, c, ls, rfl, hl, hR, hp, O, T⟩
  rw [if_neg (by simp)] at hp
  obtain ⟨Aa, ca, Ba, da, e⟩ := sd_one hp
  rw [e] at hR
  obtain ⟨bb, off, rfl, _⟩ := rd_at hR (by simp)
  exact ⟨bb, off, c, Aa, ca, Ba, da, by simp, hR, O, T⟩
theorem poll_not {B : Nat} {w : World} {g b : Nat} {iv : Int} {k i o : Nat} {x : La} {l : Int} (H : One B w g b iv k i o (some ⟨x, l⟩)) (hl : 0 < l) (hi : i < 256) (ho : o < 64) (hiv : 0 ≤ iv ∧ iv ≤ 65536) : Calls Try.prog 12 #[.pointer (some ⟨g, 0, none⟩)] w fun e w' =>
    ∃ A c, e = .returned (.slice A 0 c) ∧ One B w' g b iv k i o (some ⟨x, l⟩) ∧ Step1 B w w' := by
  refine (poll_one H hi ho hiv).mono ?_
  rintro e w' ⟨A, c, ls, rfl, _, hR, hp, O, T⟩
  unfold polH at O
  rw [if_pos hl] at O
  exact ⟨A, c, by simp [hl], O, T⟩

set_option maxRecDepth 100000 in
set_option maxHeartbeats 6400000 in
theorem awake35_any (w : World) : Calls Try.prog 4 #[] w fun e w' => e = .returned (.bool true) ∧ Below w.heap.size w w' := by
  go_enter Try.func4, Try.ntmps4
  go_wp2_with fail
  (with_reducible refine (fnew_any _ 5 (by omega) (by omega)).mono ?_)
  rintro e w1 ⟨rfl, F, B⟩
  have hb2 := below_new' w1 (.cells #[.int .i64 2, .int .i64 4, .int .i64 0, .bool false, .slice none 0 0, .slice none 0 0] 45)
  have X := Rd.lit w1 #[.int .i64 2, .int .i64 4, .int .i64 0, .bool false, .slice none 0 0, .slice none 0 0] 45
  replace F := F.below hb2
  replace B := B.trans (hb2.mono B.size)
  have U := up_one F (Nat.le_refl w.heap.size) B.size 3 (by omega) 3 rfl _ 1 2 2 rfl 4 (by omega) (by omega) (by omega) X
  replace U := Lib.hid U
  replace B := Lib.hid B
  clear F hb2 X
  go_wp2_with fail
  (with_reducible refine (U.out).mono ?_)
  rintro e w3 ⟨rfl, k, O3, T⟩
  clear U
  replace B := B.out.trans T.bel
  clear T
  have P := poll_due O3 (by omega) (by omega) (by omega) 3 rfl
  replace P := Lib.hid P
  clear O3
  replace B := Lib.hid B
  go_wp2_with fail
  (with_reducible refine (P.out).mono ?_)
  rintro e w4 ⟨b4, off4, c4, Aa, ca, Ba, da, rfl, R4, O4, T⟩
  clear P
  replace B := B.out.trans T.bel
  clear T
  have P := poll_not O4 (by omega) (by omega) (by omega) (by omega)
  replace P := Lib.hid P
  clear O4
  replace B := Lib.hid B
  replace R4 := Lib.hid R4
  go_wp2_with fail
  (with_reducible refine (P.out).mono ?_)
  rintro e w5 ⟨A5, c5, rfl, O5, T⟩
  clear P
  replace B := B.out.trans T.bel
  replace R4 := T.kq.rd R4.out
  clear T
  have P := tick_one O5 5 (by omega)
  replace P := Lib.hid P
  clear O5
  replace B := Lib.hid B
  replace R4 := Lib.hid R4
  go_wp2_with fail
  (with_reducible refine (P.out).mono ?_)
  rintro e w6 ⟨rfl, O6, T⟩
  clear P
  replace B := B.out.trans T.bel
  replace R4 := T.kq.rd R4.out
  clear T
  have P := poll_due O6 (by omega) (by omega) (by omega) 3 rfl
  replace P := Lib.hid P
  clear O6
  replace B := Lib.hid B
  replace R4 := Lib.hid R4
  go_wp2_with fail
  (with_reducible refine (P.out).mono ?_)
  rintro e w7 ⟨b7, off7, c7, Ab, cb, Bb, db, rfl, R7, O7, T⟩
  clear P R7
  replace B := B.out.trans T.bel
  replace R4 := T.kq.rd R4.out
  clear T
  have P := ack_one O7 (by omega) (by omega) 3 rfl (bare_at _ 2 4 0 false)
  replace P := Lib.hid P
  clear O7
  replace B := Lib.hid B
  replace R4 := Lib.hid R4
  go_wp2_with fail
  (with_reducible refine (P.out).mono ?_)
  rintro e w8 ⟨rfl, O8, T⟩
  clear P
  replace B := B.out.trans T.bel
  replace R4 := T.kq.rd R4.out
  clear T
  have P := tick_one O8 5 (by omega)
  replace P := Lib.hid P
  clear O8
  replace B := Lib.hid B
  replace R4 := Lib.hid R4
  go_wp2_with fail
  (with_reducible refine (P.out).mono ?_)
  rintro e w9 ⟨rfl, O9, T⟩
  clear P
  replace B := B.out.trans T.bel
  replace R4 := T.kq.rd R4.out
  clear T
  have P := poll_none O9 (by omega)
  replace P := Lib.hid P
  clear O9
  replace B := Lib.hid B
  have a0 := rd_cells R4 (by simp) 0 _ rfl
  have a1 := rd_cells R4 (by simp) 1 _ rfl
  have a2 := rd_cells R4 (by simp) 2 _ rfl
  simp only [Nat.add_zero] at a0
  have a3 : w9.cell? ⟨b4, off4 + 1 + 1, none⟩ = some (.int .i64 4) := a2
  clear R4
  go_wp2_with fail
  (with_reducible refine (P.out).mono ?_)
  rintro e w10 ⟨A10, c10, rfl, O10, T⟩
  clear P a0 a1 a2 a3
  replace B := B.out.trans T.bel
  clear T
  have P := links_one O10 (by omega)
  replace P := Lib.hid P
  clear O10
  replace B := Lib.hid B
  go_wp2_with fail
  (with_reducible refine (P.out).mono ?_)
  rintro e w11 ⟨A11, c11, rfl, hb⟩
  clear P
  go_wp2_with fail
  go_wp2_with fail
  go_ret
  exact ⟨rfl, B.out.trans (hb.mono B.out.size)⟩

end Go.Proofs.Ytnfldccaeibcpaa.Fd
