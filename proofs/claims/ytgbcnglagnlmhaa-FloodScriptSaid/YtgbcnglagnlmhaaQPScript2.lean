/-
  The texts Fl6, FlD, FlS, Fl4, Fl8, FsR, FsT, Fs1, Fs2, Fs3, Fs4, FsM, one after the other.
-/
import Derived.Test.YtgbcnglagnlmhaaQPScript0
import Derived.Test.YtgbcnglagnlmhaaSame
import Derived.Deep.RegionLaw
import Derived.Test.YtgbcnglagnlmhaaQPScript1
import Derived.Test.YtgbcnglagnlmhaaSmR
import Derived.Test.YtgbcnglagnlmhaaValR
import Derived.Test.YtgbcnglagnlmhaaLaC
import Derived.Test.YtgbcnglagnlmhaaLaArg
namespace Go.Proofs.Ytgbcnglagnlmhaa
set_option linter.unusedVariables false
open Go.RowKit Go.Maps Go.Sort

def dO (D : Db) (o : Int) : Option Hd := if 0 ≤ o ∧ o < 64 then D o.toNat else none
def ackB (D : Db) (a : La) : Bool := match dO D a.o with | some h => sameB h.x a | none => false
def ackD (D : Db) (a : La) : Db := if ackB D a = true then fun i => if i = a.o.toNat then none else D i else D
def AckPost (w : World) (g b : Nat) (iv : Int) (N : Fn) (f : Nat → Nat) (lk : Nat) (D : Db) (a : La) (e : Ending) (w' : World) : Prop :=
  e = .returned (.tuple #[.bool (ackB D a), .int .i64 0]) ∧ FlAt w' g b iv (setN N lk (ackD D a)) f ∧ w.grownBy w' (some (f lk))
set_option maxRecDepth 100000 in
set_option maxHeartbeats 6400000 in
theorem fack_any (w : World) (g b : Nat) (iv : Int) (N : Fn) (f : Nat → Nat) (h : FlAt w g b iv N f) (lk : Nat) (hl : lk < 256) (D : Db) (hD : N lk = some D) (v : Value) (a : La) (hv : LaAt w v a) (hwf : (Lit.int .i64 a.o).wf = true) :
    Calls Try.prog 16 #[.pointer (some ⟨g, 0, none⟩), .int .i64 (lk : Int), v] w (AckPost w g b iv N f lk D a) := by
  obtain ⟨A, c, B, d, rfl, hla⟩ := hv.opened
  clear hv
  have S := (St.start w).new' #[.int .i64 a.o, .int .i64 a.s, .int .i64 a.a, .bool a.ov, .slice A a.adj.length c, .slice B a.pre.length d] 32 w.heap.size _ rfl rfl
  have hs : (N lk).isSome = true := by rw [hD]; rfl
  obtain ⟨M, hm, he⟩ := h.el lk hl D hD
  have hek : ElAt w (M a.o) (dO D a.o) := by
    unfold dO
    by_cases ho : 0 ≤ a.o ∧ a.o < 64
    · rw [if_pos ho]
      have := he a.o.toNat (by omega)
      rwa [Int.toNat_of_nonneg ho.1] at this
    · rw [if_neg ho]
      cases hM : M a.o with
      | none => trivial
      | some z => exact absurd (hm.small (i := a.o) (by rw [hM]; rfl)) (by omega)
  have hwl : (Lit.int .i64 (lk : Int)).wf = true := wf64 (by omega) (by omega)
  have hfin : Hid (∀ w', Below w.heap.size w w' → ackB D a = false → AckPost w g b iv N f lk D a (.returned (.tuple #[.bool false, .int .i64 0])) w') := fun w' hb ho => by
    have e : setN N lk (ackD D a) = N := by
      unfold setN ackD
      rw [ho, if_neg (by simp)]
      funext j
      by_cases e : j = lk
      · subst e; rw [if_pos rfl, hD]
      · rw [if_neg e]
    refine ⟨by rw [ho], ?_, below_row hb _⟩
    rw [e]; exact h.below hb
  have hdel : Hid (∀ wa w', Below w.heap.size w wa → ackB D a = true → MapIs 64 w' (f lk) (fun j => if j = a.o then none else M j) → wa.grownBy w' (some (f lk)) → AckPost w g b iv N f lk D a (.returned (.tuple #[.bool true, .int .i64 0])) w') := fun wa w' hb ho hm' hg => by
    have hgr := (below_row hb (some (f lk))).trans hg
    have hq := (Kq.of_below hb).trans (Kq.of_map (hm.below hb) hg)
    have ho64 : 0 ≤ a.o ∧ a.o < 64 := by
      by_cases h9 : 0 ≤ a.o ∧ a.o < 64
      · exact h9
      · unfold ackB dO at ho
        rw [if_neg h9] at ho
        cases ho
    obtain ⟨k, hk⟩ := Int.eq_ofNat_of_zero_le ho64.1
    rw [hk] at hm'
    have hin := InAt.put hm he hq k (by omega) none none trivial hm'
    have e : setN N lk (ackD D a) = fun j => if j = lk then some (fun i => if i = k then none else D i) else N j := by
      unfold setN ackD
      rw [ho, if_pos rfl, hk, Int.toNat_natCast]
    refine ⟨by rw [ho], ?_, hgr⟩
    rw [e]
    exact h.turn hl hs hin hgr
  have hc1 := cell_later S.b h.c1
  have K1 := (h.nb.below S.b).run_ok nbT hwl
  rw [nbM_at hl, hD] at K1
  simp only [Option.map_some, Option.getD_some, Option.isSome_some] at K1
  have K2 := (hm.below S.b).run_ok pdT hwf
  have hu : ∃ u0 u1 u2 u3 A9 n9 c9 B9 m9 d9 u6, (M a.o).getD hdZ = .agg #[.int .i64 u0, .int .i64 u1, .int .i64 u2, .bool u3, .slice A9 n9 c9, .slice B9 m9 d9, .int .i64 u6] := by
    cases hM : M a.o with
    | none => exact ⟨_, _, _, _, _, _, _, _, _, _, _, rfl⟩
    | some vv =>
      rw [hM] at hek
      cases hN : dO D a.o with
      | none => rw [hN] at hek; exact hek.elim
      | some hh =>
        rw [hN] at hek
        obtain ⟨A9, c9, B9, d9, rfl, _⟩ := hek
        exact ⟨_, _, _, _, _, _, _, _, _, _, _, rfl⟩
  obtain ⟨u0, u1, u2, u3, A9, n9, c9, B9, m9, d9, u6, hu⟩ := hu
  rw [hu] at K2
  obtain ⟨ok, hok⟩ : ∃ z, (M a.o).isSome = z := ⟨_, rfl⟩
  rw [hok] at K2
  replace hu := Lib.hid hu
  replace hok := Lib.hid hok
  replace hm := Lib.hid hm
  have a0 := S.c 0 0 rfl rfl
  have a1 := S.c 0 1 rfl rfl
  have a2 := S.c 0 2 rfl rfl
  have a3 := S.c 0 3 rfl rfl
  have a4 := S.c 0 4 rfl rfl
  have a5 := S.c 0 5 rfl rfl
  clear h he
  go_enter Try.func16, Try.ntmps16
  go_upto_region 7 with fail
  clear a0 a1 a2 a3 a4 a5
  clear hc1 K1 K2
  have S2 := S.new' #[.int .i64 u0, .int .i64 u1, .int .i64 u2, .bool u3, .slice A9 n9 c9, .slice B9 m9 d9, .int .i64 u6] 69 (w.heap.size + 1) _ (by simp) rfl
  clear S
  generalize World.alloc (World.alloc w _) _ = w2 at *
  cases ok with
  | false =>
    have hno : ackB D a = false := by
      unfold ackB
      cases hN : dO D a.o with
      | none => rfl
      | some hh =>
        rw [hN] at hek
        cases hM : M a.o with
        | none => rw [hM] at hek; exact hek.elim
        | some z => have := hok.out; rw [hM] at this; cases this
    have hf := hfin.out _ S2.b hno
    replace hf := Lib.hid hf
    clear hfin hdel hno hek
    go_wp2_with fail
    go_ret2
    exact hf.out
  | true =>
    obtain ⟨hh, hNk, hu2, hlx⟩ : ∃ hh, dO D a.o = some hh ∧ (.agg #[.int .i64 u0, .int .i64 u1, .int .i64 u2, .bool u3, .slice A9 n9 c9, .slice B9 m9 d9, .int .i64 u6] : Value) = hdV hh.x A9 c9 B9 d9 hh.l ∧ LaAt w (laV hh.x.o hh.x.s hh.x.a hh.x.ov A9 hh.x.adj.length c9 B9 hh.x.pre.length d9) hh.x := by
      cases hM : M a.o with
      | none => have := hok.out; rw [hM] at this; cases this
      | some vv =>
        rw [hM] at hek
        cases hN : dO D a.o with
        | none => rw [hN] at hek; exact hek.elim
        | some hh =>
          rw [hN] at hek
          obtain ⟨A8, c8, B8, d8, rfl, hla⟩ := hek
          have hv := hu.out
          rw [hM] at hv
          simp only [Option.getD_some, Value.agg.injEq, Array.mk.injEq, List.cons.injEq, Value.slice.injEq, Value.int.injEq, Value.bool.injEq, true_and, and_true] at hv
          obtain ⟨rfl, rfl, rfl, rfl, ⟨rfl, rfl, rfl⟩, ⟨rfl, rfl, rfl⟩, rfl⟩ := hv
          exact ⟨hh, rfl, rfl, hla⟩
    simp only [Value.agg.injEq, Array.mk.injEq, List.cons.injEq, Value.slice.injEq, Value.int.injEq, Value.bool.injEq, true_and, and_true] at hu2
    obtain ⟨rfl, rfl, rfl, rfl, rfl, rfl, rfl⟩ := hu2
    have SM := lsame_any w2 _ _ hh.x a (hlx.below S2.b) (hla.below S2.b)
    have hoz : Hid (ackB D a = sameB hh.x a) := by show _ = _; unfold ackB; rw [hNk]
    generalize sameB hh.x a = z at *
    replace SM := Lib.hid SM
    clear hek hNk hla hlx
    have a0 := S2.c 1 0 rfl rfl
    have a1 := S2.c 1 1 rfl rfl
    have a2 := S2.c 1 2 rfl rfl
    have a3 := S2.c 1 3 rfl rfl
    have a4 := S2.c 1 4 rfl rfl
    have a5 := S2.c 1 5 rfl rfl
    have r0 := S2.c 0 0 rfl rfl
    have r1 := S2.c 0 1 rfl rfl
    have r2 := S2.c 0 2 rfl rfl
    have r3 := S2.c 0 3 rfl rfl
    have r4 := S2.c 0 4 rfl rfl
    have r5 := S2.c 0 5 rfl rfl
    go_wp2_with fail
    (with_reducible refine (SM.out).mono ?_)
    rintro e w3 ⟨rfl, hb⟩
    clear a0 a1 a2 a3 a4 a5
    clear r0 r1 r2 r3 r4 r5
    replace S2 := S2.call hb
    clear SM hb
    cases z with
    | false =>
      have hf := hfin.out _ S2.b hoz.out
      replace hf := Lib.hid hf
      clear hfin hdel hoz
      go_wp2_with fail
      go_ret2
      exact hf.out
    | true =>
      obtain ⟨w9, run9, hm9, hg9⟩ := (hm.out.below S2.b).run_del pdT 0 (i := a.o) hwf
      have hf := hdel.out _ _ S2.b hoz.out hm9 hg9
      replace hf := Lib.hid hf
      clear hfin hdel hoz hm9 hg9
      have a0 := S2.c 1 0 rfl rfl
      have a1 := S2.c 1 1 rfl rfl
      have a2 := S2.c 1 2 rfl rfl
      have a3 := S2.c 1 3 rfl rfl
      have a4 := S2.c 1 4 rfl rfl
      have a5 := S2.c 1 5 rfl rfl
      go_wp2_with fail
      go_ret2
      exact hf.out

end Go.Proofs.Ytgbcnglagnlmhaa

namespace Go.Proofs.Ytgbcnglagnlmhaa
set_option linter.unusedVariables false
open Go.RowKit Go.Maps Go.Sort Go.Shelf

/-- What is kept for a link of any number. -/
def lkO (N : Fn) (z : Int) : Option Db := if 0 ≤ z ∧ z < 256 then N z.toNat else none
theorem lkO_nat {N : Fn} {i : Nat} (hi : i < 256) : lkO N (i : Int) = N i := by
  unfold lkO; rw [if_pos ⟨by omega, by omega⟩, Int.toNat_natCast]
theorem nbM_none' {N : Fn} {f : Nat → Nat} {z : Int} (h : lkO N z = none) : nbM N f z = none := by
  unfold nbM
  unfold lkO at h
  split
  · next h2 => rw [if_pos h2] at h; rw [h]; rfl
  · rfl
theorem lkO_form {N : Fn} {z : Int} {D : Db} (h : lkO N z = some D) : ∃ i : Nat, z = (i : Int) ∧ i < 256 ∧ N i = some D := by
  unfold lkO at h
  split at h
  · next h2 => exact ⟨z.toNat, by omega, by omega, h⟩
  · cases h
section
variable {w w' : World} {g b : Nat} {iv : Int} {N : Fn} {f : Nat → Nat}
theorem FlAt.down (h : FlAt w g b iv N f) {i : Nat} (hi : i < 256) (hm : MapIs 256 w' b (fun j => if j = (i : Int) then none else nbM N f j)) (hg : w.grownBy w' (some b)) : FlAt w' g b iv (dropN N i) f := by
  have hq := Kq.of_map h.nb hg
  refine ⟨hq.cell h.c0, hq.cell h.c1, ?_, fun j hj D hD => ?_, fun j hj hs => ?_, fun j k hj hk hjs hks e => ?_⟩
  · have e : nbM (dropN N i) f = fun j => if j = (i : Int) then none else nbM N f j := by
      funext z
      unfold nbM dropN
      by_cases e : z = (i : Int)
      · subst e; simp
      · rw [if_neg e]
        split
        · next h2 => rw [if_neg (by omega)]
        · rfl
    rw [e]; exact hm
  · unfold dropN at hD
    split at hD
    · cases hD
    · exact (h.el j hj D hD).kept hq hg (h.ne j hj (by rw [hD]; rfl))
  · unfold dropN at hs
    split at hs
    · cases hs
    · exact h.ne j hj hs
  · unfold dropN at hjs hks
    split at hjs
    · cases hjs
    · split at hks
      · cases hks
      · exact h.inj j k hj hk hjs hks e
end
set_option maxRecDepth 100000 in
set_option maxHeartbeats 1600000 in
theorem fdown_no (w : World) (g b : Nat) (iv : Int) (N : Fn) (f : Nat → Nat) (h : FlAt w g b iv N f) (z : Int) (hz : (Lit.int .i64 z).wf = true) (hN : lkO N z = none) :
    Calls Try.prog 17 #[.pointer (some ⟨g, 0, none⟩), .int .i64 z] w fun e w' => e = .returned (.int .i64 8) ∧ w = w' := by
  have c1 := h.c1
  have K1 := h.nb.run_ok nbT hz
  rw [nbM_none' hN] at K1
  simp only [Option.getD_none, Option.isSome_none] at K1
  clear h hN
  go_enter Try.func17, Try.ntmps17
  go_wp2_with fail
  go_ret
  exact ⟨rfl, rfl⟩
def DownPost (w : World) (g b : Nat) (iv : Int) (N' : Fn) (f : Nat → Nat) (e : Ending) (w' : World) : Prop := e = .returned (.int .i64 0) ∧ FlAt w' g b iv N' f ∧ w.grownBy w' (some b)
set_option maxRecDepth 100000 in
set_option maxHeartbeats 1600000 in
theorem fdown_yes (w : World) (g b : Nat) (iv : Int) (N : Fn) (f : Nat → Nat) (h : FlAt w g b iv N f) (i : Nat) (hi : i < 256) (D : Db) (hD : N i = some D) :
    Calls Try.prog 17 #[.pointer (some ⟨g, 0, none⟩), .int .i64 (i : Int)] w (DownPost w g b iv (dropN N i) f) := by
  have c1 := h.c1
  have hwf : (Lit.int .i64 (i : Int)).wf = true := wf64 (by omega) (by omega)
  have K1 := h.nb.run_ok nbT hwf
  rw [nbM_at hi, hD] at K1
  simp only [Option.map_some, Option.getD_some, Option.isSome_some] at K1
  obtain ⟨w9, run9, hm9, hg9⟩ := h.nb.run_del nbT 0 hwf
  have hf := Lib.hid (h.down hi hm9 hg9)
  clear h hm9
  replace hg9 := Lib.hid hg9
  go_enter Try.func17, Try.ntmps17
  go_wp2_with fail
  go_ret
  exact ⟨rfl, hf.out, hg9.out⟩
set_option maxRecDepth 100000 in
set_option maxHeartbeats 1600000 in
theorem foffer_no (w : World) (g b : Nat) (iv : Int) (N : Fn) (f : Nat → Nat) (h : FlAt w g b iv N f) (z : Int) (hz : (Lit.int .i64 z).wf = true) (hN : lkO N z = none) (v : Value) (a : La) (hv : LaAt w v a) :
    Calls Try.prog 18 #[.pointer (some ⟨g, 0, none⟩), .int .i64 z, v] w fun e w' => e = .returned (.int .i64 8) ∧ Below w.heap.size w w' := by
  obtain ⟨A, c, B, d, rfl, hla⟩ := hv.opened
  have S := (St.start w).new' #[.int .i64 a.o, .int .i64 a.s, .int .i64 a.a, .bool a.ov, .slice A a.adj.length c, .slice B a.pre.length d] 32 w.heap.size _ rfl rfl
  have hb9 := S.b
  have c1 := cell_later S.b h.c1
  have K1 := (h.nb.below S.b).run_ok nbT hz
  rw [nbM_none' hN] at K1
  simp only [Option.getD_none, Option.isSome_none] at K1
  clear h hN hla hv S
  go_enter Try.func18, Try.ntmps18
  go_wp2_with fail
  go_ret
  exact ⟨rfl, hb9⟩
def FofPost (w : World) (g b : Nat) (iv : Int) (N' : Fn) (f : Nat → Nat) (k : Nat) (er : Int) (e : Ending) (w' : World) : Prop := e = .returned (.int .i64 er) ∧ FlAt w' g b iv N' f ∧ w.grownBy w' (some k)
set_option maxRecDepth 100000 in
set_option maxHeartbeats 3200000 in
theorem foffer_bad (w : World) (g b : Nat) (iv : Int) (N : Fn) (f : Nat → Nat) (h : FlAt w g b iv N f) (i : Nat) (hi : i < 256) (D : Db) (hD : N i = some D) (v : Value) (a : La) (hv : LaAt w v a) (hva : ¬ LaValid a) :
    Calls Try.prog 18 #[.pointer (some ⟨g, 0, none⟩), .int .i64 (i : Int), v] w fun e w' => e = .returned (.int .i64 1) ∧ Below w.heap.size w w' := by
  obtain ⟨A, c, B, d, rfl, hla⟩ := hv.opened
  have S := (St.start w).new' #[.int .i64 a.o, .int .i64 a.s, .int .i64 a.a, .bool a.ov, .slice A a.adj.length c, .slice B a.pre.length d] 32 w.heap.size _ rfl rfl
  have c1 := cell_later S.b h.c1
  have hwf : (Lit.int .i64 (i : Int)).wf = true := wf64 (by omega) (by omega)
  have K1 := (h.nb.below S.b).run_ok nbT hwf
  rw [nbM_at hi, hD] at K1
  simp only [Option.map_some, Option.getD_some, Option.isSome_some] at K1
  have V := valid_at _ _ a (hla.below S.b)
  rw [vB_f hva] at V
  replace V := Lib.hid V
  clear h hla hv
  have q0 := S.c 0 0 rfl rfl
  have q1 := S.c 0 1 rfl rfl
  have q2 := S.c 0 2 rfl rfl
  have q3 := S.c 0 3 rfl rfl
  have q4 := S.c 0 4 rfl rfl
  have q5 := S.c 0 5 rfl rfl
  go_enter Try.func18, Try.ntmps18
  go_wp2_with fail
  (with_reducible refine (V.out).mono ?_)
  rintro e w1 ⟨rfl, hb⟩
  replace S := S.call hb
  have hb9 := S.b
  clear hb V S
  clear q0 q1 q2 q3 q4 q5
  go_wp2_with fail
  go_ret
  exact ⟨rfl, hb9⟩
set_option maxRecDepth 100000 in
set_option maxHeartbeats 3200000 in
theorem foffer_yes (w : World) (g b : Nat) (iv : Int) (N : Fn) (f : Nat → Nat) (h : FlAt w g b iv N f) (i : Nat) (hi : i < 256) (D : Db) (hD : N i = some D) (v : Value) (a : La) (hv : LaAt w v a) (hva : LaValid a) :
    Calls Try.prog 18 #[.pointer (some ⟨g, 0, none⟩), .int .i64 (i : Int), v] w (FofPost w g b iv (setN N i (offD D a)) f (f i) 0) := by
  obtain ⟨A, c, B, d, rfl, hla⟩ := hv.opened
  have S := (St.start w).new' #[.int .i64 a.o, .int .i64 a.s, .int .i64 a.a, .bool a.ov, .slice A a.adj.length c, .slice B a.pre.length d] 32 w.heap.size _ rfl rfl
  have c1 := cell_later S.b h.c1
  have hwf : (Lit.int .i64 (i : Int)).wf = true := wf64 (by omega) (by omega)
  have K1 := (h.nb.below S.b).run_ok nbT hwf
  rw [nbM_at hi, hD] at K1
  simp only [Option.map_some, Option.getD_some, Option.isSome_some] at K1
  have V := valid_at _ _ a (hla.below S.b)
  rw [vB_t hva] at V
  have OF := fun W (hb : Below w.heap.size w W) => foffer0_any W g b iv N f (h.below hb) i hi D hD _ a (hla.below hb) hva
  replace V := Lib.hid V
  replace OF := Lib.hid OF
  clear h hla hv
  have q0 := S.c 0 0 rfl rfl
  have q1 := S.c 0 1 rfl rfl
  have q2 := S.c 0 2 rfl rfl
  have q3 := S.c 0 3 rfl rfl
  have q4 := S.c 0 4 rfl rfl
  have q5 := S.c 0 5 rfl rfl
  go_enter Try.func18, Try.ntmps18
  go_wp2_with fail
  (with_reducible refine (V.out).mono ?_)
  rintro e w1 ⟨rfl, hb⟩
  clear q0 q1 q2 q3 q4 q5
  replace S := S.call hb
  clear hb V
  have q0 := S.c 0 0 rfl rfl
  have q1 := S.c 0 1 rfl rfl
  have q2 := S.c 0 2 rfl rfl
  have q3 := S.c 0 3 rfl rfl
  have q4 := S.c 0 4 rfl rfl
  have q5 := S.c 0 5 rfl rfl
  have hbs := S.b
  go_wp2_with fail
  (with_reducible refine (OF.out _ hbs).mono ?_)
  rintro e w2 ⟨rfl, hF, hg⟩
  clear q0 q1 q2 q3 q4 q5
  have hf : FofPost w g b iv (setN N i (offD D a)) f (f i) 0 (.returned (.int .i64 0)) w2 := ⟨rfl, hF, (below_row hbs _).trans hg⟩
  replace hf := Lib.hid hf
  clear hF hg S OF
  go_wp2_with fail
  go_ret
  exact hf.out
set_option maxRecDepth 100000 in
set_option maxHeartbeats 1600000 in
theorem fack_no (w : World) (g b : Nat) (iv : Int) (N : Fn) (f : Nat → Nat) (h : FlAt w g b iv N f) (z : Int) (hz : (Lit.int .i64 z).wf = true) (hN : lkO N z = none) (v : Value) (a : La) (hv : LaAt w v a) :
    Calls Try.prog 16 #[.pointer (some ⟨g, 0, none⟩), .int .i64 z, v] w fun e w' => e = .returned (.tuple #[.bool false, .int .i64 8]) ∧ Below w.heap.size w w' := by
  obtain ⟨A, c, B, d, rfl, hla⟩ := hv.opened
  have S := (St.start w).new' #[.int .i64 a.o, .int .i64 a.s, .int .i64 a.a, .bool a.ov, .slice A a.adj.length c, .slice B a.pre.length d] 32 w.heap.size _ rfl rfl
  have hb9 := S.b
  have c1 := cell_later S.b h.c1
  have K1 := (h.nb.below S.b).run_ok nbT hz
  rw [nbM_none' hN] at K1
  simp only [Option.getD_none, Option.isSome_none] at K1
  clear h hN hla hv S
  go_enter Try.func16, Try.ntmps16
  go_wp2_with fail
  go_ret2
  exact ⟨rfl, hb9⟩

/-! ### Pending of a link that is no neighbour -/
theorem sortedNil_any (w : World) :
    Calls Try.prog 22 #[.func (.func 45) #[] #[.pointer (some ⟨w.heap.size, 0, none⟩)]] (w.alloc (.cells #[.map none] 66)) fun e w' => e = .returned (.slice none 0 0) ∧ Below w.heap.size w w' := by
  have hseq := AnyZI.keys_gives_nil (ρ := Try.lkeysp_ren) { Try.lkeysp with } Fence.wide 2 trivial rfl w.heap.size (w.alloc (.cells #[.map none] 66)) (by simp) (by simp)
  have cS := AnyZI.sorted_in Try.lsorted Fence.wide 5 trivial trivial trivial trivial rfl (by omega) (sorts_in _) (enters_of Try.func44 (by kernel_rfl) rfl) 45 #[.pointer (some ⟨w.heap.size, 0, none⟩)] trivial (enters_of Try.func45 (by kernel_rfl) rfl) _ 0 (by unfold maxLen; omega) (by omega) _ hseq
  change CallsIn _ _ Try.prog 22 _ _ _ at cS
  refine ((callsIn_wide (n := 5)).1 cS).mono ?_
  rintro e w' ⟨v, ss, he, hp, hrow, hnil, hb⟩
  rw [hnil.2 hp] at he
  exact ⟨he, (below_new' w _).trans (hb.mono (by simp))⟩
set_option maxRecDepth 100000 in
set_option maxHeartbeats 1600000 in
theorem fpend_no (w : World) (g b : Nat) (iv : Int) (N : Fn) (f : Nat → Nat) (h : FlAt w g b iv N f) (z : Int) (hz : (Lit.int .i64 z).wf = true) (hN : lkO N z = none) :
    Calls Try.prog 11 #[.pointer (some ⟨g, 0, none⟩), .int .i64 z] w fun e w' => e = .returned (.slice none 0 0) ∧ Below w.heap.size w w' := by
  have c1 := h.c1
  have K1 := h.nb.run_at nbT hz
  rw [nbM_none' hN] at K1
  simp only [Option.getD_none] at K1
  have SN := Lib.hid (sortedNil_any w)
  clear h hN
  go_enter Try.func11, Try.ntmps11
  go_wp2_with fail
  (with_reducible refine (keysP_any _ _).mono ?_)
  rintro e w1 ⟨rfl, rfl⟩
  go_wp2_with fail
  (with_reducible refine (SN.out).mono ?_)
  rintro e w2 ⟨rfl, hb⟩
  clear SN K1 c1
  go_wp2_with fail
  go_loop [5, 21] (fun v5 v21 => v5 = .slice none 0 0 ∧ v21 = .int .i64 0) (fun _ _ => 0)
  case atStart => exact ⟨rfl, rfl⟩
  case round =>
    obtain ⟨rfl, rfl⟩ := hrel
    go_wp2_with fail
    go_ret
    exact ⟨rfl, hb⟩

end Go.Proofs.Ytgbcnglagnlmhaa

namespace Go.Proofs.Ytgbcnglagnlmhaa
set_option linter.unusedVariables false
open Go.RowKit Go.Maps Go.Sort

/-! ### A turn of each neighbour's, one after the other -/
def genK (F : Nat → Db → Db) (N : Fn) (k : Nat) : Fn := fun i => if (i : Int) ∈ (lks N).take k then (N i).map (F i) else N i
theorem genK_zero (F : Nat → Db → Db) (N : Fn) : genK F N 0 = N := by funext i; simp [genK]
theorem genK_end (F : Nat → Db → Db) (N : Fn) (i : Nat) (hi : i < 256) : genK F N (lks N).length i = (N i).map (F i) := by
  unfold genK
  rw [List.take_length]
  by_cases h : (i : Int) ∈ lks N
  · rw [if_pos h]
  · rw [if_neg h]
    cases hN : N i with
    | none => rfl
    | some D => exact absurd ((lks_mem (i : Int)).2 ⟨⟨by omega, by omega⟩, by rw [Int.toNat_natCast, hN]; rfl⟩) h
theorem genK_at (F : Nat → Db → Db) (N : Fn) (k : Nat) (hk : k < (lks N).length) (q : Nat) (hq : (lks N)[k] = (q : Int)) : genK F N k q = N q := by
  unfold genK
  rw [if_neg (by rw [← hq]; exact lks_not hk)]
theorem genK_succ (F : Nat → Db → Db) (N : Fn) (k : Nat) (hk : k < (lks N).length) (q : Nat) (hq : (lks N)[k] = (q : Int)) {D : Db} (hD : N q = some D) : genK F N (k + 1) = setN (genK F N k) q (F q D) := by
  funext i
  unfold genK setN
  rw [List.take_succ_eq_append_getElem hk, hq]
  by_cases e : i = q
  · subst e; simp [hD]
  · have e2 : (i : Int) ≠ (q : Int) := by omega
    simp [e, e2]
theorem genK_some (F : Nat → Db → Db) (N : Fn) (k i : Nat) : (genK F N k i).isSome = (N i).isSome := by
  unfold genK; split <;> simp
theorem FlAt.ext {w : World} {g b : Nat} {iv : Int} {N N' : Fn} {f : Nat → Nat} (h : FlAt w g b iv N f) (e : ∀ i, i < 256 → N' i = N i) : FlAt w g b iv N' f := by
  refine ⟨h.c0, h.c1, ?_, fun i hi D hD => h.el i hi D (by rw [← e i hi]; exact hD), fun i hi hs => h.ne i hi (by rw [← e i hi]; exact hs), fun i j hi hj hs hs' => h.inj i j hi hj (by rw [← e i hi]; exact hs) (by rw [← e j hj]; exact hs')⟩
  have e2 : nbM N' f = nbM N f := by
    funext z
    unfold nbM
    by_cases hz : 0 ≤ z ∧ z < 256
    · rw [if_pos hz, if_pos hz, e z.toNat (by omega)]
    · rw [if_neg hz, if_neg hz]
  rw [e2]; exact h.nb

noncomputable def rmB (D : Db) (a : La) : Bool := match D a.o.toNat with | some h => decide (newI h.x a ≤ 0) | none => false
noncomputable def rmD (D : Db) (a : La) : Db := if rmB D a = true then fun i => if i = a.o.toNat then none else D i else D
noncomputable def sprD (a : La) (ex : Int) (i : Nat) (D : Db) : Db := if ((i : Int) != ex) = true then offD D a else rmD D a
noncomputable def sprN (N : Fn) (a : La) (ex : Int) : Fn := fun i => (N i).map (sprD a ex i)
def SprPost (w : World) (g b : Nat) (iv : Int) (N : Fn) (f : Nat → Nat) (a : La) (ex : Int) (e : Ending) (w' : World) : Prop := e = .returned (.int .i64 0) ∧ FlAt w' g b iv (sprN N a ex) f ∧ Kf (FS N f) w w'

set_option maxRecDepth 100000 in
set_option maxHeartbeats 1600000 in
theorem fspread_bad (w : World) (g : Nat) (v : Value) (a : La) (hv : LaAt w v a) (hva : ¬ LaValid a) (ex : Int) :
    Calls Try.prog 19 #[.pointer (some ⟨g, 0, none⟩), v, .int .i64 ex] w fun e w' => e = .returned (.int .i64 1) ∧ Below w.heap.size w w' := by
  obtain ⟨A, c, B, d, rfl, hla⟩ := hv.opened
  have S := (St.start w).new' #[.int .i64 a.o, .int .i64 a.s, .int .i64 a.a, .bool a.ov, .slice A a.adj.length c, .slice B a.pre.length d] 32 w.heap.size _ rfl rfl
  have V := valid_at _ _ a (hla.below S.b)
  rw [vB_f hva] at V
  replace V := Lib.hid V
  clear hla hv
  have q0 := S.c 0 0 rfl rfl
  have q1 := S.c 0 1 rfl rfl
  have q2 := S.c 0 2 rfl rfl
  have q3 := S.c 0 3 rfl rfl
  have q4 := S.c 0 4 rfl rfl
  have q5 := S.c 0 5 rfl rfl
  go_enter Try.func19, Try.ntmps19
  go_wp2_with fail
  (with_reducible refine (V.out).mono ?_)
  rintro e w1 ⟨rfl, hb⟩
  replace S := S.call hb
  have hb9 := S.b
  clear hb V S
  clear q0 q1 q2 q3 q4 q5
  go_wp2_with fail
  go_ret
  exact ⟨rfl, hb9⟩

set_option maxRecDepth 100000 in
set_option maxHeartbeats 6400000 in
theorem fspread_any (w : World) (g b : Nat) (iv : Int) (N : Fn) (f : Nat → Nat) (h : FlAt w g b iv N f) (v : Value) (a : La) (hv : LaAt w v a) (hva : LaValid a) (ex : Int) :
    Calls Try.prog 19 #[.pointer (some ⟨g, 0, none⟩), v, .int .i64 ex] w (SprPost w g b iv N f a ex) := by
  obtain ⟨A, c, B, d, rfl, hla⟩ := hv.opened
  have S := (St.start w).new' #[.int .i64 a.o, .int .i64 a.s, .int .i64 a.a, .bool a.ov, .slice A a.adj.length c, .slice B a.pre.length d] 32 w.heap.size _ rfl rfl
  have V := valid_at _ _ a (hla.below S.b)
  rw [vB_t hva] at V
  have O := fun W (hb : Below w.heap.size w W) => flinks_any W g b iv N f (h.below hb)
  unfold IntsPost at O
  obtain ⟨len, hlen⟩ : ∃ z, (lks N).length = z := ⟨_, rfl⟩
  have hl256 : len ≤ 256 := by rw [← hlen]; exact lks_len N
  rw [hlen] at O
  replace V := Lib.hid V
  replace O := Lib.hid O
  have q0 := S.c 0 0 rfl rfl
  have q1 := S.c 0 1 rfl rfl
  have q2 := S.c 0 2 rfl rfl
  have q3 := S.c 0 3 rfl rfl
  have q4 := S.c 0 4 rfl rfl
  have q5 := S.c 0 5 rfl rfl
  go_enter Try.func19, Try.ntmps19
  go_wp2_with fail
  (with_reducible refine (V.out).mono ?_)
  rintro e w1 ⟨rfl, hb⟩
  clear q0 q1 q2 q3 q4 q5
  replace S := S.call hb
  clear hb V
  go_wp2_with fail
  (with_reducible refine (O.out _ S.b).mono ?_)
  rintro e w2 ⟨A1, c1, rfl, og, hb⟩
  replace S := S.call hb
  have hF := h.below S.b
  have hla2 := hla.below S.b
  have hrd : Rd w2 A1 ((lks N).map encZ) := own_slice og
  have hbx := S.box 0 rfl
  have hfin : Hid (∀ wr, FlAt wr g b iv (genK (sprD a ex) N len) f → Kf (FS N f) w2 wr → SprPost w g b iv N f a ex (.returned (.int .i64 0)) wr) := fun wr h1 h2 =>
    ⟨rfl, h1.ext fun i hi => by rw [← hlen, genK_end (sprD a ex) N i hi]; rfl, ((Kf.refl _ w).below S.b).trans h2⟩
  have hmid : Hid (FlAt w2 g b iv (genK (sprD a ex) N 0) f ∧ Kf (FS N f) w2 w2) := by
    show _ ∧ _
    rw [genK_zero]; exact ⟨hF, Kf.refl _ _⟩
  replace hF := Lib.hid hF
  replace hla2 := Lib.hid hla2
  replace hrd := Lib.hid hrd
  replace hbx := Lib.hid hbx
  replace hlen := Lib.hid hlen
  clear h hla hv og hb O S
  go_wp2_with fail
  go_loopw [19] (fun v19 wr => ∃ (k : Nat), v19 = .int .i64 k ∧ k ≤ len ∧ Hid (FlAt wr g b iv (genK (sprD a ex) N k) f ∧ Kf (FS N f) w2 wr)) (fun v19 _ => len - (intOf v19).toNat)
  case atStart => exact ⟨0, rfl, by omega, hmid⟩
  case round =>
    clear hmid
    obtain ⟨k, rfl, hk, hmid⟩ := hrel
    obtain ⟨hFl, hKf⟩ := hmid.out
    by_cases hkn : k < len
    · have hkl : k < (lks N).length := by rw [hlen.out]; exact hkn
      have hmem := (lks_mem (N := N) (lks N)[k]).1 (List.getElem_mem hkl)
      obtain ⟨q, hq⟩ := Int.eq_ofNat_of_zero_le hmem.1.1
      have hq256 : q < 256 := by have := hmem.1.2; omega
      have hqs : (N q).isSome = true := by have := hmem.2; rwa [hq, Int.toNat_natCast] at this
      obtain ⟨D, hD⟩ := Option.isSome_iff_exists.1 hqs
      have hat := genK_at (sprD a ex) N k hkl q hq
      have hsucc := genK_succ (sprD a ex) N k hkl q hq hD
      have hDk : genK (sprD a ex) N k q = some D := by rw [hat, hD]
      have hKq := hKf.kq hF.out.maps
      obtain ⟨bz, offz, rfl, hz⟩ := rd_at (hKq.rd hrd.out) (by simp only [List.length_map]; omega)
      have z0 := hz k _ (by rw [List.getElem?_map, List.getElem?_eq_getElem hkl]; rfl)
      rw [hq] at z0
      unfold encZ at z0
      have hB := hKq.box hbx.out
      have hla := hKq.la hla2.out
      have hrow : ∀ w', wr.grownBy w' (some (f q)) → Kf (FS N f) w2 w' := fun w' hg => hKf.row hg (.inl ⟨q, hq256, hqs, rfl⟩)
      replace hrow := Lib.hid hrow
      replace hsucc := Lib.hid hsucc
      replace hDk := Lib.hid hDk
      replace hq := Lib.hid hq
      clear hz hKq hmem hat
      have q0 := hB.c 0 rfl
      have q1 := hB.c 1 rfl
      have q2 := hB.c 2 rfl
      have q3 := hB.c 3 rfl
      have q4 := hB.c 4 rfl
      have q5 := hB.c 5 rfl
      cases hqe : ((q : Int) != ex) with
      | true =>
        have OF := Lib.hid (foffer0_any wr g b iv _ f hFl q hq256 D hDk.out _ a hla hva)
        have e9 : Hid (genK (sprD a ex) N (k + 1) = setN (genK (sprD a ex) N k) q (offD D a)) := show _ = _ by rw [hsucc.out]; unfold sprD; rw [if_pos hqe]
        clear hFl hKf hsucc
        go_wp2_with fail
        (with_reducible refine (OF.out).mono ?_)
        rintro e w3 ⟨rfl, hF3, hg⟩
        clear q0 q1 q2 q3 q4 q5 z0 OF
        have hm9 : Hid (FlAt w3 g b iv (genK (sprD a ex) N (k + 1)) f ∧ Kf (FS N f) w2 w3) := show _ ∧ _ by rw [e9.out]; exact ⟨hF3, hrow.out w3 hg⟩
        clear hF3 hg e9 hrow hB hla
        go_wp2_with fail
        go_round
        case rel => exact ⟨k + 1, by go_num, by omega, hm9⟩
        case measure => simp [intOf]; omega
      | false =>
        have ho := hva.1
        obtain ⟨kk, hkk⟩ := Int.eq_ofNat_of_zero_le ho.1
        obtain ⟨M, hm, he⟩ := hFl.el q hq256 D hDk.out
        have hek := he kk (by omega)
        have hwf : (Lit.int .i64 a.o).wf = true := wf64 ho.1 (by omega)
        have hwl : (Lit.int .i64 (q : Int)).wf = true := wf64 (by omega) (by omega)
        have hnb : (nbM (genK (sprD a ex) N k) f (q : Int)).getD (.map none) = .map (some (f q)) := by rw [nbM_at hq256, hDk.out]; rfl
        have hsame : Hid (rmB D a = false → ∀ w', Below wr.heap.size wr w' → FlAt w' g b iv (genK (sprD a ex) N (k + 1)) f ∧ Kf (FS N f) w2 w') := fun hr w' hb => by
          refine ⟨?_, hKf.below hb⟩
          rw [hsucc.out]
          have eD : sprD a ex q D = D := by unfold sprD rmD; rw [if_neg (by rw [hqe]; simp), hr, if_neg (by simp)]
          rw [eD]
          refine (hFl.below hb).ext fun i hi => ?_
          unfold setN
          by_cases e : i = q
          · subst e; rw [if_pos rfl, hDk.out]
          · rw [if_neg e]
        have hdel : Hid (rmB D a = true → ∀ wa w', Below wr.heap.size wr wa → MapIs 64 w' (f q) (fun j => if j = a.o then none else M j) → wa.grownBy w' (some (f q)) → FlAt w' g b iv (genK (sprD a ex) N (k + 1)) f ∧ Kf (FS N f) w2 w') := fun hr wa w' hb hm' hg => by
          have hgr := (below_row hb (some (f q))).trans hg
          have hq9 := (Kq.of_below hb).trans (Kq.of_map (hm.below hb) hg)
          rw [hkk] at hm'
          have hin := InAt.put hm he hq9 kk (by omega) none none trivial hm'
          refine ⟨?_, hrow.out w' hgr⟩
          rw [hsucc.out]
          have e9 : sprD a ex q D = fun i => if i = kk then none else D i := by
            unfold sprD rmD
            rw [if_neg (by rw [hqe]; simp), hr, if_pos rfl, hkk, Int.toNat_natCast]
          rw [e9]
          exact hFl.turn hq256 (by rw [hDk.out]; rfl) hin hgr
        have c1 := hFl.c1
        have hnbm := hFl.nb
        generalize hMv : (M a.o).getD hdZ = u at *
        generalize hMs : (M a.o).isSome = ok at *
        have hu : ∃ u0 u1 u2 u3 A9 n9 c9 B9 m9 d9 u6, u = .agg #[.int .i64 u0, .int .i64 u1, .int .i64 u2, .bool u3, .slice A9 n9 c9, .slice B9 m9 d9, .int .i64 u6] := by
          rw [← hMv]
          cases hM : M a.o with
          | none => exact ⟨_, _, _, _, _, _, _, _, _, _, _, rfl⟩
          | some vv =>
            rw [← hkk, hM] at hek
            cases hN : D kk with
            | none => rw [hN] at hek; exact hek.elim
            | some hh =>
              rw [hN] at hek
              obtain ⟨A9, c9, B9, d9, rfl, _⟩ := hek
              exact ⟨_, _, _, _, _, _, _, _, _, _, _, rfl⟩
        obtain ⟨u0, u1, u2, u3, A9, n9, c9, B9, m9, d9, u6, rfl⟩ := hu
        replace hMv := Lib.hid hMv
        replace hMs := Lib.hid hMs
        replace hkk := Lib.hid hkk
        clear hFl hKf hmid hsucc
        go_upto_region 10 with fail
        have b2 := below_new' wr (.cells #[.int .i64 0, .int .i64 0, .int .i64 0, .bool false, .slice none 0 0, .slice none 0 0, .int .i64 0] 69)
        have L1 := (hm.drew).run_ok pdT hwf
        have L2 := (hm.below b2).drew.run_ok pdT hwf
        have K1 := (hnbm.drew).run_at nbT hwl
        have K2 := (hnbm.below b2).drew.run_at nbT hwl
        rw [hnb] at K1 K2
        rw [hMv.out, hMs.out] at L1 L2
        have r1 : wr.drew.cell? ⟨g, 1, none⟩ = some (.map (some b)) := c1
        have r2 : (wr.alloc (.cells #[.int .i64 0, .int .i64 0, .int .i64 0, .bool false, .slice none 0 0, .slice none 0 0, .int .i64 0] 69)).drew.cell? ⟨g, 1, none⟩ = some (.map (some b)) := (by have := cell_later b2 c1; exact this)
        have t0 : wr.drew.cell? ⟨w.heap.size, 0, none⟩ = some (.int .i64 a.o) := q0
        have t1 : (wr.alloc (.cells #[.int .i64 0, .int .i64 0, .int .i64 0, .bool false, .slice none 0 0, .slice none 0 0, .int .i64 0] 69)).drew.cell? ⟨w.heap.size, 0, none⟩ = some (.int .i64 a.o) := (by have := cell_later b2 q0; exact this)
        have hnb' := Lib.hid hnb
        clear hnb q0 q1 q2 q3 q4 q5
        go_cut [9, 10] (fun v9 v10 wx => v9 = .pointer (some ⟨wr.heap.size, 0, none⟩) ∧ v10 = .bool ok ∧ wx = (wr.alloc (.cells #[.int .i64 u0, .int .i64 u1, .int .i64 u2, .bool u3, .slice A9 n9 c9, .slice B9 m9 d9, .int .i64 u6] 69)).drew)
        case first =>
          go_region_law (fail)
          all_goals
            go_wp2_with fail
            go_meet
            exact ⟨rfl, rfl, rfl⟩
        case rest =>
          obtain ⟨rfl, rfl, rfl⟩ := hcut
          clear L1 L2 K1 K2 r1 r2 t0 t1 b2
          have b3 := (below_new' wr (.cells #[.int .i64 u0, .int .i64 u1, .int .i64 u2, .bool u3, .slice A9 n9 c9, .slice B9 m9 d9, .int .i64 u6] 69)).drew
          have hx := (Box.new' wr #[.int .i64 u0, .int .i64 u1, .int .i64 u2, .bool u3, .slice A9 n9 c9, .slice B9 m9 d9, .int .i64 u6] 69 wr.heap.size _ rfl rfl).drew
          have hB4 := hB.later b3
          have hla4 := hla.below b3
          have hm4 := hm.below b3
          have hn4 := hnbm.below b3
          have c4 := cell_later b3 c1
          generalize (wr.alloc _).drew = w4 at *
          have b3' := b3
          generalize hxb : wr.heap.size = xb at *
          replace hxb := Lib.hid hxb
          rw [← hxb.out] at b3'
          have x0 := hx.c 0 rfl
          have x1 := hx.c 1 rfl
          have x2 := hx.c 2 rfl
          have x3 := hx.c 3 rfl
          have x4 := hx.c 4 rfl
          have x5 := hx.c 5 rfl
          have q0 := hB4.c 0 rfl
          have q1 := hB4.c 1 rfl
          have q2 := hB4.c 2 rfl
          have q3 := hB4.c 3 rfl
          have q4 := hB4.c 4 rfl
          have q5 := hB4.c 5 rfl
          cases ok with
          | false =>
            have hno : rmB D a = false := by
              have hMn : M a.o = none := by have := hMs.out; simpa using this
              rw [← hkk.out, hMn] at hek
              unfold rmB
              rw [hkk.out, Int.toNat_natCast]
              cases hN : D kk with
              | none => rfl
              | some hh => rw [hN] at hek; exact hek.elim
            have hm9 := Lib.hid (hsame.out hno w4 b3)
            clear hsame hdel hek hno hx hB4 hla4 hm4 hn4 c4
            go_wp2_with fail
            go_round
            case rel => exact ⟨k + 1, by go_num, by omega, hm9⟩
            case measure => simp [intOf]; omega
          | true =>
            obtain ⟨hh, hNk, hu, hlx⟩ : ∃ hh, D kk = some hh ∧ (.agg #[.int .i64 u0, .int .i64 u1, .int .i64 u2, .bool u3, .slice A9 n9 c9, .slice B9 m9 d9, .int .i64 u6] : Value) = hdV hh.x A9 c9 B9 d9 hh.l ∧ LaAt wr (laV hh.x.o hh.x.s hh.x.a hh.x.ov A9 hh.x.adj.length c9 B9 hh.x.pre.length d9) hh.x := by
              rw [hkk.out] at hMs hMv
              cases hM : M (kk : Int) with
              | none => have := hMs.out; rw [hM] at this; cases this
              | some vv =>
                rw [hM] at hek
                cases hN : D kk with
                | none => rw [hN] at hek; exact hek.elim
                | some hh =>
                  rw [hN] at hek
                  obtain ⟨A8, c8, B8, d8, rfl, hla⟩ := hek
                  have hv := hMv.out
                  rw [hM] at hv
                  simp only [Option.getD_some, Value.agg.injEq, Array.mk.injEq, List.cons.injEq, Value.slice.injEq, Value.int.injEq, Value.bool.injEq, true_and, and_true] at hv
                  obtain ⟨rfl, rfl, rfl, rfl, ⟨rfl, rfl, rfl⟩, ⟨rfl, rfl, rfl⟩, rfl⟩ := hv
                  exact ⟨hh, rfl, rfl, hla⟩
            simp only [Value.agg.injEq, Array.mk.injEq, List.cons.injEq, Value.slice.injEq, Value.int.injEq, Value.bool.injEq, true_and, and_true] at hu
            obtain ⟨rfl, rfl, rfl, rfl, rfl, rfl, rfl⟩ := hu
            have NW := lnewer_any w4 _ _ hh.x a (hlx.below b3') hla4
            have hoz : Hid (rmB D a = decide (newI hh.x a ≤ 0)) := by show _ = _; unfold rmB; rw [hkk.out, Int.toNat_natCast, hNk]
            generalize newI hh.x a = z at *
            replace NW := Lib.hid NW
            clear hek hNk hlx hx hla4 hMv hMs
            go_wp2_with fail
            (with_reducible refine (NW.out).mono ?_)
            rintro e w5 ⟨rfl, hb5⟩
            clear NW x0 x1 x2 x3 x4 x5 q0 q1 q2 q3 q4 q5
            have b5 := b3.trans (hb5.mono (by rw [← hxb.out]; exact b3'.size))
            rcases hz : decide (z ≤ 0) with _ | _
            · have hm9 := Lib.hid (hsame.out (by rw [hoz.out, hz]) w5 b5)
              clear hsame hdel hoz hB4 hm4 hn4 c4 hb5
              go_wp2_with fail
              go_round
              case rel => exact ⟨k + 1, by go_num, by omega, hm9⟩
              case measure => simp [intOf]; omega
            · have c5 := cell_later hb5 c4
              have q0 := (hB4.later hb5).c 0 rfl
              have K5 := ((hn4.below hb5).drew).run_at nbT hwl
              rw [hnb'.out] at K5
              obtain ⟨w9, run9, hm9, hg9⟩ := ((hm4.below hb5).drew).run_del pdT 0 (i := a.o) hwf
              have hmz := Lib.hid (hdel.out (by rw [hoz.out, hz]) _ _ b5.drew hm9 hg9)
              clear hsame hdel hoz hB4 hm4 hn4 c4 hb5 hm9 hg9
              go_upto_region 12 with fail
              have s1 : w5.drew.cell? ⟨g, 1, none⟩ = some (.map (some b)) := c5
              have s2 : w5.drew.cell? ⟨w.heap.size, 0, none⟩ = some (.int .i64 a.o) := q0
              go_region_law (fail)
              all_goals
                go_wp2_with fail
                go_round
                case rel => exact ⟨k + 1, by go_num, by omega, hmz⟩
                case measure => simp [intOf]; omega
    · obtain rfl : len = k := by omega
      have hf := hfin.out _ hFl hKf
      clear hFl hKf hmid
      go_wp2_with fail
      go_ret
      exact hf

end Go.Proofs.Ytgbcnglagnlmhaa

namespace Go.Proofs.Ytgbcnglagnlmhaa
set_option linter.unusedVariables false
open Go.RowKit Go.Maps Go.Sort

/-- What a list of offers makes. -/
noncomputable def offs (D : Db) (l : List La) : Db := l.foldl offD D
theorem offs_next (l : List Lx) (k : Nat) (hk : k < l.length) (D : Db) : offs D ((laL l).take (k + 1)) = offD (offs D ((laL l).take k)) l[k].y := by
  unfold offs
  rw [List.take_succ_eq_append_getElem (by simpa [laL] using hk), List.foldl_append, laL_get l k hk]
  rfl
/-- A new neighbour. -/
theorem FlAt.up {w w' : World} {g b : Nat} {iv : Int} {N : Fn} {f : Nat → Nat} (h : FlAt w g b iv N f) {i : Nat} (hi : i < 256) (hm' : MapIs 256 w' b (fun j => if j = (i : Int) then some (.map (some w.heap.size)) else nbM N f j))
    (hnew : MapIs 64 w' w.heap.size (fun _ => none)) (hq : Kq w w') (hkeep : ∀ j, j < 256 → (N j).isSome = true → ∀ D, N j = some D → InAt w' (f j) D) : FlAt w' g b iv (setN N i (fun _ => none)) (fun j => if j = i then w.heap.size else f j) := by
  have hlt := h.lt
  refine ⟨hq.cell h.c0, hq.cell h.c1, ?_, fun j hj D hD => ?_, fun j hj hs => ?_, fun j k hj hk hjs hks e => ?_⟩
  · have e : nbM (setN N i (fun _ => none)) (fun j => if j = i then w.heap.size else f j) = (fun j => if j = (i : Int) then some (.map (some w.heap.size)) else nbM N f j) := by
      funext z
      unfold nbM setN
      by_cases e : z = (i : Int)
      · subst e
        rw [if_pos ⟨by omega, by omega⟩]
        simp
      · simp only [if_neg e]
        by_cases hz : 0 ≤ z ∧ z < 256
        · have e2 : z.toNat ≠ i := by omega
          simp only [if_pos hz, if_neg e2]
        · simp only [if_neg hz]
    rw [e]; exact hm'
  · unfold setN at hD
    by_cases e : j = i
    · subst e
      simp only [if_true, Option.some.injEq] at hD
      subst hD
      simp only [if_true]
      exact ⟨_, hnew, fun o _ => trivial⟩
    · simp only [if_neg e] at hD ⊢
      exact hkeep j hj (by rw [hD]; rfl) D hD
  · unfold setN at hs
    by_cases e : j = i
    · simp only [if_pos e]; omega
    · simp only [if_neg e] at hs ⊢; exact h.ne j hj hs
  · unfold setN at hjs hks
    by_cases e1 : j = i
    · by_cases e2 : k = i
      · omega
      · simp only [if_pos e1, if_neg e2] at e hks
        have := h.flt hk hks
        omega
    · by_cases e2 : k = i
      · simp only [if_neg e1, if_pos e2] at e hjs
        have := h.flt hj hjs
        omega
      · simp only [if_neg e1, if_neg e2] at e hjs hks
        exact h.inj j k hj hk hjs hks e
def UpPost (w : World) (g b : Nat) (iv : Int) (N' : Fn) (f : Nat → Nat) (i : Nat) (e : Ending) (w' : World) : Prop := e = .returned (.int .i64 0) ∧ ∃ k, w.heap.size ≤ k ∧ FlAt w' g b iv N' (fun j => if j = i then k else f j) ∧ w.grownBy w' (some b)

set_option maxRecDepth 100000 in
set_option maxHeartbeats 6400000 in
theorem fup_any (w : World) (g b : Nat) (iv : Int) (N : Fn) (f : Nat → Nat) (h : FlAt w g b iv N f) (i : Nat) (hi : i < 256) (A : Option Addr) (n c : Nat) (l : List Lx) (hA : Rd w A (lxV l)) (hn : l.length = n) (hm : n ≤ 1000000) (hok : ∀ s ∈ l, LxOk w s ∧ LaValid s.y) :
    Calls Try.prog 8 #[.pointer (some ⟨g, 0, none⟩), .int .i64 (i : Int), .slice A n c] w (UpPost w g b iv (setN N i (offs (fun _ => none) (laL l))) f i) := by
  have S := (St.start w).read hA
  have hnb := h.nb
  have hc1 := h.c1
  have hgb := h.lt
  have hwi : (Lit.int .i64 (i : Int)).wf = true := wf64 (by omega) (by omega)
  have hi9 : (i : Int) < 256 := by omega
  replace hn := Lib.hid hn
  replace hok := Lib.hid hok
  clear hA
  have hmk := @run_makeMap Try.prog
  go_enter Try.func8, Try.ntmps8
  go_wp2_with fail
  go_loopw [21] (fun v21 wr => ∃ (k : Nat), v21 = .int .i64 k ∧ k ≤ n ∧ St w wr [] [(A, lxV l)]) (fun v21 _ => n - (intOf v21).toNat)
  case atStart => exact ⟨0, rfl, by omega, S⟩
  case round =>
    clear S
    obtain ⟨k, rfl, hk, S⟩ := hrel
    by_cases hkn : k < n
    · have hkl : k < l.length := by rw [hn.out]; exact hkn
      obtain ⟨ba, off, rfl⟩ := lx_form (S.r 0 rfl) (by omega)
      obtain ⟨hso, hva⟩ := hok.out l[k] (List.getElem_mem hkl)
      obtain ⟨s, hs⟩ : ∃ s, l[k] = s := ⟨_, rfl⟩
      rw [hs] at hso hva
      have hcell := fun W (h : Rd W (some ⟨ba, off, none⟩) (lxV l)) => lx_cells h k hkl s hs
      clear hs hkl
      obtain ⟨y, A2, c2, B2, d2⟩ := s
      unfold LxOk at hso
      simp only at hso hcell hva
      obtain ⟨x0, x1, x2, x3, x4, x5⟩ := hcell _ (S.r 0 rfl)
      have V := fun W hb => valid_at W _ y (hso.below hb)
      rw [vB_t hva] at V
      replace V := Lib.hid V
      clear hcell hso
      go_upto_region 8 with fail
      replace S := S.new' #[.int .i64 y.o, .int .i64 y.s, .int .i64 y.a, .bool y.ov, .slice A2 y.adj.length c2, .slice B2 y.pre.length d2] 32 wr.heap.size _ rfl rfl
      clear x0 x1 x2 x3 x4 x5
      generalize World.alloc wr _ = w4 at *
      generalize wr.heap.size = g4 at *
      have r0 := S.c 0 0 rfl rfl
      have r1 := S.c 0 1 rfl rfl
      have r2 := S.c 0 2 rfl rfl
      have r3 := S.c 0 3 rfl rfl
      have r4 := S.c 0 4 rfl rfl
      have r5 := S.c 0 5 rfl rfl
      go_wp2_with fail
      (with_reducible refine (V.out _ S.b).mono ?_)
      rintro e w5 ⟨rfl, hb⟩
      clear r0 r1 r2 r3 r4 r5
      replace S := (S.call hb).keepBoxes [] (by simp)
      clear hb V
      go_wp2_with fail
      go_round
      case rel => exact ⟨k + 1, by go_num, by omega, S⟩
      case measure => simp [intOf]; omega
    · obtain rfl : k = n := by omega
      have hc2 := cell_later S.b hc1
      have eqn := fun W => (show (binOp .eql 62 (.map (some b)) (.map none)).run Try.prog W = .ok (.bool false) W by kernel_rfl)
      have hnb2 := hnb.below S.b
      have hFl := h.below S.b
      have hb0 := Lib.hid S.b
      have hsz := S.b.size
      -- the new map
      have hba := below_new' wr (.map #[] 0)
      obtain ⟨w9, run9, hm9, hg9⟩ := (hnb2.below hba).run_put nbT (by omega) (i := (i : Int)) (by omega) hi9 (.map (some wr.heap.size))
      have hq9 := (Kq.of_below hba).trans (Kq.of_map (hnb2.below hba) hg9)
      have hFl9 : FlAt w9 g b iv (setN N i (fun _ => none)) (fun j => if j = i then wr.heap.size else f j) := hFl.up hi hm9 ((MapIs.made 64 wr).kept hg9 (fun e => by injection e with e; have := hFl.lt; omega)) hq9 (fun j hj hs D hD => ((hFl.below hba).el j hj D hD).kept (Kq.of_map (hnb2.below hba) hg9) hg9 (h.ne j hj hs))
      have hg0 : w.grownBy w9 (some b) := (below_row hb0.out (some b)).andThen ((below_row hba (some b)).trans hg9) (fun j e => .inr e)
      have hq0 : Kq w w9 := (Kq.of_below hb0.out).trans hq9
      have hkb : w.heap.size ≤ wr.heap.size := hsz
      have e0 : offs (fun _ => none) ((laL l).take 0) = fun _ => none := rfl
      rw [← e0] at hFl9
      clear e0 hm9 hg9 hq9 hba hFl hnb2 hb0 hsz hnb
      obtain ⟨kb, hkbe⟩ : ∃ z, wr.heap.size = z := ⟨_, rfl⟩
      rw [hkbe] at hFl9 hkb
      have hrd0 : Hid (Rd w A (lxV l)) := S.rd 0 _ rfl
      replace hFl9 := Lib.hid hFl9
      replace hg0 := Lib.hid hg0
      replace hq0 := Lib.hid hq0
      replace hkbe := Lib.hid hkbe
      clear S
      go_wp2_with fail
      go_loopw [46] (fun v46 wr => ∃ (q : Nat), v46 = .int .i64 q ∧ q ≤ k ∧ Hid (FlAt wr g b iv (setN N i (offs (fun _ => none) ((laL l).take q))) (fun j => if j = i then kb else f j)) ∧ Hid (w.grownBy wr (some b)) ∧ Hid (Kq w wr)) (fun v46 _ => k - (intOf v46).toNat)
      case atStart => exact ⟨0, rfl, by omega, hFl9, hg0, hq0⟩
      case round =>
        clear hFl9 hg0 hq0 run9
        obtain ⟨q, rfl, hq, hFl, hg, hKq⟩ := hrel
        by_cases hqn : q < k
        · have hql : q < l.length := by rw [hn.out]; exact hqn
          have hrd := hKq.out.rd hrd0.out
          obtain ⟨ba, off, rfl⟩ := lx_form hrd (by omega)
          obtain ⟨hso, hva⟩ := hok.out l[q] (List.getElem_mem hql)
          have hnx := offs_next l q hql (fun _ => none)
          obtain ⟨s, hs⟩ : ∃ s, l[q] = s := ⟨_, rfl⟩
          rw [hs] at hso hva hnx
          obtain ⟨x0, x1, x2, x3, x4, x5⟩ := lx_cells hrd q hql s hs
          clear hs hql hrd
          obtain ⟨y, A2, c2, B2, d2⟩ := s
          unfold LxOk at hso
          simp only at hso x0 x1 x2 x3 x4 x5 hva hnx
          have hbn := below_new' wr (.cells #[.int .i64 y.o, .int .i64 y.s, .int .i64 y.a, .bool y.ov, .slice A2 y.adj.length c2, .slice B2 y.pre.length d2] 32)
          have hbx := Box.new' wr #[.int .i64 y.o, .int .i64 y.s, .int .i64 y.a, .bool y.ov, .slice A2 y.adj.length c2, .slice B2 y.pre.length d2] 32 wr.heap.size _ rfl rfl
          have OF := foffer0_any _ g b iv _ _ (hFl.out.below hbn) i hi (offs (fun _ => none) ((laL l).take q)) (by unfold setN; rw [if_pos rfl]) _ y ((hKq.out.la hso).below hbn) hva
          unfold OfferPost at OF
          have hKq2 := hKq.out.trans (Kq.of_below hbn)
          have hg2 := hg.out.andThen (below_row hbn none) (fun j e => by cases e)
          replace OF := Lib.hid OF
          replace hnx := Lib.hid hnx
          have hin : ∃ M, MapIs 64 (wr.alloc (.cells #[.int .i64 y.o, .int .i64 y.s, .int .i64 y.a, .bool y.ov, .slice A2 y.adj.length c2, .slice B2 y.pre.length d2] 32)) kb M := by
            obtain ⟨M, hm, _⟩ := (hFl.out.below hbn).el i hi (offs (fun _ => none) ((laL l).take q)) (by unfold setN; rw [if_pos rfl])
            simp only [if_true] at hm
            exact ⟨M, hm⟩
          replace hin := Lib.hid hin
          clear hso hFl hKq hg hbn
          go_upto_region 17 with fail
          generalize World.alloc wr _ = w4 at *
          generalize wr.heap.size = g4 at *
          have r0 := hbx.c 0 rfl
          have r1 := hbx.c 1 rfl
          have r2 := hbx.c 2 rfl
          have r3 := hbx.c 3 rfl
          have r4 := hbx.c 4 rfl
          have r5 := hbx.c 5 rfl
          clear x0 x1 x2 x3 x4 x5 hbx
          go_wp2_with fail
          (with_reducible refine (OF.out).mono ?_)
          rintro e w5 ⟨rfl, hFl5, hg5⟩
          clear r0 r1 r2 r3 r4 r5
          simp only [if_true] at hg5
          have hFl6 : Hid (FlAt w5 g b iv (setN N i (offs (fun _ => none) ((laL l).take (q + 1)))) (fun j => if j = i then kb else f j)) := by
            rw [hnx.out]
            have e : setN (setN N i (offs (fun _ => none) ((laL l).take q))) i (offD (offs (fun _ => none) ((laL l).take q)) y) = setN N i (offD (offs (fun _ => none) ((laL l).take q)) y) := by
              funext j; unfold setN; split <;> rfl
            rw [e] at hFl5
            exact hFl5
          have hg6 : Hid (w.grownBy w5 (some b)) := hg2.andThen hg5 (fun j e => by injection e with e; exact .inl (by omega))
          obtain ⟨M, hmM⟩ := hin.out
          have hKq6 : Hid (Kq w w5) := hKq2.trans (Kq.of_map hmM hg5)
          clear hFl5 hg5 hg2 hKq2 OF hnx hmM hin
          go_wp2_with fail
          go_round
          case rel => exact ⟨q + 1, by go_num, by omega, hFl6, hg6, hKq6⟩
          case measure => simp [intOf]; omega
        · obtain rfl : q = k := by omega
          have hf : Hid (UpPost w g b iv (setN N i (offs (fun _ => none) (laL l))) f i (.returned (.int .i64 0)) wr) := by
            have e : (laL l).take q = laL l := List.take_of_length_le (by rw [List.length_map, hn.out]; omega)
            have hF := hFl.out
            rw [e] at hF
            exact ⟨rfl, kb, hkb, hF, hg.out⟩
          clear hFl hg hKq
          go_wp2_with fail
          go_ret
          exact hf.out

end Go.Proofs.Ytgbcnglagnlmhaa

namespace Go.Proofs.Ytgbcnglagnlmhaa
set_option linter.unusedVariables false
open Go.RowKit Go.Maps Go.Sort

def PollPost (w : World) (g b : Nat) (iv : Int) (N : Fn) (f : Nat → Nat) (e : Ending) (w' : World) : Prop :=
  ∃ A c ls, e = .returned (.slice A ls.length c) ∧ w'.ownsRow w.heap.size 61 7 (.slice A ls.length c) ls.length (sdV ls) ∧ sdP ls = sndK N (lks N) ∧ (∀ s ∈ ls, LxOwn w' w.heap.size s.x) ∧ FlAt w' g b iv (polN iv N) f ∧ Kf (FS N f) w w'

set_option maxRecDepth 100000 in
set_option maxHeartbeats 12800000 in
theorem fpoll_any (w : World) (g b : Nat) (iv : Int) (N : Fn) (f : Nat → Nat) (h : FlAt w g b iv N f) (hok : FnOk N) :
    Calls Try.prog 10 #[.pointer (some ⟨g, 0, none⟩)] w (PollPost w g b iv N f) := by
  have O := flinks_any w g b iv N f h
  unfold IntsPost at O
  obtain ⟨len, hlen⟩ : ∃ z, (lks N).length = z := ⟨_, rfl⟩
  have hl256 : len ≤ 256 := by rw [← hlen]; exact lks_len N
  rw [hlen] at O
  replace O := Lib.hid O
  go_enter Try.func10, Try.ntmps10
  go_wp2_with fail
  (with_reducible refine (O.out).mono ?_)
  rintro e w1 ⟨A, c, rfl, og, hb⟩
  clear O
  have hF := h.below hb
  have hsz1 := hb.size
  have hfin : Hid (∀ wr AS cS ls, FlMid w1 wr g b N f (polK iv N len) → wr.ownsRow w1.heap.size 61 7 (.slice AS ls.length cS) ls.length (sdV ls) → sdP ls = sndK N (lks N) → (∀ s ∈ ls, LxOwn wr w1.heap.size s.x) → PollPost w g b iv N f (.returned (.slice AS ls.length cS)) wr) := fun wr AS cS ls hm ho hp hx => by
    have h1 := hm.fin hF (fun i _ => polK_some iv N len i)
    refine ⟨AS, cS, ls, rfl, own_mono ho hsz1, hp, fun s hs => LaOwn.mono' (hx s hs) hsz1, ?_, ((Kf.refl _ w).below hb).trans hm.kf⟩
    refine ⟨h1.c0, h1.c1, ?_, fun i hi D hD => h1.el i hi D (by rw [← hlen, polK_end iv N i hi]; exact hD), fun i hi hs => hF.ne i hi (by simpa [polN] using hs), fun i j hi hj hs hs' => hF.inj i j hi hj (by simpa [polN] using hs) (by simpa [polN] using hs')⟩
    have e : nbM (polN iv N) f = nbM (polK iv N len) f := by
      funext z
      unfold nbM
      by_cases hz : 0 ≤ z ∧ z < 256
      · rw [if_pos hz, if_pos hz, ← hlen, polK_end iv N z.toNat (by omega)]
      · rw [if_neg hz, if_neg hz]
    rw [e]; exact h1.nb
  have hmid : Hid (FlMid w1 w1 g b N f (polK iv N 0)) := by rw [polK_zero]; exact hF.mid
  have hpo : Hid (PoA w.heap.size w1.heap.size w1 A len c (lks N) none 0 0 [] (.slice none 0 0) []) := ⟨by rw [hlen] at *; exact og, World.ownsRow_nil _ _ _ _, World.ownsRow_nil _ _ _ _, by simp⟩
  have hsp : Hid (sdP [] = sndK N ((lks N).take 0)) := rfl
  replace hF := Lib.hid hF
  replace hok := Lib.hid hok
  replace hlen := Lib.hid hlen
  clear h og hb
  go_wp2_with fail
  go_loopw [3, 13] (fun v3 v13 wr => ∃ (k : Nat) (AS : Option Addr) (cS : Nat) (ls : List Sd), v13 = .int .i64 k ∧ v3 = .slice AS ls.length cS ∧ k ≤ len ∧ ls.length ≤ 64 * k ∧ Hid (FlMid w1 wr g b N f (polK iv N k)) ∧ Hid (PoA w.heap.size w1.heap.size wr A len c (lks N) none 0 0 [] (.slice AS ls.length cS) ls) ∧ Hid (sdP ls = sndK N ((lks N).take k))) (fun _ v13 _ => len - (intOf v13).toNat)
  case atStart => exact ⟨0, none, 0, [], rfl, rfl, by omega, by simp, hmid, hpo, hsp⟩
  case round =>
    clear hmid hpo hsp
    obtain ⟨k, AS, cS, ls, rfl, rfl, hk, hls, hmid, hpo, hsp⟩ := hrel
    by_cases hkn : k < len
    · have hkl : k < (lks N).length := by rw [hlen.out]; exact hkn
      have hmem := (lks_mem (N := N) (lks N)[k]).1 (List.getElem_mem hkl)
      obtain ⟨q, hq⟩ := Int.eq_ofNat_of_zero_le hmem.1.1
      have hq256 : q < 256 := by have := hmem.1.2; omega
      have hqs : (N q).isSome = true := by have := hmem.2; rwa [hq, Int.toNat_natCast] at this
      obtain ⟨D, hD⟩ := Option.isSome_iff_exists.1 hqs
      have hat := polK_at iv N k hkl q hq
      have hsucc := polK_succ iv N k hkl q hq hD
      have hssc := sndK_succ N k hkl q hq hD
      obtain ⟨M, hm, he⟩ := hmid.out.el q hq256 D (by rw [hat, hD])
      have hko := keysL_orgs he
      have hrd2 : Rd wr A ((lks N).map encZ) := own_slice hpo.out.o1
      obtain ⟨bz, offz, rfl, hz⟩ := rd_at hrd2 (by simp only [List.length_map]; omega)
      have z0 := hz k _ (by rw [List.getElem?_map, List.getElem?_eq_getElem hkl]; rfl)
      rw [hq] at z0
      unfold encZ at z0
      have x1 := hmid.out.c1
      have hwq : (Lit.int .i64 (q : Int)).wf = true := wf64 (by omega) (by omega)
      have K1 := hmid.out.nb.run_at nbT hwq
      rw [nbM_at hq256, hD] at K1
      simp only [Option.map_some, Option.getD_some] at K1
      have SO := sortedP_any wr (f q) 64 M hm (by omega)
      unfold SortedPost at SO
      rw [hko] at SO
      obtain ⟨no, hno⟩ : ∃ z, (orgs D).length = z := ⟨_, rfl⟩
      have hno64 : no ≤ 64 := by rw [← hno]; exact orgs_len D
      rw [hno] at SO
      replace SO := Lib.hid SO
      replace hsucc := Lib.hid hsucc
      replace hssc := Lib.hid hssc
      replace hq := Lib.hid hq
      replace hno := Lib.hid hno
      have hkl' := Lib.hid hkl
      clear hz hrd2 hmem hat hm he hko
      go_wp2_with fail
      (with_reducible refine (keysP_any _ _).mono ?_)
      rintro e w4 ⟨rfl, rfl⟩
      go_wp2_with fail
      (with_reducible refine SO.out.mono ?_)
      rintro e w5 ⟨A2, c2, rfl, og2, hb5⟩
      clear SO K1 x1 z0
      have hb4 := (below_new' wr (.cells #[.map (some (f q))] 66)).trans (hb5.mono (by simp))
      have hmid5 : Hid (FlMid w1 w5 g b N f (setN (polK iv N k) q (polJ iv D 0))) := by
        have h1 := hmid.out.below hb4
        have e : setN (polK iv N k) q (polJ iv D 0) = polK iv N k := by
          rw [polJ_zero]
          funext j
          unfold setN
          by_cases e : j = q
          · subst e; rw [if_pos rfl, polK_at iv N k hkl j hq.out, hD]
          · rw [if_neg e]
        rw [e]; exact h1
      have hszw : w1.heap.size ≤ wr.heap.size := hmid.out.kf.size
      have hpo5 : Hid (PoA w.heap.size w1.heap.size w5 (some ⟨bz, offz, none⟩) len c (lks N) A2 no c2 (orgs D) (.slice AS ls.length cS) ls) := by
        have h1 := hpo.out.below hb4
        exact ⟨h1.o1, own_mono og2 (by simp; omega), h1.os, h1.ok⟩
      have hsp5 : Hid (sdP ls = sndK N ((lks N).take k) ++ sndJ (q : Int) D ((orgs D).take 0)) := by
        show _ = _
        rw [hsp.out]; simp [sndJ]
      clear hmid hpo hsp og2 hb5 hb4
      go_wp2_with fail
      go_loopw [3, 27] (fun v3 v27 wx => ∃ (j : Nat) (AS : Option Addr) (cS : Nat) (ls : List Sd), v27 = .int .i64 j ∧ v3 = .slice AS ls.length cS ∧ j ≤ no ∧ ls.length ≤ 64 * k + j ∧ Hid (FlMid w1 wx g b N f (setN (polK iv N k) q (polJ iv D j))) ∧ Hid (PoA w.heap.size w1.heap.size wx (some ⟨bz, offz, none⟩) len c (lks N) A2 no c2 (orgs D) (.slice AS ls.length cS) ls) ∧ Hid (sdP ls = sndK N ((lks N).take k) ++ sndJ (q : Int) D ((orgs D).take j))) (fun _ v27 _ => no - (intOf v27).toNat)
      case atStart => exact ⟨0, AS, cS, ls, rfl, rfl, by omega, by omega, hmid5, hpo5, hsp5⟩
      case round =>
        clear hmid5 hpo5 hsp5
        obtain ⟨j, AS, cS, ls, rfl, rfl, hj, hls, hmid, hpo, hsp⟩ := hrel
        by_cases hjn : j < no
        · have hjl : j < (orgs D).length := by rw [hno.out]; exact hjn
          have hmem := (orgs_mem (D := D) (orgs D)[j]).1 (List.getElem_mem hjl)
          obtain ⟨o, ho⟩ := Int.eq_ofNat_of_zero_le hmem.1.1
          have ho64 : o < 64 := by have := hmem.1.2; omega
          obtain ⟨hh, hDo⟩ : ∃ hh, D o = some hh := by
            have := hmem.2
            rw [ho, Int.toNat_natCast] at this
            exact Option.isSome_iff_exists.1 this
          have hst : Hid (∀ i, i < 256 → (setN (polK iv N k) q (polJ iv D j) i).isSome = true → (N i).isSome = true) := fun i hi hs => by
            unfold setN at hs
            split at hs
            · next e => rw [e]; exact hqs
            · rwa [polK_some] at hs
          obtain ⟨M, hm, he⟩ := hmid.out.el q hq256 (polJ iv D j) (by unfold setN; rw [if_pos rfl])
          have hel := he o ho64
          rw [polJ_at iv D j hjl o ho, hDo] at hel
          obtain ⟨Mv, hMv⟩ : ∃ Mv, M (o : Int) = Mv := ⟨_, rfl⟩
          rw [hMv] at hel
          cases Mv with
          | none => exact hel.elim
          | some vv =>
          obtain ⟨A5, c5, B5, d5, rfl, hla⟩ := hel
          have hwo : (Lit.int .i64 (o : Int)).wf = true := wf64 (by omega) (by omega)
          have K2 := hm.run_at pdT hwo
          rw [hMv] at K2
          simp only [Option.getD_some] at K2
          have hrd2 : Rd wr A2 ((orgs D).map encZ) := own_slice hpo.out.o2
          obtain ⟨by2, offy, rfl, hz⟩ := rd_at hrd2 (by simp only [List.length_map]; omega)
          have z0 := hz j _ (by rw [List.getElem?_map, List.getElem?_eq_getElem hjl]; rfl)
          rw [ho] at z0
          unfold encZ at z0
          have hb5 := hok.out q D o hh hD hDo
          have hKq := hmid.out.kf.kq hF.out.maps
          have hla2 := hKq.la hla
          replace hla := Lib.hid hla
          replace hb5 := Lib.hid hb5
          unfold hdV at K2
          replace hm := Lib.hid hm
          replace he := Lib.hid he
          replace hMv := Lib.hid hMv
          have hjl' := Lib.hid hjl
          replace ho := Lib.hid ho
          clear hz hrd2 hmem hKq
          by_cases hll : 0 < hh.l
          · have hs1 : Hid (setN (polK iv N k) q (polJ iv D (j + 1)) = setN (polK iv N k) q (polJ iv D j)) := by
              show _ = _
              rw [polJ_same iv D j hjl o ho.out hDo hll]
            have hs2 := sndJ_no (q : Int) D j hjl o ho.out hDo hll
            rw [← hs1.out] at hmid
            rw [← hs2] at hsp
            have hbn := below_new' wr (.cells #[.int .i64 hh.x.o, .int .i64 hh.x.s, .int .i64 hh.x.a, .bool hh.x.ov, .slice A5 hh.x.adj.length c5, .slice B5 hh.x.pre.length d5, .int .i64 hh.l] 69)
            have hbx := Box.new' wr #[.int .i64 hh.x.o, .int .i64 hh.x.s, .int .i64 hh.x.a, .bool hh.x.ov, .slice A5 hh.x.adj.length c5, .slice B5 hh.x.pre.length d5, .int .i64 hh.l] 69 wr.heap.size _ rfl rfl
            replace hmid := Lib.hid (hmid.out.below hbn)
            replace hpo := Lib.hid (hpo.out.below hbn)
            clear hs1 hs2 hm he hla2 hbn
            go_upto_region 10 with fail
            clear K2 z0
            generalize World.alloc wr _ = w6 at *
            generalize wr.heap.size = g6 at *
            have a6 := hbx.c 6 rfl
            clear hbx
            go_wp2_with fail
            go_round
            case rel => exact ⟨j + 1, AS, cS, ls, by go_num, rfl, by omega, by omega, hmid, hpo, hsp⟩
            case measure => simp [intOf]; omega
          · have hs2 := sndJ_yes (q : Int) D j hjl o ho.out hDo hll
            have hpj := polJ_succ iv D j hjl o ho.out hDo
            have hadj := hb5.out.1.2.2.2.1
            have hpre := hb5.out.1.2.2.2.2.1
            have C := fun W hb => fclone_any W _ hh.x (hla2.below hb) (by omega) (by omega)
            replace C := Lib.hid C
            have hbn := below_new' wr (.cells #[.int .i64 hh.x.o, .int .i64 hh.x.s, .int .i64 hh.x.a, .bool hh.x.ov, .slice A5 hh.x.adj.length c5, .slice B5 hh.x.pre.length d5, .int .i64 hh.l] 69)
            have hbx := Box.new' wr #[.int .i64 hh.x.o, .int .i64 hh.x.s, .int .i64 hh.x.a, .bool hh.x.ov, .slice A5 hh.x.adj.length c5, .slice B5 hh.x.pre.length d5, .int .i64 hh.l] 69 wr.heap.size _ rfl rfl
            have hty : ∃ cs fr, (wr.alloc (.cells #[.int .i64 hh.x.o, .int .i64 hh.x.s, .int .i64 hh.x.a, .bool hh.x.ov, .slice A5 hh.x.adj.length c5, .slice B5 hh.x.pre.length d5, .int .i64 hh.l] 69)).heap[wr.heap.size]? = some (.cells cs 69 fr) := ⟨_, _, heap_alloc_new wr _⟩
            have hg6 : w1.heap.size ≤ wr.heap.size := hmid.out.kf.size
            replace hmid := Lib.hid (hmid.out.below hbn)
            replace hpo := Lib.hid (hpo.out.below hbn)
            have C6 := C.out _ hbn
            replace C6 := Lib.hid C6
            replace hs2 := Lib.hid hs2
            replace hpj := Lib.hid hpj
            clear hm he hla2 hbn C
            go_upto_region 10 with fail
            clear K2 z0
            generalize World.alloc wr _ = w6 at *
            generalize wr.heap.size = g6 at *
            have a0 := hbx.c 0 rfl
            have a1 := hbx.c 1 rfl
            have a2 := hbx.c 2 rfl
            have a3 := hbx.c 3 rfl
            have a4 := hbx.c 4 rfl
            have a5 := hbx.c 5 rfl
            have a6 := hbx.c 6 rfl
            have hl0 : decide (0 < hh.l) = false := by simpa using hll
            go_wp2_with fail
            (with_reducible refine (C6.out).mono ?_)
            rintro e w7 ⟨v7, rfl, hown, hb7⟩
            clear a0 a1 a2 a3 a4 a5 a6 C6
            have hsz6 : w1.heap.size ≤ w6.heap.size := hmid.out.kf.size
            have hown' : LaOwn w7 w1.heap.size v7 hh.x := hown.mono' hsz6
            replace hmid := Lib.hid (hmid.out.below hb7)
            replace hpo := Lib.hid (hpo.out.below hb7)
            replace hbx := hbx.later hb7
            replace hty := ty_below hty hb7
            obtain ⟨A7, c7, B7, d7, hv7⟩ := hown'.at.form
            subst hv7
            have hb8 := below_new' w7 (.cells #[.int .i64 (q : Int), .int .i64 hh.x.o, .int .i64 hh.x.s, .int .i64 hh.x.a, .bool hh.x.ov, .slice A7 hh.x.adj.length c7, .slice B7 hh.x.pre.length d7] 61)
            have rd0 := Rd.lit w7 #[.int .i64 (q : Int), .int .i64 hh.x.o, .int .i64 hh.x.s, .int .i64 hh.x.a, .bool hh.x.ov, .slice A7 hh.x.adj.length c7, .slice B7 hh.x.pre.length d7] 61
            have hown8 : LxOwn _ w1.heap.size ⟨hh.x, A7, c7, B7, d7⟩ := LaOwn.below hown' hb8
            have hpo8 := hpo.out.below hb8
            have hmid8 := hmid.out.below hb8
            have hbx8 := hbx.later hb8
            have hty8 := ty_below hty hb8
            have hos := hpo8.os
            have hsz8 := hmid8.kf.size
            clear hown hown' hmid hpo hbx hty hb7 hb8
            replace hown8 := Lib.hid hown8
            replace hpo8 := Lib.hid hpo8
            replace hmid8 := Lib.hid hmid8
            replace hbx8 := Lib.hid hbx8
            replace hty8 := Lib.hid hty8
            have hone := sdL_one ⟨(q : Int), ⟨hh.x, A7, c7, B7, d7⟩⟩
            have hb9a : ls.length + 1 ≤ maxLen := by simp only [maxLen]; omega
            have hb9b : (ls.length + 1) * 88 ≤ 140737488355328 := by omega
            go_upto_region 12 with (at_builtin; refine wpList_appB rfl sdT (.tmp 37) (.tmp 43) rfl w1.heap.size rfl hos (m := 1) rfl (by simp) rd0 hone hb9a hb9b hsz8 (ls.length + 1) _ rfl rfl ?_; intro v9 w9 ho9 hbel9 hg9 hv9; obtain ⟨A9, c9, rfl, -⟩ := own_rd ho9)
            have hne9 := own_offTy hos hty8.out (by decide)
            have hne9' : (Value.slice AS ls.length cS).ownBlock ≠ some g6 := by
              rcases hne9 with e | e
              · rw [e]; simp
              · exact e
            have hpo9 := PoA.app (s := ⟨(q : Int), ⟨hh.x, A7, c7, B7, d7⟩⟩) hpo8.out hown8.out ho9 hg9
            have hmid9 := hmid8.out.app hbel9 (Nat.le_refl _) hF.out hst.out
            have hbx9 := hbx8.out.kept hg9 (fun e => hne9' e.symm) (by simp)
            have hty9 := ty_row hty8.out hg9 hne9'
            have x0 : w9.cell? ⟨g, 0, none⟩ = some (.int .i64 iv) := by
              obtain ⟨iv', e1, e2⟩ := hmid9.c0
              rw [hF.out.c0] at e2
              rw [e1, ← e2]
            clear hos hpo8 hmid8 hbx8 hty8 hown8 hone hb9a hb9b rd0 ho9 hbel9 hg9 hv9 hne9 hne9'
            have a6 := hbx9.c 6 rfl
            have f6 := hbx9.f 6 rfl
            have hgs := grownBy_set w9 g6 6 (.int .i64 iv)
            have hpo10 := Lib.hid (hpo9.row hgs hty9)
            have hmid10 := Lib.hid (hmid9.new hgs hg6 hF.out hst.out)
            have hbx10 := hbx9.set 6 (.int .i64 iv) (by simp)
            clear hgs hpo9 hmid9 hbx9 hty9
            go_upto_region 13 with fail
            clear x0 a6 f6
            generalize World.setCell w9 _ _ = w10 at *
            obtain ⟨M2, hm2, he2⟩ := hmid10.out.el q hq256 (polJ iv D j) (by unfold setN; rw [if_pos rfl])
            obtain ⟨w11, run11, hm11, hg11⟩ := hm2.run_put pdT (by omega) (i := (o : Int)) (by omega) (by omega) (hdV hh.x A5 c5 B5 d5 iv)
            have hmid11 : Hid (FlMid w1 w11 g b N f (setN (polK iv N k) q (polJ iv D (j + 1)))) := by
              have h1 := hmid10.out.turn hF.out hq256 hqs hst.out (D' := polJ iv D (j + 1)) hm11 (fun o' ho' => by
                rw [hpj.out]
                by_cases e : o' = o
                · subst e
                  simp only [if_true]
                  refine ⟨A5, c5, B5, d5, ?_, ?_⟩
                  · unfold polH; rw [if_neg (by omega)]
                  · unfold polH; rw [if_neg (by omega)]; exact hla.out
                · have e' : ¬ (o' : Int) = (o : Int) := by omega
                  simp only [if_neg e, if_neg e']
                  exact he2 o' ho') hg11
              have e : setN (setN (polK iv N k) q (polJ iv D j)) q (polJ iv D (j + 1)) = setN (polK iv N k) q (polJ iv D (j + 1)) := by
                funext z; unfold setN; split <;> rfl
              rw [e] at h1
              exact h1
            have hpo11 : Hid (PoA w.heap.size w1.heap.size w11 (some ⟨bz, offz, none⟩) len c (lks N) (some ⟨by2, offy, none⟩) no c2 (orgs D) (.slice A9 (ls.length + 1) c9) (ls ++ [⟨(q : Int), ⟨hh.x, A7, c7, B7, d7⟩⟩])) := hpo10.out.kq (Kq.of_map hm2 hg11)
            have hsp11 : Hid (sdP (ls ++ [⟨(q : Int), ⟨hh.x, A7, c7, B7, d7⟩⟩]) = sndK N ((lks N).take k) ++ sndJ (q : Int) D ((orgs D).take (j + 1))) := by
              show _ = _
              rw [hs2.out, ← List.append_assoc, ← hsp.out]
              simp [sdP]
            unfold hdV at run11
            have a0 := hbx10.c 0 rfl
            have a1 := hbx10.c 1 rfl
            have a2 := hbx10.c 2 rfl
            have a3 := hbx10.c 3 rfl
            have a4 := hbx10.c 4 rfl
            have a5 := hbx10.c 5 rfl
            have a6 := hbx10.c 6 rfl
            clear hpo10 hmid10 hbx10 hm2 he2 hm11 hg11 hsp hs2 hpj hla
            go_wp2_with fail
            go_round
            case rel => exact ⟨j + 1, A9, c9, ls ++ [⟨(q : Int), ⟨hh.x, A7, c7, B7, d7⟩⟩], by go_num, by simp, by omega, by simp; omega, hmid11, by simpa using hpo11, hsp11⟩
            case measure => simp [intOf]; omega
        · obtain rfl : j = no := by omega
          have hmidE : Hid (FlMid w1 wr g b N f (polK iv N (k + 1))) := by
            rw [hsucc.out]
            have h1 := hmid.out
            rw [← hno.out] at h1
            exact ⟨h1.c0, h1.c1, h1.nb, fun i hi E hE => by
              unfold setN at hE
              by_cases e : i = q
              · subst e
                simp only [if_true, Option.some.injEq] at hE
                subst hE
                obtain ⟨M, hm, he⟩ := h1.el i hi (polJ iv D (orgs D).length) (by unfold setN; rw [if_pos rfl])
                exact ⟨M, hm, fun o ho => by rw [← polJ_end64 iv D o ho]; exact he o ho⟩
              · simp only [if_neg e] at hE
                exact h1.el i hi E (by unfold setN; rw [if_neg e]; exact hE), h1.kf⟩
          have hspE : Hid (sdP ls = sndK N ((lks N).take (k + 1))) := by
            show _ = _
            rw [hssc.out, hsp.out, ← hno.out, List.take_length]
          have hpoE : Hid (PoA w.heap.size w1.heap.size wr (some ⟨bz, offz, none⟩) len c (lks N) none 0 0 [] (.slice AS ls.length cS) ls) := ⟨hpo.out.o1, World.ownsRow_nil _ _ _ _, hpo.out.os, hpo.out.ok⟩
          clear hmid hpo hsp
          go_wp2_with fail
          go_round
          case rel => exact ⟨k + 1, AS, cS, ls, by go_num, rfl, by omega, by omega, hmidE, hpoE, hspE⟩
          case measure => simp [intOf]; omega
    · obtain rfl : k = len := by omega
      have hf := hfin.out _ _ _ _ hmid.out hpo.out.os (by rw [hsp.out, ← hlen.out, List.take_length]) hpo.out.ok
      replace hf := Lib.hid hf
      clear hmid hpo hsp
      go_wp2_with fail
      go_ret
      exact hf.out

end Go.Proofs.Ytgbcnglagnlmhaa

namespace Go.Proofs.Ytgbcnglagnlmhaa
set_option linter.unusedVariables false
open Go.RowKit Go.Maps Go.Sort

/-! ### Lists in order -/
theorem sorted_ext {α : Type} {r : α → α → Prop} (irr : ∀ a, ¬ r a a) (tr : ∀ a b c, r a b → r b c → r a c) : ∀ {l m : List α}, l.Pairwise r → m.Pairwise r → (∀ x, x ∈ l ↔ x ∈ m) → l = m
  | [], [], _, _, _ => rfl
  | [], b :: m, _, _, h => absurd ((h b).2 (by simp)) (by simp)
  | a :: l, [], _, _, h => absurd ((h a).1 (by simp)) (by simp)
  | a :: l, b :: m, hl, hm, h => by
    have hl' := List.pairwise_cons.1 hl
    have hm' := List.pairwise_cons.1 hm
    have hab : a = b := by
      rcases List.mem_cons.1 ((h a).1 (by simp)) with e | e
      · exact e
      · rcases List.mem_cons.1 ((h b).2 (by simp)) with e2 | e2
        · exact e2.symm
        · exact absurd (tr _ _ _ (hl'.1 b e2) (hm'.1 a e)) (irr a)
    subst hab
    have : l = m := sorted_ext irr tr hl'.2 hm'.2 fun x => by
      constructor
      · intro hx
        rcases List.mem_cons.1 ((h x).1 (List.mem_cons_of_mem _ hx)) with e | e
        · subst e; exact absurd (hl'.1 x hx) (irr x)
        · exact e
      · intro hx
        rcases List.mem_cons.1 ((h x).2 (List.mem_cons_of_mem _ hx)) with e | e
        · subst e; exact absurd (hm'.1 x hx) (irr x)
        · exact e
    rw [this]
theorem ins_mem {α : Type} {p : α → Bool} {l : List α} {x s : α} : s ∈ ins p l x ↔ s = x ∨ s ∈ l := by
  induction l with
  | nil => simp [ins]
  | cons t l ih =>
    unfold ins
    split
    · simp
    · simp only [List.mem_cons, ih]
      constructor
      · rintro (h | h | h)
        · exact .inr (.inl h)
        · exact .inl h
        · exact .inr (.inr h)
      · rintro (h | h | h)
        · exact .inr (.inl h)
        · exact .inl h
        · exact .inr (.inr h)
theorem ins_sorted {α : Type} {r : α → α → Prop} {p : α → Bool} {x : α} (tr : ∀ a b c, r a b → r b c → r a c) : ∀ {l : List α}, l.Pairwise r → (∀ s ∈ l, p s = true → r x s) → (∀ s ∈ l, p s = false → r s x) → (ins p l x).Pairwise r
  | [], _, _, _ => by simp [ins]
  | t :: l, hl, h1, h2 => by
    have hl' := List.pairwise_cons.1 hl
    unfold ins
    split
    · next hp =>
      have hxt := h1 t (by simp) hp
      refine List.pairwise_cons.2 ⟨fun s hs => ?_, hl⟩
      rcases List.mem_cons.1 hs with e | e
      · rw [e]; exact hxt
      · exact tr _ _ _ hxt (hl'.1 s e)
    · next hp =>
      refine List.pairwise_cons.2 ⟨fun s hs => ?_, ins_sorted tr hl'.2 (fun s hs => h1 s (List.mem_cons_of_mem _ hs)) (fun s hs => h2 s (List.mem_cons_of_mem _ hs))⟩
      rcases ins_mem.1 hs with e | e
      · rw [e]; exact h2 t (by simp) (by simpa using hp)
      · exact hl'.1 s e

/-! ### The relation -/
def atN (N : Fn) (q o : Nat) : Option Hd := (N q).bind fun D => D o
def kLt (s t : It) : Prop := s.q < t.q ∨ (s.q = t.q ∧ s.x.y.o < t.x.y.o)
theorem kLt_irr (s : It) : ¬ kLt s s := fun h => by unfold kLt at h; omega
theorem kLt_tr (a b c : It) (h1 : kLt a b) (h2 : kLt b c) : kLt a c := by unfold kLt at *; omega
structure Rel (N : Fn) (R : RF) : Prop where
  ls : R.ls = lks N
  so : R.its.Pairwise kLt
  mem : ∀ s ∈ R.its, ∃ q o : Nat, s.q = (q : Int) ∧ s.x.y.o = (o : Int) ∧ q < 256 ∧ o < 64 ∧ atN N q o = some ⟨s.x.y, max 0 (s.t - R.now)⟩
  all : ∀ q o : Nat, q < 256 → o < 64 → ∀ h, atN N q o = some h → ∃ s ∈ R.its, s.q = (q : Int) ∧ s.x.y.o = (o : Int)
theorem Rel.get {N : Fn} {R : RF} (h : Rel N R) {q o : Nat} (hq : q < 256) (ho : o < 64) :
    (atN N q o = none ∧ gtR R.its q o = none) ∨ ∃ s, s ∈ R.its ∧ gtR R.its q o = some s ∧ s.q = (q : Int) ∧ s.x.y.o = (o : Int) ∧ atN N q o = some ⟨s.x.y, max 0 (s.t - R.now)⟩ := by
  have key : ∀ s, gtR R.its q o = some s → s ∈ R.its ∧ s.q = (q : Int) ∧ s.x.y.o = (o : Int) ∧ atN N q o = some ⟨s.x.y, max 0 (s.t - R.now)⟩ := fun s hs => by
    have hm := List.mem_of_find?_eq_some hs
    have hg := List.find?_some hs
    unfold gtB at hg
    simp only [Bool.and_eq_true, beq_iff_eq] at hg
    obtain ⟨q', o', e1, e2, _, _, e3⟩ := h.mem s hm
    have : q' = q := by omega
    have : o' = o := by omega
    subst q' o'
    exact ⟨hm, hg.1, hg.2, e3⟩
  cases hs : gtR R.its q o with
  | some s => exact .inr ⟨s, (key s hs).1, rfl, (key s hs).2.1, (key s hs).2.2.1, (key s hs).2.2.2⟩
  | none =>
    refine .inl ⟨?_, rfl⟩
    cases ha : atN N q o with
    | none => rfl
    | some hd =>
      obtain ⟨s, hm, e1, e2⟩ := h.all q o hq ho hd ha
      have := List.find?_eq_none.1 hs s hm
      unfold gtB at this
      rw [e1, e2] at this
      simp at this
theorem atN_set {N : Fn} {i : Nat} {D : Db} {q o : Nat} : atN (setN N i D) q o = if q = i then D o else atN N q o := by
  unfold atN setN
  by_cases h : q = i
  · rw [if_pos h, if_pos h]; rfl
  · rw [if_neg h, if_neg h]
theorem lks_set {N : Fn} {i : Nat} {D : Db} (h : (N i).isSome = true) : lks (setN N i D) = lks N := by
  unfold lks
  refine List.filter_congr fun z _ => ?_
  unfold setN
  by_cases e : z.toNat = i
  · rw [if_pos e, e, h]; rfl
  · rw [if_neg e]
theorem atN_of {N : Fn} {q o : Nat} {D : Db} (h : N q = some D) : atN N q o = D o := by unfold atN; rw [h]; rfl
theorem mem_wo {l : List It} {q o : Int} {s : It} : s ∈ wo q o l ↔ s ∈ l ∧ (s.q ≠ q ∨ (0 ≤ o ∧ s.x.y.o ≠ o)) := by
  unfold wo woB
  rw [List.mem_filter]
  simp
theorem mem_wi {l : List It} {x s : It} : s ∈ wi l x ↔ s = x ∨ s ∈ l := ins_mem
theorem wo_sorted {l : List It} {q o : Int} (h : l.Pairwise kLt) : (wo q o l).Pairwise kLt := h.filter _
theorem wi_sorted {l : List It} {x : It} (h : l.Pairwise kLt) (hne : ∀ s ∈ l, ¬ (s.q = x.q ∧ s.x.y.o = x.x.y.o)) : (wi l x).Pairwise kLt := by
  refine ins_sorted kLt_tr h (fun s hs hp => ?_) (fun s hs hp => ?_)
  · unfold wjB at hp
    simp only [Bool.or_eq_true, Bool.and_eq_true, decide_eq_true_eq, beq_iff_eq] at hp
    unfold kLt
    omega
  · have := hne s hs
    unfold wjB at hp
    simp only [Bool.or_eq_false_iff, Bool.and_eq_false_iff, decide_eq_false_iff_not, beq_eq_false_iff_ne, ne_eq] at hp
    unfold kLt
    omega
/-- One entry more, or another one. -/
theorem Rel.put {N : Fn} {R : RF} (h : Rel N R) {q o : Nat} (hq : q < 256) (ho : o < 64) {D : Db} (hD : N q = some D) {a : Lx} (hao : a.y.o = (o : Int)) :
    Rel (setN N q (fun i => if i = o then some ⟨a.y, 0⟩ else D i)) ⟨R.iv, R.now, R.ls, wi (wo q a.y.o R.its) ⟨q, a, R.now⟩⟩ := by
  refine ⟨h.ls.trans (lks_set (by rw [hD]; rfl)).symm, wi_sorted (wo_sorted h.so) (fun s hs => ?_), fun s hs => ?_, fun q' o' hq' ho' hd hat => ?_⟩
  · have := (mem_wo.1 hs).2
    simp only
    omega
  · rcases mem_wi.1 hs with rfl | hs
    · refine ⟨q, o, rfl, hao, hq, ho, ?_⟩
      rw [atN_set, if_pos rfl, if_pos rfl]
      simp
    · obtain ⟨hs, hk⟩ := mem_wo.1 hs
      obtain ⟨q', o', e1, e2, hq', ho', hat⟩ := h.mem s hs
      refine ⟨q', o', e1, e2, hq', ho', ?_⟩
      rw [atN_set]
      split
      · next e =>
        subst e
        rw [if_neg (by omega), ← atN_of hD]
        exact hat
      · exact hat
  · rw [atN_set] at hat
    by_cases e : q' = q ∧ o' = o
    · exact ⟨⟨q, a, R.now⟩, mem_wi.2 (.inl rfl), by simp only [e.1], by simp only [hao, e.2]⟩
    · have hat2 : atN N q' o' = some hd := by
        split at hat
        · next e2 =>
          subst e2
          rw [if_neg (by omega)] at hat
          rw [atN_of hD]; exact hat
        · exact hat
      obtain ⟨s, hs, e1, e2⟩ := h.all q' o' hq' ho' hd hat2
      exact ⟨s, mem_wi.2 (.inr (mem_wo.2 ⟨hs, by omega⟩)), e1, e2⟩
/-- One entry less. -/
theorem Rel.less {N : Fn} {R : RF} (h : Rel N R) {q o : Nat} (hq : q < 256) {D : Db} (hD : N q = some D) :
    Rel (setN N q (fun i => if i = o then none else D i)) ⟨R.iv, R.now, R.ls, wo q (o : Int) R.its⟩ := by
  refine ⟨h.ls.trans (lks_set (by rw [hD]; rfl)).symm, wo_sorted h.so, fun s hs => ?_, fun q' o' hq' ho' hd hat => ?_⟩
  · obtain ⟨hs, hk⟩ := mem_wo.1 hs
    obtain ⟨q', o', e1, e2, hq', ho', hat⟩ := h.mem s hs
    refine ⟨q', o', e1, e2, hq', ho', ?_⟩
    rw [atN_set]
    split
    · next e =>
      subst e
      rw [if_neg (by omega), ← atN_of hD]
      exact hat
    · exact hat
  · rw [atN_set] at hat
    have hat2 : atN N q' o' = some hd ∧ ¬ (q' = q ∧ o' = o) := by
      split at hat
      · next e2 =>
        subst e2
        split at hat
        · cases hat
        · next e3 => exact ⟨by rw [atN_of hD]; exact hat, fun e => e3 e.2⟩
      · next e2 => exact ⟨hat, fun e => e2 e.1⟩
    obtain ⟨s, hs, e1, e2⟩ := h.all q' o' hq' ho' hd hat2.1
    exact ⟨s, mem_wo.2 ⟨hs, by omega⟩, e1, e2⟩
theorem setN_same {N : Fn} {q : Nat} {D : Db} (h : N q = some D) : setN N q D = N := by
  funext j
  unfold setN
  by_cases e : j = q
  · subst e; rw [if_pos rfl, h]
  · rw [if_neg e]
theorem Rel.offer {N : Fn} {R : RF} (h : Rel N R) {q : Nat} (hq : q < 256) {D : Db} (hD : N q = some D) {a : Lx} (hva : LaValid a.y) :
    Rel (setN N q (offD D a.y)) (offF R q a) := by
  have ho := hva.1
  obtain ⟨o, hao⟩ := Int.eq_ofNat_of_zero_le ho.1
  have ho64 : o < 64 := by omega
  have hop : (offK R q a.y = true ∧ offW D a.y = false) ∨ (offK R q a.y = false ∧ offW D a.y = true) := by
    unfold offK offW
    rw [hao, Int.toNat_natCast, ← atN_of (o := o) hD]
    rcases h.get hq ho64 with ⟨e1, e2⟩ | ⟨s, _, e1, _, _, e2⟩
    · rw [e1, e2]; exact .inr ⟨rfl, rfl⟩
    · rw [e1, e2]
      by_cases h9 : newI a.y s.x.y ≤ 0
      · exact .inl ⟨by simpa using h9, by simp; omega⟩
      · exact .inr ⟨by simpa using h9, by simp; omega⟩
  rcases hop with ⟨e1, e2⟩ | ⟨e1, e2⟩
  · rw [show offD D a.y = D from by unfold offD; rw [if_neg (by rw [e2]; simp)], setN_same hD, show offF R q a = R from by unfold offF; rw [if_pos e1]]
    exact h
  · rw [show offD D a.y = fun i => if i = o then some ⟨a.y, 0⟩ else D i from by unfold offD; rw [if_pos e2, show a.y.o.toNat = o by rw [hao]; rfl], show offF R q a = ⟨R.iv, R.now, R.ls, wi (wo q a.y.o R.its) ⟨q, a, R.now⟩⟩ from by unfold offF; rw [if_neg (by rw [e1]; simp)]]
    exact h.put hq ho64 hD hao
theorem Rel.ext {N N' : Fn} {R : RF} (h : Rel N R) (e : ∀ i, i < 256 → N' i = N i) : Rel N' R := by
  have ea : ∀ q o, q < 256 → atN N' q o = atN N q o := fun q o hq => by unfold atN; rw [e q hq]
  refine ⟨?_, h.so, fun s hs => ?_, fun q o hq ho hd hat => h.all q o hq ho hd (by rw [← ea q o hq]; exact hat)⟩
  · rw [h.ls]
    unfold lks
    refine List.filter_congr fun z hz => ?_
    obtain ⟨k, hk, rfl⟩ := List.mem_map.1 hz
    rw [Int.toNat_natCast, e k (List.mem_range.1 hk)]
  · obtain ⟨q, o, e1, e2, hq, ho, hat⟩ := h.mem s hs
    exact ⟨q, o, e1, e2, hq, ho, by rw [ea q o hq]; exact hat⟩

theorem lks_dl {N : Fn} {q : Nat} : dlL (q : Int) (lks N) = lks (dropN N q) := by
  unfold dlL lks
  rw [List.filter_filter]
  refine List.filter_congr fun z hz => ?_
  obtain ⟨k, hk, rfl⟩ := List.mem_map.1 hz
  rw [Int.toNat_natCast]
  unfold dropN
  by_cases e : k = q
  · subst e; simp
  · rw [if_neg e]
    have : ((k : Int) != (q : Int)) = true := by simp; omega
    rw [this, Bool.true_and]
theorem atN_drop {N : Fn} {i q o : Nat} : atN (dropN N i) q o = if q = i then none else atN N q o := by
  unfold atN dropN
  by_cases h : q = i
  · rw [if_pos h, if_pos h]; rfl
  · rw [if_neg h, if_neg h]
theorem Rel.down {N : Fn} {R : RF} (h : Rel N R) (q : Nat) : Rel (dropN N q) (dnF R q) := by
  refine ⟨?_, wo_sorted h.so, fun s hs => ?_, fun q' o' hq' ho' hd hat => ?_⟩
  · show dlL q R.ls = _
    rw [h.ls, lks_dl]
  · obtain ⟨hs, hk⟩ := mem_wo.1 hs
    obtain ⟨q', o', e1, e2, hq', ho', hat⟩ := h.mem s hs
    refine ⟨q', o', e1, e2, hq', ho', ?_⟩
    rw [atN_drop, if_neg (by omega)]
    exact hat
  · rw [atN_drop] at hat
    split at hat
    · cases hat
    · next e =>
      obtain ⟨s, hs, e1, e2⟩ := h.all q' o' hq' ho' hd hat
      exact ⟨s, mem_wo.2 ⟨hs, by omega⟩, e1, e2⟩
theorem lks_ins {N : Fn} {q : Nat} (hq : q < 256) {D : Db} : ins (gtP q) (lks (dropN N q)) q = lks (setN N q D) := by
  have irr : ∀ a : Int, ¬ a < a := fun a h => by omega
  refine sorted_ext (r := fun a b : Int => a < b) irr (fun a b c h1 h2 => by omega) (ins_sorted (fun a b c h1 h2 => by omega) (lks_sorted _) (fun s hs hp => by unfold gtP at hp; simpa using hp) (fun s hs hp => ?_)) (lks_sorted _) fun x => ?_
  · have hm := (lks_mem s).1 hs
    unfold gtP at hp
    simp only [decide_eq_false_iff_not] at hp
    have : s ≠ (q : Int) := fun e => by
      have := hm.2
      rw [e, Int.toNat_natCast] at this
      simp [dropN] at this
    omega
  · rw [ins_mem, lks_mem, lks_mem]
    constructor
    · rintro (rfl | ⟨h1, h2⟩)
      · exact ⟨⟨by omega, by omega⟩, by rw [Int.toNat_natCast]; simp [setN]⟩
      · refine ⟨h1, ?_⟩
        unfold dropN at h2
        unfold setN
        split at h2
        · cases h2
        · next e => rw [if_neg e]; exact h2
    · rintro ⟨h1, h2⟩
      by_cases e : x.toNat = q
      · exact .inl (by omega)
      · right
        refine ⟨h1, ?_⟩
        unfold setN at h2
        rw [if_neg e] at h2
        unfold dropN
        rw [if_neg e]; exact h2
theorem Rel.up0 {N : Fn} {R : RF} (h : Rel N R) {q : Nat} (hq : q < 256) : Rel (setN N q (fun _ => none)) (upR R q) := by
  have hd := h.down q
  have ea : ∀ q' o', atN (setN N q (fun _ => none)) q' o' = atN (dropN N q) q' o' := fun q' o' => by rw [atN_set, atN_drop]
  refine ⟨?_, hd.so, fun s hs => ?_, fun q' o' hq' ho' hd' hat => hd.all q' o' hq' ho' hd' (by rw [← ea]; exact hat)⟩
  · show ins (gtP q) (dnF R q).ls q = _
    rw [hd.ls, lks_ins hq]
  · obtain ⟨q', o', e1, e2, h1, h2, hat⟩ := hd.mem s hs
    exact ⟨q', o', e1, e2, h1, h2, by rw [ea]; exact hat⟩
theorem setN_set {N : Fn} {q : Nat} {D E : Db} : setN (setN N q D) q E = setN N q E := by
  funext j
  unfold setN
  by_cases e : j = q
  · rw [if_pos e, if_pos e]
  · rw [if_neg e, if_neg e, if_neg e]
theorem Rel.offers {N : Fn} {q : Nat} (hq : q < 256) : ∀ (l : List Lx) {D : Db} {R : RF}, Rel (setN N q D) R → (∀ s ∈ l, LaValid s.y) → Rel (setN N q (offs D (laL l))) (l.foldl (fun R a => offF R q a) R)
  | [], D, R, h, _ => h
  | a :: l, D, R, h, hv => by
    have h2 := h.offer (q := q) hq (D := D) (by simp [setN]) (hv a (by simp))
    rw [setN_set] at h2
    exact Rel.offers hq l h2 fun s hs => hv s (List.mem_cons_of_mem _ hs)
theorem Rel.up {N : Fn} {R : RF} (h : Rel N R) {q : Nat} (hq : q < 256) {l : List Lx} (hv : ∀ s ∈ l, LaValid s.y) : Rel (setN N q (offs (fun _ => none) (laL l))) (upF R q l) :=
  Rel.offers hq l (h.up0 hq) hv
theorem Rel.spread {N : Fn} {R : RF} (h : Rel N R) {a : Lx} (hva : LaValid a.y) (ex : Int) : Rel (sprN N a.y ex) (spF R a ex) := by
  have key : ∀ k, k ≤ (lks N).length → Rel (genK (sprD a.y ex) N k) (((lks N).take k).foldl (spS a ex) R) := fun k => by
    induction k with
    | zero => intro _; rw [genK_zero]; exact h
    | succ k ih =>
      intro hk
      have ih := ih (by omega)
      have hkl : k < (lks N).length := by omega
      rw [fold_snoc (spS a ex) R (lks N) k hkl]
      generalize ((lks N).take k).foldl (spS a ex) R = Rk at *
      have hmem := (lks_mem (N := N) (lks N)[k]).1 (List.getElem_mem hkl)
      obtain ⟨q, hq⟩ := Int.eq_ofNat_of_zero_le hmem.1.1
      have hq256 : q < 256 := by have := hmem.1.2; omega
      obtain ⟨D, hD⟩ := Option.isSome_iff_exists.1 (show (N q).isSome = true by have := hmem.2; rwa [hq, Int.toNat_natCast] at this)
      rw [genK_succ (sprD a.y ex) N k hkl q hq hD, hq]
      have hDk : genK (sprD a.y ex) N k q = some D := by rw [genK_at (sprD a.y ex) N k hkl q hq, hD]
      generalize genK (sprD a.y ex) N k = Nk at *
      by_cases hex : ((q : Int) != ex) = true
      · rw [show sprD a.y ex q D = offD D a.y from by unfold sprD; rw [if_pos hex], show spS a ex Rk q = offF Rk q a from by unfold spS; rw [if_pos hex]]
        exact ih.offer hq256 hDk hva
      · have hqe : ex = (q : Int) := by simp at hex; exact hex.symm
        obtain ⟨o, hao⟩ := Int.eq_ofNat_of_zero_le hva.1.1
        have ho64 : o < 64 := by have := hva.1; omega
        have e0 : spB Rk ex a.y = rmB D a.y := by
          unfold spB rmB
          rw [hqe, hao, Int.toNat_natCast, ← atN_of (o := o) hDk]
          rcases ih.get hq256 ho64 with ⟨e1, e2⟩ | ⟨s, _, e1, _, _, e2⟩
          · rw [e1, e2]
          · rw [e1, e2]
        have e1 : sprD a.y ex q D = rmD D a.y := by unfold sprD; rw [if_neg hex]
        have e2 : spS a ex Rk q = if rmB D a.y = true then ⟨Rk.iv, Rk.now, Rk.ls, wo ex a.y.o Rk.its⟩ else Rk := by unfold spS; rw [if_neg hex, e0]
        rw [e1, e2]
        by_cases hr : rmB D a.y = true
        · rw [if_pos hr, show rmD D a.y = fun i => if i = o then none else D i from by unfold rmD; rw [if_pos hr, hao, Int.toNat_natCast], hqe, hao]
          exact ih.less hq256 hDk
        · rw [if_neg hr, show rmD D a.y = D from by unfold rmD; rw [if_neg hr], setN_same hDk]
          exact ih
  have := key (lks N).length (Nat.le_refl _)
  rw [List.take_length] at this
  unfold spF
  rw [h.ls]
  exact this.ext fun i hi => by rw [genK_end _ _ _ hi]; rfl

end Go.Proofs.Ytgbcnglagnlmhaa

namespace Go.Proofs.Ytgbcnglagnlmhaa
set_option linter.unusedVariables false
open Go.RowKit Go.Maps Go.Sort

theorem sameB_comm (x y : La) : sameB x y = sameB y x := by
  rw [Bool.eq_iff_iff]
  unfold sameB
  simp only [Bool.and_eq_true, beq_iff_eq, conB_iff]
  constructor
  · rintro ⟨h1, h2, h3, h4, h5, h6⟩; exact ⟨h1.symm, h2.symm, h3.symm, h4.symm, h5.symm, h6.symm⟩
  · rintro ⟨h1, h2, h3, h4, h5, h6⟩; exact ⟨h1.symm, h2.symm, h3.symm, h4.symm, h5.symm, h6.symm⟩
theorem Rel.get_no {N : Fn} {R : RF} (h : Rel N R) {q : Nat} {z : Int} (hz : ¬ (0 ≤ z ∧ z < 64)) : gtR R.its q z = none := by
  cases hs : gtR R.its q z with
  | none => rfl
  | some s =>
    have hm := List.mem_of_find?_eq_some hs
    have hg := List.find?_some hs
    unfold gtB at hg
    simp only [Bool.and_eq_true, beq_iff_eq] at hg
    obtain ⟨q', o', e1, e2, _, h4, _⟩ := h.mem s hm
    omega
theorem Rel.ack {N : Fn} {R : RF} (h : Rel N R) {q : Nat} (hq : q < 256) {D : Db} (hD : N q = some D) (a : La) :
    akB R q a = ackB D a ∧ Rel (setN N q (ackD D a)) (akF R q a) := by
  by_cases hz : 0 ≤ a.o ∧ a.o < 64
  · obtain ⟨o, hao⟩ := Int.eq_ofNat_of_zero_le hz.1
    have ho64 : o < 64 := by omega
    have e0 : akB R q a = ackB D a := by
      unfold akB ackB dO
      rw [if_pos hz, hao, Int.toNat_natCast, ← atN_of (o := o) hD]
      rcases h.get hq ho64 with ⟨e1, e2⟩ | ⟨s, _, e1, _, _, e2⟩
      · rw [e1, e2]
      · rw [e1, e2]; exact sameB_comm _ _
    refine ⟨e0, ?_⟩
    by_cases hb : ackB D a = true
    · rw [show ackD D a = fun i => if i = o then none else D i from by unfold ackD; rw [if_pos hb, hao, Int.toNat_natCast], show akF R q a = ⟨R.iv, R.now, R.ls, wo q (o : Int) R.its⟩ from by unfold akF; rw [if_pos (by rw [e0]; exact hb), hao]]
      exact h.less hq hD
    · rw [show ackD D a = D from by unfold ackD; rw [if_neg hb], show akF R q a = R from by unfold akF; rw [if_neg (by rw [e0]; exact hb)], setN_same hD]
      exact h
  · have e1 : ackB D a = false := by unfold ackB dO; rw [if_neg hz]
    have e2 : akB R q a = false := by unfold akB; rw [h.get_no hz]
    refine ⟨by rw [e1, e2], ?_⟩
    rw [show ackD D a = D from by unfold ackD; rw [if_neg (by rw [e1]; simp)], show akF R q a = R from by unfold akF; rw [if_neg (by rw [e2]; simp)], setN_same hD]
    exact h
theorem lks_map {N : Fn} (F : Db → Db) : lks (fun i => (N i).map F) = lks N := by
  unfold lks
  refine List.filter_congr fun z _ => ?_
  simp
theorem atN_map {N : Fn} {F : Hd → Hd} {q o : Nat} : atN (fun i => (N i).map fun D => fun o => (D o).map F) q o = (atN N q o).map F := by
  unfold atN
  dsimp only
  cases N q <;> rfl
theorem Rel.tick {N : Fn} {R : RF} (h : Rel N R) {n : Int} (hn : 0 < n) : Rel (tikN n N) ⟨R.iv, R.now + n, R.ls, R.its⟩ := by
  have ea : ∀ q o, atN (tikN n N) q o = (atN N q o).map (tikH n) := fun q o => atN_map
  refine ⟨h.ls.trans (lks_map _).symm, h.so, fun s hs => ?_, fun q o hq ho hd hat => ?_⟩
  · obtain ⟨q, o, e1, e2, hq, ho, hat⟩ := h.mem s hs
    refine ⟨q, o, e1, e2, hq, ho, ?_⟩
    rw [ea, hat]
    simp only [Option.map_some, tikH, Option.some.injEq, Hd.mk.injEq, true_and]
    omega
  · rw [ea] at hat
    cases h9 : atN N q o with
    | none => rw [h9] at hat; cases hat
    | some h8 => exact h.all q o hq ho h8 h9
theorem plI_key (iv now : Int) (s : It) : (plI iv now s).q = s.q ∧ (plI iv now s).x = s.x := by unfold plI; split <;> exact ⟨rfl, rfl⟩
theorem Rel.poll {N : Fn} {R : RF} (h : Rel N R) (hiv : 0 ≤ R.iv) : Rel (polN R.iv N) (plF R) := by
  have ea : ∀ q o, atN (polN R.iv N) q o = (atN N q o).map (polH R.iv) := fun q o => atN_map
  refine ⟨h.ls.trans (lks_map _).symm, ?_, fun s hs => ?_, fun q o hq ho hd hat => ?_⟩
  · show (R.its.map (plI R.iv R.now)).Pairwise kLt
    rw [List.pairwise_map]
    refine h.so.imp fun {a b} hab => ?_
    unfold kLt at *
    rw [(plI_key _ _ a).1, (plI_key _ _ a).2, (plI_key _ _ b).1, (plI_key _ _ b).2]
    exact hab
  · obtain ⟨s0, hs0, rfl⟩ := List.mem_map.1 (show s ∈ R.its.map (plI R.iv R.now) from hs)
    obtain ⟨q, o, e1, e2, hq, ho, hat⟩ := h.mem s0 hs0
    refine ⟨q, o, by rw [(plI_key _ _ s0).1]; exact e1, by rw [(plI_key _ _ s0).2]; exact e2, hq, ho, ?_⟩
    rw [ea, hat, (plI_key _ _ s0).2]
    simp only [Option.map_some, Option.some.injEq, polH]
    show _ = (⟨s0.x.y, max 0 ((plI R.iv R.now s0).t - R.now)⟩ : Hd)
    unfold plI duB
    by_cases ht : s0.t ≤ R.now
    · rw [if_neg (by omega), if_pos (by simpa using ht)]
      simp only [Hd.mk.injEq, true_and]
      omega
    · rw [if_pos (by omega), if_neg (by simpa using ht)]
  · rw [ea] at hat
    cases h9 : atN N q o with
    | none => rw [h9] at hat; cases hat
    | some h8 =>
      obtain ⟨s, hs, e1, e2⟩ := h.all q o hq ho h8 h9
      exact ⟨plI R.iv R.now s, List.mem_map.2 ⟨s, hs, rfl⟩, by rw [(plI_key _ _ s).1]; exact e1, by rw [(plI_key _ _ s).2]; exact e2⟩

/-! ### The lists -/
theorem fm_congr {α β : Type} {f g : α → Option β} : ∀ {l : List α}, (∀ x ∈ l, f x = g x) → l.filterMap f = l.filterMap g
  | [], _ => rfl
  | a :: l, h => by
    have ih := fm_congr (l := l) fun x hx => h x (List.mem_cons_of_mem _ hx)
    simp only [List.filterMap_cons, h a (by simp), ih]
def pLt (a b : Int × La) : Prop := a.1 < b.1 ∨ (a.1 = b.1 ∧ a.2.o < b.2.o)
theorem pLt_irr (a : Int × La) : ¬ pLt a a := fun h => by unfold pLt at h; omega
theorem pLt_tr (a b c : Int × La) (h1 : pLt a b) (h2 : pLt b c) : pLt a c := by unfold pLt at *; omega
def flatP (N : Fn) : List (Int × La) := (lks N).flatMap fun q => match N q.toNat with | some D => (pendL D).map fun x => (q, x) | none => []
theorem Rel.org {N : Fn} {R : RF} (h : Rel N R) {q o : Nat} (hq : q < 256) (ho : o < 64) {hd : Hd} (hat : atN N q o = some hd) : hd.x.o = (o : Int) := by
  rcases h.get hq ho with ⟨e1, _⟩ | ⟨s, _, _, _, e3, e4⟩
  · rw [hat] at e1; cases e1
  · rw [hat] at e4
    injection e4 with e4
    rw [e4]; exact e3
/-- Lists made link by link, origin by origin. -/
def flatG (N : Fn) (G : Hd → Option La) : List (Int × La) := (lks N).flatMap fun q => match N q.toNat with | some D => (orgs D).filterMap fun o => (D o.toNat).bind fun h => (G h).map fun x => (q, x) | none => []
theorem flatG_mem {N : Fn} {G : Hd → Option La} {p : Int × La} : p ∈ flatG N G ↔ ∃ q o : Nat, q < 256 ∧ o < 64 ∧ p.1 = (q : Int) ∧ ∃ h, atN N q o = some h ∧ G h = some p.2 := by
  unfold flatG
  rw [List.mem_flatMap]
  constructor
  · rintro ⟨z, hz, hp⟩
    have hm := (lks_mem z).1 hz
    obtain ⟨q, rfl⟩ := Int.eq_ofNat_of_zero_le hm.1.1
    rw [Int.toNat_natCast] at hp
    cases hN : N q with
    | none => rw [hN] at hp; simp at hp
    | some D =>
      rw [hN] at hp
      obtain ⟨y, hy, hp⟩ := List.mem_filterMap.1 hp
      have hy2 := (orgs_mem y).1 hy
      obtain ⟨o, rfl⟩ := Int.eq_ofNat_of_zero_le hy2.1.1
      rw [Int.toNat_natCast] at hp
      cases hD : D o with
      | none => rw [hD] at hp; simp at hp
      | some h =>
        rw [hD] at hp
        simp only [Option.bind_some, Option.map_eq_some_iff] at hp
        obtain ⟨x, hx, rfl⟩ := hp
        exact ⟨q, o, by omega, by omega, rfl, h, by rw [atN_of hN]; exact hD, hx⟩
  · rintro ⟨q, o, hq, ho, h1, h, hat, hG⟩
    cases hN : N q with
    | none => unfold atN at hat; rw [hN] at hat; cases hat
    | some D =>
      rw [atN_of hN] at hat
      refine ⟨(q : Int), (lks_mem _).2 ⟨⟨by omega, by omega⟩, by rw [Int.toNat_natCast, hN]; rfl⟩, ?_⟩
      rw [Int.toNat_natCast, hN]
      refine List.mem_filterMap.2 ⟨(o : Int), (orgs_mem _).2 ⟨⟨by omega, by omega⟩, by rw [Int.toNat_natCast, hat]; rfl⟩, ?_⟩
      rw [Int.toNat_natCast, hat]
      simp only [Option.bind_some, hG, Option.map_some]
      rw [← h1]
theorem flatG_sorted {N : Fn} {R : RF} (h : Rel N R) {G : Hd → Option La} (hG : ∀ hd x, G hd = some x → x = hd.x) : (flatG N G).Pairwise pLt := by
  unfold flatG
  rw [List.pairwise_flatMap]
  refine ⟨fun z hz => ?_, (lks_sorted N).imp fun {a b} hab x hx y hy => ?_⟩
  · have hm := (lks_mem z).1 hz
    obtain ⟨q, rfl⟩ := Int.eq_ofNat_of_zero_le hm.1.1
    rw [Int.toNat_natCast]
    cases hN : N q with
    | none => simp
    | some D =>
      simp only
      rw [List.pairwise_filterMap]
      refine (orgs_sorted D).imp_of_mem fun {a b} ha hb hab x hx y hy => ?_
      have ha2 := (orgs_mem a).1 ha
      have hb2 := (orgs_mem b).1 hb
      obtain ⟨o, rfl⟩ := Int.eq_ofNat_of_zero_le ha2.1.1
      obtain ⟨o', rfl⟩ := Int.eq_ofNat_of_zero_le hb2.1.1
      rw [Int.toNat_natCast] at hx hy
      cases hD : D o with
      | none => rw [hD] at hx; simp at hx
      | some h1 =>
        cases hD' : D o' with
        | none => rw [hD'] at hy; simp at hy
        | some h2 =>
          rw [hD] at hx
          rw [hD'] at hy
          simp only [Option.bind_some, Option.map_eq_some_iff] at hx hy
          obtain ⟨u, hu, rfl⟩ := hx
          obtain ⟨u', hu', rfl⟩ := hy
          have q1 := h.org (q := q) (o := o) (by omega) (by omega) (hd := h1) (by rw [atN_of hN]; exact hD)
          have q2 := h.org (q := q) (o := o') (by omega) (by omega) (hd := h2) (by rw [atN_of hN]; exact hD')
          right
          rw [hG h1 u hu, hG h2 u' hu']
          simp only [true_and]
          omega
  · left
    have e1 : x.1 = a := by
      split at hx
      · obtain ⟨o, _, hx⟩ := List.mem_filterMap.1 hx
        rw [Option.bind_eq_some_iff] at hx
        obtain ⟨_, _, hx⟩ := hx
        rw [Option.map_eq_some_iff] at hx
        obtain ⟨_, _, rfl⟩ := hx
        rfl
      · simp at hx
    have e2 : y.1 = b := by
      split at hy
      · obtain ⟨o, _, hy⟩ := List.mem_filterMap.1 hy
        rw [Option.bind_eq_some_iff] at hy
        obtain ⟨_, _, hy⟩ := hy
        rw [Option.map_eq_some_iff] at hy
        obtain ⟨_, _, rfl⟩ := hy
        rfl
      · simp at hy
    rw [e1, e2]; exact hab
theorem flatG_sub {N : Fn} {R : RF} (h : Rel N R) {G : Hd → Option La} (hG : ∀ hd x, G hd = some x → x = hd.x) (p : It → Bool) (hp : ∀ s, p s = (G ⟨s.x.y, max 0 (s.t - R.now)⟩).isSome) :
    (R.its.filter p).map (fun s => (s.q, s.x.y)) = flatG N G := by
  refine sorted_ext pLt_irr pLt_tr ?_ (flatG_sorted h hG) fun x => ?_
  · rw [List.pairwise_map]
    exact (h.so.filter p).imp fun {a b} hab => hab
  · rw [flatG_mem, List.mem_map]
    constructor
    · rintro ⟨s, hs, rfl⟩
      obtain ⟨hs, hps⟩ := List.mem_filter.1 hs
      obtain ⟨q, o, e1, e2, hq, ho, hat⟩ := h.mem s hs
      rw [hp] at hps
      obtain ⟨x, hx⟩ := Option.isSome_iff_exists.1 hps
      exact ⟨q, o, hq, ho, e1, _, hat, by rw [hx, hG _ _ hx]⟩
    · rintro ⟨q, o, hq, ho, e1, hd, hat, hg⟩
      rcases h.get hq ho with ⟨e2, _⟩ | ⟨s, hs, _, e3, e4, e5⟩
      · rw [hat] at e2; cases e2
      · rw [hat] at e5
        injection e5 with e5
        subst e5
        refine ⟨s, List.mem_filter.2 ⟨hs, by rw [hp, hg]; rfl⟩, ?_⟩
        have := hG _ _ hg
        simp only at this
        rw [← this, e3, ← e1]

theorem flatG_pend (N : Fn) : flatG N (fun h => some h.x) = flatP N := by
  unfold flatG flatP
  congr 1
  funext q
  cases N q.toNat with
  | none => rfl
  | some D =>
    simp only
    unfold pendL
    rw [List.map_map, ← List.filterMap_eq_map]
    refine fm_congr fun o ho => ?_
    have := (orgs_mem o).1 ho
    obtain ⟨h, hh⟩ := Option.isSome_iff_exists.1 this.2
    simp [hh, getX]
theorem flatG_send (N : Fn) : flatG N (fun h => if 0 < h.l then none else some h.x) = sndK N (lks N) := by
  unfold flatG sndK
  congr 1
  funext q
  cases N q.toNat with
  | none => rfl
  | some D =>
    simp only
    unfold sndJ
    refine fm_congr fun o ho => ?_
    unfold due
    cases D o.toNat with
    | none => rfl
    | some h => simp only [Option.bind_some]
theorem Rel.list {N : Fn} {R : RF} (h : Rel N R) : R.its.map (fun s => (s.q, s.x.y)) = flatP N := by
  rw [← flatG_pend, ← flatG_sub h (G := fun h => some h.x) (fun hd x e => by injection e with e; exact e.symm) (fun _ => true) (fun s => rfl)]
  rw [List.filter_eq_self.2 (fun _ _ => rfl)]
theorem Rel.send {N : Fn} {R : RF} (h : Rel N R) : (plS R).map (fun s => (s.q, s.x.y)) = sndK N (lks N) := by
  rw [← flatG_send]
  unfold plS
  refine flatG_sub h (fun hd x e => ?_) (duB R.now) (fun s => ?_)
  · split at e
    · cases e
    · injection e with e; exact e.symm
  · unfold duB
    by_cases ht : s.t ≤ R.now
    · rw [if_neg (by simp only; omega)]; simpa using ht
    · rw [if_pos (by simp only; omega)]; simpa using ht

end Go.Proofs.Ytgbcnglagnlmhaa

namespace Go.Proofs.Ytgbcnglagnlmhaa
set_option linter.unusedVariables false
open Go.RowKit Go.Sort Go.ChangeShapes Go.WideShapes Go.ChangeAt

/-- A step as it lies in memory. -/
structure Sq where
  k : Int
  q : Int
  n : Int
  A : Option Addr
  c : Nat
  l : List Lx
def sqL (s : Sq) : List Value := [.int .i64 s.k, .int .i64 s.q, .int .i64 s.n, .slice s.A s.l.length s.c]
def sqV : List Sq → List Value
  | [] => []
  | s :: l => sqL s ++ sqV l
structure SqOk (w : World) (s : Sq) : Prop where
  wk : (Lit.int .i64 s.k).wf = true
  wq : (Lit.int .i64 s.q).wf = true
  wn : (Lit.int .i64 s.n).wf = true
  rd : Rd w s.A (lxV s.l)
  ok : ∀ x ∈ s.l, LxOk w x
  le : s.l.length ≤ maxLen
  wo : ∀ x ∈ s.l, (Lit.int .i64 x.y.o).wf = true
theorem sqV_len (l : List Sq) : (sqV l).length = l.length * 4 := by
  induction l with
  | nil => rfl
  | cons r l ih => simp only [sqV, sqL, List.length_append, List.length_cons, List.length_nil, ih]; omega
theorem sqV_get (l : List Sq) : ∀ (k : Nat) (hk : k < l.length) (j : Nat) (hj : j < 4), (sqV l)[4 * k + j]? = (sqL l[k])[j]? := by
  induction l with
  | nil => intro k hk; simp at hk
  | cons r l ih =>
    intro k hk j hj
    have h8 : (sqL r).length = 4 := rfl
    cases k with
    | zero => simp only [sqV, List.getElem_cons_zero]; rw [List.getElem?_append_left (by omega)]; simp
    | succ k =>
      simp only [sqV, List.getElem_cons_succ]
      rw [List.getElem?_append_right (by omega), h8, show 4 * (k + 1) + j - 4 = 4 * k + j by omega]
      exact ih k (by simpa using hk) j hj
theorem sq_form {w : World} {A : Option Addr} {l : List Sq} (h : Rd w A (sqV l)) (hn : 0 < l.length) : ∃ b off, A = some ⟨b, off, none⟩ := by
  obtain ⟨b, off, e, hc⟩ := rd_at h (by rw [sqV_len]; omega)
  exact ⟨b, off, e⟩
/-- The cells of a step. -/
theorem sq_cells {w : World} {b off : Nat} {l : List Sq} (h : Rd w (some ⟨b, off, none⟩) (sqV l)) (k : Nat) (hk : k < l.length) (s : Sq) (hs : l[k] = s) :
    w.cell? ⟨b, off + k * 4, none⟩ = some (.int .i64 s.k) ∧ w.cell? ⟨b, off + k * 4 + 1, none⟩ = some (.int .i64 s.q) ∧ w.cell? ⟨b, off + k * 4 + 2, none⟩ = some (.int .i64 s.n) ∧
    w.cell? ⟨b, off + k * 4 + 3, none⟩ = some (.slice s.A s.l.length s.c) := by
  subst hs
  obtain ⟨b', off', e, hc⟩ := rd_at h (by rw [sqV_len]; omega)
  injection e with e
  injection e with e1 e2 e3
  subst e1 e2
  have key : ∀ j (u : Value), j < 4 → (sqL l[k])[j]? = some u → w.cell? ⟨b, off + k * 4 + j, none⟩ = some u := fun j u hj hu => by
    rw [Nat.add_assoc]
    exact hc _ _ (by rw [Nat.mul_comm k 4, sqV_get l k hk j hj]; exact hu)
  have x0 := key 0 _ (by omega) rfl
  simp only [Nat.add_zero] at x0
  exact ⟨x0, key 1 _ (by omega) rfl, key 2 _ (by omega) rfl, key 3 _ (by omega) rfl⟩
theorem opens_struct4 {P : Program} {w : World} {t : TypeId} {α0 α1 α2 α3 : Type} {R0 : α0 → List Value → Prop} {R1 : α1 → List Value → Prop} {R2 : α2 → List Value → Prop} {R3 : α3 → List Value → Prop} {f0 f1 f2 f3 : Field}
    (ht : P.underlying t = some (.struct #[f0, f1, f2, f3])) (o0 : f0.offset = 0) (o1 : f1.offset = 1) (o2 : f2.offset = 2) (o3 : f3.offset = 3)
    (c0 : P.cellsOf f0.type = 1) (c1 : P.cellsOf f1.type = 1) (c2 : P.cellsOf f2.type = 1) (c3 : P.cellsOf f3.type = 1) (hC : P.cellsOf t = 4)
    (h0 : Opens P w f0.type R0) (h1 : Opens P w f1.type R1) (h2 : Opens P w f2.type R2) (h3 : Opens P w f3.type R3) :
    Opens P w t (fun (x : α0 × α1 × α2 × α3) cs => ∃ v0 v1 v2 v3, cs = [v0, v1, v2, v3] ∧ R0 x.1 [v0] ∧ R1 x.2.1 [v1] ∧ R2 x.2.2.1 [v2] ∧ R3 x.2.2.2 [v3]) := by
  intro H enc base spare held fuel cs x hx
  obtain ⟨xs, n, _, _, hcl, hl, hi⟩ := DataW.trod_struct ht hx
  simp at hl
  have e0 := hi 0 f0 rfl
  have e1 := hi 1 f1 rfl
  have e2 := hi 2 f2 rfl
  have e3 := hi 3 f3 rfl
  rw [List.getElem?_eq_getElem (by omega)] at e0 e1 e2 e3
  rw [hC] at hcl
  match cs, hcl with
  | [v0, v1, v2, v3], _ =>
    rw [o0, c0] at e0
    rw [o1, c1] at e1
    rw [o2, c2] at e2
    rw [o3, c3] at e3
    obtain ⟨p0, r0, _⟩ := h0 e0
    obtain ⟨p1, r1, _⟩ := h1 e1
    obtain ⟨p2, r2, _⟩ := h2 e2
    obtain ⟨p3, r3, _⟩ := h3 e3
    exact ⟨(p0, p1, p2, p3), ⟨v0, v1, v2, v3, rfl, r0, r1, r2, r3⟩, by simp [hC]⟩
def IsLaO (w : World) (x : La) (cs : List Value) : Prop := IsLa w x cs ∧ (Lit.int .i64 x.o).wf = true
set_option maxRecDepth 100000 in
theorem opens_laO (w : World) : Opens Try.prog w 32 (IsLaO w) := by
  have OA : Opens Try.prog w 91 _ := opens_struct3 (w := w) Try.underlying91 rfl rfl rfl (by kernel_rfl) (by kernel_rfl) (by kernel_rfl) (by kernel_rfl) (opens_int Try.underlying3 (by kernel_rfl)) (opens_int Try.underlying3 (by kernel_rfl)) (opens_int Try.underlying3 (by kernel_rfl))
  have OP : Opens Try.prog w 94 _ := opens_struct2 (w := w) Try.underlying94 rfl (by kernel_rfl) (by kernel_rfl) (opens_int Try.underlying92 (by kernel_rfl)) (opens_int Try.underlying3 (by kernel_rfl))
  have O : Opens Try.prog w 32 _ := opens_struct6 (w := w) Try.underlying32 rfl rfl rfl rfl rfl rfl (by kernel_rfl) (by kernel_rfl) (by kernel_rfl) (by kernel_rfl) (by kernel_rfl) (by kernel_rfl) (by kernel_rfl)
    (opens_int Try.underlying3 (by kernel_rfl)) (opens_int Try.underlying3 (by kernel_rfl)) (opens_int Try.underlying3 (by kernel_rfl)) (opens_bool Try.underlying4 (by kernel_rfl))
    (opens_slice Try.underlying29 (by kernel_rfl) OA) (opens_slice Try.underlying30 (by kernel_rfl) OP)
  intro H enc base spare held fuel cs x hx
  obtain ⟨⟨p0, p1, p2, p3, xs, ys⟩, ⟨v0, v1, v2, v3, v4, v5, rfl, ⟨e0, w0⟩, ⟨e1, _⟩, ⟨e2, _⟩, e3, ⟨A, c, vs, e4, l1, l2, r1, rd1⟩, ⟨B, d, us, e5, l3, l4, r2, rd2⟩⟩, hl⟩ := O hx
  rw [show Try.prog.cellsOf 91 = 3 from by kernel_rfl] at r1
  rw [show Try.prog.cellsOf 94 = 2 from by kernel_rfl] at r2
  obtain rfl := rep_adj r1
  obtain ⟨l, rfl, hll, hlok⟩ := rep_pre r2
  unfold IsBool at e3
  simp only [List.cons.injEq, and_true] at e0 e1 e2 e3 e4 e5
  subst e0 e1 e2 e3 e4 e5
  simp only at l1 l3 hll ⊢
  refine ⟨⟨p0, p1, p2, p3, xs, l⟩, ⟨⟨⟨A, c, B, d, ?_, rd1, rd2, l1, l2, by simp only; omega, l4, hlok⟩, rfl⟩, w0⟩, hl⟩
  simp only [hll]
theorem rep_lasO {w : World} {xs : List La} : ∀ {vs : List Value}, Rep (IsLaO w) 6 xs vs → ∃ l : List Lx, vs = lxV l ∧ l.length = xs.length ∧ ∀ s ∈ l, LxOk w s ∧ (Lit.int .i64 s.y.o).wf = true := by
  induction xs with
  | nil => intro vs h; exact ⟨[], h, rfl, by simp⟩
  | cons b t ih =>
    rintro vs ⟨cs', q, rfl, ⟨⟨hla, hl6⟩, hwf⟩, _, hr⟩
    obtain ⟨l, rfl, hl, hok⟩ := ih hr
    obtain ⟨A, cc, B, d, hv, hat⟩ := hla.opened
    have hcs : cs' = [.int .i64 b.o, .int .i64 b.s, .int .i64 b.a, .bool b.ov, .slice A b.adj.length cc, .slice B b.pre.length d] := by
      simp only [laV, Value.agg.injEq] at hv
      have := congrArg Array.toList hv
      simpa using this
    subst hcs
    refine ⟨⟨b, A, cc, B, d⟩ :: l, rfl, by simp [hl], fun s hs => ?_⟩
    rcases List.mem_cons.1 hs with rfl | hs
    · exact ⟨hat, hwf⟩
    · exact hok s hs
def IsSq (w : World) (x : Int × Int × Int × List La) (cs : List Value) : Prop := ∃ s : Sq, cs = sqL s ∧ SqOk w s
section
variable {H : Type} {enc : TypeId × Value → H} {w : World} {base : Nat} {spare : Nat → Bool} {held : Bool} {r : Reach} {b0 : Nat} {v : Value} {d : DataW H} {ps : List MemPlace}
theorem opens_sq (w : World) : Opens Try.prog w 48 (IsSq w) := by
  have OI : Opens Try.prog w 3 (IsInt .i64) := opens_int Try.underlying3 (by kernel_rfl)
  have O : Opens Try.prog w 48 _ := opens_struct4 (w := w) Try.underlying48 rfl rfl rfl rfl (by kernel_rfl) (by kernel_rfl) (by kernel_rfl) (by kernel_rfl) (by kernel_rfl) OI OI OI (opens_slice Try.underlying33 (by kernel_rfl) (opens_laO w))
  intro H enc base spare held fuel cs x hx
  obtain ⟨p, ⟨v0, v1, v2, v3, rfl, ⟨e0, w0⟩, ⟨e1, w1⟩, ⟨e2, w2⟩, ⟨A, c, vs, e3, l1, l2, r1, rd1⟩⟩, hl⟩ := O hx
  rw [show Try.prog.cellsOf 32 = 6 from by kernel_rfl] at r1
  obtain ⟨l, rfl, hll, hok⟩ := rep_lasO r1
  simp only [List.cons.injEq, and_true] at e0 e1 e2 e3
  subst e0 e1 e2 e3
  refine ⟨p, ⟨⟨p.1, p.2.1, p.2.2.1, A, c, l⟩, by simp only [sqL, hll], w0, w1, w2, rd1, fun x hx => (hok x hx).1, by rw [hll]; exact Nat.le_trans l1 l2, fun x hx => (hok x hx).2⟩, hl⟩
theorem rep_sq {w : World} {xs : List (Int × Int × Int × List La)} : ∀ {vs : List Value}, Rep (IsSq w) 4 xs vs → ∃ l : List Sq, vs = sqV l ∧ l.length = xs.length ∧ ∀ s ∈ l, SqOk w s := by
  induction xs with
  | nil => intro vs h; exact ⟨[], h, rfl, by simp⟩
  | cons b t ih =>
    rintro vs ⟨cs', q, rfl, ⟨s, rfl, hs⟩, _, hr⟩
    obtain ⟨l, rfl, hl, hok⟩ := ih hr
    refine ⟨s :: l, rfl, by simp [hl], fun z hz => ?_⟩
    rcases List.mem_cons.1 hz with rfl | hz
    · exact hs
    · exact hok z hz
set_option maxRecDepth 100000 in
theorem arg_sq (hv : Value.okWide Try.prog w r b0 39 v) (h : DataW.Trod enc Try.prog w base spare held 39 v d ps) :
    ∃ (A : Option Addr) (n c : Nat) (l : List Sq), v = .slice A n c ∧ Rd w A (sqV l) ∧ l.length = n ∧ n ≤ maxLen ∧ ∀ s ∈ l, SqOk w s := by
  obtain ⟨A, n, c, x, rfl, A', c', vs, h1, h2, h3, h4, h5⟩ := arg_slice Try.underlying39 (opens_slice Try.underlying39 (by kernel_rfl) (opens_sq w)) hv h
  simp only [List.cons.injEq, Value.slice.injEq, and_true] at h1
  obtain ⟨rfl, rfl, rfl⟩ := h1
  rw [show Try.prog.cellsOf 48 = 4 from by kernel_rfl] at h4
  obtain ⟨l, rfl, hl, hok⟩ := rep_sq h4
  exact ⟨A, _, c, l, rfl, h5, hl, Nat.le_trans h2 h3, hok⟩
end
theorem SqOk.below {w w' : World} {s : Sq} (h : SqOk w s) (hb : Below w.heap.size w w') : SqOk w' s := ⟨h.wk, h.wq, h.wn, h.rd.below hb, fun x hx => LaAt.below (h.ok x hx) hb, h.le, h.wo⟩

/-! ### first, valid -/
abbrev lxA (s : Lx) : Value := laV s.y.o s.y.s s.y.a s.y.ov s.A s.y.adj.length s.c s.B s.y.pre.length s.d
def lx0 : Lx := ⟨laZero, none, 0, none, 0⟩
def fsL (l : List Lx) : Lx := l.headD lx0
set_option maxRecDepth 100000 in
set_option maxHeartbeats 1600000 in
theorem first_any (w : World) (A : Option Addr) (n c : Nat) (l : List Lx) (hA : Rd w A (lxV l)) (hn : l.length = n) :
    Calls Try.prog 26 #[.slice A n c] w fun e w' => e = .returned (lxA (fsL l)) ∧ Below w.heap.size w w' := by
  have S := ((St.start w).read hA).new' #[.int .i64 0, .int .i64 0, .int .i64 0, .bool false, .slice none 0 0, .slice none 0 0] 32 w.heap.size _ rfl rfl
  cases l with
  | nil =>
    simp only [List.length_nil] at hn
    subst hn
    clear hA
    have hb9 := S.b
    have b0 := S.c 0 0 rfl rfl
    have b1 := S.c 0 1 rfl rfl
    have b2 := S.c 0 2 rfl rfl
    have b3 := S.c 0 3 rfl rfl
    have b4 := S.c 0 4 rfl rfl
    have b5 := S.c 0 5 rfl rfl
    go_enter Try.func26, Try.ntmps26
    go_wp2_with fail
    exact bodyPost_ret (v := lxA (fsL [])) (by simp [results, Try.results26, go_sem, fsL, lx0, laZero]) rfl ⟨rfl, hb9⟩
  | cons s l =>
    obtain ⟨ba, off, rfl⟩ := lx_form (S.r 0 rfl) (by simp)
    obtain ⟨x0, x1, x2, x3, x4, x5⟩ := lx_cells (S.r 0 rfl) 0 (by simp) s rfl
    simp only [Nat.zero_mul, Nat.add_zero] at x0 x1 x2 x3 x4 x5
    have hn0 : 0 < n := by rw [← hn]; simp
    have hz : ((n : Int) == 0) = false := by simp; omega
    have S9 := (St.start w).new' #[.int .i64 s.y.o, .int .i64 s.y.s, .int .i64 s.y.a, .bool s.y.ov, .slice s.A s.y.adj.length s.c, .slice s.B s.y.pre.length s.d] 32 w.heap.size _ rfl rfl
    have hb9 := S9.b
    have q0 := S.c 0 0 rfl rfl
    have q1 := S.c 0 1 rfl rfl
    have q2 := S.c 0 2 rfl rfl
    have q3 := S.c 0 3 rfl rfl
    have q4 := S.c 0 4 rfl rfl
    have q5 := S.c 0 5 rfl rfl
    have f0 := S.f 0 0 rfl rfl
    have f1 := S.f 0 1 rfl rfl
    have f2 := S.f 0 2 rfl rfl
    have f3 := S.f 0 3 rfl rfl
    have f4 := S.f 0 4 rfl rfl
    have f5 := S.f 0 5 rfl rfl
    have b0 := S9.c 0 0 rfl rfl
    have b1 := S9.c 0 1 rfl rfl
    have b2 := S9.c 0 2 rfl rfl
    have b3 := S9.c 0 3 rfl rfl
    have b4 := S9.c 0 4 rfl rfl
    have b5 := S9.c 0 5 rfl rfl
    clear hA hn
    go_enter Try.func26, Try.ntmps26
    go_wp2_with fail
    exact bodyPost_ret (v := lxA (fsL (s :: l))) (by simp [results, Try.results26, go_sem, fsL]) rfl ⟨rfl, hb9⟩
theorem fsL_ok {w : World} {l : List Lx} (h : ∀ x ∈ l, LxOk w x) : LxOk w (fsL l) := by
  cases l with
  | nil => exact (laZero_own w w.heap.size).at
  | cons s l => exact h s (by simp)

theorem fsL_wf {l : List Lx} (h : ∀ x ∈ l, (Lit.int .i64 x.y.o).wf = true) : (Lit.int .i64 (fsL l).y.o).wf = true := by
  cases l with
  | nil => rfl
  | cons s l => exact h s (by simp)
noncomputable def vlB (l : List Lx) : Bool := l.all fun s => vB s.y
theorem vlB_snoc (l : List Lx) (k : Nat) (hk : k < l.length) : vlB (l.take (k + 1)) = (vlB (l.take k) && vB l[k].y) := by
  unfold vlB
  rw [List.take_succ_eq_append_getElem hk, List.all_append]; simp
theorem vlB_take {l : List Lx} {k : Nat} (h : vlB (l.take k) = false) : vlB l = false := by
  unfold vlB at *
  cases hl : l.all fun s => vB s.y with
  | false => rfl
  | true =>
    have : (l.take k).all (fun s => vB s.y) = true := List.all_eq_true.2 fun x hx => List.all_eq_true.1 hl x (List.mem_of_mem_take hx)
    rw [this] at h; cases h
set_option maxRecDepth 100000 in
set_option maxHeartbeats 3200000 in
theorem valid35_any (w : World) (A : Option Addr) (n c : Nat) (l : List Lx) (hA : Rd w A (lxV l)) (hn : l.length = n) (hm : n ≤ 9223372036854775807) (hok : ∀ s ∈ l, LxOk w s) :
    Calls Try.prog 27 #[.slice A n c] w fun e w' => e = .returned (.bool (vlB l)) ∧ Below w.heap.size w w' := by
  have S := (St.start w).read hA
  have hs1 := fun k hk => vlB_snoc l k hk
  have hs2 := fun k => vlB_take (l := l) (k := k)
  have hs3 : vlB l = vlB (l.take n) := by rw [← hn, List.take_length]
  have h0 : Hid (vlB (l.take 0) = true) := rfl
  obtain ⟨V, hV⟩ : ∃ V, vlB l = V := ⟨_, rfl⟩
  rw [hV] at hs2 hs3 ⊢
  replace hn := Lib.hid hn
  replace hok := Lib.hid hok
  replace hs1 := Lib.hid hs1
  replace hs2 := Lib.hid hs2
  replace hs3 := Lib.hid hs3
  clear hA hV
  go_enter Try.func27, Try.ntmps27
  go_wp2_with fail
  go_loopw [3] (fun v3 wr => ∃ (k : Nat), v3 = .int .i64 k ∧ k ≤ n ∧ Hid (vlB (l.take k) = true) ∧ St w wr [] [(A, lxV l)]) (fun v3 _ => n - (intOf v3).toNat)
  case atStart => exact ⟨0, rfl, by omega, h0, S⟩
  case round =>
    clear S h0
    obtain ⟨k, rfl, hk, hv, S⟩ := hrel
    by_cases hkn : k < n
    · have hkl : k < l.length := by rw [hn.out]; exact hkn
      obtain ⟨ba, off, rfl⟩ := lx_form (S.r 0 rfl) (by omega)
      have hso := hok.out l[k] (List.getElem_mem hkl)
      have hnx := hs1.out k hkl
      rw [hv.out, Bool.true_and] at hnx
      obtain ⟨s, hs⟩ : ∃ s, l[k] = s := ⟨_, rfl⟩
      rw [hs] at hso hnx
      obtain ⟨x0, x1, x2, x3, x4, x5⟩ := lx_cells (S.r 0 rfl) k hkl s hs
      have VA := rvalid_at _ _ s.y (LaAt.below hso S.b)
      replace VA := Lib.hid VA
      replace hnx := Lib.hid hnx
      clear hs hso
      go_wp2_with fail
      (with_reducible refine (VA.out).mono ?_)
      rintro e w1 ⟨rfl, hb⟩
      replace S := S.call hb
      clear hb VA x0 x1 x2 x3 x4 x5
      cases hvb : vB s.y with
      | true =>
        have hv2 : Hid (vlB (l.take (k + 1)) = true) := hnx.out.trans hvb
        clear hnx hv
        go_wp2_with fail
        go_round
        case rel => exact ⟨k + 1, by go_num, by omega, hv2, S⟩
        case measure => simp [intOf]; omega
      | false =>
        have hbf := hs2.out (k + 1) (hnx.out.trans hvb)
        subst hbf
        have hb9 := S.b
        clear hnx hv
        go_wp2_with fail
        go_ret
        exact ⟨rfl, hb9⟩
    · obtain rfl : n = k := by omega
      have hbt := hs3.out
      rw [hv.out] at hbt
      subst hbt
      have hb9 := S.b
      go_wp2_with fail
      go_ret
      exact ⟨rfl, hb9⟩

end Go.Proofs.Ytgbcnglagnlmhaa

namespace Go.Proofs.Ytgbcnglagnlmhaa
set_option linter.unusedVariables false
open Go.RowKit Go.Sort Go.ChangeShapes Go.WideShapes Go.ChangeAt

def FewS (s : Sq) : Prop := s.l.length ≤ 8 ∧ s.n ≤ 1048576 ∧ ∀ x ∈ s.l, fewB x.y = true
structure Few35 (l : List Sq) : Prop where
  len : l.length ≤ 25
  all : ∀ s ∈ l, FewS s
def FewPost (w : World) (l : List Sq) (e : Ending) (w' : World) : Prop := ∃ fv, e = .returned (.bool fv) ∧ (fv = true → Few35 l) ∧ Below w.heap.size w w'
set_option maxRecDepth 100000 in
set_option maxHeartbeats 3200000 in
theorem few35_any (w : World) (A : Option Addr) (n c : Nat) (l : List Sq) (hA : Rd w A (sqV l)) (hn : l.length = n) (hm : n ≤ 9223372036854775807) (hok : ∀ s ∈ l, SqOk w s) :
    Calls Try.prog 12 #[.slice A n c] w (FewPost w l) := by
  have S := (St.start w).read hA
  have h0 : Hid (∀ s ∈ l.take 0, FewS s) := show ∀ s ∈ l.take 0, FewS s by simp
  have hno : Hid (∀ w', Below w.heap.size w w' → FewPost w l (.returned (.bool false)) w') := fun w' hb => ⟨false, rfl, fun h => (by cases h), hb⟩
  have hyes : Hid (∀ w' fv, (fv = true → l.length ≤ 25) → (∀ s ∈ l.take n, FewS s) → Below w.heap.size w w' → FewPost w l (.returned (.bool fv)) w') := fun w' fv h1 h2 hb => ⟨fv, rfl, fun h => ⟨h1 h, by rw [← hn, List.take_length] at h2; exact h2⟩, hb⟩
  replace hn := Lib.hid hn
  replace hok := Lib.hid hok
  clear hA
  go_enter Try.func12, Try.ntmps12
  go_wp2_with fail
  go_loopw [3] (fun v3 wr => ∃ (k : Nat), v3 = .int .i64 k ∧ k ≤ n ∧ Hid (∀ s ∈ l.take k, FewS s) ∧ St w wr [] [(A, sqV l)]) (fun v3 _ => n - (intOf v3).toNat)
  case atStart => exact ⟨0, rfl, by omega, h0, S⟩
  case round =>
    clear S h0
    obtain ⟨k, rfl, hk, hv, S⟩ := hrel
    by_cases hkn : k < n
    · have hkl : k < l.length := by rw [hn.out]; exact hkn
      obtain ⟨ba, off, rfl⟩ := sq_form (S.r 0 rfl) (by omega)
      have hso := hok.out l[k] (List.getElem_mem hkl)
      have hnx : FewS l[k] → ∀ s ∈ l.take (k + 1), FewS s := fun h1 s hs => by
        rw [List.take_succ_eq_append_getElem hkl] at hs
        rcases List.mem_append.1 hs with hs | hs
        · exact hv.out s hs
        · rw [List.mem_singleton.1 hs]; exact h1
      obtain ⟨s, hs⟩ : ∃ s, l[k] = s := ⟨_, rfl⟩
      rw [hs] at hso hnx
      have hcell := fun W (h : Rd W (some ⟨ba, off, none⟩) (sqV l)) => sq_cells h k hkl s hs
      clear hs hkl
      replace hnx := Lib.hid hnx
      replace hcell := Lib.hid hcell
      have hb9 := S.b
      have hle := hso.le
      unfold maxLen at hle
      obtain ⟨x0, x1, x2, x3⟩ := hcell.out _ (S.r 0 rfl)
      have hnb := bounds_i64 hso.wn
      rcases h8 : decide ((8 : Int) < (s.l.length : Int)) with _ | _
      rotate_left
      · have hf := hno.out _ hb9
        clear hno hyes
        go_wp2_with fail
        go_ret
        exact hf
      rcases hN : decide ((1048576 : Int) < s.n) with _ | _
      rotate_left
      · have hf := hno.out _ hb9
        clear hno hyes
        go_wp2_with fail
        go_ret
        exact hf
      have h8' : s.l.length ≤ 8 := by simp at h8; omega
      have hN' : s.n ≤ 1048576 := by simp at hN; omega
      go_wp2_with fail
      clear x0 x1 x2 x3 h8 hN hb9
      have hL := hso.rd
      have hi0 : Hid (∀ x ∈ s.l.take 0, fewB x.y = true) := show ∀ x ∈ s.l.take 0, fewB x.y = true by simp
      have hLx := hso.ok
      replace hLx := Lib.hid hLx
      obtain ⟨m, hmm⟩ : ∃ m, s.l.length = m := ⟨_, rfl⟩
      rw [hmm] at h8'
      go_loopw [4] (fun v4 wr => ∃ (j : Nat), v4 = .int .i64 j ∧ j ≤ m ∧ Hid (∀ x ∈ s.l.take j, fewB x.y = true) ∧ St w wr [] [(some ⟨ba, off, none⟩, sqV l)]) (fun v4 _ => m - (intOf v4).toNat)
      case atStart => exact ⟨0, rfl, by omega, hi0, S⟩
      case round =>
        clear S hi0
        obtain ⟨j, rfl, hj, hi, S⟩ := hrel
        obtain ⟨x0, x1, x2, x3⟩ := hcell.out _ (S.r 0 rfl)
        by_cases hjm : j < m
        · have hjl : j < s.l.length := by omega
          have hlt : (j : Int) < (s.l.length : Int) := by omega
          have hrL := hL.below S.b
          obtain ⟨bl, ol, hAl⟩ := lx_form hrL (by omega)
          rw [hAl] at x3 hrL
          have hxo := hLx.out s.l[j] (List.getElem_mem hjl)
          have hnx2 : fewB s.l[j].y = true → ∀ x ∈ s.l.take (j + 1), fewB x.y = true := fun h1 x hx => by
            rw [List.take_succ_eq_append_getElem hjl] at hx
            rcases List.mem_append.1 hx with hx | hx
            · exact hi.out x hx
            · rw [List.mem_singleton.1 hx]; exact h1
          obtain ⟨y, hy⟩ : ∃ y, s.l[j] = y := ⟨_, rfl⟩
          rw [hy] at hxo hnx2
          obtain ⟨z0, z1, z2, z3, z4, z5⟩ := lx_cells hrL j hjl y hy
          have F := few_any _ _ y.y (LaAt.below hxo S.b)
          replace F := Lib.hid F
          replace hnx2 := Lib.hid hnx2
          replace hAl := Lib.hid hAl
          have hmm' := Lib.hid hmm
          clear hy hrL hxo hmm
          go_wp2_with fail
          (with_reducible refine (F.out).mono ?_)
          rintro e w5 ⟨rfl, hb⟩
          replace S := S.call hb
          clear hb F z0 z1 z2 z3 z4 z5 x0 x1 x2 x3
          cases hfb : fewB y.y with
          | false =>
            have hf := hno.out _ S.b
            clear hno hyes
            go_wp2_with fail
            go_ret
            exact hf
          | true =>
            have hi2 := Lib.hid (hnx2.out hfb)
            clear hnx2 hi
            go_wp2_with fail
            go_round
            case rel => exact ⟨j + 1, by go_num, by omega, hi2, S⟩
            case measure => simp [intOf]; omega
        · obtain rfl : m = j := by omega
          have hlt : ¬ (m : Int) < (s.l.length : Int) := by omega
          have hv2 : Hid (∀ s ∈ l.take (k + 1), FewS s) := hnx.out ⟨by omega, hN', by rw [← hmm, List.take_length] at hi; exact hi.out⟩
          clear hnx hi hv
          replace hmm := Lib.hid hmm
          go_wp2_with fail
          go_round
          case rel => exact ⟨k + 1, by go_num, by omega, hv2, S⟩
          case measure => simp [intOf]; omega
    · obtain rfl : n = k := by omega
      have hf := hyes.out _ (decide ((n : Int) ≤ 25)) (fun h => by rw [hn.out]; have : (n : Int) ≤ 25 := of_decide_eq_true h; omega) hv.out S.b
      clear hno hyes
      go_wp2_with fail
      go_ret
      exact hf

/-! ### Up's errors -/
set_option maxRecDepth 100000 in
set_option maxHeartbeats 800000 in
theorem fup_range (w : World) (g : Nat) (z : Int) (u : Value) (h : z < 0 ∨ 256 ≤ z) : Calls Try.prog 8 #[.pointer (some ⟨g, 0, none⟩), .int .i64 z, u] w fun e w' => e = .returned (.int .i64 2) ∧ w = w' := by
  rcases h with h | h
  · have e1 : decide (z < 0) = true := by simp; omega
    go_enter Try.func8, Try.ntmps8
    go_wp2_with fail
    go_ret
    exact ⟨rfl, rfl⟩
  · have e1 : decide (z < 0) = false := by simp; omega
    have e2 : decide (256 ≤ z) = true := by simp; omega
    go_enter Try.func8, Try.ntmps8
    go_wp2_with fail
    go_ret
    exact ⟨rfl, rfl⟩
set_option maxRecDepth 100000 in
set_option maxHeartbeats 3200000 in
theorem fup_bad (w : World) (g : Nat) (i : Nat) (hi : i < 256) (A : Option Addr) (n c : Nat) (l : List Lx) (hA : Rd w A (lxV l)) (hn : l.length = n) (hm : n ≤ 1000000) (hok : ∀ s ∈ l, LxOk w s) (hb : vlB l = false) :
    Calls Try.prog 8 #[.pointer (some ⟨g, 0, none⟩), .int .i64 (i : Int), .slice A n c] w fun e w' => e = .returned (.int .i64 1) ∧ Below w.heap.size w w' := by
  have S := (St.start w).read hA
  have hi9 : (i : Int) < 256 := by omega
  have hs1 := fun k hk => vlB_snoc l k hk
  have h0 : Hid (vlB (l.take 0) = true) := rfl
  have hs3 : vlB (l.take n) = false := by rw [← hn, List.take_length]; exact hb
  replace hn := Lib.hid hn
  replace hok := Lib.hid hok
  replace hs1 := Lib.hid hs1
  replace hs3 := Lib.hid hs3
  clear hA hb
  go_enter Try.func8, Try.ntmps8
  go_wp2_with fail
  go_loopw [21] (fun v21 wr => ∃ (k : Nat), v21 = .int .i64 k ∧ k ≤ n ∧ Hid (vlB (l.take k) = true) ∧ St w wr [] [(A, lxV l)]) (fun v21 _ => n - (intOf v21).toNat)
  case atStart => exact ⟨0, rfl, by omega, h0, S⟩
  case round =>
    clear S h0
    obtain ⟨k, rfl, hk, hv, S⟩ := hrel
    by_cases hkn : k < n
    · have hkl : k < l.length := by rw [hn.out]; exact hkn
      obtain ⟨ba, off, rfl⟩ := lx_form (S.r 0 rfl) (by omega)
      have hso := hok.out l[k] (List.getElem_mem hkl)
      have hnx := hs1.out k hkl
      rw [hv.out, Bool.true_and] at hnx
      obtain ⟨s, hs⟩ : ∃ s, l[k] = s := ⟨_, rfl⟩
      rw [hs] at hso hnx
      obtain ⟨x0, x1, x2, x3, x4, x5⟩ := lx_cells (S.r 0 rfl) k hkl s hs
      replace hnx := Lib.hid hnx
      clear hs hkl
      have V := fun W hb => valid_at W _ s.y (LaAt.below hso hb)
      replace V := Lib.hid V
      clear hso
      go_upto_region 8 with fail
      replace S := S.new' #[.int .i64 s.y.o, .int .i64 s.y.s, .int .i64 s.y.a, .bool s.y.ov, .slice s.A s.y.adj.length s.c, .slice s.B s.y.pre.length s.d] 32 wr.heap.size _ rfl rfl
      clear x0 x1 x2 x3 x4 x5
      generalize World.alloc wr _ = w4 at *
      generalize wr.heap.size = g4 at *
      have r0 := S.c 0 0 rfl rfl
      have r1 := S.c 0 1 rfl rfl
      have r2 := S.c 0 2 rfl rfl
      have r3 := S.c 0 3 rfl rfl
      have r4 := S.c 0 4 rfl rfl
      have r5 := S.c 0 5 rfl rfl
      go_wp2_with fail
      (with_reducible refine (V.out _ S.b).mono ?_)
      rintro e w5 ⟨rfl, hb⟩
      clear r0 r1 r2 r3 r4 r5
      replace S := (S.call hb).keepBoxes [] (by simp)
      clear hb V
      cases hvb : vB s.y with
      | true =>
        have hv2 : Hid (vlB (l.take (k + 1)) = true) := hnx.out.trans hvb
        clear hnx hv
        go_wp2_with fail
        go_round
        case rel => exact ⟨k + 1, by go_num, by omega, hv2, S⟩
        case measure => simp [intOf]; omega
      | false =>
        have hb9 := S.b
        clear hnx hv
        go_wp2_with fail
        go_ret
        exact ⟨rfl, hb9⟩
    · obtain rfl : n = k := by omega
      have := hs3.out
      rw [hv.out] at this
      cases this

end Go.Proofs.Ytgbcnglagnlmhaa

namespace Go.Proofs.Ytgbcnglagnlmhaa
set_option linter.unusedVariables false
open Go.RowKit Go.Maps Go.Sort

/-! ### Boxes kept while maps turn -/
structure Sk (B0 : Nat) (W w : World) (bs : List (Nat × List Value)) : Prop where
  k : Kq W w
  bel : Below B0 W w
  hB : B0 ≤ W.heap.size
  bx : ∀ (i : Nat) (x : Nat × List Value), bs[i]? = some x → Box w x.1 x.2
section
variable {B0 : Nat} {W w w' : World} {bs : List (Nat × List Value)}
theorem Sk.box (S : Sk B0 W w bs) (i : Nat) {g : Nat} {cs : List Value} (hi : bs[i]? = some (g, cs)) : Box w g cs := S.bx i _ hi
theorem Sk.c (S : Sk B0 W w bs) (i j : Nat) {g : Nat} {cs : List Value} {u : Value} (hi : bs[i]? = some (g, cs)) (hj : cs[j]? = some u) : w.cell? ⟨g, j, none⟩ = some u := (S.box i hi).c j hj
theorem Sk.f (S : Sk B0 W w bs) (i j : Nat) {g : Nat} {cs : List Value} {u : Value} (hi : bs[i]? = some (g, cs)) (hj : cs[j]? = some u) : w.frozen? ⟨g, j, none⟩ = false := (S.box i hi).f j hj
theorem Sk.turn (S : Sk B0 W w bs) (h : Kq w w') (h2 : Below B0 w w') : Sk B0 W w' bs := ⟨S.k.trans h, S.bel.trans h2, S.hB, fun i x hx => h.box (S.bx i x hx)⟩
theorem Sk.call (S : Sk B0 W w bs) (h : Below w.heap.size w w') : Sk B0 W w' bs := S.turn (Kq.of_below h) (h.mono (Nat.le_trans S.hB S.bel.size))
theorem Sk.add (S : Sk B0 W w bs) {g : Nat} {cs : List Value} (h : Box w g cs) : Sk B0 W w ((g, cs) :: bs) := ⟨S.k, S.bel, S.hB, fun i x hx => by
  cases i with
  | zero => simp at hx; subst hx; exact h
  | succ i => exact S.bx i x (by simpa using hx)⟩
theorem Kq.set {g j : Nat} {u : Value} (h : Kq W w) (hg : W.heap.size ≤ g) : Kq W (w.setCell ⟨g, j, none⟩ u) := by
  have hs := grownBy_set w g j u
  exact ⟨hs.os.trans h.os, hs.tape.trans h.tape, hs.output.trans h.output, Nat.le_trans h.size hs.size, fun k hk hne => (hs.block k (Nat.lt_of_lt_of_le hk h.size) (fun e => by injection e; omega)).trans (h.block k hk hne)⟩
theorem Sk.set (S : Sk B0 W w bs) (i j : Nat) (u : Value) {g : Nat} {cs : List Value} (hi : bs[i]? = some (g, cs)) (hj : j < cs.length) (hg : W.heap.size ≤ g)
    (hd : ∀ x ∈ bs.eraseIdx i, x.1 ≠ g) (bs' : List (Nat × List Value)) (hbs : bs.set i (g, cs.set j u) = bs') : Sk B0 W (w.setCell ⟨g, j, none⟩ u) bs' := by
  subst hbs
  refine ⟨S.k.set hg, S.bel.setCell (p := ⟨g, j, none⟩) (Nat.le_trans S.hB hg) u, S.hB, fun k x hx => ?_⟩
  by_cases hk : i = k
  · subst hk
    rw [List.getElem?_set_self (by have := (List.getElem?_eq_some_iff.1 hi).1; exact this)] at hx
    injection hx with hx
    subst hx
    exact (S.bx i _ hi).set j u hj
  · rw [List.getElem?_set_ne hk] at hx
    exact (S.bx k x hx).far u (fun e => hd x (List.mem_eraseIdx_iff_getElem?.2 ⟨k, fun e' => hk e'.symm, hx⟩) e.symm)
theorem Sk.set4 {g : Nat} {a0 a1 a2 a3 : Value} (S : Sk B0 W w ((g, [a0, a1, a2, a3]) :: bs)) (v0 v1 v2 v3 : Value) (hg : W.heap.size ≤ g) (hd : ∀ x ∈ bs, x.1 ≠ g) :
    Sk B0 W ((((w.setCell ⟨g, 0, none⟩ v0).setCell ⟨g, 1, none⟩ v1).setCell ⟨g, 2, none⟩ v2).setCell ⟨g, 3, none⟩ v3) ((g, [v0, v1, v2, v3]) :: bs) :=
  (((S.set 0 0 v0 rfl (by simp) hg hd _ rfl).set 0 1 v1 rfl (by simp) hg hd _ rfl).set 0 2 v2 rfl (by simp) hg hd _ rfl).set 0 3 v3 rfl (by simp) hg hd _ rfl
theorem Sk.of (S : St W w bs []) (hB : B0 ≤ W.heap.size) : Sk B0 W w bs := ⟨Kq.of_below S.b, S.b.mono hB, hB, S.bx⟩
theorem Sk.keep (S : Sk B0 W w bs) (bs' : List (Nat × List Value)) (h : ∀ x ∈ bs', x ∈ bs) : Sk B0 W w bs' := ⟨S.k, S.bel, S.hB, fun i x hx => by
  obtain ⟨j, hj⟩ := List.getElem?_of_mem (h x (List.mem_of_getElem? hx))
  exact S.bx j x hj⟩
end

/-! ### What is held is good -/
theorem FnOk.set {N : Fn} (h : FnOk N) {q : Nat} {D : Db} (hD : ∀ o hd, D o = some hd → LaValid hd.x ∧ hd.x.o = (o : Int) ∧ 0 ≤ hd.l ∧ hd.l ≤ 65536) : FnOk (setN N q D) := fun i E o hd h1 h2 => by
  unfold setN at h1
  split at h1
  · injection h1 with h1; subst h1; exact hD o hd h2
  · exact h i E o hd h1 h2
theorem FnOk.drop {N : Fn} (h : FnOk N) (q : Nat) : FnOk (dropN N q) := fun i E o hd h1 h2 => by
  unfold dropN at h1
  split at h1
  · cases h1
  · exact h i E o hd h1 h2
def DbG (D : Db) : Prop := ∀ o hd, D o = some hd → LaValid hd.x ∧ hd.x.o = (o : Int) ∧ 0 ≤ hd.l ∧ hd.l ≤ 65536
theorem DbG.off {D : Db} (h : DbG D) {a : La} (ha : LaValid a) : DbG (offD D a) := fun o hd h1 => by
  unfold offD at h1
  split at h1
  · dsimp only at h1
    split at h1
    · next e =>
      injection h1 with h1; subst h1
      have := ha.1
      exact ⟨ha, by simp only; omega, by simp, by simp⟩
    · exact h o hd h1
  · exact h o hd h1
theorem DbG.offs {D : Db} (h : DbG D) : ∀ {l : List La}, (∀ a ∈ l, LaValid a) → DbG (_root_.Go.Proofs.Ytgbcnglagnlmhaa.offs D l) := fun {l} => by
  induction l generalizing D with
  | nil => intro _; exact h
  | cons a l ih => intro hv; exact ih (h.off (hv a (by simp))) fun b hb => hv b (List.mem_cons_of_mem _ hb)
theorem DbG.rm {D : Db} (h : DbG D) (a : La) : DbG (rmD D a) := fun o hd h1 => by
  unfold rmD at h1
  split at h1
  · dsimp only at h1
    split at h1
    · cases h1
    · exact h o hd h1
  · exact h o hd h1
theorem DbG.ack {D : Db} (h : DbG D) (a : La) : DbG (ackD D a) := fun o hd h1 => by
  unfold ackD at h1
  split at h1
  · dsimp only at h1
    split at h1
    · cases h1
    · exact h o hd h1
  · exact h o hd h1
theorem FnOk.db {N : Fn} (h : FnOk N) {q : Nat} {D : Db} (hD : N q = some D) : DbG D := fun o hd h1 => h q D o hd hD h1
theorem FnOk.map {N : Fn} (F : Nat → Db → Db) (h : ∀ q D, N q = some D → DbG (F q D)) : FnOk (fun i => (N i).map (F i)) := fun i E o hd h1 h2 => by
  cases hN : N i with
  | none => simp only [hN] at h1; cases h1
  | some D =>
    simp only [hN, Option.map_some, Option.some.injEq] at h1
    subst h1
    exact h i D hN o hd h2
theorem FnOk.spr {N : Fn} (h : FnOk N) {a : La} (ha : LaValid a) (ex : Int) : FnOk (sprN N a ex) := FnOk.map _ fun q D hD => by
  unfold sprD
  split
  · exact (h.db hD).off ha
  · exact (h.db hD).rm a
theorem FnOk.tik {N : Fn} (h : FnOk N) {n : Int} (hn : 0 < n) : FnOk (tikN n N) := FnOk.map _ fun q D hD o hd h1 => by
  simp only [tikD, Option.map_eq_some_iff] at h1
  obtain ⟨h0, h1, rfl⟩ := h1
  obtain ⟨a1, a2, a3, a4⟩ := h.db hD o h0 h1
  unfold tikH
  exact ⟨a1, a2, by simp only; omega, by simp only; omega⟩
theorem FnOk.pol {N : Fn} (h : FnOk N) {iv : Int} (h0 : 0 ≤ iv) (h1 : iv ≤ 65536) : FnOk (polN iv N) := FnOk.map _ fun q D hD o hd h1 => by
  simp only [polD, Option.map_eq_some_iff] at h1
  obtain ⟨h9, h1, rfl⟩ := h1
  obtain ⟨a1, a2, a3, a4⟩ := h.db hD o h9 h1
  unfold polH
  split
  · exact ⟨a1, a2, a3, a4⟩
  · exact ⟨a1, a2, by simp only; omega, by simp only; omega⟩
theorem flat_len {α β : Type} {f : α → List β} {m : Nat} (h : ∀ a, (f a).length ≤ m) : ∀ l : List α, (l.flatMap f).length ≤ l.length * m
  | [] => by simp
  | a :: l => by
    have := flat_len h l
    have := h a
    rw [List.flatMap_cons, List.length_append, List.length_cons, Nat.add_mul]
    omega
theorem Rel.len {N : Fn} {R : RF} (h : Rel N R) : R.its.length ≤ 16384 := by
  have e : (R.its.map (fun s => (s.q, s.x.y))).length = R.its.length := by simp
  rw [← e, h.list]
  unfold flatP
  refine Nat.le_trans (flat_len (m := 64) (fun q => ?_) _) (by have := lks_len N; omega)
  split
  · unfold pendL
    simp only [List.length_map]
    exact orgs_len _
  · simp
theorem Rel.lsl {N : Fn} {R : RF} (h : Rel N R) : R.ls.length ≤ 256 := by rw [h.ls]; exact lks_len N
theorem Rel.is {N : Fn} {R : RF} (h : Rel N R) (z : Int) : isR R z = (lkO N z).isSome := by
  rw [Bool.eq_iff_iff]
  unfold isR
  rw [List.any_eq_true, h.ls]
  constructor
  · rintro ⟨x, hx, e⟩
    obtain rfl : x = z := by simpa using e
    have := (lks_mem x).1 hx
    unfold lkO
    rw [if_pos this.1]; exact this.2
  · intro hz
    refine ⟨z, (lks_mem z).2 ?_, by simp⟩
    unfold lkO at hz
    split at hz
    · next h2 => exact ⟨h2, hz⟩
    · cases hz

theorem gr_below {w w' : World} {k B : Nat} (hg : w.grownBy w' (some k)) (hk : B ≤ k) (hB : B ≤ w.heap.size) : Below B w w' :=
  ⟨hg.os, hg.tape, hg.output, hg.size, fun j hj => hg.block j (by omega) (fun e => by injection e; omega)⟩
def FB (B0 : Nat) (N : Fn) (f : Nat → Nat) : Prop := ∀ i, i < 256 → (N i).isSome = true → B0 ≤ f i
theorem FB.set {B0 : Nat} {N : Fn} {f : Nat → Nat} (h : FB B0 N f) {i : Nat} {D D' : Db} (hD : N i = some D) : FB B0 (setN N i D') f := fun j hj hs => by
  unfold setN at hs
  split at hs
  · next e => subst e; exact h j hj (by rw [hD]; rfl)
  · exact h j hj hs
theorem FB.drop {B0 : Nat} {N : Fn} {f : Nat → Nat} (h : FB B0 N f) (i : Nat) : FB B0 (dropN N i) f := fun j hj hs => by
  unfold dropN at hs
  split at hs
  · cases hs
  · exact h j hj hs
theorem FB.map {B0 : Nat} {N : Fn} {f : Nat → Nat} (h : FB B0 N f) (F : Nat → Db → Db) : FB B0 (fun i => (N i).map (F i)) f := fun j hj hs => h j hj (by simpa using hs)
theorem FB.up {B0 : Nat} {N : Fn} {f : Nat → Nat} (h : FB B0 N f) {i k : Nat} {D : Db} (hk : B0 ≤ k) : FB B0 (setN N i D) (fun j => if j = i then k else f j) := fun j hj hs => by
  unfold setN at hs
  dsimp only
  split
  · exact hk
  · next e => rw [if_neg e] at hs; exact h j hj hs
theorem FB.kf {B0 : Nat} {N : Fn} {f : Nat → Nat} (h : FB B0 N f) {w w' : World} (hk : Kf (FS N f) w w') (hB : B0 ≤ w.heap.size) : Below B0 w w' := hk.toBelow (fun k hS => by
  obtain ⟨i, hi, hs, rfl⟩ := hS
  exact h i hi hs) hB

/-! ### A step -/
structure StOk (B0 : Nat) (w w' : World) (g b : Nat) (iv : Int) (N' : Fn) (f' : Nat → Nat) (A : Option Addr) (c : Nat) (B : Option Addr) (d : Nat) (R : RF) (A' : Option Addr) (c' : Nat) (B' : Option Addr) (d' : Nat) (R' : RF) : Prop where
  fl : FlAt w' g b iv N' f'
  ok : FnOk N'
  rel : Rel N' R'
  la : LsTo w w' A c R.ls A' c' R'.ls
  it : ItTo w w' B d R.its B' d' R'.its
  its : ItsOk w' R'.its
  iv : R'.iv = R.iv
  lo : R.now ≤ R'.now
  hi : R'.now ≤ R.now + 1048576
  kq : Kq w w'
  bel : Below B0 w w'
  fb : FB B0 N' f'
def StPost (B0 : Nat) (w : World) (g b : Nat) (iv : Int) (A : Option Addr) (c : Nat) (B : Option Addr) (d : Nat) (R : RF) (e : Ending) (w' : World) : Prop :=
  ∃ N' f' A' c' B' d' R', e = .returned (.tuple #[rfV R' A' R'.ls.length c' B' R'.its.length d', .bool true]) ∧ StOk B0 w w' g b iv N' f' A c B d R A' c' B' d' R'

end Go.Proofs.Ytgbcnglagnlmhaa

namespace Go.Proofs.Ytgbcnglagnlmhaa
set_option linter.unusedVariables false
open Go.RowKit Go.Maps Go.Sort

theorem hsc {w : World} {b i : Nat} {cs : Array Value} {T : TypeId} {fr : Nat × Nat} (hb : w.heap[b]? = some (.cells cs T fr)) (v : Value) : (w.setCell ⟨b, i, none⟩ v).heap[b]? = some (.cells (cs.setIfInBounds i v) T fr) := by
  simp [World.setCell, Array.getElem?_modify, hb]
/-- A box that holds a flooder of the reference. -/
def FlBox (w : World) (k : Nat) : Prop := ∃ a b A n c B m d T fr, w.heap[k]? = some (.cells #[.int .i64 a, .int .i64 b, .slice A n c, .slice B m d] T fr)
theorem FlBox.cell {w : World} {k : Nat} (h : FlBox w k) {j : Nat} {u : Value} (hj : w.cell? ⟨k, j, none⟩ = some u) : (j < 2 ∧ ∃ z, u = .int .i64 z) ∨ (2 ≤ j ∧ ∃ A n c, u = .slice A n c) := by
  obtain ⟨a, b, A, n, c, B, m, d, T, fr, hb⟩ := h
  unfold World.cell? at hj
  simp only [hb] at hj
  match j, hj with
  | 0, hj => simp at hj; exact .inl ⟨by omega, _, hj.symm⟩
  | 1, hj => simp at hj; exact .inl ⟨by omega, _, hj.symm⟩
  | 2, hj => simp at hj; exact .inr ⟨by omega, _, _, _, hj.symm⟩
  | 3, hj => simp at hj; exact .inr ⟨by omega, _, _, _, hj.symm⟩
  | j + 4, hj => simp at hj
theorem FlBox.kq {w w' : World} {k : Nat} (h : FlBox w k) (hq : Kq w w') : FlBox w' k := by
  obtain ⟨a, b, A, n, c, B, m, d, T, fr, hb⟩ := h
  exact ⟨a, b, A, n, c, B, m, d, T, fr, (hq.block k (Array.getElem?_eq_some_iff.1 hb).1 (fun es c2 e => by rw [hb] at e; cases e)).trans hb⟩
theorem FlBox.alloc (w : World) (a b : Int) (A : Option Addr) (n c : Nat) (B : Option Addr) (m d : Nat) (T : TypeId) : FlBox (w.alloc (.cells #[.int .i64 a, .int .i64 b, .slice A n c, .slice B m d] T)) w.heap.size :=
  ⟨a, b, A, n, c, B, m, d, T, (0, 0), Array.getElem?_push_size⟩
theorem rdA_far {w : World} {A : Option Addr} {l : List Ad} {k : Nat} (h : Rd w A (adV l)) (hk : FlBox w k) (j : Nat) (u : Value) : Rd (w.setCell ⟨k, j, none⟩ u) A (adV l) := by
  intro hn
  obtain ⟨b, off, rfl, hc⟩ := rd_at h hn
  have hb : b ≠ k := fun e => by
    subst e
    cases l with
    | nil => simp [adV] at hn
    | cons x l =>
      have := hk.cell (hc 2 _ rfl)
      rcases this with ⟨h1, _⟩ | ⟨_, _, _, _, h2⟩
      · omega
      · cases h2
  exact ⟨_, rfl, fun i v hv => by
    rw [World.cell?_setCell_other _ _ _ _ (by intro e; have := congrArg Addr.block e; simp [addr_add_block] at this; exact hb this.symm)]
    have := hc i v hv
    rw [show (⟨b, off, none⟩ : Addr).add i = ⟨b, off + i, none⟩ by unfold Addr.add; split <;> simp_all]
    exact this⟩
theorem rdP_far {w : World} {A : Option Addr} {l : List Pf} {k : Nat} (h : Rd w A (pfV l)) (hk : FlBox w k) (j : Nat) (u : Value) : Rd (w.setCell ⟨k, j, none⟩ u) A (pfV l) := by
  intro hn
  obtain ⟨b, off, rfl, hc⟩ := rd_at h hn
  have hb : b ≠ k := fun e => by
    subst e
    cases l with
    | nil => simp [pfV] at hn
    | cons x l =>
      have := hk.cell (hc 0 _ rfl)
      rcases this with ⟨_, z, h1⟩ | ⟨_, _, _, _, h2⟩
      · injection h1 with h1 _; cases h1
      · cases h2
  exact ⟨_, rfl, fun i v hv => by
    rw [World.cell?_setCell_other _ _ _ _ (by intro e; have := congrArg Addr.block e; simp [addr_add_block] at this; exact hb this.symm)]
    have := hc i v hv
    rw [show (⟨b, off, none⟩ : Addr).add i = ⟨b, off + i, none⟩ by unfold Addr.add; split <;> simp_all]
    exact this⟩
theorem LaAt.setF {w : World} {v : Value} {x : La} {k : Nat} (h : LaAt w v x) (hk : FlBox w k) (j : Nat) (u : Value) : LaAt (w.setCell ⟨k, j, none⟩ u) v x := by
  obtain ⟨A, c, B, d, e, h1, h2, h3⟩ := h
  exact ⟨A, c, B, d, e, rdA_far h1 hk j u, rdP_far h2 hk j u, h3⟩
theorem FlAt.setF {w : World} {g b : Nat} {iv : Int} {N : Fn} {f : Nat → Nat} {k : Nat} (h : FlAt w g b iv N f) (hk : FlBox w k) (hg : g ≠ k) (j : Nat) (u : Value) : FlAt (w.setCell ⟨k, j, none⟩ u) g b iv N f := by
  have hs := grownBy_set w k j u
  have hnm : ∀ {B m : Nat} {M : Int → Option Value}, MapIs B w m M → m ≠ k := fun hm e => by
    subst e
    obtain ⟨es, c, e⟩ := hm.isMap
    obtain ⟨a, b, A, n, c, B, m, d, T, fr, hb⟩ := hk
    rw [hb] at e; cases e
  refine ⟨?_, ?_, h.nb.kept hs (fun e => by injection e with e; exact hnm h.nb e.symm), fun i hi D hD => ?_, h.ne, h.inj⟩
  · rw [World.cell?_of_block (a := ⟨g, 0, none⟩) (hs.block g (World.block_lt_of_cell? _ _ h.c0) (fun e => by injection e with e; exact hg e))]; exact h.c0
  · rw [World.cell?_of_block (a := ⟨g, 1, none⟩) (hs.block g (World.block_lt_of_cell? _ _ h.c1) (fun e => by injection e with e; exact hg e))]; exact h.c1
  · obtain ⟨M, hm, he⟩ := h.el i hi D hD
    refine ⟨M, hm.kept hs (fun e => by injection e with e; exact hnm hm e.symm), fun o ho => ?_⟩
    have := he o ho
    match M (o : Int), D o, this with
    | none, none, _ => trivial
    | some v, some hd, ⟨A, c, B, d, e, hl⟩ => exact ⟨A, c, B, d, e, hl.setF hk j u⟩
theorem FlBox.set {w : World} {k : Nat} (h : FlBox w k) (j : Nat) (u : Value) (hu : (j < 2 ∧ ∃ z, u = .int .i64 z) ∨ (2 ≤ j ∧ ∃ A n c, u = .slice A n c)) : FlBox (w.setCell ⟨k, j, none⟩ u) k := by
  obtain ⟨a, b, A, n, c, B, m, d, T, fr, hb⟩ := h
  have hs := hsc (i := j) hb u
  match j, hu with
  | 0, .inl ⟨_, z, e⟩ => subst e; exact ⟨z, b, A, n, c, B, m, d, T, fr, by simpa using hs⟩
  | 1, .inl ⟨_, z, e⟩ => subst e; exact ⟨a, z, A, n, c, B, m, d, T, fr, by simpa using hs⟩
  | 2, .inr ⟨_, A', n', c', e⟩ => subst e; exact ⟨a, b, A', n', c', B, m, d, T, fr, by simpa using hs⟩
  | 3, .inr ⟨_, A', n', c', e⟩ => subst e; exact ⟨a, b, A, n, c, A', n', c', T, fr, by simpa using hs⟩
  | j + 4, .inr _ => exact ⟨a, b, A, n, c, B, m, d, T, fr, by simpa using hs⟩
  | 0, .inr ⟨h, _⟩ => omega
  | 1, .inr ⟨h, _⟩ => omega
  | j + 2, .inl ⟨h, _⟩ => omega

end Go.Proofs.Ytgbcnglagnlmhaa

namespace Go.Proofs.Ytgbcnglagnlmhaa
set_option linter.unusedVariables false
open Go.RowKit Go.Maps Go.Sort

def segN (N : Fn) (q : Int) : List (Int × La) := match N q.toNat with | some D => (pendL D).map fun x => (q, x) | none => []
/-- What is pending for the first k neighbours. -/
def offN (N : Fn) (k : Nat) : Nat := (((lks N).take k).flatMap (segN N)).length
theorem pendL_len (D : Db) : (pendL D).length = (orgs D).length := by simp [pendL]
theorem segN_of {N : Fn} {q : Int} {D : Db} (h : N q.toNat = some D) : segN N q = (pendL D).map fun x => (q, x) := by unfold segN; rw [h]
theorem flatP_seg (N : Fn) : flatP N = (lks N).flatMap (segN N) := rfl
theorem offN_zero (N : Fn) : offN N 0 = 0 := by simp [offN]
theorem offN_succ {N : Fn} {k : Nat} {D : Db} (hk : k < (lks N).length) (hD : N ((lks N)[k]).toNat = some D) : offN N (k + 1) = offN N k + (orgs D).length := by
  unfold offN
  rw [List.take_succ_eq_append_getElem hk, List.flatMap_append, List.length_append]
  simp [segN_of hD, pendL_len]
theorem offN_end (N : Fn) : offN N (lks N).length = (flatP N).length := by unfold offN; rw [List.take_of_length_le (Nat.le_refl _), flatP_seg]
theorem flatP_at {N : Fn} {k m : Nat} {D : Db} (hk : k < (lks N).length) (hD : N ((lks N)[k]).toNat = some D) (hm : m < (pendL D).length) :
    (flatP N)[offN N k + m]? = some ((lks N)[k], (pendL D)[m]) := by
  have e : lks N = (lks N).take k ++ (lks N)[k] :: (lks N).drop (k + 1) := by
    rw [← List.drop_eq_getElem_cons hk, List.take_append_drop]
  have e2 : flatP N = ((lks N).take k).flatMap (segN N) ++ ((pendL D).map (fun x => ((lks N)[k], x)) ++ ((lks N).drop (k + 1)).flatMap (segN N)) := by
    rw [flatP_seg]
    conv => lhs; rw [e]
    rw [List.flatMap_append, List.flatMap_cons, segN_of hD]
  rw [e2]
  unfold offN
  rw [List.getElem?_append_right (by omega), Nat.add_sub_cancel_left, List.getElem?_append_left (by simpa using hm), List.getElem?_map, List.getElem?_eq_getElem hm]
  rfl
theorem Rel.flen {N : Fn} {R : RF} (h : Rel N R) : offN N (lks N).length = R.its.length := by
  rw [offN_end, ← h.list, List.length_map]
theorem Rel.seg {N : Fn} {R : RF} (h : Rel N R) {k m : Nat} {D : Db} (hk : k < (lks N).length) (hD : N ((lks N)[k]).toNat = some D) (hm : m < (pendL D).length) :
    ∃ hi : offN N k + m < R.its.length, R.its[offN N k + m].q = (lks N)[k] ∧ R.its[offN N k + m].x.y = (pendL D)[m] := by
  have e := flatP_at hk hD hm
  rw [← h.list, List.getElem?_map, Option.map_eq_some_iff] at e
  obtain ⟨s, hs, he⟩ := e
  obtain ⟨hi, hs⟩ := List.getElem?_eq_some_iff.1 hs
  injection he with e1 e2
  exact ⟨hi, by rw [hs]; exact e1, by rw [hs]; exact e2⟩
theorem lks_at {N : Fn} {k : Nat} (hk : k < (lks N).length) : ∃ (q : Nat) (D : Db), (lks N)[k] = (q : Int) ∧ q < 256 ∧ N q = some D := by
  have hm := (lks_mem (lks N)[k]).1 (List.getElem_mem hk)
  obtain ⟨q, hq⟩ := Int.eq_ofNat_of_zero_le hm.1.1
  rw [hq] at hm
  rw [Int.toNat_natCast] at hm
  obtain ⟨D, hD⟩ := Option.isSome_iff_exists.1 hm.2
  exact ⟨q, D, hq, by omega, hD⟩

end Go.Proofs.Ytgbcnglagnlmhaa
