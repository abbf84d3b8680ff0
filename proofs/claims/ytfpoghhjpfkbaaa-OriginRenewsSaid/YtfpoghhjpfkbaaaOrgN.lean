/-
  The walks of the statements OriginNil, OriginWins.
-/
import Derived.Test.YtfpoghhjpfkbaaaOrgA
import Derived.Test.YtfpoghhjpfkbaaaOrgR
namespace Go.Proofs.Ytfpoghhjpfkbaaa
set_option linter.unusedVariables false
open Go.RowKit Go.Sort

set_option maxRecDepth 100000 in
set_option maxHeartbeats 1600000 in
theorem lawco_any (w : World) (o s a : Int) (ov : Bool) (A : Option Addr) (n c : Nat) (B : Option Addr) (m d : Nat) :
    Calls Try.prog 17 #[laV o s a ov A n c B m d] w fun e w' => e = .returned (coV ov A n c B m d) ∧ Below w.heap.size w w' := by
  have S := ((St.start w).new' #[.int .i64 o, .int .i64 s, .int .i64 a, .bool ov, .slice A n c, .slice B m d] 32 w.heap.size _ rfl rfl).new' #[.bool ov, .slice A n c, .slice B m d] 49 (w.heap.size + 1) _ (by simp) rfl
  have r0 := S.c 0 0 rfl rfl
  have r1 := S.c 0 1 rfl rfl
  have r2 := S.c 0 2 rfl rfl
  have hb := S.b
  go_enter Try.func17, Try.ntmps17
  go_wp2_with fail
  exact bodyPost_ret (v := coV ov A n c B m d) (by simp [results, Try.results17, go_sem, r0, r1, r2]) rfl ⟨rfl, hb⟩

set_option maxRecDepth 100000 in
set_option maxHeartbeats 3200000 in
theorem nil_law (w : World) (v : Value) (x : La) (hx : LaAt w v x) (n : Int) (hn : (Lit.int .i64 n).wf = true) :
    Calls Try.prog 7 #[v, .int .i64 n] w fun e w' => e = .returned (.bool true) ∧ Below w.heap.size w w' := by
  clear hn
  obtain ⟨A, c, B, d, rfl, h1⟩ := hx.opened
  clear hx
  have S := (St.start w).new' #[.int .i64 x.o, .int .i64 x.s, .int .i64 x.a, .bool x.ov, .slice A x.adj.length c, .slice B x.pre.length d] 32 w.heap.size _ rfl rfl
  have K1 := fun W (hb : Below w.heap.size w W) => oset_nil W _ x (h1.below hb).co
  have K2 := fun W (hb : Below w.heap.size w W) => ohear_nil W _ x (h1.below hb)
  replace K1 := Lib.hid K1
  replace K2 := Lib.hid K2
  clear h1
  have a0 := S.c 0 0 rfl rfl
  have a1 := S.c 0 1 rfl rfl
  have a2 := S.c 0 2 rfl rfl
  have a3 := S.c 0 3 rfl rfl
  have a4 := S.c 0 4 rfl rfl
  have a5 := S.c 0 5 rfl rfl
  go_enter Try.func7, Try.ntmps7
  go_wp2_with fail
  (with_reducible refine (lawco_any _ _ _ _ _ _ _ _ _ _ _).mono ?_)
  rintro e w1 ⟨rfl, hb⟩
  replace S := S.call hb
  clear hb
  go_wp2_with fail
  (with_reducible refine (K1.out _ S.b).mono ?_)
  rintro e w2 ⟨rfl, hb⟩
  replace S := S.call hb
  clear hb
  clear a0 a1 a2 a3 a4 a5
  have a0 := S.c 0 0 rfl rfl
  have a1 := S.c 0 1 rfl rfl
  have a2 := S.c 0 2 rfl rfl
  have a3 := S.c 0 3 rfl rfl
  have a4 := S.c 0 4 rfl rfl
  have a5 := S.c 0 5 rfl rfl
  go_wp2_with fail
  (with_reducible refine (K2.out _ S.b).mono ?_)
  rintro e w3 ⟨rfl, hb⟩
  replace S := S.call hb
  clear hb
  clear a0 a1 a2 a3 a4 a5
  go_wp2_with fail
  (with_reducible refine (current_nil _).mono ?_)
  rintro e w4 ⟨rfl, hb⟩
  replace S := S.call hb
  clear hb
  replace S := S.new' #[.int .i64 0, .int .i64 0, .int .i64 0, .bool false, .slice none 0 0, .slice none 0 0] 32 (w4.heap.size) _ (by first | rfl | simp) rfl
  go_wp2_with fail
  (with_reducible refine (awake_any _).mono ?_)
  rintro e w5 ⟨rfl, hb⟩
  replace S := S.call hb
  clear hb
  go_wp2_with fail
  (with_reducible refine (otick_nil _ _).mono ?_)
  rintro e w6 ⟨rfl, rfl⟩
  go_wp2_with fail
  (with_reducible refine (floor_nil _).mono ?_)
  rintro e w6 ⟨rfl, rfl⟩
  go_wp2_with fail
  go_ret
  exact ⟨rfl, S.b⟩

theorem St.via {W w w' : World} {bs : List (Nat × List Value)} {rs : List (Option Addr × List Value)} {g : Nat} (S : St W w bs rs) (hg : w.grownBy w' (some g)) (hB : W.heap.size ≤ g) (hd : ∀ x ∈ bs, x.1 ≠ g ∧ 0 < x.2.length) : St W w' bs rs :=
  ⟨below_via S.b hg hB S.b.size, fun i x hx => (S.bx i x hx).kept hg (fun e => by injection e with e; exact (hd x (List.mem_of_getElem? hx)).1 e) (hd x (List.mem_of_getElem? hx)).2, S.rd⟩
theorem num_valid {x : La} {o s : Int} (h : LaValid (num o s 0 x)) (s' : Int) (h1 : 1 ≤ s') (h2 : s' ≤ 1073741824) : LaValid (num o s' 0 x) := by
  obtain ⟨k1, k2, k3, k4, k5, k6, k7, k8⟩ := h
  exact ⟨k1, ⟨h1, h2⟩, k3, k4, k5, k6, k7, k8⟩

set_option maxRecDepth 100000 in
set_option maxHeartbeats 6400000 in
theorem wins_law (w : World) (v : Value) (x : La) (hx : LaAt w v x) (u : Value) (y : La) (hy : LaAt w u y) :
    Calls Try.prog 5 #[v, u] w fun e w' => e = .returned (.bool true) ∧ Below w.heap.size w w' := by
  obtain ⟨A, c, B, d, rfl, h1⟩ := hx.opened
  obtain ⟨A', c', B', d', rfl, h2⟩ := hy.opened
  clear hx hy
  have S := ((St.start w).new' #[.int .i64 x.o, .int .i64 x.s, .int .i64 x.a, .bool x.ov, .slice A x.adj.length c, .slice B x.pre.length d] 32 w.heap.size _ rfl rfl).new' #[.int .i64 y.o, .int .i64 y.s, .int .i64 y.a, .bool y.ov, .slice A' y.adj.length c', .slice B' y.pre.length d'] 32 (w.heap.size + 1) _ (by simp) rfl
  have F1 := fun W hb => few_any W _ x (h1.below hb)
  have F2 := fun W hb => few_any W _ y (h2.below hb)
  have V1 := fun W hb => rvalid_at W _ x (h1.below hb)
  have V2 := fun W hb => rvalid_at W _ (num x.o 1 0 y) ((h2.below hb).renum x.o 1 0 y.ov)
  have hfl : fewB y = true → y.adj.length ≤ 300 ∧ y.pre.length ≤ 100 := fun h => by simpa [fewB] using h
  obtain ⟨f1, hf1⟩ : ∃ f1, fewB x = f1 := ⟨_, rfl⟩
  obtain ⟨f2, hf2⟩ : ∃ f1, fewB y = f1 := ⟨_, rfl⟩
  obtain ⟨v1, hv1⟩ : ∃ f1, vB x = f1 := ⟨_, rfl⟩
  obtain ⟨v2, hv2⟩ : ∃ f1, vB (num x.o 1 0 y) = f1 := ⟨_, rfl⟩
  rw [hf1] at F1
  rw [hf2] at F2 hfl
  rw [hv1] at V1
  rw [hv2] at V2
  clear hf1 hf2
  replace F1 := Lib.hid F1
  replace F2 := Lib.hid F2
  replace V1 := Lib.hid V1
  replace V2 := Lib.hid V2
  replace hv1 := Lib.hid hv1
  replace hv2 := Lib.hid hv2
  replace hfl := Lib.hid hfl
  go_enter Try.func5, Try.ntmps5
  go_wp2_with fail
  (with_reducible refine (awake_any _).mono ?_)
  rintro e w1 ⟨rfl, hb⟩
  replace S := S.call hb
  clear hb
  have a0 := S.c 1 0 rfl rfl
  have a1 := S.c 1 1 rfl rfl
  have a2 := S.c 1 2 rfl rfl
  have a3 := S.c 1 3 rfl rfl
  have a4 := S.c 1 4 rfl rfl
  have a5 := S.c 1 5 rfl rfl
  go_wp2_with fail
  (with_reducible refine (F1.out _ S.b).mono ?_)
  rintro e w2 ⟨rfl, hb⟩
  replace S := S.call hb
  clear hb
  clear a0 a1 a2 a3 a4 a5
  cases f1 with
  | false =>
    go_wp2_with fail
    go_ret
    exact ⟨rfl, S.b⟩
  | true =>
  have b0 := S.c 0 0 rfl rfl
  have b1 := S.c 0 1 rfl rfl
  have b2 := S.c 0 2 rfl rfl
  have b3 := S.c 0 3 rfl rfl
  have b4 := S.c 0 4 rfl rfl
  have b5 := S.c 0 5 rfl rfl
  go_wp2_with fail
  (with_reducible refine (F2.out _ S.b).mono ?_)
  rintro e w3 ⟨rfl, hb⟩
  replace S := S.call hb
  clear hb
  clear b0 b1 b2 b3 b4 b5
  cases f2 with
  | false =>
    go_wp2_with fail
    go_ret
    exact ⟨rfl, S.b⟩
  | true =>
  have a0 := S.c 1 0 rfl rfl
  have a1 := S.c 1 1 rfl rfl
  have a2 := S.c 1 2 rfl rfl
  have a3 := S.c 1 3 rfl rfl
  have a4 := S.c 1 4 rfl rfl
  have a5 := S.c 1 5 rfl rfl
  go_wp2_with fail
  (with_reducible refine (V1.out _ S.b).mono ?_)
  rintro e w4 ⟨rfl, hb⟩
  replace S := S.call hb
  clear hb
  clear a0 a1 a2 a3 a4 a5
  cases v1 with
  | false =>
    go_wp2_with fail
    go_ret
    exact ⟨rfl, S.b⟩
  | true =>
  have a0 := S.c 1 0 rfl rfl
  have a1 := S.c 1 1 rfl rfl
  have a2 := S.c 1 2 rfl rfl
  have a3 := S.c 1 3 rfl rfl
  have a4 := S.c 1 4 rfl rfl
  have a5 := S.c 1 5 rfl rfl
  have b0 := S.c 0 0 rfl rfl
  have b1 := S.c 0 1 rfl rfl
  have b2 := S.c 0 2 rfl rfl
  have b3 := S.c 0 3 rfl rfl
  have b4 := S.c 0 4 rfl rfl
  have b5 := S.c 0 5 rfl rfl
  go_wp2_with fail
  (with_reducible refine (rwith_any _ _ _ _ _ _ _ _ _ _ _ _ _).mono ?_)
  rintro e w5 ⟨rfl, hb⟩
  replace S := S.call hb
  clear hb
  go_wp2_with fail
  (with_reducible refine (V2.out _ S.b).mono ?_)
  rintro e w6 ⟨rfl, hb⟩
  replace S := S.call hb
  clear hb
  clear a0 a1 a2 a3 a4 a5
  clear b0 b1 b2 b3 b4 b5
  cases v2 with
  | false =>
    go_wp2_with fail
    go_ret
    exact ⟨rfl, S.b⟩
  | true =>
  have hvx := vB_iff.1 hv1.out
  have hvn := vB_iff.1 hv2.out
  have hfl2 := hfl.out (by simp)
  have hox := hvx.1
  have hsx := hvx.2.1
  clear F1 F2 V1 V2 hv1 hv2 hfl
  replace hvx := Lib.hid hvx
  replace hvn := Lib.hid hvn
  have a0 := S.c 1 0 rfl rfl
  have a1 := S.c 1 1 rfl rfl
  have a2 := S.c 1 2 rfl rfl
  have a3 := S.c 1 3 rfl rfl
  have a4 := S.c 1 4 rfl rfl
  have a5 := S.c 1 5 rfl rfl
  have N := onew_ok w6 x.o hox.1 (by omega)
  unfold OrNew at N
  rw [show (⟨x.o, 0, 0, false, [], []⟩ : La) = bare x.o 0 0 false from rfl] at N
  replace N := Lib.hid N
  have hlt := S.lt 0 rfl (by simp)
  have hlt1 := S.lt 1 rfl (by simp)
  go_wp2_with fail
  (with_reducible refine (N.out).mono ?_)
  rintro e w7 ⟨rfl, oat, hb⟩
  clear N
  clear a0 a1 a2 a3 a4 a5
  have hgs := S.b.size
  replace S := S.call hb
  clear hb
  generalize hg6 : w6.heap.size = g at *
  have hd : Hid (∀ u1 u2 : List Value, 0 < u1.length → 0 < u2.length → ∀ x ∈ [(w.heap.size + 1, u1), (w.heap.size, u2)], x.1 ≠ g ∧ 0 < x.2.length) := fun u1 u2 h1 h2 x hx => by
    simp only [List.mem_cons, List.not_mem_nil, or_false] at hx
    rcases hx with rfl | rfl
    · exact ⟨by simp only; omega, h1⟩
    · exact ⟨by simp only; omega, h2⟩
  clear hg6
  have K := fun W (hb : Below w.heap.size w W) hO => oset_any W g _ (bare x.o 0 0 false) y false hO (h2.below hb).co (by omega) (by omega) (by simp [bare]) (by simp [bare])
  rw [show setP (bare x.o 0 0 false) false y = ⟨num x.o 1 0 y, true, true, 0⟩ by unfold setP; rw [show num (bare x.o 0 0 false).o 1 0 y = num x.o 1 0 y from rfl, vB_t hvn.out, if_pos rfl, if_neg (by simp), if_neg (by simp [bare])]; rfl] at K
  unfold OrPost at K
  replace K := Lib.hid K
  have b0 := S.c 0 0 rfl rfl
  have b1 := S.c 0 1 rfl rfl
  have b2 := S.c 0 2 rfl rfl
  have b3 := S.c 0 3 rfl rfl
  have b4 := S.c 0 4 rfl rfl
  have b5 := S.c 0 5 rfl rfl
  go_wp2_with fail
  (with_reducible refine (lawco_any _ _ _ _ _ _ _ _ _ _ _).mono ?_)
  rintro e w8 ⟨rfl, hb⟩
  replace S := S.call hb
  replace oat := oat.below hb
  clear hb
  clear b0 b1 b2 b3 b4 b5
  go_wp2_with fail
  (with_reducible refine (K.out _ S.b oat).mono ?_)
  rintro e w9 ⟨rfl, oat9, hg⟩
  clear K oat
  replace S := S.via hg hgs (hd.out _ _ (by simp) (by simp))
  clear hg
  have L := ohear_any w9 g _ (num x.o 1 0 y) x true oat9 (h1.below S.b) (by simp only [num]; omega) (by simp only [num]; omega) (by simp [num]) (by simp [num])
  have hnv : Hid (LaValid (num x.o 1 0 y)) := hvn.out
  obtain ⟨z, hz⟩ : ∃ z, hearP (num x.o 1 0 y) true x = z := ⟨_, rfl⟩
  have hres : Hid ((z = ⟨num x.o 1 0 y, true, false, 0⟩ ∧ newI x (num x.o 1 0 y) ≤ 0) ∨ (z = ⟨num x.o 1 0 y, true, false, 6⟩ ∧ x.s = 1073741824) ∨ (z = ⟨num x.o (x.s + 1) 0 y, true, true, 0⟩ ∧ newI x (num x.o (x.s + 1) 0 y) ≤ 0)) := by
    show _ ∨ _
    unfold hearP at hz
    rw [vB_t hvx.out, if_pos ⟨rfl, rfl⟩, if_pos rfl] at hz
    split at hz
    · next h => exact .inl ⟨hz.symm, h⟩
    · split at hz
      · exact .inr (.inl ⟨hz.symm, by omega⟩)
      · refine .inr (.inr ⟨hz.symm, ?_⟩)
        rw [newI_s hvx.out (num_valid hvn.out (x.s + 1) (by omega) (by omega)) (by simp only [num]; omega)]
        simp only [num, cmpI]
        omega
  rw [hz] at L
  unfold OrPost at L
  replace L := Lib.hid L
  clear hz oat9
  have a0 := S.c 1 0 rfl rfl
  have a1 := S.c 1 1 rfl rfl
  have a2 := S.c 1 2 rfl rfl
  have a3 := S.c 1 3 rfl rfl
  have a4 := S.c 1 4 rfl rfl
  have a5 := S.c 1 5 rfl rfl
  go_wp2_with fail
  (with_reducible refine (L.out).mono ?_)
  rintro e w10 ⟨rfl, oat, hg⟩
  clear L
  clear a0 a1 a2 a3 a4 a5
  replace S := S.via hg hgs (hd.out _ _ (by simp) (by simp))
  clear hg
  rcases hres.out with ⟨rfl, hle⟩ | ⟨rfl, hle⟩ | ⟨rfl, hle⟩
  · skip
    clear hres
    have C := current_any w10 g (num x.o 1 0 y) true oat (by simp only [num]; omega) (by simp only [num]; omega)
    rw [show CurPost w10 (num x.o 1 0 y) true = fun e w' => ∃ v, e = .returned (.tuple #[v, .bool true]) ∧ LaOwn w' w10.heap.size v (num x.o 1 0 y) ∧ Below w10.heap.size w10 w' from rfl] at C
    replace C := Lib.hid C
    clear oat
    go_wp2_with fail
    (with_reducible refine (C.out).mono ?_)
    rintro e w11 ⟨v11, rfl, hown, hb⟩
    replace S := S.call hb
    clear hb
    clear C
    obtain ⟨A7, c7, B7, d7, hv7, hL7⟩ := hown.open
    subst hv7
    clear hown
    have h7 := hL7.out _ (Below.refl _ _)
    clear hL7
    generalize hX : num x.o 1 0 y = X at *
    have hcb : conB X y = true := by rw [← hX]; simp [conB, num]
    have hXs : X.s = 1 := by rw [← hX]; rfl
    clear hX
    replace S := S.new' #[.int .i64 X.o, .int .i64 X.s, .int .i64 X.a, .bool X.ov, .slice A7 X.adj.length c7, .slice B7 X.pre.length d7] 32 (w11.heap.size) _ (by first | rfl | simp) rfl
    replace h7 := h7.below (below_new' _ (.cells #[.int .i64 X.o, .int .i64 X.s, .int .i64 X.a, .bool X.ov, .slice A7 X.adj.length c7, .slice B7 X.pre.length d7] 32))
    have q0 := S.c 0 0 rfl rfl
    have q1 := S.c 0 1 rfl rfl
    have q2 := S.c 0 2 rfl rfl
    have q3 := S.c 0 3 rfl rfl
    have q4 := S.c 0 4 rfl rfl
    have q5 := S.c 0 5 rfl rfl
    have b0 := S.c 1 0 rfl rfl
    have b1 := S.c 1 1 rfl rfl
    have b2 := S.c 1 2 rfl rfl
    have b3 := S.c 1 3 rfl rfl
    have b4 := S.c 1 4 rfl rfl
    have b5 := S.c 1 5 rfl rfl
    have CO := contents_any _ _ _ X y h7 (h2.below S.b)
    rw [hcb] at CO
    replace CO := Lib.hid CO
    replace hXs := Lib.hid hXs
    clear hcb
    go_wp2_with fail
    (with_reducible refine (CO.out).mono ?_)
    rintro e w12 ⟨rfl, hb⟩
    clear CO
    clear q0 q1 q2 q3 q4 q5
    clear b0 b1 b2 b3 b4 b5
    replace S := S.call hb
    replace h7 := h7.below hb
    clear hb
    have q0 := S.c 0 0 rfl rfl
    have q1 := S.c 0 1 rfl rfl
    have q2 := S.c 0 2 rfl rfl
    have q3 := S.c 0 3 rfl rfl
    have q4 := S.c 0 4 rfl rfl
    have q5 := S.c 0 5 rfl rfl
    have a0 := S.c 2 0 rfl rfl
    have a1 := S.c 2 1 rfl rfl
    have a2 := S.c 2 2 rfl rfl
    have a3 := S.c 2 3 rfl rfl
    have a4 := S.c 2 4 rfl rfl
    have a5 := S.c 2 5 rfl rfl
    have NE := lnewer_any _ _ _ x X (h1.below S.b) h7
    replace NE := Lib.hid NE
    clear h7
    generalize newI x X = nz at *
    go_wp2_with fail
    (with_reducible refine (NE.out).mono ?_)
    rintro e w13 ⟨rfl, hb⟩
    replace S := S.call hb
    go_wp2_with fail
    go_ret
    exact ⟨rfl, S.b⟩
  · skip
    clear hres
    have C := current_any w10 g (num x.o 1 0 y) true oat (by simp only [num]; omega) (by simp only [num]; omega)
    rw [show CurPost w10 (num x.o 1 0 y) true = fun e w' => ∃ v, e = .returned (.tuple #[v, .bool true]) ∧ LaOwn w' w10.heap.size v (num x.o 1 0 y) ∧ Below w10.heap.size w10 w' from rfl] at C
    replace C := Lib.hid C
    clear oat
    go_wp2_with fail
    (with_reducible refine (C.out).mono ?_)
    rintro e w11 ⟨v11, rfl, hown, hb⟩
    replace S := S.call hb
    clear hb
    clear C
    obtain ⟨A7, c7, B7, d7, hv7, hL7⟩ := hown.open
    subst hv7
    clear hown
    have h7 := hL7.out _ (Below.refl _ _)
    clear hL7
    generalize hX : num x.o 1 0 y = X at *
    have hcb : conB X y = true := by rw [← hX]; simp [conB, num]
    have hXs : X.s = 1 := by rw [← hX]; rfl
    clear hX
    replace S := S.new' #[.int .i64 X.o, .int .i64 X.s, .int .i64 X.a, .bool X.ov, .slice A7 X.adj.length c7, .slice B7 X.pre.length d7] 32 (w11.heap.size) _ (by first | rfl | simp) rfl
    replace h7 := h7.below (below_new' _ (.cells #[.int .i64 X.o, .int .i64 X.s, .int .i64 X.a, .bool X.ov, .slice A7 X.adj.length c7, .slice B7 X.pre.length d7] 32))
    have q0 := S.c 0 0 rfl rfl
    have q1 := S.c 0 1 rfl rfl
    have q2 := S.c 0 2 rfl rfl
    have q3 := S.c 0 3 rfl rfl
    have q4 := S.c 0 4 rfl rfl
    have q5 := S.c 0 5 rfl rfl
    have b0 := S.c 1 0 rfl rfl
    have b1 := S.c 1 1 rfl rfl
    have b2 := S.c 1 2 rfl rfl
    have b3 := S.c 1 3 rfl rfl
    have b4 := S.c 1 4 rfl rfl
    have b5 := S.c 1 5 rfl rfl
    have CO := contents_any _ _ _ X y h7 (h2.below S.b)
    rw [hcb] at CO
    replace CO := Lib.hid CO
    replace hXs := Lib.hid hXs
    clear hcb
    go_wp2_with fail
    (with_reducible refine (CO.out).mono ?_)
    rintro e w12 ⟨rfl, hb⟩
    clear CO
    clear q0 q1 q2 q3 q4 q5
    clear b0 b1 b2 b3 b4 b5
    replace S := S.call hb
    replace h7 := h7.below hb
    clear hb
    have q0 := S.c 0 0 rfl rfl
    have q1 := S.c 0 1 rfl rfl
    have q2 := S.c 0 2 rfl rfl
    have q3 := S.c 0 3 rfl rfl
    have q4 := S.c 0 4 rfl rfl
    have q5 := S.c 0 5 rfl rfl
    have a0 := S.c 2 0 rfl rfl
    have a1 := S.c 2 1 rfl rfl
    have a2 := S.c 2 2 rfl rfl
    have a3 := S.c 2 3 rfl rfl
    have a4 := S.c 2 4 rfl rfl
    have a5 := S.c 2 5 rfl rfl
    have e1 : (x.s == 1073741824) = true := by simpa using hle
    have e2 : (X.s == 1) = true := by rw [hXs.out]; rfl
    clear h7 hle
    go_wp2_with fail
    go_ret
    exact ⟨rfl, S.b⟩
  · skip
    clear hres
    have C := current_any w10 g (num x.o (x.s + 1) 0 y) true oat (by simp only [num]; omega) (by simp only [num]; omega)
    rw [show CurPost w10 (num x.o (x.s + 1) 0 y) true = fun e w' => ∃ v, e = .returned (.tuple #[v, .bool true]) ∧ LaOwn w' w10.heap.size v (num x.o (x.s + 1) 0 y) ∧ Below w10.heap.size w10 w' from rfl] at C
    replace C := Lib.hid C
    clear oat
    go_wp2_with fail
    (with_reducible refine (C.out).mono ?_)
    rintro e w11 ⟨v11, rfl, hown, hb⟩
    replace S := S.call hb
    clear hb
    clear C
    obtain ⟨A7, c7, B7, d7, hv7, hL7⟩ := hown.open
    subst hv7
    clear hown
    have h7 := hL7.out _ (Below.refl _ _)
    clear hL7
    generalize hX : num x.o (x.s + 1) 0 y = X at *
    have hcb : conB X y = true := by rw [← hX]; simp [conB, num]
    have hXs : X.s = x.s + 1 := by rw [← hX]; rfl
    clear hX
    replace S := S.new' #[.int .i64 X.o, .int .i64 X.s, .int .i64 X.a, .bool X.ov, .slice A7 X.adj.length c7, .slice B7 X.pre.length d7] 32 (w11.heap.size) _ (by first | rfl | simp) rfl
    replace h7 := h7.below (below_new' _ (.cells #[.int .i64 X.o, .int .i64 X.s, .int .i64 X.a, .bool X.ov, .slice A7 X.adj.length c7, .slice B7 X.pre.length d7] 32))
    have q0 := S.c 0 0 rfl rfl
    have q1 := S.c 0 1 rfl rfl
    have q2 := S.c 0 2 rfl rfl
    have q3 := S.c 0 3 rfl rfl
    have q4 := S.c 0 4 rfl rfl
    have q5 := S.c 0 5 rfl rfl
    have b0 := S.c 1 0 rfl rfl
    have b1 := S.c 1 1 rfl rfl
    have b2 := S.c 1 2 rfl rfl
    have b3 := S.c 1 3 rfl rfl
    have b4 := S.c 1 4 rfl rfl
    have b5 := S.c 1 5 rfl rfl
    have CO := contents_any _ _ _ X y h7 (h2.below S.b)
    rw [hcb] at CO
    replace CO := Lib.hid CO
    replace hXs := Lib.hid hXs
    clear hcb
    go_wp2_with fail
    (with_reducible refine (CO.out).mono ?_)
    rintro e w12 ⟨rfl, hb⟩
    clear CO
    clear q0 q1 q2 q3 q4 q5
    clear b0 b1 b2 b3 b4 b5
    replace S := S.call hb
    replace h7 := h7.below hb
    clear hb
    have q0 := S.c 0 0 rfl rfl
    have q1 := S.c 0 1 rfl rfl
    have q2 := S.c 0 2 rfl rfl
    have q3 := S.c 0 3 rfl rfl
    have q4 := S.c 0 4 rfl rfl
    have q5 := S.c 0 5 rfl rfl
    have a0 := S.c 2 0 rfl rfl
    have a1 := S.c 2 1 rfl rfl
    have a2 := S.c 2 2 rfl rfl
    have a3 := S.c 2 3 rfl rfl
    have a4 := S.c 2 4 rfl rfl
    have a5 := S.c 2 5 rfl rfl
    have NE := lnewer_any _ _ _ x X (h1.below S.b) h7
    replace NE := Lib.hid NE
    clear h7
    generalize newI x X = nz at *
    go_wp2_with fail
    (with_reducible refine (NE.out).mono ?_)
    rintro e w13 ⟨rfl, hb⟩
    replace S := S.call hb
    go_wp2_with fail
    go_ret
    exact ⟨rfl, S.b⟩

end Go.Proofs.Ytfpoghhjpfkbaaa
