/-
  The texts OrgAs, OrgSl, one after the other.
-/
import Derived.Test.YtfpoghhjpfkbaaaQ11
namespace Go.Proofs.Ytfpoghhjpfkbaaa
set_option linter.unusedVariables false
open Go.RowKit Go.Sort Go.ChangeShapes Go.WideShapes Go.ChangeAt

/-- A step's cells. -/
def IsStep (w : World) (x : Int × Int × La) (cs : List Value) : Prop := ∃ cs', cs = .int .i64 x.1 :: .int .i64 x.2.1 :: cs' ∧ IsLa w x.2.2 cs'
theorem opens_s3 {P : Program} {w : World} {t : TypeId} {γ : Type} {T : γ → List Value → Prop} {f g h : Field} (ht : P.underlying t = some (.struct #[f, g, h])) (hf : f.offset = 0) (hg : g.offset = 1) (hh : h.offset = 2)
    (cf : P.cellsOf f.type = 1) (cg : P.cellsOf g.type = 1) (ch : P.cellsOf h.type = 6) (hC : P.cellsOf t = 8) (hR : Opens P w f.type (IsInt .i64)) (hS : Opens P w g.type (IsInt .i64)) (hT : Opens P w h.type T) :
    Opens P w t (fun (x : Int × Int × γ) cs => ∃ cs', cs = .int .i64 x.1 :: .int .i64 x.2.1 :: cs' ∧ T x.2.2 cs') := by
  intro H enc base spare held fuel cs x hx
  obtain ⟨xs, n, _, _, hcl, hl, hi⟩ := DataW.trod_struct ht hx
  simp at hl
  have h0 := hi 0 f rfl
  have h1 := hi 1 g rfl
  have h2 := hi 2 h rfl
  rw [List.getElem?_eq_getElem (by omega)] at h0 h1 h2
  rw [hC] at hcl
  match cs, hcl with
  | [a, b, c0, c1, c2, c3, c4, c5], _ =>
    rw [hf, cf] at h0
    rw [hg, cg] at h1
    rw [hh, ch] at h2
    obtain ⟨p, ⟨rp, _⟩, _⟩ := hR h0
    obtain ⟨q, ⟨rq, _⟩, _⟩ := hS h1
    obtain ⟨r, rr, _⟩ := hT h2
    simp at rp rq
    subst rp rq
    exact ⟨(p, q, r), ⟨[c0, c1, c2, c3, c4, c5], rfl, rr⟩, by simp [hC]⟩
theorem rep_steps {w : World} {xs : List (Int × Int × La)} : ∀ {vs : List Value}, Rep (IsStep w) 8 xs vs → ∃ l : List Sx, vs = sxV l ∧ l.length = xs.length ∧ ∀ s ∈ l, SxOk w s := by
  induction xs with
  | nil => intro vs h; exact ⟨[], h, rfl, by simp⟩
  | cons b t ih =>
    rintro vs ⟨c, q, rfl, ⟨cs', rfl, hla, hl6⟩, _, hr⟩
    obtain ⟨l, rfl, hl, hok⟩ := ih hr
    obtain ⟨A, cc, B, d, hv, hat⟩ := hla.opened
    have hcs : cs' = [.int .i64 b.2.2.o, .int .i64 b.2.2.s, .int .i64 b.2.2.a, .bool b.2.2.ov, .slice A b.2.2.adj.length cc, .slice B b.2.2.pre.length d] := by
      simp only [laV, Value.agg.injEq] at hv
      have := congrArg Array.toList hv
      simpa using this
    subst hcs
    refine ⟨⟨b.1, b.2.1, b.2.2, A, cc, B, d⟩ :: l, rfl, by simp [hl], fun s hs => ?_⟩
    rcases List.mem_cons.1 hs with rfl | hs
    · exact hat
    · exact hok s hs

section
variable {H : Type} {enc : TypeId × Value → H} {w : World} {base : Nat} {spare : Nat → Bool} {held : Bool} {r : Reach} {b0 : Nat} {v : Value} {d : DataW H} {ps : List MemPlace}
set_option maxRecDepth 100000 in
theorem arg_steps (hv : Value.okWide Try.prog w r b0 22 v) (h : DataW.Trod enc Try.prog w base spare held 22 v d ps) :
    ∃ (A : Option Addr) (n c : Nat) (l : List Sx), v = .slice A n c ∧ Rd w A (sxV l) ∧ l.length = n ∧ n ≤ maxLen ∧ ∀ s ∈ l, SxOk w s := by
  have OS : Opens Try.prog w 38 (IsStep w) := opens_s3 Try.underlying38 rfl rfl rfl (by kernel_rfl) (by kernel_rfl) (by kernel_rfl) (by kernel_rfl) (opens_int Try.underlying3 (by kernel_rfl)) (opens_int Try.underlying3 (by kernel_rfl)) (opens_la w)
  obtain ⟨A, n, c, x, rfl, A', c', vs, h1, h2, h3, h4, h5⟩ := arg_slice Try.underlying22 (opens_slice Try.underlying22 (by kernel_rfl) OS) hv h
  simp only [List.cons.injEq, Value.slice.injEq, and_true] at h1
  obtain ⟨rfl, rfl, rfl⟩ := h1
  rw [show Try.prog.cellsOf 38 = 8 from by kernel_rfl] at h4
  obtain ⟨l, rfl, hl, hok⟩ := rep_steps h4
  exact ⟨A, _, c, l, rfl, h5, hl, Nat.le_trans h2 h3, hok⟩
end

end Go.Proofs.Ytfpoghhjpfkbaaa

namespace Go.Proofs.Ytfpoghhjpfkbaaa
set_option linter.unusedVariables false
open Go.RowKit Go.Sort

theorem step_all (W0 w : World) (hB0 : Below W0.heap.size W0 w) (g : Nat) (x : La) (mk : Bool) (v : Value) (r : RO) (s : Sx)
    (hg0 : W0.heap.size ≤ g) (ho : OrAt w g x mk) (hr : RoAt W0 v r) (hy : SxOk W0 s) (hrel : Rel x mk r) (hi : Inv x mk) (hlx : Lens x) (hly : Lens s.y) (hn : s.n ≤ 30000) :
    Calls Try.prog 11 #[.pointer (some ⟨g, 0, none⟩), v, .agg #[.int .i64 s.kd, .int .i64 s.n, .int .i64 s.y.o, .int .i64 s.y.s, .int .i64 s.y.a, .bool s.y.ov, .slice s.A s.y.adj.length s.c, .slice s.B s.y.pre.length s.d]] w (StepPost W0 w g) := by
  by_cases h0 : s.kd = 0
  · exact step_set W0 w hB0 g x mk v r s.kd s.n s.y s.A s.c s.B s.d hg0 ho hr hy hrel hi hlx hly hn h0
  · by_cases h1 : s.kd = 1
    · exact step_hear W0 w hB0 g x mk v r s.kd s.n s.y s.A s.c s.B s.d hg0 ho hr hy hrel hi hlx hly hn h1
    · exact step_tick W0 w hB0 g x mk v r s.kd s.n s.y s.A s.c s.B s.d hg0 ho hr hy hrel hi hlx hly hn h0 h1
/-- What holds before each round. -/
def Mid (W wr : World) (g g2 : Nat) (x : La) (mk : Bool) (r : RO) (A : Option Addr) (c : Nat) (B : Option Addr) (d : Nat) : Prop :=
  OrAt wr g x mk ∧ Avoid wr g g2 ∧ Rel x mk r ∧ Inv x mk ∧ Lens x ∧ RoAt W (roV r A c B d) r

theorem oa_set {w : World} {g : Nat} {x : La} {mk : Bool} {b : Nat} (h : OrAt w g x mk ∧ Avoid w g b) (hb : b ≠ g) (j : Nat) (u : Value) : OrAt (w.setCell ⟨b, j, none⟩ u) g x mk ∧ Avoid (w.setCell ⟨b, j, none⟩ u) g b :=
  ⟨h.1.far j u hb h.2, fun A n c hn hc => h.2 A n c hn (by rw [cell_far u (by intro e; injection e with e; exact hb e), cell_far u (by intro e; injection e with e; exact hb e)] at hc; exact hc)⟩
theorem cur_at {w : World} {r : RO} {A : Option Addr} {c : Nat} {B : Option Addr} {d : Nat} (h : LaAt w (laV r.now.o r.now.s r.now.a r.now.ov A r.now.adj.length c B r.now.pre.length d) r.now) :
    LaAt w (laV (curR r).o (curR r).s (curR r).a (curR r).ov A (curR r).adj.length c B (curR r).pre.length d) (curR r) := by
  unfold curR
  split
  · exact h.renum r.now.o r.now.s r.since r.now.ov
  · exact h

set_option maxRecDepth 100000 in
set_option maxHeartbeats 12800000 in
theorem script_law (w : World) (node : Int) (hnw : (Lit.int .i64 node).wf = true) (A : Option Addr) (n c : Nat) (l : List Sx) (hr : Rd w A (sxV l)) (hn : l.length = n) (hm : n ≤ maxLen) (hok : ∀ s ∈ l, SxOk w s) :
    Calls Try.prog 3 #[.int .i64 node, .slice A n c] w fun e w' => e = .returned (.bool true) ∧ Below w.heap.size w w' := by
  clear hnw
  have FW := fun W (hb : Below w.heap.size w W) => lfew_any W A n c l (hr.below hb) hn hm (fun s hs => (hok s hs).below hb)
  have S := (St.start w).read hr
  unfold maxLen at hm
  replace hn := Lib.hid hn
  replace hok := Lib.hid hok
  replace FW := Lib.hid FW
  clear hr
  go_enter Try.func3, Try.ntmps3
  go_wp2_with fail
  (with_reducible refine (awake_any _).mono ?_)
  rintro e w1 ⟨rfl, hb⟩
  replace S := S.call hb
  clear hb
  go_wp2_with fail
  (with_reducible refine (FW.out _ S.b).mono ?_)
  rintro e w2 ⟨b, rfl, hsm, hb⟩
  replace S := S.call hb
  clear hb FW
  cases b with
  | false =>
    go_wp2_with fail
    go_ret
    exact ⟨rfl, S.b⟩
  | true =>
  have hsm2 : Hid (Small l) := hsm rfl
  clear hsm
  by_cases hlo : node < 0
  · have N := onew_bad w2 node (.inl hlo)
    replace N := Lib.hid N
    go_wp2_with fail
    (with_reducible refine (N.out).mono ?_)
    rintro e w3 ⟨rfl, rfl⟩
    go_wp2_with fail
    go_ret
    exact ⟨rfl, S.b⟩
  by_cases hhi : 64 ≤ node
  · have N := onew_bad w2 node (.inr hhi)
    have hh : 63 < node := by omega
    replace N := Lib.hid N
    go_wp2_with fail
    (with_reducible refine (N.out).mono ?_)
    rintro e w3 ⟨rfl, rfl⟩
    go_wp2_with fail
    go_ret
    exact ⟨rfl, S.b⟩
  have hh : ¬ 63 < node := by omega
  have N := onew_ok w2 node (by omega) (by omega)
  unfold OrNew at N
  replace N := Lib.hid N
  have hgs := S.b.size
  go_wp2_with fail
  (with_reducible refine (N.out).mono ?_)
  rintro e w3 ⟨rfl, oat, hb⟩
  clear N
  replace S := S.call hb
  clear hb
  generalize w2.heap.size = g at *
  have hglt := oat.lt
  replace S := S.new' #[.int .i64 node, .int .i64 0, .bool false, .int .i64 0, .int .i64 0, .int .i64 0, .bool false, .slice none 0 0, .slice none 0 0, .int .i64 0] 34 w3.heap.size _ rfl rfl
  have hmid : Hid (Mid w (w3.alloc (.cells #[.int .i64 node, .int .i64 0, .bool false, .int .i64 0, .int .i64 0, .int .i64 0, .bool false, .slice none 0 0, .slice none 0 0, .int .i64 0] 34)) g w3.heap.size ⟨node, 0, 0, false, [], []⟩ false ⟨node, 0, false, laZero, 0⟩ none 0 none 0) :=
    ⟨oat.below (below_new' _ _), (Avoid.new oat (Nat.le_refl _)).below hglt (below_new' _ _), ⟨rfl, rfl, rfl, fun h => (by cases h), fun _ => ⟨rfl, rfl⟩⟩, ⟨by simp, by simp, by simp, by simp, .inl (by simp)⟩, ⟨by simp, by simp⟩, ⟨none, 0, none, 0, rfl, (laZero_own w w.heap.size).at⟩⟩
  clear oat
  have hgg : w.heap.size ≤ w3.heap.size := by omega
  have hgne : w3.heap.size ≠ g := by omega
  go_wp2_with fail
  generalize hw4 : w3.alloc _ = w4 at *
  generalize w3.heap.size = g2 at *
  clear hw4 hlo hhi hh
  go_loopw [8] (fun v8 wr => ∃ (k : Nat) (x : La) (mk : Bool) (r : RO) (A2 : Option Addr) (c2 : Nat) (B2 : Option Addr) (d2 : Nat), v8 = .int .i64 k ∧ k ≤ n ∧ St w wr [(g2, [.int .i64 r.node, .int .i64 r.floor, .bool r.is, .int .i64 r.now.o, .int .i64 r.now.s, .int .i64 r.now.a, .bool r.now.ov, .slice A2 r.now.adj.length c2, .slice B2 r.now.pre.length d2, .int .i64 r.since])] [(A, sxV l)] ∧ Hid (Mid w wr g g2 x mk r A2 c2 B2 d2)) (fun v8 _ => n - (intOf v8).toNat)
  case atStart => exact ⟨0, _, _, ⟨node, 0, false, laZero, 0⟩, none, 0, none, 0, rfl, by omega, S, hmid⟩
  case round =>
    clear S hmid
    obtain ⟨k, x, mk, r, A2, c2, B2, d2, rfl, hk, S, hmid⟩ := hrel
    by_cases hkn : k < n
    · have hkl : k < l.length := by rw [hn.out]; exact hkn
      obtain ⟨b, off, rfl, hc⟩ := rd_sx (S.r 0 rfl) (by omega)
      have x0 := hc k hkl 0 _ (by omega) rfl
      have x1 := hc k hkl 1 _ (by omega) rfl
      have x2 := hc k hkl 2 _ (by omega) rfl
      have x3 := hc k hkl 3 _ (by omega) rfl
      have x4 := hc k hkl 4 _ (by omega) rfl
      have x5 := hc k hkl 5 _ (by omega) rfl
      have x6 := hc k hkl 6 _ (by omega) rfl
      have x7 := hc k hkl 7 _ (by omega) rfl
      obtain ⟨m1, m2, m3, m4, m5, m6⟩ := hmid.out
      have hso := hok.out l[k] (List.getElem_mem hkl)
      have hsl := hsm2.out.2 l[k] (List.getElem_mem hkl)
      have ST := step_all w wr.drew S.b.drew g x mk _ r l[k] (by omega) m1 m6 hso m3 m4 m5 hsl.1 hsl.2
      generalize l[k] = s at *
      simp only [Nat.add_zero] at x0
      clear hc hso hsl hmid m3 m4 m5 m6
      replace ST := Lib.hid ST
      have m2h : Hid (Avoid wr.drew g g2) := m2
      clear m1 m2
      have g2lt := S.lt 0 rfl (by simp)
      have T := S.drew
      have p0 := S.c 0 0 rfl rfl
      have p1 := S.c 0 1 rfl rfl
      have p2 := S.c 0 2 rfl rfl
      have p3 := S.c 0 3 rfl rfl
      have p4 := S.c 0 4 rfl rfl
      have p5 := S.c 0 5 rfl rfl
      have p6 := S.c 0 6 rfl rfl
      have p7 := S.c 0 7 rfl rfl
      have p8 := S.c 0 8 rfl rfl
      have p9 := S.c 0 9 rfl rfl
      have f0 := S.f 0 0 rfl rfl
      have f1 := S.f 0 1 rfl rfl
      have f2 := S.f 0 2 rfl rfl
      have f3 := S.f 0 3 rfl rfl
      have f4 := S.f 0 4 rfl rfl
      have f5 := S.f 0 5 rfl rfl
      have f6 := S.f 0 6 rfl rfl
      have f7 := S.f 0 7 rfl rfl
      have f8 := S.f 0 8 rfl rfl
      have f9 := S.f 0 9 rfl rfl
      have hd : Hid (∀ q ∈ ([(g2, [.int .i64 r.node, .int .i64 r.floor, .bool r.is, .int .i64 r.now.o, .int .i64 r.now.s, .int .i64 r.now.a, .bool r.now.ov, .slice A2 r.now.adj.length c2, .slice B2 r.now.pre.length d2, .int .i64 r.since])] : List (Nat × List Value)), q.1 ≠ g ∧ 0 < q.2.length) := fun q hq => by
        simp only [List.mem_cons, List.not_mem_nil, or_false] at hq
        subst hq
        exact ⟨hgne, by simp⟩
      go_wp2_with fail
      go_region_with (go_at_call 11; (with_reducible refine ST.out.mono ?_); rintro e w5 ⟨v5, x', mk', r', rfl, hR, ho', hrel', hi', hl', hg', hk'⟩; obtain ⟨A3, c3, B3, d3, rfl, hla3⟩ := hR; have T1 := T.via hg' (by omega) hd.out; have p0 := T1.c 0 0 rfl rfl; have p1 := T1.c 0 1 rfl rfl; have p2 := T1.c 0 2 rfl rfl; have p3 := T1.c 0 3 rfl rfl; have p4 := T1.c 0 4 rfl rfl; have p5 := T1.c 0 5 rfl rfl; have p6 := T1.c 0 6 rfl rfl; have p7 := T1.c 0 7 rfl rfl; have p8 := T1.c 0 8 rfl rfl; have p9 := T1.c 0 9 rfl rfl; have f0 := T1.f 0 0 rfl rfl; have f1 := T1.f 0 1 rfl rfl; have f2 := T1.f 0 2 rfl rfl; have f3 := T1.f 0 3 rfl rfl; have f4 := T1.f 0 4 rfl rfl; have f5 := T1.f 0 5 rfl rfl; have f6 := T1.f 0 6 rfl rfl; have f7 := T1.f 0 7 rfl rfl; have f8 := T1.f 0 8 rfl rfl; have f9 := T1.f 0 9 rfl rfl)
      all_goals
        have oa := (oa_set (oa_set (oa_set (oa_set (oa_set (oa_set (oa_set (oa_set (oa_set (oa_set (⟨ho', hk' g2 g2lt m2h.out⟩ : OrAt w5 g x' mk' ∧ Avoid w5 g g2) hgne 0 (.int .i64 r'.node)) hgne 1 (.int .i64 r'.floor)) hgne 2 (.bool r'.is)) hgne 3 (.int .i64 r'.now.o)) hgne 4 (.int .i64 r'.now.s)) hgne 5 (.int .i64 r'.now.a)) hgne 6 (.bool r'.now.ov)) hgne 7 (.slice A3 r'.now.adj.length c3)) hgne 8 (.slice B3 r'.now.pre.length d3)) hgne 9 (.int .i64 r'.since))
        have T2 := T1.set10 (.int .i64 r'.node) (.int .i64 r'.floor) (.bool r'.is) (.int .i64 r'.now.o) (.int .i64 r'.now.s) (.int .i64 r'.now.a) (.bool r'.now.ov) (.slice A3 r'.now.adj.length c3) (.slice B3 r'.now.pre.length d3) (.int .i64 r'.since) (by omega) (by simp)
        clear p0 p1 p2 p3 p4 p5 p6 p7 p8 p9
        clear f0 f1 f2 f3 f4 f5 f6 f7 f8 f9
        clear T1 x0 x1 x2 x3 x4 x5 x6 x7
        clear S T ho' hg' hk' ST m2h
        obtain ⟨e1, e2, e3, e4⟩ := id hrel'
        subst e3
        replace e2 := Lib.hid e2
        clear e1 e4
        go_upto_region 18 with fail
        generalize World.setCell _ _ _ = w6 at *
        obtain ⟨oa1, oa2⟩ := oa
        have C := current_any w6 g x' r'.is oa1 (by have := hl'.1; omega) (by have := hl'.2; omega)
        rw [show CurPost w6 x' r'.is = fun e w' => ∃ v, e = .returned (.tuple #[v, .bool r'.is]) ∧ LaOwn w' w6.heap.size v (curX x' r'.is) ∧ Below w6.heap.size w6 w' from rfl, cur_agree hrel'] at C
        have hkeep := And.intro hrel' (And.intro hi' hl')
        replace hkeep := Lib.hid hkeep
        clear hrel' hi' hl'
        replace C := Lib.hid C
        go_wp2_with fail
        (with_reducible refine (C.out).mono ?_)
        rintro e w7 ⟨v7, rfl, hown, hb⟩
        clear C
        have hcx := cur_at hla3
        have CU0 : Hid (∀ W, Calls Try.prog 14 #[roV r' A3 c3 B3 d3] W fun e w' => e = .returned (laV (curR r').o (curR r').s (curR r').a (curR r').ov A3 (curR r').adj.length c3 B3 (curR r').pre.length d3) ∧ Below W.heap.size W w') := fun W => rcurrent_ex W r' A3 c3 B3 d3
        generalize curR r' = X at *
        obtain ⟨A7, c7, B7, d7, rfl, hL7⟩ := hown.open
        have h7 := hL7.out _ (below_new' _ (.cells #[.int .i64 X.o, .int .i64 X.s, .int .i64 X.a, .bool X.ov, .slice A7 X.adj.length c7, .slice B7 X.pre.length d7] 32))
        have T3 := (T2.call hb).new' #[.int .i64 X.o, .int .i64 X.s, .int .i64 X.a, .bool X.ov, .slice A7 X.adj.length c7, .slice B7 X.pre.length d7] 32 w7.heap.size _ rfl rfl
        have hbw : Below w6.heap.size w6 (w7.alloc (.cells #[.int .i64 X.o, .int .i64 X.s, .int .i64 X.a, .bool X.ov, .slice A7 X.adj.length c7, .slice B7 X.pre.length d7] 32)) := hb.trans ((below_new' _ _).mono hb.size)
        have oa3 := oa1.below hbw
        have oa4 := oa2.below oa1.lt hbw
        clear hL7 hown hb hbw oa1 oa2 T2
        go_upto_region 19 with fail
        generalize w7.alloc _ = w8 at *
        have EQ := fun W (hb : Below w8.heap.size w8 W) => equal_any W _ _ X X (h7.below hb) (hcx.below (T3.b.trans (hb.mono T3.b.size)))
        rw [equB_refl'] at EQ
        have FL : Hid (∀ W, Below w8.heap.size w8 W → Calls Try.prog 15 #[.pointer (some ⟨g, 0, none⟩)] W fun e w' => e = .returned (.int .i64 r'.floor) ∧ Below W.heap.size W w') := fun W hb => (floor_any W g x' r'.is (oa3.below hb)).mono fun e w' ⟨he, hw⟩ => ⟨by rw [he, e2.out], by subst hw; exact Below.refl _ _⟩
        have CU : Hid (∀ W, Calls Try.prog 14 #[roV r' A3 c3 B3 d3] W fun e w' => e = .returned (laV X.o X.s X.a X.ov A3 X.adj.length c3 B3 X.pre.length d3) ∧ Below W.heap.size W w') := CU0
        replace EQ := Lib.hid EQ
        have hmid : Hid (∀ W, Below w8.heap.size w8 W → Mid w W g g2 x' r'.is r' A3 c3 B3 d3) := fun W hb => ⟨oa3.below hb, oa4.below oa3.lt hb, hkeep.out.1, hkeep.out.2.1, hkeep.out.2.2, ⟨A3, c3, B3, d3, rfl, hla3⟩⟩
        have hsz8 := T3.b.size
        have B8 := Below.refl w8.heap.size w8
        clear h7 oa3 oa4 hkeep e2
        have n1 : (r'.is != r'.is) = false := by simp
        have n2 : (r'.floor != r'.floor) = false := by simp
        have p0 := cell_regrown (T3.c 1 0 rfl rfl)
        have p1 := cell_regrown (T3.c 1 1 rfl rfl)
        have p2 := cell_regrown (T3.c 1 2 rfl rfl)
        have p3 := cell_regrown (T3.c 1 3 rfl rfl)
        have p4 := cell_regrown (T3.c 1 4 rfl rfl)
        have p5 := cell_regrown (T3.c 1 5 rfl rfl)
        have p6 := cell_regrown (T3.c 1 6 rfl rfl)
        have p7 := cell_regrown (T3.c 1 7 rfl rfl)
        have p8 := cell_regrown (T3.c 1 8 rfl rfl)
        have p9 := cell_regrown (T3.c 1 9 rfl rfl)
        have q0 := cell_regrown (T3.c 0 0 rfl rfl)
        have q1 := cell_regrown (T3.c 0 1 rfl rfl)
        have q2 := cell_regrown (T3.c 0 2 rfl rfl)
        have q3 := cell_regrown (T3.c 0 3 rfl rfl)
        have q4 := cell_regrown (T3.c 0 4 rfl rfl)
        have q5 := cell_regrown (T3.c 0 5 rfl rfl)
        refine wp_region_quiet_below (by kernel_rfl) (by kernel_rfl) ?_
        repeat (go_big_quiet_step (first | (go_at_call 14; with_reducible exact Calls.regrown_of (CU.out _)) | (go_at_call 13; with_reducible exact Calls.regrown_of (EQ.out _ (below_regrown _ _ _))) | (go_at_call 15; with_reducible exact Calls.regrown_of (FL.out _ (below_regrown _ _ _)))))
        refine wpQuiet_nil ?_
        intro _ hw'
        obtain ⟨⟨dq, osq⟩, hw''⟩ := hw'
        subst hw''
        replace T3 := T3.call (below_regrown _ dq osq)
        have hm9 := Lib.hid (hmid.out _ (below_regrown _ dq osq))
        clear hmid
        go_wp2_with fail
        go_round
        case rel => exact ⟨k + 1, x', r'.is, r', A3, c3, B3, d3, by go_num, by omega, T3.tail, hm9⟩
        case measure => simp [intOf]; omega
    · obtain rfl : k = n := by omega
      go_wp2_with fail
      go_ret
      exact ⟨rfl, S.b⟩

end Go.Proofs.Ytfpoghhjpfkbaaa
