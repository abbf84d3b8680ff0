/-
  The statement FloodScript: for every input that can be read, the law returns true and leaves its arguments as they were. No condition.
-/
import Derived.Test.YtgbcnglagnlmhaaQPScript2
import Derived.Test.YtgbcnglagnlmhaaQPScript0
import Derived.Test.YtgbcnglagnlmhaaSameR
import Derived.Lib.QuietBelow
import Derived.BigQuiet
import Derived.Deep.QuietTactic
import Derived.Deep.RegionLaw
import Derived.Test.YtgbcnglagnlmhaaLaArg
namespace Go.Proofs.Ytgbcnglagnlmhaa
set_option linter.unusedVariables false
open Go.RowKit Go.Maps Go.Sort

theorem flat4 {w : World} {g b : Nat} {iv : Int} {N : Fn} {f : Nat → Nat} {k : Nat} (h : FlAt w g b iv N f) (hk : FlBox w k) (hg : g ≠ k) (x y : Int) (A : Option Addr) (n c : Nat) (B : Option Addr) (m d : Nat) :
    FlAt ((((w.setCell ⟨k, 0, none⟩ (.int .i64 x)).setCell ⟨k, 1, none⟩ (.int .i64 y)).setCell ⟨k, 2, none⟩ (.slice A n c)).setCell ⟨k, 3, none⟩ (.slice B m d)) g b iv N f := by
  have k1 := hk.set 0 (.int .i64 x) (.inl ⟨by omega, _, rfl⟩)
  have k2 := k1.set 1 (.int .i64 y) (.inl ⟨by omega, _, rfl⟩)
  have k3 := k2.set 2 (.slice A n c) (.inr ⟨by omega, _, _, _, rfl⟩)
  exact (((h.setF hk hg 0 _).setF k1 hg 1 _).setF k2 hg 2 _).setF k3 hg 3 _
theorem its4 {w : World} {k : Nat} {l : List It} (h : ItsOk w l) (hk : FlBox w k) (x y : Int) (A : Option Addr) (n c : Nat) (B : Option Addr) (m d : Nat) :
    ItsOk ((((w.setCell ⟨k, 0, none⟩ (.int .i64 x)).setCell ⟨k, 1, none⟩ (.int .i64 y)).setCell ⟨k, 2, none⟩ (.slice A n c)).setCell ⟨k, 3, none⟩ (.slice B m d)) l := fun s hs => by
  have k1 := hk.set 0 (.int .i64 x) (.inl ⟨by omega, _, rfl⟩)
  have k2 := k1.set 1 (.int .i64 y) (.inl ⟨by omega, _, rfl⟩)
  have k3 := k2.set 2 (.slice A n c) (.inr ⟨by omega, _, _, _, rfl⟩)
  have h0 : LaAt w (lxA s.x) s.x.y := h s hs
  exact (((h0.setF hk 0 _).setF k1 1 _).setF k2 2 _).setF k3 3 _

set_option maxRecDepth 100000 in
set_option maxHeartbeats 12800000 in
theorem step_down (w : World) (g b : Nat) (iv : Int) (N : Fn) (f : Nat → Nat) (hF : FlAt w g b iv N f) (hok : FnOk N) (A : Option Addr) (c : Nat) (B : Option Addr) (d : Nat) (R : RF) (hA : Rd w A (R.ls.map encZ)) (hB : Rd w B (itV R.its)) (hx : ItsOk w R.its) (hR : Rel N R)
    (h0 : 0 ≤ R.now) (h1 : R.now ≤ 1000000000) (h2 : 1 ≤ R.iv) (h3 : R.iv ≤ 65536) (hiv : R.iv = iv) (B0 : Nat) (hB1 : B0 ≤ b) (hB2 : FB B0 N f) (hB3 : B0 ≤ w.heap.size) (q n : Int) (As : Option Addr) (cs : Nat) (l : List Lx) (hs : SqOk w ⟨1, q, n, As, cs, l⟩) (hfw : FewS ⟨1, q, n, As, cs, l⟩) :
    Calls Try.prog 13 #[.pointer (some ⟨g, 0, none⟩), rfV R A R.ls.length c B R.its.length d, .agg #[.int .i64 1, .int .i64 q, .int .i64 n, .slice As l.length cs]] w (StPost B0 w g b iv A c B d R) := by
  have S0 := ((((St.start w).new' #[.int .i64 R.iv, .int .i64 R.now, .slice A R.ls.length c, .slice B R.its.length d] 44 w.heap.size _ rfl rfl).new' #[.int .i64 1, .int .i64 q, .int .i64 n, .slice As l.length cs] 48 (w.heap.size + 1) _ (by simp) rfl).new' #[.int .i64 0, .int .i64 0, .slice none 0 0, .slice none 0 0] 44 (w.heap.size + 2) _ (by simp) rfl)
  have Z0 := FlBox.alloc ((w.alloc (.cells #[.int .i64 R.iv, .int .i64 R.now, .slice A R.ls.length c, .slice B R.its.length d] 44)).alloc (.cells #[.int .i64 1, .int .i64 q, .int .i64 n, .slice As l.length cs] 48)) 0 0 none 0 0 none 0 0 44
  rw [show ((w.alloc (.cells #[.int .i64 R.iv, .int .i64 R.now, .slice A R.ls.length c, .slice B R.its.length d] 44)).alloc (.cells #[.int .i64 1, .int .i64 q, .int .i64 n, .slice As l.length cs] 48)).heap.size = w.heap.size + 2 by simp] at Z0
  have hgl := hF.lt.1
  have F1 := fun W (hb : Below w.heap.size w W) => first_any W As l.length cs l (hs.rd.below hb) rfl
  have hfo := fsL_ok hs.ok
  have hlen := hR.len
  have hlsl := hR.lsl
  have hl8 := hfw.1
  have hn20 := hfw.2.1
  have hnb := bounds_i64 hs.wn
  simp only at hl8 hn20 hnb
  have hsame : Hid (∀ w', Kq w w' → Below B0 w w' → FlAt w' g b iv N f → StPost B0 w g b iv A c B d R (.returned (.tuple #[rfV R A R.ls.length c B R.its.length d, .bool true])) w') := fun w' hk hbl hf => ⟨N, f, A, c, B, d, R, rfl, hf, hok, hR, .inl ⟨rfl, rfl, rfl⟩, .inl ⟨rfl, rfl, rfl⟩, fun s hs => hk.la (hx s hs), rfl, by omega, by omega, hk, hbl, hB2⟩
  replace F1 := Lib.hid F1
  replace hfo := Lib.hid hfo
  replace hF := Lib.hid hF
  replace hok := Lib.hid hok
  replace hR := Lib.hid hR
  replace hs := Lib.hid hs
  replace hx := Lib.hid hx
  replace hiv := Lib.hid hiv
  replace hB2 := Lib.hid hB2
  obtain ⟨Q, hQ⟩ : ∃ Q, StPost B0 w g b iv A c B d R = Q := ⟨_, rfl⟩
  rw [hQ] at hsame ⊢
  replace hQ := Lib.hid hQ
  have x0 := S0.c 1 0 rfl rfl
  have x1 := S0.c 1 1 rfl rfl
  have x2 := S0.c 1 2 rfl rfl
  have x3 := S0.c 1 3 rfl rfl
  go_enter Try.func13, Try.ntmps13
  go_wp2_with fail
  (with_reducible refine (F1.out _ S0.b).mono ?_)
  rintro e w1 ⟨rfl, hb⟩
  clear x0 x1 x2 x3
  clear F1
  replace S0 := S0.call hb
  have hgaz : w.heap.size + 2 < w1.heap.size := (S0.box 0 rfl).lt (by simp)
  replace Z0 := Z0.kq (Kq.of_below hb)
  clear hb
  obtain ⟨a, ha⟩ : ∃ a, fsL l = a := ⟨_, rfl⟩
  rw [ha] at hfo ⊢
  replace ha := Lib.hid ha
  have hb := below_new' w1 (.cells #[.int .i64 a.y.o, .int .i64 a.y.s, .int .i64 a.y.a, .bool a.y.ov, .slice a.A a.y.adj.length a.c, .slice a.B a.y.pre.length a.d] 32)
  replace S0 := S0.new' #[.int .i64 a.y.o, .int .i64 a.y.s, .int .i64 a.y.a, .bool a.y.ov, .slice a.A a.y.adj.length a.c, .slice a.B a.y.pre.length a.d] 32 w1.heap.size _ rfl rfl
  replace Z0 := Z0.kq (Kq.of_below hb)
  clear hb
  go_upto_region 2 with fail
  generalize World.alloc w1 _ = w2 at *
  generalize hga : w1.heap.size = ga at *
  replace hga := Lib.hid hga
  have x0 := S0.c 2 0 rfl rfl
  have x1 := S0.c 2 1 rfl rfl
  have x2 := S0.c 2 2 rfl rfl
  have x3 := S0.c 2 3 rfl rfl
  have y0 := S0.c 0 0 rfl rfl
  have y1 := S0.c 0 1 rfl rfl
  have y2 := S0.c 0 2 rfl rfl
  have y3 := S0.c 0 3 rfl rfl
  have y4 := S0.c 0 4 rfl rfl
  have y5 := S0.c 0 5 rfl rfl
  have S : Sk B0 w _ [(w.heap.size + 2, [.int .i64 0, .int .i64 0, .slice none 0 0, .slice none 0 0]), (w.heap.size + 1, [.int .i64 1, .int .i64 q, .int .i64 n, .slice As l.length cs]), (w.heap.size, [.int .i64 R.iv, .int .i64 R.now, .slice A R.ls.length c, .slice B R.its.length d]), (ga, [.int .i64 a.y.o, .int .i64 a.y.s, .int .i64 a.y.a, .bool a.y.ov, .slice a.A a.y.adj.length a.c, .slice a.B a.y.pre.length a.d])] := (Sk.of S0 hB3).keep _ (by simp)
  have hF2 := hF.out.below S0.b
  rcases hlk : lkO N q with _ | D
  · have DN := Lib.hid (fdown_no w2 g b iv N f hF2 q hs.out.wq hlk)
    have his : isR R q = false := by rw [hR.out.is, hlk]; rfl
    have IS := Lib.hid (ris_any w2 _ R (RfAt.below ⟨A, c, B, d, rfl, hA, hB, hx.out⟩ S0.b) (by omega) q)
    rw [his] at IS
    clear hlk his
    go_wp2_with fail
    (with_reducible refine (DN.out).mono ?_)
    rintro e w3 ⟨rfl, rfl⟩
    clear DN
    clear x0 x1 x2 x3
    clear y0 y1 y2 y3 y4 y5
    have x0 := S.c 1 0 rfl rfl
    have x1 := S.c 1 1 rfl rfl
    have x2 := S.c 1 2 rfl rfl
    have x3 := S.c 1 3 rfl rfl
    have z0 := S.c 2 0 rfl rfl
    have z1 := S.c 2 1 rfl rfl
    have z2 := S.c 2 2 rfl rfl
    have z3 := S.c 2 3 rfl rfl
    go_wp2_with fail
    (with_reducible refine (IS.out).mono ?_)
    rintro e w3 ⟨rfl, hb⟩
    clear IS
    clear x0 x1 x2 x3
    clear z0 z1 z2 z3
    replace S := S.call hb
    have hFW := hF2.below hb
    have Z := Z0.kq (Kq.of_below hb)
    clear hb S0 Z0
    have T9 := (S.keep [(w.heap.size + 2, [.int .i64 0, .int .i64 0, .slice none 0 0, .slice none 0 0])] (by simp)).set4 (.int .i64 R.iv) (.int .i64 R.now) (.slice A R.ls.length c) (.slice B R.its.length d) (by omega) (by simp)
    have F9 := flat4 hFW Z (by omega) R.iv R.now A R.ls.length c B R.its.length d
    have hf9 := Lib.hid (hsame.out _ T9.k T9.bel F9)
    have m0 := S.c 2 0 rfl rfl
    have m1 := S.c 2 1 rfl rfl
    have m2 := S.c 2 2 rfl rfl
    have m3 := S.c 2 3 rfl rfl
    have r0 := S.c 0 0 rfl rfl
    have r1 := S.c 0 1 rfl rfl
    have r2 := S.c 0 2 rfl rfl
    have r3 := S.c 0 3 rfl rfl
    have u0 := S.f 0 0 rfl rfl
    have u1 := S.f 0 1 rfl rfl
    have u2 := S.f 0 2 rfl rfl
    have u3 := S.f 0 3 rfl rfl
    have k0 := T9.c 0 0 rfl rfl
    have k1 := T9.c 0 1 rfl rfl
    have k2 := T9.c 0 2 rfl rfl
    have k3 := T9.c 0 3 rfl rfl
    clear hsame F9 hFW
    go_wp2_with fail
    exact bodyPost_ret (v := .tuple #[rfV R A R.ls.length c B R.its.length d, .bool true]) (by simp [results, Try.results13, go_sem, k0, k1, k2, k3]) rfl hf9.out
  · obtain ⟨i, rfl, hi, hD⟩ := lkO_form hlk
    have his : isR R (i : Int) = true := by rw [hR.out.is, hlk]; rfl
    have DN := Lib.hid (fdown_yes w2 g b iv N f hF2 i hi D hD)
    clear hlk
    go_wp2_with fail
    (with_reducible refine (DN.out).mono ?_)
    rintro e w3 ⟨rfl, hF3, hg⟩
    clear DN
    clear x0 x1 x2 x3
    clear y0 y1 y2 y3 y4 y5
    replace S := S.turn (Kq.of_map hF2.nb hg) (gr_below hg hB1 (Nat.le_trans hB3 S.k.size))
    have Z := Z0.kq (Kq.of_map hF2.nb hg)
    clear hF2 hg S0 Z0
    have IS := Lib.hid (ris_any w3 _ R ⟨A, c, B, d, rfl, S.k.rd hA, S.k.rd hB, fun s hs => S.k.la (hx.out s hs)⟩ (by omega) (i : Int))
    rw [his] at IS
    clear his
    have x0 := S.c 1 0 rfl rfl
    have x1 := S.c 1 1 rfl rfl
    have x2 := S.c 1 2 rfl rfl
    have x3 := S.c 1 3 rfl rfl
    have z0 := S.c 2 0 rfl rfl
    have z1 := S.c 2 1 rfl rfl
    have z2 := S.c 2 2 rfl rfl
    have z3 := S.c 2 3 rfl rfl
    go_wp2_with fail
    (with_reducible refine (IS.out).mono ?_)
    rintro e w4 ⟨rfl, hb⟩
    clear IS
    clear x0 x1 x2 x3
    clear z0 z1 z2 z3
    replace S := S.call hb
    replace Z := Z.kq (Kq.of_below hb)
    replace hF3 := hF3.below hb
    clear hb
    have RD := Lib.hid (rdown_any w4 A c B d R (S.k.rd hA) (S.k.rd hB) (by omega) (by omega) (i : Int))
    have hgz : w.heap.size + 2 < w4.heap.size := (S.box 0 rfl).lt (by simp)
    have hwz : w.heap.size ≤ w4.heap.size := by omega
    have x0 := S.c 1 0 rfl rfl
    have x1 := S.c 1 1 rfl rfl
    have x2 := S.c 1 2 rfl rfl
    have x3 := S.c 1 3 rfl rfl
    have z0 := S.c 2 0 rfl rfl
    have z1 := S.c 2 1 rfl rfl
    have z2 := S.c 2 2 rfl rfl
    have z3 := S.c 2 3 rfl rfl
    go_wp2_with fail
    (with_reducible refine (RD.out).mono ?_)
    rintro e w5 ⟨A2, c2, B2, d2, rfl, t1, t2, hb⟩
    clear RD
    clear x0 x1 x2 x3
    clear z0 z1 z2 z3
    replace S := S.call hb
    replace Z := Z.kq (Kq.of_below hb)
    have hFW := hF3.below hb
    have hits : ItsOk w5 (dnF R i).its := fun s hs => S.k.la (hx.out s (List.mem_filter.1 hs).1)
    clear hb hF3
    have T9 := (S.keep [(w.heap.size + 2, [.int .i64 0, .int .i64 0, .slice none 0 0, .slice none 0 0])] (by simp)).set4 (.int .i64 (dnF R i).iv) (.int .i64 (dnF R i).now) (.slice A2 (dnF R i).ls.length c2) (.slice B2 (dnF R i).its.length d2) (by omega) (by simp)
    have F9 := flat4 hFW Z (by omega) (dnF R i).iv (dnF R i).now A2 (dnF R i).ls.length c2 B2 (dnF R i).its.length d2
    have I9 := its4 hits Z (dnF R i).iv (dnF R i).now A2 (dnF R i).ls.length c2 B2 (dnF R i).its.length d2
    have L9 := t1.imp id fun h => own_mono (base := w.heap.size) (own_set4 h hgz (.int .i64 (dnF R i).iv) (.int .i64 (dnF R i).now) (.slice A2 (dnF R i).ls.length c2) (.slice B2 (dnF R i).its.length d2)) hwz
    have M9 := t2.imp id fun h => own_mono (base := w.heap.size) (own_set4 h hgz (.int .i64 (dnF R i).iv) (.int .i64 (dnF R i).now) (.slice A2 (dnF R i).ls.length c2) (.slice B2 (dnF R i).its.length d2)) hwz
    have hf9 := (show StPost B0 w g b iv A c B d R (.returned (.tuple #[rfV (dnF R i) A2 (dnF R i).ls.length c2 B2 (dnF R i).its.length d2, .bool true])) _ from ⟨dropN N i, f, A2, c2, B2, d2, dnF R i, rfl, F9, hok.out.drop i, hR.out.down i, L9, M9, I9, rfl, Int.le_refl _, by show R.now ≤ _; omega, T9.k, T9.bel, hB2.out.drop i⟩)
    rw [hQ.out] at hf9
    replace hf9 := Lib.hid hf9
    have r0 := S.c 0 0 rfl rfl
    have r1 := S.c 0 1 rfl rfl
    have r2 := S.c 0 2 rfl rfl
    have r3 := S.c 0 3 rfl rfl
    have u0 := S.f 0 0 rfl rfl
    have u1 := S.f 0 1 rfl rfl
    have u2 := S.f 0 2 rfl rfl
    have u3 := S.f 0 3 rfl rfl
    have k0 := T9.c 0 0 rfl rfl
    have k1 := T9.c 0 1 rfl rfl
    have k2 := T9.c 0 2 rfl rfl
    have k3 := T9.c 0 3 rfl rfl
    clear hsame F9 hFW I9 L9 M9 hits t1 t2 hA hB
    go_wp2_with fail
    exact bodyPost_ret (v := .tuple #[rfV (dnF R i) A2 (dnF R i).ls.length c2 B2 (dnF R i).its.length d2, .bool true]) (by simp [results, Try.results13, go_sem, k0, k1, k2, k3]) rfl hf9.out

end Go.Proofs.Ytgbcnglagnlmhaa

namespace Go.Proofs.Ytgbcnglagnlmhaa
set_option linter.unusedVariables false
open Go.RowKit Go.Maps Go.Sort

set_option maxRecDepth 100000 in
set_option maxHeartbeats 12800000 in
theorem step_offer (w : World) (g b : Nat) (iv : Int) (N : Fn) (f : Nat → Nat) (hF : FlAt w g b iv N f) (hok : FnOk N) (A : Option Addr) (c : Nat) (B : Option Addr) (d : Nat) (R : RF) (hA : Rd w A (R.ls.map encZ)) (hB : Rd w B (itV R.its)) (hx : ItsOk w R.its) (hR : Rel N R)
    (h0 : 0 ≤ R.now) (h1 : R.now ≤ 1000000000) (h2 : 1 ≤ R.iv) (h3 : R.iv ≤ 65536) (hiv : R.iv = iv) (B0 : Nat) (hB1 : B0 ≤ b) (hB2 : FB B0 N f) (hB3 : B0 ≤ w.heap.size) (q n : Int) (As : Option Addr) (cs : Nat) (l : List Lx) (hs : SqOk w ⟨2, q, n, As, cs, l⟩) (hfw : FewS ⟨2, q, n, As, cs, l⟩) :
    Calls Try.prog 13 #[.pointer (some ⟨g, 0, none⟩), rfV R A R.ls.length c B R.its.length d, .agg #[.int .i64 2, .int .i64 q, .int .i64 n, .slice As l.length cs]] w (StPost B0 w g b iv A c B d R) := by
  have S0 := ((((St.start w).new' #[.int .i64 R.iv, .int .i64 R.now, .slice A R.ls.length c, .slice B R.its.length d] 44 w.heap.size _ rfl rfl).new' #[.int .i64 2, .int .i64 q, .int .i64 n, .slice As l.length cs] 48 (w.heap.size + 1) _ (by simp) rfl).new' #[.int .i64 0, .int .i64 0, .slice none 0 0, .slice none 0 0] 44 (w.heap.size + 2) _ (by simp) rfl)
  have Z0 := FlBox.alloc ((w.alloc (.cells #[.int .i64 R.iv, .int .i64 R.now, .slice A R.ls.length c, .slice B R.its.length d] 44)).alloc (.cells #[.int .i64 2, .int .i64 q, .int .i64 n, .slice As l.length cs] 48)) 0 0 none 0 0 none 0 0 44
  rw [show ((w.alloc (.cells #[.int .i64 R.iv, .int .i64 R.now, .slice A R.ls.length c, .slice B R.its.length d] 44)).alloc (.cells #[.int .i64 2, .int .i64 q, .int .i64 n, .slice As l.length cs] 48)).heap.size = w.heap.size + 2 by simp] at Z0
  have hgl := hF.lt.1
  have F1 := fun W (hb : Below w.heap.size w W) => first_any W As l.length cs l (hs.rd.below hb) rfl
  have hfo := fsL_ok hs.ok
  have hlen := hR.len
  have hlsl := hR.lsl
  have hl8 := hfw.1
  have hn20 := hfw.2.1
  have hnb := bounds_i64 hs.wn
  simp only at hl8 hn20 hnb
  have hsame : Hid (∀ w', Kq w w' → Below B0 w w' → FlAt w' g b iv N f → StPost B0 w g b iv A c B d R (.returned (.tuple #[rfV R A R.ls.length c B R.its.length d, .bool true])) w') := fun w' hk hbl hf => ⟨N, f, A, c, B, d, R, rfl, hf, hok, hR, .inl ⟨rfl, rfl, rfl⟩, .inl ⟨rfl, rfl, rfl⟩, fun s hs => hk.la (hx s hs), rfl, by omega, by omega, hk, hbl, hB2⟩
  replace F1 := Lib.hid F1
  replace hfo := Lib.hid hfo
  replace hF := Lib.hid hF
  replace hok := Lib.hid hok
  replace hR := Lib.hid hR
  replace hs := Lib.hid hs
  replace hx := Lib.hid hx
  replace hiv := Lib.hid hiv
  replace hB2 := Lib.hid hB2
  obtain ⟨Q, hQ⟩ : ∃ Q, StPost B0 w g b iv A c B d R = Q := ⟨_, rfl⟩
  rw [hQ] at hsame ⊢
  replace hQ := Lib.hid hQ
  have x0 := S0.c 1 0 rfl rfl
  have x1 := S0.c 1 1 rfl rfl
  have x2 := S0.c 1 2 rfl rfl
  have x3 := S0.c 1 3 rfl rfl
  go_enter Try.func13, Try.ntmps13
  go_wp2_with fail
  (with_reducible refine (F1.out _ S0.b).mono ?_)
  rintro e w1 ⟨rfl, hb⟩
  clear x0 x1 x2 x3
  clear F1
  replace S0 := S0.call hb
  have hgaz : w.heap.size + 2 < w1.heap.size := (S0.box 0 rfl).lt (by simp)
  replace Z0 := Z0.kq (Kq.of_below hb)
  clear hb
  obtain ⟨a, ha⟩ : ∃ a, fsL l = a := ⟨_, rfl⟩
  rw [ha] at hfo ⊢
  replace ha := Lib.hid ha
  have hb := below_new' w1 (.cells #[.int .i64 a.y.o, .int .i64 a.y.s, .int .i64 a.y.a, .bool a.y.ov, .slice a.A a.y.adj.length a.c, .slice a.B a.y.pre.length a.d] 32)
  replace S0 := S0.new' #[.int .i64 a.y.o, .int .i64 a.y.s, .int .i64 a.y.a, .bool a.y.ov, .slice a.A a.y.adj.length a.c, .slice a.B a.y.pre.length a.d] 32 w1.heap.size _ rfl rfl
  replace Z0 := Z0.kq (Kq.of_below hb)
  clear hb
  go_upto_region 2 with fail
  generalize World.alloc w1 _ = w2 at *
  generalize hga : w1.heap.size = ga at *
  replace hga := Lib.hid hga
  have x0 := S0.c 2 0 rfl rfl
  have x1 := S0.c 2 1 rfl rfl
  have x2 := S0.c 2 2 rfl rfl
  have x3 := S0.c 2 3 rfl rfl
  have y0 := S0.c 0 0 rfl rfl
  have y1 := S0.c 0 1 rfl rfl
  have y2 := S0.c 0 2 rfl rfl
  have y3 := S0.c 0 3 rfl rfl
  have y4 := S0.c 0 4 rfl rfl
  have y5 := S0.c 0 5 rfl rfl
  have S : Sk B0 w _ [(w.heap.size + 2, [.int .i64 0, .int .i64 0, .slice none 0 0, .slice none 0 0]), (w.heap.size + 1, [.int .i64 2, .int .i64 q, .int .i64 n, .slice As l.length cs]), (w.heap.size, [.int .i64 R.iv, .int .i64 R.now, .slice A R.ls.length c, .slice B R.its.length d]), (ga, [.int .i64 a.y.o, .int .i64 a.y.s, .int .i64 a.y.a, .bool a.y.ov, .slice a.A a.y.adj.length a.c, .slice a.B a.y.pre.length a.d])] := (Sk.of S0 hB3).keep _ (by simp)
  have hF2 := hF.out.below S0.b
  have hla2 : LaAt w2 (lxA a) a.y := S.k.la hfo.out
  rcases hlk : lkO N q with _ | D
  · have OF := Lib.hid (foffer_no w2 g b iv N f hF2 q hs.out.wq hlk _ a.y hla2)
    go_wp2_with fail
    (with_reducible refine (OF.out).mono ?_)
    rintro e w3 ⟨rfl, hb⟩
    clear OF
    clear x0 x1 x2 x3
    clear y0 y1 y2 y3 y4 y5
    replace S := S.call hb
    have hFp := hF2.below hb
    have Zp := Z0.kq (Kq.of_below hb)
    clear hb S0 Z0
    have his : isR R q = false := by rw [hR.out.is, hlk]; rfl
    have IS := Lib.hid (ris_any w3 _ R ⟨A, c, B, d, rfl, S.k.rd hA, S.k.rd hB, fun s hs => S.k.la (hx.out s hs)⟩ (by omega) q)
    rw [his] at IS
    clear his
    have x0 := S.c 1 0 rfl rfl
    have x1 := S.c 1 1 rfl rfl
    have x2 := S.c 1 2 rfl rfl
    have x3 := S.c 1 3 rfl rfl
    have z0 := S.c 2 0 rfl rfl
    have z1 := S.c 2 1 rfl rfl
    have z2 := S.c 2 2 rfl rfl
    have z3 := S.c 2 3 rfl rfl
    go_wp2_with fail
    (with_reducible refine (IS.out).mono ?_)
    rintro e wi ⟨rfl, hb⟩
    clear IS
    clear x0 x1 x2 x3
    clear z0 z1 z2 z3
    replace S := S.call hb
    have hFW := hFp.below hb
    have Z := Zp.kq (Kq.of_below hb)
    clear hb
    clear hlk
    have T9 := (S.keep [(w.heap.size + 2, [.int .i64 0, .int .i64 0, .slice none 0 0, .slice none 0 0])] (by simp)).set4 (.int .i64 R.iv) (.int .i64 R.now) (.slice A R.ls.length c) (.slice B R.its.length d) (by omega) (by simp)
    have F9 := flat4 hFW Z (by omega) R.iv R.now A R.ls.length c B R.its.length d
    have hf9 := Lib.hid (hsame.out _ T9.k T9.bel F9)
    have m0 := S.c 2 0 rfl rfl
    have m1 := S.c 2 1 rfl rfl
    have m2 := S.c 2 2 rfl rfl
    have m3 := S.c 2 3 rfl rfl
    have r0 := S.c 0 0 rfl rfl
    have r1 := S.c 0 1 rfl rfl
    have r2 := S.c 0 2 rfl rfl
    have r3 := S.c 0 3 rfl rfl
    have u0 := S.f 0 0 rfl rfl
    have u1 := S.f 0 1 rfl rfl
    have u2 := S.f 0 2 rfl rfl
    have u3 := S.f 0 3 rfl rfl
    have k0 := T9.c 0 0 rfl rfl
    have k1 := T9.c 0 1 rfl rfl
    have k2 := T9.c 0 2 rfl rfl
    have k3 := T9.c 0 3 rfl rfl
    clear hsame F9 hFW
    go_wp2_with fail
    exact bodyPost_ret (v := .tuple #[rfV R A R.ls.length c B R.its.length d, .bool true]) (by simp [results, Try.results13, go_sem, k0, k1, k2, k3]) rfl hf9.out
  · obtain ⟨i, rfl, hi, hD⟩ := lkO_form hlk
    clear hlk
    rcases hvb : vB a.y with _ | _
    · have OF := Lib.hid (foffer_bad w2 g b iv N f hF2 i hi D hD _ a.y hla2 (fun h => by rw [vB_t h] at hvb; cases hvb))
      go_wp2_with fail
      (with_reducible refine (OF.out).mono ?_)
      rintro e w3 ⟨rfl, hb⟩
      clear OF
      clear x0 x1 x2 x3
      clear y0 y1 y2 y3 y4 y5
      replace S := S.call hb
      have hFp := hF2.below hb
      have Zp := Z0.kq (Kq.of_below hb)
      clear hb S0 Z0
      have his : isR R (i : Int) = true := by rw [hR.out.is, lkO_nat hi, hD]; rfl
      have IS := Lib.hid (ris_any w3 _ R ⟨A, c, B, d, rfl, S.k.rd hA, S.k.rd hB, fun s hs => S.k.la (hx.out s hs)⟩ (by omega) (i : Int))
      rw [his] at IS
      clear his
      have x0 := S.c 1 0 rfl rfl
      have x1 := S.c 1 1 rfl rfl
      have x2 := S.c 1 2 rfl rfl
      have x3 := S.c 1 3 rfl rfl
      have z0 := S.c 2 0 rfl rfl
      have z1 := S.c 2 1 rfl rfl
      have z2 := S.c 2 2 rfl rfl
      have z3 := S.c 2 3 rfl rfl
      go_wp2_with fail
      (with_reducible refine (IS.out).mono ?_)
      rintro e wi ⟨rfl, hb⟩
      clear IS
      clear x0 x1 x2 x3
      clear z0 z1 z2 z3
      replace S := S.call hb
      replace hFp := hFp.below hb
      replace Zp := Zp.kq (Kq.of_below hb)
      clear hb
      have RV := Lib.hid (rvalid_at wi _ a.y (S.k.la hfo.out))
      rw [hvb] at RV
      have y0 := S.c 3 0 rfl rfl
      have y1 := S.c 3 1 rfl rfl
      have y2 := S.c 3 2 rfl rfl
      have y3 := S.c 3 3 rfl rfl
      have y4 := S.c 3 4 rfl rfl
      have y5 := S.c 3 5 rfl rfl
      go_wp2_with fail
      (with_reducible refine (RV.out).mono ?_)
      rintro e wv ⟨rfl, hb⟩
      clear RV
      clear y0 y1 y2 y3 y4 y5
      replace S := S.call hb
      have hFW := hFp.below hb
      have Z := Zp.kq (Kq.of_below hb)
      clear hb
      have T9 := (S.keep [(w.heap.size + 2, [.int .i64 0, .int .i64 0, .slice none 0 0, .slice none 0 0])] (by simp)).set4 (.int .i64 R.iv) (.int .i64 R.now) (.slice A R.ls.length c) (.slice B R.its.length d) (by omega) (by simp)
      have F9 := flat4 hFW Z (by omega) R.iv R.now A R.ls.length c B R.its.length d
      have hf9 := Lib.hid (hsame.out _ T9.k T9.bel F9)
      have m0 := S.c 2 0 rfl rfl
      have m1 := S.c 2 1 rfl rfl
      have m2 := S.c 2 2 rfl rfl
      have m3 := S.c 2 3 rfl rfl
      have r0 := S.c 0 0 rfl rfl
      have r1 := S.c 0 1 rfl rfl
      have r2 := S.c 0 2 rfl rfl
      have r3 := S.c 0 3 rfl rfl
      have u0 := S.f 0 0 rfl rfl
      have u1 := S.f 0 1 rfl rfl
      have u2 := S.f 0 2 rfl rfl
      have u3 := S.f 0 3 rfl rfl
      have k0 := T9.c 0 0 rfl rfl
      have k1 := T9.c 0 1 rfl rfl
      have k2 := T9.c 0 2 rfl rfl
      have k3 := T9.c 0 3 rfl rfl
      clear hsame F9 hFW
      go_wp2_with fail
      exact bodyPost_ret (v := .tuple #[rfV R A R.ls.length c B R.its.length d, .bool true]) (by simp [results, Try.results13, go_sem, k0, k1, k2, k3]) rfl hf9.out
    · have hva := vB_iff.1 hvb
      have OF := Lib.hid (foffer_yes w2 g b iv N f hF2 i hi D hD _ a.y hla2 hva)
      obtain ⟨M, hm, _⟩ := hF2.el i hi D hD
      go_wp2_with fail
      (with_reducible refine (OF.out).mono ?_)
      rintro e w3 ⟨rfl, hFp, hg⟩
      clear OF
      clear x0 x1 x2 x3
      clear y0 y1 y2 y3 y4 y5
      have hkq := Kq.of_map hm hg
      replace S := S.turn hkq (gr_below hg (hB2.out i hi (by rw [hD]; rfl)) (Nat.le_trans hB3 S.k.size))
      have Zp := Z0.kq hkq
      clear hkq hm hg S0 Z0 hF2
      have his : isR R (i : Int) = true := by rw [hR.out.is, lkO_nat hi, hD]; rfl
      have IS := Lib.hid (ris_any w3 _ R ⟨A, c, B, d, rfl, S.k.rd hA, S.k.rd hB, fun s hs => S.k.la (hx.out s hs)⟩ (by omega) (i : Int))
      rw [his] at IS
      clear his
      have x0 := S.c 1 0 rfl rfl
      have x1 := S.c 1 1 rfl rfl
      have x2 := S.c 1 2 rfl rfl
      have x3 := S.c 1 3 rfl rfl
      have z0 := S.c 2 0 rfl rfl
      have z1 := S.c 2 1 rfl rfl
      have z2 := S.c 2 2 rfl rfl
      have z3 := S.c 2 3 rfl rfl
      go_wp2_with fail
      (with_reducible refine (IS.out).mono ?_)
      rintro e wi ⟨rfl, hb⟩
      clear IS
      clear x0 x1 x2 x3
      clear z0 z1 z2 z3
      replace S := S.call hb
      replace hFp := hFp.below hb
      replace Zp := Zp.kq (Kq.of_below hb)
      clear hb
      have RV := Lib.hid (rvalid_at wi _ a.y (S.k.la hfo.out))
      rw [hvb] at RV
      have y0 := S.c 3 0 rfl rfl
      have y1 := S.c 3 1 rfl rfl
      have y2 := S.c 3 2 rfl rfl
      have y3 := S.c 3 3 rfl rfl
      have y4 := S.c 3 4 rfl rfl
      have y5 := S.c 3 5 rfl rfl
      go_wp2_with fail
      (with_reducible refine (RV.out).mono ?_)
      rintro e wv ⟨rfl, hb⟩
      clear RV
      clear y0 y1 y2 y3 y4 y5
      replace S := S.call hb
      replace hFp := hFp.below hb
      replace Zp := Zp.kq (Kq.of_below hb)
      clear hb
      have RO := Lib.hid (roffer_any wv A c B d R (S.k.rd hA) (S.k.rd hB) (fun s hs => S.k.la (hx.out s hs)) (by omega) (i : Int) a (S.k.la hfo.out))
      have hgz : w.heap.size + 2 < wv.heap.size := (S.box 0 rfl).lt (by simp)
      have hwz : w.heap.size ≤ wv.heap.size := by omega
      have x0 := S.c 1 0 rfl rfl
      have x1 := S.c 1 1 rfl rfl
      have x2 := S.c 1 2 rfl rfl
      have x3 := S.c 1 3 rfl rfl
      have z0 := S.c 2 0 rfl rfl
      have z1 := S.c 2 1 rfl rfl
      have z2 := S.c 2 2 rfl rfl
      have z3 := S.c 2 3 rfl rfl
      have y0 := S.c 3 0 rfl rfl
      have y1 := S.c 3 1 rfl rfl
      have y2 := S.c 3 2 rfl rfl
      have y3 := S.c 3 3 rfl rfl
      have y4 := S.c 3 4 rfl rfl
      have y5 := S.c 3 5 rfl rfl
      go_wp2_with fail
      (with_reducible refine (RO.out).mono ?_)
      rintro e w5 ⟨A2, c2, B2, d2, rfl, t1, t2, hb⟩
      clear RO
      clear x0 x1 x2 x3
      clear z0 z1 z2 z3
      clear y0 y1 y2 y3 y4 y5
      replace S := S.call hb
      have Z := Zp.kq (Kq.of_below hb)
      have hFW := hFp.below hb
      have hits : ItsOk w5 (offF R i a).its := offF_ok (fun s hs => S.k.la (hx.out s hs)) (S.k.la hfo.out)
      clear hb hFp Zp
      have T9 := (S.keep [(w.heap.size + 2, [.int .i64 0, .int .i64 0, .slice none 0 0, .slice none 0 0])] (by simp)).set4 (.int .i64 (offF R i a).iv) (.int .i64 (offF R i a).now) (.slice A2 (offF R i a).ls.length c2) (.slice B2 (offF R i a).its.length d2) (by omega) (by simp)
      have F9 := flat4 hFW Z (by omega) (offF R i a).iv (offF R i a).now A2 (offF R i a).ls.length c2 B2 (offF R i a).its.length d2
      have I9 := its4 hits Z (offF R i a).iv (offF R i a).now A2 (offF R i a).ls.length c2 B2 (offF R i a).its.length d2
      have L9 := t1.imp id fun h => own_mono (base := w.heap.size) (own_set4 h hgz (.int .i64 (offF R i a).iv) (.int .i64 (offF R i a).now) (.slice A2 (offF R i a).ls.length c2) (.slice B2 (offF R i a).its.length d2)) hwz
      have M9 := t2.imp id fun h => own_mono (base := w.heap.size) (own_set4 h hgz (.int .i64 (offF R i a).iv) (.int .i64 (offF R i a).now) (.slice A2 (offF R i a).ls.length c2) (.slice B2 (offF R i a).its.length d2)) hwz
      have hf9 := (show StPost B0 w g b iv A c B d R (.returned (.tuple #[rfV (offF R i a) A2 (offF R i a).ls.length c2 B2 (offF R i a).its.length d2, .bool true])) _ from ⟨setN N i (offD D a.y), f, A2, c2, B2, d2, offF R i a, rfl, F9, hok.out.set ((hok.out.db hD).off hva), hR.out.offer hi hD hva, L9, M9, I9, (offF_ls R i a).2.1, by rw [(offF_ls R i a).2.2]; exact Int.le_refl _, by rw [(offF_ls R i a).2.2]; omega, T9.k, T9.bel, hB2.out.set hD⟩)
      rw [hQ.out] at hf9
      replace hf9 := Lib.hid hf9
      have r0 := S.c 0 0 rfl rfl
      have r1 := S.c 0 1 rfl rfl
      have r2 := S.c 0 2 rfl rfl
      have r3 := S.c 0 3 rfl rfl
      have u0 := S.f 0 0 rfl rfl
      have u1 := S.f 0 1 rfl rfl
      have u2 := S.f 0 2 rfl rfl
      have u3 := S.f 0 3 rfl rfl
      have k0 := T9.c 0 0 rfl rfl
      have k1 := T9.c 0 1 rfl rfl
      have k2 := T9.c 0 2 rfl rfl
      have k3 := T9.c 0 3 rfl rfl
      clear hsame F9 hFW I9 L9 M9 hits t1 t2 hA hB
      go_wp2_with fail
      exact bodyPost_ret (v := .tuple #[rfV (offF R i a) A2 (offF R i a).ls.length c2 B2 (offF R i a).its.length d2, .bool true]) (by simp [results, Try.results13, go_sem, k0, k1, k2, k3]) rfl hf9.out

end Go.Proofs.Ytgbcnglagnlmhaa

namespace Go.Proofs.Ytgbcnglagnlmhaa
set_option linter.unusedVariables false
open Go.RowKit Go.Maps Go.Sort

theorem fold_ls {a : Lx} {ex : Int} : ∀ (l : List Int) (R : RF), (l.foldl (spS a ex) R).ls = R.ls ∧ (l.foldl (spS a ex) R).iv = R.iv ∧ (l.foldl (spS a ex) R).now = R.now
  | [], R => ⟨rfl, rfl, rfl⟩
  | q :: l, R => by
    have h := fold_ls l (spS a ex R q) (a := a) (ex := ex)
    have h2 := spS_ls a ex R q
    simp only [List.foldl_cons]
    exact ⟨h.1.trans h2.1, h.2.1.trans h2.2.1, h.2.2.trans h2.2.2⟩
theorem spF_ls (R : RF) (a : Lx) (ex : Int) : (spF R a ex).ls = R.ls ∧ (spF R a ex).iv = R.iv ∧ (spF R a ex).now = R.now := fold_ls R.ls R
theorem spF_ok {w : World} {R : RF} {a : Lx} {ex : Int} (h : ItsOk w R.its) (ha : LxOk w a) : ItsOk w (spF R a ex).its := by
  unfold spF
  have : ∀ (l : List Int) (Z : RF), ItsOk w Z.its → ItsOk w (l.foldl (spS a ex) Z).its := fun l => by
    induction l with
    | nil => intro Z hz; exact hz
    | cons q l ih => intro Z hz; exact ih _ (spS_ok hz ha)
  exact this R.ls R h

set_option maxRecDepth 100000 in
set_option maxHeartbeats 12800000 in
theorem step_spread (w : World) (g b : Nat) (iv : Int) (N : Fn) (f : Nat → Nat) (hF : FlAt w g b iv N f) (hok : FnOk N) (A : Option Addr) (c : Nat) (B : Option Addr) (d : Nat) (R : RF) (hA : Rd w A (R.ls.map encZ)) (hB : Rd w B (itV R.its)) (hx : ItsOk w R.its) (hR : Rel N R)
    (h0 : 0 ≤ R.now) (h1 : R.now ≤ 1000000000) (h2 : 1 ≤ R.iv) (h3 : R.iv ≤ 65536) (hiv : R.iv = iv) (B0 : Nat) (hB1 : B0 ≤ b) (hB2 : FB B0 N f) (hB3 : B0 ≤ w.heap.size) (q n : Int) (As : Option Addr) (cs : Nat) (l : List Lx) (hs : SqOk w ⟨3, q, n, As, cs, l⟩) (hfw : FewS ⟨3, q, n, As, cs, l⟩) :
    Calls Try.prog 13 #[.pointer (some ⟨g, 0, none⟩), rfV R A R.ls.length c B R.its.length d, .agg #[.int .i64 3, .int .i64 q, .int .i64 n, .slice As l.length cs]] w (StPost B0 w g b iv A c B d R) := by
  have S0 := ((((St.start w).new' #[.int .i64 R.iv, .int .i64 R.now, .slice A R.ls.length c, .slice B R.its.length d] 44 w.heap.size _ rfl rfl).new' #[.int .i64 3, .int .i64 q, .int .i64 n, .slice As l.length cs] 48 (w.heap.size + 1) _ (by simp) rfl).new' #[.int .i64 0, .int .i64 0, .slice none 0 0, .slice none 0 0] 44 (w.heap.size + 2) _ (by simp) rfl)
  have Z0 := FlBox.alloc ((w.alloc (.cells #[.int .i64 R.iv, .int .i64 R.now, .slice A R.ls.length c, .slice B R.its.length d] 44)).alloc (.cells #[.int .i64 3, .int .i64 q, .int .i64 n, .slice As l.length cs] 48)) 0 0 none 0 0 none 0 0 44
  rw [show ((w.alloc (.cells #[.int .i64 R.iv, .int .i64 R.now, .slice A R.ls.length c, .slice B R.its.length d] 44)).alloc (.cells #[.int .i64 3, .int .i64 q, .int .i64 n, .slice As l.length cs] 48)).heap.size = w.heap.size + 2 by simp] at Z0
  have hgl := hF.lt.1
  have F1 := fun W (hb : Below w.heap.size w W) => first_any W As l.length cs l (hs.rd.below hb) rfl
  have hfo := fsL_ok hs.ok
  have hlen := hR.len
  have hlsl := hR.lsl
  have hl8 := hfw.1
  have hn20 := hfw.2.1
  have hnb := bounds_i64 hs.wn
  simp only at hl8 hn20 hnb
  have hsame : Hid (∀ w', Kq w w' → Below B0 w w' → FlAt w' g b iv N f → StPost B0 w g b iv A c B d R (.returned (.tuple #[rfV R A R.ls.length c B R.its.length d, .bool true])) w') := fun w' hk hbl hf => ⟨N, f, A, c, B, d, R, rfl, hf, hok, hR, .inl ⟨rfl, rfl, rfl⟩, .inl ⟨rfl, rfl, rfl⟩, fun s hs => hk.la (hx s hs), rfl, by omega, by omega, hk, hbl, hB2⟩
  replace F1 := Lib.hid F1
  replace hfo := Lib.hid hfo
  replace hF := Lib.hid hF
  replace hok := Lib.hid hok
  replace hR := Lib.hid hR
  replace hs := Lib.hid hs
  replace hx := Lib.hid hx
  replace hiv := Lib.hid hiv
  replace hB2 := Lib.hid hB2
  obtain ⟨Q, hQ⟩ : ∃ Q, StPost B0 w g b iv A c B d R = Q := ⟨_, rfl⟩
  rw [hQ] at hsame ⊢
  replace hQ := Lib.hid hQ
  have x0 := S0.c 1 0 rfl rfl
  have x1 := S0.c 1 1 rfl rfl
  have x2 := S0.c 1 2 rfl rfl
  have x3 := S0.c 1 3 rfl rfl
  go_enter Try.func13, Try.ntmps13
  go_wp2_with fail
  (with_reducible refine (F1.out _ S0.b).mono ?_)
  rintro e w1 ⟨rfl, hb⟩
  clear x0 x1 x2 x3
  clear F1
  replace S0 := S0.call hb
  have hgaz : w.heap.size + 2 < w1.heap.size := (S0.box 0 rfl).lt (by simp)
  replace Z0 := Z0.kq (Kq.of_below hb)
  clear hb
  obtain ⟨a, ha⟩ : ∃ a, fsL l = a := ⟨_, rfl⟩
  rw [ha] at hfo ⊢
  replace ha := Lib.hid ha
  have hb := below_new' w1 (.cells #[.int .i64 a.y.o, .int .i64 a.y.s, .int .i64 a.y.a, .bool a.y.ov, .slice a.A a.y.adj.length a.c, .slice a.B a.y.pre.length a.d] 32)
  replace S0 := S0.new' #[.int .i64 a.y.o, .int .i64 a.y.s, .int .i64 a.y.a, .bool a.y.ov, .slice a.A a.y.adj.length a.c, .slice a.B a.y.pre.length a.d] 32 w1.heap.size _ rfl rfl
  replace Z0 := Z0.kq (Kq.of_below hb)
  clear hb
  go_upto_region 2 with fail
  generalize World.alloc w1 _ = w2 at *
  generalize hga : w1.heap.size = ga at *
  replace hga := Lib.hid hga
  have x0 := S0.c 2 0 rfl rfl
  have x1 := S0.c 2 1 rfl rfl
  have x2 := S0.c 2 2 rfl rfl
  have x3 := S0.c 2 3 rfl rfl
  have y0 := S0.c 0 0 rfl rfl
  have y1 := S0.c 0 1 rfl rfl
  have y2 := S0.c 0 2 rfl rfl
  have y3 := S0.c 0 3 rfl rfl
  have y4 := S0.c 0 4 rfl rfl
  have y5 := S0.c 0 5 rfl rfl
  have S : Sk B0 w _ [(w.heap.size + 2, [.int .i64 0, .int .i64 0, .slice none 0 0, .slice none 0 0]), (w.heap.size + 1, [.int .i64 3, .int .i64 q, .int .i64 n, .slice As l.length cs]), (w.heap.size, [.int .i64 R.iv, .int .i64 R.now, .slice A R.ls.length c, .slice B R.its.length d]), (ga, [.int .i64 a.y.o, .int .i64 a.y.s, .int .i64 a.y.a, .bool a.y.ov, .slice a.A a.y.adj.length a.c, .slice a.B a.y.pre.length a.d])] := (Sk.of S0 hB3).keep _ (by simp)
  have hF2 := hF.out.below S0.b
  have hla2 : LaAt w2 (lxA a) a.y := S.k.la hfo.out
  rcases hvb : vB a.y with _ | _
  · have SP := Lib.hid (fspread_bad w2 g _ a.y hla2 (fun h => by rw [vB_t h] at hvb; cases hvb) q)
    go_wp2_with fail
    (with_reducible refine (SP.out).mono ?_)
    rintro e wi ⟨rfl, hb⟩
    clear SP
    clear x0 x1 x2 x3
    clear y0 y1 y2 y3 y4 y5
    replace S := S.call hb
    have hFp := hF2.below hb
    have Zp := Z0.kq (Kq.of_below hb)
    clear hb S0 Z0
    have RV := Lib.hid (rvalid_at wi _ a.y (S.k.la hfo.out))
    rw [hvb] at RV
    have y0 := S.c 3 0 rfl rfl
    have y1 := S.c 3 1 rfl rfl
    have y2 := S.c 3 2 rfl rfl
    have y3 := S.c 3 3 rfl rfl
    have y4 := S.c 3 4 rfl rfl
    have y5 := S.c 3 5 rfl rfl
    go_wp2_with fail
    (with_reducible refine (RV.out).mono ?_)
    rintro e wv ⟨rfl, hb⟩
    clear RV
    clear y0 y1 y2 y3 y4 y5
    replace S := S.call hb
    have hFW := hFp.below hb
    have Z := Zp.kq (Kq.of_below hb)
    clear hb
    have T9 := (S.keep [(w.heap.size + 2, [.int .i64 0, .int .i64 0, .slice none 0 0, .slice none 0 0])] (by simp)).set4 (.int .i64 R.iv) (.int .i64 R.now) (.slice A R.ls.length c) (.slice B R.its.length d) (by omega) (by simp)
    have F9 := flat4 hFW Z (by omega) R.iv R.now A R.ls.length c B R.its.length d
    have hf9 := Lib.hid (hsame.out _ T9.k T9.bel F9)
    have m0 := S.c 2 0 rfl rfl
    have m1 := S.c 2 1 rfl rfl
    have m2 := S.c 2 2 rfl rfl
    have m3 := S.c 2 3 rfl rfl
    have r0 := S.c 0 0 rfl rfl
    have r1 := S.c 0 1 rfl rfl
    have r2 := S.c 0 2 rfl rfl
    have r3 := S.c 0 3 rfl rfl
    have u0 := S.f 0 0 rfl rfl
    have u1 := S.f 0 1 rfl rfl
    have u2 := S.f 0 2 rfl rfl
    have u3 := S.f 0 3 rfl rfl
    have k0 := T9.c 0 0 rfl rfl
    have k1 := T9.c 0 1 rfl rfl
    have k2 := T9.c 0 2 rfl rfl
    have k3 := T9.c 0 3 rfl rfl
    clear hsame F9 hFW
    go_wp2_with fail
    exact bodyPost_ret (v := .tuple #[rfV R A R.ls.length c B R.its.length d, .bool true]) (by simp [results, Try.results13, go_sem, k0, k1, k2, k3]) rfl hf9.out
  · have hva := vB_iff.1 hvb
    have SP := Lib.hid (fspread_any w2 g b iv N f hF2 _ a.y hla2 hva q)
    go_wp2_with fail
    (with_reducible refine (SP.out).mono ?_)
    rintro e wi ⟨rfl, hFp, hkf⟩
    clear SP
    clear x0 x1 x2 x3
    clear y0 y1 y2 y3 y4 y5
    have hkq := hkf.kq hF2.maps
    replace S := S.turn hkq (hB2.out.kf hkf (Nat.le_trans hB3 S.k.size))
    have Zp := Z0.kq hkq
    clear hkq hkf S0 Z0 hF2
    have RV := Lib.hid (rvalid_at wi _ a.y (S.k.la hfo.out))
    rw [hvb] at RV
    have y0 := S.c 3 0 rfl rfl
    have y1 := S.c 3 1 rfl rfl
    have y2 := S.c 3 2 rfl rfl
    have y3 := S.c 3 3 rfl rfl
    have y4 := S.c 3 4 rfl rfl
    have y5 := S.c 3 5 rfl rfl
    go_wp2_with fail
    (with_reducible refine (RV.out).mono ?_)
    rintro e wv ⟨rfl, hb⟩
    clear RV
    clear y0 y1 y2 y3 y4 y5
    replace S := S.call hb
    replace hFp := hFp.below hb
    replace Zp := Zp.kq (Kq.of_below hb)
    clear hb
    have RO := Lib.hid (rspread_any wv A c B d R (S.k.rd hA) (S.k.rd hB) (fun s hs => S.k.la (hx.out s hs)) (by omega) a (S.k.la hfo.out) q)
    have hgz : w.heap.size + 2 < wv.heap.size := (S.box 0 rfl).lt (by simp)
    have hwz : w.heap.size ≤ wv.heap.size := by omega
    have x0 := S.c 1 0 rfl rfl
    have x1 := S.c 1 1 rfl rfl
    have x2 := S.c 1 2 rfl rfl
    have x3 := S.c 1 3 rfl rfl
    have z0 := S.c 2 0 rfl rfl
    have z1 := S.c 2 1 rfl rfl
    have z2 := S.c 2 2 rfl rfl
    have z3 := S.c 2 3 rfl rfl
    have y0 := S.c 3 0 rfl rfl
    have y1 := S.c 3 1 rfl rfl
    have y2 := S.c 3 2 rfl rfl
    have y3 := S.c 3 3 rfl rfl
    have y4 := S.c 3 4 rfl rfl
    have y5 := S.c 3 5 rfl rfl
    go_wp2_with fail
    (with_reducible refine (RO.out).mono ?_)
    rintro e w5 ⟨A2, c2, B2, d2, rfl, t1, t2, hb⟩
    clear RO
    clear x0 x1 x2 x3
    clear z0 z1 z2 z3
    clear y0 y1 y2 y3 y4 y5
    replace S := S.call hb
    have Z := Zp.kq (Kq.of_below hb)
    have hFW := hFp.below hb
    have hits : ItsOk w5 (spF R a q).its := spF_ok (fun s hs => S.k.la (hx.out s hs)) (S.k.la hfo.out)
    clear hb hFp Zp
    have T9 := (S.keep [(w.heap.size + 2, [.int .i64 0, .int .i64 0, .slice none 0 0, .slice none 0 0])] (by simp)).set4 (.int .i64 (spF R a q).iv) (.int .i64 (spF R a q).now) (.slice A2 (spF R a q).ls.length c2) (.slice B2 (spF R a q).its.length d2) (by omega) (by simp)
    have F9 := flat4 hFW Z (by omega) (spF R a q).iv (spF R a q).now A2 (spF R a q).ls.length c2 B2 (spF R a q).its.length d2
    have I9 := its4 hits Z (spF R a q).iv (spF R a q).now A2 (spF R a q).ls.length c2 B2 (spF R a q).its.length d2
    have L9 := t1.imp id fun h => own_mono (base := w.heap.size) (own_set4 h hgz (.int .i64 (spF R a q).iv) (.int .i64 (spF R a q).now) (.slice A2 (spF R a q).ls.length c2) (.slice B2 (spF R a q).its.length d2)) hwz
    have M9 := t2.imp id fun h => own_mono (base := w.heap.size) (own_set4 h hgz (.int .i64 (spF R a q).iv) (.int .i64 (spF R a q).now) (.slice A2 (spF R a q).ls.length c2) (.slice B2 (spF R a q).its.length d2)) hwz
    have hf9 := (show StPost B0 w g b iv A c B d R (.returned (.tuple #[rfV (spF R a q) A2 (spF R a q).ls.length c2 B2 (spF R a q).its.length d2, .bool true])) _ from ⟨sprN N a.y q, f, A2, c2, B2, d2, spF R a q, rfl, F9, hok.out.spr hva q, hR.out.spread hva q, L9, M9, I9, (spF_ls R a q).2.1, by rw [(spF_ls R a q).2.2]; exact Int.le_refl _, by rw [(spF_ls R a q).2.2]; omega, T9.k, T9.bel, hB2.out.map _⟩)
    rw [hQ.out] at hf9
    replace hf9 := Lib.hid hf9
    have r0 := S.c 0 0 rfl rfl
    have r1 := S.c 0 1 rfl rfl
    have r2 := S.c 0 2 rfl rfl
    have r3 := S.c 0 3 rfl rfl
    have u0 := S.f 0 0 rfl rfl
    have u1 := S.f 0 1 rfl rfl
    have u2 := S.f 0 2 rfl rfl
    have u3 := S.f 0 3 rfl rfl
    have k0 := T9.c 0 0 rfl rfl
    have k1 := T9.c 0 1 rfl rfl
    have k2 := T9.c 0 2 rfl rfl
    have k3 := T9.c 0 3 rfl rfl
    clear hsame F9 hFW I9 L9 M9 hits t1 t2 hA hB
    go_wp2_with fail
    exact bodyPost_ret (v := .tuple #[rfV (spF R a q) A2 (spF R a q).ls.length c2 B2 (spF R a q).its.length d2, .bool true]) (by simp [results, Try.results13, go_sem, k0, k1, k2, k3]) rfl hf9.out

end Go.Proofs.Ytgbcnglagnlmhaa

namespace Go.Proofs.Ytgbcnglagnlmhaa
set_option linter.unusedVariables false
open Go.RowKit Go.Maps Go.Sort

theorem upF_ls : ∀ (l : List Lx) (R : RF) (q : Int), (l.foldl (fun R a => offF R q a) R).iv = R.iv ∧ (l.foldl (fun R a => offF R q a) R).now = R.now
  | [], R, q => ⟨rfl, rfl⟩
  | a :: l, R, q => by
    have h := upF_ls l (offF R q a) q
    have h2 := offF_ls R q a
    simp only [List.foldl_cons]
    exact ⟨h.1.trans h2.2.1, h.2.trans h2.2.2⟩
theorem upF_ok {w : World} {R : RF} {q : Int} {l : List Lx} (h : ItsOk w R.its) (hl : ∀ s ∈ l, LxOk w s) : ItsOk w (upF R q l).its := by
  unfold upF
  have : ∀ (l : List Lx) (Z : RF), (∀ s ∈ l, LxOk w s) → ItsOk w Z.its → ItsOk w (l.foldl (fun R a => offF R q a) Z).its := fun l => by
    induction l with
    | nil => intro Z _ hz; exact hz
    | cons a l ih => intro Z hl hz; exact ih _ (fun s hs => hl s (List.mem_cons_of_mem _ hs)) (offF_ok hz (hl a (by simp)))
  exact this l _ hl fun s hs => h s (List.mem_filter.1 hs).1
theorem vlB_all {l : List Lx} (h : vlB l = true) : ∀ s ∈ l, LaValid s.y := fun s hs => vB_iff.1 (List.all_eq_true.1 h s hs)

set_option maxRecDepth 100000 in
set_option maxHeartbeats 12800000 in
theorem step_up (w : World) (g b : Nat) (iv : Int) (N : Fn) (f : Nat → Nat) (hF : FlAt w g b iv N f) (hok : FnOk N) (A : Option Addr) (c : Nat) (B : Option Addr) (d : Nat) (R : RF) (hA : Rd w A (R.ls.map encZ)) (hB : Rd w B (itV R.its)) (hx : ItsOk w R.its) (hR : Rel N R)
    (h0 : 0 ≤ R.now) (h1 : R.now ≤ 1000000000) (h2 : 1 ≤ R.iv) (h3 : R.iv ≤ 65536) (hiv : R.iv = iv) (B0 : Nat) (hB1 : B0 ≤ b) (hB2 : FB B0 N f) (hB3 : B0 ≤ w.heap.size) (q n : Int) (As : Option Addr) (cs : Nat) (l : List Lx) (hs : SqOk w ⟨0, q, n, As, cs, l⟩) (hfw : FewS ⟨0, q, n, As, cs, l⟩) :
    Calls Try.prog 13 #[.pointer (some ⟨g, 0, none⟩), rfV R A R.ls.length c B R.its.length d, .agg #[.int .i64 0, .int .i64 q, .int .i64 n, .slice As l.length cs]] w (StPost B0 w g b iv A c B d R) := by
  have S0 := ((((St.start w).new' #[.int .i64 R.iv, .int .i64 R.now, .slice A R.ls.length c, .slice B R.its.length d] 44 w.heap.size _ rfl rfl).new' #[.int .i64 0, .int .i64 q, .int .i64 n, .slice As l.length cs] 48 (w.heap.size + 1) _ (by simp) rfl).new' #[.int .i64 0, .int .i64 0, .slice none 0 0, .slice none 0 0] 44 (w.heap.size + 2) _ (by simp) rfl)
  have Z0 := FlBox.alloc ((w.alloc (.cells #[.int .i64 R.iv, .int .i64 R.now, .slice A R.ls.length c, .slice B R.its.length d] 44)).alloc (.cells #[.int .i64 0, .int .i64 q, .int .i64 n, .slice As l.length cs] 48)) 0 0 none 0 0 none 0 0 44
  rw [show ((w.alloc (.cells #[.int .i64 R.iv, .int .i64 R.now, .slice A R.ls.length c, .slice B R.its.length d] 44)).alloc (.cells #[.int .i64 0, .int .i64 q, .int .i64 n, .slice As l.length cs] 48)).heap.size = w.heap.size + 2 by simp] at Z0
  have hgl := hF.lt.1
  have F1 := fun W (hb : Below w.heap.size w W) => first_any W As l.length cs l (hs.rd.below hb) rfl
  have hfo := fsL_ok hs.ok
  have hlen := hR.len
  have hlsl := hR.lsl
  have hl8 := hfw.1
  have hn20 := hfw.2.1
  have hnb := bounds_i64 hs.wn
  simp only at hl8 hn20 hnb
  have hsame : Hid (∀ w', Kq w w' → Below B0 w w' → FlAt w' g b iv N f → StPost B0 w g b iv A c B d R (.returned (.tuple #[rfV R A R.ls.length c B R.its.length d, .bool true])) w') := fun w' hk hbl hf => ⟨N, f, A, c, B, d, R, rfl, hf, hok, hR, .inl ⟨rfl, rfl, rfl⟩, .inl ⟨rfl, rfl, rfl⟩, fun s hs => hk.la (hx s hs), rfl, by omega, by omega, hk, hbl, hB2⟩
  replace F1 := Lib.hid F1
  replace hfo := Lib.hid hfo
  replace hF := Lib.hid hF
  replace hok := Lib.hid hok
  replace hR := Lib.hid hR
  replace hs := Lib.hid hs
  replace hx := Lib.hid hx
  replace hiv := Lib.hid hiv
  replace hB2 := Lib.hid hB2
  obtain ⟨Q, hQ⟩ : ∃ Q, StPost B0 w g b iv A c B d R = Q := ⟨_, rfl⟩
  rw [hQ] at hsame ⊢
  replace hQ := Lib.hid hQ
  have x0 := S0.c 1 0 rfl rfl
  have x1 := S0.c 1 1 rfl rfl
  have x2 := S0.c 1 2 rfl rfl
  have x3 := S0.c 1 3 rfl rfl
  go_enter Try.func13, Try.ntmps13
  go_wp2_with fail
  (with_reducible refine (F1.out _ S0.b).mono ?_)
  rintro e w1 ⟨rfl, hb⟩
  clear x0 x1 x2 x3
  clear F1
  replace S0 := S0.call hb
  have hgaz : w.heap.size + 2 < w1.heap.size := (S0.box 0 rfl).lt (by simp)
  replace Z0 := Z0.kq (Kq.of_below hb)
  clear hb
  obtain ⟨a, ha⟩ : ∃ a, fsL l = a := ⟨_, rfl⟩
  rw [ha] at hfo ⊢
  replace ha := Lib.hid ha
  have hb := below_new' w1 (.cells #[.int .i64 a.y.o, .int .i64 a.y.s, .int .i64 a.y.a, .bool a.y.ov, .slice a.A a.y.adj.length a.c, .slice a.B a.y.pre.length a.d] 32)
  replace S0 := S0.new' #[.int .i64 a.y.o, .int .i64 a.y.s, .int .i64 a.y.a, .bool a.y.ov, .slice a.A a.y.adj.length a.c, .slice a.B a.y.pre.length a.d] 32 w1.heap.size _ rfl rfl
  replace Z0 := Z0.kq (Kq.of_below hb)
  clear hb
  go_upto_region 2 with fail
  generalize World.alloc w1 _ = w2 at *
  generalize hga : w1.heap.size = ga at *
  replace hga := Lib.hid hga
  have x0 := S0.c 2 0 rfl rfl
  have x1 := S0.c 2 1 rfl rfl
  have x2 := S0.c 2 2 rfl rfl
  have x3 := S0.c 2 3 rfl rfl
  have y0 := S0.c 0 0 rfl rfl
  have y1 := S0.c 0 1 rfl rfl
  have y2 := S0.c 0 2 rfl rfl
  have y3 := S0.c 0 3 rfl rfl
  have y4 := S0.c 0 4 rfl rfl
  have y5 := S0.c 0 5 rfl rfl
  have S : Sk B0 w _ [(w.heap.size + 2, [.int .i64 0, .int .i64 0, .slice none 0 0, .slice none 0 0]), (w.heap.size + 1, [.int .i64 0, .int .i64 q, .int .i64 n, .slice As l.length cs]), (w.heap.size, [.int .i64 R.iv, .int .i64 R.now, .slice A R.ls.length c, .slice B R.its.length d]), (ga, [.int .i64 a.y.o, .int .i64 a.y.s, .int .i64 a.y.a, .bool a.y.ov, .slice a.A a.y.adj.length a.c, .slice a.B a.y.pre.length a.d])] := (Sk.of S0 hB3).keep _ (by simp)
  have hF2 := hF.out.below S0.b
  have hrl : Rd w2 As (lxV l) := S.k.rd hs.out.rd
  have hll : ∀ x ∈ l, LxOk w2 x := fun x hx => S.k.la (hs.out.ok x hx)
  by_cases hq : q < 0 ∨ 256 ≤ q
  · have UP := Lib.hid (fup_range w2 g q (.slice As l.length cs) hq)
    go_wp2_with fail
    (with_reducible refine (UP.out).mono ?_)
    rintro e w3 ⟨rfl, rfl⟩
    clear UP
    clear y0 y1 y2 y3 y4 y5
    have hFW := hF2
    have Z := Z0
    clear S0 hrl hll
    rcases hq with hq | hq
    · have e1 : decide (q < 0) = true := by simp; omega
      have T9 := (S.keep [(w.heap.size + 2, [.int .i64 0, .int .i64 0, .slice none 0 0, .slice none 0 0])] (by simp)).set4 (.int .i64 R.iv) (.int .i64 R.now) (.slice A R.ls.length c) (.slice B R.its.length d) (by omega) (by simp)
      have F9 := flat4 hFW Z (by omega) R.iv R.now A R.ls.length c B R.its.length d
      have hf9 := Lib.hid (hsame.out _ T9.k T9.bel F9)
      have m0 := S.c 2 0 rfl rfl
      have m1 := S.c 2 1 rfl rfl
      have m2 := S.c 2 2 rfl rfl
      have m3 := S.c 2 3 rfl rfl
      have r0 := S.c 0 0 rfl rfl
      have r1 := S.c 0 1 rfl rfl
      have r2 := S.c 0 2 rfl rfl
      have r3 := S.c 0 3 rfl rfl
      have u0 := S.f 0 0 rfl rfl
      have u1 := S.f 0 1 rfl rfl
      have u2 := S.f 0 2 rfl rfl
      have u3 := S.f 0 3 rfl rfl
      have k0 := T9.c 0 0 rfl rfl
      have k1 := T9.c 0 1 rfl rfl
      have k2 := T9.c 0 2 rfl rfl
      have k3 := T9.c 0 3 rfl rfl
      clear hsame F9 hFW
      go_wp2_with fail
      exact bodyPost_ret (v := .tuple #[rfV R A R.ls.length c B R.its.length d, .bool true]) (by simp [results, Try.results13, go_sem, k0, k1, k2, k3]) rfl hf9.out
    · have e1 : decide (q < 0) = false := by simp; omega
      have e2 : decide (255 < q) = true := by simp; omega
      have T9 := (S.keep [(w.heap.size + 2, [.int .i64 0, .int .i64 0, .slice none 0 0, .slice none 0 0])] (by simp)).set4 (.int .i64 R.iv) (.int .i64 R.now) (.slice A R.ls.length c) (.slice B R.its.length d) (by omega) (by simp)
      have F9 := flat4 hFW Z (by omega) R.iv R.now A R.ls.length c B R.its.length d
      have hf9 := Lib.hid (hsame.out _ T9.k T9.bel F9)
      have m0 := S.c 2 0 rfl rfl
      have m1 := S.c 2 1 rfl rfl
      have m2 := S.c 2 2 rfl rfl
      have m3 := S.c 2 3 rfl rfl
      have r0 := S.c 0 0 rfl rfl
      have r1 := S.c 0 1 rfl rfl
      have r2 := S.c 0 2 rfl rfl
      have r3 := S.c 0 3 rfl rfl
      have u0 := S.f 0 0 rfl rfl
      have u1 := S.f 0 1 rfl rfl
      have u2 := S.f 0 2 rfl rfl
      have u3 := S.f 0 3 rfl rfl
      have k0 := T9.c 0 0 rfl rfl
      have k1 := T9.c 0 1 rfl rfl
      have k2 := T9.c 0 2 rfl rfl
      have k3 := T9.c 0 3 rfl rfl
      clear hsame F9 hFW
      go_wp2_with fail
      exact bodyPost_ret (v := .tuple #[rfV R A R.ls.length c B R.its.length d, .bool true]) (by simp [results, Try.results13, go_sem, k0, k1, k2, k3]) rfl hf9.out
  obtain ⟨i, rfl⟩ := Int.eq_ofNat_of_zero_le (show 0 ≤ q by omega)
  have hi : i < 256 := by omega
  have e1 : decide ((i : Int) < 0) = false := by simp
  have e2 : decide ((255 : Int) < (i : Int)) = false := by simp; omega
  clear hq
  rcases hvb : vlB l with _ | _
  · have UP := Lib.hid (fup_bad w2 g i hi As l.length cs l hrl rfl (by omega) hll hvb)
    clear hrl hll
    go_wp2_with fail
    (with_reducible refine (UP.out).mono ?_)
    rintro e w3 ⟨rfl, hb⟩
    clear UP
    clear y0 y1 y2 y3 y4 y5
    clear x0 x1 x2 x3
    replace S := S.call hb
    have hFp := hF2.below hb
    have Zp := Z0.kq (Kq.of_below hb)
    clear hb S0 Z0
    have VL := Lib.hid (valid35_any w3 As l.length cs l (S.k.rd hs.out.rd) rfl (by omega) (fun x hx => S.k.la (hs.out.ok x hx)))
    rw [hvb] at VL
    have x0 := S.c 1 0 rfl rfl
    have x1 := S.c 1 1 rfl rfl
    have x2 := S.c 1 2 rfl rfl
    have x3 := S.c 1 3 rfl rfl
    go_wp2_with fail
    (with_reducible refine (VL.out).mono ?_)
    rintro e w4 ⟨rfl, hb⟩
    clear VL
    clear x0 x1 x2 x3
    replace S := S.call hb
    have hFW := hFp.below hb
    have Z := Zp.kq (Kq.of_below hb)
    clear hb
    have T9 := (S.keep [(w.heap.size + 2, [.int .i64 0, .int .i64 0, .slice none 0 0, .slice none 0 0])] (by simp)).set4 (.int .i64 R.iv) (.int .i64 R.now) (.slice A R.ls.length c) (.slice B R.its.length d) (by omega) (by simp)
    have F9 := flat4 hFW Z (by omega) R.iv R.now A R.ls.length c B R.its.length d
    have hf9 := Lib.hid (hsame.out _ T9.k T9.bel F9)
    have m0 := S.c 2 0 rfl rfl
    have m1 := S.c 2 1 rfl rfl
    have m2 := S.c 2 2 rfl rfl
    have m3 := S.c 2 3 rfl rfl
    have r0 := S.c 0 0 rfl rfl
    have r1 := S.c 0 1 rfl rfl
    have r2 := S.c 0 2 rfl rfl
    have r3 := S.c 0 3 rfl rfl
    have u0 := S.f 0 0 rfl rfl
    have u1 := S.f 0 1 rfl rfl
    have u2 := S.f 0 2 rfl rfl
    have u3 := S.f 0 3 rfl rfl
    have k0 := T9.c 0 0 rfl rfl
    have k1 := T9.c 0 1 rfl rfl
    have k2 := T9.c 0 2 rfl rfl
    have k3 := T9.c 0 3 rfl rfl
    clear hsame F9 hFW
    go_wp2_with fail
    exact bodyPost_ret (v := .tuple #[rfV R A R.ls.length c B R.its.length d, .bool true]) (by simp [results, Try.results13, go_sem, k0, k1, k2, k3]) rfl hf9.out
  · have hva := vlB_all hvb
    have UP := Lib.hid (fup_any w2 g b iv N f hF2 i hi As l.length cs l hrl rfl (by omega) (fun s hs => ⟨hll s hs, hva s hs⟩))
    clear hrl hll
    go_wp2_with fail
    (with_reducible refine (UP.out).mono ?_)
    rintro e w3 ⟨rfl, kf, hkf, hFp, hg⟩
    clear UP
    clear y0 y1 y2 y3 y4 y5
    clear x0 x1 x2 x3
    have hkq := Kq.of_map hF2.nb hg
    have hw2B := Nat.le_trans hB3 S.k.size
    replace S := S.turn hkq (gr_below hg hB1 (Nat.le_trans hB3 S.k.size))
    have Zp := Z0.kq hkq
    clear hkq hg hF2 S0 Z0
    have VL := Lib.hid (valid35_any w3 As l.length cs l (S.k.rd hs.out.rd) rfl (by omega) (fun x hx => S.k.la (hs.out.ok x hx)))
    rw [hvb] at VL
    have x0 := S.c 1 0 rfl rfl
    have x1 := S.c 1 1 rfl rfl
    have x2 := S.c 1 2 rfl rfl
    have x3 := S.c 1 3 rfl rfl
    go_wp2_with fail
    (with_reducible refine (VL.out).mono ?_)
    rintro e wv ⟨rfl, hb⟩
    clear VL
    clear x0 x1 x2 x3
    replace S := S.call hb
    replace hFp := hFp.below hb
    replace Zp := Zp.kq (Kq.of_below hb)
    clear hb
    have RO := Lib.hid (rup_any wv A c B d R (S.k.rd hA) (S.k.rd hB) (fun s hs => S.k.la (hx.out s hs)) As l.length cs l (S.k.rd hs.out.rd) rfl (fun x hx => S.k.la (hs.out.ok x hx)) (by omega) (by omega) (i : Int))
    have hgz : w.heap.size + 2 < wv.heap.size := (S.box 0 rfl).lt (by simp)
    have hwz : w.heap.size ≤ wv.heap.size := by omega
    have x0 := S.c 1 0 rfl rfl
    have x1 := S.c 1 1 rfl rfl
    have x2 := S.c 1 2 rfl rfl
    have x3 := S.c 1 3 rfl rfl
    have z0 := S.c 2 0 rfl rfl
    have z1 := S.c 2 1 rfl rfl
    have z2 := S.c 2 2 rfl rfl
    have z3 := S.c 2 3 rfl rfl
    go_wp2_with fail
    (with_reducible refine (RO.out).mono ?_)
    rintro e w5 ⟨A2, c2, B2, d2, rfl, t1, t2, hb⟩
    clear RO
    clear x0 x1 x2 x3
    clear z0 z1 z2 z3
    replace S := S.call hb
    have Z := Zp.kq (Kq.of_below hb)
    have hFW := hFp.below hb
    have hits : ItsOk w5 (upF R i l).its := upF_ok (fun s hs => S.k.la (hx.out s hs)) (fun x hx => S.k.la (hs.out.ok x hx))
    clear hb hFp Zp
    have T9 := (S.keep [(w.heap.size + 2, [.int .i64 0, .int .i64 0, .slice none 0 0, .slice none 0 0])] (by simp)).set4 (.int .i64 (upF R i l).iv) (.int .i64 (upF R i l).now) (.slice A2 (upF R i l).ls.length c2) (.slice B2 (upF R i l).its.length d2) (by omega) (by simp)
    have F9 := flat4 hFW Z (by omega) (upF R i l).iv (upF R i l).now A2 (upF R i l).ls.length c2 B2 (upF R i l).its.length d2
    have I9 := its4 hits Z (upF R i l).iv (upF R i l).now A2 (upF R i l).ls.length c2 B2 (upF R i l).its.length d2
    have L9 := t1.imp id fun h => own_mono (base := w.heap.size) (own_set4 h hgz (.int .i64 (upF R i l).iv) (.int .i64 (upF R i l).now) (.slice A2 (upF R i l).ls.length c2) (.slice B2 (upF R i l).its.length d2)) hwz
    have M9 := t2.imp id fun h => own_mono (base := w.heap.size) (own_set4 h hgz (.int .i64 (upF R i l).iv) (.int .i64 (upF R i l).now) (.slice A2 (upF R i l).ls.length c2) (.slice B2 (upF R i l).its.length d2)) hwz
    have hf9 := (show StPost B0 w g b iv A c B d R (.returned (.tuple #[rfV (upF R i l) A2 (upF R i l).ls.length c2 B2 (upF R i l).its.length d2, .bool true])) _ from ⟨setN N i (offs (fun _ => none) (laL l)), fun j => if j = i then kf else f j, A2, c2, B2, d2, upF R i l, rfl, F9, hok.out.set (DbG.offs (fun o hd h => by cases h) (fun x hx => by obtain ⟨s, hs, rfl⟩ := List.mem_map.1 hx; exact hva s hs)), hR.out.up hi hva, L9, M9, I9, (upF_ls l (upR R i) i).1, by rw [show (upF R i l).now = R.now from (upF_ls l (upR R i) i).2]; exact Int.le_refl _, by rw [show (upF R i l).now = R.now from (upF_ls l (upR R i) i).2]; omega, T9.k, T9.bel, hB2.out.up (Nat.le_trans hw2B hkf)⟩)
    rw [hQ.out] at hf9
    replace hf9 := Lib.hid hf9
    have r0 := S.c 0 0 rfl rfl
    have r1 := S.c 0 1 rfl rfl
    have r2 := S.c 0 2 rfl rfl
    have r3 := S.c 0 3 rfl rfl
    have u0 := S.f 0 0 rfl rfl
    have u1 := S.f 0 1 rfl rfl
    have u2 := S.f 0 2 rfl rfl
    have u3 := S.f 0 3 rfl rfl
    have k0 := T9.c 0 0 rfl rfl
    have k1 := T9.c 0 1 rfl rfl
    have k2 := T9.c 0 2 rfl rfl
    have k3 := T9.c 0 3 rfl rfl
    clear hsame F9 hFW I9 L9 M9 hits t1 t2 hA hB
    go_wp2_with fail
    exact bodyPost_ret (v := .tuple #[rfV (upF R i l) A2 (upF R i l).ls.length c2 B2 (upF R i l).its.length d2, .bool true]) (by simp [results, Try.results13, go_sem, k0, k1, k2, k3]) rfl hf9.out

end Go.Proofs.Ytgbcnglagnlmhaa

namespace Go.Proofs.Ytgbcnglagnlmhaa
set_option linter.unusedVariables false
open Go.RowKit Go.Maps Go.Sort

theorem akF_iv (R : RF) (q : Int) (a : La) : (akF R q a).iv = R.iv ∧ (akF R q a).now = R.now := by unfold akF; split <;> exact ⟨rfl, rfl⟩
theorem akF_ok {w : World} {R : RF} {q : Int} {a : La} (h : ItsOk w R.its) : ItsOk w (akF R q a).its := by
  unfold akF
  split
  · exact fun s hs => h s (List.mem_filter.1 hs).1
  · exact h

set_option maxRecDepth 100000 in
set_option maxHeartbeats 12800000 in
theorem step_ack (w : World) (g b : Nat) (iv : Int) (N : Fn) (f : Nat → Nat) (hF : FlAt w g b iv N f) (hok : FnOk N) (A : Option Addr) (c : Nat) (B : Option Addr) (d : Nat) (R : RF) (hA : Rd w A (R.ls.map encZ)) (hB : Rd w B (itV R.its)) (hx : ItsOk w R.its) (hR : Rel N R)
    (h0 : 0 ≤ R.now) (h1 : R.now ≤ 1000000000) (h2 : 1 ≤ R.iv) (h3 : R.iv ≤ 65536) (hiv : R.iv = iv) (B0 : Nat) (hB1 : B0 ≤ b) (hB2 : FB B0 N f) (hB3 : B0 ≤ w.heap.size) (q n : Int) (As : Option Addr) (cs : Nat) (l : List Lx) (hs : SqOk w ⟨4, q, n, As, cs, l⟩) (hfw : FewS ⟨4, q, n, As, cs, l⟩) :
    Calls Try.prog 13 #[.pointer (some ⟨g, 0, none⟩), rfV R A R.ls.length c B R.its.length d, .agg #[.int .i64 4, .int .i64 q, .int .i64 n, .slice As l.length cs]] w (StPost B0 w g b iv A c B d R) := by
  have S0 := ((((St.start w).new' #[.int .i64 R.iv, .int .i64 R.now, .slice A R.ls.length c, .slice B R.its.length d] 44 w.heap.size _ rfl rfl).new' #[.int .i64 4, .int .i64 q, .int .i64 n, .slice As l.length cs] 48 (w.heap.size + 1) _ (by simp) rfl).new' #[.int .i64 0, .int .i64 0, .slice none 0 0, .slice none 0 0] 44 (w.heap.size + 2) _ (by simp) rfl)
  have Z0 := FlBox.alloc ((w.alloc (.cells #[.int .i64 R.iv, .int .i64 R.now, .slice A R.ls.length c, .slice B R.its.length d] 44)).alloc (.cells #[.int .i64 4, .int .i64 q, .int .i64 n, .slice As l.length cs] 48)) 0 0 none 0 0 none 0 0 44
  rw [show ((w.alloc (.cells #[.int .i64 R.iv, .int .i64 R.now, .slice A R.ls.length c, .slice B R.its.length d] 44)).alloc (.cells #[.int .i64 4, .int .i64 q, .int .i64 n, .slice As l.length cs] 48)).heap.size = w.heap.size + 2 by simp] at Z0
  have hgl := hF.lt.1
  have F1 := fun W (hb : Below w.heap.size w W) => first_any W As l.length cs l (hs.rd.below hb) rfl
  have hfo := fsL_ok hs.ok
  have hlen := hR.len
  have hlsl := hR.lsl
  have hl8 := hfw.1
  have hn20 := hfw.2.1
  have hnb := bounds_i64 hs.wn
  simp only at hl8 hn20 hnb
  have hsame : Hid (∀ w', Kq w w' → Below B0 w w' → FlAt w' g b iv N f → StPost B0 w g b iv A c B d R (.returned (.tuple #[rfV R A R.ls.length c B R.its.length d, .bool true])) w') := fun w' hk hbl hf => ⟨N, f, A, c, B, d, R, rfl, hf, hok, hR, .inl ⟨rfl, rfl, rfl⟩, .inl ⟨rfl, rfl, rfl⟩, fun s hs => hk.la (hx s hs), rfl, by omega, by omega, hk, hbl, hB2⟩
  replace F1 := Lib.hid F1
  replace hfo := Lib.hid hfo
  replace hF := Lib.hid hF
  replace hok := Lib.hid hok
  replace hR := Lib.hid hR
  replace hs := Lib.hid hs
  replace hx := Lib.hid hx
  replace hiv := Lib.hid hiv
  replace hB2 := Lib.hid hB2
  obtain ⟨Q, hQ⟩ : ∃ Q, StPost B0 w g b iv A c B d R = Q := ⟨_, rfl⟩
  rw [hQ] at hsame ⊢
  replace hQ := Lib.hid hQ
  have x0 := S0.c 1 0 rfl rfl
  have x1 := S0.c 1 1 rfl rfl
  have x2 := S0.c 1 2 rfl rfl
  have x3 := S0.c 1 3 rfl rfl
  go_enter Try.func13, Try.ntmps13
  go_wp2_with fail
  (with_reducible refine (F1.out _ S0.b).mono ?_)
  rintro e w1 ⟨rfl, hb⟩
  clear x0 x1 x2 x3
  clear F1
  replace S0 := S0.call hb
  have hgaz : w.heap.size + 2 < w1.heap.size := (S0.box 0 rfl).lt (by simp)
  replace Z0 := Z0.kq (Kq.of_below hb)
  clear hb
  obtain ⟨a, ha⟩ : ∃ a, fsL l = a := ⟨_, rfl⟩
  rw [ha] at hfo ⊢
  replace ha := Lib.hid ha
  have hb := below_new' w1 (.cells #[.int .i64 a.y.o, .int .i64 a.y.s, .int .i64 a.y.a, .bool a.y.ov, .slice a.A a.y.adj.length a.c, .slice a.B a.y.pre.length a.d] 32)
  replace S0 := S0.new' #[.int .i64 a.y.o, .int .i64 a.y.s, .int .i64 a.y.a, .bool a.y.ov, .slice a.A a.y.adj.length a.c, .slice a.B a.y.pre.length a.d] 32 w1.heap.size _ rfl rfl
  replace Z0 := Z0.kq (Kq.of_below hb)
  clear hb
  go_upto_region 2 with fail
  generalize World.alloc w1 _ = w2 at *
  generalize hga : w1.heap.size = ga at *
  replace hga := Lib.hid hga
  have x0 := S0.c 2 0 rfl rfl
  have x1 := S0.c 2 1 rfl rfl
  have x2 := S0.c 2 2 rfl rfl
  have x3 := S0.c 2 3 rfl rfl
  have y0 := S0.c 0 0 rfl rfl
  have y1 := S0.c 0 1 rfl rfl
  have y2 := S0.c 0 2 rfl rfl
  have y3 := S0.c 0 3 rfl rfl
  have y4 := S0.c 0 4 rfl rfl
  have y5 := S0.c 0 5 rfl rfl
  have S : Sk B0 w _ [(w.heap.size + 2, [.int .i64 0, .int .i64 0, .slice none 0 0, .slice none 0 0]), (w.heap.size + 1, [.int .i64 4, .int .i64 q, .int .i64 n, .slice As l.length cs]), (w.heap.size, [.int .i64 R.iv, .int .i64 R.now, .slice A R.ls.length c, .slice B R.its.length d]), (ga, [.int .i64 a.y.o, .int .i64 a.y.s, .int .i64 a.y.a, .bool a.y.ov, .slice a.A a.y.adj.length a.c, .slice a.B a.y.pre.length a.d])] := (Sk.of S0 hB3).keep _ (by simp)
  have hF2 := hF.out.below S0.b
  have hla2 : LaAt w2 (lxA a) a.y := S.k.la hfo.out
  have hwa : (Lit.int .i64 a.y.o).wf = true := by rw [← ha.out]; exact fsL_wf hs.out.wo
  rcases hlk : lkO N q with _ | D
  · have OF := Lib.hid (fack_no w2 g b iv N f hF2 q hs.out.wq hlk _ a.y hla2)
    go_wp2_with fail
    (with_reducible refine (OF.out).mono ?_)
    rintro e w3 ⟨rfl, hb⟩
    clear OF
    clear x0 x1 x2 x3
    clear y0 y1 y2 y3 y4 y5
    replace S := S.call hb
    have hFp := hF2.below hb
    have Zp := Z0.kq (Kq.of_below hb)
    clear hb S0 Z0
    have his : isR R q = false := by rw [hR.out.is, hlk]; rfl
    have IS := Lib.hid (ris_any w3 _ R ⟨A, c, B, d, rfl, S.k.rd hA, S.k.rd hB, fun s hs => S.k.la (hx.out s hs)⟩ (by omega) q)
    rw [his] at IS
    clear his
    have x0 := S.c 1 0 rfl rfl
    have x1 := S.c 1 1 rfl rfl
    have x2 := S.c 1 2 rfl rfl
    have x3 := S.c 1 3 rfl rfl
    have z0 := S.c 2 0 rfl rfl
    have z1 := S.c 2 1 rfl rfl
    have z2 := S.c 2 2 rfl rfl
    have z3 := S.c 2 3 rfl rfl
    go_wp2_with fail
    (with_reducible refine (IS.out).mono ?_)
    rintro e wi ⟨rfl, hb⟩
    clear IS
    clear x0 x1 x2 x3
    clear z0 z1 z2 z3
    replace S := S.call hb
    have hFW := hFp.below hb
    have Z := Zp.kq (Kq.of_below hb)
    clear hb
    clear hlk hwa
    have T9 := (S.keep [(w.heap.size + 2, [.int .i64 0, .int .i64 0, .slice none 0 0, .slice none 0 0])] (by simp)).set4 (.int .i64 R.iv) (.int .i64 R.now) (.slice A R.ls.length c) (.slice B R.its.length d) (by omega) (by simp)
    have F9 := flat4 hFW Z (by omega) R.iv R.now A R.ls.length c B R.its.length d
    have hf9 := Lib.hid (hsame.out _ T9.k T9.bel F9)
    have m0 := S.c 2 0 rfl rfl
    have m1 := S.c 2 1 rfl rfl
    have m2 := S.c 2 2 rfl rfl
    have m3 := S.c 2 3 rfl rfl
    have r0 := S.c 0 0 rfl rfl
    have r1 := S.c 0 1 rfl rfl
    have r2 := S.c 0 2 rfl rfl
    have r3 := S.c 0 3 rfl rfl
    have u0 := S.f 0 0 rfl rfl
    have u1 := S.f 0 1 rfl rfl
    have u2 := S.f 0 2 rfl rfl
    have u3 := S.f 0 3 rfl rfl
    have k0 := T9.c 0 0 rfl rfl
    have k1 := T9.c 0 1 rfl rfl
    have k2 := T9.c 0 2 rfl rfl
    have k3 := T9.c 0 3 rfl rfl
    clear hsame F9 hFW
    go_wp2_with fail
    exact bodyPost_ret (v := .tuple #[rfV R A R.ls.length c B R.its.length d, .bool true]) (by simp [results, Try.results13, go_sem, k0, k1, k2, k3]) rfl hf9.out
  · obtain ⟨i, rfl, hi, hD⟩ := lkO_form hlk
    clear hlk
    have OF := Lib.hid (fack_any w2 g b iv N f hF2 i hi D hD _ a.y hla2 hwa)
    obtain ⟨M, hm, _⟩ := hF2.el i hi D hD
    clear hwa
    go_wp2_with fail
    (with_reducible refine (OF.out).mono ?_)
    rintro e w3 ⟨rfl, hFp, hg⟩
    clear OF
    clear x0 x1 x2 x3
    clear y0 y1 y2 y3 y4 y5
    have hkq := Kq.of_map hm hg
    replace S := S.turn hkq (gr_below hg (hB2.out i hi (by rw [hD]; rfl)) (Nat.le_trans hB3 S.k.size))
    have Zp := Z0.kq hkq
    clear hkq hm hg S0 Z0 hF2
    have his : isR R (i : Int) = true := by rw [hR.out.is, lkO_nat hi, hD]; rfl
    have IS := Lib.hid (ris_any w3 _ R ⟨A, c, B, d, rfl, S.k.rd hA, S.k.rd hB, fun s hs => S.k.la (hx.out s hs)⟩ (by omega) (i : Int))
    rw [his] at IS
    clear his
    have x0 := S.c 1 0 rfl rfl
    have x1 := S.c 1 1 rfl rfl
    have x2 := S.c 1 2 rfl rfl
    have x3 := S.c 1 3 rfl rfl
    have z0 := S.c 2 0 rfl rfl
    have z1 := S.c 2 1 rfl rfl
    have z2 := S.c 2 2 rfl rfl
    have z3 := S.c 2 3 rfl rfl
    go_wp2_with fail
    (with_reducible refine (IS.out).mono ?_)
    rintro e wi ⟨rfl, hb⟩
    clear IS
    clear x0 x1 x2 x3
    clear z0 z1 z2 z3
    replace S := S.call hb
    replace hFp := hFp.below hb
    replace Zp := Zp.kq (Kq.of_below hb)
    clear hb
    obtain ⟨eak, hrel⟩ := hR.out.ack hi hD a.y
    have RO := Lib.hid (rack_any wi A c B d R (S.k.rd hA) (S.k.rd hB) (fun s hs => S.k.la (hx.out s hs)) (by omega) (i : Int) a (S.k.la hfo.out))
    have hgz : w.heap.size + 2 < wi.heap.size := (S.box 0 rfl).lt (by simp)
    have hwz : w.heap.size ≤ wi.heap.size := by omega
    have x0 := S.c 1 0 rfl rfl
    have x1 := S.c 1 1 rfl rfl
    have x2 := S.c 1 2 rfl rfl
    have x3 := S.c 1 3 rfl rfl
    have z0 := S.c 2 0 rfl rfl
    have z1 := S.c 2 1 rfl rfl
    have z2 := S.c 2 2 rfl rfl
    have z3 := S.c 2 3 rfl rfl
    have y0 := S.c 3 0 rfl rfl
    have y1 := S.c 3 1 rfl rfl
    have y2 := S.c 3 2 rfl rfl
    have y3 := S.c 3 3 rfl rfl
    have y4 := S.c 3 4 rfl rfl
    have y5 := S.c 3 5 rfl rfl
    replace eak := Lib.hid eak
    replace hrel := Lib.hid hrel
    go_wp2_with fail
    (with_reducible refine (RO.out).mono ?_)
    rintro e w5 ⟨A2, c2, B2, d2, rfl, t1, t2, hb⟩
    clear RO
    clear x0 x1 x2 x3
    clear z0 z1 z2 z3
    clear y0 y1 y2 y3 y4 y5
    replace S := S.call hb
    replace Zp := Zp.kq (Kq.of_below hb)
    replace hFp := hFp.below hb
    have hits : ItsOk w5 (akF R i a.y).its := akF_ok (fun s hs => S.k.la (hx.out s hs))
    clear hb
    obtain ⟨R2, hR2⟩ : ∃ R2, akF R i a.y = R2 := ⟨_, rfl⟩
    rw [hR2] at t1 t2 hits ⊢
    obtain ⟨e3, e4⟩ := akF_iv R i a.y
    rw [hR2] at e3 e4
    replace hR2 := Lib.hid hR2
    replace e3 := Lib.hid e3
    replace e4 := Lib.hid e4
    have hb := below_new' w5 (.cells #[.int .i64 R2.iv, .int .i64 R2.now, .slice A2 R2.ls.length c2, .slice B2 R2.its.length d2] 44)
    have bxn := Box.new' w5 #[.int .i64 R2.iv, .int .i64 R2.now, .slice A2 R2.ls.length c2, .slice B2 R2.its.length d2] 44 w5.heap.size _ rfl rfl
    replace S := S.call hb
    have Z := Zp.kq (Kq.of_below hb)
    have hFW := hFp.below hb
    replace hits : ItsOk (w5.alloc (.cells #[.int .i64 R2.iv, .int .i64 R2.now, .slice A2 R2.ls.length c2, .slice B2 R2.its.length d2] 44)) R2.its := hits.below hb
    replace t1 : LsTo wi (w5.alloc (.cells #[.int .i64 R2.iv, .int .i64 R2.now, .slice A2 R2.ls.length c2, .slice B2 R2.its.length d2] 44)) A c R.ls A2 c2 R2.ls := t1.imp id fun h => own_below h hb
    replace t2 : ItTo wi (w5.alloc (.cells #[.int .i64 R2.iv, .int .i64 R2.now, .slice A2 R2.ls.length c2, .slice B2 R2.its.length d2] 44)) B d R.its B2 d2 R2.its := t2.imp id fun h => own_below h hb
    have n0 := bxn.c 0 rfl
    have n1 := bxn.c 1 rfl
    have n2 := bxn.c 2 rfl
    have n3 := bxn.c 3 rfl
    have hak : Hid (akB R i a.y = ackB D a.y) := eak
    clear hb hFp Zp bxn
    obtain ⟨b1, hb1⟩ : ∃ b1, akB R i a.y = b1 := ⟨_, rfl⟩
    rw [show ackB D a.y = b1 from hak.out.symm.trans hb1]
    rw [hb1]
    replace hb1 := Lib.hid hb1
    clear hak eak
    have T9 := (S.keep [(w.heap.size + 2, [.int .i64 0, .int .i64 0, .slice none 0 0, .slice none 0 0])] (by simp)).set4 (.int .i64 (R2).iv) (.int .i64 (R2).now) (.slice A2 (R2).ls.length c2) (.slice B2 (R2).its.length d2) (by omega) (by simp)
    have F9 := flat4 hFW Z (by omega) (R2).iv (R2).now A2 (R2).ls.length c2 B2 (R2).its.length d2
    have I9 := its4 hits Z (R2).iv (R2).now A2 (R2).ls.length c2 B2 (R2).its.length d2
    have L9 := t1.imp id fun h => own_mono (base := w.heap.size) (own_set4 h hgz (.int .i64 (R2).iv) (.int .i64 (R2).now) (.slice A2 (R2).ls.length c2) (.slice B2 (R2).its.length d2)) hwz
    have M9 := t2.imp id fun h => own_mono (base := w.heap.size) (own_set4 h hgz (.int .i64 (R2).iv) (.int .i64 (R2).now) (.slice A2 (R2).ls.length c2) (.slice B2 (R2).its.length d2)) hwz
    have hf9 := (show StPost B0 w g b iv A c B d R (.returned (.tuple #[rfV (R2) A2 (R2).ls.length c2 B2 (R2).its.length d2, .bool true])) _ from ⟨setN N i (ackD D a.y), f, A2, c2, B2, d2, R2, rfl, F9, hok.out.set ((hok.out.db hD).ack a.y), by have := hrel.out; rw [hR2.out] at this; exact this, L9, M9, I9, e3.out, by rw [e4.out]; exact Int.le_refl _, by rw [e4.out]; omega, T9.k, T9.bel, hB2.out.set hD⟩)
    rw [hQ.out] at hf9
    replace hf9 := Lib.hid hf9
    have r0 := S.c 0 0 rfl rfl
    have r1 := S.c 0 1 rfl rfl
    have r2 := S.c 0 2 rfl rfl
    have r3 := S.c 0 3 rfl rfl
    have u0 := S.f 0 0 rfl rfl
    have u1 := S.f 0 1 rfl rfl
    have u2 := S.f 0 2 rfl rfl
    have u3 := S.f 0 3 rfl rfl
    have k0 := T9.c 0 0 rfl rfl
    have k1 := T9.c 0 1 rfl rfl
    have k2 := T9.c 0 2 rfl rfl
    have k3 := T9.c 0 3 rfl rfl
    clear hsame F9 hFW I9 L9 M9 hits t1 t2 hA hB
    cases b1
    all_goals
      go_wp2_with fail
      exact bodyPost_ret (v := .tuple #[rfV (R2) A2 (R2).ls.length c2 B2 (R2).its.length d2, .bool true]) (by simp [results, Try.results13, go_sem, k0, k1, k2, k3]) rfl hf9.out

end Go.Proofs.Ytgbcnglagnlmhaa

namespace Go.Proofs.Ytgbcnglagnlmhaa
set_option linter.unusedVariables false
open Go.RowKit Go.Maps Go.Sort

theorem bare_at (w : World) (o s a : Int) (ov : Bool) : LaAt w (laV o s a ov none 0 0 none 0 0) ⟨o, s, a, ov, [], []⟩ := ⟨none, 0, none, 0, rfl, Rd.nil _ _, Rd.nil _ _, by simp, by simp [maxLen], by simp, by simp [maxLen], by simp⟩
theorem bare_valid (o s a : Int) (ov : Bool) (h0 : 0 ≤ o) (h1 : o ≤ 63) (h2 : 1 ≤ s) (h3 : s ≤ 1073741824) (h4 : 0 ≤ a) (h5 : a < 3600) : LaValid ⟨o, s, a, ov, [], []⟩ := by
  refine ⟨⟨h0, h1⟩, ⟨h2, h3⟩, ⟨h4, by simp only; omega⟩, by simp, by simp, fun h => by simp only at h; omega, fun k x hk => by simp at hk, fun k x hk => by simp at hk⟩
theorem sameB_refl' (x : La) : sameB x x = true := by simp [sameB, conB]

/-! ### Plain -/
def D1 (o : Nat) (h : Option Hd) : Db := fun p => if p = o then h else none
def N1 (i o : Nat) (h : Option Hd) : Fn := fun j => if j = i then some (D1 o h) else none
theorem sorted_single {l : List Int} {a : Int} (hs : l.Pairwise (· < ·)) (hm : ∀ x, x ∈ l ↔ x = a) : l = [a] := by
  match l, hs, hm with
  | [], _, hm => exact absurd ((hm a).2 rfl) (by simp)
  | [x], _, hm => rw [(hm x).1 (by simp)]
  | x :: y :: t, hs, hm =>
    have h1 := (hm x).1 (by simp)
    have h2 := (hm y).1 (by simp)
    have := (List.pairwise_cons.1 hs).1 y (by simp)
    omega
theorem lks_N1 {i o : Nat} {h : Option Hd} (hi : i < 256) : lks (N1 i o h) = [(i : Int)] := by
  refine sorted_single (lks_sorted _) fun x => ?_
  rw [lks_mem]
  unfold N1
  constructor
  · rintro ⟨⟨h0, h1⟩, hs⟩
    by_cases e : x.toNat = i
    · omega
    · rw [if_neg e] at hs; simp at hs
  · rintro rfl
    exact ⟨⟨by omega, by omega⟩, by rw [Int.toNat_natCast, if_pos rfl]; rfl⟩
theorem orgs_D1 {o : Nat} {h : Hd} (ho : o < 64) : orgs (D1 o (some h)) = [(o : Int)] := by
  refine sorted_single (orgs_sorted _) fun x => ?_
  rw [orgs_mem]
  unfold D1
  constructor
  · rintro ⟨⟨h0, h1⟩, hs⟩
    by_cases e : x.toNat = o
    · omega
    · rw [if_neg e] at hs; simp at hs
  · rintro rfl
    exact ⟨⟨by omega, by omega⟩, by rw [Int.toNat_natCast, if_pos rfl]; rfl⟩
theorem orgs_D1n {o : Nat} : orgs (D1 o none) = [] := by
  refine List.eq_nil_iff_forall_not_mem.2 fun x hx => ?_
  have := ((orgs_mem x).1 hx).2
  unfold D1 at this
  split at this <;> simp at this
theorem tik_N1 (n : Int) (i o : Nat) (h : Option Hd) : tikN n (N1 i o h) = N1 i o (h.map (tikH n)) := by
  funext j; unfold tikN N1
  split
  · simp only [Option.map_some, Option.some.injEq]; funext p; unfold tikD D1; split <;> rfl
  · rfl
theorem pol_N1 (iv : Int) (i o : Nat) (h : Option Hd) : polN iv (N1 i o h) = N1 i o (h.map (polH iv)) := by
  funext j; unfold polN N1
  split
  · simp only [Option.map_some, Option.some.injEq]; funext p; unfold polD D1; split <;> rfl
  · rfl
theorem snd_N1 {i o : Nat} {h : Hd} (hi : i < 256) (ho : o < 64) : sndK (N1 i o (some h)) (lks (N1 i o (some h))) = if 0 < h.l then [] else [((i : Int), h.x)] := by
  rw [lks_N1 hi]
  unfold sndK
  simp only [List.flatMap_cons, List.flatMap_nil, List.append_nil, Int.toNat_natCast]
  have e : N1 i o (some h) i = some (D1 o (some h)) := by unfold N1; rw [if_pos rfl]
  rw [e]
  simp only [orgs_D1 ho]
  unfold sndJ
  have e2 : due (D1 o (some h)) (o : Int) = if 0 < h.l then none else some h.x := by unfold due D1; rw [Int.toNat_natCast, if_pos rfl]
  rw [List.filterMap_cons, e2]
  by_cases hl : 0 < h.l
  · simp [hl]
  · simp [hl]
theorem snd_N1n {i o : Nat} (hi : i < 256) : sndK (N1 i o none) (lks (N1 i o none)) = [] := by
  rw [lks_N1 hi]
  unfold sndK
  simp only [List.flatMap_cons, List.flatMap_nil, List.append_nil, Int.toNat_natCast]
  have e : N1 i o none i = some (D1 o none) := by unfold N1; rw [if_pos rfl]
  rw [e]
  simp only [orgs_D1n]
  rfl
def HdOk (o : Nat) : Option Hd → Prop
  | none => True
  | some h => LaValid h.x ∧ h.x.o = (o : Int) ∧ 0 ≤ h.l ∧ h.l ≤ 65536
theorem ok_N1 {i o : Nat} {h : Option Hd} (hh : HdOk o h) : FnOk (N1 i o h) := by
  intro j D p x hN hD
  unfold N1 at hN
  split at hN
  · injection hN with hN; subst hN
    unfold D1 at hD
    split at hD
    · next e => subst e; subst hD; exact hh
    · cases hD
  · cases hN
theorem fs_N1 {i o : Nat} {h : Option Hd} {f : Nat → Nat} {k : Nat} (hk : FS (N1 i o h) f k) : k = f i := by
  obtain ⟨j, _, hs, rfl⟩ := hk
  unfold N1 at hs
  split at hs
  · next e => rw [e]
  · simp at hs
theorem grown_below {B k : Nat} {w w' : World} (hg : w.grownBy w' (some k)) (hk : B ≤ k) (hs : B ≤ w.heap.size) : Below B w w' :=
  (Below.refl B w).grown hg hs (fun j hj => by injection hj with hj; omega)

/-! ### In memory -/
structure One (B : Nat) (w : World) (g b : Nat) (iv : Int) (k i o : Nat) (h : Option Hd) : Prop where
  ex : ∃ f : Nat → Nat, f i = k ∧ FlAt w g b iv (N1 i o h) f
  bb : B ≤ b
  bk : B ≤ k
  bs : B ≤ w.heap.size
  ok : HdOk o h
section
variable {B : Nat} {w w' : World} {g b : Nat} {iv : Int} {k i o : Nat} {h : Option Hd}
theorem One.below (H : One B w g b iv k i o h) (hb : Below w.heap.size w w') : One B w' g b iv k i o h := by
  obtain ⟨f, e, F⟩ := H.ex
  exact ⟨⟨f, e, F.below hb⟩, H.bb, H.bk, Nat.le_trans H.bs hb.size, H.ok⟩
/-- A call on the flooder keeps what was read, and all below B. -/
structure Step1 (B : Nat) (w w' : World) : Prop where
  kq : Kq w w'
  bel : Below B w w'
def PollOne (B : Nat) (w : World) (g b : Nat) (iv : Int) (k i o : Nat) (h : Hd) (e : Ending) (w' : World) : Prop :=
  ∃ A c ls, e = .returned (.slice A (if 0 < h.l then 0 else 1) c) ∧ ls.length = (if 0 < h.l then 0 else 1) ∧ Rd w' A (sdV ls) ∧ sdP ls = (if 0 < h.l then [] else [((i : Int), h.x)]) ∧ One B w' g b iv k i o (some (polH iv h)) ∧ Step1 B w w'
theorem poll_one {h' : Hd} (H : One B w g b iv k i o (some h')) (hi : i < 256) (ho : o < 64) (hiv : 0 ≤ iv ∧ iv ≤ 65536) : Calls Try.prog 10 #[.pointer (some ⟨g, 0, none⟩)] w (PollOne B w g b iv k i o h') := by
  obtain ⟨f, e, F⟩ := H.ex
  refine (fpoll_any w g b iv _ f F (ok_N1 H.ok)).mono ?_
  rintro ee w' ⟨A, c, ls, rfl, hown, hp, hx, F', hk⟩
  rw [snd_N1 hi ho] at hp
  rw [pol_N1] at F'
  have hl : ls.length = (if 0 < h'.l then 0 else 1) := by
    have := congrArg List.length hp
    simp only [sdP, List.length_map] at this
    rw [this]; split <;> rfl
  refine ⟨A, c, ls, by rw [hl], hl, own_slice hown, hp, ⟨⟨f, e, F'⟩, H.bb, H.bk, Nat.le_trans H.bs hk.size, ?_⟩, hk.kq F.maps, hk.toBelow (fun j hj => by rw [fs_N1 hj, e]; exact H.bk) H.bs⟩
  obtain ⟨a1, a2, a3, a4⟩ := H.ok
  unfold polH
  refine ⟨by split <;> exact a1, by split <;> exact a2, by split <;> first | omega | (simp only; omega), by split <;> first | omega | (simp only; omega)⟩
theorem poll_none (H : One B w g b iv k i o none) (hi : i < 256) : Calls Try.prog 10 #[.pointer (some ⟨g, 0, none⟩)] w fun e w' => ∃ A c, e = .returned (.slice A 0 c) ∧ One B w' g b iv k i o none ∧ Step1 B w w' := by
  obtain ⟨f, e, F⟩ := H.ex
  refine (fpoll_any w g b iv _ f F (ok_N1 H.ok)).mono ?_
  rintro ee w' ⟨A, c, ls, rfl, hown, hp, hx, F', hk⟩
  rw [snd_N1n hi] at hp
  rw [pol_N1] at F'
  have hl : ls.length = 0 := by
    have := congrArg List.length hp
    simp only [sdP, List.length_map] at this
    exact this
  exact ⟨A, c, by rw [hl], ⟨⟨f, e, F'⟩, H.bb, H.bk, Nat.le_trans H.bs hk.size, trivial⟩, hk.kq F.maps, hk.toBelow (fun j hj => by rw [fs_N1 hj, e]; exact H.bk) H.bs⟩
theorem tick_one (H : One B w g b iv k i o h) (n : Int) (hn : 0 < n) : Calls Try.prog 9 #[.pointer (some ⟨g, 0, none⟩), .int .i64 n] w fun e w' => e = .returned (.tuple #[]) ∧ One B w' g b iv k i o (h.map (tikH n)) ∧ Step1 B w w' := by
  obtain ⟨f, e, F⟩ := H.ex
  refine (ftick_any w g b iv _ f F (ok_N1 H.ok) n hn).mono ?_
  rintro ee w' ⟨rfl, F', hk⟩
  rw [tik_N1] at F'
  refine ⟨rfl, ⟨⟨f, e, F'⟩, H.bb, H.bk, Nat.le_trans H.bs hk.size, ?_⟩, hk.kq F.maps, hk.toBelow (fun j hj => by rw [fs_N1 hj, e]; exact H.bk) H.bs⟩
  cases h with
  | none => trivial
  | some h =>
    obtain ⟨a1, a2, a3, a4⟩ := H.ok
    exact ⟨a1, a2, by simp only [tikH]; omega, by simp only [tikH]; omega⟩
theorem ack_one {h : Hd} (H : One B w g b iv k i o (some h)) (hi : i < 256) (ho : o < 64) (z : Int) (hz : z = (i : Int)) {v : Value} (hv : LaAt w v h.x) : Calls Try.prog 16 #[.pointer (some ⟨g, 0, none⟩), .int .i64 z, v] w fun e w' => e = .returned (.tuple #[.bool true, .int .i64 0]) ∧ One B w' g b iv k i o none ∧ Step1 B w w' := by
  subst hz
  obtain ⟨f, e, F⟩ := H.ex
  obtain ⟨a1, a2, a3, a4⟩ := H.ok
  have hNi : N1 i o (some h) i = some (D1 o (some h)) := by unfold N1; rw [if_pos rfl]
  have hd : dO (D1 o (some h)) h.x.o = some h := by unfold dO D1; rw [a2, if_pos ⟨by omega, by omega⟩, Int.toNat_natCast, if_pos rfl]
  have hB : ackB (D1 o (some h)) h.x = true := by unfold ackB; rw [hd]; exact sameB_refl' _
  refine (fack_any w g b iv _ f F i hi _ hNi v h.x hv (by rw [a2]; exact wf64 (by omega) (by omega))).mono ?_
  rintro ee w' ⟨rfl, F', hg⟩
  have e2 : setN (N1 i o (some h)) i (ackD (D1 o (some h)) h.x) = N1 i o none := by
    funext j
    unfold setN N1
    split
    · unfold ackD; rw [hB, if_pos rfl, a2, Int.toNat_natCast]
      congr 1; funext p; unfold D1; split <;> rfl
    · rfl
  rw [hB]
  rw [e2] at F'
  rw [e] at hg
  obtain ⟨M, hM, _⟩ := F.el i hi _ hNi
  rw [e] at hM
  exact ⟨rfl, ⟨⟨f, e, F'⟩, H.bb, H.bk, Nat.le_trans H.bs hg.size, trivial⟩, Kq.of_map hM hg, grown_below hg H.bk H.bs⟩
theorem links_one (H : One B w g b iv k i o h) (hi : i < 256) : Calls Try.prog 14 #[.pointer (some ⟨g, 0, none⟩)] w fun e w' => ∃ A c, e = .returned (.slice A 1 c) ∧ Below w.heap.size w w' := by
  obtain ⟨f, e, F⟩ := H.ex
  refine (flinks_any w g b iv _ f F).mono ?_
  rintro ee w' ⟨A, c, rfl, ho, hb⟩
  rw [lks_N1 hi]
  exact ⟨A, c, rfl, hb⟩
theorem pend_one {h : Hd} (H : One B w g b iv k i o (some h)) (hi : i < 256) (ho : o < 64) (z : Int) (hz : z = (i : Int)) : Calls Try.prog 11 #[.pointer (some ⟨g, 0, none⟩), .int .i64 z] w fun e w' => ∃ A c, e = .returned (.slice A 1 c) ∧ Below w.heap.size w w' := by
  subst hz
  obtain ⟨f, e, F⟩ := H.ex
  have hNi : N1 i o (some h) i = some (D1 o (some h)) := by unfold N1; rw [if_pos rfl]
  refine (fpend_any w g b iv _ f F (ok_N1 H.ok) i hi _ hNi).mono ?_
  rintro ee w' ⟨A, c, ls, rfl, _, _, _, hb⟩
  rw [orgs_D1 ho]
  exact ⟨A, c, rfl, hb⟩
/-- New, then Up with one advertisement without adjacencies and prefixes. -/
theorem up_one {B : Nat} {w1 : World} {iv : Int} {g b : Nat} (F : FlAt w1 g b iv (fun _ => none) (fun _ => 0)) (hbb : B ≤ b) (hB : B ≤ w1.heap.size) (i : Nat) (hi : i < 256) (z : Int) (hz : z = (i : Int)) (A : Option Addr) (c : Nat) (o : Nat) (zo : Int) (hzo : zo = (o : Int)) (s : Int) (ho : o < 64) (h1 : 1 ≤ s) (h2 : s ≤ 1073741824)
    (hA : Rd w1 A [.int .i64 zo, .int .i64 s, .int .i64 0, .bool false, .slice none 0 0, .slice none 0 0]) :
    Calls Try.prog 8 #[.pointer (some ⟨g, 0, none⟩), .int .i64 z, .slice A 1 c] w1 fun e w' => e = .returned (.int .i64 0) ∧ ∃ k, One B w' g b iv k i o (some ⟨⟨zo, s, 0, false, [], []⟩, 0⟩) ∧ Step1 B w1 w' := by
  subst hz
  have hv : LaValid ⟨zo, s, 0, false, [], []⟩ := bare_valid _ _ _ _ (by omega) (by omega) (by omega) (by omega) (by omega) (by omega)
  refine (fup_any w1 g b iv _ _ F i hi A 1 c [⟨⟨zo, s, 0, false, [], []⟩, none, 0, none, 0⟩] hA rfl (by omega) (fun x hx => ?_)).mono ?_
  · rw [List.mem_singleton.1 hx]
    exact ⟨bare_at _ _ _ _ _, hv⟩
  · rintro ee w' ⟨rfl, k, hk, F', hg⟩
    have e : setN (fun _ => none) i (offs (fun _ => none) (laL [⟨⟨zo, s, 0, false, [], []⟩, none, 0, none, 0⟩])) = N1 i o (some ⟨⟨zo, s, 0, false, [], []⟩, 0⟩) := by
      funext j
      unfold setN N1
      split
      · subst hzo; congr 1
      · rfl
    rw [e] at F'
    exact ⟨rfl, k, ⟨⟨_, by simp, F'⟩, hbb, by omega, Nat.le_trans hB hg.size, hv, hzo, by simp, by simp⟩, Kq.of_map F.nb hg, grown_below hg hbb hB⟩
end

end Go.Proofs.Ytgbcnglagnlmhaa

namespace Go.Proofs.Ytgbcnglagnlmhaa
set_option linter.unusedVariables false
open Go.RowKit Go.Maps Go.Sort

theorem Step1.trans {B : Nat} {w w' w'' : World} (h : Step1 B w w') (h2 : Step1 B w' w'') (hs : B ≤ w.heap.size) : Step1 B w w'' := ⟨h.kq.trans h2.kq, h.bel.trans h2.bel⟩
theorem sd_one {l : List Sd} {q : Int} {x : La} (h : sdP l = [(q, x)]) : ∃ A c B d, sdV l = [.int .i64 q, .int .i64 x.o, .int .i64 x.s, .int .i64 x.a, .bool x.ov, .slice A x.adj.length c, .slice B x.pre.length d] := by
  match l, h with
  | [s], h =>
    simp only [sdP, List.map_cons, List.map_nil, List.cons.injEq, Prod.mk.injEq, and_true] at h
    obtain ⟨rfl, rfl⟩ := h
    exact ⟨_, _, _, _, rfl⟩
theorem rd_cells {w : World} {b off : Nat} {xs : List Value} (h : Rd w (some ⟨b, off, none⟩) xs) (hn : 0 < xs.length) : ∀ (i : Nat) (u : Value), xs[i]? = some u → w.cell? ⟨b, off + i, none⟩ = some u := by
  obtain ⟨b', o', e, hz⟩ := rd_at h hn
  injection e with e
  injection e with e1 e2
  subst e1 e2
  exact hz
theorem poll_due {B : Nat} {w : World} {g b : Nat} {iv : Int} {k i o : Nat} {x : La} (H : One B w g b iv k i o (some ⟨x, 0⟩)) (hi : i < 256) (ho : o < 64) (hiv : 0 ≤ iv ∧ iv ≤ 65536) (z : Int) (hz : z = (i : Int)) : Calls Try.prog 10 #[.pointer (some ⟨g, 0, none⟩)] w fun e w' =>
    ∃ bb off c Aa ca Ba da, e = .returned (.slice (some ⟨bb, off, none⟩) 1 c) ∧ Rd w' (some ⟨bb, off, none⟩) [.int .i64 z, .int .i64 x.o, .int .i64 x.s, .int .i64 x.a, .bool x.ov, .slice Aa x.adj.length ca, .slice Ba x.pre.length da] ∧ One B w' g b iv k i o (some ⟨x, iv⟩) ∧ Step1 B w w' := by
  subst hz
  refine (poll_one H hi ho hiv).mono ?_
  rintro e w' ⟨A, c, ls, rfl, hl, hR, hp, O, T⟩
  rw [if_neg (by simp)] at hp
  obtain ⟨Aa, ca, Ba, da, e⟩ := sd_one hp
  rw [e] at hR
  obtain ⟨bb, off, rfl, _⟩ := rd_at hR (by simp)
  exact ⟨bb, off, c, Aa, ca, Ba, da, by simp, hR, O, T⟩
theorem poll_not {B : Nat} {w : World} {g b : Nat} {iv : Int} {k i o : Nat} {x : La} {l : Int} (H : One B w g b iv k i o (some ⟨x, l⟩)) (hl : 0 < l) (hi : i < 256) (ho : o < 64) (hiv : 0 ≤ iv ∧ iv ≤ 65536) : Calls Try.prog 10 #[.pointer (some ⟨g, 0, none⟩)] w fun e w' =>
    ∃ A c, e = .returned (.slice A 0 c) ∧ One B w' g b iv k i o (some ⟨x, l⟩) ∧ Step1 B w w' := by
  refine (poll_one H hi ho hiv).mono ?_
  rintro e w' ⟨A, c, ls, rfl, _, hR, hp, O, T⟩
  unfold polH at O
  rw [if_pos hl] at O
  exact ⟨A, c, by simp [hl], O, T⟩

set_option maxRecDepth 100000 in
set_option maxHeartbeats 6400000 in
theorem awake_any (w : World) : Calls Try.prog 6 #[] w fun e w' => e = .returned (.bool true) ∧ Below w.heap.size w w' := by
  go_enter Try.func6, Try.ntmps6
  go_wp2_with fail
  (with_reducible refine (fnew_any _ 5 (by omega) (by omega)).mono ?_)
  rintro e w1 ⟨rfl, F, B⟩
  have hb2 := below_new' w1 (.cells #[.int .i64 2, .int .i64 4, .int .i64 0, .bool false, .slice none 0 0, .slice none 0 0] 32)
  have X := Rd.lit w1 #[.int .i64 2, .int .i64 4, .int .i64 0, .bool false, .slice none 0 0, .slice none 0 0] 32
  replace F := F.below hb2
  replace B := B.trans (hb2.mono B.size)
  have U := up_one F (Nat.le_refl w.heap.size) B.size 3 (by omega) 3 rfl _ 1 2 2 rfl 4 (by omega) (by omega) (by omega) X
  replace U := Lib.hid U
  replace B := Lib.hid B
  clear F hb2 X
  go_wp2_with fail
  (with_reducible refine (U.out).mono ?_)
  rintro e w3 ⟨rfl, k, O3, T⟩
  clear U
  replace B := B.out.trans T.bel
  clear T
  have P := poll_due O3 (by omega) (by omega) (by omega) 3 rfl
  replace P := Lib.hid P
  clear O3
  replace B := Lib.hid B
  go_wp2_with fail
  (with_reducible refine (P.out).mono ?_)
  rintro e w4 ⟨b4, off4, c4, Aa, ca, Ba, da, rfl, R4, O4, T⟩
  clear P
  replace B := B.out.trans T.bel
  clear T
  have P := poll_not O4 (by omega) (by omega) (by omega) (by omega)
  replace P := Lib.hid P
  clear O4
  replace B := Lib.hid B
  replace R4 := Lib.hid R4
  go_wp2_with fail
  (with_reducible refine (P.out).mono ?_)
  rintro e w5 ⟨A5, c5, rfl, O5, T⟩
  clear P
  replace B := B.out.trans T.bel
  replace R4 := T.kq.rd R4.out
  clear T
  have P := tick_one O5 5 (by omega)
  replace P := Lib.hid P
  clear O5
  replace B := Lib.hid B
  replace R4 := Lib.hid R4
  go_wp2_with fail
  (with_reducible refine (P.out).mono ?_)
  rintro e w6 ⟨rfl, O6, T⟩
  clear P
  replace B := B.out.trans T.bel
  replace R4 := T.kq.rd R4.out
  clear T
  have P := poll_due O6 (by omega) (by omega) (by omega) 3 rfl
  replace P := Lib.hid P
  clear O6
  replace B := Lib.hid B
  replace R4 := Lib.hid R4
  go_wp2_with fail
  (with_reducible refine (P.out).mono ?_)
  rintro e w7 ⟨b7, off7, c7, Ab, cb, Bb, db, rfl, R7, O7, T⟩
  clear P R7
  replace B := B.out.trans T.bel
  replace R4 := T.kq.rd R4.out
  clear T
  have P := ack_one O7 (by omega) (by omega) 3 rfl (bare_at _ 2 4 0 false)
  replace P := Lib.hid P
  clear O7
  replace B := Lib.hid B
  replace R4 := Lib.hid R4
  go_wp2_with fail
  (with_reducible refine (P.out).mono ?_)
  rintro e w8 ⟨rfl, O8, T⟩
  clear P
  replace B := B.out.trans T.bel
  replace R4 := T.kq.rd R4.out
  clear T
  have P := tick_one O8 5 (by omega)
  replace P := Lib.hid P
  clear O8
  replace B := Lib.hid B
  replace R4 := Lib.hid R4
  go_wp2_with fail
  (with_reducible refine (P.out).mono ?_)
  rintro e w9 ⟨rfl, O9, T⟩
  clear P
  replace B := B.out.trans T.bel
  replace R4 := T.kq.rd R4.out
  clear T
  have P := poll_none O9 (by omega)
  replace P := Lib.hid P
  clear O9
  replace B := Lib.hid B
  have a0 := rd_cells R4 (by simp) 0 _ rfl
  have a1 := rd_cells R4 (by simp) 1 _ rfl
  have a2 := rd_cells R4 (by simp) 2 _ rfl
  simp only [Nat.add_zero] at a0
  have a3 : w9.cell? ⟨b4, off4 + 1 + 1, none⟩ = some (.int .i64 4) := a2
  clear R4
  go_wp2_with fail
  (with_reducible refine (P.out).mono ?_)
  rintro e w10 ⟨A10, c10, rfl, O10, T⟩
  clear P a0 a1 a2 a3
  replace B := B.out.trans T.bel
  clear T
  have P := links_one O10 (by omega)
  replace P := Lib.hid P
  clear O10
  replace B := Lib.hid B
  go_wp2_with fail
  (with_reducible refine (P.out).mono ?_)
  rintro e w11 ⟨A11, c11, rfl, hb⟩
  clear P
  go_wp2_with fail
  go_wp2_with fail
  go_ret
  exact ⟨rfl, B.out.trans (hb.mono B.out.size)⟩

end Go.Proofs.Ytgbcnglagnlmhaa

namespace Go.Proofs.Ytgbcnglagnlmhaa
set_option linter.unusedVariables false
open Go.RowKit Go.Maps Go.Sort

set_option maxHeartbeats 800000 in
theorem ftick_le (w : World) (p : Option Addr) (n : Int) (h0 : n ≤ 0) : Calls Try.prog 9 #[.pointer p, .int .i64 n] w fun e w' => e = .returned (.tuple #[]) ∧ w = w' := by
  go_enter Try.func9, Try.ntmps9
  go_wp2_with fail
  exact bodyPost_ret (v := .tuple #[]) (by simp [results, Try.results9, go_sem]) rfl ⟨rfl, rfl⟩
theorem tick_le1 {B : Nat} {w : World} {g b : Nat} {iv : Int} {k i o : Nat} {x : La} {l : Int} (H : One B w g b iv k i o (some ⟨x, l⟩)) (n : Int) (hn : 0 ≤ n) : Calls Try.prog 9 #[.pointer (some ⟨g, 0, none⟩), .int .i64 n] w fun e w' => e = .returned (.tuple #[]) ∧ One B w' g b iv k i o (some ⟨x, l - min n l⟩) ∧ Below B w w' := by
  by_cases h0 : n ≤ 0
  · refine (ftick_le w _ n h0).mono ?_
    rintro e w' ⟨rfl, rfl⟩
    obtain ⟨a1, a2, a3, a4⟩ := H.ok
    have e : l - min n l = l := by simp only at a3; omega
    rw [e]
    exact ⟨rfl, H, Below.refl _ _⟩
  · refine (tick_one H n (by omega)).mono ?_
    rintro e w' ⟨rfl, O, T⟩
    exact ⟨rfl, O, T.bel⟩

set_option maxRecDepth 100000 in
set_option maxHeartbeats 6400000 in
theorem repeats_law (w : World) (z : Int) (hz : (Lit.int .u8 z).wf = true) (A : Option Addr) (n c : Nat) (bs : List UInt8) (hA : Bs w A bs) (hn : bs.length = n) (hm : n ≤ maxLen) :
    Calls Try.prog 3 #[.int .u8 z, .slice A n c] w fun e w' => e = .returned (.bool true) ∧ Below w.heap.size w w' := by
  have ⟨hn0, hn1⟩ := bounds_u8 hz
  clear hz
  unfold maxLen at hm
  replace hA := Lib.hid hA
  replace hn := Lib.hid hn
  go_enter Try.func3, Try.ntmps3
  go_wp2_with fail
  (with_reducible refine (awake_any _).mono ?_)
  rintro e w1 ⟨rfl, B1⟩
  by_cases h40 : 40 < n
  · have h40b : decide ((40 : Int) < (n : Int)) = true := by simp; omega
    go_wp2_with fail
    go_ret
    exact ⟨rfl, B1⟩
  have h40b : decide ((40 : Int) < (n : Int)) = false := by simp; omega
  obtain ⟨q, hq⟩ : ∃ q, 1 + z % 10 = q := ⟨_, rfl⟩
  have hq0 : 1 ≤ q := by omega
  have hq1 : q ≤ 10 := by omega
  have N := fnew_any w1 q (by omega) (by omega)
  replace N := Lib.hid N
  have hs1 := B1.size
  go_wp2_with fail
  clear hq h40b hn0 hn1
  (with_reducible refine (N.out).mono ?_)
  rintro e w2 ⟨rfl, F, hb⟩
  clear N
  replace B1 := B1.trans (hb.mono hs1)
  clear hb
  generalize w1.heap.size = b at *
  generalize hg : b + 1 = g at *
  clear hg
  have hb2 := below_new' w2 (.cells #[.int .i64 1, .int .i64 1, .int .i64 0, .bool false, .slice none 0 0, .slice none 0 0] 32)
  have X := Rd.lit w2 #[.int .i64 1, .int .i64 1, .int .i64 0, .bool false, .slice none 0 0, .slice none 0 0] 32
  replace F := F.below hb2
  replace B1 := B1.trans (hb2.mono B1.size)
  have U := up_one F hs1 B1.size 7 (by omega) 7 rfl _ 1 1 1 rfl 1 (by omega) (by omega) (by omega) X
  replace U := Lib.hid U
  replace B1 := Lib.hid B1
  clear F hb2 X
  go_wp2_with fail
  (with_reducible refine (U.out).mono ?_)
  rintro e w3 ⟨rfl, kb, O, T⟩
  clear U
  replace B1 := B1.out.trans T.bel
  clear T
  replace B1 := Lib.hid B1
  replace O := Lib.hid O
  go_wp2_with fail
  go_loopw [8, 9] (fun v8 v9 wr => ∃ (k : Nat) (s l : Int), v9 = .int .i64 k ∧ v8 = .int .i64 s ∧ k ≤ n ∧ 0 ≤ s ∧ s ≤ 10 + 12 * k ∧ l = max 0 (q - s) ∧ Hid (One w.heap.size wr g b q kb 7 1 (some ⟨⟨1, 1, 0, false, [], []⟩, l⟩)) ∧ Hid (Below w.heap.size w wr)) (fun _ v9 _ => n - (intOf v9).toNat)
  case atStart => exact ⟨0, q, 0, rfl, rfl, by omega, by omega, by omega, by omega, O, B1⟩
  case round =>
    clear B1 O
    obtain ⟨k, s, l, rfl, rfl, hk, hs0, hs1', hl, O, B1⟩ := hrel
    by_cases hkn : k < n
    · have hkl : k < bs.length := by rw [hn.out]; exact hkn
      obtain ⟨ba, off, rfl, hc⟩ := rd_at (Rd.below hA.out B1.out) (by simp only [List.length_map]; omega)
      have x0 := hc k _ (by rw [List.getElem?_map, List.getElem?_eq_getElem hkl]; rfl)
      obtain ⟨t, ht⟩ : ∃ t : Nat, (bs[k]).toNat = t := ⟨_, rfl⟩
      have ht1 : t < 256 := by rw [← ht]; exact UInt8.toNat_lt _
      unfold u8v at x0
      rw [ht] at x0
      have hd0 : 0 ≤ (t : Int) % 12 := by omega
      have hd1 : (t : Int) % 12 < 12 := by omega
      clear hc ht
      have T := tick_le1 O.out ((t : Int) % 12) hd0
      replace T := Lib.hid T
      clear O
      replace hl := Lib.hid hl
      go_wp2_with fail
      clear x0
      (with_reducible refine (T.out).mono ?_)
      rintro e w4 ⟨rfl, O, hb⟩
      generalize (t : Int) % 12 = d at *
      clear T
      replace B1 := B1.out.trans hb
      clear hb
      replace B1 := Lib.hid B1
      have e1 : Hid (l - min d l = max 0 (q - (s + d))) := by show _ = _; have := hl.out; omega
      generalize l - min d l = l2 at *
      generalize hsd : s + d = s2 at *
      by_cases hz : l2 = 0
      · subst hz
        have hge : decide (q ≤ s2) = true := by have := e1.out; simp; omega
        have P := poll_due O (by omega) (by omega) (by omega) 7 rfl
        replace P := Lib.hid P
        clear O
        go_wp2_with fail
        (with_reducible refine (P.out).mono ?_)
        rintro e w5 ⟨b5, off5, c5, Aa, ca, Ba, da, rfl, R5, O5, T⟩
        clear P R5
        replace B1 := Lib.hid (B1.out.trans T.bel)
        replace O5 := Lib.hid O5
        clear T
        go_wp2_with fail
        go_round
        case rel => exact ⟨k + 1, 0, q, by go_num, rfl, by omega, by omega, by omega, by omega, O5, B1⟩
        case measure => simp [intOf]; omega
      · have hge : decide (q ≤ s2) = false := by have := e1.out; simp; omega
        have P := poll_not O (by have := e1.out; omega) (by omega) (by omega) (by omega)
        replace P := Lib.hid P
        clear O
        go_wp2_with fail
        (with_reducible refine (P.out).mono ?_)
        rintro e w5 ⟨A5, c5, rfl, O5, T⟩
        clear P
        replace B1 := Lib.hid (B1.out.trans T.bel)
        replace O5 := Lib.hid O5
        clear T
        go_wp2_with fail
        go_round
        case rel => exact ⟨k + 1, s2, l2, by go_num, rfl, by omega, by omega, by omega, e1.out, O5, B1⟩
        case measure => simp [intOf]; omega
    · obtain rfl : k = n := by omega
      have P := pend_one O.out (by omega) (by omega) 7 rfl
      replace P := Lib.hid P
      clear O hl
      go_wp2_with fail
      (with_reducible refine (P.out).mono ?_)
      rintro e w5 ⟨A5, c5, rfl, hb⟩
      clear P
      have B2 := B1.out.trans (hb.mono B1.out.size)
      go_wp2_with fail
      go_ret
      exact ⟨rfl, B2⟩

end Go.Proofs.Ytgbcnglagnlmhaa

namespace Go.Proofs.Ytgbcnglagnlmhaa
set_option linter.unusedVariables false
open Go.RowKit Go.Maps Go.Sort

theorem FlBox.far {w : World} {k k2 j : Nat} {u : Value} (h : FlBox w k) (hne : k ≠ k2) : FlBox (w.setCell ⟨k2, j, none⟩ u) k := by
  obtain ⟨a, b, A, n, c, B, m, d, T, fr, hb⟩ := h
  exact ⟨a, b, A, n, c, B, m, d, T, fr, by rw [heap_setCell_other w ⟨k2, j, none⟩ k u (by simpa using hne)]; exact hb⟩

set_option maxRecDepth 100000 in
set_option maxHeartbeats 12800000 in
theorem step_tick (w : World) (g b : Nat) (iv : Int) (N : Fn) (f : Nat → Nat) (hF : FlAt w g b iv N f) (hok : FnOk N) (A : Option Addr) (c : Nat) (B : Option Addr) (d : Nat) (R : RF) (hA : Rd w A (R.ls.map encZ)) (hB : Rd w B (itV R.its)) (hx : ItsOk w R.its) (hR : Rel N R)
    (h0 : 0 ≤ R.now) (h1 : R.now ≤ 1000000000) (h2 : 1 ≤ R.iv) (h3 : R.iv ≤ 65536) (hiv : R.iv = iv) (B0 : Nat) (hB1 : B0 ≤ b) (hB2 : FB B0 N f) (hB3 : B0 ≤ w.heap.size) (q n : Int) (As : Option Addr) (cs : Nat) (l : List Lx) (hs : SqOk w ⟨5, q, n, As, cs, l⟩) (hfw : FewS ⟨5, q, n, As, cs, l⟩) :
    Calls Try.prog 13 #[.pointer (some ⟨g, 0, none⟩), rfV R A R.ls.length c B R.its.length d, .agg #[.int .i64 5, .int .i64 q, .int .i64 n, .slice As l.length cs]] w (StPost B0 w g b iv A c B d R) := by
  have S0 := ((((St.start w).new' #[.int .i64 R.iv, .int .i64 R.now, .slice A R.ls.length c, .slice B R.its.length d] 44 w.heap.size _ rfl rfl).new' #[.int .i64 5, .int .i64 q, .int .i64 n, .slice As l.length cs] 48 (w.heap.size + 1) _ (by simp) rfl).new' #[.int .i64 0, .int .i64 0, .slice none 0 0, .slice none 0 0] 44 (w.heap.size + 2) _ (by simp) rfl)
  have Z0 := FlBox.alloc ((w.alloc (.cells #[.int .i64 R.iv, .int .i64 R.now, .slice A R.ls.length c, .slice B R.its.length d] 44)).alloc (.cells #[.int .i64 5, .int .i64 q, .int .i64 n, .slice As l.length cs] 48)) 0 0 none 0 0 none 0 0 44
  rw [show ((w.alloc (.cells #[.int .i64 R.iv, .int .i64 R.now, .slice A R.ls.length c, .slice B R.its.length d] 44)).alloc (.cells #[.int .i64 5, .int .i64 q, .int .i64 n, .slice As l.length cs] 48)).heap.size = w.heap.size + 2 by simp] at Z0
  have Z1 := ((FlBox.alloc w R.iv R.now A R.ls.length c B R.its.length d 44).kq (Kq.of_below (below_new' _ (.cells #[.int .i64 5, .int .i64 q, .int .i64 n, .slice As l.length cs] 48)))).kq (Kq.of_below (below_new' (World.alloc (w.alloc (.cells #[.int .i64 R.iv, .int .i64 R.now, .slice A R.ls.length c, .slice B R.its.length d] 44)) (.cells #[.int .i64 5, .int .i64 q, .int .i64 n, .slice As l.length cs] 48)) (.cells #[.int .i64 0, .int .i64 0, .slice none 0 0, .slice none 0 0] 44)))
  have hgl := hF.lt.1
  have F1 := fun W (hb : Below w.heap.size w W) => first_any W As l.length cs l (hs.rd.below hb) rfl
  have hfo := fsL_ok hs.ok
  have hlen := hR.len
  have hlsl := hR.lsl
  have hl8 := hfw.1
  have hn20 := hfw.2.1
  have hnb := bounds_i64 hs.wn
  simp only at hl8 hn20 hnb
  have hsame : Hid (∀ w', Kq w w' → Below B0 w w' → FlAt w' g b iv N f → StPost B0 w g b iv A c B d R (.returned (.tuple #[rfV R A R.ls.length c B R.its.length d, .bool true])) w') := fun w' hk hbl hf => ⟨N, f, A, c, B, d, R, rfl, hf, hok, hR, .inl ⟨rfl, rfl, rfl⟩, .inl ⟨rfl, rfl, rfl⟩, fun s hs => hk.la (hx s hs), rfl, by omega, by omega, hk, hbl, hB2⟩
  replace F1 := Lib.hid F1
  replace hfo := Lib.hid hfo
  replace hF := Lib.hid hF
  replace hok := Lib.hid hok
  replace hR := Lib.hid hR
  replace hs := Lib.hid hs
  replace hx := Lib.hid hx
  replace hiv := Lib.hid hiv
  replace hB2 := Lib.hid hB2
  obtain ⟨Q, hQ⟩ : ∃ Q, StPost B0 w g b iv A c B d R = Q := ⟨_, rfl⟩
  rw [hQ] at hsame ⊢
  replace hQ := Lib.hid hQ
  have x0 := S0.c 1 0 rfl rfl
  have x1 := S0.c 1 1 rfl rfl
  have x2 := S0.c 1 2 rfl rfl
  have x3 := S0.c 1 3 rfl rfl
  go_enter Try.func13, Try.ntmps13
  go_wp2_with fail
  (with_reducible refine (F1.out _ S0.b).mono ?_)
  rintro e w1 ⟨rfl, hb⟩
  clear x0 x1 x2 x3
  clear F1
  replace S0 := S0.call hb
  have hgaz : w.heap.size + 2 < w1.heap.size := (S0.box 0 rfl).lt (by simp)
  replace Z0 := Z0.kq (Kq.of_below hb)
  replace Z1 := Z1.kq (Kq.of_below hb)
  clear hb
  obtain ⟨a, ha⟩ : ∃ a, fsL l = a := ⟨_, rfl⟩
  rw [ha] at hfo ⊢
  replace ha := Lib.hid ha
  have hb := below_new' w1 (.cells #[.int .i64 a.y.o, .int .i64 a.y.s, .int .i64 a.y.a, .bool a.y.ov, .slice a.A a.y.adj.length a.c, .slice a.B a.y.pre.length a.d] 32)
  replace S0 := S0.new' #[.int .i64 a.y.o, .int .i64 a.y.s, .int .i64 a.y.a, .bool a.y.ov, .slice a.A a.y.adj.length a.c, .slice a.B a.y.pre.length a.d] 32 w1.heap.size _ rfl rfl
  replace Z0 := Z0.kq (Kq.of_below hb)
  replace Z1 := Z1.kq (Kq.of_below hb)
  clear hb
  go_upto_region 2 with fail
  generalize World.alloc w1 _ = w2 at *
  generalize hga : w1.heap.size = ga at *
  replace hga := Lib.hid hga
  have x0 := S0.c 2 0 rfl rfl
  have x1 := S0.c 2 1 rfl rfl
  have x2 := S0.c 2 2 rfl rfl
  have x3 := S0.c 2 3 rfl rfl
  have y0 := S0.c 0 0 rfl rfl
  have y1 := S0.c 0 1 rfl rfl
  have y2 := S0.c 0 2 rfl rfl
  have y3 := S0.c 0 3 rfl rfl
  have y4 := S0.c 0 4 rfl rfl
  have y5 := S0.c 0 5 rfl rfl
  have S : Sk B0 w _ [(w.heap.size + 2, [.int .i64 0, .int .i64 0, .slice none 0 0, .slice none 0 0]), (w.heap.size + 1, [.int .i64 5, .int .i64 q, .int .i64 n, .slice As l.length cs]), (w.heap.size, [.int .i64 R.iv, .int .i64 R.now, .slice A R.ls.length c, .slice B R.its.length d]), (ga, [.int .i64 a.y.o, .int .i64 a.y.s, .int .i64 a.y.a, .bool a.y.ov, .slice a.A a.y.adj.length a.c, .slice a.B a.y.pre.length a.d])] := (Sk.of S0 hB3).keep _ (by simp)
  have hF2 := hF.out.below S0.b
  by_cases hn0 : n ≤ 0
  · have TK := Lib.hid (ftick_le w2 (some ⟨g, 0, none⟩) n hn0)
    have hmx : max 0 n = 0 := by omega
    go_wp2_with fail
    (with_reducible refine (TK.out).mono ?_)
    rintro e w3 ⟨rfl, rfl⟩
    clear TK
    clear x0 x1 x2 x3
    clear y0 y1 y2 y3 y4 y5
    have hFp := hF2
    have Zp := Z0
    clear S0 Z0 hF2
    replace S := S.keep [(w.heap.size, [.int .i64 R.iv, .int .i64 R.now, .slice A R.ls.length c, .slice B R.its.length d]), (w.heap.size + 2, [.int .i64 0, .int .i64 0, .slice none 0 0, .slice none 0 0]), (w.heap.size + 1, [.int .i64 5, .int .i64 q, .int .i64 n, .slice As l.length cs])] (by simp)
    have z0 := S.c 0 0 rfl rfl
    have z1 := S.c 0 1 rfl rfl
    have z2 := S.c 0 2 rfl rfl
    have z3 := S.c 0 3 rfl rfl
    have v0 := S.f 0 0 rfl rfl
    have v1 := S.f 0 1 rfl rfl
    have v2 := S.f 0 2 rfl rfl
    have v3 := S.f 0 3 rfl rfl
    have x0 := S.c 2 0 rfl rfl
    have x1 := S.c 2 1 rfl rfl
    have x2 := S.c 2 2 rfl rfl
    have x3 := S.c 2 3 rfl rfl
    have S5 := S.set 0 1 (.int .i64 R.now) rfl (by simp) (by omega) (by simp) _ rfl
    have hF5 := hFp.setF Z1 (by omega) 1 (.int .i64 R.now)
    have hi5 : ItsOk (w2.setCell ⟨w.heap.size, 1, none⟩ (.int .i64 R.now)) R.its := fun s hs => by
      have h0 : LaAt w2 (lxA s.x) s.x.y := S.k.la (hx.out s hs)
      exact h0.setF Z1 1 _
    have Z5 : FlBox (w2.setCell ⟨w.heap.size, 1, none⟩ (.int .i64 R.now)) (w.heap.size + 2) := Zp.far (by omega)
    have T9 := (S5.keep [(w.heap.size + 2, [.int .i64 0, .int .i64 0, .slice none 0 0, .slice none 0 0])] (by simp)).set4 (.int .i64 R.iv) (.int .i64 R.now) (.slice A R.ls.length c) (.slice B R.its.length d) (by omega) (by simp)
    have F9 := flat4 hF5 Z5 (by omega) R.iv R.now A R.ls.length c B R.its.length d
    have I9 := its4 hi5 Z5 R.iv R.now A R.ls.length c B R.its.length d
    have hf9 := (show StPost B0 w g b iv A c B d R (.returned (.tuple #[rfV ⟨R.iv, R.now, R.ls, R.its⟩ A R.ls.length c B R.its.length d, .bool true])) _ from ⟨N, f, A, c, B, d, ⟨R.iv, R.now, R.ls, R.its⟩, rfl, F9, hok.out, hR.out, .inl ⟨rfl, rfl, rfl⟩, .inl ⟨rfl, rfl, rfl⟩, I9, rfl, by simp only; omega, by simp only; omega, T9.k, T9.bel, hB2.out⟩)
    rw [hQ.out] at hf9
    replace hf9 := Lib.hid hf9
    have e0 := S5.c 0 0 rfl rfl
    have e1 := S5.c 0 1 rfl rfl
    have e2 := S5.c 0 2 rfl rfl
    have e3 := S5.c 0 3 rfl rfl
    have r0 := S5.c 1 0 rfl rfl
    have r1 := S5.c 1 1 rfl rfl
    have r2 := S5.c 1 2 rfl rfl
    have r3 := S5.c 1 3 rfl rfl
    have u0 := S5.f 1 0 rfl rfl
    have u1 := S5.f 1 1 rfl rfl
    have u2 := S5.f 1 2 rfl rfl
    have u3 := S5.f 1 3 rfl rfl
    have k0 := T9.c 0 0 rfl rfl
    have k1 := T9.c 0 1 rfl rfl
    have k2 := T9.c 0 2 rfl rfl
    have k3 := T9.c 0 3 rfl rfl
    clear hsame F9 I9 hF5 hi5
    go_wp2_with fail
    exact bodyPost_ret (v := .tuple #[rfV ⟨R.iv, R.now, R.ls, R.its⟩ A R.ls.length c B R.its.length d, .bool true]) (by simp [results, Try.results13, go_sem, k0, k1, k2, k3]) rfl hf9.out
  · have hn1 : 0 < n := by omega
    have TK := Lib.hid (ftick_any w2 g b iv N f hF2 hok.out n hn1)
    have hmx : max 0 n = n := by omega
    go_wp2_with fail
    (with_reducible refine (TK.out).mono ?_)
    rintro e w3 ⟨rfl, hFp, hkf⟩
    clear TK
    clear x0 x1 x2 x3
    clear y0 y1 y2 y3 y4 y5
    have hkq := hkf.kq hF2.maps
    replace S := S.turn hkq (hB2.out.kf hkf (Nat.le_trans hB3 S.k.size))
    have Zp := Z0.kq hkq
    replace Z1 := Z1.kq hkq
    clear hkq hkf S0 Z0 hF2
    replace S := S.keep [(w.heap.size, [.int .i64 R.iv, .int .i64 R.now, .slice A R.ls.length c, .slice B R.its.length d]), (w.heap.size + 2, [.int .i64 0, .int .i64 0, .slice none 0 0, .slice none 0 0]), (w.heap.size + 1, [.int .i64 5, .int .i64 q, .int .i64 n, .slice As l.length cs])] (by simp)
    have z0 := S.c 0 0 rfl rfl
    have z1 := S.c 0 1 rfl rfl
    have z2 := S.c 0 2 rfl rfl
    have z3 := S.c 0 3 rfl rfl
    have v0 := S.f 0 0 rfl rfl
    have v1 := S.f 0 1 rfl rfl
    have v2 := S.f 0 2 rfl rfl
    have v3 := S.f 0 3 rfl rfl
    have x0 := S.c 2 0 rfl rfl
    have x1 := S.c 2 1 rfl rfl
    have x2 := S.c 2 2 rfl rfl
    have x3 := S.c 2 3 rfl rfl
    have S5 := S.set 0 1 (.int .i64 (R.now + n)) rfl (by simp) (by omega) (by simp) _ rfl
    have hF5 := hFp.setF Z1 (by omega) 1 (.int .i64 (R.now + n))
    have hi5 : ItsOk (w3.setCell ⟨w.heap.size, 1, none⟩ (.int .i64 (R.now + n))) R.its := fun s hs => by
      have h0 : LaAt w3 (lxA s.x) s.x.y := S.k.la (hx.out s hs)
      exact h0.setF Z1 1 _
    have Z5 : FlBox (w3.setCell ⟨w.heap.size, 1, none⟩ (.int .i64 (R.now + n))) (w.heap.size + 2) := Zp.far (by omega)
    have T9 := (S5.keep [(w.heap.size + 2, [.int .i64 0, .int .i64 0, .slice none 0 0, .slice none 0 0])] (by simp)).set4 (.int .i64 R.iv) (.int .i64 (R.now + n)) (.slice A R.ls.length c) (.slice B R.its.length d) (by omega) (by simp)
    have F9 := flat4 hF5 Z5 (by omega) R.iv (R.now + n) A R.ls.length c B R.its.length d
    have I9 := its4 hi5 Z5 R.iv (R.now + n) A R.ls.length c B R.its.length d
    have hf9 := (show StPost B0 w g b iv A c B d R (.returned (.tuple #[rfV ⟨R.iv, (R.now + n), R.ls, R.its⟩ A R.ls.length c B R.its.length d, .bool true])) _ from ⟨tikN n N, f, A, c, B, d, ⟨R.iv, (R.now + n), R.ls, R.its⟩, rfl, F9, hok.out.tik hn1, hR.out.tick hn1, .inl ⟨rfl, rfl, rfl⟩, .inl ⟨rfl, rfl, rfl⟩, I9, rfl, by simp only; omega, by simp only; omega, T9.k, T9.bel, hB2.out.map _⟩)
    rw [hQ.out] at hf9
    replace hf9 := Lib.hid hf9
    have e0 := S5.c 0 0 rfl rfl
    have e1 := S5.c 0 1 rfl rfl
    have e2 := S5.c 0 2 rfl rfl
    have e3 := S5.c 0 3 rfl rfl
    have r0 := S5.c 1 0 rfl rfl
    have r1 := S5.c 1 1 rfl rfl
    have r2 := S5.c 1 2 rfl rfl
    have r3 := S5.c 1 3 rfl rfl
    have u0 := S5.f 1 0 rfl rfl
    have u1 := S5.f 1 1 rfl rfl
    have u2 := S5.f 1 2 rfl rfl
    have u3 := S5.f 1 3 rfl rfl
    have k0 := T9.c 0 0 rfl rfl
    have k1 := T9.c 0 1 rfl rfl
    have k2 := T9.c 0 2 rfl rfl
    have k3 := T9.c 0 3 rfl rfl
    clear hsame F9 I9 hF5 hi5
    go_wp2_with fail
    exact bodyPost_ret (v := .tuple #[rfV ⟨R.iv, (R.now + n), R.ls, R.its⟩ A R.ls.length c B R.its.length d, .bool true]) (by simp [results, Try.results13, go_sem, k0, k1, k2, k3]) rfl hf9.out

end Go.Proofs.Ytgbcnglagnlmhaa

namespace Go.Proofs.Ytgbcnglagnlmhaa
set_option linter.unusedVariables false
open Go.RowKit Go.Maps Go.Sort

theorem la4 {w : World} {v : Value} {z : La} {k : Nat} (h : LaAt w v z) (hk : FlBox w k) (x y : Int) (A : Option Addr) (n c : Nat) (B : Option Addr) (m d : Nat) :
    LaAt ((((w.setCell ⟨k, 0, none⟩ (.int .i64 x)).setCell ⟨k, 1, none⟩ (.int .i64 y)).setCell ⟨k, 2, none⟩ (.slice A n c)).setCell ⟨k, 3, none⟩ (.slice B m d)) v z := by
  have k1 := hk.set 0 (.int .i64 x) (.inl ⟨by omega, _, rfl⟩)
  have k2 := k1.set 1 (.int .i64 y) (.inl ⟨by omega, _, rfl⟩)
  have k3 := k2.set 2 (.slice A n c) (.inr ⟨by omega, _, _, _, rfl⟩)
  exact (((h.setF hk 0 _).setF k1 1 _).setF k2 2 _).setF k3 3 _
theorem Z4far {w : World} {k k2 : Nat} (h : FlBox w k) (hne : k ≠ k2) (u0 u1 u2 u3 : Value) : FlBox ((((w.setCell ⟨k2, 0, none⟩ u0).setCell ⟨k2, 1, none⟩ u1).setCell ⟨k2, 2, none⟩ u2).setCell ⟨k2, 3, none⟩ u3) k := (((h.far hne).far hne).far hne).far hne
theorem sdV_get (l : List Sd) : ∀ (k : Nat) (hk : k < l.length) (j : Nat) (hj : j < 7), (sdV l)[7 * k + j]? = (sdL l[k])[j]? := by
  induction l with
  | nil => intro k hk; simp at hk
  | cons r l ih =>
    intro k hk j hj
    have h8 : (sdL r).length = 7 := rfl
    cases k with
    | zero => simp only [sdV, List.getElem_cons_zero]; rw [List.getElem?_append_left (by omega)]; simp
    | succ k =>
      simp only [sdV, List.getElem_cons_succ]
      rw [List.getElem?_append_right (by omega), h8, show 7 * (k + 1) + j - 7 = 7 * k + j by omega]
      exact ih k (by simpa using hk) j hj
theorem sd_form {w : World} {A : Option Addr} {l : List Sd} (h : Rd w A (sdV l)) (hn : 0 < l.length) : ∃ b off, A = some ⟨b, off, none⟩ := by
  obtain ⟨b, off, e, _⟩ := rd_at h (by rw [sdV_len]; omega)
  exact ⟨b, off, e⟩
theorem sd_cells {w : World} {b off : Nat} {l : List Sd} (h : Rd w (some ⟨b, off, none⟩) (sdV l)) (k : Nat) (hk : k < l.length) (s : Sd) (hs : l[k] = s) :
    w.cell? ⟨b, off + k * 7, none⟩ = some (.int .i64 s.q) ∧ w.cell? ⟨b, off + k * 7 + 1, none⟩ = some (.int .i64 s.x.y.o) ∧ w.cell? ⟨b, off + k * 7 + 2, none⟩ = some (.int .i64 s.x.y.s) ∧ w.cell? ⟨b, off + k * 7 + 3, none⟩ = some (.int .i64 s.x.y.a) ∧
    w.cell? ⟨b, off + k * 7 + 4, none⟩ = some (.bool s.x.y.ov) ∧ w.cell? ⟨b, off + k * 7 + 5, none⟩ = some (.slice s.x.A s.x.y.adj.length s.x.c) ∧ w.cell? ⟨b, off + k * 7 + 6, none⟩ = some (.slice s.x.B s.x.y.pre.length s.x.d) := by
  subst hs
  obtain ⟨b', off', e, hc⟩ := rd_at h (by rw [sdV_len]; omega)
  injection e with e
  injection e with e1 e2 e3
  subst e1 e2
  have H : ∀ j u, j < 7 → (sdL l[k])[j]? = some u → w.cell? ⟨b, off + k * 7 + j, none⟩ = some u := fun j u hj hu => by
    rw [Nat.add_assoc]
    exact hc _ _ (by rw [Nat.mul_comm k 7, sdV_get l k hk j hj]; exact hu)
  have x0 := H 0 _ (by omega) rfl
  simp only [Nat.add_zero] at x0
  exact ⟨x0, H 1 _ (by omega) rfl, H 2 _ (by omega) rfl, H 3 _ (by omega) rfl, H 4 _ (by omega) rfl, H 5 _ (by omega) rfl, H 6 _ (by omega) rfl⟩
theorem equB_refl (x : La) : equB x x = true := by
  unfold equB sameB
  simp [conB_iff.2 ⟨rfl, rfl, rfl⟩]

set_option maxRecDepth 100000 in
set_option maxHeartbeats 12800000 in
theorem step_poll (w : World) (g b : Nat) (iv : Int) (N : Fn) (f : Nat → Nat) (hF : FlAt w g b iv N f) (hok : FnOk N) (A : Option Addr) (c : Nat) (B : Option Addr) (d : Nat) (R : RF) (hA : Rd w A (R.ls.map encZ)) (hB : Rd w B (itV R.its)) (hx : ItsOk w R.its) (hR : Rel N R)
    (h0 : 0 ≤ R.now) (h1 : R.now ≤ 1000000000) (h2 : 1 ≤ R.iv) (h3 : R.iv ≤ 65536) (hiv : R.iv = iv) (B0 : Nat) (hB1 : B0 ≤ b) (hB2 : FB B0 N f) (hB3 : B0 ≤ w.heap.size) (kd : Int) (q n : Int) (As : Option Addr) (cs : Nat) (l : List Lx) (hs : SqOk w ⟨kd, q, n, As, cs, l⟩) (hfw : FewS ⟨kd, q, n, As, cs, l⟩) (k0 : (kd == 0) = false) (k1 : (kd == 1) = false) (k2 : (kd == 2) = false) (k3 : (kd == 3) = false) (k4 : (kd == 4) = false) (k5 : (kd == 5) = false) :
    Calls Try.prog 13 #[.pointer (some ⟨g, 0, none⟩), rfV R A R.ls.length c B R.its.length d, .agg #[.int .i64 kd, .int .i64 q, .int .i64 n, .slice As l.length cs]] w (StPost B0 w g b iv A c B d R) := by
  have S0 := ((((St.start w).new' #[.int .i64 R.iv, .int .i64 R.now, .slice A R.ls.length c, .slice B R.its.length d] 44 w.heap.size _ rfl rfl).new' #[.int .i64 kd, .int .i64 q, .int .i64 n, .slice As l.length cs] 48 (w.heap.size + 1) _ (by simp) rfl).new' #[.int .i64 0, .int .i64 0, .slice none 0 0, .slice none 0 0] 44 (w.heap.size + 2) _ (by simp) rfl)
  have Z0 := FlBox.alloc ((w.alloc (.cells #[.int .i64 R.iv, .int .i64 R.now, .slice A R.ls.length c, .slice B R.its.length d] 44)).alloc (.cells #[.int .i64 kd, .int .i64 q, .int .i64 n, .slice As l.length cs] 48)) 0 0 none 0 0 none 0 0 44
  rw [show ((w.alloc (.cells #[.int .i64 R.iv, .int .i64 R.now, .slice A R.ls.length c, .slice B R.its.length d] 44)).alloc (.cells #[.int .i64 kd, .int .i64 q, .int .i64 n, .slice As l.length cs] 48)).heap.size = w.heap.size + 2 by simp] at Z0
  have Z1 := ((FlBox.alloc w R.iv R.now A R.ls.length c B R.its.length d 44).kq (Kq.of_below (below_new' _ (.cells #[.int .i64 kd, .int .i64 q, .int .i64 n, .slice As l.length cs] 48)))).kq (Kq.of_below (below_new' (World.alloc (w.alloc (.cells #[.int .i64 R.iv, .int .i64 R.now, .slice A R.ls.length c, .slice B R.its.length d] 44)) (.cells #[.int .i64 kd, .int .i64 q, .int .i64 n, .slice As l.length cs] 48)) (.cells #[.int .i64 0, .int .i64 0, .slice none 0 0, .slice none 0 0] 44)))
  have hgl := hF.lt.1
  have F1 := fun W (hb : Below w.heap.size w W) => first_any W As l.length cs l (hs.rd.below hb) rfl
  have hfo := fsL_ok hs.ok
  have hlen := hR.len
  have hlsl := hR.lsl
  have hl8 := hfw.1
  have hn20 := hfw.2.1
  have hnb := bounds_i64 hs.wn
  simp only at hl8 hn20 hnb
  have hsame : Hid (∀ w', Kq w w' → Below B0 w w' → FlAt w' g b iv N f → StPost B0 w g b iv A c B d R (.returned (.tuple #[rfV R A R.ls.length c B R.its.length d, .bool true])) w') := fun w' hk hbl hf => ⟨N, f, A, c, B, d, R, rfl, hf, hok, hR, .inl ⟨rfl, rfl, rfl⟩, .inl ⟨rfl, rfl, rfl⟩, fun s hs => hk.la (hx s hs), rfl, by omega, by omega, hk, hbl, hB2⟩
  replace F1 := Lib.hid F1
  replace hfo := Lib.hid hfo
  replace hF := Lib.hid hF
  replace hok := Lib.hid hok
  replace hR := Lib.hid hR
  replace hs := Lib.hid hs
  replace hx := Lib.hid hx
  replace hiv := Lib.hid hiv
  replace hB2 := Lib.hid hB2
  obtain ⟨Q, hQ⟩ : ∃ Q, StPost B0 w g b iv A c B d R = Q := ⟨_, rfl⟩
  rw [hQ] at hsame ⊢
  replace hQ := Lib.hid hQ
  have x0 := S0.c 1 0 rfl rfl
  have x1 := S0.c 1 1 rfl rfl
  have x2 := S0.c 1 2 rfl rfl
  have x3 := S0.c 1 3 rfl rfl
  go_enter Try.func13, Try.ntmps13
  go_wp2_with fail
  (with_reducible refine (F1.out _ S0.b).mono ?_)
  rintro e w1 ⟨rfl, hb⟩
  clear x0 x1 x2 x3
  clear F1
  replace S0 := S0.call hb
  have hgaz : w.heap.size + 2 < w1.heap.size := (S0.box 0 rfl).lt (by simp)
  replace Z0 := Z0.kq (Kq.of_below hb)
  replace Z1 := Z1.kq (Kq.of_below hb)
  clear hb
  obtain ⟨a, ha⟩ : ∃ a, fsL l = a := ⟨_, rfl⟩
  rw [ha] at hfo ⊢
  replace ha := Lib.hid ha
  have hb := below_new' w1 (.cells #[.int .i64 a.y.o, .int .i64 a.y.s, .int .i64 a.y.a, .bool a.y.ov, .slice a.A a.y.adj.length a.c, .slice a.B a.y.pre.length a.d] 32)
  replace S0 := S0.new' #[.int .i64 a.y.o, .int .i64 a.y.s, .int .i64 a.y.a, .bool a.y.ov, .slice a.A a.y.adj.length a.c, .slice a.B a.y.pre.length a.d] 32 w1.heap.size _ rfl rfl
  replace Z0 := Z0.kq (Kq.of_below hb)
  replace Z1 := Z1.kq (Kq.of_below hb)
  clear hb
  go_upto_region 2 with fail
  generalize World.alloc w1 _ = w2 at *
  generalize hga : w1.heap.size = ga at *
  replace hga := Lib.hid hga
  have x0 := S0.c 2 0 rfl rfl
  have x1 := S0.c 2 1 rfl rfl
  have x2 := S0.c 2 2 rfl rfl
  have x3 := S0.c 2 3 rfl rfl
  have y0 := S0.c 0 0 rfl rfl
  have y1 := S0.c 0 1 rfl rfl
  have y2 := S0.c 0 2 rfl rfl
  have y3 := S0.c 0 3 rfl rfl
  have y4 := S0.c 0 4 rfl rfl
  have y5 := S0.c 0 5 rfl rfl
  have S : Sk B0 w _ [(w.heap.size + 2, [.int .i64 0, .int .i64 0, .slice none 0 0, .slice none 0 0]), (w.heap.size + 1, [.int .i64 kd, .int .i64 q, .int .i64 n, .slice As l.length cs]), (w.heap.size, [.int .i64 R.iv, .int .i64 R.now, .slice A R.ls.length c, .slice B R.its.length d]), (ga, [.int .i64 a.y.o, .int .i64 a.y.s, .int .i64 a.y.a, .bool a.y.ov, .slice a.A a.y.adj.length a.c, .slice a.B a.y.pre.length a.d])] := (Sk.of S0 hB3).keep _ (by simp)
  have hF2 := hF.out.below S0.b
  have PL := Lib.hid (fpoll_any w2 g b iv N f hF2 hok.out)
  go_wp2_with fail
  (with_reducible refine (PL.out).mono ?_)
  rintro e w3 ⟨A9, c9, ls, rfl, oS, hsd, hown, hFp, hkf⟩
  clear PL k0 k1 k2 k3 k4 k5
  clear x0 x1 x2 x3
  clear y0 y1 y2 y3 y4 y5
  have hkq := hkf.kq hF2.maps
  have hs23 : w2.heap.size ≤ w3.heap.size := hkq.size
  replace S := (S.turn hkq (hB2.out.kf hkf (Nat.le_trans hB3 S.k.size))).keep [(w.heap.size, [.int .i64 R.iv, .int .i64 R.now, .slice A R.ls.length c, .slice B R.its.length d]), (w.heap.size + 2, [.int .i64 0, .int .i64 0, .slice none 0 0, .slice none 0 0])] (by simp)
  have Zp := Z0.kq hkq
  replace Z1 := Z1.kq hkq
  have hs2 : w.heap.size + 2 < w2.heap.size := (S0.box 1 rfl).lt (by simp)
  clear hkq hkf S0 Z0 hF2
  have RP := Lib.hid (rpoll_any w3 A c B d R (S.k.rd hB) (by omega) h0 (by omega) (by omega) (by omega))
  have z0 := S.c 0 0 rfl rfl
  have z1 := S.c 0 1 rfl rfl
  have z2 := S.c 0 2 rfl rfl
  have z3 := S.c 0 3 rfl rfl
  go_wp2_with fail
  (with_reducible refine (RP.out).mono ?_)
  rintro e w5 ⟨A2, c2, B2, d2, A7, c7, rfl, t1, t2, oI, hb⟩
  clear RP
  clear z0 z1 z2 z3
  replace S := S.call hb
  replace Zp := Zp.kq (Kq.of_below hb)
  replace Z1 := Z1.kq (Kq.of_below hb)
  replace hFp := hFp.below hb
  replace oS := own_below oS hb
  have hownS : ∀ s ∈ ls, LaAt w5 (lxA s.x) s.x.y := fun s hs => (LaOwn.at (hown s hs)).below hb
  have hownI : ∀ s ∈ plS R, LaAt w5 (lxA s.x) s.x.y := fun s hs => S.k.la (hx.out s (List.mem_filter.1 hs).1)
  have hits0 : ItsOk w5 (plF R).its := fun s hs => by
    obtain ⟨s0, hs0, rfl⟩ := List.mem_map.1 (show s ∈ R.its.map (plI R.iv R.now) from hs)
    rw [(plI_key R.iv R.now s0).2]
    exact S.k.la (hx.out s0 hs0)
  have hw35 := hb.size
  clear hb hown
  have hls : sdP ls = (plS R).map (fun s => (s.q, s.x.y)) := by rw [hsd, hR.out.send]
  obtain ⟨m, hm⟩ : ∃ m, ls.length = m := ⟨_, rfl⟩
  have hmI : (plS R).length = m := by
    have := congrArg List.length hls
    simp only [sdP, List.length_map] at this
    omega
  have hm2 : m ≤ 16384 := by rw [← hmI]; exact Nat.le_trans (List.length_filter_le _ _) hlen
  rw [hm] at oS ⊢
  rw [hmI] at oI ⊢
  replace hm := Lib.hid hm
  replace hmI := Lib.hid hmI
  have z0 := S.c 0 0 rfl rfl
  have z1 := S.c 0 1 rfl rfl
  have z2 := S.c 0 2 rfl rfl
  have z3 := S.c 0 3 rfl rfl
  have v0 := S.f 0 0 rfl rfl
  have v1 := S.f 0 1 rfl rfl
  have v2 := S.f 0 2 rfl rfl
  have v3 := S.f 0 3 rfl rfl
  have S5 := S.set4 (.int .i64 (plF R).iv) (.int .i64 (plF R).now) (.slice A2 (plF R).ls.length c2) (.slice B2 (plF R).its.length d2) (Nat.le_refl _) (by simp)
  have hFW0 := flat4 hFp Z1 (by omega) (plF R).iv (plF R).now A2 (plF R).ls.length c2 B2 (plF R).its.length d2
  have hits1 := its4 hits0 Z1 (plF R).iv (plF R).now A2 (plF R).ls.length c2 B2 (plF R).its.length d2
  have la4 := fun (v : Value) (x : La) (h : LaAt w5 v x) => la4 h Z1 (plF R).iv (plF R).now A2 (plF R).ls.length c2 B2 (plF R).its.length d2
  have Z5 := Z4far Zp (k2 := w.heap.size) (by omega) (.int .i64 (plF R).iv) (.int .i64 (plF R).now) (.slice A2 (plF R).ls.length c2) (.slice B2 (plF R).its.length d2)
  have t15 := t1.imp id fun h => own_set4 h (g := w.heap.size) (by omega) (.int .i64 (plF R).iv) (.int .i64 (plF R).now) (.slice A2 (plF R).ls.length c2) (.slice B2 (plF R).its.length d2)
  have t25 := t2.imp id fun h => own_set4 h (g := w.heap.size) (by omega) (.int .i64 (plF R).iv) (.int .i64 (plF R).now) (.slice A2 (plF R).ls.length c2) (.slice B2 (plF R).its.length d2)
  have rS := own_slice (own_set4 oS (g := w.heap.size) (by omega) (.int .i64 (plF R).iv) (.int .i64 (plF R).now) (.slice A2 (plF R).ls.length c2) (.slice B2 (plF R).its.length d2))
  have rI := own_slice (own_set4 oI (g := w.heap.size) (by omega) (.int .i64 (plF R).iv) (.int .i64 (plF R).now) (.slice A2 (plF R).ls.length c2) (.slice B2 (plF R).its.length d2))
  have okS := fun s hs => la4 _ _ (hownS s hs)
  have okI := fun s hs => la4 _ _ (hownI s hs)
  clear hownS hownI la4 hits0 hFp Z1 Zp t1 t2 oS oI
  replace okS := Lib.hid okS
  replace okI := Lib.hid okI
  replace hls := Lib.hid hls
  go_upto_region 39 with fail
  clear z0 z1 z2 z3
  clear v0 v1 v2 v3
  generalize World.setCell _ _ _ = w6 at *
  go_wp2_with fail
  go_loopw [19] (fun v19 wr => ∃ (k : Nat), v19 = .int .i64 k ∧ k ≤ m ∧ Hid (Below w6.heap.size w6 wr)) (fun v19 _ => m - (intOf v19).toNat)
  case atStart => exact ⟨0, rfl, by omega, Below.refl _ _⟩
  case round =>
    obtain ⟨k, rfl, hk, hbw⟩ := hrel
    by_cases hkm : k < m
    · have hkS : k < ls.length := by rw [hm.out]; exact hkm
      have hkI : k < (plS R).length := by rw [hmI.out]; exact hkm
      obtain ⟨s, hsk⟩ : ∃ s, ls[k] = s := ⟨_, rfl⟩
      obtain ⟨t, htk⟩ : ∃ t, (plS R)[k] = t := ⟨_, rfl⟩
      have hst : s.q = t.q ∧ s.x.y = t.x.y := by
        have := congrArg (fun l => l[k]?) hls.out
        simp only [sdP, List.getElem?_map, List.getElem?_eq_getElem hkS, List.getElem?_eq_getElem hkI, hsk, htk, Option.map_some, Option.some.injEq, Prod.mk.injEq] at this
        exact this
      have hoS := okS.out s (by rw [← hsk]; exact List.getElem_mem hkS)
      have hoI := okI.out t (by rw [← htk]; exact List.getElem_mem hkI)
      have hrS := rS.below hbw.out
      have hrI := rI.below hbw.out
      obtain ⟨bs, os, hAS⟩ := sd_form hrS (by omega)
      obtain ⟨bi, oi, hAI⟩ := it_form hrI (by omega)
      subst hAS hAI
      obtain ⟨p0, p1, p2, p3, p4, p5, p6⟩ := sd_cells hrS k hkS s hsk
      obtain ⟨i0, i1, i2, i3, i4, i5, i6, i7⟩ := it_cells hrI k hkI t htk
      have hnq : (s.q != t.q) = false := by rw [hst.1]; simp
      have EQ : Hid (∀ W, Below w6.heap.size w6 W → Calls Try.prog 15 #[lxA s.x, lxA t.x] W fun e w' => e = .returned (.bool true) ∧ Below W.heap.size W w') := fun W hb => by
        have := equal_any W _ _ s.x.y t.x.y (hoS.below hb) (hoI.below hb)
        rw [show equB s.x.y t.x.y = true by rw [hst.2, equB_refl]] at this
        exact this
      clear hst hsk htk hoS hoI hrS hrI
      go_upto_region 44 with fail
      replace p0 := cell_regrown p0
      replace p1 := cell_regrown p1
      replace p2 := cell_regrown p2
      replace p3 := cell_regrown p3
      replace p4 := cell_regrown p4
      replace p5 := cell_regrown p5
      replace p6 := cell_regrown p6
      replace i0 := cell_regrown i0
      replace i1 := cell_regrown i1
      replace i2 := cell_regrown i2
      replace i3 := cell_regrown i3
      replace i4 := cell_regrown i4
      replace i5 := cell_regrown i5
      replace i6 := cell_regrown i6
      replace i7 := cell_regrown i7
      have B1 := hbw.out
      clear hbw
      refine wp_region_quiet_below (by kernel_rfl) (by kernel_rfl) ?_
      repeat (go_big_quiet_step ((first | (go_at_call 15; with_reducible exact Calls.regrown_of (EQ.out _ (belowR B1 _ _ B1.size))))))
      refine wpQuiet_nil ?_
      intro _ hw'
      obtain ⟨⟨dq, osq⟩, hw''⟩ := hw'
      subst hw''
      replace B1 := belowR B1 dq osq B1.size
      generalize grow (redrawn _ dq) osq = w8 at *
      have hbw2 : Hid (Below w6.heap.size w6 w8) := B1
      clear EQ p0 p1 p2 p3 p4 p5 p6 i0 i1 i2 i3 i4 i5 i6 i7 hnq
      go_wp2_with fail
      go_round
      case rel => exact ⟨k + 1, by go_num, by omega, hbw2⟩
      case measure => simp [intOf]; omega
    · obtain rfl : m = k := by omega
      have hb := hbw.out
      have S8 := S5.call hb
      have Z8 := Z5.kq (Kq.of_below hb)
      have F8 := hFW0.below hb
      have I8 : ItsOk wr (plF R).its := hits1.below hb
      have t18 := t15.imp id fun h => own_below h hb
      have t28 := t25.imp id fun h => own_below h hb
      have T9 := (S8.keep [(w.heap.size + 2, [.int .i64 0, .int .i64 0, .slice none 0 0, .slice none 0 0])] (by simp)).set4 (.int .i64 (plF R).iv) (.int .i64 (plF R).now) (.slice A2 (plF R).ls.length c2) (.slice B2 (plF R).its.length d2) (by omega) (by simp)
      have F9 := flat4 F8 Z8 (by omega) (plF R).iv (plF R).now A2 (plF R).ls.length c2 B2 (plF R).its.length d2
      have I9 := its4 I8 Z8 (plF R).iv (plF R).now A2 (plF R).ls.length c2 B2 (plF R).its.length d2
      have L9 := t18.imp id fun h => own_mono (base := w.heap.size) (own_set4 h (g := w.heap.size + 2) (by omega) (.int .i64 (plF R).iv) (.int .i64 (plF R).now) (.slice A2 (plF R).ls.length c2) (.slice B2 (plF R).its.length d2)) (by omega)
      have M9 := t28.imp id fun h => own_mono (base := w.heap.size) (own_set4 h (g := w.heap.size + 2) (by omega) (.int .i64 (plF R).iv) (.int .i64 (plF R).now) (.slice A2 (plF R).ls.length c2) (.slice B2 (plF R).its.length d2)) (by omega)
      have hpol : Rel (polN iv N) (plF R) := by rw [← hiv.out]; exact hR.out.poll (by omega)
      have hf9 := (show StPost B0 w g b iv A c B d R (.returned (.tuple #[rfV (plF R) A2 (plF R).ls.length c2 B2 (plF R).its.length d2, .bool true])) _ from ⟨polN iv N, f, A2, c2, B2, d2, plF R, rfl, F9, hok.out.pol (by rw [← hiv.out]; omega) (by rw [← hiv.out]; omega), hpol, L9, M9, I9, rfl, Int.le_refl _, by show R.now ≤ _; omega, T9.k, T9.bel, hB2.out.map _⟩)
      rw [hQ.out] at hf9
      replace hf9 := Lib.hid hf9
      have r0 := S8.c 0 0 rfl rfl
      have r1 := S8.c 0 1 rfl rfl
      have r2 := S8.c 0 2 rfl rfl
      have r3 := S8.c 0 3 rfl rfl
      have e0 := S8.c 1 0 rfl rfl
      have e1 := S8.c 1 1 rfl rfl
      have e2 := S8.c 1 2 rfl rfl
      have e3 := S8.c 1 3 rfl rfl
      have u0 := S8.f 1 0 rfl rfl
      have u1 := S8.f 1 1 rfl rfl
      have u2 := S8.f 1 2 rfl rfl
      have u3 := S8.f 1 3 rfl rfl
      have k0 := T9.c 0 0 rfl rfl
      have k1 := T9.c 0 1 rfl rfl
      have k2 := T9.c 0 2 rfl rfl
      have k3 := T9.c 0 3 rfl rfl
      clear hsame F9 I9 L9 M9 F8 I8 t18 t28 t15 t25 hA hB hpol
      go_wp2_with fail
      exact bodyPost_ret (v := .tuple #[rfV (plF R) A2 (plF R).ls.length c2 B2 (plF R).its.length d2, .bool true]) (by simp [results, Try.results13, go_sem, k0, k1, k2, k3]) rfl hf9.out

end Go.Proofs.Ytgbcnglagnlmhaa

namespace Go.Proofs.Ytgbcnglagnlmhaa
set_option linter.unusedVariables false
open Go.RowKit Go.Maps Go.Sort

theorem step_any (w : World) (g b : Nat) (iv : Int) (N : Fn) (f : Nat → Nat) (hF : FlAt w g b iv N f) (hok : FnOk N) (A : Option Addr) (c : Nat) (B : Option Addr) (d : Nat) (R : RF) (hA : Rd w A (R.ls.map encZ)) (hB : Rd w B (itV R.its)) (hx : ItsOk w R.its) (hR : Rel N R)
    (h0 : 0 ≤ R.now) (h1 : R.now ≤ 1000000000) (h2 : 1 ≤ R.iv) (h3 : R.iv ≤ 65536) (hiv : R.iv = iv) (B0 : Nat) (hB1 : B0 ≤ b) (hB2 : FB B0 N f) (hB3 : B0 ≤ w.heap.size) (s : Sq) (hs : SqOk w s) (hfw : FewS s) :
    Calls Try.prog 13 #[.pointer (some ⟨g, 0, none⟩), rfV R A R.ls.length c B R.its.length d, .agg #[.int .i64 s.k, .int .i64 s.q, .int .i64 s.n, .slice s.A s.l.length s.c]] w (StPost B0 w g b iv A c B d R) := by
  obtain ⟨k, q, n, As, cs, l⟩ := s
  by_cases k0 : k = 0
  · subst k0; exact step_up w g b iv N f hF hok A c B d R hA hB hx hR h0 h1 h2 h3 hiv B0 hB1 hB2 hB3 q n As cs l hs hfw
  by_cases k1 : k = 1
  · subst k1; exact step_down w g b iv N f hF hok A c B d R hA hB hx hR h0 h1 h2 h3 hiv B0 hB1 hB2 hB3 q n As cs l hs hfw
  by_cases k2 : k = 2
  · subst k2; exact step_offer w g b iv N f hF hok A c B d R hA hB hx hR h0 h1 h2 h3 hiv B0 hB1 hB2 hB3 q n As cs l hs hfw
  by_cases k3 : k = 3
  · subst k3; exact step_spread w g b iv N f hF hok A c B d R hA hB hx hR h0 h1 h2 h3 hiv B0 hB1 hB2 hB3 q n As cs l hs hfw
  by_cases k4 : k = 4
  · subst k4; exact step_ack w g b iv N f hF hok A c B d R hA hB hx hR h0 h1 h2 h3 hiv B0 hB1 hB2 hB3 q n As cs l hs hfw
  by_cases k5 : k = 5
  · subst k5; exact step_tick w g b iv N f hF hok A c B d R hA hB hx hR h0 h1 h2 h3 hiv B0 hB1 hB2 hB3 q n As cs l hs hfw
  exact step_poll w g b iv N f hF hok A c B d R hA hB hx hR h0 h1 h2 h3 hiv B0 hB1 hB2 hB3 k q n As cs l hs hfw (by simpa using k0) (by simpa using k1) (by simpa using k2) (by simpa using k3) (by simpa using k4) (by simpa using k5)

end Go.Proofs.Ytgbcnglagnlmhaa

namespace Go.Proofs.Ytgbcnglagnlmhaa
set_option linter.unusedVariables false
open Go.RowKit Go.Maps Go.Sort

theorem rel0 (iv : Int) : Rel (fun _ => none) ⟨iv, 0, [], []⟩ := by
  refine ⟨?_, List.Pairwise.nil, by simp, fun q o _ _ h hat => by cases hat⟩
  unfold lks
  simp
theorem fnok0 : FnOk (fun _ => none) := fun i D o h h1 _ => by cases h1
/-- Between two steps: the flooder, the reference's in its box k. -/
structure LwAt (B0 : Nat) (w wr : World) (g b : Nat) (iv : Int) (k : Nat) (N : Fn) (f : Nat → Nat) (R : RF) (A : Option Addr) (c : Nat) (B : Option Addr) (d : Nat) (i : Nat) : Prop where
  fl : FlAt wr g b iv N f
  ok : FnOk N
  rel : Rel N R
  bx : Box wr k (rfC R A c B d)
  fb : FlBox wr k
  la : wr.ownsRow (k + 1) 3 1 (.slice A R.ls.length c) R.ls.length (R.ls.map encZ)
  it : wr.ownsRow (k + 1) 51 8 (.slice B R.its.length d) R.its.length (itV R.its)
  its : ItsOk wr R.its
  riv : R.iv = iv
  lo : 0 ≤ R.now
  hi : R.now ≤ 1048576 * (i : Int)
  bel : Below B0 w wr
  fbb : FB B0 N f
  gk : g ≠ k
  kq : B0 ≤ k
section
variable {B0 : Nat} {w wr w' : World} {g b : Nat} {iv : Int} {k : Nat} {N N' : Fn} {f f' : Nat → Nat} {R R' : RF} {A A' : Option Addr} {c c' : Nat} {B B' : Option Addr} {d d' : Nat} {i : Nat}
theorem LwAt.below (h : LwAt B0 w wr g b iv k N f R A c B d i) (hB : B0 ≤ w.heap.size) (hb : Below wr.heap.size wr w') : LwAt B0 w w' g b iv k N f R A c B d i :=
  ⟨h.fl.below hb, h.ok, h.rel, h.bx.later hb, h.fb.kq (Kq.of_below hb), own_below h.la hb, own_below h.it hb, h.its.below hb, h.riv, h.lo, h.hi, h.bel.trans (hb.mono (Nat.le_trans hB h.bel.size)), h.fbb, h.gk, h.kq⟩
/-- A step, and the store of what it gives. -/
theorem LwAt.step (h : LwAt B0 w wr g b iv k N f R A c B d i) (hB : B0 ≤ w.heap.size) (hs : StOk B0 wr w' g b iv N' f' A c B d R A' c' B' d' R') (hk : k + 1 ≤ wr.heap.size) :
    LwAt B0 w ((((w'.setCell ⟨k, 0, none⟩ (.int .i64 R'.iv)).setCell ⟨k, 1, none⟩ (.int .i64 R'.now)).setCell ⟨k, 2, none⟩ (.slice A' R'.ls.length c')).setCell ⟨k, 3, none⟩ (.slice B' R'.its.length d')) g b iv k N' f' R' A' c' B' d' (i + 1) := by
  have hfb := h.fb.kq hs.kq
  have hbx := hs.kq.box h.bx
  have k1 := hfb.set 0 (.int .i64 R'.iv) (.inl ⟨by omega, _, rfl⟩)
  have k2 := k1.set 1 (.int .i64 R'.now) (.inl ⟨by omega, _, rfl⟩)
  have k3 := k2.set 2 (.slice A' R'.ls.length c') (.inr ⟨by omega, _, _, _, rfl⟩)
  have k4 := k3.set 3 (.slice B' R'.its.length d') (.inr ⟨by omega, _, _, _, rfl⟩)
  have b1 := hbx.set 0 (.int .i64 R'.iv) (by simp)
  have b2 := b1.set 1 (.int .i64 R'.now) (by simp)
  have b3 := b2.set 2 (.slice A' R'.ls.length c') (by simp)
  have b4 := b3.set 3 (.slice B' R'.its.length d') (by simp)
  have hla : w'.ownsRow (k + 1) 3 1 (.slice A' R'.ls.length c') R'.ls.length (R'.ls.map encZ) := by
    rcases hs.la with ⟨rfl, rfl, e⟩ | e
    · rw [e]; exact hs.kq.own h.la
    · exact own_mono e hk
  have hit : w'.ownsRow (k + 1) 51 8 (.slice B' R'.its.length d') R'.its.length (itV R'.its) := by
    rcases hs.it with ⟨rfl, rfl, e⟩ | e
    · rw [e]; exact hs.kq.own h.it
    · exact own_mono e hk
  have hbl := h.bel.trans hs.bel
  refine ⟨flat4 hs.fl hfb h.gk _ _ _ _ _ _ _ _, hs.ok, hs.rel, b4, k4, own_set4 hla (by omega) _ _ _ _, own_set4 hit (by omega) _ _ _ _, its4 hs.its hfb _ _ _ _ _ _ _ _, hs.iv.trans h.riv, Int.le_trans h.lo hs.lo, by have := hs.hi; have := h.hi; omega, ?_, hs.fb, h.gk, h.kq⟩
  exact (((hbl.setCell (p := ⟨k, 0, none⟩) h.kq _).setCell (p := ⟨k, 1, none⟩) h.kq _).setCell (p := ⟨k, 2, none⟩) h.kq _).setCell (p := ⟨k, 3, none⟩) h.kq _
end
/-- With the list of the neighbours. -/
structure LkAt (w wr : World) (g b : Nat) (iv : Int) (k : Nat) (N : Fn) (f : Nat → Nat) (R : RF) (A : Option Addr) (c : Nat) (B : Option Addr) (d : Nat) (i : Nat) (A6 : Option Addr) : Prop where
  l : LwAt w.heap.size w wr g b iv k N f R A c B d i
  o6 : Rd wr A6 ((lks N).map encZ)
  hk : k + 1 ≤ wr.heap.size
/-- With what is pending for one. -/
structure LmAt (w wr : World) (g b : Nat) (iv : Int) (k : Nat) (N : Fn) (f : Nat → Nat) (R : RF) (A : Option Addr) (c : Nat) (B : Option Addr) (d : Nat) (i : Nat) (A6 A7 : Option Addr) (ls : List Lx) : Prop where
  t : LkAt w wr g b iv k N f R A c B d i A6
  o7 : Rd wr A7 (lxV ls)
  ok : ∀ s ∈ ls, LxOk wr s
section
variable {w wr w' : World} {g b : Nat} {iv : Int} {k : Nat} {N : Fn} {f : Nat → Nat} {R : RF} {A : Option Addr} {c : Nat} {B : Option Addr} {d : Nat} {i : Nat} {A6 A7 : Option Addr} {ls : List Lx}
theorem LkAt.below (h : LkAt w wr g b iv k N f R A c B d i A6) (hb : Below wr.heap.size wr w') : LkAt w w' g b iv k N f R A c B d i A6 :=
  ⟨h.l.below (Nat.le_refl _) hb, h.o6.below hb, Nat.le_trans h.hk hb.size⟩
theorem LmAt.below (h : LmAt w wr g b iv k N f R A c B d i A6 A7 ls) (hb : Below wr.heap.size wr w') : LmAt w w' g b iv k N f R A c B d i A6 A7 ls :=
  ⟨h.t.below hb, h.o7.below hb, fun s hs => LaAt.below (h.ok s hs) hb⟩
end

set_option maxRecDepth 100000 in
set_option maxHeartbeats 12800000 in
theorem script35_law (w : World) (z : Int) (hz : (Lit.int .u8 z).wf = true) (As : Option Addr) (n c : Nat) (l : List Sq) (hA : Rd w As (sqV l)) (hn : l.length = n) (hm : n ≤ maxLen) (hok : ∀ s ∈ l, SqOk w s) :
    Calls Try.prog 4 #[.int .u8 z, .slice As n c] w fun e w' => e = .returned (.bool true) ∧ Below w.heap.size w w' := by
  have S := (St.start w).read hA
  obtain ⟨hz0, hz1⟩ := bounds_u8 hz
  have FW := fun W (hb : Below w.heap.size w W) => few35_any W As n c l (hA.below hb) hn (by unfold maxLen at hm; omega) (fun s hs => (hok s hs).below hb)
  unfold FewPost at FW
  replace FW := Lib.hid FW
  replace hn := Lib.hid hn
  replace hok := Lib.hid hok
  go_enter Try.func4, Try.ntmps4
  go_wp2_with fail
  (with_reducible refine (awake_any _).mono ?_)
  rintro e w1 ⟨rfl, hb⟩
  replace S := S.call hb
  clear hb
  go_wp2_with fail
  (with_reducible refine (FW.out _ S.b).mono ?_)
  rintro e w2 ⟨fv, rfl, hfw, hb⟩
  clear FW
  replace S := S.call hb
  clear hb
  cases fv with
  | false =>
    have hb9 := S.b
    clear hfw
    go_wp2_with fail
    go_ret
    exact ⟨rfl, hb9⟩
  | true =>
    have hf := hfw rfl
    clear hfw
    have NW := fun W => fnew_any W (1 + z) (by omega) (by omega)
    replace NW := Lib.hid NW
    replace hf := Lib.hid hf
    go_wp2_with fail
    (with_reducible refine (NW.out _).mono ?_)
    rintro e w3 ⟨rfl, hF, hb⟩
    clear NW
    have hs3 := hF.lt
    have hbx := Box.new' w3 #[.int .i64 (1 + z), .int .i64 0, .slice none 0 0, .slice none 0 0] 44 w3.heap.size _ rfl rfl
    have hb4 := below_new' w3 (.cells #[.int .i64 (1 + z), .int .i64 0, .slice none 0 0, .slice none 0 0] 44)
    have hle2 : w.heap.size ≤ w2.heap.size := S.b.size
    have L0 : LwAt w.heap.size w (w3.alloc (.cells #[.int .i64 (1 + z), .int .i64 0, .slice none 0 0, .slice none 0 0] 44)) (w2.heap.size + 1) w2.heap.size (1 + z) w3.heap.size (fun _ => none) (fun _ => 0) ⟨1 + z, 0, [], []⟩ none 0 none 0 0 :=
      ⟨hF.below hb4, fnok0, rel0 _, hbx, FlBox.alloc w3 _ _ _ _ _ _ _ _ _, World.ownsRow_nil _ _ _ _, World.ownsRow_nil _ _ _ _, fun s hs => by simp at hs, rfl, by simp, by simp, (S.call hb).b.trans (hb4.mono (Nat.le_trans hle2 hb.size)), fun j _ h => by simp at h, by omega, Nat.le_trans hle2 hb.size⟩
    have hk3 : w3.heap.size < (w3.alloc (.cells #[.int .i64 (1 + z), .int .i64 0, .slice none 0 0, .slice none 0 0] 44)).heap.size := by simp
    clear hF hb hbx hb4 S
    replace L0 := Lib.hid L0
    go_wp2_with fail
    generalize World.alloc w3 _ = w4 at *
    generalize w3.heap.size = kb at *
    generalize hg : w2.heap.size + 1 = g at *
    generalize w2.heap.size = b at *
    have hrA := hA
    go_loopw [8] (fun v8 wr => ∃ (i : Nat) (N : Fn) (f : Nat → Nat) (R : RF) (A : Option Addr) (c : Nat) (B : Option Addr) (d : Nat), v8 = .int .i64 i ∧ i ≤ n ∧ kb + 1 ≤ wr.heap.size ∧ Hid (LwAt w.heap.size w wr g b (1 + z) kb N f R A c B d i)) (fun v8 _ => n - (intOf v8).toNat)
    case atStart => exact ⟨0, _, _, _, none, 0, none, 0, rfl, by omega, hk3, L0⟩
    case round =>
      clear L0
      obtain ⟨i, N, f, R, A, c1, B, d1, rfl, hi, hkb, L⟩ := hrel
      by_cases hin : i < n
      · have hil : i < l.length := by rw [hn.out]; exact hin
        have hrw := hA.below L.out.bel
        obtain ⟨ba, off, rfl⟩ := sq_form hrw (by omega)
        obtain ⟨s, hs⟩ : ∃ s, l[i] = s := ⟨_, rfl⟩
        obtain ⟨x0, x1, x2, x3⟩ := sq_cells hrw i hil s hs
        have hso : SqOk w s := hok.out s (by rw [← hs]; exact List.getElem_mem hil)
        have hfs : FewS s := hf.out.all s (by rw [← hs]; exact List.getElem_mem hil)
        have hl25 := hf.out.len
        rw [hn.out] at hl25
        have Ld := L.out.below (Nat.le_refl _) (Below.refl wr.heap.size wr).drew
        have ST := step_any wr.drew g b (1 + z) N f Ld.fl Ld.ok A c1 B d1 R (own_slice Ld.la) (own_slice Ld.it) Ld.its Ld.rel Ld.lo (by have := Ld.hi; omega) (by rw [Ld.riv]; omega) (by rw [Ld.riv]; omega) Ld.riv w.heap.size hle2 Ld.fbb Ld.bel.size s (hso.below Ld.bel) hfs
        replace ST := Lib.hid ST
        go_upto_region 13 with fail
        have p0 := Ld.bx.c 0 rfl
        have p1 := Ld.bx.c 1 rfl
        have p2 := Ld.bx.c 2 rfl
        have p3 := Ld.bx.c 3 rfl
        have y0 : wr.drew.cell? _ = _ := x0
        have y1 : wr.drew.cell? _ = _ := x1
        have y2 : wr.drew.cell? _ = _ := x2
        have y3 : wr.drew.cell? _ = _ := x3
        have tok1 : True := trivial
        clear x0 x1 x2 x3 hs
        replace Ld := Lib.hid Ld
        go_cut [9] (fun v9 wx => ∃ (N' : Fn) (f' : Nat → Nat) (R2 : RF) (A2 : Option Addr) (c2 : Nat) (B2 : Option Addr) (d2 : Nat), v9 = .bool true ∧ kb + 1 ≤ wx.heap.size ∧ Hid (LwAt w.heap.size w wx g b (1 + z) kb N' f' R2 A2 c2 B2 d2 (i + 1)))
        case first =>
          go_region_law
            (first
              | (clear tok1; rw [if_pos (by simp [Region.wanted])]; go_simp; (with_reducible refine (ST.out).mono ?_); rintro e wa ⟨N', f', A2, c2, B2, d2, R2, rfl, hst⟩; have bxa := hst.kq.box Ld.out.bx; have f0 := bxa.f 0 rfl; have f1 := bxa.f 1 rfl; have f2 := bxa.f 2 rfl; have f3 := bxa.f 3 rfl; have g0 := bxa.c 0 rfl; have g1 := bxa.c 1 rfl; have g2 := bxa.c 2 rfl; have g3 := bxa.c 3 rfl; dsimp only))
          all_goals
            have L9 := Lib.hid (Ld.out.step (Nat.le_refl _) hst hkb)
            have hk9 : kb + 1 ≤ wa.heap.size := Nat.le_trans hkb hst.kq.size
            clear ST Ld hst bxa L
            go_wp2_with fail
            go_meet
            exact ⟨N', f', R2, A2, c2, B2, d2, rfl, by simpa using hk9, L9⟩
        case rest =>
          obtain ⟨N', f', R2, A2, c2, B2, d2, rfl, hk9, L9⟩ := hcut
          clear p0 p1 p2 p3 y0 y1 y2 y3 ST Ld L hkb
          have LK := flinks_any _ g b (1 + z) N' f' L9.out.fl
          have hrl := L9.out.rel.ls
          have hrn := L9.out.rel.flen
          obtain ⟨nl, hnl⟩ : ∃ nl, (lks N').length = nl := ⟨_, rfl⟩
          obtain ⟨ni, hni⟩ : ∃ ni, R2.its.length = ni := ⟨_, rfl⟩
          have hnr : R2.ls.length = nl := by rw [hrl, hnl]
          have hnl256 : nl ≤ 256 := by rw [← hnl]; exact lks_len _
          have hni16 : ni ≤ 16384 := by rw [← hni]; exact L9.out.rel.len
          unfold IntsPost at LK
          rw [hnl] at LK hrn
          rw [hni] at hrn
          replace LK := Lib.hid LK
          replace hrl := Lib.hid hrl
          replace hrn := Lib.hid hrn
          replace hnl := Lib.hid hnl
          replace hni := Lib.hid hni
          replace hnr := Lib.hid hnr
          go_wp2_with fail
          (with_reducible refine (LK.out).mono ?_)
          rintro e w6 ⟨A6, c6, rfl, o6, hb6⟩
          clear LK
          have L6 : LkAt w w6 g b (1 + z) kb N' f' R2 A2 c2 B2 d2 (i + 1) A6 := ⟨L9.out.below (Nat.le_refl _) hb6, own_slice o6, Nat.le_trans hk9 hb6.size⟩
          have x2 := L6.l.bx.c 2 rfl
          rw [hnr.out] at x2
          have e0 : ((nl : Int) != (nl : Int)) = false := by simp
          replace L6 := Lib.hid L6
          clear L9 hb6 hk9 o6
          go_wp2_with fail
          clear x2 e0
          go_loopw [11, 12] (fun v11 v12 wr => ∃ (k j : Nat), v12 = .int .i64 k ∧ v11 = .int .i64 j ∧ k ≤ nl ∧ Hid (j = offN N' k) ∧ Hid (LkAt w wr g b (1 + z) kb N' f' R2 A2 c2 B2 d2 (i + 1) A6)) (fun _ v12 _ => nl - (intOf v12).toNat)
          case atStart => exact ⟨0, 0, rfl, rfl, by omega, Lib.hid (offN_zero N').symm, L6⟩
          case round =>
            clear L6
            obtain ⟨k, j, rfl, rfl, hk, hj, L6⟩ := hrel
            by_cases hkn : k < nl
            · have hkl : k < (lks N').length := by rw [hnl.out]; exact hkn
              obtain ⟨q, D, hq, hq256, hD⟩ := lks_at hkl
              obtain ⟨b6, off6, rfl, hz6⟩ := rd_at L6.out.o6 (by simp only [List.length_map]; omega)
              have z6 := hz6 k _ (by rw [List.getElem?_map, List.getElem?_eq_getElem hkl]; rfl)
              rw [hq] at z6
              unfold encZ at z6
              have PN := fpend_any _ g b (1 + z) N' f' L6.out.l.fl L6.out.l.ok q hq256 D hD
              have hsg := fun m (hm : m < (pendL D).length) => L6.out.l.rel.seg hkl (by rw [hq, Int.toNat_natCast]; exact hD) hm
              have hsu := offN_succ hkl (by rw [hq, Int.toNat_natCast]; exact hD)
              have hpl := pendL_len D
              rw [← hj.out] at hsu
              rw [← hj.out, hq] at hsg
              obtain ⟨nd, hnd⟩ : ∃ nd, (orgs D).length = nd := ⟨_, rfl⟩
              have hnd64 : nd ≤ 64 := by rw [← hnd]; exact orgs_len _
              unfold PendPost at PN
              rw [hnd] at PN hsu hpl
              replace PN := Lib.hid PN
              replace hsg := Lib.hid hsg
              replace hsu := Lib.hid hsu
              replace hpl := Lib.hid hpl
              replace hq := Lib.hid hq
              clear hz6 hD hnd
              go_wp2_with fail
              (with_reducible refine (PN.out).mono ?_)
              rintro e w7 ⟨A7, c7, ls, rfl, o7, hla, hlo, hb7⟩
              clear PN z6
              have L7 : LmAt w w7 g b (1 + z) kb N' f' R2 A2 c2 B2 d2 (i + 1) (some ⟨b6, off6, none⟩) A7 ls := ⟨L6.out.below hb7, own_slice o7, fun s hs => (hlo s hs).at⟩
              clear o7 hlo hb7 L6
              obtain ⟨_, _, e6, hz6⟩ := rd_at L7.t.o6 (by simp only [List.length_map]; omega)
              injection e6 with e6
              injection e6 with e61 e62
              subst e61 e62
              have z6 := hz6 k _ (by rw [List.getElem?_map, List.getElem?_eq_getElem hkl]; rfl)
              rw [hq.out] at z6
              unfold encZ at z6
              obtain ⟨b2, off2, rfl, hz2⟩ := rd_at (own_slice L7.t.l.la) (by simp only [List.length_map]; rw [hnr.out]; omega)
              have z2 := hz2 k (.int .i64 q) (by rw [List.getElem?_map, hrl.out, List.getElem?_eq_getElem hkl, hq.out]; rfl)
              have x2 := L7.t.l.bx.c 2 rfl
              rw [hnr.out] at x2
              have e1 : ((q : Int) != (q : Int)) = false := by simp
              have hll : ls.length = nd := by have := congrArg List.length hla; rw [hpl.out] at this; simpa [laL] using this
              replace L7 := Lib.hid L7
              replace hla := Lib.hid hla
              replace hll := Lib.hid hll
              clear hz6 hz2
              go_upto_region 24 with fail
              go_quiet (fail)
              replace L7 := Lib.hid (L7.out.below ((below_drewN (Below.refl _ _) nq)))
              clear z6 z2 x2
              generalize World.drewN w7 nq = w8 at *
              go_wp2_with fail
              clear e1
              go_loopw [11, 14] (fun v11 v14 wr => ∃ (m jm : Nat), v14 = .int .i64 m ∧ v11 = .int .i64 jm ∧ m ≤ nd ∧ Hid (jm = j + m) ∧ Hid (LmAt w wr g b (1 + z) kb N' f' R2 (some ⟨b2, off2, none⟩) c2 B2 d2 (i + 1) (some ⟨b6, off6, none⟩) A7 ls)) (fun _ v14 _ => nd - (intOf v14).toNat)
              case atStart => exact ⟨0, j, rfl, rfl, by omega, Lib.hid (by omega), L7⟩
              case round =>
                clear L7
                obtain ⟨m, jm, rfl, rfl, hm, hjm, L7⟩ := hrel
                by_cases hmn : m < nd
                · obtain ⟨hji, hs1, hs2⟩ := hsg.out m (by rw [hpl.out]; exact hmn)
                  have hml : m < ls.length := by rw [hll.out]; exact hmn
                  have hs3 : ls[m].y = (pendL D)[m]'(by rw [hpl.out]; exact hmn) := by simp only [← hla.out]; simp [laL]
                  rw [← hs3] at hs2
                  simp only [← hjm.out] at hji hs1 hs2
                  obtain ⟨s, hs⟩ : ∃ s, ls[m] = s := ⟨_, rfl⟩
                  obtain ⟨t, ht⟩ : ∃ t, R2.its[jm] = t := ⟨_, rfl⟩
                  rw [ht] at hs1 hs2
                  rw [hs] at hs2
                  obtain ⟨b7, off7, rfl⟩ := lx_form L7.out.o7 (by omega)
                  obtain ⟨bb, offb, rfl⟩ := it_form (own_slice L7.out.t.l.it) (by omega)
                  obtain ⟨x0, x1, x2, x3, x4, x5⟩ := lx_cells L7.out.o7 m hml s hs
                  obtain ⟨y0, y1, y2, y3, y4, y5, y6, _⟩ := it_cells (own_slice L7.out.t.l.it) jm hji t ht
                  have oks := L7.out.ok s (by rw [← hs]; exact List.getElem_mem hml)
                  have okt := L7.out.t.l.its t (by rw [← ht]; exact List.getElem_mem hji)
                  obtain ⟨_, _, e6, hz6⟩ := rd_at L7.out.t.o6 (by simp only [List.length_map]; omega)
                  injection e6 with e6
                  injection e6 with e61 e62
                  subst e61 e62
                  have z6 := hz6 k _ (by rw [List.getElem?_map, List.getElem?_eq_getElem hkl]; rfl)
                  rw [hq.out] at z6
                  unfold encZ at z6
                  have p3 := L7.out.t.l.bx.c 3 rfl
                  rw [hni.out] at p3 hji
                  obtain ⟨sy, sA, sc, sB, sd⟩ := s
                  obtain ⟨tq, ⟨ty, tA, tc, tB, td⟩, tt⟩ := t
                  simp only at hs1 hs2 x0 x1 x2 x3 x4 x5 y0 y1 y2 y3 y4 y5 y6
                  subst hs1 hs2
                  unfold LxOk at oks okt
                  simp only at oks okt
                  have EQ : Hid (∀ W, Below wr.heap.size wr W → Calls Try.prog 15 #[laV ty.o ty.s ty.a ty.ov sA ty.adj.length sc sB ty.pre.length sd, laV ty.o ty.s ty.a ty.ov tA ty.adj.length tc tB ty.pre.length td] W fun e w' => e = .returned (.bool true) ∧ Below W.heap.size W w') := fun W hb => by
                    have := equal_any W _ _ ty ty (oks.below hb) (okt.below hb)
                    rwa [equB_refl] at this
                  have g1 : decide (ni ≤ jm) = false := by simp; omega
                  have e1 : ((q : Int) != (q : Int)) = false := by simp
                  replace x0 := cell_regrown x0
                  replace x1 := cell_regrown x1
                  replace x2 := cell_regrown x2
                  replace x3 := cell_regrown x3
                  replace x4 := cell_regrown x4
                  replace x5 := cell_regrown x5
                  replace y0 := cell_regrown y0
                  replace y1 := cell_regrown y1
                  replace y2 := cell_regrown y2
                  replace y3 := cell_regrown y3
                  replace y4 := cell_regrown y4
                  replace y5 := cell_regrown y5
                  replace y6 := cell_regrown y6
                  replace z6 := cell_regrown z6
                  replace p3 := cell_regrown p3
                  clear hz6 oks okt ht hs hs3
                  generalize ty.adj.length = n1 at *
                  generalize ty.pre.length = n2 at *
                  obtain ⟨yo, ys, ya, yov, _, _⟩ := ty
                  dsimp only at *
                  go_upto_region 29 with fail
                  have l7 := L7.out
                  clear L7
                  refine wp_region_quiet_below (by kernel_rfl) (by kernel_rfl) ?_
                  repeat (go_big_quiet_step ((first | (go_at_call 15; with_reducible exact Calls.regrown_of (EQ.out _ (below_regrown _ _ _))))))
                  refine wpQuiet_nil ?_
                  intro _ hw'
                  obtain ⟨⟨dq, osq⟩, hw''⟩ := hw'
                  subst hw''
                  replace l7 := l7.below (below_regrown _ dq osq)
                  generalize grow (redrawn _ dq) osq = w9 at *
                  clear EQ x0 x1 x2 x3 x4 x5 y0 y1 y2 y3 y4 y5 y6 z6 p3 e1 g1
                  replace l7 := Lib.hid l7
                  go_wp2_with fail
                  go_round
                  case rel => exact ⟨m + 1, jm + 1, by go_num, by go_num, by omega, Lib.hid (by have := hjm.out; omega), l7⟩
                  case measure => simp [intOf]; omega
                · obtain rfl : m = nd := by omega
                  have L8 := Lib.hid L7.out.t
                  have hj9 : Hid (jm = offN N' (k + 1)) := Lib.hid (by rw [hsu.out]; exact hjm.out)
                  clear L7
                  go_wp2_with fail
                  go_round
                  case rel => exact ⟨k + 1, jm, by go_num, rfl, by omega, hj9, L8⟩
                  case measure => simp [intOf]; omega
            · obtain rfl : k = nl := by omega
              have hjn : j = ni := by rw [hj.out, hrn.out]
              subst hjn
              have p3 := L6.out.l.bx.c 3 rfl
              rw [hni.out] at p3
              have PN := fun W (hb : Below wr.heap.size wr W) => fpend_no W g b (1 + z) N' f' (L6.out.l.fl.below hb) 300 (by decide) (by unfold lkO; rw [if_neg (by omega)])
              have e1 : ((j : Int) != (j : Int)) = false := by simp
              replace PN := Lib.hid PN
              go_wp2_with fail
              (with_reducible refine (PN.out _ (Below.refl _ _)).mono ?_)
              rintro e w9 ⟨rfl, hb9⟩
              have L9 := L6.out.l.below (Nat.le_refl _) hb9
              have hk9 := Nat.le_trans L6.out.hk hb9.size
              replace L9 := Lib.hid L9
              clear PN p3 e1 hb9 L6
              go_wp2_with fail
              go_round
              case rel => exact ⟨i + 1, N', f', R2, A2, c2, B2, d2, by go_num, by omega, hk9, L9⟩
              case measure => simp [intOf]; omega
      · obtain rfl : n = i := by omega
        have hb9 := L.out.bel
        clear L
        go_wp2_with fail
        go_ret
        exact ⟨rfl, hb9⟩

end Go.Proofs.Ytgbcnglagnlmhaa

namespace Go.Proofs.Ytgbcnglagnlmhaa.floodScript
open Go.ChangeShapes Go.WideShapes Go.ChangeAt Go.RowKit
set_option linter.unusedVariables false

set_option maxRecDepth 100000 in
theorem lifted (os : Os) (started : os.Started) (H : Type) (enc : TypeId × Value → H) :
    ReturnsInHanded {} Try.checked os 4 .any (Rows.floodScriptSpec.pre6 enc Try.prog Try.f4 Rows.floodScriptRow.domain false) (Rows.floodScriptSpec.post enc Try.prog Try.f4 false true false false) := by
  refine returnsInHanded_of_change (C := Try.checked) frame_own started (by kernel_rfl) Try.func4
    (ChangeSpec.witness6 (enc := enc) (C := Try.checked) false ⟨#[], #[.int .u8 0, .slice none 0 0], []⟩ 8 (by kernel_rfl) (by kernel_rfl) (by kernel_rfl) (by kernel_rfl)) ?_
  intro W base args ds gs before hval0 hW hcnd _
  have hval : ∀ (j : Nat) t v, Try.f4.params[j]? = some t → args[j]? = some v → Value.okWide Try.prog W .any base t v := hval0
  have hW' := hW
  obtain ⟨p, q, hA0, hV, rfl, hfz, hnd⟩ := hW
  have hA : DataW.TrodAll enc Try.prog W 0 (fun _ => true) true Try.f4.params.toList args.toList ds p := hA0
  rw [Try.params4] at hA hval
  obtain ⟨v0, vs0, d0, ds0, p0', q0', hargs, rfl, rfl, h0, r0⟩ := trodAll_cons hA
  obtain ⟨v1, vs1, d1, ds1, p1', q1', rfl, rfl, rfl, h1, r1⟩ := trodAll_cons r0
  obtain ⟨rfl, rfl, rfl⟩ := trodAll_nil r1
  obtain rfl : args = #[v0, v1] := by cases args; simp_all
  obtain ⟨rfl, rfl⟩ := trodVars_none hV
  have k0 := h0
  have lt0 : ∀ x ∈ p0', x.block < W.heap.size := by obtain ⟨m, hm⟩ := k0; exact DataW.trod_lt m _ _ _ hm
  have k1 := h1
  have lt1 : ∀ x ∈ p1', x.block < W.heap.size := by obtain ⟨m, hm⟩ := k1; exact DataW.trod_lt m _ _ _ hm
  obtain ⟨z0, rfl, _, _, hz0⟩ := open_int Try.underlying5 (hval 0 5 v0 rfl rfl) h0
  obtain ⟨A1, n1, c1, l1, rfl, hr1, hn1, hm1, hok1⟩ := arg_sq (hval 1 39 v1 rfl rfl) h1
  clear hA0 hval0
  refine (script35_law W z0 hz0 A1 n1 c1 l1 hr1 hn1 hm1 hok1).mono fun e W' ⟨he, bel⟩ => ?_
  subst he
  exact ⟨_, rfl, _, _, _, [], _, [], hW', trodAll_mk1 (shut_bool Try.underlying4 _), (trodAll_cons_mk (Below.trod frame_laidOut (by kernel_rfl) (of_decide_eq_true (by kernel_rfl)) k0 bel lt0) (trodAll_cons_mk (Below.trod frame_laidOut (by kernel_rfl) (of_decide_eq_true (by kernel_rfl)) k1 bel lt1) trodAll_mk0)), rfl, bel.frame _, fun h => by cases h⟩

theorem over : Rows.floodScriptRow.holds Try.pinned (OpenSpec.ofChange Rows.floodScriptSpec) :=
  OpenClaim.holds_of_wide 4 Try.f4 rfl rfl rfl rfl rfl rfl rfl ⟨rfl, rfl, rfl, rfl, rfl⟩ rfl rfl rfl rfl rfl (by kernel_rfl) Try.func4 (by kernel_rfl)
    (of_decide_eq_true (by kernel_rfl)) (by unfold Func.isWrapper; first | (rw [if_pos (by decide +kernel)]; kernel_rfl) | (rw [if_neg (by decide +kernel)]; exact ⟨rfl, rfl⟩))
    (fun os started H enc _ => lifted os started H enc)

theorem proved : Rows.FloodScriptSaid := over
#print axioms proved
end Go.Proofs.Ytgbcnglagnlmhaa.floodScript
