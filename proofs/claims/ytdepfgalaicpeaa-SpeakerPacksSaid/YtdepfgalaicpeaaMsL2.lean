/-
  The walk of the statement SpeakerPacks; messages that came in.
-/
import Derived.Test.YtdepfgalaicpeaaMsL
import Derived.Test.YtdepfgalaicpeaaLaArg
namespace Go.Proofs.Ytdepfgalaicpeaa
set_option linter.unusedVariables false
open Go.RowKit Go.Sort Go.ChangeShapes Go.WideShapes Go.ChangeAt

set_option maxRecDepth 100000 in
set_option maxHeartbeats 12800000 in
theorem packs_law (w : World) (v : Value) (m : Ms) (h : MsAt w v m) :
    Calls Try.prog 3 #[v] w fun e w' => e = .returned (.bool true) ∧ Below w.heap.size w w' := by
  obtain ⟨A, c, B, d, rfl, hl⟩ := h
  have hu := hl.ok
  have S := (St.start w).new' #[.int .i64 m.k, .int .i64 m.n, .int .i64 m.b, .int .i64 m.h, .int .i64 m.y.o, .int .i64 m.y.s, .int .i64 m.y.a, .bool m.y.ov, .slice A m.y.adj.length c, .slice B m.y.pre.length d] 27 w.heap.size _ rfl rfl
  have FW := fun W hb => few_any W _ m.y (hl.below hb)
  have PK := fun W hb => spack_any W (msV m A c B d) m ⟨A, c, B, d, rfl, hl.below hb⟩
  have VA := fun W hb => rmvalid_any W (msV m A c B d) m ⟨A, c, B, d, rfl, hl.below hb⟩
  have RP := fun W hb hv => rpack_any W (msV m A c B d) m ⟨A, c, B, d, rfl, hl.below hb⟩ hv
  have hun := fun hv => unp_pack (m := m) hv hu
  have hat : Hid (∀ W, Below w.heap.size w W → LaAt W (laW m.y A c B d) m.y) := fun W hb => hl.below hb
  have hln : msB m = true → (msEnc m).length ≤ 3003 := fun hv => by
    have := msVal_len hv
    unfold msEnc
    rw [enc1_len]
    simp only
    omega
  clear hu hl
  unfold PackPost packE packB at PK
  unfold RPackPost at RP
  obtain ⟨mb, hmb⟩ : ∃ z, msB m = z := ⟨_, rfl⟩
  rw [hmb] at PK VA RP hun hln
  generalize hY : msEnc m = Y at *
  have OW := fun W => own_any W m A c B d
  obtain ⟨pe, hpe⟩ : ∃ z : Int, (if mb = true then 0 else 1) = z := ⟨_, rfl⟩
  obtain ⟨pY, hpY⟩ : ∃ z : List UInt8, (if mb = true then Y else []) = z := ⟨_, rfl⟩
  rw [hpe, hpY] at PK
  replace hpe := Lib.hid hpe
  replace hpY := Lib.hid hpY
  generalize fewB m.y = fb at *
  unfold msV at PK VA RP OW
  replace FW := Lib.hid FW
  replace PK := Lib.hid PK
  replace VA := Lib.hid VA
  replace RP := Lib.hid RP
  replace OW := Lib.hid OW
  replace hun := Lib.hid hun
  clear hY hmb
  go_enter Try.func3, Try.ntmps3
  go_wp2_with fail
  (with_reducible refine (packs_any _).mono ?_)
  rintro e w1 ⟨rfl, hb⟩
  replace S := S.call hb
  clear hb
  have a0 := S.c 0 0 rfl rfl
  have a1 := S.c 0 1 rfl rfl
  have a2 := S.c 0 2 rfl rfl
  have a3 := S.c 0 3 rfl rfl
  have a4 := S.c 0 4 rfl rfl
  have a5 := S.c 0 5 rfl rfl
  have a6 := S.c 0 6 rfl rfl
  have a7 := S.c 0 7 rfl rfl
  have a8 := S.c 0 8 rfl rfl
  have a9 := S.c 0 9 rfl rfl
  go_wp2_with fail
  (with_reducible refine (FW.out _ S.b).mono ?_)
  rintro e w2 ⟨rfl, hb⟩
  clear a0 a1 a2 a3 a4 a5 a6 a7 a8 a9
  replace S := S.call hb
  clear hb FW
  cases fb with
  | false =>
    go_wp2_with fail
    go_ret
    exact ⟨rfl, S.b⟩
  | true =>
  have a0 := S.c 0 0 rfl rfl
  have a1 := S.c 0 1 rfl rfl
  have a2 := S.c 0 2 rfl rfl
  have a3 := S.c 0 3 rfl rfl
  have a4 := S.c 0 4 rfl rfl
  have a5 := S.c 0 5 rfl rfl
  have a6 := S.c 0 6 rfl rfl
  have a7 := S.c 0 7 rfl rfl
  have a8 := S.c 0 8 rfl rfl
  have a9 := S.c 0 9 rfl rfl
  go_wp2_with fail
  (with_reducible refine (OW.out _).mono ?_)
  rintro e w3 ⟨rfl, hb⟩
  clear a0 a1 a2 a3 a4 a5 a6 a7 a8 a9
  replace S := S.call hb
  clear hb OW
  go_wp2_with fail
  (with_reducible refine (PK.out _ S.b).mono ?_)
  rintro e w4 ⟨A3, c3, rfl, o3, hb⟩
  replace S := S.call hb
  clear hb PK
  have a0 := S.c 0 0 rfl rfl
  have a1 := S.c 0 1 rfl rfl
  have a2 := S.c 0 2 rfl rfl
  have a3 := S.c 0 3 rfl rfl
  have a4 := S.c 0 4 rfl rfl
  have a5 := S.c 0 5 rfl rfl
  have a6 := S.c 0 6 rfl rfl
  have a7 := S.c 0 7 rfl rfl
  have a8 := S.c 0 8 rfl rfl
  have a9 := S.c 0 9 rfl rfl
  go_wp2_with fail
  (with_reducible refine (VA.out _ S.b).mono ?_)
  rintro e w5 ⟨rfl, hb⟩
  clear a0 a1 a2 a3 a4 a5 a6 a7 a8 a9
  replace S := S.call hb
  replace o3 := own_below o3 hb
  clear hb VA
  cases mb with
  | false =>
    obtain rfl : (1 : Int) = pe := hpe.out
    obtain rfl : ([] : List UInt8) = pY := hpY.out
    go_wp2_with fail
    go_ret
    exact ⟨rfl, S.b⟩
  | true =>
  obtain rfl : (0 : Int) = pe := hpe.out
  obtain rfl : Y = pY := hpY.out
  clear hpe hpY
  obtain ⟨hE, hM⟩ := hun.out rfl
  have hlY := hln rfl
  have RP2 := fun W hb => RP.out W hb rfl
  replace RP2 := Lib.hid RP2
  clear RP hun hln
  go_upto_region 8 with fail
  have T := S.drew
  replace o3 : w5.drew.ownsRow w3.heap.size 5 1 (.slice A3 Y.length c3) Y.length (Y.map u8v) := o3
  have a0 := T.c 0 0 rfl rfl
  have a1 := T.c 0 1 rfl rfl
  have a2 := T.c 0 2 rfl rfl
  have a3 := T.c 0 3 rfl rfl
  have a4 := T.c 0 4 rfl rfl
  have a5 := T.c 0 5 rfl rfl
  have a6 := T.c 0 6 rfl rfl
  have a7 := T.c 0 7 rfl rfl
  have a8 := T.c 0 8 rfl rfl
  have a9 := T.c 0 9 rfl rfl
  have cv := conv_bytes w5.drew Try.underlying30 Try.underlying5 Try.underlying9 (n := Y.length) (cap := c3) (own_rdp o3).1 rfl
  have tok1 : True := trivial
  go_region_law
    (first
      | (clear tok1; rw [if_pos (by simp [Region.wanted, yielded])]; go_simp; (with_reducible refine (RP2.out _ T.b).mono ?_); rintro e wb ⟨A6, c6, rfl, o6, hbb⟩; dsimp only; replace T := T.call hbb; replace o3 := own_below o3 hbb; clear hbb; have cv := conv_bytes wb Try.underlying30 Try.underlying5 Try.underlying9 (n := Y.length) (cap := c3) (own_rdp o3).1 rfl; have cw := conv_bytes wb Try.underlying30 Try.underlying5 Try.underlying9 (n := Y.length) (cap := c6) (own_rdp o6).1 rfl))
  all_goals
    obtain ⟨r3, n3, m3⟩ := own_rdp o3
    have U := sunpack_any A3 Y.length c3 Y wb r3 rfl n3 m3 (by omega)
    rw [hE, hM] at U
    unfold UnpPost at U
    replace U := Lib.hid U
    clear o3 o6 cv cw r3 RP2 hE hM
    clear a0 a1 a2 a3 a4 a5 a6 a7 a8 a9
    go_wp2_with fail
    (with_reducible refine (U.out).mono ?_)
    rintro e w7 ⟨v7, rfl, hown, hb⟩
    replace T := T.call hb
    clear U
    obtain ⟨A7, c7, B7, d7, rfl, hl⟩ := hown
    have h7 := hl.at.below (below_new' w7 (.cells #[.int .i64 m.k, .int .i64 m.n, .int .i64 m.b, .int .i64 m.h, .int .i64 m.y.o, .int .i64 m.y.s, .int .i64 m.y.a, .bool m.y.ov, .slice A7 m.y.adj.length c7, .slice B7 m.y.pre.length d7] 34))
    have T2 := T.new' #[.int .i64 m.k, .int .i64 m.n, .int .i64 m.b, .int .i64 m.h, .int .i64 m.y.o, .int .i64 m.y.s, .int .i64 m.y.a, .bool m.y.ov, .slice A7 m.y.adj.length c7, .slice B7 m.y.pre.length d7] 34 w7.heap.size _ rfl rfl
    clear T hl hb
    go_upto_region 11 with fail
    generalize w7.alloc _ = w8 at *
    generalize w7.heap.size = g8 at *
    have hat8 := hat.out w8 T2.b
    have SM : Calls Try.prog 12 #[.agg #[.int .i64 m.k, .int .i64 m.n, .int .i64 m.b, .int .i64 m.h, .int .i64 m.y.o, .int .i64 m.y.s, .int .i64 m.y.a, .bool m.y.ov, .slice A7 m.y.adj.length c7, .slice B7 m.y.pre.length d7], .agg #[.int .i64 m.k, .int .i64 m.n, .int .i64 m.b, .int .i64 m.h, .int .i64 m.y.o, .int .i64 m.y.s, .int .i64 m.y.a, .bool m.y.ov, .slice A m.y.adj.length c, .slice B m.y.pre.length d]] w8 fun e w' => e = .returned (.bool true) ∧ Below w8.heap.size w8 w' := same_any w8 _ _ m ⟨A7, c7, B7, d7, rfl, h7⟩ ⟨A, c, B, d, rfl, hat8⟩
    replace SM := Lib.hid SM
    clear h7 hat8 hat
    have a0 := T2.c 0 0 rfl rfl
    have a1 := T2.c 0 1 rfl rfl
    have a2 := T2.c 0 2 rfl rfl
    have a3 := T2.c 0 3 rfl rfl
    have a4 := T2.c 0 4 rfl rfl
    have a5 := T2.c 0 5 rfl rfl
    have a6 := T2.c 0 6 rfl rfl
    have a7 := T2.c 0 7 rfl rfl
    have a8 := T2.c 0 8 rfl rfl
    have a9 := T2.c 0 9 rfl rfl
    have b0 := T2.c 1 0 rfl rfl
    have b1 := T2.c 1 1 rfl rfl
    have b2 := T2.c 1 2 rfl rfl
    have b3 := T2.c 1 3 rfl rfl
    have b4 := T2.c 1 4 rfl rfl
    have b5 := T2.c 1 5 rfl rfl
    have b6 := T2.c 1 6 rfl rfl
    have b7 := T2.c 1 7 rfl rfl
    have b8 := T2.c 1 8 rfl rfl
    have b9 := T2.c 1 9 rfl rfl
    go_wp2_with fail
    (with_reducible refine (SM.out).mono ?_)
    rintro e w9 ⟨rfl, hb⟩
    replace T2 := T2.call hb
    go_wp2_with fail
    go_ret
    exact ⟨rfl, T2.b⟩

/-! ### Messages that came in -/
theorem opens_s5 {P : Program} {w : World} {t : TypeId} {γ : Type} {T : γ → List Value → Prop} {f0 f1 f2 f3 f4 : Field} (ht : P.underlying t = some (.struct #[f0, f1, f2, f3, f4])) (o0 : f0.offset = 0) (o1 : f1.offset = 1) (o2 : f2.offset = 2) (o3 : f3.offset = 3) (o4 : f4.offset = 4)
    (c0 : P.cellsOf f0.type = 1) (c1 : P.cellsOf f1.type = 1) (c2 : P.cellsOf f2.type = 1) (c3 : P.cellsOf f3.type = 1) (c4 : P.cellsOf f4.type = 6) (hC : P.cellsOf t = 10) (h0 : Opens P w f0.type (IsInt .i64)) (h1 : Opens P w f1.type (IsInt .i64)) (h2 : Opens P w f2.type (IsInt .i64)) (h3 : Opens P w f3.type (IsInt .i64)) (hT : Opens P w f4.type T) :
    Opens P w t (fun (x : Int × Int × Int × Int × γ) cs => ∃ cs', cs = .int .i64 x.1 :: .int .i64 x.2.1 :: .int .i64 x.2.2.1 :: .int .i64 x.2.2.2.1 :: cs' ∧ T x.2.2.2.2 cs') := by
  intro H enc base spare held fuel cs x hx
  obtain ⟨xs, n, _, _, hcl, hl, hi⟩ := DataW.trod_struct ht hx
  simp at hl
  have i0 := hi 0 f0 rfl
  have i1 := hi 1 f1 rfl
  have i2 := hi 2 f2 rfl
  have i3 := hi 3 f3 rfl
  have i4 := hi 4 f4 rfl
  rw [List.getElem?_eq_getElem (by omega)] at i0 i1 i2 i3 i4
  rw [hC] at hcl
  match cs, hcl with
  | [a, b, c, d, e0, e1, e2, e3, e4, e5], _ =>
    rw [o0, c0] at i0
    rw [o1, c1] at i1
    rw [o2, c2] at i2
    rw [o3, c3] at i3
    rw [o4, c4] at i4
    obtain ⟨p, ⟨rp, _⟩, _⟩ := h0 i0
    obtain ⟨q, ⟨rq, _⟩, _⟩ := h1 i1
    obtain ⟨r, ⟨rr, _⟩, _⟩ := h2 i2
    obtain ⟨s, ⟨rs, _⟩, _⟩ := h3 i3
    obtain ⟨u, ru, _⟩ := hT i4
    simp at rp rq rr rs
    subst rp rq rr rs
    exact ⟨(p, q, r, s, u), ⟨[e0, e1, e2, e3, e4, e5], rfl, ru⟩, by simp [hC]⟩

section
variable {H : Type} {enc : TypeId × Value → H} {w : World} {base : Nat} {spare : Nat → Bool} {held : Bool} {r : Reach} {b0 : Nat} {v : Value} {d : DataW H} {ps : List MemPlace}
set_option maxRecDepth 100000 in
theorem arg_ms (hv : Value.okWide Try.prog w r b0 27 v) (h : DataW.Trod enc Try.prog w base spare held 27 v d ps) : ∃ m, MsAt w v m := by
  have oi : Opens Try.prog w 3 (IsInt .i64) := opens_int Try.underlying3 (by kernel_rfl)
  obtain ⟨cs, x, rfl, cs', rfl, hla, hl6⟩ := arg_struct Try.underlying27 (opens_s5 Try.underlying27 rfl rfl rfl rfl rfl (by kernel_rfl) (by kernel_rfl) (by kernel_rfl) (by kernel_rfl) (by kernel_rfl) (by kernel_rfl) oi oi oi oi (opens_la w)) hv h
  obtain ⟨A, cc, B, dd, hv2, hat⟩ := hla.opened
  have hcs : cs' = [.int .i64 x.2.2.2.2.o, .int .i64 x.2.2.2.2.s, .int .i64 x.2.2.2.2.a, .bool x.2.2.2.2.ov, .slice A x.2.2.2.2.adj.length cc, .slice B x.2.2.2.2.pre.length dd] := by
    simp only [laV, Value.agg.injEq] at hv2
    have := congrArg Array.toList hv2
    simpa using this
  subst hcs
  exact ⟨⟨x.1, x.2.1, x.2.2.1, x.2.2.2.1, x.2.2.2.2⟩, A, cc, B, dd, rfl, hat⟩
end

end Go.Proofs.Ytdepfgalaicpeaa
