/-
  The contract of the reference's Decode.
-/
import Derived.Test.YtdepfgalaicpeaaDec
import Derived.Test.YtdepfgalaicpeaaEncR
import Derived.Test.YtdepfgalaicpeaaValR
import Derived.Test.YtdepfgalaicpeaaCodRD
import Derived.Deep.RegionHeld3
import Derived.Deep.RegionLaw
import Derived.IntWalk
import Derived.Deep.DeepCutAuto
import Derived.Deep.CutBlock
namespace Go.Proofs.Ytdepfgalaicpeaa
set_option linter.unusedVariables false
open Go.RowKit Go.Sort

def AccX (W0 w : World) (x : La) : Prop := ∃ vA vB, AccS W0 w x vA vB
theorem rc_block {w : World} {base : Nat} {e : TypeId} {r : Rc} (h : RcOwn w base e r) : ∀ ad, r.A = some ad → ad.block < w.heap.size := by
  intro ad e2
  rcases h.2 with ⟨e3, _⟩ | ⟨g', cap, cur, e3, _, hh, _⟩
  · rw [e2] at e3; cases e3
  · rw [e2] at e3
    simp only [Value.slice.injEq, Option.some.injEq] at e3
    obtain ⟨rfl, _⟩ := e3
    exact (Array.getElem?_eq_some_iff.1 hh).1
theorem own_slice {w : World} {base : Nat} {e : TypeId} {size : Nat} {A : Option Addr} {n c : Nat} {xs : List Value} (h : w.ownsRow base e size (.slice A n c) n xs) : Rd w A xs := by
  obtain ⟨A', c', e, r, _⟩ := own_rd h
  simp only [Value.slice.injEq, true_and] at e
  obtain ⟨rfl, rfl⟩ := e
  exact r
theorem uintB_lt2 (bs : List UInt8) (h : bs.length ≤ 4) : uintB bs < 4294967296 := by
  have := uintB_lt bs
  have := Nat.pow_le_pow_right (n := 256) (by omega) h
  omega
theorem chk_f {bs : List UInt8} : chk bs = (fl1 bs == 0 && fl2 bs == 0) := rfl

set_option maxRecDepth 100000 in
set_option maxHeartbeats 16000000 in
theorem rldecode_any (A : Option Addr) (n cap : Nat) (bs : List UInt8) (w : World) (hr : Bs w A bs) (hn : bs.length = n) (hcap : n ≤ cap) (hm : cap ≤ maxLen) (hn2 : n ≤ 100000) :
    Calls Try.prog 31 #[.slice A n cap] w (LdecPost w bs) := by
  have S : St w (w.alloc (.cells #[.int .i64 0, .int .i64 0, .int .i64 0, .bool false, .slice none 0 0, .slice none 0 0] 25)) [(w.heap.size, z6)] [(A, bs.map u8v)] := ((St.start w).read hr).new #[.int .i64 0, .int .i64 0, .int .i64 0, .bool false, .slice none 0 0, .slice none 0 0] 25
  have SU := refSum_any A n cap bs _ (S.r 0 rfl) hn (by omega)
  have DK := rdecode_any A n cap bs _ (S.r 0 rfl) hn hcap hm (by omega)
  obtain ⟨E, hE⟩ : ∃ E, ldecE bs = E := ⟨_, rfl⟩
  obtain ⟨V, hV⟩ : ∃ V, ldecV bs = V := ⟨_, rfl⟩
  have hPD : LdecPost w bs = fun e w' => ∃ v, e = .returned (.tuple #[v, .int .i64 E]) ∧ LaOwn w' w.heap.size v V ∧ Below w.heap.size w w' := by subst hE hV; rfl
  rw [hPD]
  clear hPD
  replace hE := Lib.hid hE
  replace hV := Lib.hid hV
  replace hn := Lib.hid hn
  obtain ⟨s1, hs1⟩ : ∃ z, fl1 bs = z := ⟨_, rfl⟩
  obtain ⟨s2, hs2⟩ : ∃ z, fl2 bs = z := ⟨_, rfl⟩
  have hck : chk bs = (s1 == 0 && s2 == 0) := by rw [chk_f, hs1, hs2]
  rw [hs1, hs2] at SU
  clear hs1 hs2
  by_cases hc : chk bs = false
  · obtain rfl : E = 5 := by rw [← hE.out, ldecE_sum hc]
    obtain rfl : V = laZero := by rw [← hV.out, ldecV_sum hc]
    rw [hc] at hck
    clear DK hc
    replace SU := Lib.hid SU
    have hb := S.b
    have c0 := S.c 0 0 rfl rfl
    have c1 := S.c 0 1 rfl rfl
    have c2 := S.c 0 2 rfl rfl
    have c3 := S.c 0 3 rfl rfl
    have c4 := S.c 0 4 rfl rfl
    have c5 := S.c 0 5 rfl rfl
    rcases h1 : (s1 == 0) with _ | _
    · have h1' : (s1 != 0) = true := by simpa using h1
      clear hck
      go_enter Try.func31, Try.ntmps31
      go_wp2_with fail
      (with_reducible refine SU.out.mono ?_)
      rintro e w1 ⟨rfl, rfl⟩
      go_wp2_with fail
      exact bodyPost_ret (v := .tuple #[laV 0 0 0 false none 0 0 none 0 0, .int .i64 5]) (by simp [results, Try.results31, go_sem, c0, c1, c2, c3, c4, c5]) rfl ⟨_, rfl, laZero_own _ _, hb⟩
    · rw [h1] at hck
      have h2 : (s2 == 0) = false := by simpa using hck.symm
      have h1' : (s1 != 0) = false := by simpa using h1
      have h2' : (s2 != 0) = true := by simpa using h2
      clear hck
      go_enter Try.func31, Try.ntmps31
      go_wp2_with fail
      (with_reducible refine SU.out.mono ?_)
      rintro e w1 ⟨rfl, rfl⟩
      go_wp2_with fail
      exact bodyPost_ret (v := .tuple #[laV 0 0 0 false none 0 0 none 0 0, .int .i64 5]) (by simp [results, Try.results31, go_sem, c0, c1, c2, c3, c4, c5]) rfl ⟨_, rfl, laZero_own _ _, hb⟩
  have hc1 : chk bs = true := by simpa using hc
  rw [hc1] at hck
  obtain ⟨h1, h2⟩ : s1 = 0 ∧ s2 = 0 := by simpa using hck.symm
  subst h1 h2
  clear hc hck
  replace SU := Lib.hid SU
  replace hc1 := Lib.hid hc1
  rcases hD : decO bs with _ | l
  · obtain rfl : E = 4 := by rw [← hE.out, ldec_no hc1.out (ldec_form hD)]
    obtain rfl : V = laZero := by rw [← hV.out, ldecV_no (ldec_form hD)]
    have hDE : Hid (decE bs = 4) := by show _ = _; unfold decE; rw [hD]; rfl
    clear hD
    go_enter Try.func31, Try.ntmps31
    go_wp2_with fail
    (with_reducible refine SU.out.mono ?_)
    rintro e w1 ⟨rfl, rfl⟩
    go_wp2_with fail
    (with_reducible refine DK.mono ?_)
    rintro e w2 ⟨v, rs, rfl, hown, hrs, hd, hb2⟩
    rw [hDE.out]
    replace hd := Lib.hid hd
    replace S := S.call hb2
    have c0 := S.c 0 0 rfl rfl
    have c1 := S.c 0 1 rfl rfl
    have c2 := S.c 0 2 rfl rfl
    have c3 := S.c 0 3 rfl rfl
    have c4 := S.c 0 4 rfl rfl
    have c5 := S.c 0 5 rfl rfl
    have f0 := S.f 0 0 rfl rfl
    have f1 := S.f 0 1 rfl rfl
    have f2 := S.f 0 2 rfl rfl
    have f3 := S.f 0 3 rfl rfl
    have f4 := S.f 0 4 rfl rfl
    have f5 := S.f 0 5 rfl rfl
    go_wp2_with fail
    have S9 := S.set6 0 0 0 false (.slice none 0 0) (.slice none 0 0) (Nat.le_refl _) (by simp)
    exact bodyPost_ret (v := .tuple #[laV 0 0 0 false none 0 0 none 0 0, .int .i64 4]) (by simp [results, Try.results31, go_sem, c0, c1, c2, c3, c4, c5]) rfl ⟨_, rfl, laZero_own _ _, S9.b⟩
  have hDE : Hid (decE bs = 0) := by show _ = _; unfold decE; rw [hD]; rfl
  have hDL : Hid (decL bs = l) := by show _ = _; unfold decL; rw [hD]; rfl
  have hll := (decO_all _ bs (Nat.le_refl _) l hD).2.2
  rw [hn.out] at hll
  have hno := fun h => ldec_R (l := l) hD h
  replace hno := Lib.hid hno
  clear hD
  go_enter Try.func31, Try.ntmps31
  go_wp2_with fail
  (with_reducible refine SU.out.mono ?_)
  rintro e w1 ⟨rfl, rfl⟩
  go_wp2_with fail
  (with_reducible refine DK.mono ?_)
  rintro e w2 ⟨v, rs, rfl, hown, hrs, hd, hb2⟩
  rw [hDE.out]
  rw [hDL.out] at hd
  replace S := S.call hb2
  have hrl : rs.length = l.length := by rw [← hd, List.length_map]
  replace hd := Lib.hid hd
  have hrl2 : rs.length ≤ 100000 := by omega
  replace hrl := Lib.hid hrl
  obtain ⟨A2, c2, rfl, rd2, _, _⟩ := own_rd hown
  replace hrs := Lib.hid hrs
  clear DK SU hb2 hown
  go_wp2_with fail
  generalize (w.alloc (.cells #[.int .i64 0, .int .i64 0, .int .i64 0, .bool false, .slice none 0 0, .slice none 0 0] 25)).heap.size = base at *
  have Q0 := AccS.start w2
  generalize w2.alloc (.cells #[.int .i64 0, .int .i64 0, .int .i64 0, .bool false, .slice none 0 0, .slice none 0 0] 25) = w3 at *
  go_loopw [9] (fun v9 wr => ∃ (k : Nat) (x : La), v9 = .int .i64 k ∧ k ≤ rs.length ∧ Hid (x = foldR 0 laZero ((rs.take k).map dat)) ∧ x.adj.length ≤ k ∧ x.pre.length ≤ k ∧ AccX w2 wr x) (fun v9 _ => rs.length - (intOf v9).toNat)
  case atStart => exact ⟨0, _, rfl, by omega, rfl, by simp [laZero, foldR], by simp [laZero, foldR], _, _, Q0⟩
  case round =>
    clear Q0
    obtain ⟨k, x, rfl, hk, hx, hxa, hxp, vA, vB, Q⟩ := hrel
    by_cases hkn : k < rs.length
    · obtain ⟨b, off, rfl, c0, c1⟩ := rd_recs (rd2.below Q.b) hkn
      have htk : (rs.take (k + 1)).map dat = (rs.take k).map dat ++ [dat rs[k]] := by rw [List.take_succ_eq_append_getElem hkn, List.map_append]; rfl
      have hrk := (hrs.out rs[k] (List.getElem_mem hkn)).below Q.b
      have hblk := rc_block (hrs.out rs[k] (List.getElem_mem hkn))
      generalize rs[k] = r at c0 c1 htk hrk hblk
      have hok := hrk.ok
      obtain ⟨t, B, m, c, y⟩ := r
      obtain ⟨rd, hym, hmc, hcm⟩ := hok
      simp only at c0 c1 rd hym hmc hcm hblk
      have hstep : Hid (stepR k x (t, y) = foldR 0 laZero ((rs.take (k + 1)).map dat)) := by
        show _ = _
        rw [htk, foldR_snoc, hx.out, List.length_map, List.length_take, Nat.min_eq_left hk, Nat.zero_add]; rfl
      have hsz : (stepR k x (t, y)).adj.length ≤ k + 1 ∧ (stepR k x (t, y)).pre.length ≤ k + 1 := by
        unfold stepR
        split
        · exact ⟨by simp only; omega, by simp only; omega⟩
        · split
          · exact ⟨by simp; omega, by simp only; omega⟩
          · split
            · exact ⟨by simp only; omega, by simp; omega⟩
            · exact ⟨by omega, by omega⟩
      obtain ⟨x', hx'⟩ : ∃ x', stepR k x (t, y) = x' := ⟨_, rfl⟩
      rw [hx'] at hstep hsz
      clear htk hrk
      go_upto_block 1 with fail
      go_cut [] (fun wx => AccX w2 wx x')
      case first =>
        replace hx' := Lib.hid hx'
        replace hym := Lib.hid hym
        have hno : (¬ (k = 0 ∧ t = 1 ∧ m = 9)) → (¬ (t = 2 ∧ m = 6)) → (¬ (t = 3 ∧ m = 5)) → x = x' := by
          intro h1 h2 h3
          have := hx'.out
          rw [stepR, hym.out, if_neg h1, if_neg h2, if_neg h3] at this
          exact this
        obtain ⟨cA, hcA⟩ : ∃ z, (((k : Int) == 0) && ((t == 1) && ((m : Int) == 9))) = z := ⟨_, rfl⟩
        have hcA2 : cA = true ↔ k = 0 ∧ t = 1 ∧ m = 9 := by rw [← hcA]; simp; omega
        replace hno : cA = false → _ := fun h => hno (fun h2 => by rw [hcA2.2 h2] at h; cases h)
        replace hno := Lib.hid hno
        replace hcA2 := Lib.hid hcA2
        replace rd := Lib.hid rd
        replace hblk := Lib.hid hblk
        go_upto_region 12 with fail
        go_cut [42] (fun v42 wx => v42 = .bool cA ∧ wr = wx)
        case first =>
          rcases hkb : ((k : Int) == 0) with _ | _
          · rw [hkb] at hcA
            subst hcA
            go_wp2_with fail
            go_meet
            exact ⟨rfl, rfl⟩
          · rcases h1 : (t == 1) with _ | _
            · rw [hkb, h1] at hcA
              subst hcA
              go_wp2_with fail
              go_meet
              exact ⟨rfl, rfl⟩
            · rw [hkb, h1] at hcA
              simp only [Bool.true_and] at hcA
              go_wp2_with fail
              go_meet
              exact ⟨by rw [← hcA], rfl⟩
        case rest =>
        obtain ⟨rfl, rfl⟩ := hcut
        clear hcA
        replace rd := rd.out
        replace hblk := hblk.out
        cases cA with
        | true =>
          obtain ⟨hk0, rfl, rfl⟩ := hcA2.out.1 rfl
          clear hcA2 hno
          have hst := hx'.out
          rw [stepR, if_pos ⟨hk0, rfl, hym.out⟩] at hst
          clear hk0
          have hlt0 := uintB_lt2 (y.take 2) (by rw [List.length_take]; omega)
          have hlt1 := uintB_lt2 ((y.drop 2).take 4) (by rw [List.length_take]; omega)
          have hlt2 := uintB_lt2 ((y.drop 6).take 2) (by rw [List.length_take]; omega)
          have hl0 : (y.take 2).length = 2 := by rw [List.length_take, hym.out]; rfl
          have hl1 : ((y.drop 2).take 4).length = 4 := by rw [List.length_take, List.length_drop, hym.out]; rfl
          have hl2 : ((y.drop 6).take 2).length = 2 := by rw [List.length_take, List.length_drop, hym.out]; rfl
          have r0 : Bs wr.drew B (y.take 2) := by have := Rd.take rd 2; rw [← List.map_take] at this; exact this.drew
          have r1 : Bs wr.drew (subA B 2 c) ((y.drop 2).take 4) := by have := (Rd.sub rd 2 c (by rw [List.length_map, hym.out]; exact hmc)).take 4; rw [← List.map_drop, ← List.map_take] at this; exact this.drew
          have r2 : Bs wr.drew (subA B 6 c) ((y.drop 6).take 2) := by have := (Rd.sub rd 6 c (by rw [List.length_map, hym.out]; exact hmc)).take 2; rw [← List.map_drop, ← List.map_take] at this; exact this.drew
          have U0 := ruint_any B 2 c _ _ r0 hl0 (by omega)
          have U1 := ruint_any (subA B 2 c) 4 (c - 2) _ _ r1 hl1 (by omega)
          have U2 := ruint_any (subA B 6 c) 2 (c - 6) _ _ r2 hl2 (by omega)
          have hs0 := fun W => run_upto bytesT B 9 c 2 (by omega) W (P := Try.prog)
          have hs1 := fun W => run_sub bytesT B 9 c 2 6 (by omega) (by omega) W (P := Try.prog)
          have hs2 := fun W => run_sub bytesT B 9 c 6 8 (by omega) (by omega) W (P := Try.prog)
          simp only [Int.cast_ofNat_Int, Nat.reduceSub] at hs0 hs1 hs2
          obtain ⟨bb, oo, hBe, hcc⟩ := rd_at rd (by rw [List.length_map, hym.out]; omega)
          have z8 : wr.cell? ⟨bb, oo + 8, none⟩ = some (.int .u8 ((y.getD 8 0).toNat : Int)) := hcc 8 _ (by
            rw [List.getElem?_map, List.getElem?_eq_getElem (by rw [hym.out]; omega), List.getD_eq_getElem?_getD, List.getElem?_eq_getElem (by rw [hym.out]; omega)]; rfl)
          have hbb : bb ≠ w2.heap.size := by have := hblk _ hBe; simp only at this; omega
          have hbb' : w2.heap.size ≠ bb := fun e => hbb e.symm
          clear hcc r0 r1 r2 hl0 hl1 hl2 rd hblk
          generalize uintB (y.take 2) = q0 at *
          generalize uintB ((y.drop 2).take 4) = q1 at *
          generalize uintB ((y.drop 6).take 2) = q2 at *
          generalize subA B 2 c = X1 at *
          generalize subA B 6 c = X2 at *
          subst hBe
          have hbe : (((y.getD 8 0).toNat : Int) == 1) = decide ((y.getD 8 0).toNat = 1) := by rw [Bool.eq_iff_iff]; simp; omega
          generalize decide ((y.getD 8 0).toNat = 1) = q4 at *
          generalize (y.getD 8 0).toNat = q8 at *
          replace hst := Lib.hid hst
          have d0 := Q.box.c 0 rfl
          have d1 := Q.box.c 1 rfl
          have d2 := Q.box.c 2 rfl
          have d3 := Q.box.c 3 rfl
          have e0 := Q.box.f 0 rfl
          have e1 := Q.box.f 1 rfl
          have e2 := Q.box.f 2 rfl
          have e3 := Q.box.f 3 rfl
          have Q2 := (Q.head q0 q1 q2 q4).drew
          have hw0 : IntKind.i64.wrap (q0 : Int) = (q0 : Int) := IntWalk.i64_in _ (by omega)
          have hw1 : IntKind.i64.wrap (q1 : Int) = (q1 : Int) := IntWalk.i64_in _ (by omega)
          have hw2 : IntKind.i64.wrap (q2 : Int) = (q2 : Int) := IntWalk.i64_in _ (by omega)
          replace U0 := Lib.hid U0
          replace U1 := Lib.hid U1
          replace U2 := Lib.hid U2
          have tok1 : True := trivial
          have tok2 : True := trivial
          have tok3 : True := trivial
          clear Q
          go_wp2_with fail
          go_region_held3 (fun w' => w'.cell? ⟨bb, oo + 8, none⟩ = some (.int .u8 (q8 : Int))) (first | assumption | go_keep)
            (first
              | (clear tok1; (with_reducible refine U0.out.mono ?_); rintro e w5 ⟨rfl, rfl⟩)
              | (clear tok2; (with_reducible refine U1.out.mono ?_); rintro e w5 ⟨rfl, rfl⟩)
              | (clear tok3; (with_reducible refine U2.out.mono ?_); rintro e w5 ⟨rfl, rfl⟩))
          go_wp2_with fail
          go_meet
          exact ⟨vA, vB, hst.out ▸ Q2⟩
        | false =>
          replace hno := hno.out rfl
          clear hcA2
          by_cases hB : t = 2 ∧ m = 6
          · obtain ⟨rfl, rfl⟩ := hB
            have hst := hx'.out
            rw [stepR, if_neg (by simp), if_pos ⟨rfl, hym.out⟩] at hst
            have hlt0 := uintB_lt2 (y.take 2) (by rw [List.length_take]; omega)
            have hlt1 := uintB_lt2 ((y.drop 2).take 2) (by rw [List.length_take]; omega)
            have hlt2 := uintB_lt2 ((y.drop 4).take 2) (by rw [List.length_take]; omega)
            have hl0 : (y.take 2).length = 2 := by rw [List.length_take, hym.out]; rfl
            have hl1 : ((y.drop 2).take 2).length = 2 := by rw [List.length_take, List.length_drop, hym.out]; rfl
            have hl2 : ((y.drop 4).take 2).length = 2 := by rw [List.length_take, List.length_drop, hym.out]; rfl
            have r0 : Bs wr.drew B (y.take 2) := by have := Rd.take rd 2; rw [← List.map_take] at this; exact this.drew
            have r1 : Bs wr.drew (subA B 2 c) ((y.drop 2).take 2) := by have := (Rd.sub rd 2 c (by rw [List.length_map, hym.out]; exact hmc)).take 2; rw [← List.map_drop, ← List.map_take] at this; exact this.drew
            have r2 : Bs wr.drew (subA B 4 c) ((y.drop 4).take 2) := by have := (Rd.sub rd 4 c (by rw [List.length_map, hym.out]; exact hmc)).take 2; rw [← List.map_drop, ← List.map_take] at this; exact this.drew
            have U0 := ruint_any B 2 c _ _ r0 hl0 (by omega)
            have U1 := ruint_any (subA B 2 c) 2 (c - 2) _ _ r1 hl1 (by omega)
            have U2 := ruint_any (subA B 4 c) 2 (c - 4) _ _ r2 hl2 (by omega)
            have hs0 := fun W => run_upto bytesT B 6 c 2 (by omega) W (P := Try.prog)
            have hs1 := fun W => run_sub bytesT B 6 c 2 4 (by omega) (by omega) W (P := Try.prog)
            have hs2 := fun W => run_sub bytesT B 6 c 4 6 (by omega) (by omega) W (P := Try.prog)
            simp only [Int.cast_ofNat_Int, Nat.reduceSub] at hs0 hs1 hs2
            clear r0 r1 r2 hl0 hl1 hl2 rd hblk hno
            generalize uintB (y.take 2) = q0 at *
            generalize uintB ((y.drop 2).take 2) = q1 at *
            generalize uintB ((y.drop 4).take 2) = q2 at *
            generalize subA B 2 c = X1 at *
            generalize subA B 4 c = X2 at *
            replace hst := Lib.hid hst
            have d4 := Q.box.c 4 rfl
            have d4b : (wr.alloc (.cells #[.int .i64 (q0 : Int), .int .i64 (q1 : Int), .int .i64 (q2 : Int)] 75)).cell? ⟨w2.heap.size, 4, none⟩ = some vA := (Q.box.later (below_new' wr _)).c 4 rfl
            have f1 : x.adj.length + 1 ≤ maxLen := by simp only [maxLen]; omega
            have f2 : (x.adj.length + 1) * 24 ≤ 140737488355328 := by omega
            have hw0 : IntKind.i64.wrap (q0 : Int) = (q0 : Int) := IntWalk.i64_in _ (by omega)
            have hw1 : IntKind.i64.wrap (q1 : Int) = (q1 : Int) := IntWalk.i64_in _ (by omega)
            have hw2 : IntKind.i64.wrap (q2 : Int) = (q2 : Int) := IntWalk.i64_in _ (by omega)
            replace U0 := Lib.hid U0
            replace U1 := Lib.hid U1
            replace U2 := Lib.hid U2
            have tok1 : True := trivial
            have tok2 : True := trivial
            have tok3 : True := trivial
            have tok4 : True := trivial
            go_wp2_with fail
            go_region_law
              (first
                | (clear tok1; rw [if_pos (by simp [Region.wanted])]; go_simp; (with_reducible refine U0.out.mono ?_); rintro e w5 ⟨rfl, rfl⟩; dsimp only)
                | (clear tok2; rw [if_pos (by simp [Region.wanted])]; go_simp; (with_reducible refine U1.out.mono ?_); rintro e w5 ⟨rfl, rfl⟩; dsimp only)
                | (clear tok3; rw [if_pos (by simp [Region.wanted])]; go_simp; (with_reducible refine U2.out.mono ?_); rintro e w5 ⟨rfl, rfl⟩; dsimp only)
                | (have b7 := below_new' wr (.cells #[.int .i64 (q0 : Int), .int .i64 (q1 : Int), .int .i64 (q2 : Int)] 75); have o7 := own_below Q.oA b7; have s7 : w2.heap.size + 1 ≤ (wr.alloc (.cells #[.int .i64 (q0 : Int), .int .i64 (q1 : Int), .int .i64 (q2 : Int)] 75)).drew.heap.size := (by have := Q.b.size; simp; omega); refine step_appG (o := ⟨some 106, _, _, _, _, _⟩) rfl adT (.tmp 91) (.tmp 105) (by rfl) (w2.heap.size + 1) (by rfl) (show (wr.alloc _).drew.ownsRow _ _ _ _ _ _ from o7) (m := 1) (by rfl) rfl (Rd.drew (Rd.lit wr #[.int .i64 (q0 : Int), .int .i64 (q1 : Int), .int .i64 (q2 : Int)] 75)) (by simp [Value.oneCell']) f1 f2 s7 (x.adj.length + 1) _ rfl rfl ?_; intro v8 w8 hown8 hbel8 hgr8; obtain ⟨g8, k8, rfl, _, _, _⟩ := own_form hown8 (by omega); have hne8 : vA.ownBlock ≠ some w2.heap.size := (fun e => (by have := (o7.lt _ e).1; omega)); have bx8 := Box.kept (Box.drew (Q.box.later b7)) hgr8 (fun e => hne8 e.symm) (by simp); have d8 := bx8.c 4 rfl; have e8 := bx8.f 4 rfl; have Q8 := Q.addA b7.drew ((q0 : Int), (q1 : Int), (q2 : Int)) hown8 hgr8))
            all_goals
              go_wp2_with fail
              go_meet
              exact ⟨_, vB, hst.out ▸ Q8⟩
          by_cases hC : t = 3 ∧ m = 5
          · obtain ⟨rfl, rfl⟩ := hC
            have hst := hx'.out
            rw [stepR, if_neg (by simp), if_neg (by simp), if_pos ⟨rfl, hym.out⟩] at hst
            have hlt0 := uintB_lt2 (y.take 4) (by rw [List.length_take]; omega)
            have hl0 : (y.take 4).length = 4 := by rw [List.length_take, hym.out]; rfl
            have r0 : Bs wr.drew B (y.take 4) := by have := Rd.take rd 4; rw [← List.map_take] at this; exact this.drew
            have U0 := ruint_any B 4 c _ _ r0 hl0 (by omega)
            have hs0 := fun W => run_upto bytesT B 5 c 4 (by omega) W (P := Try.prog)
            simp only [Int.cast_ofNat_Int] at hs0
            obtain ⟨bb, oo, hBe, hcc⟩ := rd_at rd (by rw [List.length_map, hym.out]; omega)
            have z4 : wr.cell? ⟨bb, oo + 4, none⟩ = some (.int .u8 ((y.getD 4 0).toNat : Int)) := hcc 4 _ (by
              rw [List.getElem?_map, List.getElem?_eq_getElem (by rw [hym.out]; omega), List.getD_eq_getElem?_getD, List.getElem?_eq_getElem (by rw [hym.out]; omega)]; rfl)
            have hb8 := UInt8.toNat_lt (y.getD 4 0)
            clear r0 hl0 rd hblk hno hB hcc
            subst hBe
            generalize uintB (y.take 4) = q0 at *
            generalize (y.getD 4 0).toNat = q1 at *
            replace hst := Lib.hid hst
            have d4 := Q.box.c 5 rfl
            have bA := below_new' wr (.cells #[.int .u32 (q0 : Int), .int .i64 (q1 : Int)] 78)
            have d4b : (wr.alloc (.cells #[.int .u32 (q0 : Int), .int .i64 (q1 : Int)] 78)).cell? ⟨w2.heap.size, 5, none⟩ = some vB := (Q.box.later bA).c 5 rfl
            have z4b := cell_later bA z4
            clear bA
            have f1 : x.pre.length + 1 ≤ maxLen := by simp only [maxLen]; omega
            have f2 : (x.pre.length + 1) * 16 ≤ 140737488355328 := by omega
            have hw0 : IntKind.u32.wrap (q0 : Int) = (q0 : Int) := by rw [IntKind.wrap_u32]; omega
            have hw1 : IntKind.i64.wrap (q1 : Int) = (q1 : Int) := IntWalk.i64_in _ (by omega)
            replace U0 := Lib.hid U0
            have tok1 : True := trivial
            go_wp2_with fail
            go_region_law
              (first
                | (clear tok1; rw [if_pos (by simp [Region.wanted])]; go_simp; (with_reducible refine U0.out.mono ?_); rintro e w5 ⟨rfl, rfl⟩; dsimp only)
                | (have b7 := below_new' wr (.cells #[.int .u32 (q0 : Int), .int .i64 (q1 : Int)] 78); have o7 := own_below Q.oB b7; have s7 : w2.heap.size + 1 ≤ (wr.alloc (.cells #[.int .u32 (q0 : Int), .int .i64 (q1 : Int)] 78)).drew.heap.size := (by have := Q.b.size; simp; omega); refine step_appG (o := ⟨some 132, _, _, _, _, _⟩) rfl pfT (.tmp 121) (.tmp 131) (by rfl) (w2.heap.size + 1) (by rfl) (show (wr.alloc _).drew.ownsRow _ _ _ _ _ _ from o7) (m := 1) (by rfl) rfl (Rd.drew (Rd.lit wr #[.int .u32 (q0 : Int), .int .i64 (q1 : Int)] 78)) (by simp [Value.oneCell']) f1 f2 s7 (x.pre.length + 1) _ rfl rfl ?_; intro v8 w8 hown8 hbel8 hgr8; obtain ⟨g8, k8, rfl, _, _, _⟩ := own_form hown8 (by omega); have hne8 : vB.ownBlock ≠ some w2.heap.size := (fun e => (by have := (o7.lt _ e).1; omega)); have bx8 := Box.kept (Box.drew (Q.box.later b7)) hgr8 (fun e => hne8 e.symm) (by simp); have d8 := bx8.c 5 rfl; have e8 := bx8.f 5 rfl; have Q8 := Q.addB b7.drew (q0, (q1 : Int)) hlt0 hown8 hgr8))
            all_goals
              go_wp2_with fail
              go_meet
              exact ⟨vA, _, hst.out ▸ Q8⟩
          obtain rfl := hno hB hC
          have hfin : Hid (AccX w2 wr x) := ⟨vA, vB, Q⟩
          clear hno hx' Q
          by_cases h2 : t = 2
          · subst h2
            have h6 : ((m : Int) == 6) = false := by simp at hB; simp; omega
            clear hB hC
            go_wp2_with fail
            go_meet
            exact hfin.out
          have h2b : (t == 2) = false := by simpa using h2
          by_cases h3 : t = 3
          · subst h3
            have h5 : ((m : Int) == 5) = false := by simp at hC; simp; omega
            clear hB hC h2
            go_wp2_with fail
            go_meet
            exact hfin.out
          have h3b : (t == 3) = false := by simpa using h3
          clear hB hC h2 h3
          go_wp2_with fail
          go_meet
          exact hfin.out
      case rest =>
        clear Q
        go_wp2_with fail
        go_roundw
        case rel => exact ⟨k + 1, _, by go_num, by omega, hstep.out ▸ rfl, hsz.1, hsz.2, hcut⟩
        case measure => simp [intOf]; omega
    · obtain rfl : k = rs.length := by omega
      rw [List.take_length] at hx
      rw [hd.out] at hx
      obtain ⟨A1, a1, rfl, rdA, hca, hma⟩ := own_rd Q.oA
      obtain ⟨B1, b1, rfl, rdB, hcb, hmb⟩ := own_rd Q.oB
      have VV := fun W (h : Below wr.heap.size wr W) => rvalid_any x.o x.s x.a x.ov x.adj x.pre A1 x.adj.length a1 B1 x.pre.length b1 W rfl rfl (by omega) (by omega) (rdA.below h) (rdB.below h) Q.u
      rw [show (⟨x.o, x.s, x.a, x.ov, x.adj, x.pre⟩ : La) = x from rfl] at VV
      have S2 := S.call Q.b
      have c0 := Q.box.c 0 rfl
      have c1 := Q.box.c 1 rfl
      have c2 := Q.box.c 2 rfl
      have c3 := Q.box.c 3 rfl
      have c4 := Q.box.c 4 rfl
      have c5 := Q.box.c 5 rfl
      clear rd2 hrs
      have tok1 : True := trivial
      by_cases hv : LaValid x
      rotate_left
      · have hnd : ¬ DecIs bs (foldR 0 laZero l) := fun h => hv (hx.out ▸ h.1.1)
        obtain rfl : E = 4 := by rw [← hE.out, ldec_no hc1.out (hno.out hnd)]
        obtain rfl : V = laZero := by rw [← hV.out, ldecV_no (hno.out hnd)]
        rw [vB_f hv] at VV
        clear hnd
        replace VV := Lib.hid VV
        replace hv := Lib.hid hv
        have c0 := cell_regrown c0
        have c1 := cell_regrown c1
        have c2 := cell_regrown c2
        have c3 := cell_regrown c3
        have c4 := cell_regrown c4
        have c5 := cell_regrown c5
        clear rdA rdB
        go_wp2_with fail
        refine wp_region_quiet_below (by kernel_rfl) (by kernel_rfl) ?_
        repeat (go_big_quiet_step (first
          | (go_at_call 19; with_reducible exact Calls.regrown_of (VV.out _ (below_regrown _ _ _)))))
        refine wpQuiet_nil ?_
        intro _ hw'
        obtain ⟨⟨dq, osq⟩, hw''⟩ := hw'
        subst hw''
        have hb4 := below_regrown wr dq osq
        replace S2 := S2.call hb4
        clear c0 c1 c2 c3 c4 c5 VV
        generalize grow (redrawn wr dq) osq = w4 at *
        have c0 := S2.c 0 0 rfl rfl
        have c1 := S2.c 0 1 rfl rfl
        have c2 := S2.c 0 2 rfl rfl
        have c3 := S2.c 0 3 rfl rfl
        have c4 := S2.c 0 4 rfl rfl
        have c5 := S2.c 0 5 rfl rfl
        have f0 := S2.f 0 0 rfl rfl
        have f1 := S2.f 0 1 rfl rfl
        have f2 := S2.f 0 2 rfl rfl
        have f3 := S2.f 0 3 rfl rfl
        have f4 := S2.f 0 4 rfl rfl
        have f5 := S2.f 0 5 rfl rfl
        go_wp2_with fail
        have S9 := S2.set6 0 0 0 false (.slice none 0 0) (.slice none 0 0) (Nat.le_refl _) (by simp)
        exact bodyPost_ret (v := .tuple #[laV 0 0 0 false none 0 0 none 0 0, .int .i64 4]) (by simp [results, Try.results31, go_sem, c0, c1, c2, c3, c4, c5]) rfl ⟨_, rfl, laZero_own _ _, S9.b⟩
      rw [vB_t hv] at VV
      replace VV := Lib.hid VV
      have CV := fun W (h : Bs W A bs) => conv_bytes (P := Try.prog) W (src := 30) (dst := 9) (e := 5) Try.underlying30 Try.underlying5 Try.underlying9 (cap := cap) h hn.out
      have CE := fun W A4 a4 (h : Bs W A4 (laEnc x)) => conv_bytes (P := Try.prog) W (src := 30) (dst := 9) (e := 5) Try.underlying30 Try.underlying5 Try.underlying9 (cap := a4) h rfl
      have LE := fun W (h : AccS w2 W x (.slice A1 x.adj.length a1) (.slice B1 x.pre.length b1)) => rencode_any x.o x.s x.a x.ov x.adj x.pre A1 x.adj.length a1 B1 x.pre.length b1 W rfl rfl (own_slice h.oA) (own_slice h.oB) Q.u hv
      replace CV := Lib.hid CV
      replace CE := Lib.hid CE
      replace LE := Lib.hid LE
      replace hv := Lib.hid hv
      have Q0 := Q.drew
      have T0 := S2.drew
      have cv0 := CV.out _ (T0.r 0 rfl)
      have cv0b : (convert 30 9 (.slice A n cap)).run Try.prog wr = _ := CV.out _ (S2.r 0 rfl)
      have tok2 : True := trivial
      obtain ⟨z, hz⟩ : ∃ z, (laEnc x != bs) = z := ⟨_, rfl⟩
      replace hz := Lib.hid hz
      go_upto_region 18 with fail
      go_cut [144] (fun v wx => v = .bool z ∧ Below wr.heap.size wr wx)
      case first =>
        go_region_law
          (first
            | (clear tok1; rw [if_pos (by simp [Region.wanted])]; go_simp; (with_reducible refine (VV.out wr.drew (Below.refl _ _).drew).mono ?_); rintro e w4 ⟨rfl, hb4⟩; have Q4 := Q0.call hb4; have T4 := T0.call hb4; have cv4 := CV.out _ (T4.r 0 rfl); have d0 := Q4.box.c 0 rfl; have d1 := Q4.box.c 1 rfl; have d2 := Q4.box.c 2 rfl; have d3 := Q4.box.c 3 rfl; have d4 := Q4.box.c 4 rfl; have d5 := Q4.box.c 5 rfl; dsimp only)
            | (clear tok2; rw [if_pos (by simp [Region.wanted, yielded])]; go_simp; (with_reducible refine (LE.out w4 Q4).mono ?_); rintro e w5 ⟨v5, rfl, hown5, hb5⟩; have Q5 := Q4.call hb5; have T5 := T4.call hb5; obtain ⟨A5, a5, rfl, rd5, _, _⟩ := own_rd hown5; have cv5 := CV.out _ (T5.r 0 rfl); have ce5 := CE.out _ _ a5 rd5; dsimp only))
        all_goals
          go_wp2_with fail
          go_meet
          exact ⟨by rw [← hz.out]; rfl, ((Below.refl wr.heap.size wr).drew.trans (hb4.mono (Nat.le_refl _))).trans (hb5.mono hb4.size)⟩
      case rest =>
      obtain ⟨rfl, hb⟩ := hcut
      clear c0 c1 c2 c3 c4 c5 rdA rdB cv0 cv0b LE CE CV VV Q0 T0
      have Q := Q.call hb
      replace S2 := S2.call hb
      have c0 := S2.c 0 0 rfl rfl
      have c1 := S2.c 0 1 rfl rfl
      have c2 := S2.c 0 2 rfl rfl
      have c3 := S2.c 0 3 rfl rfl
      have c4 := S2.c 0 4 rfl rfl
      have c5 := S2.c 0 5 rfl rfl
      have f0 := S2.f 0 0 rfl rfl
      have f1 := S2.f 0 1 rfl rfl
      have f2 := S2.f 0 2 rfl rfl
      have f3 := S2.f 0 3 rfl rfl
      have f4 := S2.f 0 4 rfl rfl
      have f5 := S2.f 0 5 rfl rfl
      by_cases he : laEnc x = bs
      · have hyes : DecIs bs x := ⟨⟨hv.out, Q.u⟩, he⟩
        obtain rfl : E = 0 := by rw [← hE.out, (ldec_yes hyes).1]
        obtain rfl : V = x := by rw [← hV.out, (ldec_yes hyes).2]
        obtain rfl : z = false := by rw [← hz.out]; simp [he]
        clear he hyes hz
        replace hx := Lib.hid hx
        have d0 := Q.box.c 0 rfl
        have d1 := Q.box.c 1 rfl
        have d2 := Q.box.c 2 rfl
        have d3 := Q.box.c 3 rfl
        have d4 := Q.box.c 4 rfl
        have d5 := Q.box.c 5 rfl
        go_wp2_with fail
        have S9 := S2.set6 V.o V.s V.a V.ov (.slice A1 V.adj.length a1) (.slice B1 V.pre.length b1) (Nat.le_refl _) (by simp)
        have hlt : w.heap.size < w2.heap.size + 1 := by have := S.b.size; omega
        refine bodyPost_ret (v := .tuple #[laV V.o V.s V.a V.ov A1 V.adj.length a1 B1 V.pre.length b1, .int .i64 0]) (by simp [results, Try.results31, go_sem, c0, c1, c2, c3, c4, c5]) rfl ⟨_, rfl, ⟨A1, a1, B1, b1, rfl, ?_, ?_, Q.u⟩, S9.b⟩
        · exact own_mono (own_set6 Q.oA hlt _ _ _ _ _ _) (Nat.le_of_lt hlt)
        · exact own_mono (own_set6 Q.oB hlt _ _ _ _ _ _) (Nat.le_of_lt hlt)
      · have hnd : ¬ DecIs bs (foldR 0 laZero l) := fun h => he (hx.out ▸ h.2)
        obtain rfl : E = 4 := by rw [← hE.out, ldec_no hc1.out (hno.out hnd)]
        obtain rfl : V = laZero := by rw [← hV.out, ldecV_no (hno.out hnd)]
        obtain rfl : z = true := by rw [← hz.out]; simp [he]
        clear he hnd hz
        go_wp2_with fail
        have S9 := S2.set6 0 0 0 false (.slice none 0 0) (.slice none 0 0) (Nat.le_refl _) (by simp)
        exact bodyPost_ret (v := .tuple #[laV 0 0 0 false none 0 0 none 0 0, .int .i64 4]) (by simp [results, Try.results31, go_sem, c0, c1, c2, c3, c4, c5]) rfl ⟨_, rfl, laZero_own _ _, S9.b⟩

end Go.Proofs.Ytdepfgalaicpeaa
