/-
  The contract of the reference's Decode.
-/
import Derived.Test.YtdepfgalaicpeaaCodP
import Derived.Test.YtdepfgalaicpeaaBytes
import Derived.Deep.RegionHeld3
import Derived.Deep.DrawnRows
import Derived.IntWalk
namespace Go.Proofs.Ytdepfgalaicpeaa
set_option linter.unusedVariables false
open Go.RowKit
attribute [local go_sem ↓] Go.wp_at_zero Go.wp_at_succ

theorem rrecT' : ElemT Try.prog 57 56 (.agg #[.int .i64 0, .slice none 0 0]) 2 32 := ⟨Try.underlying57, by kernel_rfl, rfl, by omega⟩

theorem W2b {w1 w2 : World} (hb : Below w1.heap.size w1 w2) (x0 : Nat) (A3 : Option Addr) (N c3 : Nat) : Below w1.heap.size w1 (w2.alloc (.cells #[.int .i64 (x0 : Int), .slice A3 N c3] 56)) :=
  (hb.trans ((below_new' w2 _).mono hb.size))
theorem W2o {base2 : Nat} {e : TypeId} {s : Nat} {v : Value} {n : Nat} {xs : List Value} {w1 w2 : World} (hown : w1.ownsRow base2 e s v n xs) (hb : Below w1.heap.size w1 w2) (x0 : Nat) (A3 : Option Addr) (N c3 : Nat) :
    (w2.alloc (.cells #[.int .i64 (x0 : Int), .slice A3 N c3] 56)).ownsRow base2 e s v n xs := own_below hown (W2b hb x0 A3 N c3)
theorem W2c (x0 : Nat) (A3 : Option Addr) (N c3 : Nat) : ∀ u ∈ [(.int .i64 (x0 : Int) : Value), .slice A3 N c3], u.oneCell' = true := by simp [Value.oneCell']
theorem W2r (w2 : World) (x0 : Nat) (A3 : Option Addr) (N c3 : Nat) : Rd (w2.alloc (.cells #[.int .i64 (x0 : Int), .slice A3 N c3] 56)) (some ⟨w2.heap.size, 0, none⟩) [.int .i64 (x0 : Int), .slice A3 N c3] := Rd.lit w2 _ _
set_option maxHeartbeats 4000000 in
set_option maxRecDepth 100000 in
theorem rdecode_any (A : Option Addr) (n cap : Nat) (bs : List UInt8) (w : World) (hr : Bs w A bs) (hn : bs.length = n) (hcap : n ≤ cap) (hm : cap ≤ maxLen) (hn2 : n ≤ 1000000000) :
    Calls Try.prog 28 #[.slice A n cap] w (DecPost 56 5 w bs) := by
  unfold maxLen at hm
  have S := St.start w
  obtain ⟨D, hD⟩ : ∃ D, decO bs = D := ⟨_, rfl⟩
  have hPD : DecPost 56 5 w bs = DecPostD 56 5 w D := by subst hD; rfl
  rw [hPD]
  have hDD : Hid (D = (decO bs).map (([] : List Rc).map dat ++ ·)) := by show _ = _; rw [hD]; simp
  clear hPD hD
  replace hn := Lib.hid hn
  go_enter Try.func28, Try.ntmps28
  go_wp2_with fail
  go_loopw [0, 4] (fun v0 v4 wr => ∃ (B : Option Addr) (q c : Nat) (rest : List UInt8) (rs : List Rc), v0 = .slice B q c ∧ Bs w B rest ∧ Hid (rest.length = q) ∧ q ≤ c ∧ c ≤ 9223372036854775807 ∧ rs.length + q ≤ 1000000000 ∧
      wr.ownsRow w.heap.size 56 2 v4 rs.length (recV rs) ∧ Hid (∀ r ∈ rs, RcOwn wr w.heap.size 5 r) ∧ Hid (D = (decO rest).map (rs.map dat ++ ·)) ∧ St w wr [] []) (fun v0 _ _ => match v0 with | .slice _ q _ => q | _ => 0)
  case atStart => exact ⟨A, n, cap, bs, [], rfl, hr, hn, hcap, by omega, by simp; omega, World.ownsRow_nil _ _ _ _, (by intro r hr; simp at hr), hDD, S⟩
  case round =>
    clear S hDD hn hr hcap hm
    obtain ⟨B, q, c, rest, rs, rfl, rd, hq, hqc, hc, hrq, hown, hrs, hDD, S⟩ := hrel
    by_cases hq0 : q = 0
    · subst hq0
      obtain rfl := List.eq_nil_of_length_eq_zero hq.out
      have hd : D = some (rs.map dat) := by rw [hDD.out, decO_nil]; simp
      subst hd
      go_wp2_with fail
      go_ret2
      exact ⟨_, rs, rfl, hown, hrs.out, rfl, S.b⟩
    have hne : rest ≠ [] := by rintro rfl; exact hq0 hq.out.symm
    have hbad : hdBad rest = true → D = none := fun h => by rw [hDD.out, decO_bad rest hne h]; rfl
    have hfin : ∀ wz, St w wz [] [] → Hid (∀ r ∈ ([] : List Rc), RcOwn wz w.heap.size 5 r) := fun _ _ => by intro r hr; simp at hr
    by_cases h3 : q < 3
    · obtain rfl := hbad (by unfold hdBad; rw [hq.out]; simp [h3])
      clear hbad hfin
      go_wp2_with fail
      go_ret2
      exact ⟨_, [], rfl, World.ownsRow_nil _ _ _ _, by simp, rfl, S.b⟩
    obtain ⟨b, off, rfl, hcell⟩ := rd_at rd (by rw [List.length_map, hq.out]; omega)
    have hget : ∀ j, j < q → w.cell? ⟨b, off + j, none⟩ = some (.int .u8 ((rest.getD j 0).toNat : Int)) := fun j hj => by
      refine hcell j _ ?_
      rw [List.getElem?_map, List.getElem?_eq_getElem (by rw [hq.out]; exact hj)]
      simp [u8v, List.getD_eq_getElem?_getD, List.getElem?_eq_getElem (show j < rest.length by rw [hq.out]; exact hj)]
    have zw := hget 0 (by omega)
    rw [Nat.add_zero] at zw
    have z0 := cell_later S.b zw
    have z1 := cell_later S.b (hget 1 (by omega))
    have z2 := cell_later S.b (hget 2 (by omega))
    have l0 := UInt8.toNat_lt (rest.getD 0 0)
    have l1 := UInt8.toNat_lt (rest.getD 1 0)
    have l2 := UInt8.toNat_lt (rest.getD 2 0)
    have hB := hbad
    unfold hdBad at hB
    have hN : Hid (hdN rest = (rest.getD 1 0).toNat * 256 + (rest.getD 2 0).toNat) := rfl
    have hR1 : hdRec rest = (((rest.getD 0 0).toNat : Int), (rest.drop 3).take (hdN rest)) := rfl
    have hz : (rest.getD 0 0 == 0) = ((rest.getD 0 0).toNat == 0) := by
      rw [Bool.eq_iff_iff, beq_iff_eq, beq_iff_eq, ← UInt8.toNat_inj]; rfl
    rw [hz, hq.out] at hB
    generalize (rest.getD 0 0).toNat = x0 at z0 zw l0 hB hR1
    generalize (rest.getD 1 0).toNat = x1 at z1 l1 hN
    generalize (rest.getD 2 0).toNat = x2 at z2 l2 hN
    clear hget hcell hz hbad hfin
    by_cases hx0 : x0 = 0
    · subst hx0
      obtain rfl := hB (by simp)
      clear hR1 hB
      go_wp2_with fail
      go_ret2
      exact ⟨_, [], rfl, World.ownsRow_nil _ _ _ _, by simp, rfl, S.b⟩
    have hx0' : ((x0 : Int) == 0) = false := by simp; omega
    replace hB := Lib.hid hB
    replace hR1 := Lib.hid hR1
    go_wp2_with fail
    go_quiet (fail)
    replace S := S.drewN nq
    replace hown : (wr.drewN nq).ownsRow _ _ _ _ _ _ := hown
    replace hrs : Hid (∀ r ∈ rs, RcOwn (wr.drewN nq) w.heap.size 5 r) := hrs
    replace z0 : (wr.drewN nq).cell? ⟨b, off, none⟩ = _ := z0
    generalize wr.drewN nq = w1 at S hown hrs z0 ⊢
    by_cases hshort : q < 3 + (x1 * 256 + x2)
    · obtain rfl := hB.out (by rw [hN.out]; simp; right; exact hshort)
      clear hR1 hB
      go_wp2_with fail
      go_ret2
      exact ⟨_, [], rfl, World.ownsRow_nil _ _ _ _, by simp, rfl, S.b⟩
    obtain ⟨N, hNe⟩ : ∃ N, hdN rest = N := ⟨_, rfl⟩
    have hx : 256 * (x1 : Int) + (x2 : Int) = (N : Int) := by rw [← hNe, hN.out]; omega
    have hNq : 3 + N ≤ q := by rw [← hNe, hN.out]; omega
    rw [hx]
    rw [hNe] at hB hR1
    have hgood : Hid (hdBad rest = false) := by
      show _ = _
      by_cases hb : hdBad rest = true
      · unfold hdBad at hb
        rw [hNe, hq.out] at hb
        simp only [Bool.or_eq_true, beq_iff_eq, decide_eq_true_eq] at hb
        rcases hb with (hb | hb) | hb
        · have := congrArg Prod.fst hR1.out
          unfold hdRec at this
          rw [hb] at this
          simp at this
          omega
        · omega
        · omega
      · simpa using hb
    have hDD2 : Hid (D = (decO (rest.drop (3 + N))).map (rs.map dat ++ [((x0 : Int), (rest.drop 3).take N)] ++ ·)) := by
      show _ = _
      rw [hDD.out, decO_step rest hne hgood.out, hNe, hR1.out, Option.map_map]
      congr 1
      funext y
      simp
    have hlt : Hid (((rest.drop 3).take N).length = N) := by
      show _ = _
      rw [List.length_take, List.length_drop, hq.out]; omega
    have rdv := (rd.sub 3 c (by rw [List.length_map, hq.out]; exact hqc)).take N
    have rdn := rd.sub (3 + N) c (by rw [List.length_map, hq.out]; exact hqc)
    rw [← List.map_drop] at rdv rdn
    rw [← List.map_take] at rdv
    have hs1 := fun W => run_sub bytesT (some ⟨b, off, none⟩) q c 3 (3 + N) (by omega) (by omega) W (P := Try.prog)
    have hs2 := fun W => run_from bytesT (some ⟨b, off, none⟩) q c (3 + N) (by omega) W (P := Try.prog)
    rw [show 3 + N - 3 = N by omega] at hs1
    simp only [Int.natCast_add, Int.cast_ofNat_Int] at hs1 hs2
    generalize subA (some ⟨b, off, none⟩) 3 c = A1 at rdv hs1
    generalize subA (some ⟨b, off, none⟩) (3 + N) c = A2 at rdn hs2
    generalize (rest.drop 3).take N = vs at rdv hlt hDD2
    have hlen2 : Hid ((rest.drop (3 + N)).length = q - (3 + N)) := by show _ = _; rw [List.length_drop, hq.out]
    generalize rest.drop (3 + N) = rest2 at rdn hlen2 hDD2
    have hNq' : (3 : Int) + (N : Int) ≤ (q : Int) := by omega
    have hx0n : ((x0 : Int)) < 256 := by omega
    clear hB hR1 hDD hgood hx hNe hN z1 z2 l1 l2 hshort
    have hsz1 := S.b.size
    replace S := S.read rdv
    have hbA := below_new' w1 (.cells #[] 5)
    go_wp2_with fail
    have hownE : (w1.alloc (.cells #[] 5)).drew.ownsRow w1.heap.size 5 1 (.slice (some ⟨w1.heap.size, 0, none⟩) 0 0) 0 [] := own_empty w1 5 1
    have rdE : Rd (w1.alloc (.cells #[] 5)).drew A1 (vs.map u8v) := Rd.drew ((S.r 0 rfl).below hbA)
    have hbE : Below w1.heap.size w1 (w1.alloc (.cells #[] 5)).drew := hbA.drew
    have f1 : (vs.map u8v).length = N * 1 := by simp [hlt.out]
    have f2 : 0 + N ≤ maxLen := by simp only [maxLen]; omega
    have f3 : (0 + N) * 1 ≤ 140737488355328 := by omega
    have f4 : 0 + N = N := by omega
    replace f1 := Lib.hid f1
    replace f4 := Lib.hid f4
    have hwr : IntKind.i64.wrap (3 + (N : Int)) = 3 + (N : Int) := IntWalk.i64_in _ (by omega)
    have hwx : IntKind.i64.wrap (x0 : Int) = (x0 : Int) := IntWalk.i64_in _ (by omega)
    have f5 : rs.length + 1 ≤ maxLen := by simp only [maxLen]; omega
    have f6 : (rs.length + 1) * 32 ≤ 140737488355328 := by omega
    have tok1 : True := trivial
    clear hbA
    go_region_held3 (fun w' => w'.cell? ⟨b, off, none⟩ = some (.int .u8 (x0 : Int))) (first | assumption | go_keep)
      (first
        | (clear tok1; refine step_appG (o := ⟨some 43, _, _, _, _, _⟩) rfl bytesT (.tmp 38) (.tmp 42) rfl w1.heap.size rfl hownE rfl f1.out rdE (u8v_one _) f2 f3 hbE.size N (vs.map u8v) f4.out rfl ?_; intro v2 w2 hownb hbel hgr; have zz := cell_later (hbE.trans hbel) z0; obtain ⟨A3, c3, rfl, rd3, hc3, hc3m⟩ := own_rd hownb)
        | (have q1 := W2o hown (hbE.trans hbel) x0 A3 N c3; have q2 := W2r w2 x0 A3 N c3; have q3 := W2c x0 A3 N c3; have q5 := Nat.le_trans hsz1 (W2b (hbE.trans hbel) x0 A3 N c3).size; refine step_appG (o := ⟨some 46, _, _, _, _, _⟩) rfl rrecT' (.tmp 33) (.tmp 45) (by rfl) w.heap.size (by rfl) q1 (m := 1) (c := 1) (by rfl) rfl q2 q3 f5 f6 q5 (rs.length + 1) (recV rs ++ [.int .i64 (x0 : Int), .slice A3 N c3]) rfl rfl ?_; intro v3 w3 hown3 hbel3 hg3; have bb := (S.b.trans ((W2b (hbE.trans hbel) x0 A3 N c3).mono hsz1)).trans hbel3; have zz2 := cell_later bb zw))
    have hg4 : (w2.alloc (.cells #[.int .i64 (x0 : Int), .slice A3 N c3] 56)).grownBy w3 u4.ownBlock := hg3
    have hrs3 : Hid (∀ r ∈ rs ++ [Rc.mk (x0 : Int) A3 N c3 vs], RcOwn w3 w.heap.size 5 r) := by
      intro r hr
      rcases List.mem_append.1 hr with hr | hr
      · exact ((hrs.out r hr).below (W2b (hbE.trans hbel) x0 A3 N c3)).grown q1 (by decide) hg4
      · obtain rfl := List.mem_singleton.1 hr
        have h1 : RcOwn w2 w.heap.size 5 ⟨(x0 : Int), A3, N, c3, vs⟩ := own_mono hownb hsz1
        exact (h1.below (below_new' w2 _)).grown q1 (by decide) hg4
    have hown4 : w3.ownsRow w.heap.size 56 2 v3 (rs ++ [Rc.mk (x0 : Int) A3 N c3 vs]).length (recV (rs ++ [Rc.mk (x0 : Int) A3 N c3 vs])) := by
      rw [recV_append, List.length_append]; exact hown3
    have hDD4 : Hid (D = (decO rest2).map ((rs ++ [Rc.mk (x0 : Int) A3 N c3 vs]).map dat ++ ·)) := by
      show _ = _
      rw [hDD2.out, List.map_append]; rfl
    have S3 : St w w3 [] [] := ⟨bb, by simp, by simp⟩
    clear hg3 hg4 hown3 hrs hDD2 hown hwr hwx zz2 zz z0 zw q1 q2 q3 hownb hbel hbel3 hgr hownE rdE
    go_wp2_with fail
    go_roundw
    case rel => exact ⟨A2, q - (3 + N), c - (3 + N), rest2, _, rfl, rdn, hlen2, by omega, by omega, by simp; omega, hown4, hrs3, hDD4, S3⟩
    case measure => simp; omega

end Go.Proofs.Ytdepfgalaicpeaa
