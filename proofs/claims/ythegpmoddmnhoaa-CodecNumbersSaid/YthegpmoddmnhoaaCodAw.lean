/-
  The law's awake.
-/
import Derived.Test.YthegpmoddmnhoaaCodE
import Derived.Test.YthegpmoddmnhoaaCodD
import Derived.Test.YthegpmoddmnhoaaCodN
namespace Go.Proofs.Ythegpmoddmnhoaa
set_option linter.unusedVariables false
open Go.RowKit

theorem aw1 : encE [(1, [7, 8]), (2, [])] = 0 := by decide
theorem aw2 : encR [(1, [7, 8]), (2, [])] = [1, 0, 2, 7, 8, 2, 0, 0] := by decide
theorem aw3 : decO [1, 0, 2, 7, 8, 2, 0, 0] = some [(1, [7, 8]), (2, [])] := by
  rw [decO_step _ (by simp) (by decide)]
  show Option.map _ (decO [2, 0, 0]) = _
  rw [decO_step _ (by simp) (by decide)]
  show Option.map _ (Option.map _ (decO [])) = _
  rw [decO_nil]
  rfl
theorem aw4 : decO [1, 0, 2, 7] = none := decO_bad _ (by simp) (by decide)

set_option maxHeartbeats 4000000 in
theorem awake_any (w : World) : Calls Try.prog 10 #[] w fun e w' => e = .returned (.bool true) ∧ Below w.heap.size w w' := by
  have S := ((St.start w).new' #[.int .u8 7, .int .u8 8] 5 w.heap.size _ rfl rfl).new' #[.int .i64 1, .slice (some ⟨w.heap.size, 0, none⟩) 2 2, .int .i64 2, .slice none 0 0] 56 (w.heap.size + 1) _ (by simp) rfl
  go_enter Try.func10, Try.ntmps10
  go_wp2_with fail
  have hrd1 : Rd ((w.alloc (.cells #[.int .u8 7, .int .u8 8] 5)).alloc (.cells #[.int .i64 1, .slice (some ⟨w.heap.size, 0, none⟩) 2 2, .int .i64 2, .slice none 0 0] 56)) (some ⟨w.heap.size + 1, 0, none⟩) (recV [⟨1, some ⟨w.heap.size, 0, none⟩, 2, 2, [7, 8]⟩, ⟨2, none, 0, 0, []⟩]) := by
    have := Rd.lit (w.alloc (.cells #[.int .u8 7, .int .u8 8] 5)) #[.int .i64 1, .slice (some ⟨w.heap.size, 0, none⟩) 2 2, .int .i64 2, .slice none 0 0] 56
    rwa [World.size_alloc] at this
  have hok1 : ∀ r ∈ [Rc.mk 1 (some ⟨w.heap.size, 0, none⟩) 2 2 [7, 8], ⟨2, none, 0, 0, []⟩], RcOk ((w.alloc (.cells #[.int .u8 7, .int .u8 8] 5)).alloc (.cells #[.int .i64 1, .slice (some ⟨w.heap.size, 0, none⟩) 2 2, .int .i64 2, .slice none 0 0] 56)) r := by
    intro r hr
    simp only [List.mem_cons, List.not_mem_nil, or_false] at hr
    rcases hr with rfl | rfl
    · exact ⟨(Rd.lit w #[.int .u8 7, .int .u8 8] 5).below (below_new' _ _), rfl, by simp, by simp⟩
    · exact ⟨Rd.nil _ _, rfl, by simp, by simp⟩
  have K1 := cencode_any _ 2 2 _ _ hrd1 hok1 rfl (by omega)
  rw [show List.map dat [Rc.mk 1 (some ⟨w.heap.size, 0, none⟩) 2 2 [7, 8], ⟨2, none, 0, 0, []⟩] = [(1, [7, 8]), (2, [])] from rfl, aw1, aw2] at K1
  clear hrd1 hok1
  (with_reducible refine K1.mono ?_)
  rintro e w1 ⟨v1, rfl, hown1, hb⟩
  replace S := S.call hb
  clear hb K1
  have hbl := below_new' w1 (.cells #[.int .u8 1, .int .u8 0, .int .u8 2, .int .u8 7, .int .u8 8, .int .u8 2, .int .u8 0, .int .u8 0] 5)
  have hrd2 : Bs (w1.alloc (.cells #[.int .u8 1, .int .u8 0, .int .u8 2, .int .u8 7, .int .u8 8, .int .u8 2, .int .u8 0, .int .u8 0] 5)) (some ⟨w1.heap.size, 0, none⟩) [1, 0, 2, 7, 8, 2, 0, 0] := Bs.lit w1 _ _ _ _ rfl rfl
  have K2 := cdecode_any _ 8 8 _ _ hrd2 rfl (by omega) (by simp [maxLen]) (by omega)
  have S2 := S.call hbl
  go_wp2_with fail
  (with_reducible refine K2.mono ?_)
  rintro e w2 ⟨v2, rs, rfl, hown2, hrs, hdat, hb⟩
  replace S := S2.call hb
  replace hown1 := own_below (own_below hown1 hbl) hb
  rw [show decL [1, 0, 2, 7, 8, 2, 0, 0] = [(1, [7, 8]), (2, [])] by unfold decL; rw [aw3]; rfl] at hdat
  rw [show decE [1, 0, 2, 7, 8, 2, 0, 0] = 0 by unfold decE; rw [aw3]; rfl]
  clear hb hbl hrd2 K2 S2 hrs
  obtain ⟨r1, r2, rfl⟩ : ∃ r1 r2, rs = [r1, r2] := by
    have hl := congrArg List.length hdat
    rw [List.length_map] at hl
    match rs, hl with
    | [a, b], _ => exact ⟨a, b, rfl⟩
  have ht : r2.t = 2 := by
    simp only [List.map_cons, List.map_nil, List.cons.injEq, and_true] at hdat
    exact congrArg Prod.fst hdat.2
  obtain ⟨g2, c2, rfl, hg2, hg2b, hown2'⟩ := own_form hown2 (by simp)
  have x2 := hown2'.cellAt 2 (by simp)
  simp only [recV, List.getElem?_cons_succ, List.getElem?_cons_zero, ht] at x2
  clear hown2 hown2' hdat ht
  have K3 := append_any none 0 0 [] 300 2 w2 (Rd.nil _ _) rfl (by omega) (by omega)
  rw [show ((300 : Nat) : Int) = 300 from rfl, show auE 300 2 = 0 by decide, show auR [] 300 2 = [1, 44] by decide] at K3
  go_wp2_with fail
  (with_reducible refine K3.mono ?_)
  rintro e w3 ⟨v3, rfl, hown3, hb⟩
  replace S := S.call hb
  replace hown1 := own_below hown1 hb
  replace x2 := cell_later hb x2
  clear hb K3
  have K4 := append_any none 0 0 [] 300 1 w3 (Rd.nil _ _) rfl (by omega) (by omega)
  rw [show ((300 : Nat) : Int) = 300 from rfl, show auE 300 1 = 2 by decide, show auR [] 300 1 = [] by decide] at K4
  go_wp2_with fail
  (with_reducible refine K4.mono ?_)
  rintro e w4 ⟨v4, rfl, hown4, hb⟩
  replace S := S.call hb
  replace hown1 := own_below hown1 hb
  replace hown3 := own_below hown3 hb
  replace x2 := cell_later hb x2
  clear hb K4 hown4
  have hbl := below_new' w4 (.cells #[.int .u8 1, .int .u8 0, .int .u8 2, .int .u8 7] 5)
  have hrd5 : Bs (w4.alloc (.cells #[.int .u8 1, .int .u8 0, .int .u8 2, .int .u8 7] 5)) (some ⟨w4.heap.size, 0, none⟩) [1, 0, 2, 7] := Bs.lit w4 _ _ _ _ rfl rfl
  have K5 := cdecode_any _ 4 4 _ _ hrd5 rfl (by omega) (by simp [maxLen]) (by omega)
  have S2 := S.call hbl
  go_wp2_with fail
  (with_reducible refine K5.mono ?_)
  rintro e w5 ⟨v5, rs5, rfl, hown5, hrs5, hdat5, hb⟩
  replace S := S2.call hb
  rw [show decE [1, 0, 2, 7] = 4 by unfold decE; rw [aw4]; rfl]
  replace hown1 := own_below (own_below hown1 hbl) hb
  replace hown3 := own_below (own_below hown3 hbl) hb
  replace x2 := cell_later hb (cell_later hbl x2)
  clear hb hbl hrd5 K5 S2 hown5 hrs5 hdat5
  obtain ⟨A1, c1, rfl, rd1, _, _⟩ := own_rd hown1
  obtain ⟨A3, c3, rfl, rd3, _, _⟩ := own_rd hown3
  have cv := conv_bytes (n := 8) (P := Try.prog) w5 (src := 27) (dst := 9) (e := 5) Try.underlying27 Try.underlying5 Try.underlying9 (cap := c1) rd1 rfl
  have cv2 := conv_bytes (n := 2) (P := Try.prog) w5 (src := 27) (dst := 9) (e := 5) Try.underlying27 Try.underlying5 Try.underlying9 (cap := c3) rd3 rfl
  clear rd1 rd3 hown1 hown3
  go_wp2_with fail
  go_ret
  exact ⟨rfl, S.b⟩

end Go.Proofs.Ythegpmoddmnhoaa
