/-
  The contract of the reference's fields.
-/
import Derived.Test.YtnfldccaeibcpaaCodRN
import Derived.Deep.RegionHeld3
import Derived.IntWalk
namespace Go.Proofs.Ytnfldccaeibcpaa
set_option linter.unusedVariables false
open Go.RowKit

/-- Pairs of numbers as cells. -/
def prV : List (Nat × Nat) → List Value
  | [] => []
  | x :: l => .int .i64 (x.1 : Int) :: .int .i64 (x.2 : Int) :: prV l
theorem prV_len (l : List (Nat × Nat)) : (prV l).length = l.length * 2 := by
  induction l with
  | nil => rfl
  | cons r l ih => simp only [prV, List.length_cons, ih]; omega
theorem prV_get (l : List (Nat × Nat)) : ∀ (k : Nat) (hk : k < l.length), (prV l)[2 * k]? = some (.int .i64 (l[k].1 : Int)) ∧ (prV l)[2 * k + 1]? = some (.int .i64 (l[k].2 : Int)) := by
  induction l with
  | nil => intro k hk; simp at hk
  | cons r l ih =>
    intro k hk
    cases k with
    | zero => exact ⟨rfl, rfl⟩
    | succ k =>
      obtain ⟨h1, h2⟩ := ih k (by simpa using hk)
      rw [show 2 * (k + 1) = 2 * k + 1 + 1 by omega]
      exact ⟨by simpa [prV] using h1, by simpa [prV] using h2⟩
theorem rd_pr {w : World} {A : Option Addr} {l : List (Nat × Nat)} (h : Rd w A (prV l)) (hn : 0 < l.length) :
    ∃ b off, A = some ⟨b, off, none⟩ ∧ ∀ k (hk : k < l.length), w.cell? ⟨b, off + k * 2, none⟩ = some (.int .i64 (l[k].1 : Int)) ∧ w.cell? ⟨b, off + k * 2 + 1, none⟩ = some (.int .i64 (l[k].2 : Int)) := by
  obtain ⟨b, off, e, hc⟩ := rd_at h (by rw [prV_len]; omega)
  refine ⟨b, off, e, fun k hk => ?_⟩
  obtain ⟨h1, h2⟩ := prV_get l k hk
  exact ⟨hc _ _ (by rw [Nat.mul_comm]; exact h1), by rw [Nat.add_assoc]; exact hc _ _ (by rw [Nat.mul_comm]; exact h2)⟩
def fldB : List (Nat × Nat) → List UInt8
  | [] => []
  | x :: l => numB x.1 x.2 ++ fldB l
theorem fldB_append (a b : List (Nat × Nat)) : fldB (a ++ b) = fldB a ++ fldB b := by
  induction a with
  | nil => rfl
  | cons r a ih => simp only [List.cons_append, fldB, ih, List.append_assoc]
theorem fldB_take (l : List (Nat × Nat)) (k : Nat) (hk : k < l.length) : fldB (l.take (k + 1)) = fldB (l.take k) ++ numB l[k].1 l[k].2 := by
  rw [List.take_succ_eq_append_getElem hk, fldB_append]; simp [fldB]

set_option maxRecDepth 100000 in
set_option maxHeartbeats 3200000 in
theorem rfields_any (A : Option Addr) (n cap : Nat) (l : List (Nat × Nat)) (w : World) (hr : Rd w A (prV l)) (hn : l.length = n) (hn2 : n ≤ 1000) (hok : ∀ x ∈ l, x.1 < 9223372036854775808 ∧ x.2 ≤ 8) :
    Calls Try.prog 72 #[.slice A n cap] w fun e w' =>
      ∃ v, e = .returned v ∧ w'.ownsRow w.heap.size 5 1 v (fldB l).length ((fldB l).map u8v) ∧ Below w.heap.size w w' := by
  have S := (St.start w).read hr
  replace hok := Lib.hid hok
  clear hr
  replace hn := Lib.hid hn
  go_enter Try.func72, Try.ntmps72
  go_wp2_with fail
  go_loopw [3, 4] (fun v3 v4 wr => ∃ (k N : Nat), k ≤ n ∧ v4 = .int .i64 k ∧ N ≤ 8 * k ∧ wr.ownsRow w.heap.size 5 1 v3 N ((fldB (l.take k)).map u8v) ∧ St w wr [] [(A, prV l)]) (fun v3 v4 _ => n - (intOf v4).toNat)
  case atStart => exact ⟨0, 0, by omega, rfl, by omega, World.ownsRow_nil _ _ _ _, S⟩
  case round =>
    clear S
    obtain ⟨k, N, hk, rfl, hN, hown, S⟩ := hrel
    by_cases hkn : k < n
    · have hkl : k < l.length := by have := hn.out; omega
      obtain ⟨b, off, rfl, hcells⟩ := rd_pr (S.r 0 rfl) (by omega)
      obtain ⟨c0, c1⟩ := hcells k hkl
      have hx := hok.out l[k] (List.getElem_mem hkl)
      have htk := fldB_take l k hkl
      clear hcells
      generalize l[k] = x at c0 c1 hx htk
      obtain ⟨m, z⟩ := x
      simp only at c0 c1 hx htk
      obtain ⟨hm, hz⟩ := hx
      replace htk := Lib.hid htk
      have hsz := S.b.size
      go_wp2_with fail
      have hm2 : m < 18446744073709551616 := by omega
      have hwx : IntKind.u64.wrap (m : Int) = (m : Int) := by rw [IntKind.wrap_u64]; omega
      have f1 : ((numB m z).map u8v).length = z * 1 := by simp [numB_len]
      have f2 : N + z ≤ maxLen := by simp only [maxLen]; omega
      have f3 : (N + z) * 1 ≤ 140737488355328 := by omega
      obtain ⟨e0, e1⟩ : w.cell? ⟨b, off + k * 2, none⟩ = some (.int .i64 (m : Int)) ∧ w.cell? ⟨b, off + k * 2 + 1, none⟩ = some (.int .i64 (z : Int)) := by
        obtain ⟨ad, had, hlt⟩ := (S.rd 0 _ rfl).block (by rw [prV_len]; omega)
        injection had with had
        subst had
        exact ⟨(S.b.cell (p := ⟨b, off + k * 2, none⟩) hlt).symm.trans c0, (S.b.cell (p := ⟨b, off + k * 2 + 1, none⟩) hlt).symm.trans c1⟩
      replace f1 := Lib.hid f1
      have tok1 : True := trivial
      go_region_held3 (fun w' => w'.cell? ⟨b, off + k * 2, none⟩ = some (.int .i64 (m : Int)) ∧ w'.cell? ⟨b, off + k * 2 + 1, none⟩ = some (.int .i64 (z : Int))) (first | assumption | go_keep)
        (first
          | (clear tok1; go_at_call 91; (with_reducible refine (number_any m z _ hm2 hz).mono ?_); rintro e w1 ⟨v1, rfl, hown1, hb1⟩; obtain ⟨A1, k1, rfl, rd1, _, _⟩ := own_rd hown1; have d0 := cell_later hb1 c0; have d1 := cell_later hb1 c1)
          | (have o1 := own_below (show wr.drew.ownsRow w.heap.size 5 1 u3 N ((fldB (l.take k)).map u8v) from hown) hb1; have s1 := Nat.le_trans hsz hb1.size; refine step_appG (o := ⟨some 24, _, _, _, _, _⟩) rfl bytesT (.tmp 11) (.tmp 23) (by rfl) w.heap.size (by rfl) o1 (by rfl) f1.out rd1 (u8v_one _) f2 f3 s1 (N + z) ((fldB (l.take (k + 1))).map u8v) rfl (by rw [htk.out, List.map_append]) ?_; intro v2 w2 hown2 hbel2 hgr2; have bb := (S.drew.b.trans (hb1.mono hsz)).trans hbel2; have d2 := cell_later bb e0; have d3 := cell_later bb e1))
      clear hown1 rd1 hb1 hbel2 hgr2 o1 s1 d0 d1 d2 d3 hown c0 c1
      replace bb : St w w2 [] [(some ⟨b, off, none⟩, prV l)] := ⟨bb, by simp, S.rd⟩
      go_wp2_with fail
      go_roundw
      case rel => exact ⟨k + 1, N + z, by omega, by go_num, by omega, hown2, bb⟩
      case measure => simp [intOf]; omega
    · obtain rfl : k = n := by omega
      rw [List.take_of_length_le (by have := hn.out; omega)] at hown
      go_wp2_with fail
      go_ret
      exact ⟨_, rfl, by have := hown.1; rw [List.length_map, Nat.mul_one] at this; rw [this]; exact hown, S.b⟩

end Go.Proofs.Ytnfldccaeibcpaa
