/-
  The contract of bytes.Compare.
-/
import Derived.Test.YtgbcnglagnlmhaaBytes
import Derived.Lib.BytesEntry
namespace Go.Proofs.Ytgbcnglagnlmhaa
set_option linter.unusedVariables false
open Go.RowKit

theorem intsOf (bs : List UInt8) : Lib.bytesOf (bs.map fun b => (b.toNat : Int)) = bs := by
  induction bs with
  | nil => rfl
  | cons b bs ih =>
    simp only [Lib.bytesOf, List.map_cons, List.map_map] at ih ⊢
    rw [ih]
    simp
theorem run_bytesOf {P : Program} (w : World) (A : Option Addr) (n c : Nat) (bs : List UInt8) (h : Bs w A bs) (hn : bs.length = n) : (Extern.Bytes.bytesOf (.slice A n c)).run P w = .ok ⟨bs.toArray⟩ w := by
  subst hn
  rcases A with _ | ad
  · have := Rd.nil_len h
    have e : bs = [] := by simpa using this
    subst e
    rfl
  · have hl := Lib.run_loadBytesX (P := P) w (bs.map fun b => (b.toNat : Int)) ad .empty (fun j x hj => by
      rw [List.getElem?_map] at hj
      obtain ⟨b, hb, rfl⟩ := Option.map_eq_some_iff.1 hj
      obtain ⟨ad', e, hc⟩ := h (by rw [List.length_map]; have := (List.getElem?_eq_some_iff.1 hb).1; omega)
      injection e with e
      subst e
      exact hc j _ (by rw [List.getElem?_map, hb]; rfl))
    rw [List.length_map, intsOf] at hl
    show (Extern.Bytes.loadBytes ad bs.length .empty).run P w = _
    rw [hl]
    congr 1
    apply ByteArray.ext
    show (#[] : Array UInt8) ++ bs.toArray = bs.toArray
    simp
theorem run_compareSlice {P : Program} (w : World) (A B : Option Addr) (n c m d : Nat) (xs ys : List UInt8) (hx : Bs w A xs) (hn : xs.length = n) (hy : Bs w B ys) (hm : ys.length = m) :
    (Extern.BytealgCompare.compare #[.slice A n c, .slice B m d]).run P w = .ok (.int .i64 (Lib.compareBytes xs ys)) w := by
  change Sem.run P (do pure (goInt (Extern.BytealgCompare.cmp (← Extern.Bytes.bytesOf (.slice A n c)) (← Extern.Bytes.bytesOf (.slice B m d))))) w = _
  simp only [Sem.run_bind, Sem.run_pure, run_bytesOf w A n c xs hx hn, run_bytesOf w B m d ys hy hm, Result.andThen]
  rw [Lib.cmp_eq]
  rfl

set_option maxHeartbeats 1000000 in
set_option maxRecDepth 100000 in
theorem bcompare_any (w : World) (A B : Option Addr) (n c m d : Nat) (xs ys : List UInt8) (hx : Bs w A xs) (hn : xs.length = n) (hy : Bs w B ys) (hm : ys.length = m) :
    Calls Try.prog 60 #[.slice A n c, .slice B m d] w fun e w' => e = .returned (.int .i64 (Lib.compareBytes xs ys)) ∧ w = w' := by
  have R := run_compareSlice (P := Try.prog) w A B n c m d xs ys hx hn hy hm
  go_enter Try.func60, Try.ntmps60
  go_wp2
  rw [run_callFunc_extern Try.func76 (by kernel_rfl) (by kernel_rfl) (by kernel_rfl) (e := Extern.BytealgCompare.compare) (by kernel_rfl), R]
  simp only [Result.andThen]
  rw [Oper.upon_value]
  go_wp2
  go_ret
  exact ⟨rfl, rfl⟩

end Go.Proofs.Ytgbcnglagnlmhaa
