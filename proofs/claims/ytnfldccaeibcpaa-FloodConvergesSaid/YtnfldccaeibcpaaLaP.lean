/-
  Plain: the records of an advertisement, its encoding.
-/
import Derived.Test.YtnfldccaeibcpaaVal
import Derived.Test.YtnfldccaeibcpaaFle
namespace Go.Proofs.Ytnfldccaeibcpaa
set_option linter.unusedVariables false
open Go.RowKit

def bit (b : Bool) : Nat := if b = true then 1 else 0
def headR (x : La) : Rec := (1, numB x.o.toNat 2 ++ numB x.s.toNat 4 ++ numB x.a.toNat 2 ++ numB (bit x.ov) 1)
def adR (x : Ad) : Rec := (2, numB x.1.toNat 2 ++ numB x.2.1.toNat 2 ++ numB x.2.2.toNat 2)
def pfR (x : Pf) : Rec := (3, numB x.1 4 ++ numB x.2.toNat 1)
def laRecs (x : La) : List Rec := headR x :: (x.adj.map adR ++ x.pre.map pfR) ++ [(4, [0, 0])]
def laPlain (x : La) : List UInt8 := encAll (laRecs x)
/-- The encoding of a valid advertisement. -/
def laEnc (x : La) : List UInt8 := sealed (laPlain x) ((laPlain x).length - 2)

theorem headR_len (x : La) : (headR x).2.length = 9 := by simp [headR, numB_len]
theorem adR_len (x : Ad) : (adR x).2.length = 6 := by simp [adR, numB_len]
theorem pfR_len (x : Pf) : (pfR x).2.length = 5 := by simp [pfR, numB_len]
theorem encE_all (l : List Rec) (h : ∀ r ∈ l, 1 ≤ r.1 ∧ r.1 ≤ 255 ∧ r.2.length ≤ 65535) : encE l = 0 := by
  induction l with
  | nil => rfl
  | cons r l ih =>
    have := h r (by simp)
    rw [encE, if_neg (by omega), if_neg (by omega)]
    exact ih fun q hq => h q (by simp [hq])
theorem laRecs_ok (x : La) : ∀ r ∈ laRecs x, 1 ≤ r.1 ∧ r.1 ≤ 255 ∧ r.2.length ≤ 65535 := by
  intro r hr
  simp only [laRecs, List.mem_append, List.mem_cons, List.mem_map, List.not_mem_nil, or_false] at hr
  rcases hr with (rfl | ⟨y, _, rfl⟩ | ⟨y, _, rfl⟩) | rfl
  · rw [headR_len]; simp [headR]
  · rw [adR_len]; simp [adR]
  · rw [pfR_len]; simp [pfR]
  · simp
theorem laRecs_E (x : La) : encE (laRecs x) = 0 := encE_all _ (laRecs_ok x)
theorem laRecs_R (x : La) : encR (laRecs x) = laPlain x := by unfold encR; rw [laRecs_E, if_pos rfl]; rfl
theorem encAll_len (l : List Rec) (k : Nat) (h : ∀ r ∈ l, r.2.length = k) : (encAll l).length = l.length * (3 + k) := by
  induction l with
  | nil => simp [encAll]
  | cons r l ih =>
    rw [encAll, List.length_append, enc1_len, h r (by simp), ih fun q hq => h q (by simp [hq]), List.length_cons, Nat.add_mul]; omega
theorem laPlain_len (x : La) : (laPlain x).length = 17 + x.adj.length * 9 + x.pre.length * 8 := by
  have h1 := encAll_len (x.adj.map adR) 6 (fun r hr => by obtain ⟨y, _, rfl⟩ := List.mem_map.1 hr; exact adR_len y)
  have h2 := encAll_len (x.pre.map pfR) 5 (fun r hr => by obtain ⟨y, _, rfl⟩ := List.mem_map.1 hr; exact pfR_len y)
  rw [List.length_map] at h1 h2
  simp only [laPlain, laRecs, List.cons_append, encAll, encAll_append, List.length_append, enc1_len, headR_len, h1, h2]
  simp
  omega
theorem laEnc_len (x : La) : (laEnc x).length = 17 + x.adj.length * 9 + x.pre.length * 8 := by
  rw [laEnc, ← laPlain_len]; simp [sealed, zeroed]
/-- What Encode returns. -/
noncomputable def lencE (x : La) : Int := if vB x = true then 0 else 1
noncomputable def lencB (x : La) : List UInt8 := if vB x = true then laEnc x else []

theorem adR_take (x : La) (k : Nat) (h : k < x.adj.length) : headR x :: (x.adj.take (k + 1)).map adR = (headR x :: (x.adj.take k).map adR) ++ [adR x.adj[k]] := by
  rw [List.take_succ_eq_append_getElem h, List.map_append]; rfl
theorem pfR_take (x : La) (k : Nat) (h : k < x.pre.length) : headR x :: (x.adj.map adR ++ (x.pre.take (k + 1)).map pfR) = (headR x :: (x.adj.map adR ++ (x.pre.take k).map pfR)) ++ [pfR x.pre[k]] := by
  rw [List.take_succ_eq_append_getElem h, List.map_append, List.cons_append, List.append_assoc]; rfl

end Go.Proofs.Ytnfldccaeibcpaa
