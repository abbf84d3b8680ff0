/-
  Messages as values; the contracts of speaker's within, empty, valid; what Pack and Unpack compute (plain).
-/
import Derived.Test.YtdepfgalaicpeaaLaC
import Derived.Test.YtdepfgalaicpeaaSameR
namespace Go.Proofs.Ytdepfgalaicpeaa
set_option linter.unusedVariables false
open Go.RowKit Go.Sort

theorem own_rdp {w : World} {base : Nat} {e : TypeId} {size : Nat} {A : Option Addr} {n c : Nat} {xs : List Value} (h : w.ownsRow base e size (.slice A n c) n xs) : Rd w A xs ∧ n ≤ c ∧ c ≤ maxLen := by
  obtain ⟨A', c', e1, r, l, m⟩ := own_rd h
  simp only [Value.slice.injEq, true_and] at e1
  obtain ⟨rfl, rfl⟩ := e1
  exact ⟨r, l, m⟩
theorem Rd.keptR {w w' : World} {A : Option Addr} {xs : List Value} {row : Option Nat} (h : Rd w A xs) (hg : w.grownBy w' row) (hf : 0 < xs.length → ∀ ad, A = some ad → row ≠ some ad.block) : Rd w' A xs := by
  intro hn
  obtain ⟨ad, e, hb⟩ := h.block hn
  obtain ⟨ad', e', hc⟩ := h hn
  rw [e] at e'
  injection e' with e'
  subst e'
  refine ⟨ad, e, fun j u hu => ?_⟩
  rw [World.cell?_of_block (hg.block _ (by rw [addr_add_block]; exact hb) (by rw [addr_add_block]; exact fun e2 => hf hn ad e e2.symm))]
  exact hc j u hu
/-- A message. -/
structure Ms where
  k : Int
  n : Int
  b : Int
  h : Int
  y : La
abbrev msV (m : Ms) (A : Option Addr) (c : Nat) (B : Option Addr) (d : Nat) : Value :=
  .agg #[.int .i64 m.k, .int .i64 m.n, .int .i64 m.b, .int .i64 m.h, .int .i64 m.y.o, .int .i64 m.y.s, .int .i64 m.y.a, .bool m.y.ov, .slice A m.y.adj.length c, .slice B m.y.pre.length d]
abbrev laW (y : La) (A : Option Addr) (c : Nat) (B : Option Addr) (d : Nat) : Value := laV y.o y.s y.a y.ov A y.adj.length c B y.pre.length d
def MsAt (w : World) (v : Value) (m : Ms) : Prop := ∃ A c B d, v = msV m A c B d ∧ LaAt w (laW m.y A c B d) m.y
theorem MsAt.below {w w' : World} {v : Value} {m : Ms} (h : MsAt w v m) (hb : Below w.heap.size w w') : MsAt w' v m := by
  obtain ⟨A, c, B, d, rfl, h⟩ := h
  exact ⟨A, c, B, d, rfl, h.below hb⟩
def msZero : Ms := ⟨0, 0, 0, 0, laZero⟩
def MsOwn (w : World) (base : Nat) (v : Value) (m : Ms) : Prop := ∃ A c B d, v = msV m A c B d ∧ LaOwn w base (laW m.y A c B d) m.y
theorem MsOwn.at {w : World} {base : Nat} {v : Value} {m : Ms} (h : MsOwn w base v m) : MsAt w v m := by
  obtain ⟨A, c, B, d, rfl, h⟩ := h
  exact ⟨A, c, B, d, rfl, h.at⟩
theorem msZero_own (w : World) (base : Nat) : MsOwn w base (.agg #[.int .i64 0, .int .i64 0, .int .i64 0, .int .i64 0, .int .i64 0, .int .i64 0, .int .i64 0, .bool false, .slice none 0 0, .slice none 0 0]) msZero := ⟨none, 0, none, 0, rfl, laZero_own w base⟩

/-- Whether an advertisement is zero. -/
def emB (x : La) : Bool := x.o == 0 && (x.s == 0 && (x.a == 0 && (!x.ov && (decide (x.adj.length = 0) && decide (x.pre.length = 0)))))
theorem emB_iff {x : La} : emB x = true ↔ x = laZero := by
  obtain ⟨o, s, a, ov, adj, pre⟩ := x
  simp [emB, laZero]
theorem emB_equ (x : La) : equB x laZero = emB x := by
  rw [Bool.eq_iff_iff, emB_iff]
  constructor
  · intro h
    simp only [equB, sameB, Bool.and_eq_true, beq_iff_eq] at h
    obtain ⟨⟨h1, h2, _, h4⟩, h5⟩ := h
    obtain ⟨h6, h7, h8⟩ := conB_iff.1 h4
    obtain ⟨o, s, a, ov, adj, pre⟩ := x
    simp only [laZero] at *
    subst h1 h2 h5 h6 h7 h8
    rfl
  · rintro rfl; rfl
/-- The fields are as the kind demands. -/
noncomputable def msB (m : Ms) : Bool := wiB m.b 1 1073741824 && (if m.k = 1 then wiB m.n 0 63 && (wiB m.h 0 1073741824 && emB m.y) else if m.k = 2 ∨ m.k = 3 then m.n == 0 && (m.h == 0 && vB m.y) else false)
/-- The value of a message's record. -/
def msVal (m : Ms) : List UInt8 := if m.k = 1 then numB m.n.toNat 2 ++ (numB m.b.toNat 4 ++ numB m.h.toNat 4) else numB m.b.toNat 4 ++ laEnc m.y
def msEnc (m : Ms) : List UInt8 := enc1 (m.k, msVal m)
theorem msVal_len {m : Ms} (h : msB m = true) : (msVal m).length ≤ 3000 := by
  unfold msVal
  split
  · simp [numB_len]
  · rename_i hk
    simp only [msB, hk, if_false, Bool.and_eq_true] at h
    obtain ⟨_, h2⟩ := h
    split at h2
    · simp only [Bool.and_eq_true] at h2
      have := vB_iff.1 h2.2.2
      rw [List.length_append, numB_len, laEnc_len]
      have h4 := this.2.2.2.1
      have h5 := this.2.2.2.2.1
      omega
    · simp at h2
/-- What Unpack finds in the bytes. -/
noncomputable def unpR (r : Rec) : Ms :=
  if r.1 = 1 then ⟨1, uintB (r.2.take 2), uintB ((r.2.drop 2).take 4), uintB ((r.2.drop 6).take 4), laZero⟩
  else ⟨r.1, 0, uintB (r.2.take 4), 0, ldecV (r.2.drop 4)⟩
noncomputable def unpE1 (r : Rec) : Int :=
  if r.1 = 1 then if r.2.length = 10 ∧ msB (unpR r) = true then 0 else 4
  else if r.1 = 2 ∨ r.1 = 3 then if r.2.length < 4 then 4 else if chk (r.2.drop 4) = false then 5 else if msB (unpR r) = true then 0 else 4
  else 4
noncomputable def unpE (bs : List UInt8) : Int := match decO bs with | some [r] => unpE1 r | _ => 4
noncomputable def unpM (bs : List UInt8) : Ms := match decO bs with | some [r] => if unpE1 r = 0 then unpR r else msZero | _ => msZero

end Go.Proofs.Ytdepfgalaicpeaa
