/-
  The texts Ms, MsV, MsP, MsRV, MsRP, MsU, MsRU, MsL, TpC, TpR, one after the other.
-/
import Derived.Test.YtbkpholkjgjicaaGreatLaC
import Derived.Test.YtbkpholkjgjicaaGreatSameR
import Derived.Test.YtbkpholkjgjicaaGreatCodN
import Derived.Test.YtbkpholkjgjicaaGreatCodE
import Derived.Test.YtbkpholkjgjicaaGreatCodRN
import Derived.Test.YtbkpholkjgjicaaGreatCodP
import Derived.Test.YtbkpholkjgjicaaGreatBytes
import Derived.Deep.RegionLaw
import Derived.Test.YtbkpholkjgjicaaGreatDec
import Derived.Test.YtbkpholkjgjicaaGreatDecR
import Derived.Test.YtbkpholkjgjicaaGreatTp
import Derived.Deep.DeepCutAuto
import Derived.Deep.CutBlock
namespace Go.Proofs.YtbkpholkjgjicaaGreat
set_option linter.unusedVariables false
open Go.RowKit Go.Sort

theorem own_rdp {w : World} {base : Nat} {e : TypeId} {size : Nat} {A : Option Addr} {n c : Nat} {xs : List Value} (h : w.ownsRow base e size (.slice A n c) n xs) : Rd w A xs ∧ n ≤ c ∧ c ≤ maxLen := by
  obtain ⟨A', c', e1, r, l, m⟩ := own_rd h
  simp only [Value.slice.injEq, true_and] at e1
  obtain ⟨rfl, rfl⟩ := e1
  exact ⟨r, l, m⟩
theorem Rd.keptR {w w' : World} {A : Option Addr} {xs : List Value} {row : Option Nat} (h : Rd w A xs) (hg : w.grownBy w' row) (hf : 0 < xs.length → ∀ ad, A = some ad → row ≠ some ad.block) : Rd w' A xs := by
  intro hn
  obtain ⟨ad, e, hb⟩ := h.block hn
  obtain ⟨ad', e', hc⟩ := h hn
  rw [e] at e'
  injection e' with e'
  subst e'
  refine ⟨ad, e, fun j u hu => ?_⟩
  rw [World.cell?_of_block (hg.block _ (by rw [addr_add_block]; exact hb) (by rw [addr_add_block]; exact fun e2 => hf hn ad e e2.symm))]
  exact hc j u hu
/-- A message. -/
structure Ms where
  k : Int
  n : Int
  b : Int
  h : Int
  y : La
abbrev msV (m : Ms) (A : Option Addr) (c : Nat) (B : Option Addr) (d : Nat) : Value :=
  .agg #[.int .i64 m.k, .int .i64 m.n, .int .i64 m.b, .int .i64 m.h, .int .i64 m.y.o, .int .i64 m.y.s, .int .i64 m.y.a, .bool m.y.ov, .slice A m.y.adj.length c, .slice B m.y.pre.length d]
abbrev laW (y : La) (A : Option Addr) (c : Nat) (B : Option Addr) (d : Nat) : Value := laV y.o y.s y.a y.ov A y.adj.length c B y.pre.length d
def MsAt (w : World) (v : Value) (m : Ms) : Prop := ∃ A c B d, v = msV m A c B d ∧ LaAt w (laW m.y A c B d) m.y
theorem MsAt.below {w w' : World} {v : Value} {m : Ms} (h : MsAt w v m) (hb : Below w.heap.size w w') : MsAt w' v m := by
  obtain ⟨A, c, B, d, rfl, h⟩ := h
  exact ⟨A, c, B, d, rfl, h.below hb⟩
def msZero : Ms := ⟨0, 0, 0, 0, laZero⟩
def MsOwn (w : World) (base : Nat) (v : Value) (m : Ms) : Prop := ∃ A c B d, v = msV m A c B d ∧ LaOwn w base (laW m.y A c B d) m.y
theorem MsOwn.at {w : World} {base : Nat} {v : Value} {m : Ms} (h : MsOwn w base v m) : MsAt w v m := by
  obtain ⟨A, c, B, d, rfl, h⟩ := h
  exact ⟨A, c, B, d, rfl, h.at⟩
theorem msZero_own (w : World) (base : Nat) : MsOwn w base (.agg #[.int .i64 0, .int .i64 0, .int .i64 0, .int .i64 0, .int .i64 0, .int .i64 0, .int .i64 0, .bool false, .slice none 0 0, .slice none 0 0]) msZero := ⟨none, 0, none, 0, rfl, laZero_own w base⟩

/-- Whether an advertisement is zero. -/
def emB (x : La) : Bool := x.o == 0 && (x.s == 0 && (x.a == 0 && (!x.ov && (decide (x.adj.length = 0) && decide (x.pre.length = 0)))))
theorem emB_iff {x : La} : emB x = true ↔ x = laZero := by
  obtain ⟨o, s, a, ov, adj, pre⟩ := x
  simp [emB, laZero]
theorem emB_equ (x : La) : equB x laZero = emB x := by
  rw [Bool.eq_iff_iff, emB_iff]
  constructor
  · intro h
    simp only [equB, sameB, Bool.and_eq_true, beq_iff_eq] at h
    obtain ⟨⟨h1, h2, _, h4⟩, h5⟩ := h
    obtain ⟨h6, h7, h8⟩ := conB_iff.1 h4
    obtain ⟨o, s, a, ov, adj, pre⟩ := x
    simp only [laZero] at *
    subst h1 h2 h5 h6 h7 h8
    rfl
  · rintro rfl; rfl
/-- The fields are as the kind demands. -/
noncomputable def msB (m : Ms) : Bool := wiB m.b 1 1073741824 && (if m.k = 1 then wiB m.n 0 63 && (wiB m.h 0 1073741824 && emB m.y) else if m.k = 2 ∨ m.k = 3 then m.n == 0 && (m.h == 0 && vB m.y) else false)
/-- The value of a message's record. -/
def msVal (m : Ms) : List UInt8 := if m.k = 1 then numB m.n.toNat 2 ++ (numB m.b.toNat 4 ++ numB m.h.toNat 4) else numB m.b.toNat 4 ++ laEnc m.y
def msEnc (m : Ms) : List UInt8 := enc1 (m.k, msVal m)
theorem msVal_len {m : Ms} (h : msB m = true) : (msVal m).length ≤ 3000 := by
  unfold msVal
  split
  · simp [numB_len]
  · rename_i hk
    simp only [msB, hk, if_false, Bool.and_eq_true] at h
    obtain ⟨_, h2⟩ := h
    split at h2
    · simp only [Bool.and_eq_true] at h2
      have := vB_iff.1 h2.2.2
      rw [List.length_append, numB_len, laEnc_len]
      have h4 := this.2.2.2.1
      have h5 := this.2.2.2.2.1
      omega
    · simp at h2
/-- What Unpack finds in the bytes. -/
noncomputable def unpR (r : Rec) : Ms :=
  if r.1 = 1 then ⟨1, uintB (r.2.take 2), uintB ((r.2.drop 2).take 4), uintB ((r.2.drop 6).take 4), laZero⟩
  else ⟨r.1, 0, uintB (r.2.take 4), 0, ldecV (r.2.drop 4)⟩
noncomputable def unpE1 (r : Rec) : Int :=
  if r.1 = 1 then if r.2.length = 10 ∧ msB (unpR r) = true then 0 else 4
  else if r.1 = 2 ∨ r.1 = 3 then if r.2.length < 4 then 4 else if chk (r.2.drop 4) = false then 5 else if msB (unpR r) = true then 0 else 4
  else 4
noncomputable def unpE (bs : List UInt8) : Int := match decO bs with | some [r] => unpE1 r | _ => 4
noncomputable def unpM (bs : List UInt8) : Ms := match decO bs with | some [r] => if unpE1 r = 0 then unpR r else msZero | _ => msZero

end Go.Proofs.YtbkpholkjgjicaaGreat

namespace Go.Proofs.YtbkpholkjgjicaaGreat
set_option linter.unusedVariables false
open Go.RowKit Go.Sort

set_option maxHeartbeats 800000 in
theorem swithin_any (n l m : Int) (w : World) : Calls Tryz.prog 19 #[.int .i64 n, .int .i64 l, .int .i64 m] w fun e w' => e = .returned (.bool (wiB n l m)) ∧ w = w' := by
  unfold wiB
  rcases h1 : decide (l ≤ n) with _ | _
  · have h1' : ¬ l ≤ n := of_decide_eq_false h1
    go_enter Tryz.func19, Tryz.ntmps19
    go_wp2_with fail
    go_ret
    exact ⟨rfl, rfl⟩
  · have h1' : l ≤ n := of_decide_eq_true h1
    rcases h2 : decide (n ≤ m) with _ | _
    · have h2' : ¬ n ≤ m := of_decide_eq_false h2
      go_enter Tryz.func19, Tryz.ntmps19
      go_wp2_with fail
      go_ret
      exact ⟨rfl, rfl⟩
    · have h2' : n ≤ m := of_decide_eq_true h2
      go_enter Tryz.func19, Tryz.ntmps19
      go_wp2_with fail
      go_ret
      exact ⟨rfl, rfl⟩

set_option maxRecDepth 100000 in
set_option maxHeartbeats 1600000 in
theorem sempty_ex (w : World) (o s ag : Int) (ov : Bool) (A : Option Addr) (n c : Nat) (B : Option Addr) (m d : Nat) : Calls Tryz.prog 88 #[laV o s ag ov A n c B m d] w fun e w' =>
    e = .returned (.bool (o == 0 && (s == 0 && (ag == 0 && (!ov && ((n : Int) == 0 && (m : Int) == 0)))))) ∧ Below w.heap.size w w' := by
  have S := (St.start w).new' #[.int .i64 o, .int .i64 s, .int .i64 ag, .bool ov, .slice A n c, .slice B m d] 52 w.heap.size _ rfl rfl
  have a0 := S.c 0 0 rfl rfl
  have a1 := S.c 0 1 rfl rfl
  have a2 := S.c 0 2 rfl rfl
  have a3 := S.c 0 3 rfl rfl
  have a4 := S.c 0 4 rfl rfl
  have a5 := S.c 0 5 rfl rfl
  have hbb := S.b
  clear S
  rcases h1 : (o == 0) with _ | _
  · go_enter Tryz.func88, Tryz.ntmps88
    go_wp2_with fail
    go_ret
    exact ⟨rfl, hbb⟩
  rcases h2 : (s == 0) with _ | _
  · go_enter Tryz.func88, Tryz.ntmps88
    go_wp2_with fail
    go_ret
    exact ⟨rfl, hbb⟩
  rcases h3 : (ag == 0) with _ | _
  · go_enter Tryz.func88, Tryz.ntmps88
    go_wp2_with fail
    go_ret
    exact ⟨rfl, hbb⟩
  cases ov with
  | true =>
    go_enter Tryz.func88, Tryz.ntmps88
    go_wp2_with fail
    go_ret
    exact ⟨rfl, hbb⟩
  | false =>
  rcases h5 : ((n : Int) == 0) with _ | _
  · go_enter Tryz.func88, Tryz.ntmps88
    go_wp2_with fail
    go_ret
    exact ⟨rfl, hbb⟩
  rcases h6 : ((m : Int) == 0) with _ | _
  · go_enter Tryz.func88, Tryz.ntmps88
    go_wp2_with fail
    go_ret
    exact ⟨rfl, hbb⟩
  · go_enter Tryz.func88, Tryz.ntmps88
    go_wp2_with fail
    go_ret
    exact ⟨rfl, hbb⟩

theorem sempty_any (w : World) (x : La) (A : Option Addr) (c : Nat) (B : Option Addr) (d : Nat) : Calls Tryz.prog 88 #[laW x A c B d] w fun e w' => e = .returned (.bool (emB x)) ∧ Below w.heap.size w w' := by
  have e5 : ((x.adj.length : Int) == 0) = decide (x.adj.length = 0) := by rw [Bool.eq_iff_iff]; simp
  have e6 : ((x.pre.length : Int) == 0) = decide (x.pre.length = 0) := by rw [Bool.eq_iff_iff]; simp
  have := sempty_ex w x.o x.s x.a x.ov A x.adj.length c B x.pre.length d
  rw [e5, e6] at this
  exact this

set_option maxRecDepth 100000 in
set_option maxHeartbeats 3200000 in
theorem svalid_any (w : World) (v : Value) (m : Ms) (h : MsAt w v m) : Calls Tryz.prog 53 #[v] w fun e w' => e = .returned (.bool (msB m)) ∧ Below w.heap.size w w' := by
  obtain ⟨A, c, B, d, rfl, hl⟩ := h
  obtain ⟨mk, mn, mb, mh, y⟩ := m
  unfold msB
  unfold msV
  simp only at hl ⊢
  have S := (St.start w).new' #[.int .i64 mk, .int .i64 mn, .int .i64 mb, .int .i64 mh, .int .i64 y.o, .int .i64 y.s, .int .i64 y.a, .bool y.ov, .slice A y.adj.length c, .slice B y.pre.length d] 58 w.heap.size _ rfl rfl
  have V := fun W hb => valid_at W _ y (hl.below hb)
  obtain ⟨vb, hvb⟩ : ∃ z, vB y = z := ⟨_, rfl⟩
  rw [hvb] at V
  rw [hvb]
  have E := fun W => sempty_any W y A c B d
  generalize emB y = eb at *
  obtain ⟨b1, hb1⟩ : ∃ z, wiB mb 1 1073741824 = z := ⟨_, rfl⟩
  obtain ⟨b2, hb2⟩ : ∃ z, wiB mn 0 63 = z := ⟨_, rfl⟩
  obtain ⟨b3, hb3⟩ : ∃ z, wiB mh 0 1073741824 = z := ⟨_, rfl⟩
  have W1 := fun W => swithin_any mb 1 1073741824 W
  have W2 := fun W => swithin_any mn 0 63 W
  have W3 := fun W => swithin_any mh 0 1073741824 W
  rw [hb1] at W1
  rw [hb2] at W2
  rw [hb3] at W3
  obtain ⟨r, hr⟩ : ∃ r, (wiB mb 1 1073741824 && (if mk = 1 then wiB mn 0 63 && (wiB mh 0 1073741824 && eb) else if mk = 2 ∨ mk = 3 then mn == 0 && (mh == 0 && vb) else false)) = r := ⟨_, rfl⟩
  rw [hr]
  rw [hb1, hb2, hb3] at hr
  replace hr := Lib.hid hr
  replace V := Lib.hid V
  replace E := Lib.hid E
  replace W1 := Lib.hid W1
  replace W2 := Lib.hid W2
  replace W3 := Lib.hid W3
  clear hl hvb hb1 hb2 hb3
  have a0 := S.c 0 0 rfl rfl
  have a1 := S.c 0 1 rfl rfl
  have a2 := S.c 0 2 rfl rfl
  have a3 := S.c 0 3 rfl rfl
  have a4 := S.c 0 4 rfl rfl
  have a5 := S.c 0 5 rfl rfl
  have a6 := S.c 0 6 rfl rfl
  have a7 := S.c 0 7 rfl rfl
  have a8 := S.c 0 8 rfl rfl
  have a9 := S.c 0 9 rfl rfl
  go_enter Tryz.func53, Tryz.ntmps53
  go_wp2_with fail
  (with_reducible refine (W1.out _).mono ?_)
  rintro e w1 ⟨rfl, rfl⟩
  cases b1 with
  | false =>
    obtain rfl : false = r := by rw [← hr.out]; simp
    go_wp2_with fail
    go_ret
    exact ⟨rfl, S.b⟩
  | true =>
  by_cases hk1 : mk = 1
  · subst hk1
    cases b2 with
    | false =>
      obtain rfl : false = r := by rw [← hr.out]; simp
      go_wp2_with fail
      (with_reducible refine (W2.out _).mono ?_)
      rintro e w2 ⟨rfl, rfl⟩
      go_wp2_with fail
      go_ret
      exact ⟨rfl, S.b⟩
    | true =>
    cases b3 with
    | false =>
      obtain rfl : false = r := by rw [← hr.out]; simp
      go_wp2_with fail
      (with_reducible refine (W2.out _).mono ?_)
      rintro e w2 ⟨rfl, rfl⟩
      go_wp2_with fail
      (with_reducible refine (W3.out _).mono ?_)
      rintro e w3 ⟨rfl, rfl⟩
      go_wp2_with fail
      go_ret
      exact ⟨rfl, S.b⟩
    | true =>
    obtain rfl : eb = r := by rw [← hr.out]; simp
    go_wp2_with fail
    (with_reducible refine (W2.out _).mono ?_)
    rintro e w2 ⟨rfl, rfl⟩
    go_wp2_with fail
    (with_reducible refine (W3.out _).mono ?_)
    rintro e w3 ⟨rfl, rfl⟩
    go_wp2_with fail
    (with_reducible refine (E.out _).mono ?_)
    rintro e w4 ⟨rfl, hb⟩
    replace S := S.call hb
    go_wp2_with fail
    go_ret
    exact ⟨rfl, S.b⟩
  by_cases hk2 : mk = 2 ∨ mk = 3
  · by_cases hn0 : mn = 0
    · subst hn0
      by_cases hh0 : mh = 0
      · subst hh0
        obtain rfl : vb = r := by rw [← hr.out, if_neg hk1, if_pos hk2]; simp
        rcases hk2 with hk2 | hk2
        all_goals
          subst hk2
          go_wp2_with fail
          (with_reducible refine (V.out _ S.b).mono ?_)
          rintro e w4 ⟨rfl, hb⟩
          replace S := S.call hb
          go_wp2_with fail
          go_ret
          exact ⟨rfl, S.b⟩
      · obtain rfl : false = r := by rw [← hr.out, if_neg hk1, if_pos hk2]; simp [hh0]
        have h6 : (mh == 0) = false := by simpa using hh0
        rcases hk2 with hk2 | hk2
        all_goals
          subst hk2
          go_wp2_with fail
          go_ret
          exact ⟨rfl, S.b⟩
    · obtain rfl : false = r := by rw [← hr.out, if_neg hk1, if_pos hk2]; simp [hn0]
      have h5 : (mn == 0) = false := by simpa using hn0
      rcases hk2 with hk2 | hk2
      all_goals
        subst hk2
        go_wp2_with fail
        go_ret
        exact ⟨rfl, S.b⟩
  · obtain rfl : false = r := by rw [← hr.out, if_neg hk1, if_neg hk2]; simp
    have k1 : (mk == 1) = false := by simpa using hk1
    have k2 : (mk == 2) = false := by simp; omega
    have k3 : (mk == 3) = false := by simp; omega
    clear hk1 hk2
    go_wp2_with fail
    go_ret
    exact ⟨rfl, S.b⟩

end Go.Proofs.YtbkpholkjgjicaaGreat

namespace Go.Proofs.YtbkpholkjgjicaaGreat
set_option linter.unusedVariables false
open Go.RowKit Go.Sort

theorem au_ok (bs : List UInt8) (m k : Nat) (z : Int) (hz : z = k) (h1 : 1 ≤ k) (h8 : k ≤ 8) (hm : m < 256 ^ k) : auE m z = 0 ∧ auR bs m z = bs ++ numB m k := by
  subst hz
  have e : auE m (k : Int) = 0 := by
    unfold auE
    rw [if_neg (by omega), if_pos (by simpa using hm)]
  refine ⟨e, ?_⟩
  unfold auR
  rw [e, if_pos rfl, Int.toNat_natCast]
/-- AppendUint at a number that fits. -/
theorem append_ok (A : Option Addr) (n cap : Nat) (bs : List UInt8) (m k : Nat) (z : Int) (w : World) (hr : Bs w A bs) (hn : bs.length = n) (hn2 : n ≤ 1000000) (hz : z = k) (h1 : 1 ≤ k) (h8 : k ≤ 8) (hm : m < 256 ^ k) (N : Nat) (L : List UInt8) (hN : n + k = N) (hL : bs ++ numB m k = L) :
    Calls Tryz.prog 54 #[.slice A n cap, .int .u64 m, .int .i64 z] w fun e w' =>
      ∃ A' c', e = .returned (.tuple #[.slice A' N c', .int .i64 0]) ∧ w'.ownsRow w.heap.size 5 1 (.slice A' N c') N (L.map u8v) ∧ Below w.heap.size w w' := by
  have h64 : 256 ^ k ≤ 18446744073709551616 := by
    have : 256 ^ k ≤ 256 ^ 8 := Nat.pow_le_pow_right (by omega) h8
    omega
  obtain ⟨e1, e2⟩ := au_ok bs m k z hz h1 h8 hm
  refine (append_any A n cap bs m z w hr hn hn2 (by omega)).mono ?_
  rintro e w' ⟨v, he, hown, hb⟩
  rw [e1] at he
  rw [e2, hL] at hown
  have hl : L.length = N := by rw [← hL, List.length_append, numB_len]; omega
  rw [hl] at hown
  obtain ⟨A', c', rfl, _⟩ := own_rd hown
  exact ⟨A', c', he, hown, hb⟩

noncomputable def packE (m : Ms) : Int := if msB m = true then 0 else 1
noncomputable def packB (m : Ms) : List UInt8 := if msB m = true then msEnc m else []
def PackPost (w : World) (m : Ms) (e : Ending) (w' : World) : Prop :=
  ∃ A c, e = .returned (.tuple #[.slice A (packB m).length c, .int .i64 (packE m)]) ∧ w'.ownsRow w.heap.size 5 1 (.slice A (packB m).length c) (packB m).length ((packB m).map u8v) ∧ Below w.heap.size w w'

/-- What a message that is valid is. -/
theorem ms_cases {m : Ms} (h : msB m = true) : (1 ≤ m.b ∧ m.b ≤ 1073741824) ∧ ((m.k = 1 ∧ (0 ≤ m.n ∧ m.n ≤ 63) ∧ (0 ≤ m.h ∧ m.h ≤ 1073741824) ∧ m.y = laZero) ∨ ((m.k = 2 ∨ m.k = 3) ∧ m.n = 0 ∧ m.h = 0 ∧ LaValid m.y)) := by
  simp only [msB, Bool.and_eq_true] at h
  refine ⟨wiB_t h.1, ?_⟩
  obtain ⟨_, h⟩ := h
  by_cases hk : m.k = 1
  · rw [if_pos hk] at h
    simp only [Bool.and_eq_true] at h
    exact .inl ⟨hk, wiB_t h.1, wiB_t h.2.1, emB_iff.1 h.2.2⟩
  · rw [if_neg hk] at h
    by_cases hk2 : m.k = 2 ∨ m.k = 3
    · rw [if_pos hk2] at h
      simp only [Bool.and_eq_true] at h
      exact .inr ⟨hk2, by simpa using h.1, by simpa using h.2.1, vB_iff.1 h.2.2⟩
    · rw [if_neg hk2] at h; cases h
theorem enc1_one (r : Rec) (h1 : 1 ≤ r.1) (h2 : r.1 ≤ 255) (h3 : r.2.length ≤ 65535) : encE [r] = 0 ∧ encR [r] = enc1 r := by
  have e : encE [r] = 0 := encE_all _ (by simp; exact ⟨h1, h2, h3⟩)
  refine ⟨e, ?_⟩
  unfold encR
  rw [e, if_pos rfl]
  simp [encAll]
/-- The record of a message in a block of its own. -/
theorem encode_one (w : World) (k : Int) (A : Option Addr) (n c : Nat) (bs : List UInt8) (g : Nat) (h1 : 1 ≤ k) (h2 : k ≤ 255) (h3 : n ≤ 65535) (hr : Bs w A bs) (hn : bs.length = n) (hnc : n ≤ c) (hc : c ≤ 9223372036854775807) (hg : Rd w (some ⟨g, 0, none⟩) [.int .i64 k, .slice A n c]) :
    Calls Tryz.prog 56 #[.slice (some ⟨g, 0, none⟩) 1 1] w fun e w' =>
      ∃ A' c', e = .returned (.tuple #[.slice A' (enc1 (k, bs)).length c', .int .i64 0]) ∧ w'.ownsRow w.heap.size 5 1 (.slice A' (enc1 (k, bs)).length c') (enc1 (k, bs)).length ((enc1 (k, bs)).map u8v) ∧ Below w.heap.size w w' := by
  obtain ⟨e1, e2⟩ := enc1_one (k, bs) h1 h2 (by simpa [hn] using h3)
  refine (cencode_any (some ⟨g, 0, none⟩) 1 1 [⟨k, A, n, c, bs⟩] w hg (by
    intro r hr'
    rw [List.mem_singleton.1 hr']
    exact ⟨hr, hn, hnc, hc⟩) rfl (by omega)).mono ?_
  rintro e w' ⟨v, he, hown, hb⟩
  rw [show [(⟨k, A, n, c, bs⟩ : Rc)].map dat = [(k, bs)] from rfl] at he hown
  rw [e1] at he
  rw [e2] at hown
  obtain ⟨A', c', rfl, _⟩ := own_rd hown
  exact ⟨A', c', he, hown, hb⟩

set_option maxRecDepth 100000 in
set_option maxHeartbeats 6400000 in
theorem spack_any (w : World) (v : Value) (m : Ms) (h : MsAt w v m) : Calls Tryz.prog 17 #[v] w (PackPost w m) := by
  have V := fun W (hb : Below w.heap.size w W) => svalid_any W v m (h.below hb)
  obtain ⟨A, c, B, d, rfl, hl⟩ := h
  have S := (St.start w).new' #[.int .i64 m.k, .int .i64 m.n, .int .i64 m.b, .int .i64 m.h, .int .i64 m.y.o, .int .i64 m.y.s, .int .i64 m.y.a, .bool m.y.ov, .slice A m.y.adj.length c, .slice B m.y.pre.length d] 58 w.heap.size _ rfl rfl
  have N := fun W hb => enc_at W _ m.y (hl.below hb)
  clear hl
  rcases hv : msB m with _ | _
  · have hP : PackPost w m = fun e w' => ∃ A c, e = .returned (.tuple #[.slice A ([] : List UInt8).length c, .int .i64 1]) ∧ w'.ownsRow w.heap.size 5 1 (.slice A ([] : List UInt8).length c) ([] : List UInt8).length (([] : List UInt8).map u8v) ∧ Below w.heap.size w w' := by
      unfold PackPost packB packE
      rw [hv]
      rfl
    rw [hP]
    rw [hv] at V
    clear hP hv N
    replace V := Lib.hid V
    have a0 := S.c 0 0 rfl rfl
    have a1 := S.c 0 1 rfl rfl
    have a2 := S.c 0 2 rfl rfl
    have a3 := S.c 0 3 rfl rfl
    have a4 := S.c 0 4 rfl rfl
    have a5 := S.c 0 5 rfl rfl
    have a6 := S.c 0 6 rfl rfl
    have a7 := S.c 0 7 rfl rfl
    have a8 := S.c 0 8 rfl rfl
    have a9 := S.c 0 9 rfl rfl
    go_enter Tryz.func17, Tryz.ntmps17
    go_wp2_with fail
    (with_reducible refine (V.out _ S.b).mono ?_)
    rintro e w1 ⟨rfl, hb⟩
    replace S := S.call hb
    go_wp2_with fail
    go_ret2
    exact ⟨none, 0, rfl, World.ownsRow_nil _ _ _ _, S.b⟩
  have hP : PackPost w m = fun e w' => ∃ A c, e = .returned (.tuple #[.slice A (msEnc m).length c, .int .i64 0]) ∧ w'.ownsRow w.heap.size 5 1 (.slice A (msEnc m).length c) (msEnc m).length ((msEnc m).map u8v) ∧ Below w.heap.size w w' := by
    unfold PackPost packB packE
    rw [hv]
    rfl
  rw [hP]
  rw [hv] at V
  have hval := msVal_len hv
  obtain ⟨⟨hb1, hb2⟩, hc⟩ := ms_cases hv
  clear hP hv
  unfold msEnc msVal at *
  obtain ⟨k, n, b, h, y⟩ := m
  simp only at *
  obtain ⟨bb, rfl⟩ := Int.eq_ofNat_of_zero_le (show 0 ≤ b by omega)
  replace V := Lib.hid V
  replace N := Lib.hid N
  rcases hc with ⟨rfl, ⟨hn1, hn2⟩, ⟨hh1, hh2⟩, rfl⟩ | ⟨hk, rfl, rfl, hy⟩
  · obtain ⟨nn, rfl⟩ := Int.eq_ofNat_of_zero_le hn1
    obtain ⟨hh, rfl⟩ := Int.eq_ofNat_of_zero_le hh1
    rw [if_pos rfl]
    rw [show (((nn : Int)).toNat) = nn from Int.toNat_natCast nn, show (((bb : Int)).toNat) = bb from Int.toNat_natCast bb, show (((hh : Int)).toNat) = hh from Int.toNat_natCast hh]
    clear hval N
    obtain ⟨L, hL⟩ : ∃ L, enc1 (1, numB nn 2 ++ (numB bb 4 ++ numB hh 4)) = L := ⟨_, rfl⟩
    rw [hL]
    replace hL := Lib.hid hL
    have a0 := S.c 0 0 rfl rfl
    have a1 := S.c 0 1 rfl rfl
    have a2 := S.c 0 2 rfl rfl
    have a3 := S.c 0 3 rfl rfl
    have a4 := S.c 0 4 rfl rfl
    have a5 := S.c 0 5 rfl rfl
    have a6 := S.c 0 6 rfl rfl
    have a7 := S.c 0 7 rfl rfl
    have a8 := S.c 0 8 rfl rfl
    have a9 := S.c 0 9 rfl rfl
    go_enter Tryz.func17, Tryz.ntmps17
    go_wp2_with fail
    (with_reducible refine (V.out _ S.b).mono ?_)
    rintro e w1 ⟨rfl, hb⟩
    clear a0 a1 a2 a3 a4 a5 a6 a7 a8 a9
    replace S := S.call hb
    clear hb V
    have a0 := S.c 0 0 rfl rfl
    have a1 := S.c 0 1 rfl rfl
    have a2 := S.c 0 2 rfl rfl
    have a3 := S.c 0 3 rfl rfl
    have a4 := S.c 0 4 rfl rfl
    have a5 := S.c 0 5 rfl rfl
    have a6 := S.c 0 6 rfl rfl
    have a7 := S.c 0 7 rfl rfl
    have a8 := S.c 0 8 rfl rfl
    have a9 := S.c 0 9 rfl rfl
    go_wp2_with fail
    (with_reducible refine (append_ok none 0 0 [] nn 2 2 _ (Rd.nil _ _) rfl (by omega) rfl (by omega) (by omega) (by omega) 2 (numB nn 2) rfl (by simp)).mono ?_)
    rintro e w2 ⟨A1, c1, rfl, o1, hb⟩
    clear a0 a1 a2 a3 a4 a5 a6 a7 a8 a9
    replace S := S.call hb
    clear hb
    have a0 := S.c 0 0 rfl rfl
    have a1 := S.c 0 1 rfl rfl
    have a2 := S.c 0 2 rfl rfl
    have a3 := S.c 0 3 rfl rfl
    have a4 := S.c 0 4 rfl rfl
    have a5 := S.c 0 5 rfl rfl
    have a6 := S.c 0 6 rfl rfl
    have a7 := S.c 0 7 rfl rfl
    have a8 := S.c 0 8 rfl rfl
    have a9 := S.c 0 9 rfl rfl
    go_wp2_with fail
    (with_reducible refine (append_ok A1 2 c1 (numB nn 2) bb 4 4 _ (own_slice' o1) (numB_len _ _) (by omega) rfl (by omega) (by omega) (by omega) 6 (numB nn 2 ++ numB bb 4) rfl rfl).mono ?_)
    rintro e w3 ⟨A2, c2, rfl, o2, hb⟩
    clear a0 a1 a2 a3 a4 a5 a6 a7 a8 a9
    replace S := S.call hb
    clear hb o1
    have a0 := S.c 0 0 rfl rfl
    have a1 := S.c 0 1 rfl rfl
    have a2 := S.c 0 2 rfl rfl
    have a3 := S.c 0 3 rfl rfl
    have a4 := S.c 0 4 rfl rfl
    have a5 := S.c 0 5 rfl rfl
    have a6 := S.c 0 6 rfl rfl
    have a7 := S.c 0 7 rfl rfl
    have a8 := S.c 0 8 rfl rfl
    have a9 := S.c 0 9 rfl rfl
    go_wp2_with fail
    (with_reducible refine (append_ok A2 6 c2 (numB nn 2 ++ numB bb 4) hh 4 4 _ (own_slice' o2) (by simp [numB_len]) (by omega) rfl (by omega) (by omega) (by omega) 10 (numB nn 2 ++ (numB bb 4 ++ numB hh 4)) rfl (by simp)).mono ?_)
    rintro e w4 ⟨A3, c3, rfl, o3, hb⟩
    clear a0 a1 a2 a3 a4 a5 a6 a7 a8 a9
    replace S := S.call hb
    clear hb o2
    have hl3 : (numB nn 2 ++ (numB bb 4 ++ numB hh 4)).length = 10 := by simp [numB_len]
    obtain ⟨r3, n3, m3⟩ := own_rdp o3
    have hb4 := below_new' w4 (.cells #[.int .i64 1, .slice A3 10 c3] 117)
    have EN := encode_one (w4.alloc (.cells #[.int .i64 1, .slice A3 10 c3] 117)) 1 A3 10 c3 _ w4.heap.size (by omega) (by omega) (by omega) (r3.below hb4) hl3 n3 (by unfold maxLen at m3; omega) (Rd.lit w4 _ _)
    rw [hL.out] at EN
    clear o3 r3 hl3
    have hs4 := S.b.size
    replace EN := Lib.hid EN
    have a0 := S.c 0 0 rfl rfl
    have a1 := S.c 0 1 rfl rfl
    have a2 := S.c 0 2 rfl rfl
    have a3 := S.c 0 3 rfl rfl
    have a4 := S.c 0 4 rfl rfl
    have a5 := S.c 0 5 rfl rfl
    have a6 := S.c 0 6 rfl rfl
    have a7 := S.c 0 7 rfl rfl
    have a8 := S.c 0 8 rfl rfl
    have a9 := S.c 0 9 rfl rfl
    go_wp2_with fail
    (with_reducible refine (EN.out).mono ?_)
    rintro e w5 ⟨A4, c4, rfl, o4, hb⟩
    replace S := (S.call hb4).call hb
    go_wp2_with fail
    go_ret2
    exact ⟨A4, c4, rfl, own_mono o4 (by simp; omega), S.b⟩
  · have hk1 : (k == 1) = false := by simp; omega
    rw [if_neg (by omega)] at hval ⊢
    rw [show (((bb : Int)).toNat) = bb from Int.toNat_natCast bb] at hval ⊢
    have hkb : 1 ≤ k ∧ k ≤ 255 := by omega
    clear hk
    have hyl := laEnc_len y
    have hyb : (laEnc y).length ≤ 2996 := by rw [List.length_append, numB_len] at hval; omega
    have N2 : ∀ W, Below w.heap.size w W → Calls Tryz.prog 55 #[laW y A c B d] W (fun e w' => ∃ A c, e = .returned (.tuple #[.slice A (laEnc y).length c, .int .i64 0]) ∧ w'.ownsRow W.heap.size 5 1 (.slice A (laEnc y).length c) (laEnc y).length ((laEnc y).map u8v) ∧ Below W.heap.size W w') := fun W hb => (N.out W hb).mono fun e w' h => by
      unfold EncPost lencB lencE at h
      rw [vB_t hy] at h
      exact h
    clear N hyl hy
    obtain ⟨Y, hY⟩ : ∃ Y, laEnc y = Y := ⟨_, rfl⟩
    rw [hY] at hval hyb N2 ⊢
    clear hY
    obtain ⟨L, hL⟩ : ∃ L, enc1 (k, numB bb 4 ++ Y) = L := ⟨_, rfl⟩
    rw [hL]
    replace hL := Lib.hid hL
    replace N2 := Lib.hid N2
    replace hk1 := Lib.hid hk1
    have a0 := S.c 0 0 rfl rfl
    have a1 := S.c 0 1 rfl rfl
    have a2 := S.c 0 2 rfl rfl
    have a3 := S.c 0 3 rfl rfl
    have a4 := S.c 0 4 rfl rfl
    have a5 := S.c 0 5 rfl rfl
    have a6 := S.c 0 6 rfl rfl
    have a7 := S.c 0 7 rfl rfl
    have a8 := S.c 0 8 rfl rfl
    have a9 := S.c 0 9 rfl rfl
    go_enter Tryz.func17, Tryz.ntmps17
    go_wp2_with fail
    (with_reducible refine (V.out _ S.b).mono ?_)
    rintro e w1 ⟨rfl, hb⟩
    clear a0 a1 a2 a3 a4 a5 a6 a7 a8 a9
    replace S := S.call hb
    clear hb V
    have a0 := S.c 0 0 rfl rfl
    have a1 := S.c 0 1 rfl rfl
    have a2 := S.c 0 2 rfl rfl
    have a3 := S.c 0 3 rfl rfl
    have a4 := S.c 0 4 rfl rfl
    have a5 := S.c 0 5 rfl rfl
    have a6 := S.c 0 6 rfl rfl
    have a7 := S.c 0 7 rfl rfl
    have a8 := S.c 0 8 rfl rfl
    have a9 := S.c 0 9 rfl rfl
    have hk2 := hk1.out
    have S0lt := S.lt 0 rfl (by simp)
    have hs1 := S.b.size
    go_wp2_with fail
    (with_reducible refine (append_ok none 0 0 [] bb 4 4 _ (Rd.nil _ _) rfl (by omega) rfl (by omega) (by omega) (by omega) 4 (numB bb 4) rfl (by simp)).mono ?_)
    rintro e w2 ⟨A1, c1, rfl, o1, hb⟩
    clear a0 a1 a2 a3 a4 a5 a6 a7 a8 a9
    have hg1 := S0lt
    replace S := S.call hb
    have h12' := hb.size
    clear hb
    have a0 := S.c 0 0 rfl rfl
    have a1 := S.c 0 1 rfl rfl
    have a2 := S.c 0 2 rfl rfl
    have a3 := S.c 0 3 rfl rfl
    have a4 := S.c 0 4 rfl rfl
    have a5 := S.c 0 5 rfl rfl
    have a6 := S.c 0 6 rfl rfl
    have a7 := S.c 0 7 rfl rfl
    have a8 := S.c 0 8 rfl rfl
    have a9 := S.c 0 9 rfl rfl
    go_wp2_with fail
    (with_reducible refine (N2.out _ S.b).mono ?_)
    rintro e w3 ⟨A2, c2, rfl, o2, hb⟩
    clear a0 a1 a2 a3 a4 a5 a6 a7 a8 a9
    replace S := S.call hb
    replace o1 := own_below o1 hb
    have hsz := hb.size
    clear hb N2
    obtain ⟨r2, n2, m2⟩ := own_rdp o2
    have hwb := S.b.size
    have hlY : (Y.map u8v).length = Y.length * 1 := by simp
    have a0 := S.c 0 0 rfl rfl
    have a1 := S.c 0 1 rfl rfl
    have a2 := S.c 0 2 rfl rfl
    have a3 := S.c 0 3 rfl rfl
    have a4 := S.c 0 4 rfl rfl
    have a5 := S.c 0 5 rfl rfl
    have a6 := S.c 0 6 rfl rfl
    have a7 := S.c 0 7 rfl rfl
    have a8 := S.c 0 8 rfl rfl
    have a9 := S.c 0 9 rfl rfl
    go_wp2_with (at_builtin; refine wpList_app rfl bytesT (.tmp 46) (.tmp 47) rfl w1.heap.size rfl o1 (m := Y.length) rfl hlY r2 (u8v_one _) (by simp only [maxLen]; omega) (by omega) (by omega) (4 + Y.length) ((numB bb 4 ++ Y).map u8v) rfl (by simp) ?_; intro v3 w4 o3 hb3; have q0 := (hb3.cell (p := ⟨w.heap.size, 0, none⟩) hg1).trans a0; obtain ⟨A3, c3, rfl, r3, n3, m3⟩ := own_rd o3)
    have hb4' : Below w.heap.size w w4 := S.b.trans (hb3.mono hs1)
    have hl3 : (numB bb 4 ++ Y).length = 4 + Y.length := by simp [numB_len]
    have hb4 := below_new' w4 (.cells #[.int .i64 k, .slice A3 (4 + Y.length) c3] 117)
    have EN := encode_one (w4.alloc (.cells #[.int .i64 k, .slice A3 (4 + Y.length) c3] 117)) k A3 (4 + Y.length) c3 _ w4.heap.size hkb.1 hkb.2 (by omega) (r3.below hb4) hl3 n3 (by unfold maxLen at m3; omega) (Rd.lit w4 _ _)
    rw [hL.out] at EN
    (with_reducible refine (EN).mono ?_)
    rintro e w5 ⟨A4, c4, rfl, o4, hb⟩
    have hs4 : w.heap.size ≤ w4.heap.size := Nat.le_trans hwb hb3.size
    have hb5 := hb4'.trans ((hb4.mono hs4).trans (hb.mono (by simp; omega)))
    clear EN
    go_wp2_with fail
    go_ret2
    exact ⟨A4, c4, rfl, own_mono o4 (by simp; omega), hb5⟩

end Go.Proofs.YtbkpholkjgjicaaGreat

namespace Go.Proofs.YtbkpholkjgjicaaGreat
set_option linter.unusedVariables false
open Go.RowKit Go.Sort

theorem wiB_lo {n l m : Int} (h : n < l) : wiB n l m = false := by unfold wiB; rw [decide_eq_false (by omega)]; rfl
theorem wiB_hi {n l m : Int} (h : m < n) : wiB n l m = false := by unfold wiB; rw [decide_eq_false (p := n ≤ m) (by omega)]; simp
theorem wiB_in {n l m : Int} (h : l ≤ n) (h2 : n ≤ m) : wiB n l m = true := by unfold wiB; rw [decide_eq_true h, decide_eq_true h2]; rfl

end Go.Proofs.YtbkpholkjgjicaaGreat

namespace Go.Proofs.YtbkpholkjgjicaaGreat
set_option linter.unusedVariables false
open Go.RowKit Go.Sort

def RPackPost (w : World) (m : Ms) (e : Ending) (w' : World) : Prop :=
  ∃ A c, e = .returned (.slice A (msEnc m).length c) ∧ w'.ownsRow w.heap.size 5 1 (.slice A (msEnc m).length c) (msEnc m).length ((msEnc m).map u8v) ∧ Below w.heap.size w w'
theorem St.callM {W w w' : World} {bs : List (Nat × List Value)} {rs : List (Option Addr × List Value)} {B : Nat} (S : St W w bs rs) (hb : Below B w w') (hB : W.heap.size ≤ B) (hd : ∀ x ∈ bs, x.1 < B) : St W w' bs rs :=
  ⟨S.b.trans (hb.mono hB), fun i x hx i' u hu => by
    have hx' := hd x (List.mem_of_getElem? hx)
    have := S.bx i x hx i' u hu
    exact ⟨(hb.cell (p := ⟨x.1, i', none⟩) hx').trans this.1, (hb.frozen (p := ⟨x.1, i', none⟩) hx').trans this.2⟩, S.rd⟩
theorem own_grownM {w w' : World} {base : Nat} {e : TypeId} {size : Nat} {v : Value} {n : Nat} {xs : List Value} {row : Option Nat} (h : w.ownsRow base e size v n xs) (hg : w.grownBy w' row) (hne : v.ownBlock = none ∨ v.ownBlock ≠ row) : w'.ownsRow base e size v n xs := by
  refine ⟨h.1, ?_⟩
  rcases h.2 with h2 | ⟨b, cap, cur, rfl, hb, hh, r⟩
  · exact .inl h2
  · exact .inr ⟨b, cap, cur, rfl, hb, (hg.block b (h.lt b rfl).2 (fun e => by
      rcases hne with h | h
      · simp [Value.ownBlock] at h
      · exact h (by rw [← e]; rfl))).trans hh, r⟩
/-- What was made by two calls lies apart. -/
theorem own_apart {w w' : World} {b1 : Nat} {e1 e2 : TypeId} {s1 s2 : Nat} {v1 v2 : Value} {n1 n2 : Nat} {x1 x2 : List Value} (h1 : w.ownsRow b1 e1 s1 v1 n1 x1) (h2 : w'.ownsRow w.heap.size e2 s2 v2 n2 x2) : v2.ownBlock = none ∨ v2.ownBlock ≠ v1.ownBlock := by
  by_cases h : v2.ownBlock = none
  · exact .inl h
  · refine .inr fun e => ?_
    obtain ⟨b, hb⟩ := Option.ne_none_iff_exists'.1 h
    have k2 := (h2.lt b hb).1
    have k1 := (h1.lt b (e ▸ hb)).2
    omega
theorem own_apart' {w w' : World} {b1 : Nat} {e1 e2 : TypeId} {s1 s2 : Nat} {v1 v2 : Value} {n1 n2 : Nat} {x1 x2 : List Value} (h1 : w.ownsRow b1 e1 s1 v1 n1 x1) (h2 : w'.ownsRow w.heap.size e2 s2 v2 n2 x2) : v1.ownBlock = none ∨ v1.ownBlock ≠ v2.ownBlock := by
  rcases own_apart h1 h2 with h | h
  · by_cases h' : v1.ownBlock = none
    · exact .inl h'
    · exact .inr fun e => h' (e.trans h)
  · exact .inr fun e => h e.symm

end Go.Proofs.YtbkpholkjgjicaaGreat

namespace Go.Proofs.YtbkpholkjgjicaaGreat
set_option linter.unusedVariables false
open Go.RowKit Go.Sort

theorem uiN_of {bs : List UInt8} (h1 : 1 ≤ bs.length) (h8 : bs.length ≤ 8) : uiN bs = uintB bs ∧ uiE bs = 0 := by
  unfold uiN uiE
  rw [if_pos ⟨h1, h8⟩, if_pos ⟨h1, h8⟩]
  exact ⟨rfl, rfl⟩
theorem uintB_small {bs : List UInt8} (h : bs.length ≤ 4) : uintB bs < 4294967296 := by
  have := uintB_lt bs
  have h2 : 256 ^ bs.length ≤ 256 ^ 4 := Nat.pow_le_pow_right (by omega) h
  omega

set_option maxRecDepth 100000 in
set_option maxHeartbeats 1600000 in
/-- The closure: the number in some bytes of the value. -/
theorem unum_any (w : World) (g : Nat) (A : Option Addr) (n c : Nat) (bs : List UInt8) (hg : w.cell? ⟨g, 0, none⟩ = some (.slice A n c)) (hr : Bs w A bs) (hn : bs.length = n) (hnc : n ≤ c) (lo k : Nat) (z1 z2 : Int) (h1 : z1 = lo) (h2 : z2 = k) (hk1 : 1 ≤ k) (hk4 : k ≤ 4) (hl : lo + k ≤ n) (hn2 : n ≤ 100000) (q : Nat) (hq : uintB ((bs.drop lo).take k) = q) :
    Calls Tryz.prog 64 #[.int .i64 z1, .int .i64 z2, .pointer (some ⟨g, 0, none⟩)] w fun e w' => e = .returned (.int .i64 (q : Int)) ∧ w = w' := by
  subst h1 h2
  have hlen : ((bs.drop lo).take k).length = k := by rw [List.length_take, List.length_drop]; omega
  have hsl := run_sub bytesT A n c lo (lo + k) (by omega) (by omega) w
  have rd := (hr.sub lo c (by simp; omega)).take k
  rw [← List.map_drop, ← List.map_take] at rd
  obtain ⟨e1, e2⟩ := uiN_of (bs := (bs.drop lo).take k) (by omega) (by omega)
  have U := uint_any (subA A lo c) k (c - lo) _ w rd hlen (by omega)
  have hqs := uintB_small (bs := (bs.drop lo).take k) (by omega)
  rw [e1, e2, hq] at U
  rw [hq] at hqs
  generalize subA A lo c = A2 at *
  replace U := Lib.hid U
  rw [Int.natCast_add, Nat.add_sub_cancel_left] at hsl
  clear hr rd e1 e2 hq hlen
  replace hn := Lib.hid hn
  go_enter Tryz.func64, Tryz.ntmps64
  go_wp2_with fail
  (with_reducible refine (U.out).mono ?_)
  rintro e w1 ⟨rfl, rfl⟩
  go_wp2_with fail
  go_ret
  exact ⟨rfl, rfl⟩

abbrev z10 : List Value := [.int .i64 0, .int .i64 0, .int .i64 0, .int .i64 0, .int .i64 0, .int .i64 0, .int .i64 0, .bool false, .slice none 0 0, .slice none 0 0]
theorem St.setM {W w : World} {g : Nat} {bs : List (Nat × List Value)} {rs : List (Option Addr × List Value)} {a0 a1 a2 a3 a4 a5 a6 a7 a8 a9 : Value} (S : St W w ((g, [a0, a1, a2, a3, a4, a5, a6, a7, a8, a9]) :: bs) rs) (u0 u1 u2 u3 u4 u5 u6 u7 u8 u9 : Value) (hg : W.heap.size ≤ g) (hd : ∀ x ∈ bs, x.1 ≠ g) :
    St W ((((((((((w.setCell ⟨g, 0, none⟩ u0).setCell ⟨g, 1, none⟩ u1).setCell ⟨g, 2, none⟩ u2).setCell ⟨g, 3, none⟩ u3).setCell ⟨g, 4, none⟩ u4).setCell ⟨g, 5, none⟩ u5).setCell ⟨g, 6, none⟩ u6).setCell ⟨g, 7, none⟩ u7).setCell ⟨g, 8, none⟩ u8).setCell ⟨g, 9, none⟩ u9) ((g, [u0, u1, u2, u3, u4, u5, u6, u7, u8, u9]) :: bs) rs :=
  (((((((((S.set 0 0 u0 rfl (by simp) hg hd _ rfl).set 0 1 u1 rfl (by simp) hg hd _ rfl).set 0 2 u2 rfl (by simp) hg hd _ rfl).set 0 3 u3 rfl (by simp) hg hd _ rfl).set 0 4 u4 rfl (by simp) hg hd _ rfl).set 0 5 u5 rfl (by simp) hg hd _ rfl).set 0 6 u6 rfl (by simp) hg hd _ rfl).set 0 7 u7 rfl (by simp) hg hd _ rfl).set 0 8 u8 rfl (by simp) hg hd _ rfl).set 0 9 u9 rfl (by simp) hg hd _ rfl
theorem own_setM {w : World} {base : Nat} {e : TypeId} {size : Nat} {v : Value} {n : Nat} {xs : List Value} (h : w.ownsRow base e size v n xs) {g : Nat} (hg : g < base) (u0 u1 u2 u3 u4 u5 u6 u7 u8 u9 : Value) :
    ((((((((((w.setCell ⟨g, 0, none⟩ u0).setCell ⟨g, 1, none⟩ u1).setCell ⟨g, 2, none⟩ u2).setCell ⟨g, 3, none⟩ u3).setCell ⟨g, 4, none⟩ u4).setCell ⟨g, 5, none⟩ u5).setCell ⟨g, 6, none⟩ u6).setCell ⟨g, 7, none⟩ u7).setCell ⟨g, 8, none⟩ u8).setCell ⟨g, 9, none⟩ u9).ownsRow base e size v n xs :=
  ownsRow_setCell_below (a := ⟨g, 9, none⟩) (ownsRow_setCell_below (a := ⟨g, 8, none⟩) (ownsRow_setCell_below (a := ⟨g, 7, none⟩) (ownsRow_setCell_below (a := ⟨g, 6, none⟩) (ownsRow_setCell_below (a := ⟨g, 5, none⟩) (ownsRow_setCell_below (a := ⟨g, 4, none⟩) (ownsRow_setCell_below (a := ⟨g, 3, none⟩) (ownsRow_setCell_below (a := ⟨g, 2, none⟩) (ownsRow_setCell_below (a := ⟨g, 1, none⟩) (ownsRow_setCell_below (a := ⟨g, 0, none⟩) h hg _) hg _) hg _) hg _) hg _) hg _) hg _) hg _) hg _) hg _

theorem own_setO {w : World} {base : Nat} {e : TypeId} {size : Nat} {v : Value} {n : Nat} {xs : List Value} (h : w.ownsRow base e size v n xs) {g : Nat} (hg : g < base) (u0 u1 u2 u3 u4 u5 : Value) :
    ((((((w.setCell ⟨g, 4, none⟩ u0).setCell ⟨g, 5, none⟩ u1).setCell ⟨g, 6, none⟩ u2).setCell ⟨g, 7, none⟩ u3).setCell ⟨g, 8, none⟩ u4).setCell ⟨g, 9, none⟩ u5).ownsRow base e size v n xs :=
  ownsRow_setCell_below (a := ⟨g, 9, none⟩) (ownsRow_setCell_below (a := ⟨g, 8, none⟩) (ownsRow_setCell_below (a := ⟨g, 7, none⟩) (ownsRow_setCell_below (a := ⟨g, 6, none⟩) (ownsRow_setCell_below (a := ⟨g, 5, none⟩) (ownsRow_setCell_below (a := ⟨g, 4, none⟩) h hg _) hg _) hg _) hg _) hg _) hg _

def UnpPost (w : World) (E : Int) (m : Ms) (e : Ending) (w' : World) : Prop :=
  ∃ v, e = .returned (.tuple #[v, .int .i64 E]) ∧ MsOwn w' w.heap.size v m ∧ Below w.heap.size w w'

end Go.Proofs.YtbkpholkjgjicaaGreat

namespace Go.Proofs.YtbkpholkjgjicaaGreat
set_option linter.unusedVariables false
open Go.RowKit Go.Sort

theorem split_num (l : List UInt8) (a b : Nat) (h : a + b = l.length) : numB (uintB (l.take a)) a ++ numB (uintB ((l.drop a).take b)) b = l := by
  have h1 : numB (uintB (l.take a)) a = l.take a := by
    have := num_uint (l.take a)
    rwa [List.length_take, Nat.min_eq_left (by omega)] at this
  have h2 : numB (uintB ((l.drop a).take b)) b = l.drop a := by
    have := num_uint ((l.drop a).take b)
    rw [List.length_take, List.length_drop, Nat.min_eq_left (by omega)] at this
    rw [this, List.take_of_length_le (by rw [List.length_drop]; omega)]
  rw [h1, h2, List.take_append_drop]
/-- The bytes of the message that was found. -/
theorem unp_enc {bs : List UInt8} {r : Rec} (hd : decO bs = some [r]) (h : unpE1 r = 0) : msB (unpR r) = true ∧ msEnc (unpR r) = bs := by
  have hal : encAll [r] = bs := (decO_all _ bs (Nat.le_refl _) _ hd).2.1
  have hal2 : enc1 r = bs := by rw [← hal]; simp [encAll]
  obtain ⟨t, x⟩ := r
  unfold unpE1 at h
  simp only at h
  by_cases h1 : t = 1
  · subst h1
    rw [if_pos rfl] at h
    by_cases hx : x.length = 10 ∧ msB (unpR (1, x)) = true
    · refine ⟨hx.2, ?_⟩
      rw [← hal2]
      unfold msEnc msVal unpR
      simp only [if_true]
      rw [Int.toNat_natCast, Int.toNat_natCast, Int.toNat_natCast]
      have e1 : numB (uintB ((x.drop 2).take 4)) 4 ++ numB (uintB ((x.drop 6).take 4)) 4 = x.drop 2 := by
        have := split_num (x.drop 2) 4 4 (by rw [List.length_drop]; omega)
        rwa [List.drop_drop] at this
      have e2 : numB (uintB (x.take 2)) 2 = x.take 2 := by
        have := num_uint (x.take 2)
        rwa [List.length_take, Nat.min_eq_left (by omega)] at this
      rw [e1, e2, List.take_append_drop]
    · rw [if_neg hx] at h; cases h
  · rw [if_neg h1] at h
    by_cases h2 : t = 2 ∨ t = 3
    · rw [if_pos h2] at h
      by_cases h4 : x.length < 4
      · rw [if_pos h4] at h; cases h
      · rw [if_neg h4] at h
        by_cases hc : chk (x.drop 4) = false
        · rw [if_pos hc] at h; cases h
        · rw [if_neg hc] at h
          by_cases hm : msB (unpR (t, x)) = true
          · refine ⟨hm, ?_⟩
            obtain ⟨_, hmc⟩ := ms_cases hm
            have hR : unpR (t, x) = ⟨t, 0, uintB (x.take 4), 0, ldecV (x.drop 4)⟩ := by unfold unpR; rw [if_neg h1]
            rw [hR] at hmc ⊢
            simp only at hmc
            rcases hmc with ⟨e, _⟩ | ⟨_, _, _, hv⟩
            · exact absurd e h1
            · rw [← hal2]
              by_cases hx : ∃ y, DecIs (x.drop 4) y
              · obtain ⟨y, hy⟩ := hx
                obtain ⟨_, hy2⟩ := ldec_yes hy
                rw [hy2]
                unfold msEnc msVal
                simp only
                rw [if_neg h1, Int.toNat_natCast, hy.2]
                have e2 : numB (uintB (x.take 4)) 4 = x.take 4 := by
                  have := num_uint (x.take 4)
                  rwa [List.length_take, Nat.min_eq_left (by omega)] at this
                rw [e2, List.take_append_drop]
              · rw [ldecV_no hx] at hv
                have := hv.2.1
                simp [laZero] at this
          · rw [if_neg hm] at h; cases h
    · rw [if_neg h2] at h; cases h
theorem ldecE_bad {bs : List UInt8} (h : ldecE bs ≠ 0) (hc : chk bs = true) : ldecV bs = laZero := by
  by_cases hx : ∃ y, DecIs bs y
  · obtain ⟨y, hy⟩ := hx
    exact absurd (ldec_yes hy).1 h
  · exact ldecV_no hx
theorem msB_zero (t n b h : Int) (ht : t ≠ 1) : msB ⟨t, n, b, h, laZero⟩ = false := by
  have : vB laZero = false := vB_f (fun hv => by have := hv.2.1; simp [laZero] at this)
  simp [msB, ht, this]
theorem LaAt.drew' {w : World} {v : Value} {x : La} (h : LaAt w v x) : LaAt w.drew v x := h
theorem LaOwn.drew' {w : World} {base : Nat} {v : Value} {x : La} (h : LaOwn w base v x) : LaOwn w.drew base v x := h
/-- What the reference's tests decide. -/
def Fin (bs : List UInt8) (M : Ms) (ye : Int) : Prop := (unpE bs = if ye = 0 ∧ msB M = true then 0 else 4) ∧ (ye = 0 → msB M = true → unpM bs = M ∧ msEnc M = bs)
theorem fin_of {bs : List UInt8} {r : Rec} {M : Ms} {ye : Int} (hd : decO bs = some [r]) (h1 : unpE1 r = if ye = 0 ∧ msB M = true then 0 else 4) (h2 : ye = 0 → msB M = true → unpR r = M) : Fin bs M ye := by
  have hE : unpE bs = unpE1 r := by unfold unpE; rw [hd]
  refine ⟨by rw [hE, h1], fun a b => ?_⟩
  have h0 : unpE1 r = 0 := by rw [h1, if_pos ⟨a, b⟩]
  have hM : unpM bs = unpR r := by unfold unpM; rw [hd]; simp only; rw [if_pos h0]
  rw [hM, ← h2 a b]
  exact ⟨rfl, (unp_enc hd h0).2⟩
theorem Fin.bad {bs : List UInt8} {M : Ms} {ye : Int} (h : Fin bs M ye) (hn : ¬ (ye = 0 ∧ msB M = true)) (hr : ∃ r, decO bs = some [r]) : unpE bs = 4 ∧ unpM bs = msZero := by
  have h4 : unpE bs = 4 := by rw [h.1, if_neg hn]
  refine ⟨h4, ?_⟩
  obtain ⟨r, hr⟩ := hr
  unfold unpE at h4
  unfold unpM
  rw [hr] at h4 ⊢
  simp only at h4 ⊢
  rw [h4, if_neg (by omega)]

end Go.Proofs.YtbkpholkjgjicaaGreat

namespace Go.Proofs.YtbkpholkjgjicaaGreat
set_option linter.unusedVariables false
open Go.RowKit Go.Sort

/-- What was packed is found again. -/
theorem unp_pack {m : Ms} (h : msB m = true) (hu : ∀ p ∈ m.y.pre, p.1 < 4294967296) : unpE (msEnc m) = 0 ∧ unpM (msEnc m) = m := by
  obtain ⟨hb, hc⟩ := ms_cases h
  have hl := msVal_len h
  have hk : 1 ≤ m.k ∧ m.k ≤ 255 := by
    rcases hc with ⟨e, _⟩ | ⟨e, _⟩ <;> omega
  have hd : decO (msEnc m) = some [(m.k, msVal m)] := by
    have := decO_enc1 (m.k, msVal m) hk.1 hk.2 (by simp only; omega) []
    rw [List.append_nil, decO_nil] at this
    exact this
  have hR : unpR (m.k, msVal m) = m ∧ unpE1 (m.k, msVal m) = 0 := by
    obtain ⟨k, n, b, hh, y⟩ := m
    simp only at *
    rcases hc with ⟨rfl, ⟨h1, h2⟩, ⟨h3, h4⟩, rfl⟩ | ⟨hk2, rfl, rfl, hy⟩
    · have hlen : (msVal ⟨1, n, b, hh, laZero⟩).length = 10 := by simp [msVal, numB_len]
      have hR : unpR (1, msVal ⟨1, n, b, hh, laZero⟩) = ⟨1, n, b, hh, laZero⟩ := by
        unfold unpR msVal
        simp only [if_true]
        rw [take_num, drop_num, take_num]
        have e6 : (numB n.toNat 2 ++ (numB b.toNat 4 ++ numB hh.toNat 4)).drop 6 = numB hh.toNat 4 := by
          rw [← List.append_assoc]
          exact List.drop_left' (by simp [numB_len])
        rw [e6, List.take_of_length_le (by rw [numB_len]; exact Nat.le_refl _)]
        rw [uint_num _ _ (by omega), uint_num _ _ (by omega), uint_num _ _ (by omega), Int.toNat_of_nonneg (by omega), Int.toNat_of_nonneg (by omega), Int.toNat_of_nonneg (by omega)]
      refine ⟨hR, ?_⟩
      unfold unpE1
      rw [if_pos rfl, hR, if_pos ⟨hlen, h⟩]
    · have hk1 : k ≠ 1 := by omega
      have hv : msVal ⟨k, 0, b, 0, y⟩ = numB b.toNat 4 ++ laEnc y := by unfold msVal; rw [if_neg hk1]
      rw [hv]
      have hR : unpR (k, numB b.toNat 4 ++ laEnc y) = ⟨k, 0, b, 0, y⟩ := by
        unfold unpR
        simp only
        rw [if_neg hk1, take_num, drop_num, uint_num _ _ (by omega), Int.toNat_of_nonneg (by omega), (ldec_yes ⟨⟨hy, hu⟩, rfl⟩).2]
      refine ⟨hR, ?_⟩
      unfold unpE1
      simp only
      rw [if_neg hk1, if_pos hk2, if_neg (by rw [List.length_append, numB_len]; omega), drop_num, laEnc_chk, if_neg (by simp), hR, if_pos h]
  unfold unpE unpM
  rw [hd]
  simp only
  rw [hR.2, if_pos rfl, hR.1]
  exact ⟨rfl, rfl⟩

set_option maxRecDepth 100000 in
set_option maxHeartbeats 3200000 in
theorem packs_any (w : World) : Calls Tryz.prog 4 #[] w fun e w' => e = .returned (.bool true) ∧ Below w.heap.size w w' := by
  have hb : msB ⟨1, 3, 1, 2, laZero⟩ = true := by simp [msB, wiB, emB, laZero]
  have P : ∀ W, Calls Tryz.prog 17 #[.agg #[.int .i64 1, .int .i64 3, .int .i64 1, .int .i64 2, .int .i64 0, .int .i64 0, .int .i64 0, .bool false, .slice none 0 0, .slice none 0 0]] W fun e w' => ∃ A c, e = .returned (.tuple #[.slice A 13 c, .int .i64 0]) ∧ w'.ownsRow W.heap.size 5 1 (.slice A 13 c) 13 (([1, 0, 10, 0, 3, 0, 0, 0, 1, 0, 0, 0, 2] : List UInt8).map u8v) ∧ Below W.heap.size W w' := fun W => by
    have := spack_any W _ ⟨1, 3, 1, 2, laZero⟩ ⟨none, 0, none, 0, rfl, (laZero_own W W.heap.size).at⟩
    have e1 : packB ⟨1, 3, 1, 2, laZero⟩ = [1, 0, 10, 0, 3, 0, 0, 0, 1, 0, 0, 0, 2] := by
      unfold packB
      rw [if_pos hb]
      rfl
    unfold PackPost at this
    rw [e1] at this
    unfold packE at this
    rw [if_pos hb] at this
    exact this
  replace P := Lib.hid P
  clear hb
  go_enter Tryz.func4, Tryz.ntmps4
  go_wp2_with fail
  (with_reducible refine (P.out _).mono ?_)
  rintro e w1 ⟨A, c, rfl, o, hb⟩
  have cv := conv_bytes w1 Tryz.underlying54 Tryz.underlying5 Tryz.underlying9 (n := 13) (cap := c) (own_rdp o).1 rfl
  go_wp2_with fail
  go_ret
  exact ⟨rfl, hb⟩

end Go.Proofs.YtbkpholkjgjicaaGreat

namespace Go.Proofs.YtbkpholkjgjicaaGreat
set_option linter.unusedVariables false
open Go.RowKit Go.Sort

theorem St.set3 {W w : World} {g : Nat} {bs : List (Nat × List Value)} {rs : List (Option Addr × List Value)} {a0 a1 a2 : Value} (S : St W w ((g, [a0, a1, a2]) :: bs) rs) (v0 v1 v2 : Value) (hg : W.heap.size ≤ g) (hd : ∀ x ∈ bs, x.1 ≠ g) :
    St W (((w.setCell ⟨g, 0, none⟩ v0).setCell ⟨g, 1, none⟩ v1).setCell ⟨g, 2, none⟩ v2) ((g, [v0, v1, v2]) :: bs) rs :=
  ((S.set 0 0 v0 rfl (by simp) hg hd _ rfl).set 0 1 v1 rfl (by simp) hg hd _ rfl).set 0 2 v2 rfl (by simp) hg hd _ rfl
theorem own_set3 {w : World} {base : Nat} {e : TypeId} {size : Nat} {v : Value} {n : Nat} {xs : List Value} (h : w.ownsRow base e size v n xs) {g : Nat} (hg : g < base) (u0 u1 u2 : Value) :
    (((w.setCell ⟨g, 0, none⟩ u0).setCell ⟨g, 1, none⟩ u1).setCell ⟨g, 2, none⟩ u2).ownsRow base e size v n xs :=
  ownsRow_setCell_below (a := ⟨g, 2, none⟩) (ownsRow_setCell_below (a := ⟨g, 1, none⟩) (ownsRow_setCell_below (a := ⟨g, 0, none⟩) h hg _) hg _) hg _
/-- A slice of the call's own that is not empty, as a box. -/
theorem own_box {w : World} {base : Nat} {e : TypeId} {size : Nat} {A : Option Addr} {n c : Nat} {xs : List Value} (h : w.ownsRow base e size (.slice A n c) n xs) (hn : 0 < n) : ∃ g, A = some ⟨g, 0, none⟩ ∧ base ≤ g ∧ g < w.heap.size ∧ Box w g xs := by
  have h0 := h
  rcases h.2 with ⟨h2, h3⟩ | ⟨g, cap, cur, h2, hgb, hh, r⟩
  · omega
  · injection h2 with h2 _ h4
    subst h2 h4
    refine ⟨g, rfl, hgb, (h0.lt g rfl).2, fun i u hu => ?_⟩
    have hc := h0.cells (g := g) rfl i u hu
    rw [show (⟨g, 0, none⟩ : Addr).add i = ⟨g, i, none⟩ by unfold Addr.add; split <;> simp_all] at hc
    exact ⟨hc, frozen_of_row w g i cur e hh⟩

def GClPost (w : World) (t : Tp) (e : Ending) (w' : World) : Prop :=
  ∃ A c B d, e = .returned (tpV t.n A t.ov.length c B t.ln.length d) ∧ w'.ownsRow w.heap.size 110 7 (.slice B t.ln.length d) t.ln.length (lksV t.ln) ∧ Below w.heap.size w w'

set_option maxRecDepth 100000 in
set_option maxHeartbeats 3200000 in
theorem gclone_any (w : World) (v : Value) (t : Tp) (h : TpAt w v t) (h1 : t.ov.length ≤ 1000000) (h2 : t.ln.length ≤ 1000000) : Calls Tryz.prog 21 #[v] w (GClPost w t) := by
  obtain ⟨A, c, B, d, rfl, rA, rB, h3, h4⟩ := h
  have S := ((((St.start w).read rB).read rA).new' #[.int .i64 t.n, .slice A t.ov.length c, .slice B t.ln.length d] 25 w.heap.size _ rfl rfl).new' #[.int .i64 0, .slice none 0 0, .slice none 0 0] 25 (w.heap.size + 1) _ (by simp) rfl
  have C1 := fun W (h : Rd W A (boV t.ov)) => clone_bo W A _ c t.ov h rfl h1
  have C2 := fun W (h : Rd W B (lksV t.ln)) => clone_lk W B _ d t.ln h rfl h2
  unfold ClonePost at C1 C2
  unfold GClPost
  replace C1 := Lib.hid C1
  replace C2 := Lib.hid C2
  clear rA rB h1 h2 h3 h4
  generalize t.ov.length = k at *
  generalize t.ln.length = m at *
  generalize t.n = n at *
  have a0 := S.c 1 0 rfl rfl
  have a1 := S.c 1 1 rfl rfl
  have a2 := S.c 1 2 rfl rfl
  go_enter Tryz.func21, Tryz.ntmps21
  go_wp2_with fail
  (with_reducible refine (C1.out _ (S.r 0 rfl)).mono ?_)
  rintro e w1 ⟨A1, c1, rfl, o1, hb⟩
  clear a0 a1 a2 C1
  replace S := S.call hb
  clear hb o1
  have a0 := S.c 1 0 rfl rfl
  have a1 := S.c 1 1 rfl rfl
  have a2 := S.c 1 2 rfl rfl
  have f0 := S.f 1 0 rfl rfl
  have f1 := S.f 1 1 rfl rfl
  have f2 := S.f 1 2 rfl rfl
  have S2 := S.set 1 1 (.slice A1 k c1) rfl (by simp) (Nat.le_refl _) (by simp) _ rfl
  have hsz := S2.b.size
  have hlt := (S2.box 0 rfl).lt (by simp)
  go_wp2_with fail
  generalize w1.setCell ⟨w.heap.size, 1, none⟩ (.slice A1 k c1) = w2 at *
  (with_reducible refine (C2.out _ (S2.r 1 rfl)).mono ?_)
  rintro e w3 ⟨B1, d1, rfl, o2, hb⟩
  clear a0 a1 a2 f0 f1 f2 C2 S
  replace S2 := S2.call hb
  clear hb
  have a0 := S2.c 1 0 rfl rfl
  have a1 := S2.c 1 1 rfl rfl
  have a2 := S2.c 1 2 rfl rfl
  have f0 := S2.f 1 0 rfl rfl
  have f1 := S2.f 1 1 rfl rfl
  have f2 := S2.f 1 2 rfl rfl
  have r0 := S2.c 0 0 rfl rfl
  have r1 := S2.c 0 1 rfl rfl
  have r2 := S2.c 0 2 rfl rfl
  have q0 := S2.f 0 0 rfl rfl
  have q1 := S2.f 0 1 rfl rfl
  have q2 := S2.f 0 2 rfl rfl
  have S9 := (S2.set 1 2 (.slice B1 m d1) rfl (by simp) (Nat.le_refl _) (by simp) _ rfl).set3 (.int .i64 n) (.slice A1 k c1) (.slice B1 m d1) (by omega) (by simp)
  have o4 := own_set3 (ownsRow_setCell_below (a := ⟨w.heap.size, 2, none⟩) o2 (by simp only; omega) (.slice B1 m d1)) (g := w.heap.size + 1) (by omega) (.int .i64 n) (.slice A1 k c1) (.slice B1 m d1)
  have hf := own_mono o4 (base := w.heap.size) (by omega)
  have hb9 := S9.b
  go_wp2_with fail
  exact bodyPost_ret (v := tpV n A1 k c1 B1 m d1) (by simp [results, Tryz.results21, go_sem, r0, r1, r2]) rfl ⟨_, _, _, _, rfl, hf, hb9⟩

end Go.Proofs.YtbkpholkjgjicaaGreat

namespace Go.Proofs.YtbkpholkjgjicaaGreat
set_option linter.unusedVariables false
open Go.RowKit Go.Sort

set_option maxRecDepth 100000 in
set_option maxHeartbeats 6400000 in
theorem rtvalid_any (w : World) (v : Value) (t : Tp) (h : TpAt w v t) : Calls Tryz.prog 15 #[v] w fun e w' => e = .returned (.bool (tB t)) ∧ Below w.heap.size w w' := by
  obtain ⟨A, c, B, d, rfl, rA, rB, h1, h2⟩ := h
  have S := ((St.start w).read rB).new' #[.int .i64 t.n, .slice A t.ov.length c, .slice B t.ln.length d] 25 w.heap.size _ rfl rfl
  clear rA rB
  have hres : Hid (∀ b, (b = true → TpOk t) → (b = false → ¬ TpOk t) → b = tB t) := fun b h1 h2 => by
    cases b with
    | true => exact (tB_t (h1 rfl)).symm
    | false => exact (tB_f (h2 rfl)).symm
  obtain ⟨n, hn⟩ : ∃ n, t.n = n := ⟨_, rfl⟩
  obtain ⟨k, hk⟩ : ∃ k, t.ov.length = k := ⟨_, rfl⟩
  obtain ⟨m, hm⟩ : ∃ m, t.ln.length = m := ⟨_, rfl⟩
  obtain ⟨l, hl⟩ : ∃ l, t.ln = l := ⟨_, rfl⟩
  have hml : l.length = m := by rw [← hl, hm]
  rw [hn, hk, hm, hl] at S
  rw [hm] at h2
  rw [hk] at h1
  unfold maxLen at h1 h2
  simp only [hn, hk, hm]
  replace hn := Lib.hid hn
  replace hk := Lib.hid hk
  replace hm := Lib.hid hm
  replace hl := Lib.hid hl
  replace hml := Lib.hid hml
  obtain ⟨tb, htb⟩ : ∃ z, tB t = z := ⟨_, rfl⟩
  rw [htb] at hres ⊢
  clear htb
  have c0 := S.c 0 0 rfl rfl
  have c1 := S.c 0 1 rfl rfl
  have c2 := S.c 0 2 rfl rfl
  go_enter Tryz.func15, Tryz.ntmps15
  go_wp2_with fail
  (with_reducible refine (rtwithin_any _ _ _ _).mono ?_)
  rintro e w1 ⟨rfl, rfl⟩
  rcases hw1 : wiB n 1 64 with _ | _
  · have := wiB_f hw1
    obtain rfl := hres.out false (fun h => by cases h) (fun _ h => by have h5 := h.n; rw [hn.out] at h5; omega)
    go_wp2_with fail
    go_ret
    exact ⟨rfl, S.b⟩
  replace hw1 := Lib.hid (wiB_t hw1)
  by_cases hk0 : k = 0 ∨ (k : Int) = n
  rotate_left
  · obtain rfl := hres.out false (fun h => by cases h) (fun _ h => by have := h.ov; rw [hk.out, hn.out] at this; exact hk0 this)
    have hk1 : k ≠ 0 := fun h => hk0 (.inl h)
    have hk2 : (k : Int) ≠ n := fun h => hk0 (.inr h)
    have e1 : ((k : Int) != 0) = true := by simp; omega
    have e2 : ((k : Int) != n) = true := by simp; exact hk2
    clear hk0 hk1 hk2
    go_wp2_with fail
    go_ret
    exact ⟨rfl, S.b⟩
  have hcut : (k : Int) = 0 ∨ ((k : Int) ≠ 0 ∧ (k : Int) = n) := by omega
  have hT : Hid (∀ j (hj : j < l.length), j < 0 → LkOk n l[j]) := fun j hj h => absurd h (by omega)
  generalize World.alloc w _ = w1 at *
  have hq : ((k : Int) != 0) = false ∨ (((k : Int) != 0) = true ∧ ((k : Int) != n) = false) := by
    rcases hcut with e | ⟨e1, e2⟩
    · left; simp; omega
    · right; constructor
      · simp; omega
      · simp; omega
  clear hcut
  rcases hq with e1 | ⟨e1, e3⟩
  all_goals
    by_cases hl1 : 256 < m
    · obtain rfl := hres.out false (fun h => by cases h) (fun _ h => by have := h.ln; rw [hm.out] at this; omega)
      go_wp2_with fail
      go_ret
      exact ⟨rfl, S.b⟩
    have hgo : Hid (∀ b, (b = true → ∀ x ∈ l, LkOk n x) → (b = false → ¬ ∀ x ∈ l, LkOk n x) → b = tb) := fun b h1 h2 => hres.out b
      (fun h => ⟨by rw [hn.out]; exact hw1.out, by rw [hk.out, hn.out]; exact hk0, by rw [hm.out]; omega, by rw [hl.out, hn.out]; exact h1 h⟩)
      (fun h h3 => h2 h (by have := h3.all; rwa [hl.out, hn.out] at this))
    clear hres hn hk hm hl h1 h2 hk0
    go_wp2_with fail
    clear e1
    go_loopw [3] (fun v30 wr => ∃ i : Nat, v30 = .int .i64 i ∧ i ≤ m ∧ Hid (∀ j (hj : j < l.length), j < i → LkOk n l[j]) ∧ St w wr [(w.heap.size, [.int .i64 n, .slice A k c, .slice B m d])] [(B, lksV l)]) (fun v30 _ => m - (intOf v30).toNat)
    case atStart => exact ⟨0, rfl, by omega, hT, S⟩
    case round =>
      clear S hT
      obtain ⟨i, rfl, hi, hT, S⟩ := hrel
      clear c0 c1 c2
      by_cases him : i < m
      · have hil : i < l.length := by have := hml.out; omega
        obtain ⟨b, off, rfl, hc⟩ := rd_lk (S.r 0 rfl) (by omega)
        have hT2 : Hid (LkOk n l[i] → ∀ j (hj : j < l.length), j < i + 1 → LkOk n l[j]) := fun h j hj hji => by
          by_cases e : j = i
          · subst e; exact h
          · exact hT.out j hj (by omega)
        have hbad : Hid (¬ LkOk n l[i] → false = tb) := fun h => hgo.out false (fun h => by cases h) (fun _ h2 => h (h2 _ (List.getElem_mem hil)))
        have hcw := fun W (h : Rd W (some ⟨b, off, none⟩) (lksV l)) => h
        obtain ⟨x, hx⟩ : ∃ x, l[i] = x := ⟨_, rfl⟩
        have hcc : ∀ W, Rd W (some ⟨b, off, none⟩) (lksV l) → LkC W b (off + i * 7) x := fun W h => by
          obtain ⟨b', off', e, hc'⟩ := rd_lk h (by omega)
          simp only [Option.some.injEq, Addr.mk.injEq, and_true] at e
          obtain ⟨rfl, rfl⟩ := e
          have := hc' i hil
          rwa [hx] at this
        rw [hx] at hT2 hbad
        clear hc hcw hx hT
        obtain ⟨xa, xb, xc, xd, xcap, xdel, xgrp⟩ := x
        replace hcc := Lib.hid hcc
        have c0 := S.c 0 0 rfl rfl
        have c1 := S.c 0 1 rfl rfl
        have c2 := S.c 0 2 rfl rfl
        obtain ⟨x0, x1, x2, x3, x3', x4, x5, x6⟩ := hcc.out _ (S.r 0 rfl)
        simp only at x0 x1 x2 x3 x3' x4 x5 x6
        have hwr : IntKind.i64.wrap (n - 1) = n - 1 := IntWalk.i64_in _ (by have := hw1.out; omega)
        go_upto_region 7 with fail
        replace S := S.new' #[.int .i64 xa, .int .i64 xb, .int .i64 xc, .int .i64 xd, .int .i64 xcap, .int .i64 xdel, .int .i64 xgrp] 110 wr.heap.size _ rfl rfl
        clear x0 x1 x2 x3 x3' x4 x5 x6 c0 c1 c2
        generalize World.alloc wr _ = w4 at *
        generalize wr.heap.size = g4 at *
        have d0 := S.c 0 0 rfl rfl
        have d1 := S.c 0 1 rfl rfl
        have d2 := S.c 0 2 rfl rfl
        have d3 := S.c 0 3 rfl rfl
        have d4 := S.c 0 4 rfl rfl
        have d5 := S.c 0 5 rfl rfl
        have d6 := S.c 0 6 rfl rfl
        have c0 := S.c 1 0 rfl rfl
        have c1 := S.c 1 1 rfl rfl
        have c2 := S.c 1 2 rfl rfl
        go_wp2_with fail
        (with_reducible refine (rtwithin_any _ _ _ _).mono ?_)
        rintro e w5 ⟨rfl, rfl⟩
        rcases hv6 : wiB xa 0 (n - 1) with _ | _
        · have h9 := wiB_f hv6
          obtain rfl := hbad.out (fun h => by have := h.a; simp only at this; omega)
          go_wp2_with fail
          go_ret
          exact ⟨rfl, S.b⟩
        replace hv6 := Lib.hid (wiB_t hv6)
        go_wp2_with fail
        (with_reducible refine (rtwithin_any _ _ _ _).mono ?_)
        rintro e w5 ⟨rfl, rfl⟩
        rcases hv7 : wiB xb 0 (n - 1) with _ | _
        · have h9 := wiB_f hv7
          obtain rfl := hbad.out (fun h => by have := h.b; simp only at this; omega)
          go_wp2_with fail
          go_ret
          exact ⟨rfl, S.b⟩
        replace hv7 := Lib.hid (wiB_t hv7)
        by_cases hab : xa = xb
        · subst hab
          obtain rfl := hbad.out (fun h => h.ne rfl)
          go_wp2_with fail
          go_ret
          exact ⟨rfl, S.b⟩
        have e1 : (xa == xb) = false := by simp [hab]
        replace hab := Lib.hid hab
        go_wp2_with fail
        clear e1
        (with_reducible refine (rtwithin_any _ _ _ _).mono ?_)
        rintro e w5 ⟨rfl, rfl⟩
        rcases hv1 : wiB xc 1 65535 with _ | _
        · have h9 := wiB_f hv1
          obtain rfl := hbad.out (fun h => by have := h.c; simp only at this; omega)
          go_wp2_with fail
          go_ret
          exact ⟨rfl, S.b⟩
        replace hv1 := Lib.hid (wiB_t hv1)
        go_wp2_with fail
        (with_reducible refine (rtwithin_any _ _ _ _).mono ?_)
        rintro e w5 ⟨rfl, rfl⟩
        rcases hv2 : wiB xd 1 65535 with _ | _
        · have h9 := wiB_f hv2
          obtain rfl := hbad.out (fun h => by have := h.d; simp only at this; omega)
          go_wp2_with fail
          go_ret
          exact ⟨rfl, S.b⟩
        replace hv2 := Lib.hid (wiB_t hv2)
        go_wp2_with fail
        (with_reducible refine (rtwithin_any _ _ _ _).mono ?_)
        rintro e w5 ⟨rfl, rfl⟩
        rcases hv3 : wiB xcap 0 1048576 with _ | _
        · have h9 := wiB_f hv3
          obtain rfl := hbad.out (fun h => by have := h.cap; simp only at this; omega)
          go_wp2_with fail
          go_ret
          exact ⟨rfl, S.b⟩
        replace hv3 := Lib.hid (wiB_t hv3)
        go_wp2_with fail
        (with_reducible refine (rtwithin_any _ _ _ _).mono ?_)
        rintro e w5 ⟨rfl, rfl⟩
        rcases hv4 : wiB xdel 1 65536 with _ | _
        · have h9 := wiB_f hv4
          obtain rfl := hbad.out (fun h => by have := h.del; simp only at this; omega)
          go_wp2_with fail
          go_ret
          exact ⟨rfl, S.b⟩
        replace hv4 := Lib.hid (wiB_t hv4)
        go_wp2_with fail
        (with_reducible refine (rtwithin_any _ _ _ _).mono ?_)
        rintro e w5 ⟨rfl, rfl⟩
        rcases hv5 : wiB xgrp 0 64 with _ | _
        · have h9 := wiB_f hv5
          obtain rfl := hbad.out (fun h => by have := h.grp; simp only at this; omega)
          go_wp2_with fail
          go_ret
          exact ⟨rfl, S.b⟩
        replace hv5 := Lib.hid (wiB_t hv5)
        go_wp2_with fail
        go_round
        case rel => exact ⟨i + 1, by go_num, by omega, hT2.out ⟨by have := hv6.out; simp only; omega, by have := hv7.out; simp only; omega, hab.out, hv1.out, hv2.out, hv3.out, hv4.out, hv5.out⟩, S.keepBoxes _ (by simp)⟩
        case measure => simp [intOf]; omega
      · obtain rfl : i = m := by omega
        obtain rfl := hgo.out true (fun _ x hx => by
          obtain ⟨j, hj, rfl⟩ := List.getElem_of_mem hx
          exact hT.out j hj (by have := hml.out; omega)) (fun h => by cases h)
        have c0 := S.c 0 0 rfl rfl
        have c1 := S.c 0 1 rfl rfl
        have c2 := S.c 0 2 rfl rfl
        go_wp2_with fail
        go_ret
        exact ⟨rfl, S.b⟩

end Go.Proofs.YtbkpholkjgjicaaGreat
