/-
  The statement LsdbBothEnds: for every input that can be read, the law returns true and leaves its arguments as they were. No condition.
-/
import Derived.Test.YtkmpmgojgidcgaaClone
import Derived.Test.YtkmpmgojgidcgaaValW
import Derived.Deep.DeepCutAuto
import Derived.Deep.CutBlock
import Derived.Test.YtkmpmgojgidcgaaQPBoth0
import Derived.Test.YtkmpmgojgidcgaaLaArg
import Derived.Test.YtkmpmgojgidcgaaQPBoth1
namespace Go.Proofs.Ytkmpmgojgidcgaa
set_option linter.unusedVariables false
open Go.RowKit Go.Sort

/-- A link. -/
structure Lk where
  a : Int
  b : Int
  c : Int
  d : Int
  cap : Int
  del : Int
  grp : Int
def lkL (x : Lk) : List Value := [.int .i64 x.a, .int .i64 x.b, .int .i64 x.c, .int .i64 x.d, .int .i64 x.cap, .int .i64 x.del, .int .i64 x.grp]
def lksV : List Lk → List Value
  | [] => []
  | x :: l => lkL x ++ lksV l
def boV (l : List Bool) : List Value := l.map .bool
/-- A topology. -/
structure Tp where
  n : Int
  ov : List Bool
  ln : List Lk
abbrev tpV (n : Int) (A : Option Addr) (k c : Nat) (B : Option Addr) (m d : Nat) : Value := .agg #[.int .i64 n, .slice A k c, .slice B m d]
def TpAt (w : World) (v : Value) (t : Tp) : Prop := ∃ A c B d, v = tpV t.n A t.ov.length c B t.ln.length d ∧ Rd w A (boV t.ov) ∧ Rd w B (lksV t.ln) ∧ t.ov.length ≤ maxLen ∧ t.ln.length ≤ maxLen
theorem TpAt.below {w w' : World} {v : Value} {t : Tp} (h : TpAt w v t) (hb : Below w.heap.size w w') : TpAt w' v t := by
  obtain ⟨A, c, B, d, rfl, h1, h2, h3⟩ := h
  exact ⟨A, c, B, d, rfl, h1.below hb, h2.below hb, h3⟩
theorem lksV_len (l : List Lk) : (lksV l).length = l.length * 7 := by
  induction l with
  | nil => rfl
  | cons r l ih => simp only [lksV, lkL, List.length_append, List.length_cons, List.length_nil, ih]; omega
theorem boV_len (l : List Bool) : (boV l).length = l.length := by simp [boV]
theorem lksV_append (a b : List Lk) : lksV (a ++ b) = lksV a ++ lksV b := by
  induction a with
  | nil => rfl
  | cons r a ih => simp only [List.cons_append, lksV, ih, List.append_assoc]
theorem lkL_one (x : Lk) : ∀ u ∈ lkL x, u.oneCell' = true := by
  intro u hu
  simp only [lkL, List.mem_cons, List.not_mem_nil, or_false] at hu
  rcases hu with rfl | rfl | rfl | rfl | rfl | rfl | rfl <;> rfl
theorem lksV_one (l : List Lk) : ∀ u ∈ lksV l, u.oneCell' = true := by
  induction l with
  | nil => simp [lksV]
  | cons r l ih =>
    intro u hu
    simp only [lksV, List.mem_append] at hu
    rcases hu with hu | hu
    · exact lkL_one r u hu
    · exact ih u hu
theorem boV_one (l : List Bool) : ∀ u ∈ boV l, u.oneCell' = true := by
  intro u hu
  obtain ⟨b, _, rfl⟩ := List.mem_map.1 hu
  rfl
theorem lksV_get (l : List Lk) : ∀ (k : Nat) (hk : k < l.length) (j : Nat) (hj : j < 7), (lksV l)[7 * k + j]? = (lkL l[k])[j]? := by
  induction l with
  | nil => intro k hk; simp at hk
  | cons r l ih =>
    intro k hk j hj
    have h8 : (lkL r).length = 7 := rfl
    cases k with
    | zero => simp only [lksV, List.getElem_cons_zero]; rw [List.getElem?_append_left (by omega)]; simp
    | succ k =>
      simp only [lksV, List.getElem_cons_succ]
      rw [List.getElem?_append_right (by omega), h8, show 7 * (k + 1) + j - 7 = 7 * k + j by omega]
      exact ih k (by simpa using hk) j hj
/-- A link's cells. -/
structure LkC (w : World) (b o : Nat) (x : Lk) : Prop where
  c0 : w.cell? ⟨b, o, none⟩ = some (.int .i64 x.a)
  c1 : w.cell? ⟨b, o + 1, none⟩ = some (.int .i64 x.b)
  c2 : w.cell? ⟨b, o + 2, none⟩ = some (.int .i64 x.c)
  c3 : w.cell? ⟨b, o + 2 + 1, none⟩ = some (.int .i64 x.d)
  c3' : w.cell? ⟨b, o + 3, none⟩ = some (.int .i64 x.d)
  c4 : w.cell? ⟨b, o + 4, none⟩ = some (.int .i64 x.cap)
  c5 : w.cell? ⟨b, o + 5, none⟩ = some (.int .i64 x.del)
  c6 : w.cell? ⟨b, o + 6, none⟩ = some (.int .i64 x.grp)
theorem rd_lk {w : World} {A : Option Addr} {l : List Lk} (h : Rd w A (lksV l)) (hn : 0 < l.length) :
    ∃ b off, A = some ⟨b, off, none⟩ ∧ ∀ k (hk : k < l.length), LkC w b (off + k * 7) l[k] := by
  obtain ⟨b, off, e, hc⟩ := rd_at h (by rw [lksV_len]; omega)
  have key : ∀ k (hk : k < l.length) j (u : Value), j < 7 → (lkL l[k])[j]? = some u → w.cell? ⟨b, off + k * 7 + j, none⟩ = some u := fun k hk j u hj hu => by
    rw [Nat.add_assoc]
    exact hc _ _ (by rw [Nat.mul_comm k 7, lksV_get l k hk j hj]; exact hu)
  exact ⟨b, off, e, fun k hk => ⟨key k hk 0 _ (by omega) rfl, key k hk 1 _ (by omega) rfl, key k hk 2 _ (by omega) rfl, key k hk 3 _ (by omega) rfl, key k hk 3 _ (by omega) rfl, key k hk 4 _ (by omega) rfl, key k hk 5 _ (by omega) rfl, key k hk 6 _ (by omega) rfl⟩⟩
theorem rd_bo {w : World} {A : Option Addr} {l : List Bool} (h : Rd w A (boV l)) (hn : 0 < l.length) :
    ∃ b off, A = some ⟨b, off, none⟩ ∧ ∀ k (hk : k < l.length), w.cell? ⟨b, off + k, none⟩ = some (.bool l[k]) := by
  obtain ⟨b, off, e, hc⟩ := rd_at h (by rw [boV_len]; omega)
  exact ⟨b, off, e, fun k hk => hc k _ (by simp [boV, List.getElem?_eq_getElem hk])⟩

/-! ### Valid topologies -/
structure LkOk (n : Int) (x : Lk) : Prop where
  a : 0 ≤ x.a ∧ x.a < n
  b : 0 ≤ x.b ∧ x.b < n
  ne : x.a ≠ x.b
  c : 1 ≤ x.c ∧ x.c ≤ 65535
  d : 1 ≤ x.d ∧ x.d ≤ 65535
  cap : 0 ≤ x.cap ∧ x.cap ≤ 1048576
  del : 1 ≤ x.del ∧ x.del ≤ 65536
  grp : 0 ≤ x.grp ∧ x.grp ≤ 64
structure TpOk (t : Tp) : Prop where
  n : 1 ≤ t.n ∧ t.n ≤ 64
  ov : t.ov.length = 0 ∨ (t.ov.length : Int) = t.n
  ln : t.ln.length ≤ 256
  all : ∀ x ∈ t.ln, LkOk t.n x
open Classical in
noncomputable def tB (t : Tp) : Bool := decide (TpOk t)
open Classical in
theorem tB_t {t : Tp} (h : TpOk t) : tB t = true := by unfold tB; exact decide_eq_true h
open Classical in
theorem tB_f {t : Tp} (h : ¬ TpOk t) : tB t = false := by unfold tB; exact decide_eq_false h
theorem tB_iff {t : Tp} : tB t = true ↔ TpOk t := by unfold tB; simp

/-! ### Small functions -/
set_option maxHeartbeats 800000 in
theorem twithin_any (n l m : Int) (w : World) : Calls Try.prog 75 #[.int .i64 n, .int .i64 l, .int .i64 m] w fun e w' => e = .returned (.bool (wiB n l m)) ∧ w = w' := by
  by_cases h1 : l ≤ n
  · have e : wiB n l m = decide (n ≤ m) := by simp [wiB, h1]
    rw [e]; clear e
    go_enter Try.func75, Try.ntmps75
    go_wp2_with fail
    all_goals (first | done | go_ret)
    all_goals exact ⟨rfl, rfl⟩
  · have e : wiB n l m = false := by simp [wiB, h1]
    rw [e]; clear e
    go_enter Try.func75, Try.ntmps75
    go_wp2_with fail
    all_goals (first | done | go_ret)
    all_goals exact ⟨rfl, rfl⟩
set_option maxHeartbeats 800000 in
theorem rtwithin_any (n l m : Int) (w : World) : Calls Try.prog 50 #[.int .i64 n, .int .i64 l, .int .i64 m] w fun e w' => e = .returned (.bool (wiB n l m)) ∧ w = w' := by
  by_cases h1 : l ≤ n
  · have e : wiB n l m = decide (n ≤ m) := by simp [wiB, h1]
    rw [e]; clear e
    go_enter Try.func50, Try.ntmps50
    go_wp2_with fail
    all_goals (first | done | go_ret)
    all_goals exact ⟨rfl, rfl⟩
  · have e : wiB n l m = false := by simp [wiB, h1]
    rw [e]; clear e
    go_enter Try.func50, Try.ntmps50
    go_wp2_with fail
    all_goals (first | done | go_ret)
    all_goals exact ⟨rfl, rfl⟩
def ndB (n i : Int) : Bool := decide (0 ≤ i) && decide (i < n)
theorem ndB_t {n i : Int} (h : ndB n i = true) : 0 ≤ i ∧ i < n := by simpa [ndB] using h
theorem ndB_f {n i : Int} (h : ndB n i = false) : ¬ (0 ≤ i ∧ i < n) := fun h2 => by simp [ndB, h2.1, h2.2] at h
set_option maxHeartbeats 800000 in
theorem node_any (n i : Int) (u1 u2 : Value) (h1 : u1.oneCell' = true) (h2 : u2.oneCell' = true) (w : World) : Calls Try.prog 76 #[.agg #[.int .i64 n, u1, u2], .int .i64 i] w fun e w' => e = .returned (.bool (ndB n i)) ∧ Below w.heap.size w w' := by
  have hbb := below_new' w (.cells #[.int .i64 n, u1, u2] 66)
  have S := Box.new w #[.int .i64 n, u1, u2] 66
  have c0 := S.c 0 rfl
  by_cases h1 : 0 ≤ i
  · have e : ndB n i = decide (i < n) := by simp [ndB, h1]
    rw [e]; clear e S
    go_enter Try.func76, Try.ntmps76
    go_wp2_with fail
    all_goals (first | done | go_ret)
    all_goals exact ⟨rfl, hbb⟩
  · have e : ndB n i = false := by simp [ndB, h1]
    rw [e]; clear e S
    go_enter Try.func76, Try.ntmps76
    go_wp2_with fail
    all_goals (first | done | go_ret)
    all_goals exact ⟨rfl, hbb⟩
set_option maxHeartbeats 800000 in
theorem arcs_any (n : Int) (u1 : Value) (B : Option Addr) (m d : Nat) (w : World) (hm : m ≤ 1000000) : Calls Try.prog 48 #[.agg #[.int .i64 n, u1, .slice B m d]] w fun e w' => e = .returned (.int .i64 ((2 * m : Nat) : Int)) ∧ Below w.heap.size w w' := by
  have hbb := below_new' w (.cells #[.int .i64 n, u1, .slice B m d] 66)
  have S := Box.new w #[.int .i64 n, u1, .slice B m d] 66
  have c2 := S.c 2 rfl
  clear S
  go_enter Try.func48, Try.ntmps48
  go_wp2_with fail
  go_ret
  exact ⟨by simp, hbb⟩

/-! ### Copies -/
theorem boT : ElemT Try.prog 63 4 (.bool false) 1 1 := ⟨Try.underlying63, by kernel_rfl, rfl, by omega⟩
theorem lkT : ElemT Try.prog 64 76 (.agg #[.int .i64 0, .int .i64 0, .int .i64 0, .int .i64 0, .int .i64 0, .int .i64 0, .int .i64 0]) 7 56 := ⟨Try.underlying64, by kernel_rfl, rfl, by omega⟩
set_option maxRecDepth 100000 in
set_option maxHeartbeats 800000 in
theorem clone_bo (w : World) (A : Option Addr) (n c : Nat) (l : List Bool) (hr : Rd w A (boV l)) (hn : l.length = n) (hb : n ≤ 1000000) :
    Calls Try.prog 77 #[.slice A n c] w (ClonePost w 4 1 n (boV l)) := by
  rcases A with _ | ad
  · have h0 := hr.nil_len
    rw [boV_len] at h0
    obtain rfl : l = [] := List.eq_nil_of_length_eq_zero (by omega)
    subst hn
    have hE := fun W => Lib.run_eql_slice_nil W 63 4 none 0 c 0 0 Try.underlying63
    go_enter Try.func77, Try.ntmps77
    go_wp2_with fail
    go_ret
    exact ⟨none, 0, rfl, World.ownsRow_nil _ _ _ _, Below.refl _ _⟩
  · have hl : (boV l).length = n * 1 := by rw [boV_len, hn]; omega
    clear hn
    have hE := fun W => Lib.run_eql_slice_nil W 63 4 (some ad) n c 0 0 Try.underlying63
    go_enter Try.func77, Try.ntmps77
    go_wp2_with (at_builtin; refine wpList_app rfl boT (.tmp 5) (.tmp 6) rfl w.heap.size rfl (own_empty _ _ _) (m := n) rfl hl (hr.below (below_new' _ _)) (boV_one l) (by simp only [maxLen]; omega) (by omega) (by simp) n (boV l) (by omega) (by simp) ?_; intro v' w' ho hb')
    go_ret
    obtain ⟨A', c', rfl, _⟩ := own_rd ho
    exact ⟨A', c', rfl, ho, (below_new' _ _).trans hb'⟩
set_option maxRecDepth 100000 in
set_option maxHeartbeats 800000 in
theorem clone_lk (w : World) (A : Option Addr) (n c : Nat) (l : List Lk) (hr : Rd w A (lksV l)) (hn : l.length = n) (hb : n ≤ 1000000) :
    Calls Try.prog 78 #[.slice A n c] w (ClonePost w 76 7 n (lksV l)) := by
  rcases A with _ | ad
  · have h0 := hr.nil_len
    rw [lksV_len] at h0
    obtain rfl : l = [] := List.eq_nil_of_length_eq_zero (by omega)
    subst hn
    have hE := fun W => Lib.run_eql_slice_nil W 64 76 none 0 c 0 0 Try.underlying64
    go_enter Try.func78, Try.ntmps78
    go_wp2_with fail
    go_ret
    exact ⟨none, 0, rfl, World.ownsRow_nil _ _ _ _, Below.refl _ _⟩
  · have hl : (lksV l).length = n * 7 := by rw [lksV_len, hn]
    clear hn
    have hE := fun W => Lib.run_eql_slice_nil W 64 76 (some ad) n c 0 0 Try.underlying64
    go_enter Try.func78, Try.ntmps78
    go_wp2_with (at_builtin; refine wpList_app rfl lkT (.tmp 5) (.tmp 6) rfl w.heap.size rfl (own_empty _ _ _) (m := n) rfl hl (hr.below (below_new' _ _)) (lksV_one l) (by simp only [maxLen]; omega) (by omega) (by simp) n (lksV l) (by omega) (by simp) ?_; intro v' w' ho hb')
    go_ret
    obtain ⟨A', c', rfl, _⟩ := own_rd ho
    exact ⟨A', c', rfl, ho, (below_new' _ _).trans hb'⟩

end Go.Proofs.Ytkmpmgojgidcgaa

namespace Go.Proofs.Ytkmpmgojgidcgaa
set_option linter.unusedVariables false
open Go.RowKit Go.Sort

set_option maxRecDepth 100000 in
set_option maxHeartbeats 6400000 in
theorem tvalid_any (w : World) (v : Value) (t : Tp) (h : TpAt w v t) : Calls Try.prog 46 #[v] w fun e w' => e = .returned (.bool (tB t)) ∧ Below w.heap.size w w' := by
  obtain ⟨A, c, B, d, rfl, rA, rB, h1, h2⟩ := h
  have S := ((St.start w).read rB).new' #[.int .i64 t.n, .slice A t.ov.length c, .slice B t.ln.length d] 66 w.heap.size _ rfl rfl
  clear rA rB
  have hres : Hid (∀ b, (b = true → TpOk t) → (b = false → ¬ TpOk t) → b = tB t) := fun b h1 h2 => by
    cases b with
    | true => exact (tB_t (h1 rfl)).symm
    | false => exact (tB_f (h2 rfl)).symm
  obtain ⟨n, hn⟩ : ∃ n, t.n = n := ⟨_, rfl⟩
  obtain ⟨k, hk⟩ : ∃ k, t.ov.length = k := ⟨_, rfl⟩
  obtain ⟨m, hm⟩ : ∃ m, t.ln.length = m := ⟨_, rfl⟩
  obtain ⟨l, hl⟩ : ∃ l, t.ln = l := ⟨_, rfl⟩
  have hml : l.length = m := by rw [← hl, hm]
  rw [hn, hk, hm, hl] at S
  rw [hm] at h2
  rw [hk] at h1
  unfold maxLen at h1 h2
  simp only [hn, hk, hm]
  replace hn := Lib.hid hn
  replace hk := Lib.hid hk
  replace hm := Lib.hid hm
  replace hl := Lib.hid hl
  replace hml := Lib.hid hml
  obtain ⟨tb, htb⟩ : ∃ z, tB t = z := ⟨_, rfl⟩
  rw [htb] at hres ⊢
  clear htb
  have c0 := S.c 0 0 rfl rfl
  have c1 := S.c 0 1 rfl rfl
  have c2 := S.c 0 2 rfl rfl
  go_enter Try.func46, Try.ntmps46
  go_wp2_with fail
  (with_reducible refine (twithin_any _ _ _ _).mono ?_)
  rintro e w1 ⟨rfl, rfl⟩
  rcases hw1 : wiB n 1 64 with _ | _
  · have := wiB_f hw1
    obtain rfl := hres.out false (fun h => by cases h) (fun _ h => by have h5 := h.n; rw [hn.out] at h5; omega)
    go_wp2_with fail
    go_ret
    exact ⟨rfl, S.b⟩
  replace hw1 := Lib.hid (wiB_t hw1)
  by_cases hl1 : 256 < m
  · obtain rfl := hres.out false (fun h => by cases h) (fun _ h => by have := h.ln; rw [hm.out] at this; omega)
    go_wp2_with fail
    go_ret
    exact ⟨rfl, S.b⟩
  by_cases hk0 : k = 0 ∨ (k : Int) = n
  rotate_left
  · obtain rfl := hres.out false (fun h => by cases h) (fun _ h => by have := h.ov; rw [hk.out, hn.out] at this; exact hk0 this)
    have hk1 : k ≠ 0 := fun h => hk0 (.inl h)
    have hk2 : (k : Int) ≠ n := fun h => hk0 (.inr h)
    have e1 : ((k : Int) != 0) = true := by simp; omega
    have e2 : ((k : Int) != n) = true := by simp; exact hk2
    clear hk0 hk1 hk2
    go_wp2_with fail
    go_ret
    exact ⟨rfl, S.b⟩
  have hgo : Hid (∀ b, (b = true → ∀ x ∈ l, LkOk n x) → (b = false → ¬ ∀ x ∈ l, LkOk n x) → b = tb) := fun b h1 h2 => hres.out b
    (fun h => ⟨by rw [hn.out]; exact hw1.out, by rw [hk.out, hn.out]; exact hk0, by rw [hm.out]; omega, by rw [hl.out, hn.out]; exact h1 h⟩)
    (fun h h3 => h2 h (by have := h3.all; rwa [hl.out, hn.out] at this))
  have hcut : (k : Int) = 0 ∨ ((k : Int) ≠ 0 ∧ (k : Int) = n) := by omega
  have hT : Hid (∀ j (hj : j < l.length), j < 0 → LkOk n l[j]) := fun j hj h => absurd h (by omega)
  clear hres hn hk hm hl h1 h2 hw1 hk0
  generalize World.alloc w _ = w1 at *
  have hq : ((k : Int) != 0) = false ∨ (((k : Int) != 0) = true ∧ ((k : Int) != n) = false) := by
    rcases hcut with e | ⟨e1, e2⟩
    · left; simp; omega
    · right; constructor
      · simp; omega
      · simp; omega
  clear hcut
  rcases hq with e1 | ⟨e1, e3⟩
  all_goals
    go_wp2_with fail
    clear e1
    go_loopw [30] (fun v30 wr => ∃ i : Nat, v30 = .int .i64 i ∧ i ≤ m ∧ Hid (∀ j (hj : j < l.length), j < i → LkOk n l[j]) ∧ St w wr [(w.heap.size, [.int .i64 n, .slice A k c, .slice B m d])] [(B, lksV l)]) (fun v30 _ => m - (intOf v30).toNat)
    case atStart => exact ⟨0, rfl, by omega, hT, S⟩
    case round =>
      clear S hT
      obtain ⟨i, rfl, hi, hT, S⟩ := hrel
      clear c0 c1 c2
      by_cases him : i < m
      · have hil : i < l.length := by have := hml.out; omega
        obtain ⟨b, off, rfl, hc⟩ := rd_lk (S.r 0 rfl) (by omega)
        have hT2 : Hid (LkOk n l[i] → ∀ j (hj : j < l.length), j < i + 1 → LkOk n l[j]) := fun h j hj hji => by
          by_cases e : j = i
          · subst e; exact h
          · exact hT.out j hj (by omega)
        have hbad : Hid (¬ LkOk n l[i] → false = tb) := fun h => hgo.out false (fun h => by cases h) (fun _ h2 => h (h2 _ (List.getElem_mem hil)))
        have hcw := fun W (h : Rd W (some ⟨b, off, none⟩) (lksV l)) => h
        obtain ⟨x, hx⟩ : ∃ x, l[i] = x := ⟨_, rfl⟩
        have hcc : ∀ W, Rd W (some ⟨b, off, none⟩) (lksV l) → LkC W b (off + i * 7) x := fun W h => by
          obtain ⟨b', off', e, hc'⟩ := rd_lk h (by omega)
          simp only [Option.some.injEq, Addr.mk.injEq, and_true] at e
          obtain ⟨rfl, rfl⟩ := e
          have := hc' i hil
          rwa [hx] at this
        rw [hx] at hT2 hbad
        clear hc hcw hx hT
        obtain ⟨xa, xb, xc, xd, xcap, xdel, xgrp⟩ := x
        replace hcc := Lib.hid hcc
        have c0 := S.c 0 0 rfl rfl
        have c1 := S.c 0 1 rfl rfl
        have c2 := S.c 0 2 rfl rfl
        obtain ⟨x0, x1, x2, x3, x3', x4, x5, x6⟩ := hcc.out _ (S.r 0 rfl)
        simp only at x0 x1 x2 x3 x3' x4 x5 x6
        go_wp2_with fail
        by_cases hab : xa = xb
        · subst hab
          obtain rfl := hbad.out (fun h => h.ne rfl)
          go_quiet (fail)
          go_wp2_with fail
          go_ret
          exact ⟨rfl, below_drewN S.b nq⟩
        have e1 : (xa == xb) = false := by simp [hab]
        have NA := fun W => node_any n xa (.slice A k c) (.slice (some ⟨b, off, none⟩) m d) rfl rfl W
        have NB := fun W => node_any n xb (.slice A k c) (.slice (some ⟨b, off, none⟩) m d) rfl rfl W
        obtain ⟨pa, hpa⟩ : ∃ p, ndB n xa = p := ⟨_, rfl⟩
        obtain ⟨pb, hpb⟩ : ∃ p, ndB n xb = p := ⟨_, rfl⟩
        rw [hpa] at NA
        rw [hpb] at NB
        replace NA := Lib.hid NA
        replace NB := Lib.hid NB
        replace hab := Lib.hid hab
        clear c0 c1 c2 x2 x3 x3' x4 x5 x6
        have c0 := cell_regrown (S.c 0 0 rfl rfl)
        have c1 := cell_regrown (S.c 0 1 rfl rfl)
        have c2 := cell_regrown (S.c 0 2 rfl rfl)
        replace x0 := cell_regrown x0
        replace x1 := cell_regrown x1
        rcases hpa2 : pa with _ | _
        · subst hpa2
          obtain rfl := hbad.out (fun h => ndB_f hpa h.a)
          refine wp_region_quiet_below (by kernel_rfl) (by kernel_rfl) ?_
          repeat (go_big_quiet_step ((first | (go_at_call 76; with_reducible exact Calls.regrown_of (NA.out _)))))
          refine wpQuiet_nil ?_
          intro _ hw'
          obtain ⟨⟨dq, osq⟩, hw''⟩ := hw'
          subst hw''
          replace S := S.call (below_regrown _ dq osq)
          generalize grow (redrawn _ dq) osq = w4 at *
          go_wp2_with fail
          go_ret
          exact ⟨rfl, S.b⟩
        subst hpa2
        rcases hpb2 : pb with _ | _
        · subst hpb2
          obtain rfl := hbad.out (fun h => ndB_f hpb h.b)
          refine wp_region_quiet_below (by kernel_rfl) (by kernel_rfl) ?_
          repeat (go_big_quiet_step ((first | (go_at_call 76; with_reducible exact Calls.regrown_of (NA.out _)) | (go_at_call 76; with_reducible exact Calls.regrown_of (NB.out _)))))
          refine wpQuiet_nil ?_
          intro _ hw'
          obtain ⟨⟨dq, osq⟩, hw''⟩ := hw'
          subst hw''
          replace S := S.call (below_regrown _ dq osq)
          generalize grow (redrawn _ dq) osq = w4 at *
          go_wp2_with fail
          go_ret
          exact ⟨rfl, S.b⟩
        subst hpb2
        refine wp_region_quiet_below (by kernel_rfl) (by kernel_rfl) ?_
        repeat (go_big_quiet_step ((first | (go_at_call 76; with_reducible exact Calls.regrown_of (NA.out _)) | (go_at_call 76; with_reducible exact Calls.regrown_of (NB.out _)))))
        refine wpQuiet_nil ?_
        intro _ hw'
        obtain ⟨⟨dq, osq⟩, hw''⟩ := hw'
        subst hw''
        replace S := S.call (below_regrown _ dq osq)
        generalize grow (redrawn _ dq) osq = w4 at *
        clear x0 x1 c0 c1 c2 NA NB e1
        replace hpa := Lib.hid (ndB_t hpa)
        replace hpb := Lib.hid (ndB_t hpb)
        obtain ⟨x0, x1, x2, x3, x3', x4, x5, x6⟩ := hcc.out _ (S.r 0 rfl)
        simp only at x0 x1 x2 x3 x3' x4 x5 x6
        go_wp2_with fail
        (with_reducible refine (twithin_any _ _ _ _).mono ?_)
        rintro e w5 ⟨rfl, rfl⟩
        rcases hv1 : wiB xc 1 65535 with _ | _
        · have h9 := wiB_f hv1
          obtain rfl := hbad.out (fun h => by have := h.c; simp only at this; omega)
          go_wp2_with fail
          go_ret
          exact ⟨rfl, S.b⟩
        replace hv1 := Lib.hid (wiB_t hv1)
        go_wp2_with fail
        (with_reducible refine (twithin_any _ _ _ _).mono ?_)
        rintro e w5 ⟨rfl, rfl⟩
        rcases hv2 : wiB xd 1 65535 with _ | _
        · have h9 := wiB_f hv2
          obtain rfl := hbad.out (fun h => by have := h.d; simp only at this; omega)
          go_wp2_with fail
          go_ret
          exact ⟨rfl, S.b⟩
        replace hv2 := Lib.hid (wiB_t hv2)
        go_wp2_with fail
        (with_reducible refine (twithin_any _ _ _ _).mono ?_)
        rintro e w5 ⟨rfl, rfl⟩
        rcases hv3 : wiB xcap 0 1048576 with _ | _
        · have h9 := wiB_f hv3
          obtain rfl := hbad.out (fun h => by have := h.cap; simp only at this; omega)
          go_wp2_with fail
          go_ret
          exact ⟨rfl, S.b⟩
        replace hv3 := Lib.hid (wiB_t hv3)
        go_wp2_with fail
        (with_reducible refine (twithin_any _ _ _ _).mono ?_)
        rintro e w5 ⟨rfl, rfl⟩
        rcases hv4 : wiB xdel 1 65536 with _ | _
        · have h9 := wiB_f hv4
          obtain rfl := hbad.out (fun h => by have := h.del; simp only at this; omega)
          go_wp2_with fail
          go_ret
          exact ⟨rfl, S.b⟩
        replace hv4 := Lib.hid (wiB_t hv4)
        go_wp2_with fail
        (with_reducible refine (twithin_any _ _ _ _).mono ?_)
        rintro e w5 ⟨rfl, rfl⟩
        rcases hv5 : wiB xgrp 0 64 with _ | _
        · have h9 := wiB_f hv5
          obtain rfl := hbad.out (fun h => by have := h.grp; simp only at this; omega)
          go_wp2_with fail
          go_ret
          exact ⟨rfl, S.b⟩
        replace hv5 := Lib.hid (wiB_t hv5)
        go_wp2_with fail
        go_round
        case rel => exact ⟨i + 1, by go_num, by omega, hT2.out ⟨hpa.out, hpb.out, hab.out, hv1.out, hv2.out, hv3.out, hv4.out, hv5.out⟩, S⟩
        case measure => simp [intOf]; omega
      · obtain rfl : i = m := by omega
        obtain rfl := hgo.out true (fun _ x hx => by
          obtain ⟨j, hj, rfl⟩ := List.getElem_of_mem hx
          exact hT.out j hj (by have := hml.out; omega)) (fun h => by cases h)
        have c0 := S.c 0 0 rfl rfl
        have c1 := S.c 0 1 rfl rfl
        have c2 := S.c 0 2 rfl rfl
        go_wp2_with fail
        go_ret
        exact ⟨rfl, S.b⟩

end Go.Proofs.Ytkmpmgojgidcgaa

namespace Go.Proofs.Ytkmpmgojgidcgaa
set_option linter.unusedVariables false
open Go.RowKit Go.Sort

set_option maxRecDepth 100000 in
set_option maxHeartbeats 6400000 in
theorem rtvalid_any (w : World) (v : Value) (t : Tp) (h : TpAt w v t) : Calls Try.prog 28 #[v] w fun e w' => e = .returned (.bool (tB t)) ∧ Below w.heap.size w w' := by
  obtain ⟨A, c, B, d, rfl, rA, rB, h1, h2⟩ := h
  have S := ((St.start w).read rB).new' #[.int .i64 t.n, .slice A t.ov.length c, .slice B t.ln.length d] 66 w.heap.size _ rfl rfl
  clear rA rB
  have hres : Hid (∀ b, (b = true → TpOk t) → (b = false → ¬ TpOk t) → b = tB t) := fun b h1 h2 => by
    cases b with
    | true => exact (tB_t (h1 rfl)).symm
    | false => exact (tB_f (h2 rfl)).symm
  obtain ⟨n, hn⟩ : ∃ n, t.n = n := ⟨_, rfl⟩
  obtain ⟨k, hk⟩ : ∃ k, t.ov.length = k := ⟨_, rfl⟩
  obtain ⟨m, hm⟩ : ∃ m, t.ln.length = m := ⟨_, rfl⟩
  obtain ⟨l, hl⟩ : ∃ l, t.ln = l := ⟨_, rfl⟩
  have hml : l.length = m := by rw [← hl, hm]
  rw [hn, hk, hm, hl] at S
  rw [hm] at h2
  rw [hk] at h1
  unfold maxLen at h1 h2
  simp only [hn, hk, hm]
  replace hn := Lib.hid hn
  replace hk := Lib.hid hk
  replace hm := Lib.hid hm
  replace hl := Lib.hid hl
  replace hml := Lib.hid hml
  obtain ⟨tb, htb⟩ : ∃ z, tB t = z := ⟨_, rfl⟩
  rw [htb] at hres ⊢
  clear htb
  have c0 := S.c 0 0 rfl rfl
  have c1 := S.c 0 1 rfl rfl
  have c2 := S.c 0 2 rfl rfl
  go_enter Try.func28, Try.ntmps28
  go_wp2_with fail
  (with_reducible refine (rtwithin_any _ _ _ _).mono ?_)
  rintro e w1 ⟨rfl, rfl⟩
  rcases hw1 : wiB n 1 64 with _ | _
  · have := wiB_f hw1
    obtain rfl := hres.out false (fun h => by cases h) (fun _ h => by have h5 := h.n; rw [hn.out] at h5; omega)
    go_wp2_with fail
    go_ret
    exact ⟨rfl, S.b⟩
  replace hw1 := Lib.hid (wiB_t hw1)
  by_cases hk0 : k = 0 ∨ (k : Int) = n
  rotate_left
  · obtain rfl := hres.out false (fun h => by cases h) (fun _ h => by have := h.ov; rw [hk.out, hn.out] at this; exact hk0 this)
    have hk1 : k ≠ 0 := fun h => hk0 (.inl h)
    have hk2 : (k : Int) ≠ n := fun h => hk0 (.inr h)
    have e1 : ((k : Int) != 0) = true := by simp; omega
    have e2 : ((k : Int) != n) = true := by simp; exact hk2
    clear hk0 hk1 hk2
    go_wp2_with fail
    go_ret
    exact ⟨rfl, S.b⟩
  have hcut : (k : Int) = 0 ∨ ((k : Int) ≠ 0 ∧ (k : Int) = n) := by omega
  have hT : Hid (∀ j (hj : j < l.length), j < 0 → LkOk n l[j]) := fun j hj h => absurd h (by omega)
  generalize World.alloc w _ = w1 at *
  have hq : ((k : Int) != 0) = false ∨ (((k : Int) != 0) = true ∧ ((k : Int) != n) = false) := by
    rcases hcut with e | ⟨e1, e2⟩
    · left; simp; omega
    · right; constructor
      · simp; omega
      · simp; omega
  clear hcut
  rcases hq with e1 | ⟨e1, e3⟩
  all_goals
    by_cases hl1 : 256 < m
    · obtain rfl := hres.out false (fun h => by cases h) (fun _ h => by have := h.ln; rw [hm.out] at this; omega)
      go_wp2_with fail
      go_ret
      exact ⟨rfl, S.b⟩
    have hgo : Hid (∀ b, (b = true → ∀ x ∈ l, LkOk n x) → (b = false → ¬ ∀ x ∈ l, LkOk n x) → b = tb) := fun b h1 h2 => hres.out b
      (fun h => ⟨by rw [hn.out]; exact hw1.out, by rw [hk.out, hn.out]; exact hk0, by rw [hm.out]; omega, by rw [hl.out, hn.out]; exact h1 h⟩)
      (fun h h3 => h2 h (by have := h3.all; rwa [hl.out, hn.out] at this))
    clear hres hn hk hm hl h1 h2 hk0
    go_wp2_with fail
    clear e1
    go_loopw [3] (fun v30 wr => ∃ i : Nat, v30 = .int .i64 i ∧ i ≤ m ∧ Hid (∀ j (hj : j < l.length), j < i → LkOk n l[j]) ∧ St w wr [(w.heap.size, [.int .i64 n, .slice A k c, .slice B m d])] [(B, lksV l)]) (fun v30 _ => m - (intOf v30).toNat)
    case atStart => exact ⟨0, rfl, by omega, hT, S⟩
    case round =>
      clear S hT
      obtain ⟨i, rfl, hi, hT, S⟩ := hrel
      clear c0 c1 c2
      by_cases him : i < m
      · have hil : i < l.length := by have := hml.out; omega
        obtain ⟨b, off, rfl, hc⟩ := rd_lk (S.r 0 rfl) (by omega)
        have hT2 : Hid (LkOk n l[i] → ∀ j (hj : j < l.length), j < i + 1 → LkOk n l[j]) := fun h j hj hji => by
          by_cases e : j = i
          · subst e; exact h
          · exact hT.out j hj (by omega)
        have hbad : Hid (¬ LkOk n l[i] → false = tb) := fun h => hgo.out false (fun h => by cases h) (fun _ h2 => h (h2 _ (List.getElem_mem hil)))
        have hcw := fun W (h : Rd W (some ⟨b, off, none⟩) (lksV l)) => h
        obtain ⟨x, hx⟩ : ∃ x, l[i] = x := ⟨_, rfl⟩
        have hcc : ∀ W, Rd W (some ⟨b, off, none⟩) (lksV l) → LkC W b (off + i * 7) x := fun W h => by
          obtain ⟨b', off', e, hc'⟩ := rd_lk h (by omega)
          simp only [Option.some.injEq, Addr.mk.injEq, and_true] at e
          obtain ⟨rfl, rfl⟩ := e
          have := hc' i hil
          rwa [hx] at this
        rw [hx] at hT2 hbad
        clear hc hcw hx hT
        obtain ⟨xa, xb, xc, xd, xcap, xdel, xgrp⟩ := x
        replace hcc := Lib.hid hcc
        have c0 := S.c 0 0 rfl rfl
        have c1 := S.c 0 1 rfl rfl
        have c2 := S.c 0 2 rfl rfl
        obtain ⟨x0, x1, x2, x3, x3', x4, x5, x6⟩ := hcc.out _ (S.r 0 rfl)
        simp only at x0 x1 x2 x3 x3' x4 x5 x6
        have hwr : IntKind.i64.wrap (n - 1) = n - 1 := IntWalk.i64_in _ (by have := hw1.out; omega)
        go_upto_region 7 with fail
        replace S := S.new' #[.int .i64 xa, .int .i64 xb, .int .i64 xc, .int .i64 xd, .int .i64 xcap, .int .i64 xdel, .int .i64 xgrp] 76 wr.heap.size _ rfl rfl
        clear x0 x1 x2 x3 x3' x4 x5 x6 c0 c1 c2
        generalize World.alloc wr _ = w4 at *
        generalize wr.heap.size = g4 at *
        have d0 := S.c 0 0 rfl rfl
        have d1 := S.c 0 1 rfl rfl
        have d2 := S.c 0 2 rfl rfl
        have d3 := S.c 0 3 rfl rfl
        have d4 := S.c 0 4 rfl rfl
        have d5 := S.c 0 5 rfl rfl
        have d6 := S.c 0 6 rfl rfl
        have c0 := S.c 1 0 rfl rfl
        have c1 := S.c 1 1 rfl rfl
        have c2 := S.c 1 2 rfl rfl
        go_wp2_with fail
        (with_reducible refine (rtwithin_any _ _ _ _).mono ?_)
        rintro e w5 ⟨rfl, rfl⟩
        rcases hv6 : wiB xa 0 (n - 1) with _ | _
        · have h9 := wiB_f hv6
          obtain rfl := hbad.out (fun h => by have := h.a; simp only at this; omega)
          go_wp2_with fail
          go_ret
          exact ⟨rfl, S.b⟩
        replace hv6 := Lib.hid (wiB_t hv6)
        go_wp2_with fail
        (with_reducible refine (rtwithin_any _ _ _ _).mono ?_)
        rintro e w5 ⟨rfl, rfl⟩
        rcases hv7 : wiB xb 0 (n - 1) with _ | _
        · have h9 := wiB_f hv7
          obtain rfl := hbad.out (fun h => by have := h.b; simp only at this; omega)
          go_wp2_with fail
          go_ret
          exact ⟨rfl, S.b⟩
        replace hv7 := Lib.hid (wiB_t hv7)
        by_cases hab : xa = xb
        · subst hab
          obtain rfl := hbad.out (fun h => h.ne rfl)
          go_wp2_with fail
          go_ret
          exact ⟨rfl, S.b⟩
        have e1 : (xa == xb) = false := by simp [hab]
        replace hab := Lib.hid hab
        go_wp2_with fail
        clear e1
        (with_reducible refine (rtwithin_any _ _ _ _).mono ?_)
        rintro e w5 ⟨rfl, rfl⟩
        rcases hv1 : wiB xc 1 65535 with _ | _
        · have h9 := wiB_f hv1
          obtain rfl := hbad.out (fun h => by have := h.c; simp only at this; omega)
          go_wp2_with fail
          go_ret
          exact ⟨rfl, S.b⟩
        replace hv1 := Lib.hid (wiB_t hv1)
        go_wp2_with fail
        (with_reducible refine (rtwithin_any _ _ _ _).mono ?_)
        rintro e w5 ⟨rfl, rfl⟩
        rcases hv2 : wiB xd 1 65535 with _ | _
        · have h9 := wiB_f hv2
          obtain rfl := hbad.out (fun h => by have := h.d; simp only at this; omega)
          go_wp2_with fail
          go_ret
          exact ⟨rfl, S.b⟩
        replace hv2 := Lib.hid (wiB_t hv2)
        go_wp2_with fail
        (with_reducible refine (rtwithin_any _ _ _ _).mono ?_)
        rintro e w5 ⟨rfl, rfl⟩
        rcases hv3 : wiB xcap 0 1048576 with _ | _
        · have h9 := wiB_f hv3
          obtain rfl := hbad.out (fun h => by have := h.cap; simp only at this; omega)
          go_wp2_with fail
          go_ret
          exact ⟨rfl, S.b⟩
        replace hv3 := Lib.hid (wiB_t hv3)
        go_wp2_with fail
        (with_reducible refine (rtwithin_any _ _ _ _).mono ?_)
        rintro e w5 ⟨rfl, rfl⟩
        rcases hv4 : wiB xdel 1 65536 with _ | _
        · have h9 := wiB_f hv4
          obtain rfl := hbad.out (fun h => by have := h.del; simp only at this; omega)
          go_wp2_with fail
          go_ret
          exact ⟨rfl, S.b⟩
        replace hv4 := Lib.hid (wiB_t hv4)
        go_wp2_with fail
        (with_reducible refine (rtwithin_any _ _ _ _).mono ?_)
        rintro e w5 ⟨rfl, rfl⟩
        rcases hv5 : wiB xgrp 0 64 with _ | _
        · have h9 := wiB_f hv5
          obtain rfl := hbad.out (fun h => by have := h.grp; simp only at this; omega)
          go_wp2_with fail
          go_ret
          exact ⟨rfl, S.b⟩
        replace hv5 := Lib.hid (wiB_t hv5)
        go_wp2_with fail
        go_round
        case rel => exact ⟨i + 1, by go_num, by omega, hT2.out ⟨by have := hv6.out; simp only; omega, by have := hv7.out; simp only; omega, hab.out, hv1.out, hv2.out, hv3.out, hv4.out, hv5.out⟩, S.keepBoxes _ (by simp)⟩
        case measure => simp [intOf]; omega
      · obtain rfl : i = m := by omega
        obtain rfl := hgo.out true (fun _ x hx => by
          obtain ⟨j, hj, rfl⟩ := List.getElem_of_mem hx
          exact hT.out j hj (by have := hml.out; omega)) (fun h => by cases h)
        have c0 := S.c 0 0 rfl rfl
        have c1 := S.c 0 1 rfl rfl
        have c2 := S.c 0 2 rfl rfl
        go_wp2_with fail
        go_ret
        exact ⟨rfl, S.b⟩

end Go.Proofs.Ytkmpmgojgidcgaa

namespace Go.Proofs.Ytkmpmgojgidcgaa
set_option linter.unusedVariables false
open Go.RowKit Go.Sort

theorem St.set3 {W w : World} {g : Nat} {bs : List (Nat × List Value)} {rs : List (Option Addr × List Value)} {a0 a1 a2 : Value} (S : St W w ((g, [a0, a1, a2]) :: bs) rs) (v0 v1 v2 : Value) (hg : W.heap.size ≤ g) (hd : ∀ x ∈ bs, x.1 ≠ g) :
    St W (((w.setCell ⟨g, 0, none⟩ v0).setCell ⟨g, 1, none⟩ v1).setCell ⟨g, 2, none⟩ v2) ((g, [v0, v1, v2]) :: bs) rs :=
  ((S.set 0 0 v0 rfl (by simp) hg hd _ rfl).set 0 1 v1 rfl (by simp) hg hd _ rfl).set 0 2 v2 rfl (by simp) hg hd _ rfl
theorem own_set3 {w : World} {base : Nat} {e : TypeId} {size : Nat} {v : Value} {n : Nat} {xs : List Value} (h : w.ownsRow base e size v n xs) {g : Nat} (hg : g < base) (u0 u1 u2 : Value) :
    (((w.setCell ⟨g, 0, none⟩ u0).setCell ⟨g, 1, none⟩ u1).setCell ⟨g, 2, none⟩ u2).ownsRow base e size v n xs :=
  ownsRow_setCell_below (a := ⟨g, 2, none⟩) (ownsRow_setCell_below (a := ⟨g, 1, none⟩) (ownsRow_setCell_below (a := ⟨g, 0, none⟩) h hg _) hg _) hg _
/-- A slice of the call's own that is not empty, as a box. -/
theorem own_box {w : World} {base : Nat} {e : TypeId} {size : Nat} {A : Option Addr} {n c : Nat} {xs : List Value} (h : w.ownsRow base e size (.slice A n c) n xs) (hn : 0 < n) : ∃ g, A = some ⟨g, 0, none⟩ ∧ base ≤ g ∧ g < w.heap.size ∧ Box w g xs := by
  have h0 := h
  rcases h.2 with ⟨h2, h3⟩ | ⟨g, cap, cur, h2, hgb, hh, r⟩
  · omega
  · injection h2 with h2 _ h4
    subst h2 h4
    refine ⟨g, rfl, hgb, (h0.lt g rfl).2, fun i u hu => ?_⟩
    have hc := h0.cells (g := g) rfl i u hu
    rw [show (⟨g, 0, none⟩ : Addr).add i = ⟨g, i, none⟩ by unfold Addr.add; split <;> simp_all] at hc
    exact ⟨hc, frozen_of_row w g i cur e hh⟩

def GClPost (w : World) (t : Tp) (e : Ending) (w' : World) : Prop :=
  ∃ A c B d, e = .returned (tpV t.n A t.ov.length c B t.ln.length d) ∧ w'.ownsRow w.heap.size 76 7 (.slice B t.ln.length d) t.ln.length (lksV t.ln) ∧ Below w.heap.size w w'

set_option maxRecDepth 100000 in
set_option maxHeartbeats 3200000 in
theorem gclone_any (w : World) (v : Value) (t : Tp) (h : TpAt w v t) (h1 : t.ov.length ≤ 1000000) (h2 : t.ln.length ≤ 1000000) : Calls Try.prog 47 #[v] w (GClPost w t) := by
  obtain ⟨A, c, B, d, rfl, rA, rB, h3, h4⟩ := h
  have S := ((((St.start w).read rB).read rA).new' #[.int .i64 t.n, .slice A t.ov.length c, .slice B t.ln.length d] 66 w.heap.size _ rfl rfl).new' #[.int .i64 0, .slice none 0 0, .slice none 0 0] 66 (w.heap.size + 1) _ (by simp) rfl
  have C1 := fun W (h : Rd W A (boV t.ov)) => clone_bo W A _ c t.ov h rfl h1
  have C2 := fun W (h : Rd W B (lksV t.ln)) => clone_lk W B _ d t.ln h rfl h2
  unfold ClonePost at C1 C2
  unfold GClPost
  replace C1 := Lib.hid C1
  replace C2 := Lib.hid C2
  clear rA rB h1 h2 h3 h4
  generalize t.ov.length = k at *
  generalize t.ln.length = m at *
  generalize t.n = n at *
  have a0 := S.c 1 0 rfl rfl
  have a1 := S.c 1 1 rfl rfl
  have a2 := S.c 1 2 rfl rfl
  go_enter Try.func47, Try.ntmps47
  go_wp2_with fail
  (with_reducible refine (C1.out _ (S.r 0 rfl)).mono ?_)
  rintro e w1 ⟨A1, c1, rfl, o1, hb⟩
  clear a0 a1 a2 C1
  replace S := S.call hb
  clear hb o1
  have a0 := S.c 1 0 rfl rfl
  have a1 := S.c 1 1 rfl rfl
  have a2 := S.c 1 2 rfl rfl
  have f0 := S.f 1 0 rfl rfl
  have f1 := S.f 1 1 rfl rfl
  have f2 := S.f 1 2 rfl rfl
  have S2 := S.set 1 1 (.slice A1 k c1) rfl (by simp) (Nat.le_refl _) (by simp) _ rfl
  have hsz := S2.b.size
  have hlt := (S2.box 0 rfl).lt (by simp)
  go_wp2_with fail
  generalize w1.setCell ⟨w.heap.size, 1, none⟩ (.slice A1 k c1) = w2 at *
  (with_reducible refine (C2.out _ (S2.r 1 rfl)).mono ?_)
  rintro e w3 ⟨B1, d1, rfl, o2, hb⟩
  clear a0 a1 a2 f0 f1 f2 C2 S
  replace S2 := S2.call hb
  clear hb
  have a0 := S2.c 1 0 rfl rfl
  have a1 := S2.c 1 1 rfl rfl
  have a2 := S2.c 1 2 rfl rfl
  have f0 := S2.f 1 0 rfl rfl
  have f1 := S2.f 1 1 rfl rfl
  have f2 := S2.f 1 2 rfl rfl
  have r0 := S2.c 0 0 rfl rfl
  have r1 := S2.c 0 1 rfl rfl
  have r2 := S2.c 0 2 rfl rfl
  have q0 := S2.f 0 0 rfl rfl
  have q1 := S2.f 0 1 rfl rfl
  have q2 := S2.f 0 2 rfl rfl
  have S9 := (S2.set 1 2 (.slice B1 m d1) rfl (by simp) (Nat.le_refl _) (by simp) _ rfl).set3 (.int .i64 n) (.slice A1 k c1) (.slice B1 m d1) (by omega) (by simp)
  have o4 := own_set3 (ownsRow_setCell_below (a := ⟨w.heap.size, 2, none⟩) o2 (by simp only; omega) (.slice B1 m d1)) (g := w.heap.size + 1) (by omega) (.int .i64 n) (.slice A1 k c1) (.slice B1 m d1)
  have hf := own_mono o4 (base := w.heap.size) (by omega)
  have hb9 := S9.b
  go_wp2_with fail
  exact bodyPost_ret (v := tpV n A1 k c1 B1 m d1) (by simp [results, Try.results47, go_sem, r0, r1, r2]) rfl ⟨_, _, _, _, rfl, hf, hb9⟩

end Go.Proofs.Ytkmpmgojgidcgaa

namespace Go.Proofs.Ytkmpmgojgidcgaa
set_option linter.unusedVariables false
open Go.RowKit Go.Maps Go.Sort

/-- The cost of an adjacency, if it is there. -/
def cstL : List Ad → Int → Int → Option Int
  | [], _, _ => none
  | x :: l, tn, lk => if x.2.1 = lk ∧ x.1 = tn then some x.2.2 else cstL l tn lk
def vX (N : Db) (i : Int) : La := getX (getO N i)
def CostPost (w : World) (r : Option Int) (e : Ending) (w' : World) : Prop := e = .returned (.tuple #[.int .i64 (r.getD 0), .bool r.isSome]) ∧ Below w.heap.size w w'
/-- What is read for a number, in every later world. -/
theorem DbAt.look {w : World} {g b : Nat} {N : Db} (h : DbAt w g b N) (hf : Few33 N) (i : Int) (hi : (Lit.int .i64 i).wf = true) :
    ∃ A c B d l, (∀ w', Below w.heap.size w w' → (Instr.lookup 81 (.map (some b)) (.int .i64 i) false).run Try.prog w' = .ok (hdV (vX N i) A c B d l) w') ∧ LaAt w (laV (vX N i).o (vX N i).s (vX N i).a (vX N i).ov A (vX N i).adj.length c B (vX N i).pre.length d) (vX N i) := by
  obtain ⟨M, hm, hs, ⟨A, c, B, d, l, hv, hl⟩, _⟩ := elem_form h hf i
  refine ⟨A, c, B, d, l, fun w' hb => ?_, hl⟩
  have := (hm.below hb).run_at hi
  rw [hv] at this
  exact this
theorem cstL_drop {l : List Ad} {k : Nat} (hk : k < l.length) (tn lk : Int) : cstL (l.drop k) tn lk = if l[k].2.1 = lk ∧ l[k].1 = tn then some l[k].2.2 else cstL (l.drop (k + 1)) tn lk := by
  rw [List.drop_eq_getElem_cons hk]; rfl

theorem la_field4 (o s a : Int) (ov : Bool) (A : Option Addr) (n c : Nat) (B : Option Addr) (m d : Nat) (W : World) : (Instr.field 30 (laV o s a ov A n c B m d) 4).run Try.prog W = .ok (.slice A n c) W := by kernel_rfl
theorem la_field3 (o s a : Int) (ov : Bool) (A : Option Addr) (n c : Nat) (B : Option Addr) (m d : Nat) (W : World) : (Instr.field 30 (laV o s a ov A n c B m d) 3).run Try.prog W = .ok (.bool ov) W := by kernel_rfl

set_option maxRecDepth 100000 in
set_option maxHeartbeats 3200000 in
theorem dcost_any (w : World) (g b : Nat) (N : Db) (node tn lk : Int) (h : DbAt w g b N) (hf : Few33 N) (hi : (Lit.int .i64 node).wf = true) :
    Calls Try.prog 49 #[.pointer (some ⟨g, 0, none⟩), .int .i64 node, .int .i64 tn, .int .i64 lk] w (CostPost w (cstL (vX N node).adj tn lk)) := by
  obtain ⟨A, c, B, d, l, L, la⟩ := h.look hf node hi
  have K := L w (Below.refl _ _)
  have FL := hd_field (vX N node) A c B d l
  have c0 := h.cell
  unfold hdV at K FL
  obtain ⟨x, hx⟩ : ∃ x, vX N node = x := ⟨_, rfl⟩
  rw [hx] at K FL la ⊢
  have rA : Rd w A (adV x.adj) := by
    obtain ⟨A', c', B', d', e, h1, _⟩ := la
    simp only [laV, Value.agg.injEq, Array.mk.injEq, List.cons.injEq, Value.slice.injEq] at e
    obtain ⟨-, -, -, -, ⟨rfl, -, -⟩, -⟩ := e
    exact h1
  have hlen : x.adj.length ≤ maxLen := by
    obtain ⟨A', c', B', d', e, h1, h2, h3, h4, _⟩ := la
    exact Nat.le_trans h3 h4
  unfold maxLen at hlen
  have S := (St.start w).read rA
  clear L la rA hx h hi
  obtain ⟨al, hal⟩ : ∃ al, x.adj = al := ⟨_, rfl⟩
  rw [hal] at S K FL hlen ⊢
  obtain ⟨n, hn⟩ : ∃ n, al.length = n := ⟨_, rfl⟩
  rw [hn] at K FL hlen
  replace hn := Lib.hid hn
  clear hal
  obtain ⟨r, hr⟩ : ∃ r, cstL al tn lk = r := ⟨_, rfl⟩
  rw [hr]
  have hr0 : Hid (cstL (al.drop 0) tn lk = r) := hr
  clear hr
  unfold CostPost
  have FL4 := la_field4 x.o x.s x.a x.ov A n c B x.pre.length d
  go_enter Try.func49, Try.ntmps49
  go_wp2_with fail
  clear K FL FL4 c0
  go_loopw [21] (fun v21 wr => ∃ k : Nat, v21 = .int .i64 k ∧ k ≤ n ∧ Hid (cstL (al.drop k) tn lk = r) ∧ St w wr [] [(A, adV al)]) (fun v21 _ => n - (intOf v21).toNat)
  case atStart => exact ⟨0, rfl, by omega, hr0, S⟩
  case round =>
    clear S hr0
    obtain ⟨k, rfl, hk, hr, S⟩ := hrel
    by_cases hkn : k < n
    · have hkl : k < al.length := by have := hn.out; omega
      obtain ⟨ba, off, rfl, hc⟩ := rd_ad (S.r 0 rfl) (by omega)
      obtain ⟨x0, x1, x2⟩ := hc k hkl
      have hd : cstL (al.drop k) tn lk = _ := cstL_drop hkl tn lk
      rw [hr.out] at hd
      generalize al[k] = y at *
      obtain ⟨p0, p1, p2⟩ := y
      simp only at x0 x1 x2 hd
      replace hd := Lib.hid hd
      clear hc hr
      go_upto_region 4 with fail
      replace S := S.new' #[.int .i64 p0, .int .i64 p1, .int .i64 p2] 61 wr.heap.size _ rfl rfl
      clear x0 x1 x2
      generalize World.alloc wr _ = w4 at *
      generalize wr.heap.size = g4 at *
      have d0 := S.c 0 0 rfl rfl
      have d1 := S.c 0 1 rfl rfl
      have d2 := S.c 0 2 rfl rfl
      by_cases e1 : p1 = lk
      · by_cases e2 : p0 = tn
        · have e3 := hd.out
          rw [if_pos ⟨e1, e2⟩] at e3
          subst e3 e1 e2
          clear hd
          go_wp2_with fail
          go_ret2
          exact ⟨rfl, S.b⟩
        · have e3 : Hid (cstL (al.drop (k + 1)) tn lk = r) := by
            have := hd.out
            rw [if_neg (fun h => e2 h.2)] at this
            exact this.symm
          subst e1
          go_wp2_with fail
          go_round
          case rel => exact ⟨k + 1, by go_num, by omega, e3, S.keepBoxes _ (by simp)⟩
          case measure => simp [intOf]; omega
      · have e3 : Hid (cstL (al.drop (k + 1)) tn lk = r) := by
          have := hd.out
          rw [if_neg (fun h => e1 h.1)] at this
          exact this.symm
        go_wp2_with fail
        go_round
        case rel => exact ⟨k + 1, by go_num, by omega, e3, S.keepBoxes _ (by simp)⟩
        case measure => simp [intOf]; omega
    · obtain rfl : k = n := by omega
      have e3 := hr.out
      rw [List.drop_of_length_le (by have := hn.out; omega)] at e3
      subst e3
      go_wp2_with fail
      go_ret2
      exact ⟨rfl, S.b⟩

end Go.Proofs.Ytkmpmgojgidcgaa

namespace Go.Proofs.Ytkmpmgojgidcgaa
set_option linter.unusedVariables false
open Go.RowKit Go.Maps Go.Sort

def cA (N : Db) (i : Nat) (x : Lk) : Option Int := cstL (vX N x.a).adj x.b (i : Int)
def cB (N : Db) (i : Nat) (x : Lk) : Option Int := cstL (vX N x.b).adj x.a (i : Int)
def upL (N : Db) (i : Nat) (x : Lk) : Lk := if (cA N i x).isSome && (cB N i x).isSome then { x with c := (cA N i x).getD 0, d := (cB N i x).getD 0 } else x
def dnB (N : Db) (i : Nat) (x : Lk) : Bool := !((cA N i x).isSome && (cB N i x).isSome)
def vwL (N : Db) : Nat → List Lk → List Lk
  | _, [] => []
  | i, x :: l => upL N i x :: vwL N (i + 1) l
def vwD (N : Db) : Nat → List Lk → List Bool
  | _, [] => []
  | i, x :: l => dnB N i x :: dnB N i x :: vwD N (i + 1) l
def vwO (N : Db) (n : Nat) : List Bool := (List.range n).map fun (i : Nat) => (vX N (i : Int)).ov
/-- The view. -/
def vwT (N : Db) (t : Tp) : Tp := ⟨t.n, vwO N t.n.toNat, vwL N 0 t.ln⟩
section
variable (N : Db)
theorem vwL_len (l : List Lk) : ∀ i, (vwL N i l).length = l.length := by
  induction l with
  | nil => intro i; rfl
  | cons x l ih => intro i; simp only [vwL, List.length_cons, ih]
theorem vwD_len (l : List Lk) : ∀ i, (vwD N i l).length = 2 * l.length := by
  induction l with
  | nil => intro i; rfl
  | cons x l ih => intro i; simp only [vwD, List.length_cons, ih]; omega
theorem vwO_len (n : Nat) : (vwO N n).length = n := by simp [vwO]
theorem vwO_succ (n : Nat) : vwO N (n + 1) = vwO N n ++ [(vX N (n : Int)).ov] := by simp [vwO, List.range_succ]
theorem vwL_app (x : Lk) (l : List Lk) : ∀ i, vwL N i (l ++ [x]) = vwL N i l ++ [upL N (i + l.length) x] := by
  induction l with
  | nil => intro i; rfl
  | cons y l ih => intro i; simp only [List.cons_append, vwL, ih, List.length_cons]; rw [show i + 1 + l.length = i + (l.length + 1) by omega]
theorem vwD_app (x : Lk) (l : List Lk) : ∀ i, vwD N i (l ++ [x]) = vwD N i l ++ [dnB N (i + l.length) x, dnB N (i + l.length) x] := by
  induction l with
  | nil => intro i; rfl
  | cons y l ih => intro i; simp only [List.cons_append, vwD, ih, List.length_cons]; rw [show i + 1 + l.length = i + (l.length + 1) by omega]
theorem vwL_get (l : List Lk) : ∀ (i k : Nat) (hk : k < l.length), (vwL N i l)[k]'(by rw [vwL_len]; exact hk) = upL N (i + k) l[k] := by
  induction l with
  | nil => intro i k hk; simp at hk
  | cons y l ih =>
    intro i k hk
    cases k with
    | zero => rfl
    | succ k =>
      simp only [vwL, List.getElem_cons_succ]
      rw [ih (i + 1) k (by simpa using hk), show i + 1 + k = i + (k + 1) by omega]
theorem vwD_get (l : List Lk) : ∀ (i k : Nat) (hk : k < l.length), (vwD N i l)[2 * k]'(by rw [vwD_len]; omega) = dnB N (i + k) l[k] ∧ (vwD N i l)[2 * k + 1]'(by rw [vwD_len]; omega) = dnB N (i + k) l[k] := by
  induction l with
  | nil => intro i k hk; simp at hk
  | cons y l ih =>
    intro i k hk
    cases k with
    | zero => exact ⟨rfl, rfl⟩
    | succ k =>
      have h := ih (i + 1) k (by simpa using hk)
      rw [show i + 1 + k = i + (k + 1) by omega] at h
      exact h
/-- Within the loops. -/
def stO (n k : Nat) : List Bool := vwO N k ++ List.replicate (n - k) false
def stL (l : List Lk) (k : Nat) : List Lk := vwL N 0 (l.take k) ++ l.drop k
def stD (l : List Lk) (k : Nat) : List Bool := vwD N 0 (l.take k) ++ List.replicate (2 * (l.length - k)) false
theorem stO_zero (n : Nat) : stO N n 0 = List.replicate n false := by simp [stO, vwO]
theorem stO_end (n : Nat) : stO N n n = vwO N n := by simp [stO]
theorem stL_zero (l : List Lk) : stL N l 0 = l := by simp [stL, vwL]
theorem stL_end (l : List Lk) : stL N l l.length = vwL N 0 l := by simp [stL]
theorem stD_zero (l : List Lk) : stD N l 0 = List.replicate (2 * l.length) false := by simp [stD, vwD]
theorem stD_end (l : List Lk) : stD N l l.length = vwD N 0 l := by simp [stD]
theorem stO_len {n k : Nat} (hk : k ≤ n) : (stO N n k).length = n := by simp [stO, vwO_len]; omega
theorem stL_len (l : List Lk) {k : Nat} (hk : k ≤ l.length) : (stL N l k).length = l.length := by simp [stL, vwL_len]; omega
theorem stD_len (l : List Lk) {k : Nat} (hk : k ≤ l.length) : (stD N l k).length = 2 * l.length := by simp [stD, vwD_len]; omega
theorem boV_set (P Q : List Bool) (a u : Bool) : (boV (P ++ a :: Q)).set P.length (.bool u) = boV (P ++ u :: Q) := by
  simp [boV]
theorem stO_next {n k : Nat} (hk : k < n) : (boV (stO N n k)).set k (.bool (vX N (k : Int)).ov) = boV (stO N n (k + 1)) := by
  have e : stO N n k = vwO N k ++ false :: List.replicate (n - (k + 1)) false := by
    unfold stO
    rw [show n - k = (n - (k + 1)) + 1 by omega, List.replicate_succ]
  rw [e]
  have h := boV_set (vwO N k) (List.replicate (n - (k + 1)) false) false (vX N (k : Int)).ov
  rw [vwO_len] at h
  rw [h]
  unfold stO
  rw [vwO_succ]
  simp
theorem stL_at (l : List Lk) {k : Nat} (hk : k < l.length) : stL N l k = vwL N 0 (l.take k) ++ l[k] :: l.drop (k + 1) := by
  unfold stL
  rw [List.drop_eq_getElem_cons hk]
theorem stL_succ (l : List Lk) {k : Nat} (hk : k < l.length) : stL N l (k + 1) = vwL N 0 (l.take k) ++ upL N k l[k] :: l.drop (k + 1) := by
  unfold stL
  rw [List.take_succ_eq_append_getElem hk, vwL_app]
  simp only [List.length_take, Nat.zero_add, Nat.min_eq_left (Nat.le_of_lt hk), List.append_assoc, List.singleton_append]
theorem stL_same (l : List Lk) {k : Nat} (hk : k < l.length) (h : upL N k l[k] = l[k]) : stL N l (k + 1) = stL N l k := by
  rw [stL_succ N l hk, stL_at N l hk, h]
theorem lks_set (P Q : List Lk) (x y : Lk) (j : Nat) (hj : j < 7) (v : Value) (h : (lkL x).set j v = lkL y) : (lksV (P ++ x :: Q)).set (P.length * 7 + j) v = lksV (P ++ y :: Q) := by
  rw [lksV_append, lksV_append]
  simp only [lksV]
  rw [List.set_append_right _ _ (by rw [lksV_len]; omega), lksV_len, show P.length * 7 + j - P.length * 7 = j by omega, List.set_append_left _ _ (by exact hj), h]
theorem stL_set (l : List Lk) {k : Nat} (hk : k < l.length) (p q : Int) (hu : upL N k l[k] = { l[k] with c := p, d := q }) :
    ((lksV (stL N l k)).set (k * 7 + 2) (.int .i64 p)).set (k * 7 + 3) (.int .i64 q) = lksV (stL N l (k + 1)) := by
  have hl : (vwL N 0 (l.take k)).length = k := by rw [vwL_len, List.length_take]; omega
  rw [stL_succ N l hk, stL_at N l hk, hu]
  have h1 := lks_set (vwL N 0 (l.take k)) (l.drop (k + 1)) l[k] { l[k] with c := p } 2 (by omega) (.int .i64 p) rfl
  have h2 := lks_set (vwL N 0 (l.take k)) (l.drop (k + 1)) { l[k] with c := p } { l[k] with c := p, d := q } 3 (by omega) (.int .i64 q) rfl
  rw [hl] at h1 h2
  rw [h1, h2]
theorem stD_at (l : List Lk) {k : Nat} (hk : k < l.length) : stD N l k = vwD N 0 (l.take k) ++ false :: false :: List.replicate (2 * (l.length - (k + 1))) false := by
  unfold stD
  rw [show 2 * (l.length - k) = (2 * (l.length - (k + 1)) + 1) + 1 by omega, List.replicate_succ, List.replicate_succ]
theorem stD_succ (l : List Lk) {k : Nat} (hk : k < l.length) : stD N l (k + 1) = vwD N 0 (l.take k) ++ dnB N k l[k] :: dnB N k l[k] :: List.replicate (2 * (l.length - (k + 1))) false := by
  unfold stD
  rw [List.take_succ_eq_append_getElem hk, vwD_app]
  simp only [List.length_take, Nat.zero_add, Nat.min_eq_left (Nat.le_of_lt hk), List.append_assoc, List.cons_append, List.nil_append]
theorem stD_same (l : List Lk) {k : Nat} (hk : k < l.length) (h : dnB N k l[k] = false) : stD N l (k + 1) = stD N l k := by
  rw [stD_succ N l hk, stD_at N l hk, h]
theorem stD_set (l : List Lk) {k : Nat} (hk : k < l.length) (h : dnB N k l[k] = true) : ((boV (stD N l k)).set (2 * k) (.bool true)).set (2 * k + 1) (.bool true) = boV (stD N l (k + 1)) := by
  have hl : (vwD N 0 (l.take k)).length = 2 * k := by rw [vwD_len, List.length_take]; omega
  rw [stD_succ N l hk, stD_at N l hk, h]
  have h1 := boV_set (vwD N 0 (l.take k)) (false :: List.replicate (2 * (l.length - (k + 1))) false) false true
  have h2 := boV_set (vwD N 0 (l.take k) ++ [true]) (List.replicate (2 * (l.length - (k + 1))) false) false true
  rw [hl] at h1
  rw [List.length_append, hl] at h2
  simp only [List.append_assoc, List.singleton_append, List.length_singleton] at h2
  rw [h1, h2]
end
/-- A slice of the call's own that may be empty: a block that holds it. -/
theorem own_box0 {w : World} {base g0 : Nat} {e : TypeId} {size : Nat} {A : Option Addr} {n c : Nat} {xs : List Value} (h : w.ownsRow base e size (.slice A n c) n xs) (h0 : g0 < w.heap.size) (hs : 0 < size) : ∃ g, (0 < n → A = some ⟨g, 0, none⟩ ∧ base ≤ g) ∧ (g = g0 ∨ base ≤ g) ∧ g < w.heap.size ∧ Box w g xs := by
  rcases Nat.eq_zero_or_pos n with hn | hn
  · refine ⟨g0, fun h => by omega, .inl rfl, h0, ?_⟩
    have hl := h.1
    rw [hn, Nat.zero_mul] at hl
    obtain rfl : xs = [] := List.eq_nil_of_length_eq_zero hl
    intro i u hu
    simp at hu
  · obtain ⟨g, h1, h2, h3, h4⟩ := own_box h hn
    exact ⟨g, fun _ => ⟨h1, h2⟩, .inr h2, h3, h4⟩

end Go.Proofs.Ytkmpmgojgidcgaa

namespace Go.Proofs.Ytkmpmgojgidcgaa
set_option linter.unusedVariables false
open Go.RowKit Go.Maps Go.Sort

theorem St.addBox {W w : World} {bs : List (Nat × List Value)} {rs : List (Option Addr × List Value)} {g : Nat} {cs : List Value} (S : St W w bs rs) (h : Box w g cs) : St W w ((g, cs) :: bs) rs :=
  ⟨S.b, fun i x hx => by
    cases i with
    | zero => simp at hx; subst hx; exact h
    | succ i => exact S.bx i x (by simpa using hx), S.rd⟩
theorem Box.rd {w : World} {g : Nat} {cs : List Value} (h : Box w g cs) : Rd w (some ⟨g, 0, none⟩) cs := fun _ => ⟨_, rfl, fun j u hu => by
  rw [show (⟨g, 0, none⟩ : Addr).add j = ⟨g, j, none⟩ by unfold Addr.add; split <;> simp_all]
  exact (h j u hu).1⟩
def ViewPost (w : World) (N : Db) (t : Tp) (e : Ending) (w' : World) : Prop :=
  ∃ v D c, e = .returned (.tuple #[v, .slice D (2 * t.ln.length) c, .int .i64 0]) ∧ TpAt w' v (vwT N t) ∧ Rd w' D (boV (vwD N 0 t.ln)) ∧ Below w.heap.size w w'
def ViewNo (w : World) (e : Ending) (w' : World) : Prop :=
  e = .returned (.tuple #[tpV 0 none 0 0 none 0 0, .slice none 0 0, .int .i64 1]) ∧ Below w.heap.size w w'

set_option maxRecDepth 100000 in
set_option maxHeartbeats 6400000 in
theorem dview_no (w : World) (g b : Nat) (N : Db) (v : Value) (t : Tp) (h : DbAt w g b N) (ht : TpAt w v t) (hno : tB t = false) : Calls Try.prog 27 #[.pointer (some ⟨g, 0, none⟩), v] w (ViewNo w) := by
  obtain ⟨A, c, B, d, rfl, rA, rB, h3, h4⟩ := id ht
  have S := ((St.start w).new' #[.int .i64 t.n, .slice A t.ov.length c, .slice B t.ln.length d] 66 w.heap.size _ rfl rfl).new' #[.int .i64 0, .slice none 0 0, .slice none 0 0] 66 (w.heap.size + 1) _ (by simp) rfl
  have TV := tvalid_any _ _ t (ht.below S.b)
  rw [hno] at TV
  unfold ViewNo
  replace TV := Lib.hid TV
  clear rA rB h h3 h4 ht hno
  generalize t.ov.length = k at *
  generalize t.ln.length = m at *
  generalize t.n = n at *
  have a0 := S.c 1 0 rfl rfl
  have a1 := S.c 1 1 rfl rfl
  have a2 := S.c 1 2 rfl rfl
  go_enter Try.func27, Try.ntmps27
  go_wp2_with fail
  (with_reducible refine (TV.out).mono ?_)
  rintro e w1 ⟨rfl, hb⟩
  clear a0 a1 a2
  clear TV
  replace S := S.call hb
  clear hb
  have r0 := S.c 0 0 rfl rfl
  have r1 := S.c 0 1 rfl rfl
  have r2 := S.c 0 2 rfl rfl
  have f0 := S.f 0 0 rfl rfl
  have f1 := S.f 0 1 rfl rfl
  have f2 := S.f 0 2 rfl rfl
  have S9 := S.set3 (.int .i64 0) (.slice none 0 0) (.slice none 0 0) (by simp) (by simp)
  have hb9 := S9.b
  go_wp2_with fail
  exact bodyPost_ret (v := .tuple #[tpV 0 none 0 0 none 0 0, .slice none 0 0, .int .i64 1]) (by simp [results, Try.results27, go_sem, r0, r1, r2]) rfl ⟨rfl, hb9⟩

set_option maxRecDepth 100000 in
set_option maxHeartbeats 12800000 in
theorem dview_any (w : World) (g b : Nat) (N : Db) (v : Value) (t : Tp) (h : DbAt w g b N) (hf : Few33 N) (ht : TpAt w v t) (hok : TpOk t) : Calls Try.prog 27 #[.pointer (some ⟨g, 0, none⟩), v] w (ViewPost w N t) := by
  obtain ⟨A, c, B, d, rfl, rA, rB, h3, h4⟩ := id ht
  have S := ((St.start w).new' #[.int .i64 t.n, .slice A t.ov.length c, .slice B t.ln.length d] 66 w.heap.size _ rfl rfl).new' #[.int .i64 0, .slice none 0 0, .slice none 0 0] 66 (w.heap.size + 1) _ (by simp) rfl
  have TV := tvalid_any _ _ t (ht.below S.b)
  rw [tB_t hok] at TV
  have hk64 : t.ov.length ≤ 64 := by have := hok.ov; have := hok.n; omega
  have GC := fun W hb => gclone_any W _ t (ht.below hb) (by omega) (by have := hok.ln; omega)
  unfold GClPost at GC
  have hln := hok.ln
  obtain ⟨q, hq⟩ : ∃ q : Nat, t.n = (q : Int) := ⟨t.n.toNat, by have := hok.n; omega⟩
  have hq64 : 1 ≤ q ∧ q ≤ 64 := by have := hok.n; omega
  have hlk : Hid (∀ x ∈ t.ln, LkOk (q : Int) x) := by have := hok.all; rw [hq] at this; exact this
  obtain ⟨l, hl⟩ : ∃ l, t.ln = l := ⟨_, rfl⟩
  have hfin : Hid (∀ w' A' c' B' d' D c3, Rd w' A' (boV (vwO N q)) → Rd w' B' (lksV (vwL N 0 l)) → Rd w' D (boV (vwD N 0 l)) → Below w.heap.size w w' → ViewPost w N t (.returned (.tuple #[tpV (q : Int) A' q c' B' l.length d', .slice D (2 * l.length) c3, .int .i64 0])) w') := fun w' A' c' B' d' D c3 r1 r2 r3 hb => by
    refine ⟨_, D, c3, by rw [hl], ⟨A', c', B', d', ?_, ?_, ?_, ?_, ?_⟩, by rw [hl]; exact r3, hb⟩
    · simp only [vwT, vwO_len, vwL_len, hq, Int.toNat_natCast, hl]
    · simp only [vwT, hq, Int.toNat_natCast]; exact r1
    · simp only [vwT, hl]; exact r2
    · simp only [vwT, hq, Int.toNat_natCast, vwO_len, maxLen]; omega
    · simp only [vwT, vwL_len, maxLen]; omega
  obtain ⟨m, hm⟩ : ∃ m, l.length = m := ⟨_, rfl⟩
  rw [hq, hl, hm] at S TV GC
  rw [hl, hm] at hln
  rw [hm] at hfin
  rw [hl] at hlk
  simp only [hq, hl, hm]
  have L := fun i => h.look hf i
  have hc := h.cell
  have dat := Lib.hid h
  have hgl := h.lt
  replace L := Lib.hid L
  replace hm := Lib.hid hm
  replace TV := Lib.hid TV
  replace GC := Lib.hid GC
  clear rA rB h h3 h4 ht hok hq hl
  generalize t.ov.length = k at *
  obtain ⟨l0, hl0⟩ : ∃ z, ViewPost w N t = z := ⟨_, rfl⟩
  rw [hl0] at hfin ⊢
  clear hl0
  have a0 := S.c 1 0 rfl rfl
  have a1 := S.c 1 1 rfl rfl
  have a2 := S.c 1 2 rfl rfl
  go_enter Try.func27, Try.ntmps27
  go_wp2_with fail
  (with_reducible refine (TV.out).mono ?_)
  rintro e w1 ⟨rfl, hb⟩
  clear a0 a1 a2
  clear TV
  replace S := S.call hb
  clear hb
  have a0 := S.c 1 0 rfl rfl
  have a1 := S.c 1 1 rfl rfl
  have a2 := S.c 1 2 rfl rfl
  go_wp2_with fail
  (with_reducible refine (GC.out _ S.b).mono ?_)
  rintro e w2 ⟨A1, c1, B1, d1, rfl, o1, hb⟩
  clear a0 a1 a2
  clear GC
  have hs1 := S.b.size
  have hs2 := hb.size
  have hlt0 := S.box 0 rfl
  have hlt1 : w.heap.size + 1 < w1.heap.size := (S.box 0 rfl).lt (by simp)
  clear hlt0
  replace S := S.call hb
  clear hb
  go_upto_region 6 with fail
  obtain ⟨gB, hBe, hBo, hBl, bxB⟩ := own_box0 (g0 := w.heap.size) o1 (by omega) (by omega)
  replace S := (S.addBox bxB).new' #[.int .i64 (q : Int), .slice A1 k c1, .slice B1 m d1] 66 w2.heap.size _ rfl rfl
  clear o1 bxB
  generalize hw3 : World.alloc w2 _ = w3 at *
  have hs3 : w2.heap.size < w3.heap.size := by rw [← hw3]; simp
  clear hw3
  generalize w2.heap.size = g7 at *
  replace hBe := Lib.hid hBe
  have MK := fun W => run_make1 (P := Try.prog) boT rfl .i64 .i64 q q (Nat.le_refl _) (by omega) (by omega) W
  have a0 := S.c 3 0 rfl rfl
  have a1 := S.c 3 1 rfl rfl
  have a2 := S.c 3 2 rfl rfl
  have r0 := S.c 0 0 rfl rfl
  have r1 := S.c 0 1 rfl rfl
  have r2 := S.c 0 2 rfl rfl
  have f0 := S.f 0 0 rfl rfl
  have f1 := S.f 0 1 rfl rfl
  have f2 := S.f 0 2 rfl rfl
  have S2 := ((S.set 0 1 (.slice (some ⟨w3.heap.size, 0, none⟩) q q) rfl (by simp) (by omega) (by simp; omega) _ rfl).new' (zeroRow (.bool false) q) 4 w3.heap.size (boV (stO N q 0)) (by simp) (by rw [stO_zero]; simp [zeroRow, boV])).keepBoxes [(w3.heap.size, boV (stO N q 0)), (g7, [.int .i64 (q : Int), .slice (some ⟨w3.heap.size, 0, none⟩) q q, .slice B1 m d1]), (gB, lksV l), (w.heap.size + 1, [.int .i64 0, .slice none 0 0, .slice none 0 0]), (w.heap.size, [.int .i64 (q : Int), .slice A k c, .slice B m d])] (by simp)
  go_upto_region 7 with fail
  clear S MK
  clear a0 a1 a2
  clear r0 r1 r2
  clear f0 f1 f2
  generalize World.alloc (World.setCell w3 _ _) _ = w4 at *
  generalize w3.heap.size = gO at *
  have r0 := S2.c 1 0 rfl rfl
  have r1 := S2.c 1 1 rfl rfl
  have r2 := S2.c 1 2 rfl rfl
  go_wp2_with fail
  clear r0 r1 r2
  go_loopw [32] (fun v32 wr => ∃ i : Nat, v32 = .int .i64 i ∧ i ≤ q ∧ St w wr [(gO, boV (stO N q i)), (g7, [.int .i64 (q : Int), .slice (some ⟨gO, 0, none⟩) q q, .slice B1 m d1]), (gB, lksV l), (w.heap.size + 1, [.int .i64 0, .slice none 0 0, .slice none 0 0]), (w.heap.size, [.int .i64 (q : Int), .slice A k c, .slice B m d])] []) (fun v32 _ => q - (intOf v32).toNat)
  case atStart => exact ⟨0, rfl, by omega, S2⟩
  case round =>
    clear S2
    obtain ⟨i, rfl, hi, S⟩ := hrel
    by_cases hiq : i < q
    · obtain ⟨A9, c9, B9, d9, l9, L9, -⟩ := L.out (i : Int) (wf64 (by omega) (by omega))
      have hu := hd_field (vX N (i : Int)) A9 c9 B9 d9 l9
      have hv := fun W => la_field3 (vX N (i : Int)).o (vX N (i : Int)).s (vX N (i : Int)).a (vX N (i : Int)).ov A9 (vX N (i : Int)).adj.length c9 B9 (vX N (i : Int)).pre.length d9 W
      have hst := stO_next N hiq
      have c0 := cell_later S.b hc
      have LK := L9 _ S.b.drew
      have c0' : wr.drew.cell? ⟨g, 0, none⟩ = some (.map (some b)) := c0
      have hlen : (stO N q i).length = q := stO_len N hi
      have hcO : ∃ u, wr.cell? ⟨gO, i, none⟩ = some u := ⟨_, S.c 0 i rfl (List.getElem?_eq_getElem (by rw [boV_len]; omega))⟩
      obtain ⟨u, hcO⟩ := hcO
      have hfO := S.f 0 i rfl (List.getElem?_eq_getElem (by rw [boV_len]; omega))
      unfold hdV at LK hu
      generalize hx : vX N (i : Int) = x at *
      clear L9
      have T := S.drew
      have S3 := (S.set 0 i (.bool x.ov) rfl (by rw [boV_len]; omega) (by omega) (by simp; omega) [(gO, boV (stO N q (i + 1))), (g7, [.int .i64 (q : Int), .slice (some ⟨gO, 0, none⟩) q q, .slice B1 m d1]), (gB, lksV l), (w.heap.size + 1, [.int .i64 0, .slice none 0 0, .slice none 0 0]), (w.heap.size, [.int .i64 (q : Int), .slice A k c, .slice B m d])] (by rw [← hst]; rfl)).drew
      clear S
      have r0 := T.c 1 0 rfl rfl
      have r1 := T.c 1 1 rfl rfl
      have r2 := T.c 1 2 rfl rfl
      go_upto_region 10 with fail
      go_region_law (fail)
      all_goals clear T hst LK hv hu r0 r1 r2
      all_goals (first | (refine ⟨⟨i + 1, by go_num, by omega, S3⟩, ?_⟩; simp [intOf]; omega) | (generalize World.drew (World.setCell _ _ _) = w6 at *; go_wp2_with fail; go_round; all_goals (first | exact ⟨i + 1, by go_num, by omega, S3⟩ | (simp [intOf]; omega))))
    · obtain rfl : i = q := by omega
      rw [stO_end] at S
      have AR := fun W => arcs_any (i : Int) (.slice A k c) B m d W (by omega)
      have MK : ∀ W : World, (Instr.makeSlice 63 (.int .i64 (2 * (m : Int))) (.int .i64 (2 * (m : Int)))).run Try.prog W = .ok (.slice (some ⟨W.heap.size, 0, none⟩) (2 * m) (2 * m)) (W.alloc (.cells (zeroRow (.bool false) (2 * m)) 4)) := fun W => by
        have := run_make1 (P := Try.prog) boT rfl .i64 .i64 (2 * m) (2 * m) (Nat.le_refl _) (by omega) (by omega) W
        rw [Int.natCast_mul] at this
        exact this
      replace AR := Lib.hid AR
      have a0 := S.c 4 0 rfl rfl
      have a1 := S.c 4 1 rfl rfl
      have a2 := S.c 4 2 rfl rfl
      go_wp2_with fail
      (with_reducible refine (AR.out _).mono ?_)
      rintro e w7 ⟨rfl, hb⟩
      clear a0 a1 a2
      clear AR
      replace S := S.call hb
      clear hb
      have hOl := (S.box 0 rfl).lt (by rw [boV_len, vwO_len]; omega)
      replace S := S.new' (zeroRow (.bool false) (2 * m)) 4 w7.heap.size (boV (stD N l 0)) rfl (by rw [stD_zero, hm.out]; simp [zeroRow, boV])
      rw [← stL_zero N l] at S
      have e0 : stD N (stL N l 0) 0 = stD N l 0 := by rw [stL_zero]
      rw [e0] at S
      clear e0
      go_upto_region 13 with fail
      generalize World.alloc w7 _ = w8 at *
      generalize w7.heap.size = gD at *
      have r0 := S.c 2 0 rfl rfl
      have r1 := S.c 2 1 rfl rfl
      have r2 := S.c 2 2 rfl rfl
      go_wp2_with fail
      clear r0 r1 r2
      clear MK
      go_loopw [54] (fun v54 wr => ∃ j : Nat, v54 = .int .i64 j ∧ j ≤ m ∧ St w wr [(gD, boV (stD N l j)), (gO, boV (vwO N i)), (g7, [.int .i64 (i : Int), .slice (some ⟨gO, 0, none⟩) i i, .slice B1 m d1]), (gB, lksV (stL N l j)), (w.heap.size + 1, [.int .i64 0, .slice none 0 0, .slice none 0 0]), (w.heap.size, [.int .i64 (i : Int), .slice A k c, .slice B m d])] []) (fun v54 _ => m - (intOf v54).toNat)
      case atStart => exact ⟨0, rfl, by omega, S⟩
      case round =>
        clear S
        obtain ⟨j, rfl, hj, S⟩ := hrel
        by_cases hjm : j < m
        · have hjl : j < l.length := by have := hm.out; omega
          obtain ⟨hB1, hBb⟩ := hBe.out (by omega)
          subst hB1
          have hk := hlk.out l[j] (List.getElem_mem hjl)
          have hat := stL_at N l hjl
          have hset := stL_set N l hjl
          have hsame := stL_same N l hjl
          have dset := stD_set N l hjl
          have dsame := stD_same N l hjl
          have hvl : (vwL N 0 (l.take j)).length = j := by rw [vwL_len, List.length_take]; omega
          have hcell : ∀ (q : Nat) (hq : q < 7) (u : Value), (lkL l[j])[q]? = some u → (lksV (stL N l j))[7 * j + q]? = some u := fun q hq u hu => by
            have hlen : j < (stL N l j).length := by rw [stL_len N l (by omega)]; exact hjl
            rw [lksV_get _ j hlen q hq]
            have e : (stL N l j)[j] = l[j] := by
              have : (stL N l j)[j]? = some l[j] := by rw [hat, List.getElem?_append_right (by omega), hvl]; simp
              rw [List.getElem?_eq_getElem hlen] at this
              exact Option.some.inj this
            rw [e]; exact hu
          have hdl : (stD N l j).length = 2 * m := by rw [stD_len N l (by omega), hm.out]
          have hll : (lksV (stL N l j)).length = m * 7 := by rw [lksV_len, stL_len N l (by omega), hm.out]
          obtain ⟨x, hx⟩ : ∃ x, l[j] = x := ⟨_, rfl⟩
          rw [hx] at hk hset hsame dset dsame
          simp only [hx] at hcell
          clear hat hx hvl
          have hcl : ∀ W, St w W [(gD, boV (stD N l j)), (gO, boV (vwO N i)), (g7, [.int .i64 (i : Int), .slice (some ⟨gO, 0, none⟩) i i, .slice (some ⟨gB, 0, none⟩) m d1]), (gB, lksV (stL N l j)), (w.heap.size + 1, [.int .i64 0, .slice none 0 0, .slice none 0 0]), (w.heap.size, [.int .i64 (i : Int), .slice A k c, .slice B m d])] [] → ∀ (q : Nat) (hq : q < 7) (u : Value), (lkL x)[q]? = some u → W.cell? ⟨gB, j * 7 + q, none⟩ = some u := fun W S q hq u hu => by
            have := S.c 3 (7 * j + q) rfl (hcell q hq u hu)
            rwa [show 7 * j + q = j * 7 + q by omega] at this
          have CO1 := fun W (hb : Below wr.heap.size wr W) => dcost_any W g b N x.a x.b (j : Int) (dat.out.below (S.b.trans (hb.mono S.b.size))) hf (wf64 hk.a.1 (by have := hk.a.2; omega))
          have CO2 := fun W (hb : Below w.heap.size w W) => dcost_any W g b N x.b x.a (j : Int) (dat.out.below hb) hf (wf64 hk.b.1 (by have := hk.b.2; omega))
          unfold CostPost at CO1 CO2
          obtain ⟨pA, hpA⟩ : ∃ z, cA N j x = z := ⟨_, rfl⟩
          obtain ⟨pB, hpB⟩ : ∃ z, cB N j x = z := ⟨_, rfl⟩
          have eA : cstL (vX N x.a).adj x.b (j : Int) = pA := hpA
          have eB : cstL (vX N x.b).adj x.a (j : Int) = pB := hpB
          rw [eA] at CO1
          rw [eB] at CO2
          unfold upL at hset hsame
          unfold dnB at dset dsame
          rw [hpA, hpB] at hset hsame dset dsame
          clear hcell eA eB hpA hpB hk
          replace hset := Lib.hid hset
          replace hsame := Lib.hid hsame
          replace dset := Lib.hid dset
          replace dsame := Lib.hid dsame
          replace hcl := Lib.hid hcl
          replace CO1 := Lib.hid CO1
          replace CO2 := Lib.hid CO2
          have r0 := S.c 2 0 rfl rfl
          have r1 := S.c 2 1 rfl rfl
          have r2 := S.c 2 2 rfl rfl
          go_upto_region 17 with fail
          clear r0 r1 r2
          have x0 := cell_regrown (hcl.out _ S 0 (by omega) _ rfl)
          have x1 := cell_regrown (hcl.out _ S 1 (by omega) _ rfl)
          simp only [Nat.add_zero] at x0 x1
          refine wp_region_quiet_below (by kernel_rfl) (by kernel_rfl) ?_
          repeat (go_big_quiet_step ((first | (go_at_call 49; with_reducible exact Calls.regrown_of (CO1.out _ (below_regrown _ _ _))))))
          refine wpQuiet_nil ?_
          intro _ hw'
          obtain ⟨⟨dq, osq⟩, hw''⟩ := hw'
          subst hw''
          replace S := S.call (below_regrown _ dq osq)
          generalize grow (redrawn _ dq) osq = w5 at *
          clear x0 x1 CO1
          replace CO2 := Lib.hid (fun W hb => CO2.out W (S.b.trans (Below.mono hb S.b.size)))
          have x0 := cell_regrown (hcl.out _ S 0 (by omega) _ rfl)
          have x1 := cell_regrown (hcl.out _ S 1 (by omega) _ rfl)
          simp only [Nat.add_zero] at x0 x1
          go_upto_region 18 with fail
          refine wp_region_quiet_below (by kernel_rfl) (by kernel_rfl) ?_
          repeat (go_big_quiet_step ((first | (go_at_call 49; with_reducible exact Calls.regrown_of (CO2.out _ (below_regrown _ _ _))))))
          refine wpQuiet_nil ?_
          intro _ hw'
          obtain ⟨⟨dq, osq⟩, hw''⟩ := hw'
          subst hw''
          replace S := S.call (below_regrown _ dq osq)
          generalize grow (redrawn _ dq) osq = w6 at *
          clear x0 x1 CO2
          have x2 := hcl.out _ S 2 (by omega) _ rfl
          have x3 := hcl.out _ S 3 (by omega) _ rfl
          have y2 := S.f 3 (j * 7 + 2) rfl (List.getElem?_eq_getElem (by omega))
          have y3 := S.f 3 (j * 7 + 3) rfl (List.getElem?_eq_getElem (by omega))
          have z0 := S.c 0 (2 * j) rfl (List.getElem?_eq_getElem (by rw [boV_len]; omega))
          have z1 := S.c 0 (2 * j + 1) rfl (List.getElem?_eq_getElem (by rw [boV_len]; omega))
          have q0 := S.f 0 (2 * j) rfl (List.getElem?_eq_getElem (by rw [boV_len]; omega))
          have q1 := S.f 0 (2 * j + 1) rfl (List.getElem?_eq_getElem (by rw [boV_len]; omega))
          generalize (boV (stD N l j))[2 * j]'_ = zz0 at z0
          generalize (boV (stD N l j))[2 * j + 1]'_ = zz1 at z1
          have hw0 : IntKind.i64.wrap (2 * (j : Int)) = 2 * (j : Int) := IntWalk.i64_in _ (by omega)
          have hw1 : IntKind.i64.wrap (2 * (j : Int) + 1) = 2 * (j : Int) + 1 := IntWalk.i64_in _ (by omega)
          rcases pA with _ | pa
          · clear x2 x3 y2 y3
            have en : Hid (stL N l (j + 1) = stL N l j) := hsame.out (if_neg (by simp))
            have ed : Hid (((boV (stD N l j)).set (2 * j) (.bool true)).set (2 * j + 1) (.bool true) = boV (stD N l (j + 1))) := dset.out rfl
            clear hset hsame dset dsame hcl
            have S9 := (S.set 0 (2 * j) (.bool true) rfl (by rw [boV_len]; omega) (by omega) (by simp; omega) _ rfl).set 0 (2 * j + 1) (.bool true) rfl (by rw [List.length_set, boV_len]; omega) (by omega) (by simp; omega) [(gD, boV (stD N l (j + 1))), (gO, boV (vwO N i)), (g7, [.int .i64 (i : Int), .slice (some ⟨gO, 0, none⟩) i i, .slice (some ⟨gB, 0, none⟩) m d1]), (gB, lksV (stL N l (j + 1))), (w.heap.size + 1, [.int .i64 0, .slice none 0 0, .slice none 0 0]), (w.heap.size, [.int .i64 (i : Int), .slice A k c, .slice B m d])] (by rw [← ed.out, en.out]; rfl)
            clear en ed
            replace S9 := Lib.hid S9
            go_wp2_with fail
            go_round
            case rel => exact ⟨j + 1, by go_num, by omega, S9.out⟩
            case measure => simp [intOf]; omega
          rcases pB with _ | pb
          · clear x2 x3 y2 y3
            have en : Hid (stL N l (j + 1) = stL N l j) := hsame.out (if_neg (by simp))
            have ed : Hid (((boV (stD N l j)).set (2 * j) (.bool true)).set (2 * j + 1) (.bool true) = boV (stD N l (j + 1))) := dset.out rfl
            clear hset hsame dset dsame hcl
            have S9 := (S.set 0 (2 * j) (.bool true) rfl (by rw [boV_len]; omega) (by omega) (by simp; omega) _ rfl).set 0 (2 * j + 1) (.bool true) rfl (by rw [List.length_set, boV_len]; omega) (by omega) (by simp; omega) [(gD, boV (stD N l (j + 1))), (gO, boV (vwO N i)), (g7, [.int .i64 (i : Int), .slice (some ⟨gO, 0, none⟩) i i, .slice (some ⟨gB, 0, none⟩) m d1]), (gB, lksV (stL N l (j + 1))), (w.heap.size + 1, [.int .i64 0, .slice none 0 0, .slice none 0 0]), (w.heap.size, [.int .i64 (i : Int), .slice A k c, .slice B m d])] (by rw [← ed.out, en.out]; rfl)
            clear en ed
            replace S9 := Lib.hid S9
            go_wp2_with fail
            go_round
            case rel => exact ⟨j + 1, by go_num, by omega, S9.out⟩
            case measure => simp [intOf]; omega
          have en : Hid (stD N l (j + 1) = stD N l j) := dsame.out rfl
          have ed : Hid (((lksV (stL N l j)).set (j * 7 + 2) (.int .i64 pa)).set (j * 7 + 3) (.int .i64 pb) = lksV (stL N l (j + 1))) := hset.out pa pb (if_pos rfl)
          clear hset hsame dset dsame hcl z0 z1 q0 q1
          have S9 := (S.set 3 (j * 7 + 2) (.int .i64 pa) rfl (by omega) (by omega) (by simp; omega) _ rfl).set 3 (j * 7 + 3) (.int .i64 pb) rfl (by rw [List.length_set]; omega) (by omega) (by simp; omega) [(gD, boV (stD N l (j + 1))), (gO, boV (vwO N i)), (g7, [.int .i64 (i : Int), .slice (some ⟨gO, 0, none⟩) i i, .slice (some ⟨gB, 0, none⟩) m d1]), (gB, lksV (stL N l (j + 1))), (w.heap.size + 1, [.int .i64 0, .slice none 0 0, .slice none 0 0]), (w.heap.size, [.int .i64 (i : Int), .slice A k c, .slice B m d])] (by rw [← ed.out, en.out]; rfl)
          clear en ed
          replace S9 := Lib.hid S9
          go_wp2_with fail
          go_round
          case rel => exact ⟨j + 1, by go_num, by omega, S9.out⟩
          case measure => simp [intOf]; omega
        · obtain rfl : j = m := by omega
          have eL : stL N l j = vwL N 0 l := by rw [← hm.out]; exact stL_end N l
          have eD : stD N l j = vwD N 0 l := by rw [← hm.out]; exact stD_end N l
          rw [eL, eD] at S
          clear eL eD
          have r0 := S.c 2 0 rfl rfl
          have r1 := S.c 2 1 rfl rfl
          have r2 := S.c 2 2 rfl rfl
          have a0 := S.c 4 0 rfl rfl
          have a1 := S.c 4 1 rfl rfl
          have a2 := S.c 4 2 rfl rfl
          have f0 := S.f 4 0 rfl rfl
          have f1 := S.f 4 1 rfl rfl
          have f2 := S.f 4 2 rfl rfl
          have S9 := (((S.set 4 0 (.int .i64 (i : Int)) rfl (by simp) (by omega) (by simp; omega) _ rfl).set 4 1 (.slice (some ⟨gO, 0, none⟩) i i) rfl (by simp) (by omega) (by simp; omega) _ rfl).set 4 2 (.slice B1 j d1) rfl (by simp) (by omega) (by simp; omega) _ rfl)
          have R1 := (S9.box 1 rfl).rd
          have R0 := (S9.box 0 rfl).rd
          have R3 : Rd _ B1 (lksV (vwL N 0 l)) := fun hn => by
            obtain ⟨e, _⟩ := hBe.out (by rw [lksV_len, vwL_len, hm.out] at hn; omega)
            have := (S9.box 3 rfl).rd hn
            rwa [← e] at this
          have hf9 := hfin.out _ _ i _ d1 _ (2 * j) R1 R3 R0 S9.b
          replace hf9 := Lib.hid hf9
          clear R1 R0 R3 S9 S
          go_wp2_with fail
          exact bodyPost_ret (v := .tuple #[tpV (i : Int) (some ⟨gO, 0, none⟩) i i B1 j d1, .slice (some ⟨gD, 0, none⟩) (2 * j) (2 * j), .int .i64 0]) (by simp [results, Try.results27, go_sem, a0, a1, a2]) rfl hf9.out

end Go.Proofs.Ytkmpmgojgidcgaa

namespace Go.Proofs.Ytkmpmgojgidcgaa
set_option linter.unusedVariables false
open Go.RowKit Go.Maps Go.Sort

set_option maxRecDepth 100000 in
set_option maxHeartbeats 3200000 in
theorem has_any (w : World) (v : Value) (x : La) (a b c0 : Int) (h : LaAt w v x) (hm : (a, b, c0) ∈ x.adj) :
    Calls Try.prog 31 #[v, .int .i64 a, .int .i64 b, .int .i64 c0] w fun e w' => e = .returned (.bool true) ∧ Below w.heap.size w w' := by
  obtain ⟨A, c, B, d, rfl, rA, rB, h1, h2, h3, h4, hu⟩ := h
  have S := ((St.start w).read rA).new' #[.int .i64 x.o, .int .i64 x.s, .int .i64 x.a, .bool x.ov, .slice A x.adj.length c, .slice B x.pre.length d] 30 w.heap.size _ rfl rfl
  have hlen := Nat.le_trans h1 h2
  unfold maxLen at hlen
  clear rA rB h1 h2 h3 h4 hu
  obtain ⟨l, hl⟩ : ∃ l, x.adj = l := ⟨_, rfl⟩
  rw [hl] at S hlen hm ⊢
  clear hl
  generalize x.pre.length = pm at *
  obtain ⟨n, hn⟩ : ∃ n, l.length = n := ⟨_, rfl⟩
  rw [hn] at S hlen ⊢
  replace hn := Lib.hid hn
  have hm0 : Hid ((a, b, c0) ∈ l.drop 0) := hm
  clear hm
  go_enter Try.func31, Try.ntmps31
  go_wp2_with fail
  generalize World.alloc w _ = w1 at *
  go_loopw [9] (fun v9 wr => ∃ k : Nat, v9 = .int .i64 k ∧ k ≤ n ∧ Hid ((a, b, c0) ∈ l.drop k) ∧ St w wr [(w.heap.size, [.int .i64 x.o, .int .i64 x.s, .int .i64 x.a, .bool x.ov, .slice A n c, .slice B pm d])] [(A, adV l)]) (fun v9 _ => n - (intOf v9).toNat)
  case atStart => exact ⟨0, rfl, by omega, hm0, S⟩
  case round =>
    clear S hm0
    obtain ⟨k, rfl, hk, hm, S⟩ := hrel
    have r0 := S.c 0 0 rfl rfl
    have r1 := S.c 0 1 rfl rfl
    have r2 := S.c 0 2 rfl rfl
    have r3 := S.c 0 3 rfl rfl
    have r4 := S.c 0 4 rfl rfl
    have r5 := S.c 0 5 rfl rfl
    by_cases hkn : k < n
    · have hkl : k < l.length := by have := hn.out; omega
      obtain ⟨ba, off, rfl, hc⟩ := rd_ad (S.r 0 rfl) (by omega)
      obtain ⟨x0, x1, x2⟩ := hc k hkl
      have hd := hm.out
      rw [List.drop_eq_getElem_cons hkl, List.mem_cons] at hd
      generalize l[k] = y at *
      obtain ⟨p0, p1, p2⟩ := y
      simp only at x0 x1 x2
      have NE := fun W => eql_ad W (p0, p1, p2) (a, b, c0)
      have hG := ad_guard
      clear hc hm
      by_cases e : (p0, p1, p2) = (a, b, c0)
      · rw [decide_eq_true e] at NE
        clear e hd
        go_wp2_with fail
        go_ret
        exact ⟨rfl, S.b⟩
      · rw [decide_eq_false e] at NE
        have hd2 : Hid ((a, b, c0) ∈ l.drop (k + 1)) := hd.resolve_left (fun h => e h.symm)
        clear hd e
        go_wp2_with fail
        go_round
        case rel => exact ⟨k + 1, by go_num, by omega, hd2, S⟩
        case measure => simp [intOf]; omega
    · have := hm.out
      rw [List.drop_of_length_le (by have := hn.out; omega)] at this
      cases this
theorem cstL_mem {l : List Ad} {a b c : Int} (h : cstL l a b = some c) : (a, b, c) ∈ l := by
  induction l with
  | nil => cases h
  | cons x l ih =>
    unfold cstL at h
    split at h
    · next e =>
      obtain ⟨e1, e2⟩ := e
      injection h with h
      obtain ⟨p0, p1, p2⟩ := x
      simp only at e1 e2 h
      subst e1 e2 h
      exact List.mem_cons_self
    · exact List.mem_cons_of_mem _ (ih h)

end Go.Proofs.Ytkmpmgojgidcgaa

namespace Go.Proofs.Ytkmpmgojgidcgaa
set_option linter.unusedVariables false
open Go.RowKit Go.ChangeShapes Go.WideShapes Go.ChangeAt

section
variable {P : Program} {w : World} {t : TypeId}
theorem opens_link {f0 f1 f2 f3 f4 f5 : Field} {R : Int → List Value → Prop} {R2 : Int × Int → List Value → Prop}
    (ht : P.underlying t = some (.struct #[f0, f1, f2, f3, f4, f5])) (o0 : f0.offset = 0) (o1 : f1.offset = 1) (o2 : f2.offset = 2) (o3 : f3.offset = 4) (o4 : f4.offset = 5) (o5 : f5.offset = 6)
    (c0 : P.cellsOf f0.type = 1) (c1 : P.cellsOf f1.type = 1) (c2 : P.cellsOf f2.type = 2) (c3 : P.cellsOf f3.type = 1) (c4 : P.cellsOf f4.type = 1) (c5 : P.cellsOf f5.type = 1) (hC : P.cellsOf t = 7)
    (h0 : Opens P w f0.type R) (h1 : Opens P w f1.type R) (h2 : Opens P w f2.type R2) (h3 : Opens P w f3.type R) (h4 : Opens P w f4.type R) (h5 : Opens P w f5.type R) :
    Opens P w t (fun (x : Int × Int × (Int × Int) × Int × Int × Int) cs => ∃ v0 v1 v2 v2' v3 v4 v5, cs = [v0, v1, v2, v2', v3, v4, v5] ∧ R x.1 [v0] ∧ R x.2.1 [v1] ∧ R2 x.2.2.1 [v2, v2'] ∧ R x.2.2.2.1 [v3] ∧ R x.2.2.2.2.1 [v4] ∧ R x.2.2.2.2.2 [v5]) := by
  intro H enc base spare held fuel cs x hx
  obtain ⟨xs, n, _, _, hcl, hl, hi⟩ := DataW.trod_struct ht hx
  simp at hl
  have e0 := hi 0 f0 rfl
  have e1 := hi 1 f1 rfl
  have e2 := hi 2 f2 rfl
  have e3 := hi 3 f3 rfl
  have e4 := hi 4 f4 rfl
  have e5 := hi 5 f5 rfl
  rw [List.getElem?_eq_getElem (by omega)] at e0 e1 e2 e3 e4 e5
  rw [hC] at hcl
  match cs, hcl with
  | [v0, v1, v2, v2', v3, v4, v5], _ =>
    rw [o0, c0] at e0
    rw [o1, c1] at e1
    rw [o2, c2] at e2
    rw [o3, c3] at e3
    rw [o4, c4] at e4
    rw [o5, c5] at e5
    obtain ⟨p0, r0, _⟩ := h0 e0
    obtain ⟨p1, r1, _⟩ := h1 e1
    obtain ⟨p2, r2, _⟩ := h2 e2
    obtain ⟨p3, r3, _⟩ := h3 e3
    obtain ⟨p4, r4, _⟩ := h4 e4
    obtain ⟨p5, r5, _⟩ := h5 e5
    exact ⟨(p0, p1, p2, p3, p4, p5), ⟨v0, v1, v2, v2', v3, v4, v5, rfl, r0, r1, r2, r3, r4, r5⟩, by simp [hC]⟩
end
def lkOf (x : Int × Int × (Int × Int) × Int × Int × Int) : Lk := ⟨x.1, x.2.1, x.2.2.1.1, x.2.2.1.2, x.2.2.2.1, x.2.2.2.2.1, x.2.2.2.2.2⟩
theorem rep_lk {xs : List (Int × Int × (Int × Int) × Int × Int × Int)} : ∀ {vs : List Value}, Rep (fun (x : Int × Int × (Int × Int) × Int × Int × Int) cs => ∃ v0 v1 v2 v2' v3 v4 v5, cs = [v0, v1, v2, v2', v3, v4, v5] ∧ IsInt .i64 x.1 [v0] ∧ IsInt .i64 x.2.1 [v1] ∧ IsTwo (IsInt .i64) (IsInt .i64) x.2.2.1 [v2, v2'] ∧ IsInt .i64 x.2.2.2.1 [v3] ∧ IsInt .i64 x.2.2.2.2.1 [v4] ∧ IsInt .i64 x.2.2.2.2.2 [v5]) 7 xs vs → vs = lksV (xs.map lkOf) := by
  induction xs with
  | nil => intro vs h; exact h
  | cons x t ih =>
    rintro vs ⟨c, q, rfl, ⟨a0, a1, a2, a2', a3, a4, a5, rfl, ⟨e0, _⟩, ⟨e1, _⟩, ⟨c1, c2, e2, ⟨rfl, _⟩, ⟨rfl, _⟩⟩, ⟨e3, _⟩, ⟨e4, _⟩, ⟨e5, _⟩⟩, _, hr⟩
    rw [ih hr]
    simp only [List.cons.injEq, and_true, List.cons_append, List.nil_append] at e0 e1 e2 e3 e4 e5
    obtain ⟨rfl, rfl⟩ := e2
    subst e0 e1 e3 e4 e5
    rfl
theorem rep_bo {xs : List Bool} : ∀ {vs : List Value}, Rep IsBool 1 xs vs → vs = boV xs := by
  induction xs with
  | nil => intro vs h; exact h
  | cons x t ih =>
    rintro vs ⟨c, q, rfl, h1, _, hr⟩
    unfold IsBool at h1
    rw [ih hr, h1]
    rfl
def IsTp (w : World) (x : Tp) (cs : List Value) : Prop := TpAt w (.agg cs.toArray) x ∧ cs.length = 3
theorem opens_tp (w : World) : Opens Try.prog w 66 (IsTp w) := by
  have OI : Opens Try.prog w 3 _ := opens_int (w := w) Try.underlying3 (by kernel_rfl)
  have OL : Opens Try.prog w 76 _ := opens_link (w := w) Try.underlying76 rfl rfl rfl rfl rfl rfl (by kernel_rfl) (by kernel_rfl) (by kernel_rfl) (by kernel_rfl) (by kernel_rfl) (by kernel_rfl) (by kernel_rfl) OI OI (opens_arr2 Try.underlying74 (by kernel_rfl) OI) OI OI OI
  have O : Opens Try.prog w 66 _ := opens_struct3 (w := w) Try.underlying66 rfl rfl rfl (by kernel_rfl) (by kernel_rfl) (by kernel_rfl) (by kernel_rfl) OI
    (opens_slice Try.underlying63 (by kernel_rfl) (opens_bool Try.underlying4 (by kernel_rfl))) (opens_slice Try.underlying64 (by kernel_rfl) OL)
  intro H enc base spare held fuel cs x hx
  obtain ⟨⟨p0, xs, ys⟩, ⟨v0, v1, v2, rfl, ⟨e0, _⟩, ⟨A, c, vs, e1, l1, l2, r1, rd1⟩, ⟨B, d, us, e2, l3, l4, r2, rd2⟩⟩, hl⟩ := O hx
  rw [show Try.prog.cellsOf 4 = 1 from by kernel_rfl] at r1
  rw [show Try.prog.cellsOf 76 = 7 from by kernel_rfl] at r2
  obtain rfl := rep_bo r1
  obtain rfl := rep_lk r2
  simp only [List.cons.injEq, and_true] at e0 e1 e2
  subst e0 e1 e2
  simp only at l1 l3 ⊢
  refine ⟨⟨p0, xs, ys.map lkOf⟩, ⟨⟨A, c, B, d, ?_, rd1, rd2, Nat.le_trans l1 l2, by simp only [List.length_map]; exact Nat.le_trans l3 l4⟩, rfl⟩, hl⟩
  simp only [List.length_map]
section
variable {H : Type} {enc : TypeId × Value → H} {w : World} {base : Nat} {spare : Nat → Bool} {held : Bool} {r : Reach} {b0 : Nat} {v : Value} {d : DataW H} {ps : List MemPlace}
set_option maxRecDepth 100000 in
theorem arg_tp (hv : Value.okWide Try.prog w r b0 66 v) (h : DataW.Trod enc Try.prog w base spare held 66 v d ps) : ∃ x, TpAt w v x := by
  obtain ⟨cs, x, rfl, hx, _⟩ := arg_struct Try.underlying66 (opens_tp w) hv h
  exact ⟨x, hx⟩
end

end Go.Proofs.Ytkmpmgojgidcgaa

namespace Go.Proofs.Ytkmpmgojgidcgaa
set_option linter.unusedVariables false
open Go.RowKit Go.Maps Go.Sort

set_option maxRecDepth 100000 in
set_option maxHeartbeats 12800000 in
theorem both33_law (w : World) (A : Option Addr) (n c : Nat) (l : List Sx) (hA : Rd w A (sxV l)) (hn : l.length = n) (hm : n ≤ maxLen) (hok : ∀ s ∈ l, LxOk w s.x ∧ (Lit.int .i64 s.t).wf = true) (v : Value) (t : Tp) (ht : TpAt w v t) :
    Calls Try.prog 8 #[.slice A n c, v] w fun e w' => e = .returned (.bool true) ∧ Below w.heap.size w w' := by
  obtain ⟨At, ct, Bt, dt, rfl, rAt, rBt, h3, h4⟩ := id ht
  unfold maxLen at hm h3 h4
  have hokb : Hid (∀ W, Below w.heap.size w W → ∀ s ∈ l, LxOk W s.x ∧ (Lit.int .i64 s.t).wf = true) := fun W hb s hs => by
    obtain ⟨h1, h2⟩ := hok s hs
    unfold LxOk at *
    exact ⟨h1.below hb, h2⟩
  have S := ((St.start w).read hA).new' #[.int .i64 t.n, .slice At t.ov.length ct, .slice Bt t.ln.length dt] 66 w.heap.size _ rfl rfl
  have TR := fun W (hb : Below w.heap.size w W) => rtvalid_any W _ t (ht.below hb)
  have VW := fun W g b N (hb : Below w.heap.size w W) (h : DbAt W g b N) (hf : Few33 N) (ho : TpOk t) => dview_any W g b N _ t h hf (ht.below hb) ho
  unfold ViewPost at VW
  clear hA hok rAt
  have rBt0 : Hid (Rd w Bt (lksV t.ln)) := rBt
  clear rBt ht
  replace hn := Lib.hid hn
  replace TR := Lib.hid TR
  replace VW := Lib.hid VW
  obtain ⟨k, hk⟩ : ∃ k, t.ov.length = k := ⟨_, rfl⟩
  obtain ⟨m, hm'⟩ : ∃ m, t.ln.length = m := ⟨_, rfl⟩
  rw [hk] at S TR VW h3
  rw [hm'] at S TR VW h4
  simp only [hk, hm']
  replace hm' := Lib.hid hm'
  clear hk
  go_enter Try.func8, Try.ntmps8
  go_wp2_with fail
  generalize World.alloc w _ = w0 at *
  (with_reducible refine (awake_any _).mono ?_)
  rintro e w1 ⟨rfl, hb⟩
  replace S := S.call hb
  clear hb
  have F := few33_any w1 A n c l (S.r 0 rfl) hn.out (by omega) (hokb.out _ S.b)
  unfold FewPost at F
  replace F := Lib.hid F
  go_wp2_with fail
  (with_reducible refine (F.out).mono ?_)
  rintro e w2 ⟨fv, rfl, hsm, hb⟩
  clear F
  replace S := S.call hb
  clear hb
  cases fv with
  | false =>
    go_wp2_with fail
    go_ret
    exact ⟨rfl, S.b⟩
  | true =>
  replace hsm := Lib.hid (hsm rfl)
  have r0 := S.c 0 0 rfl rfl
  have r1 := S.c 0 1 rfl rfl
  have r2 := S.c 0 2 rfl rfl
  by_cases h20 : 20 < t.n
  · go_wp2_with fail
    go_ret
    exact ⟨rfl, S.b⟩
  by_cases h40 : 40 < m
  · go_wp2_with fail
    go_ret
    exact ⟨rfl, S.b⟩
  go_wp2_with fail
  (with_reducible refine (TR.out _ S.b).mono ?_)
  rintro e w3 ⟨rfl, hb⟩
  clear r0 r1 r2
  clear TR
  replace S := S.call hb
  clear hb
  rcases htb : tB t with _ | _
  · go_wp2_with fail
    go_ret
    exact ⟨rfl, S.b⟩
  have htok := tB_iff.1 htb
  have PL := play_any w3 A n c l (S.r 0 rfl) hn.out hsm.out (hokb.out _ S.b)
  unfold PlayPost at PL
  replace PL := Lib.hid PL
  clear hsm hokb hm htb
  go_wp2_with fail
  (with_reducible refine (PL.out).mono ?_)
  rintro e w4 ⟨g, b, R, rfl, dat, hrd, hdok, hlb, hb⟩
  replace S := S.call hb
  clear PL hb hlb hrd
  have hbZ : Box (w4.alloc (.cells Try.zeroCells46 46)) w4.heap.size (rdC (fun _ => rsZ)) := Box.new' w4 _ _ _ _ rfl (by rw [← rdC_zero])
  have hbb : Below w4.heap.size w4 ((w4.alloc (.cells Try.zeroCells46 46)).setCells w4.heap.size 0 (rdC R)) := below_setCells (Nat.le_refl _) _ _ _ (below_new' w4 _)
  replace S := S.call hbb
  replace dat := dat.below hbb
  go_upto_region 6 with (first | (refine wpList_storeR (R := fun _ => rsZ) rfl (.tmp 6) (.tmp 41) rfl rfl rfl ?hb ?_; (case hb => exact hbZ)))
  clear hbZ hbb
  generalize World.setCells _ _ _ _ = w5 at *
  generalize w4.heap.size = g4 at *
  have VP := VW.out w5 g b (dbOf R) S.b dat hdok.few htok
  replace VP := Lib.hid VP
  obtain ⟨N, hN⟩ : ∃ z, dbOf R = z := ⟨_, rfl⟩
  rw [hN] at VP hdok dat
  clear VW hN
  replace dat := Lib.hid dat
  replace hdok := Lib.hid hdok
  replace htok := Lib.hid htok
  clear h3 h4 h20
  have r0 := S.c 0 0 rfl rfl
  have r1 := S.c 0 1 rfl rfl
  have r2 := S.c 0 2 rfl rfl
  go_wp2_with fail
  (with_reducible refine (VP.out).mono ?_)
  rintro e w6 ⟨vu, D, cD, rfl, tu, rD, hb⟩
  clear r0 r1 r2
  clear VP
  replace dat := Lib.hid (dat.out.below hb)
  replace S := S.call hb
  clear hb
  obtain ⟨Au, cu, Bu, du, rfl, rAu, rBu, q3, q4⟩ := tu
  simp only [vwT, vwO_len, vwL_len, hm'.out] at rBu ⊢
  have T := (((((St.start w6).read rD).read rBu).read (rBt0.out.below S.b)).addBox (S.box 0 rfl)).new' #[.int .i64 t.n, .slice Au t.n.toNat cu, .slice Bu m du] 66 w6.heap.size _ rfl rfl
  have B0 := Lib.hid S.b
  have hsz := S.b.size
  replace dat := Lib.hid (dat.out.below (below_new' w6 (.cells #[.int .i64 t.n, .slice Au t.n.toNat cu, .slice Bu m du] 66)))
  clear S rAu rBu rD q3 q4 rBt0
  go_upto_region 7 with fail
  generalize hw7 : World.alloc w6 _ = w7 at *
  have hs7 : w6.heap.size < w7.heap.size := by rw [← hw7]; simp
  clear hw7
  have u0 := T.c 0 0 rfl rfl
  have u1 := T.c 0 1 rfl rfl
  have u2 := T.c 0 2 rfl rfl
  have r0 := T.c 1 0 rfl rfl
  have r1 := T.c 1 1 rfl rfl
  have r2 := T.c 1 2 rfl rfl
  have hw2 : IntKind.i64.wrap (2 * (m : Int)) = 2 * (m : Int) := IntWalk.i64_in _ (by omega)
  go_wp2_with fail
  clear u0 u1 u2
  clear r0 r1 r2
  clear hw2
  go_loopw [11] (fun v11 wr => ∃ i : Nat, v11 = .int .i64 i ∧ i ≤ m ∧ Hid (DbAt wr g b N) ∧ St w6 wr [(w6.heap.size, [.int .i64 t.n, .slice Au t.n.toNat cu, .slice Bu m du]), (w.heap.size, [.int .i64 t.n, .slice At k ct, .slice Bt m dt])] [(Bt, lksV t.ln), (Bu, lksV (vwL N 0 t.ln)), (D, boV (vwD N 0 t.ln))]) (fun v11 _ => m - (intOf v11).toNat)
  case atStart => exact ⟨0, rfl, by omega, dat, T⟩
  case round =>
    clear T dat
    obtain ⟨i, rfl, hi, dat, T⟩ := hrel
    by_cases him : i < m
    · have hil : i < t.ln.length := by have := hm'.out; omega
      obtain ⟨bt, ot, rfl, hct⟩ := rd_lk (T.r 0 rfl) (by omega)
      obtain ⟨bu, ou, rfl, hcu⟩ := rd_lk (T.r 1 rfl) (by rw [vwL_len]; omega)
      obtain ⟨bd, od, rfl, hcd⟩ := rd_bo (T.r 2 rfl) (by rw [vwD_len]; omega)
      have hk := htok.out.all t.ln[i] (List.getElem_mem hil)
      obtain ⟨x, hx⟩ : ∃ x, t.ln[i] = x := ⟨_, rfl⟩
      have hcx : Hid (∀ W, St w6 W [(w6.heap.size, [.int .i64 t.n, .slice Au t.n.toNat cu, .slice (some ⟨bu, ou, none⟩) m du]), (w.heap.size, [.int .i64 t.n, .slice At k ct, .slice (some ⟨bt, ot, none⟩) m dt])] [((some ⟨bt, ot, none⟩), lksV t.ln), ((some ⟨bu, ou, none⟩), lksV (vwL N 0 t.ln)), ((some ⟨bd, od, none⟩), boV (vwD N 0 t.ln))] → LkC W bt (ot + i * 7) x ∧ LkC W bu (ou + i * 7) (upL N i x) ∧ W.cell? ⟨bd, od + 2 * i, none⟩ = some (.bool (dnB N i x)) ∧ W.cell? ⟨bd, od + (2 * i + 1), none⟩ = some (.bool (dnB N i x))) := fun W T => by
        obtain ⟨bt', ot', e1, hct⟩ := rd_lk (T.r 0 rfl) (by omega)
        obtain ⟨bu', ou', e2, hcu⟩ := rd_lk (T.r 1 rfl) (by rw [vwL_len]; omega)
        obtain ⟨bd', od', e3, hcd⟩ := rd_bo (T.r 2 rfl) (by rw [vwD_len]; omega)
        simp only [Option.some.injEq, Addr.mk.injEq, and_true] at e1 e2 e3
        obtain ⟨rfl, rfl⟩ := e1
        obtain ⟨rfl, rfl⟩ := e2
        obtain ⟨rfl, rfl⟩ := e3
        have h1 := hct i hil
        have h2 := hcu i (by rw [vwL_len]; exact hil)
        have h3 := hcd (2 * i) (by rw [vwD_len]; omega)
        have h4 := hcd (2 * i + 1) (by rw [vwD_len]; omega)
        have h5 := vwD_get N t.ln 0 i hil
        rw [vwL_get N t.ln 0 i hil] at h2
        rw [h5.1] at h3
        rw [h5.2] at h4
        rw [hx] at h1 h2 h3 h4
        rw [Nat.zero_add] at h2 h3 h4
        exact ⟨h1, h2, h3, h4⟩
      rw [hx] at hk
      clear hct hcu hcd hx hil
      obtain ⟨dn, hdn⟩ : ∃ z, dnB N i x = z := ⟨_, rfl⟩
      obtain ⟨ux, hux⟩ : ∃ z, upL N i x = z := ⟨_, rfl⟩
      rw [hdn, hux] at hcx
      have hup : Hid (dn = false → ∃ pa pb, cA N i x = some pa ∧ cB N i x = some pb ∧ ux.c = pa ∧ ux.d = pb) := fun e => by
        rw [e] at hdn
        unfold dnB at hdn
        unfold upL at hux
        cases hA : cA N i x with
        | none => rw [hA] at hdn; simp at hdn
        | some pa =>
          cases hB : cB N i x with
          | none => rw [hB] at hdn; simp at hdn
          | some pb =>
            rw [hA, hB] at hux
            simp at hux
            subst hux
            exact ⟨pa, pb, rfl, rfl, rfl, rfl⟩
      clear hdn hux
      have hw0 : IntKind.i64.wrap (2 * (i : Int)) = 2 * (i : Int) := IntWalk.i64_in _ (by omega)
      have hw1 : IntKind.i64.wrap (2 * (i : Int) + 1) = 2 * (i : Int) + 1 := IntWalk.i64_in _ (by omega)
      obtain ⟨-, -, z0, z1⟩ := hcx.out _ T
      have r0 := T.c 1 0 rfl rfl
      have r1 := T.c 1 1 rfl rfl
      have r2 := T.c 1 2 rfl rfl
      go_wp2_with fail
      go_quiet (fail)
      replace T := T.drewN nq
      replace dat : Hid (DbAt (wr.drewN nq) g b N) := Lib.hid (dat.out.below (below_drewN (Below.refl _ _) nq))
      clear z0 z1 hw1
      clear r0 r1 r2
      generalize wr.drewN nq = w8 at *
      have e9 : (dn != dn) = false := by simp
      have GA := fun W (h : DbAt W g b N) => dget_any W g b N x.a (wf64 hk.a.1 (by have := hk.a.2; have := htok.out.n; omega)) h hdok.out.few
      have GB := fun W (h : DbAt W g b N) => dget_any W g b N x.b (wf64 hk.b.1 (by have := hk.b.2; have := htok.out.n; omega)) h hdok.out.few
      have hoA : Hid (∀ p, cA N i x = some p → (getO N x.a).isSome = true ∧ (x.b, (i : Int), p) ∈ (getX (getO N x.a)).adj) := fun p hp => by
        unfold cA vX at hp
        refine ⟨?_, cstL_mem hp⟩
        cases ho : getO N x.a with
        | none => rw [ho] at hp; cases hp
        | some z => rfl
      have hoB : Hid (∀ p, cB N i x = some p → (getO N x.b).isSome = true ∧ (x.a, (i : Int), p) ∈ (getX (getO N x.b)).adj) := fun p hp => by
        unfold cB vX at hp
        refine ⟨?_, cstL_mem hp⟩
        cases ho : getO N x.b with
        | none => rw [ho] at hp; cases hp
        | some z => rfl
      unfold GetPost at GA GB
      generalize getO N x.a = oa at *
      generalize getO N x.b = ob at *
      obtain ⟨xa, hxa⟩ : ∃ z, getX oa = z := ⟨_, rfl⟩
      obtain ⟨xb, hxb⟩ : ∃ z, getX ob = z := ⟨_, rfl⟩
      obtain ⟨oka, hoka⟩ : ∃ z, oa.isSome = z := ⟨_, rfl⟩
      obtain ⟨okb, hokb⟩ : ∃ z, ob.isSome = z := ⟨_, rfl⟩
      rw [hxa, hoka] at GA hoA
      rw [hxb, hokb] at GB hoB
      clear hxa hxb hoka hokb hk
      replace GA := Lib.hid GA
      replace GB := Lib.hid GB
      obtain ⟨⟨x0, x1, x2, x3, x3', x4, x5, x6⟩, -, -, -⟩ := hcx.out _ T
      clear x2 x3 x3' x4 x5 x6
      have r0 := T.c 1 0 rfl rfl
      have r1 := T.c 1 1 rfl rfl
      have r2 := T.c 1 2 rfl rfl
      go_wp2_with fail
      clear e9
      (with_reducible refine (GA.out _ dat.out).mono ?_)
      rintro e w9 ⟨va, rfl, hva, hb⟩
      clear x0 x1 GA
      clear r0 r1 r2
      replace T := T.call hb
      replace dat := Lib.hid (dat.out.below hb)
      clear hb
      replace hva := hva.at
      obtain ⟨A5, c5, B5, d5, rfl⟩ := hva.form
      have hb9 := below_new' w9 (.cells #[.int .i64 xa.o, .int .i64 xa.s, .int .i64 xa.a, .bool xa.ov, .slice A5 xa.adj.length c5, .slice B5 xa.pre.length d5] 30)
      replace T := T.new' #[.int .i64 xa.o, .int .i64 xa.s, .int .i64 xa.a, .bool xa.ov, .slice A5 xa.adj.length c5, .slice B5 xa.pre.length d5] 30 w9.heap.size _ rfl rfl
      replace dat := Lib.hid (dat.out.below hb9)
      replace hva := Lib.hid (hva.below hb9)
      clear hb9
      go_upto_region 15 with fail
      generalize World.alloc w9 _ = w10 at *
      generalize w9.heap.size = g10 at *
      obtain ⟨⟨x0, x1, x2, x3, x3', x4, x5, x6⟩, -, -, -⟩ := hcx.out _ (T.keepBoxes _ (by simp))
      clear x2 x3 x3' x4 x5 x6
      have r0 := T.c 2 0 rfl rfl
      have r1 := T.c 2 1 rfl rfl
      have r2 := T.c 2 2 rfl rfl
      go_wp2_with fail
      (with_reducible refine (GB.out _ dat.out).mono ?_)
      rintro e w11 ⟨vb, rfl, hvb, hb⟩
      clear x0 x1 GB
      clear r0 r1 r2
      replace T := T.call hb
      replace dat := Lib.hid (dat.out.below hb)
      replace hva := Lib.hid (hva.out.below hb)
      clear hb
      replace hvb := hvb.at
      obtain ⟨A6, c6, B6, d6, rfl⟩ := hvb.form
      have hb9 := below_new' w11 (.cells #[.int .i64 xb.o, .int .i64 xb.s, .int .i64 xb.a, .bool xb.ov, .slice A6 xb.adj.length c6, .slice B6 xb.pre.length d6] 30)
      replace T := T.new' #[.int .i64 xb.o, .int .i64 xb.s, .int .i64 xb.a, .bool xb.ov, .slice A6 xb.adj.length c6, .slice B6 xb.pre.length d6] 30 w11.heap.size _ rfl rfl
      replace dat := Lib.hid (dat.out.below hb9)
      replace hva := Lib.hid (hva.out.below hb9)
      replace hvb := Lib.hid (hvb.below hb9)
      clear hb9
      go_upto_region 16 with fail
      generalize World.alloc w11 _ = w12 at *
      generalize w11.heap.size = g12 at *
      obtain ⟨⟨x0, x1, -, -, -, -, -, -⟩, ⟨-, -, y2, y3, y3', -, -, -⟩, z0, z1⟩ := hcx.out _ (T.keepBoxes _ (by simp))
      replace x0 := cell_regrown x0
      replace x1 := cell_regrown x1
      replace y2 := cell_regrown y2
      replace y3 := cell_regrown y3
      replace y3' := cell_regrown y3'
      replace z0 := cell_regrown z0
      clear z1
      have p0 := cell_regrown (T.c 0 0 rfl rfl)
      have p1 := cell_regrown (T.c 0 1 rfl rfl)
      have p2 := cell_regrown (T.c 0 2 rfl rfl)
      have p3 := cell_regrown (T.c 0 3 rfl rfl)
      have p4 := cell_regrown (T.c 0 4 rfl rfl)
      have p5 := cell_regrown (T.c 0 5 rfl rfl)
      have q0 := cell_regrown (T.c 1 0 rfl rfl)
      have q1 := cell_regrown (T.c 1 1 rfl rfl)
      have q2 := cell_regrown (T.c 1 2 rfl rfl)
      have q3 := cell_regrown (T.c 1 3 rfl rfl)
      have q4 := cell_regrown (T.c 1 4 rfl rfl)
      have q5 := cell_regrown (T.c 1 5 rfl rfl)
      have u0 := cell_regrown (T.c 2 0 rfl rfl)
      have u1 := cell_regrown (T.c 2 1 rfl rfl)
      have u2 := cell_regrown (T.c 2 2 rfl rfl)
      have r0 := cell_regrown (T.c 3 0 rfl rfl)
      have r1 := cell_regrown (T.c 3 1 rfl rfl)
      have r2 := cell_regrown (T.c 3 2 rfl rfl)
      cases dn with
      | true =>
        clear hup hoA hoB hva hvb
        refine wp_region_quiet_below (by kernel_rfl) (by kernel_rfl) ?_
        repeat (go_big_quiet_step ((fail)))
        refine wpQuiet_nil ?_
        intro _ hw'
        obtain ⟨⟨dq, osq⟩, hw''⟩ := hw'
        subst hw''
        replace T := T.call (below_regrown _ dq osq)
        replace dat := dat.below (below_regrown _ dq osq)
        generalize grow (redrawn _ dq) osq = w13 at *
        clear x0 x1 y2 y3 y3' z0
        clear p0 p1 p2 p3 p4 p5
        clear q0 q1 q2 q3 q4 q5
        clear u0 u1 u2
        clear r0 r1 r2
        replace dat := Lib.hid dat
        go_wp2_with fail
        go_round
        case rel => exact ⟨i + 1, by go_num, by omega, dat, T.keepBoxes _ (by simp)⟩
        case measure => simp [intOf]; omega
      | false =>
        obtain ⟨pa, pb, hA, hB, e1, e2⟩ := hup.out rfl
        obtain ⟨rfl, ma⟩ := hoA.out pa hA
        obtain ⟨rfl, mb⟩ := hoB.out pb hB
        rw [← e1] at ma
        rw [← e2] at mb
        have HA := fun W hb => has_any W _ xa x.b (i : Int) ux.c (hva.out.below hb) ma
        have HB := fun W hb => has_any W _ xb x.a (i : Int) ux.d (hvb.out.below hb) mb
        replace HA := Lib.hid HA
        replace HB := Lib.hid HB
        clear hup hoA hoB hva hvb hA hB e1 e2 ma mb
        refine wp_region_quiet_below (by kernel_rfl) (by kernel_rfl) ?_
        repeat (go_big_quiet_step ((first | (go_at_call 31; with_reducible exact Calls.regrown_of (HA.out _ (below_regrown _ _ _))) | (go_at_call 31; with_reducible exact Calls.regrown_of (HB.out _ (below_regrown _ _ _))))))
        refine wpQuiet_nil ?_
        intro _ hw'
        obtain ⟨⟨dq, osq⟩, hw''⟩ := hw'
        subst hw''
        replace T := T.call (below_regrown _ dq osq)
        replace dat := dat.below (below_regrown _ dq osq)
        generalize grow (redrawn _ dq) osq = w13 at *
        clear x0 x1 y2 y3 y3' z0 HA HB
        clear p0 p1 p2 p3 p4 p5
        clear q0 q1 q2 q3 q4 q5
        clear u0 u1 u2
        clear r0 r1 r2
        replace dat := Lib.hid dat
        go_wp2_with fail
        go_round
        case rel => exact ⟨i + 1, by go_num, by omega, dat, T.keepBoxes _ (by simp)⟩
        case measure => simp [intOf]; omega
    · obtain rfl : i = m := by omega
      have r0 := T.c 1 0 rfl rfl
      have r1 := T.c 1 1 rfl rfl
      have r2 := T.c 1 2 rfl rfl
      go_wp2_with fail
      go_ret
      exact ⟨rfl, B0.out.trans (T.b.mono hsz)⟩

end Go.Proofs.Ytkmpmgojgidcgaa

namespace Go.Proofs.Ytkmpmgojgidcgaa.lsdbBothEnds
open Go.ChangeShapes Go.WideShapes Go.ChangeAt Go.RowKit
set_option linter.unusedVariables false

set_option maxRecDepth 100000 in
theorem lifted (os : Os) (started : os.Started) (H : Type) (enc : TypeId × Value → H) :
    ReturnsInHanded {} Try.checked os 8 .any (Rows.lsdbBothEndsSpec.pre6 enc Try.prog Try.f8 Rows.lsdbBothEndsRow.domain false) (Rows.lsdbBothEndsSpec.post enc Try.prog Try.f8 false true false false) := by
  refine returnsInHanded_of_change (C := Try.checked) frame_own started (by kernel_rfl) Try.func8
    (ChangeSpec.witness6 (enc := enc) (C := Try.checked) false ⟨#[], #[.slice none 0 0, .agg #[.int .i64 0, .slice none 0 0, .slice none 0 0]], []⟩ 8 (by kernel_rfl) (by kernel_rfl) (by kernel_rfl) (by kernel_rfl)) ?_
  intro W base args ds gs before hval0 hW hcnd _
  have hval : ∀ (j : Nat) t v, Try.f8.params[j]? = some t → args[j]? = some v → Value.okWide Try.prog W .any base t v := hval0
  have hW' := hW
  obtain ⟨p, q, hA0, hV, rfl, hfz, hnd⟩ := hW
  have hA : DataW.TrodAll enc Try.prog W 0 (fun _ => true) true Try.f8.params.toList args.toList ds p := hA0
  rw [Try.params8] at hA hval
  obtain ⟨v0, vs0, d0, ds0, p0', q0', hargs, rfl, rfl, h0, r0⟩ := trodAll_cons hA
  obtain ⟨v1, vs1, d1, ds1, p1', q1', rfl, rfl, rfl, h1, r1⟩ := trodAll_cons r0
  obtain ⟨rfl, rfl, rfl⟩ := trodAll_nil r1
  obtain rfl : args = #[v0, v1] := by cases args; simp_all
  obtain ⟨rfl, rfl⟩ := trodVars_none hV
  have k0 := h0
  have lt0 : ∀ x ∈ p0', x.block < W.heap.size := by obtain ⟨m, hm⟩ := k0; exact DataW.trod_lt m _ _ _ hm
  have k1 := h1
  have lt1 : ∀ x ∈ p1', x.block < W.heap.size := by obtain ⟨m, hm⟩ := k1; exact DataW.trod_lt m _ _ _ hm
  obtain ⟨A0, n0, c0, l0, rfl, hr0, hn0, hm0, hok0⟩ := arg_sx (hval 0 39 v0 rfl rfl) h0
  obtain ⟨x1, hx1⟩ := arg_tp (hval 1 66 v1 rfl rfl) h1
  clear hA0 hval0
  refine (both33_law W A0 n0 c0 l0 hr0 hn0 hm0 hok0 v1 x1 hx1).mono fun e W' ⟨he, bel⟩ => ?_
  subst he
  exact ⟨_, rfl, _, _, _, [], _, [], hW', trodAll_mk1 (shut_bool Try.underlying4 _), (trodAll_cons_mk (Below.trod frame_laidOut (by kernel_rfl) (of_decide_eq_true (by kernel_rfl)) k0 bel lt0) (trodAll_cons_mk (Below.trod frame_laidOut (by kernel_rfl) (of_decide_eq_true (by kernel_rfl)) k1 bel lt1) trodAll_mk0)), rfl, bel.frame _, fun h => by cases h⟩

theorem over : Rows.lsdbBothEndsRow.holds Try.pinned (OpenSpec.ofChange Rows.lsdbBothEndsSpec) :=
  OpenClaim.holds_of_wide 8 Try.f8 rfl rfl rfl rfl rfl rfl rfl ⟨rfl, rfl, rfl, rfl, rfl⟩ rfl rfl rfl rfl rfl (by kernel_rfl) Try.func8 (by kernel_rfl)
    (of_decide_eq_true (by kernel_rfl)) (by unfold Func.isWrapper; first | (rw [if_pos (by decide +kernel)]; kernel_rfl) | (rw [if_neg (by decide +kernel)]; exact ⟨rfl, rfl⟩))
    (fun os started H enc _ => lifted os started H enc)

theorem proved : Rows.LsdbBothEndsSaid := over
#print axioms proved
end Go.Proofs.Ytkmpmgojgidcgaa.lsdbBothEnds
