/-
  The statement LsdbView: for every input that can be read, the law returns true and leaves its arguments as they were. No condition.
-/
import Derived.Test.YtkmpmgojgidcgaaClone
import Derived.Test.YtkmpmgojgidcgaaValW
import Derived.Deep.DeepCutAuto
import Derived.Deep.CutBlock
import Derived.Test.YtkmpmgojgidcgaaQPView0
import Derived.Test.YtkmpmgojgidcgaaLaArg
import Derived.ChangeKeysEq
import Derived.Laws.StructEq
import Derived.Test.YtkmpmgojgidcgaaQPView1
namespace Go.Proofs.Ytkmpmgojgidcgaa
set_option linter.unusedVariables false
open Go.RowKit Go.Sort

/-- A link. -/
structure Lk where
  a : Int
  b : Int
  c : Int
  d : Int
  cap : Int
  del : Int
  grp : Int
def lkL (x : Lk) : List Value := [.int .i64 x.a, .int .i64 x.b, .int .i64 x.c, .int .i64 x.d, .int .i64 x.cap, .int .i64 x.del, .int .i64 x.grp]
def lksV : List Lk → List Value
  | [] => []
  | x :: l => lkL x ++ lksV l
def boV (l : List Bool) : List Value := l.map .bool
/-- A topology. -/
structure Tp where
  n : Int
  ov : List Bool
  ln : List Lk
abbrev tpV (n : Int) (A : Option Addr) (k c : Nat) (B : Option Addr) (m d : Nat) : Value := .agg #[.int .i64 n, .slice A k c, .slice B m d]
def TpAt (w : World) (v : Value) (t : Tp) : Prop := ∃ A c B d, v = tpV t.n A t.ov.length c B t.ln.length d ∧ Rd w A (boV t.ov) ∧ Rd w B (lksV t.ln) ∧ t.ov.length ≤ maxLen ∧ t.ln.length ≤ maxLen
theorem TpAt.below {w w' : World} {v : Value} {t : Tp} (h : TpAt w v t) (hb : Below w.heap.size w w') : TpAt w' v t := by
  obtain ⟨A, c, B, d, rfl, h1, h2, h3⟩ := h
  exact ⟨A, c, B, d, rfl, h1.below hb, h2.below hb, h3⟩
theorem lksV_len (l : List Lk) : (lksV l).length = l.length * 7 := by
  induction l with
  | nil => rfl
  | cons r l ih => simp only [lksV, lkL, List.length_append, List.length_cons, List.length_nil, ih]; omega
theorem boV_len (l : List Bool) : (boV l).length = l.length := by simp [boV]
theorem lksV_append (a b : List Lk) : lksV (a ++ b) = lksV a ++ lksV b := by
  induction a with
  | nil => rfl
  | cons r a ih => simp only [List.cons_append, lksV, ih, List.append_assoc]
theorem lkL_one (x : Lk) : ∀ u ∈ lkL x, u.oneCell' = true := by
  intro u hu
  simp only [lkL, List.mem_cons, List.not_mem_nil, or_false] at hu
  rcases hu with rfl | rfl | rfl | rfl | rfl | rfl | rfl <;> rfl
theorem lksV_one (l : List Lk) : ∀ u ∈ lksV l, u.oneCell' = true := by
  induction l with
  | nil => simp [lksV]
  | cons r l ih =>
    intro u hu
    simp only [lksV, List.mem_append] at hu
    rcases hu with hu | hu
    · exact lkL_one r u hu
    · exact ih u hu
theorem boV_one (l : List Bool) : ∀ u ∈ boV l, u.oneCell' = true := by
  intro u hu
  obtain ⟨b, _, rfl⟩ := List.mem_map.1 hu
  rfl
theorem lksV_get (l : List Lk) : ∀ (k : Nat) (hk : k < l.length) (j : Nat) (hj : j < 7), (lksV l)[7 * k + j]? = (lkL l[k])[j]? := by
  induction l with
  | nil => intro k hk; simp at hk
  | cons r l ih =>
    intro k hk j hj
    have h8 : (lkL r).length = 7 := rfl
    cases k with
    | zero => simp only [lksV, List.getElem_cons_zero]; rw [List.getElem?_append_left (by omega)]; simp
    | succ k =>
      simp only [lksV, List.getElem_cons_succ]
      rw [List.getElem?_append_right (by omega), h8, show 7 * (k + 1) + j - 7 = 7 * k + j by omega]
      exact ih k (by simpa using hk) j hj
/-- A link's cells. -/
structure LkC (w : World) (b o : Nat) (x : Lk) : Prop where
  c0 : w.cell? ⟨b, o, none⟩ = some (.int .i64 x.a)
  c1 : w.cell? ⟨b, o + 1, none⟩ = some (.int .i64 x.b)
  c2 : w.cell? ⟨b, o + 2, none⟩ = some (.int .i64 x.c)
  c3 : w.cell? ⟨b, o + 2 + 1, none⟩ = some (.int .i64 x.d)
  c3' : w.cell? ⟨b, o + 3, none⟩ = some (.int .i64 x.d)
  c4 : w.cell? ⟨b, o + 4, none⟩ = some (.int .i64 x.cap)
  c5 : w.cell? ⟨b, o + 5, none⟩ = some (.int .i64 x.del)
  c6 : w.cell? ⟨b, o + 6, none⟩ = some (.int .i64 x.grp)
theorem rd_lk {w : World} {A : Option Addr} {l : List Lk} (h : Rd w A (lksV l)) (hn : 0 < l.length) :
    ∃ b off, A = some ⟨b, off, none⟩ ∧ ∀ k (hk : k < l.length), LkC w b (off + k * 7) l[k] := by
  obtain ⟨b, off, e, hc⟩ := rd_at h (by rw [lksV_len]; omega)
  have key : ∀ k (hk : k < l.length) j (u : Value), j < 7 → (lkL l[k])[j]? = some u → w.cell? ⟨b, off + k * 7 + j, none⟩ = some u := fun k hk j u hj hu => by
    rw [Nat.add_assoc]
    exact hc _ _ (by rw [Nat.mul_comm k 7, lksV_get l k hk j hj]; exact hu)
  exact ⟨b, off, e, fun k hk => ⟨key k hk 0 _ (by omega) rfl, key k hk 1 _ (by omega) rfl, key k hk 2 _ (by omega) rfl, key k hk 3 _ (by omega) rfl, key k hk 3 _ (by omega) rfl, key k hk 4 _ (by omega) rfl, key k hk 5 _ (by omega) rfl, key k hk 6 _ (by omega) rfl⟩⟩
theorem rd_bo {w : World} {A : Option Addr} {l : List Bool} (h : Rd w A (boV l)) (hn : 0 < l.length) :
    ∃ b off, A = some ⟨b, off, none⟩ ∧ ∀ k (hk : k < l.length), w.cell? ⟨b, off + k, none⟩ = some (.bool l[k]) := by
  obtain ⟨b, off, e, hc⟩ := rd_at h (by rw [boV_len]; omega)
  exact ⟨b, off, e, fun k hk => hc k _ (by simp [boV, List.getElem?_eq_getElem hk])⟩

/-! ### Valid topologies -/
structure LkOk (n : Int) (x : Lk) : Prop where
  a : 0 ≤ x.a ∧ x.a < n
  b : 0 ≤ x.b ∧ x.b < n
  ne : x.a ≠ x.b
  c : 1 ≤ x.c ∧ x.c ≤ 65535
  d : 1 ≤ x.d ∧ x.d ≤ 65535
  cap : 0 ≤ x.cap ∧ x.cap ≤ 1048576
  del : 1 ≤ x.del ∧ x.del ≤ 65536
  grp : 0 ≤ x.grp ∧ x.grp ≤ 64
structure TpOk (t : Tp) : Prop where
  n : 1 ≤ t.n ∧ t.n ≤ 64
  ov : t.ov.length = 0 ∨ (t.ov.length : Int) = t.n
  ln : t.ln.length ≤ 256
  all : ∀ x ∈ t.ln, LkOk t.n x
open Classical in
noncomputable def tB (t : Tp) : Bool := decide (TpOk t)
open Classical in
theorem tB_t {t : Tp} (h : TpOk t) : tB t = true := by unfold tB; exact decide_eq_true h
open Classical in
theorem tB_f {t : Tp} (h : ¬ TpOk t) : tB t = false := by unfold tB; exact decide_eq_false h
theorem tB_iff {t : Tp} : tB t = true ↔ TpOk t := by unfold tB; simp

/-! ### Small functions -/
set_option maxHeartbeats 800000 in
theorem twithin_any (n l m : Int) (w : World) : Calls Try.prog 75 #[.int .i64 n, .int .i64 l, .int .i64 m] w fun e w' => e = .returned (.bool (wiB n l m)) ∧ w = w' := by
  by_cases h1 : l ≤ n
  · have e : wiB n l m = decide (n ≤ m) := by simp [wiB, h1]
    rw [e]; clear e
    go_enter Try.func75, Try.ntmps75
    go_wp2_with fail
    all_goals (first | done | go_ret)
    all_goals exact ⟨rfl, rfl⟩
  · have e : wiB n l m = false := by simp [wiB, h1]
    rw [e]; clear e
    go_enter Try.func75, Try.ntmps75
    go_wp2_with fail
    all_goals (first | done | go_ret)
    all_goals exact ⟨rfl, rfl⟩
set_option maxHeartbeats 800000 in
theorem rtwithin_any (n l m : Int) (w : World) : Calls Try.prog 50 #[.int .i64 n, .int .i64 l, .int .i64 m] w fun e w' => e = .returned (.bool (wiB n l m)) ∧ w = w' := by
  by_cases h1 : l ≤ n
  · have e : wiB n l m = decide (n ≤ m) := by simp [wiB, h1]
    rw [e]; clear e
    go_enter Try.func50, Try.ntmps50
    go_wp2_with fail
    all_goals (first | done | go_ret)
    all_goals exact ⟨rfl, rfl⟩
  · have e : wiB n l m = false := by simp [wiB, h1]
    rw [e]; clear e
    go_enter Try.func50, Try.ntmps50
    go_wp2_with fail
    all_goals (first | done | go_ret)
    all_goals exact ⟨rfl, rfl⟩
def ndB (n i : Int) : Bool := decide (0 ≤ i) && decide (i < n)
theorem ndB_t {n i : Int} (h : ndB n i = true) : 0 ≤ i ∧ i < n := by simpa [ndB] using h
theorem ndB_f {n i : Int} (h : ndB n i = false) : ¬ (0 ≤ i ∧ i < n) := fun h2 => by simp [ndB, h2.1, h2.2] at h
set_option maxHeartbeats 800000 in
theorem node_any (n i : Int) (u1 u2 : Value) (h1 : u1.oneCell' = true) (h2 : u2.oneCell' = true) (w : World) : Calls Try.prog 76 #[.agg #[.int .i64 n, u1, u2], .int .i64 i] w fun e w' => e = .returned (.bool (ndB n i)) ∧ Below w.heap.size w w' := by
  have hbb := below_new' w (.cells #[.int .i64 n, u1, u2] 66)
  have S := Box.new w #[.int .i64 n, u1, u2] 66
  have c0 := S.c 0 rfl
  by_cases h1 : 0 ≤ i
  · have e : ndB n i = decide (i < n) := by simp [ndB, h1]
    rw [e]; clear e S
    go_enter Try.func76, Try.ntmps76
    go_wp2_with fail
    all_goals (first | done | go_ret)
    all_goals exact ⟨rfl, hbb⟩
  · have e : ndB n i = false := by simp [ndB, h1]
    rw [e]; clear e S
    go_enter Try.func76, Try.ntmps76
    go_wp2_with fail
    all_goals (first | done | go_ret)
    all_goals exact ⟨rfl, hbb⟩
set_option maxHeartbeats 800000 in
theorem arcs_any (n : Int) (u1 : Value) (B : Option Addr) (m d : Nat) (w : World) (hm : m ≤ 1000000) : Calls Try.prog 48 #[.agg #[.int .i64 n, u1, .slice B m d]] w fun e w' => e = .returned (.int .i64 ((2 * m : Nat) : Int)) ∧ Below w.heap.size w w' := by
  have hbb := below_new' w (.cells #[.int .i64 n, u1, .slice B m d] 66)
  have S := Box.new w #[.int .i64 n, u1, .slice B m d] 66
  have c2 := S.c 2 rfl
  clear S
  go_enter Try.func48, Try.ntmps48
  go_wp2_with fail
  go_ret
  exact ⟨by simp, hbb⟩

/-! ### Copies -/
theorem boT : ElemT Try.prog 63 4 (.bool false) 1 1 := ⟨Try.underlying63, by kernel_rfl, rfl, by omega⟩
theorem lkT : ElemT Try.prog 64 76 (.agg #[.int .i64 0, .int .i64 0, .int .i64 0, .int .i64 0, .int .i64 0, .int .i64 0, .int .i64 0]) 7 56 := ⟨Try.underlying64, by kernel_rfl, rfl, by omega⟩
set_option maxRecDepth 100000 in
set_option maxHeartbeats 800000 in
theorem clone_bo (w : World) (A : Option Addr) (n c : Nat) (l : List Bool) (hr : Rd w A (boV l)) (hn : l.length = n) (hb : n ≤ 1000000) :
    Calls Try.prog 77 #[.slice A n c] w (ClonePost w 4 1 n (boV l)) := by
  rcases A with _ | ad
  · have h0 := hr.nil_len
    rw [boV_len] at h0
    obtain rfl : l = [] := List.eq_nil_of_length_eq_zero (by omega)
    subst hn
    have hE := fun W => Lib.run_eql_slice_nil W 63 4 none 0 c 0 0 Try.underlying63
    go_enter Try.func77, Try.ntmps77
    go_wp2_with fail
    go_ret
    exact ⟨none, 0, rfl, World.ownsRow_nil _ _ _ _, Below.refl _ _⟩
  · have hl : (boV l).length = n * 1 := by rw [boV_len, hn]; omega
    clear hn
    have hE := fun W => Lib.run_eql_slice_nil W 63 4 (some ad) n c 0 0 Try.underlying63
    go_enter Try.func77, Try.ntmps77
    go_wp2_with (at_builtin; refine wpList_app rfl boT (.tmp 5) (.tmp 6) rfl w.heap.size rfl (own_empty _ _ _) (m := n) rfl hl (hr.below (below_new' _ _)) (boV_one l) (by simp only [maxLen]; omega) (by omega) (by simp) n (boV l) (by omega) (by simp) ?_; intro v' w' ho hb')
    go_ret
    obtain ⟨A', c', rfl, _⟩ := own_rd ho
    exact ⟨A', c', rfl, ho, (below_new' _ _).trans hb'⟩
set_option maxRecDepth 100000 in
set_option maxHeartbeats 800000 in
theorem clone_lk (w : World) (A : Option Addr) (n c : Nat) (l : List Lk) (hr : Rd w A (lksV l)) (hn : l.length = n) (hb : n ≤ 1000000) :
    Calls Try.prog 78 #[.slice A n c] w (ClonePost w 76 7 n (lksV l)) := by
  rcases A with _ | ad
  · have h0 := hr.nil_len
    rw [lksV_len] at h0
    obtain rfl : l = [] := List.eq_nil_of_length_eq_zero (by omega)
    subst hn
    have hE := fun W => Lib.run_eql_slice_nil W 64 76 none 0 c 0 0 Try.underlying64
    go_enter Try.func78, Try.ntmps78
    go_wp2_with fail
    go_ret
    exact ⟨none, 0, rfl, World.ownsRow_nil _ _ _ _, Below.refl _ _⟩
  · have hl : (lksV l).length = n * 7 := by rw [lksV_len, hn]
    clear hn
    have hE := fun W => Lib.run_eql_slice_nil W 64 76 (some ad) n c 0 0 Try.underlying64
    go_enter Try.func78, Try.ntmps78
    go_wp2_with (at_builtin; refine wpList_app rfl lkT (.tmp 5) (.tmp 6) rfl w.heap.size rfl (own_empty _ _ _) (m := n) rfl hl (hr.below (below_new' _ _)) (lksV_one l) (by simp only [maxLen]; omega) (by omega) (by simp) n (lksV l) (by omega) (by simp) ?_; intro v' w' ho hb')
    go_ret
    obtain ⟨A', c', rfl, _⟩ := own_rd ho
    exact ⟨A', c', rfl, ho, (below_new' _ _).trans hb'⟩

end Go.Proofs.Ytkmpmgojgidcgaa

namespace Go.Proofs.Ytkmpmgojgidcgaa
set_option linter.unusedVariables false
open Go.RowKit Go.Sort

set_option maxRecDepth 100000 in
set_option maxHeartbeats 6400000 in
theorem tvalid_any (w : World) (v : Value) (t : Tp) (h : TpAt w v t) : Calls Try.prog 46 #[v] w fun e w' => e = .returned (.bool (tB t)) ∧ Below w.heap.size w w' := by
  obtain ⟨A, c, B, d, rfl, rA, rB, h1, h2⟩ := h
  have S := ((St.start w).read rB).new' #[.int .i64 t.n, .slice A t.ov.length c, .slice B t.ln.length d] 66 w.heap.size _ rfl rfl
  clear rA rB
  have hres : Hid (∀ b, (b = true → TpOk t) → (b = false → ¬ TpOk t) → b = tB t) := fun b h1 h2 => by
    cases b with
    | true => exact (tB_t (h1 rfl)).symm
    | false => exact (tB_f (h2 rfl)).symm
  obtain ⟨n, hn⟩ : ∃ n, t.n = n := ⟨_, rfl⟩
  obtain ⟨k, hk⟩ : ∃ k, t.ov.length = k := ⟨_, rfl⟩
  obtain ⟨m, hm⟩ : ∃ m, t.ln.length = m := ⟨_, rfl⟩
  obtain ⟨l, hl⟩ : ∃ l, t.ln = l := ⟨_, rfl⟩
  have hml : l.length = m := by rw [← hl, hm]
  rw [hn, hk, hm, hl] at S
  rw [hm] at h2
  rw [hk] at h1
  unfold maxLen at h1 h2
  simp only [hn, hk, hm]
  replace hn := Lib.hid hn
  replace hk := Lib.hid hk
  replace hm := Lib.hid hm
  replace hl := Lib.hid hl
  replace hml := Lib.hid hml
  obtain ⟨tb, htb⟩ : ∃ z, tB t = z := ⟨_, rfl⟩
  rw [htb] at hres ⊢
  clear htb
  have c0 := S.c 0 0 rfl rfl
  have c1 := S.c 0 1 rfl rfl
  have c2 := S.c 0 2 rfl rfl
  go_enter Try.func46, Try.ntmps46
  go_wp2_with fail
  (with_reducible refine (twithin_any _ _ _ _).mono ?_)
  rintro e w1 ⟨rfl, rfl⟩
  rcases hw1 : wiB n 1 64 with _ | _
  · have := wiB_f hw1
    obtain rfl := hres.out false (fun h => by cases h) (fun _ h => by have h5 := h.n; rw [hn.out] at h5; omega)
    go_wp2_with fail
    go_ret
    exact ⟨rfl, S.b⟩
  replace hw1 := Lib.hid (wiB_t hw1)
  by_cases hl1 : 256 < m
  · obtain rfl := hres.out false (fun h => by cases h) (fun _ h => by have := h.ln; rw [hm.out] at this; omega)
    go_wp2_with fail
    go_ret
    exact ⟨rfl, S.b⟩
  by_cases hk0 : k = 0 ∨ (k : Int) = n
  rotate_left
  · obtain rfl := hres.out false (fun h => by cases h) (fun _ h => by have := h.ov; rw [hk.out, hn.out] at this; exact hk0 this)
    have hk1 : k ≠ 0 := fun h => hk0 (.inl h)
    have hk2 : (k : Int) ≠ n := fun h => hk0 (.inr h)
    have e1 : ((k : Int) != 0) = true := by simp; omega
    have e2 : ((k : Int) != n) = true := by simp; exact hk2
    clear hk0 hk1 hk2
    go_wp2_with fail
    go_ret
    exact ⟨rfl, S.b⟩
  have hgo : Hid (∀ b, (b = true → ∀ x ∈ l, LkOk n x) → (b = false → ¬ ∀ x ∈ l, LkOk n x) → b = tb) := fun b h1 h2 => hres.out b
    (fun h => ⟨by rw [hn.out]; exact hw1.out, by rw [hk.out, hn.out]; exact hk0, by rw [hm.out]; omega, by rw [hl.out, hn.out]; exact h1 h⟩)
    (fun h h3 => h2 h (by have := h3.all; rwa [hl.out, hn.out] at this))
  have hcut : (k : Int) = 0 ∨ ((k : Int) ≠ 0 ∧ (k : Int) = n) := by omega
  have hT : Hid (∀ j (hj : j < l.length), j < 0 → LkOk n l[j]) := fun j hj h => absurd h (by omega)
  clear hres hn hk hm hl h1 h2 hw1 hk0
  generalize World.alloc w _ = w1 at *
  have hq : ((k : Int) != 0) = false ∨ (((k : Int) != 0) = true ∧ ((k : Int) != n) = false) := by
    rcases hcut with e | ⟨e1, e2⟩
    · left; simp; omega
    · right; constructor
      · simp; omega
      · simp; omega
  clear hcut
  rcases hq with e1 | ⟨e1, e3⟩
  all_goals
    go_wp2_with fail
    clear e1
    go_loopw [30] (fun v30 wr => ∃ i : Nat, v30 = .int .i64 i ∧ i ≤ m ∧ Hid (∀ j (hj : j < l.length), j < i → LkOk n l[j]) ∧ St w wr [(w.heap.size, [.int .i64 n, .slice A k c, .slice B m d])] [(B, lksV l)]) (fun v30 _ => m - (intOf v30).toNat)
    case atStart => exact ⟨0, rfl, by omega, hT, S⟩
    case round =>
      clear S hT
      obtain ⟨i, rfl, hi, hT, S⟩ := hrel
      clear c0 c1 c2
      by_cases him : i < m
      · have hil : i < l.length := by have := hml.out; omega
        obtain ⟨b, off, rfl, hc⟩ := rd_lk (S.r 0 rfl) (by omega)
        have hT2 : Hid (LkOk n l[i] → ∀ j (hj : j < l.length), j < i + 1 → LkOk n l[j]) := fun h j hj hji => by
          by_cases e : j = i
          · subst e; exact h
          · exact hT.out j hj (by omega)
        have hbad : Hid (¬ LkOk n l[i] → false = tb) := fun h => hgo.out false (fun h => by cases h) (fun _ h2 => h (h2 _ (List.getElem_mem hil)))
        have hcw := fun W (h : Rd W (some ⟨b, off, none⟩) (lksV l)) => h
        obtain ⟨x, hx⟩ : ∃ x, l[i] = x := ⟨_, rfl⟩
        have hcc : ∀ W, Rd W (some ⟨b, off, none⟩) (lksV l) → LkC W b (off + i * 7) x := fun W h => by
          obtain ⟨b', off', e, hc'⟩ := rd_lk h (by omega)
          simp only [Option.some.injEq, Addr.mk.injEq, and_true] at e
          obtain ⟨rfl, rfl⟩ := e
          have := hc' i hil
          rwa [hx] at this
        rw [hx] at hT2 hbad
        clear hc hcw hx hT
        obtain ⟨xa, xb, xc, xd, xcap, xdel, xgrp⟩ := x
        replace hcc := Lib.hid hcc
        have c0 := S.c 0 0 rfl rfl
        have c1 := S.c 0 1 rfl rfl
        have c2 := S.c 0 2 rfl rfl
        obtain ⟨x0, x1, x2, x3, x3', x4, x5, x6⟩ := hcc.out _ (S.r 0 rfl)
        simp only at x0 x1 x2 x3 x3' x4 x5 x6
        go_wp2_with fail
        by_cases hab : xa = xb
        · subst hab
          obtain rfl := hbad.out (fun h => h.ne rfl)
          go_quiet (fail)
          go_wp2_with fail
          go_ret
          exact ⟨rfl, below_drewN S.b nq⟩
        have e1 : (xa == xb) = false := by simp [hab]
        have NA := fun W => node_any n xa (.slice A k c) (.slice (some ⟨b, off, none⟩) m d) rfl rfl W
        have NB := fun W => node_any n xb (.slice A k c) (.slice (some ⟨b, off, none⟩) m d) rfl rfl W
        obtain ⟨pa, hpa⟩ : ∃ p, ndB n xa = p := ⟨_, rfl⟩
        obtain ⟨pb, hpb⟩ : ∃ p, ndB n xb = p := ⟨_, rfl⟩
        rw [hpa] at NA
        rw [hpb] at NB
        replace NA := Lib.hid NA
        replace NB := Lib.hid NB
        replace hab := Lib.hid hab
        clear c0 c1 c2 x2 x3 x3' x4 x5 x6
        have c0 := cell_regrown (S.c 0 0 rfl rfl)
        have c1 := cell_regrown (S.c 0 1 rfl rfl)
        have c2 := cell_regrown (S.c 0 2 rfl rfl)
        replace x0 := cell_regrown x0
        replace x1 := cell_regrown x1
        rcases hpa2 : pa with _ | _
        · subst hpa2
          obtain rfl := hbad.out (fun h => ndB_f hpa h.a)
          refine wp_region_quiet_below (by kernel_rfl) (by kernel_rfl) ?_
          repeat (go_big_quiet_step ((first | (go_at_call 76; with_reducible exact Calls.regrown_of (NA.out _)))))
          refine wpQuiet_nil ?_
          intro _ hw'
          obtain ⟨⟨dq, osq⟩, hw''⟩ := hw'
          subst hw''
          replace S := S.call (below_regrown _ dq osq)
          generalize grow (redrawn _ dq) osq = w4 at *
          go_wp2_with fail
          go_ret
          exact ⟨rfl, S.b⟩
        subst hpa2
        rcases hpb2 : pb with _ | _
        · subst hpb2
          obtain rfl := hbad.out (fun h => ndB_f hpb h.b)
          refine wp_region_quiet_below (by kernel_rfl) (by kernel_rfl) ?_
          repeat (go_big_quiet_step ((first | (go_at_call 76; with_reducible exact Calls.regrown_of (NA.out _)) | (go_at_call 76; with_reducible exact Calls.regrown_of (NB.out _)))))
          refine wpQuiet_nil ?_
          intro _ hw'
          obtain ⟨⟨dq, osq⟩, hw''⟩ := hw'
          subst hw''
          replace S := S.call (below_regrown _ dq osq)
          generalize grow (redrawn _ dq) osq = w4 at *
          go_wp2_with fail
          go_ret
          exact ⟨rfl, S.b⟩
        subst hpb2
        refine wp_region_quiet_below (by kernel_rfl) (by kernel_rfl) ?_
        repeat (go_big_quiet_step ((first | (go_at_call 76; with_reducible exact Calls.regrown_of (NA.out _)) | (go_at_call 76; with_reducible exact Calls.regrown_of (NB.out _)))))
        refine wpQuiet_nil ?_
        intro _ hw'
        obtain ⟨⟨dq, osq⟩, hw''⟩ := hw'
        subst hw''
        replace S := S.call (below_regrown _ dq osq)
        generalize grow (redrawn _ dq) osq = w4 at *
        clear x0 x1 c0 c1 c2 NA NB e1
        replace hpa := Lib.hid (ndB_t hpa)
        replace hpb := Lib.hid (ndB_t hpb)
        obtain ⟨x0, x1, x2, x3, x3', x4, x5, x6⟩ := hcc.out _ (S.r 0 rfl)
        simp only at x0 x1 x2 x3 x3' x4 x5 x6
        go_wp2_with fail
        (with_reducible refine (twithin_any _ _ _ _).mono ?_)
        rintro e w5 ⟨rfl, rfl⟩
        rcases hv1 : wiB xc 1 65535 with _ | _
        · have h9 := wiB_f hv1
          obtain rfl := hbad.out (fun h => by have := h.c; simp only at this; omega)
          go_wp2_with fail
          go_ret
          exact ⟨rfl, S.b⟩
        replace hv1 := Lib.hid (wiB_t hv1)
        go_wp2_with fail
        (with_reducible refine (twithin_any _ _ _ _).mono ?_)
        rintro e w5 ⟨rfl, rfl⟩
        rcases hv2 : wiB xd 1 65535 with _ | _
        · have h9 := wiB_f hv2
          obtain rfl := hbad.out (fun h => by have := h.d; simp only at this; omega)
          go_wp2_with fail
          go_ret
          exact ⟨rfl, S.b⟩
        replace hv2 := Lib.hid (wiB_t hv2)
        go_wp2_with fail
        (with_reducible refine (twithin_any _ _ _ _).mono ?_)
        rintro e w5 ⟨rfl, rfl⟩
        rcases hv3 : wiB xcap 0 1048576 with _ | _
        · have h9 := wiB_f hv3
          obtain rfl := hbad.out (fun h => by have := h.cap; simp only at this; omega)
          go_wp2_with fail
          go_ret
          exact ⟨rfl, S.b⟩
        replace hv3 := Lib.hid (wiB_t hv3)
        go_wp2_with fail
        (with_reducible refine (twithin_any _ _ _ _).mono ?_)
        rintro e w5 ⟨rfl, rfl⟩
        rcases hv4 : wiB xdel 1 65536 with _ | _
        · have h9 := wiB_f hv4
          obtain rfl := hbad.out (fun h => by have := h.del; simp only at this; omega)
          go_wp2_with fail
          go_ret
          exact ⟨rfl, S.b⟩
        replace hv4 := Lib.hid (wiB_t hv4)
        go_wp2_with fail
        (with_reducible refine (twithin_any _ _ _ _).mono ?_)
        rintro e w5 ⟨rfl, rfl⟩
        rcases hv5 : wiB xgrp 0 64 with _ | _
        · have h9 := wiB_f hv5
          obtain rfl := hbad.out (fun h => by have := h.grp; simp only at this; omega)
          go_wp2_with fail
          go_ret
          exact ⟨rfl, S.b⟩
        replace hv5 := Lib.hid (wiB_t hv5)
        go_wp2_with fail
        go_round
        case rel => exact ⟨i + 1, by go_num, by omega, hT2.out ⟨hpa.out, hpb.out, hab.out, hv1.out, hv2.out, hv3.out, hv4.out, hv5.out⟩, S⟩
        case measure => simp [intOf]; omega
      · obtain rfl : i = m := by omega
        obtain rfl := hgo.out true (fun _ x hx => by
          obtain ⟨j, hj, rfl⟩ := List.getElem_of_mem hx
          exact hT.out j hj (by have := hml.out; omega)) (fun h => by cases h)
        have c0 := S.c 0 0 rfl rfl
        have c1 := S.c 0 1 rfl rfl
        have c2 := S.c 0 2 rfl rfl
        go_wp2_with fail
        go_ret
        exact ⟨rfl, S.b⟩

end Go.Proofs.Ytkmpmgojgidcgaa

namespace Go.Proofs.Ytkmpmgojgidcgaa
set_option linter.unusedVariables false
open Go.RowKit Go.Sort

set_option maxRecDepth 100000 in
set_option maxHeartbeats 6400000 in
theorem rtvalid_any (w : World) (v : Value) (t : Tp) (h : TpAt w v t) : Calls Try.prog 28 #[v] w fun e w' => e = .returned (.bool (tB t)) ∧ Below w.heap.size w w' := by
  obtain ⟨A, c, B, d, rfl, rA, rB, h1, h2⟩ := h
  have S := ((St.start w).read rB).new' #[.int .i64 t.n, .slice A t.ov.length c, .slice B t.ln.length d] 66 w.heap.size _ rfl rfl
  clear rA rB
  have hres : Hid (∀ b, (b = true → TpOk t) → (b = false → ¬ TpOk t) → b = tB t) := fun b h1 h2 => by
    cases b with
    | true => exact (tB_t (h1 rfl)).symm
    | false => exact (tB_f (h2 rfl)).symm
  obtain ⟨n, hn⟩ : ∃ n, t.n = n := ⟨_, rfl⟩
  obtain ⟨k, hk⟩ : ∃ k, t.ov.length = k := ⟨_, rfl⟩
  obtain ⟨m, hm⟩ : ∃ m, t.ln.length = m := ⟨_, rfl⟩
  obtain ⟨l, hl⟩ : ∃ l, t.ln = l := ⟨_, rfl⟩
  have hml : l.length = m := by rw [← hl, hm]
  rw [hn, hk, hm, hl] at S
  rw [hm] at h2
  rw [hk] at h1
  unfold maxLen at h1 h2
  simp only [hn, hk, hm]
  replace hn := Lib.hid hn
  replace hk := Lib.hid hk
  replace hm := Lib.hid hm
  replace hl := Lib.hid hl
  replace hml := Lib.hid hml
  obtain ⟨tb, htb⟩ : ∃ z, tB t = z := ⟨_, rfl⟩
  rw [htb] at hres ⊢
  clear htb
  have c0 := S.c 0 0 rfl rfl
  have c1 := S.c 0 1 rfl rfl
  have c2 := S.c 0 2 rfl rfl
  go_enter Try.func28, Try.ntmps28
  go_wp2_with fail
  (with_reducible refine (rtwithin_any _ _ _ _).mono ?_)
  rintro e w1 ⟨rfl, rfl⟩
  rcases hw1 : wiB n 1 64 with _ | _
  · have := wiB_f hw1
    obtain rfl := hres.out false (fun h => by cases h) (fun _ h => by have h5 := h.n; rw [hn.out] at h5; omega)
    go_wp2_with fail
    go_ret
    exact ⟨rfl, S.b⟩
  replace hw1 := Lib.hid (wiB_t hw1)
  by_cases hk0 : k = 0 ∨ (k : Int) = n
  rotate_left
  · obtain rfl := hres.out false (fun h => by cases h) (fun _ h => by have := h.ov; rw [hk.out, hn.out] at this; exact hk0 this)
    have hk1 : k ≠ 0 := fun h => hk0 (.inl h)
    have hk2 : (k : Int) ≠ n := fun h => hk0 (.inr h)
    have e1 : ((k : Int) != 0) = true := by simp; omega
    have e2 : ((k : Int) != n) = true := by simp; exact hk2
    clear hk0 hk1 hk2
    go_wp2_with fail
    go_ret
    exact ⟨rfl, S.b⟩
  have hcut : (k : Int) = 0 ∨ ((k : Int) ≠ 0 ∧ (k : Int) = n) := by omega
  have hT : Hid (∀ j (hj : j < l.length), j < 0 → LkOk n l[j]) := fun j hj h => absurd h (by omega)
  generalize World.alloc w _ = w1 at *
  have hq : ((k : Int) != 0) = false ∨ (((k : Int) != 0) = true ∧ ((k : Int) != n) = false) := by
    rcases hcut with e | ⟨e1, e2⟩
    · left; simp; omega
    · right; constructor
      · simp; omega
      · simp; omega
  clear hcut
  rcases hq with e1 | ⟨e1, e3⟩
  all_goals
    by_cases hl1 : 256 < m
    · obtain rfl := hres.out false (fun h => by cases h) (fun _ h => by have := h.ln; rw [hm.out] at this; omega)
      go_wp2_with fail
      go_ret
      exact ⟨rfl, S.b⟩
    have hgo : Hid (∀ b, (b = true → ∀ x ∈ l, LkOk n x) → (b = false → ¬ ∀ x ∈ l, LkOk n x) → b = tb) := fun b h1 h2 => hres.out b
      (fun h => ⟨by rw [hn.out]; exact hw1.out, by rw [hk.out, hn.out]; exact hk0, by rw [hm.out]; omega, by rw [hl.out, hn.out]; exact h1 h⟩)
      (fun h h3 => h2 h (by have := h3.all; rwa [hl.out, hn.out] at this))
    clear hres hn hk hm hl h1 h2 hk0
    go_wp2_with fail
    clear e1
    go_loopw [3] (fun v30 wr => ∃ i : Nat, v30 = .int .i64 i ∧ i ≤ m ∧ Hid (∀ j (hj : j < l.length), j < i → LkOk n l[j]) ∧ St w wr [(w.heap.size, [.int .i64 n, .slice A k c, .slice B m d])] [(B, lksV l)]) (fun v30 _ => m - (intOf v30).toNat)
    case atStart => exact ⟨0, rfl, by omega, hT, S⟩
    case round =>
      clear S hT
      obtain ⟨i, rfl, hi, hT, S⟩ := hrel
      clear c0 c1 c2
      by_cases him : i < m
      · have hil : i < l.length := by have := hml.out; omega
        obtain ⟨b, off, rfl, hc⟩ := rd_lk (S.r 0 rfl) (by omega)
        have hT2 : Hid (LkOk n l[i] → ∀ j (hj : j < l.length), j < i + 1 → LkOk n l[j]) := fun h j hj hji => by
          by_cases e : j = i
          · subst e; exact h
          · exact hT.out j hj (by omega)
        have hbad : Hid (¬ LkOk n l[i] → false = tb) := fun h => hgo.out false (fun h => by cases h) (fun _ h2 => h (h2 _ (List.getElem_mem hil)))
        have hcw := fun W (h : Rd W (some ⟨b, off, none⟩) (lksV l)) => h
        obtain ⟨x, hx⟩ : ∃ x, l[i] = x := ⟨_, rfl⟩
        have hcc : ∀ W, Rd W (some ⟨b, off, none⟩) (lksV l) → LkC W b (off + i * 7) x := fun W h => by
          obtain ⟨b', off', e, hc'⟩ := rd_lk h (by omega)
          simp only [Option.some.injEq, Addr.mk.injEq, and_true] at e
          obtain ⟨rfl, rfl⟩ := e
          have := hc' i hil
          rwa [hx] at this
        rw [hx] at hT2 hbad
        clear hc hcw hx hT
        obtain ⟨xa, xb, xc, xd, xcap, xdel, xgrp⟩ := x
        replace hcc := Lib.hid hcc
        have c0 := S.c 0 0 rfl rfl
        have c1 := S.c 0 1 rfl rfl
        have c2 := S.c 0 2 rfl rfl
        obtain ⟨x0, x1, x2, x3, x3', x4, x5, x6⟩ := hcc.out _ (S.r 0 rfl)
        simp only at x0 x1 x2 x3 x3' x4 x5 x6
        have hwr : IntKind.i64.wrap (n - 1) = n - 1 := IntWalk.i64_in _ (by have := hw1.out; omega)
        go_upto_region 7 with fail
        replace S := S.new' #[.int .i64 xa, .int .i64 xb, .int .i64 xc, .int .i64 xd, .int .i64 xcap, .int .i64 xdel, .int .i64 xgrp] 76 wr.heap.size _ rfl rfl
        clear x0 x1 x2 x3 x3' x4 x5 x6 c0 c1 c2
        generalize World.alloc wr _ = w4 at *
        generalize wr.heap.size = g4 at *
        have d0 := S.c 0 0 rfl rfl
        have d1 := S.c 0 1 rfl rfl
        have d2 := S.c 0 2 rfl rfl
        have d3 := S.c 0 3 rfl rfl
        have d4 := S.c 0 4 rfl rfl
        have d5 := S.c 0 5 rfl rfl
        have d6 := S.c 0 6 rfl rfl
        have c0 := S.c 1 0 rfl rfl
        have c1 := S.c 1 1 rfl rfl
        have c2 := S.c 1 2 rfl rfl
        go_wp2_with fail
        (with_reducible refine (rtwithin_any _ _ _ _).mono ?_)
        rintro e w5 ⟨rfl, rfl⟩
        rcases hv6 : wiB xa 0 (n - 1) with _ | _
        · have h9 := wiB_f hv6
          obtain rfl := hbad.out (fun h => by have := h.a; simp only at this; omega)
          go_wp2_with fail
          go_ret
          exact ⟨rfl, S.b⟩
        replace hv6 := Lib.hid (wiB_t hv6)
        go_wp2_with fail
        (with_reducible refine (rtwithin_any _ _ _ _).mono ?_)
        rintro e w5 ⟨rfl, rfl⟩
        rcases hv7 : wiB xb 0 (n - 1) with _ | _
        · have h9 := wiB_f hv7
          obtain rfl := hbad.out (fun h => by have := h.b; simp only at this; omega)
          go_wp2_with fail
          go_ret
          exact ⟨rfl, S.b⟩
        replace hv7 := Lib.hid (wiB_t hv7)
        by_cases hab : xa = xb
        · subst hab
          obtain rfl := hbad.out (fun h => h.ne rfl)
          go_wp2_with fail
          go_ret
          exact ⟨rfl, S.b⟩
        have e1 : (xa == xb) = false := by simp [hab]
        replace hab := Lib.hid hab
        go_wp2_with fail
        clear e1
        (with_reducible refine (rtwithin_any _ _ _ _).mono ?_)
        rintro e w5 ⟨rfl, rfl⟩
        rcases hv1 : wiB xc 1 65535 with _ | _
        · have h9 := wiB_f hv1
          obtain rfl := hbad.out (fun h => by have := h.c; simp only at this; omega)
          go_wp2_with fail
          go_ret
          exact ⟨rfl, S.b⟩
        replace hv1 := Lib.hid (wiB_t hv1)
        go_wp2_with fail
        (with_reducible refine (rtwithin_any _ _ _ _).mono ?_)
        rintro e w5 ⟨rfl, rfl⟩
        rcases hv2 : wiB xd 1 65535 with _ | _
        · have h9 := wiB_f hv2
          obtain rfl := hbad.out (fun h => by have := h.d; simp only at this; omega)
          go_wp2_with fail
          go_ret
          exact ⟨rfl, S.b⟩
        replace hv2 := Lib.hid (wiB_t hv2)
        go_wp2_with fail
        (with_reducible refine (rtwithin_any _ _ _ _).mono ?_)
        rintro e w5 ⟨rfl, rfl⟩
        rcases hv3 : wiB xcap 0 1048576 with _ | _
        · have h9 := wiB_f hv3
          obtain rfl := hbad.out (fun h => by have := h.cap; simp only at this; omega)
          go_wp2_with fail
          go_ret
          exact ⟨rfl, S.b⟩
        replace hv3 := Lib.hid (wiB_t hv3)
        go_wp2_with fail
        (with_reducible refine (rtwithin_any _ _ _ _).mono ?_)
        rintro e w5 ⟨rfl, rfl⟩
        rcases hv4 : wiB xdel 1 65536 with _ | _
        · have h9 := wiB_f hv4
          obtain rfl := hbad.out (fun h => by have := h.del; simp only at this; omega)
          go_wp2_with fail
          go_ret
          exact ⟨rfl, S.b⟩
        replace hv4 := Lib.hid (wiB_t hv4)
        go_wp2_with fail
        (with_reducible refine (rtwithin_any _ _ _ _).mono ?_)
        rintro e w5 ⟨rfl, rfl⟩
        rcases hv5 : wiB xgrp 0 64 with _ | _
        · have h9 := wiB_f hv5
          obtain rfl := hbad.out (fun h => by have := h.grp; simp only at this; omega)
          go_wp2_with fail
          go_ret
          exact ⟨rfl, S.b⟩
        replace hv5 := Lib.hid (wiB_t hv5)
        go_wp2_with fail
        go_round
        case rel => exact ⟨i + 1, by go_num, by omega, hT2.out ⟨by have := hv6.out; simp only; omega, by have := hv7.out; simp only; omega, hab.out, hv1.out, hv2.out, hv3.out, hv4.out, hv5.out⟩, S.keepBoxes _ (by simp)⟩
        case measure => simp [intOf]; omega
      · obtain rfl : i = m := by omega
        obtain rfl := hgo.out true (fun _ x hx => by
          obtain ⟨j, hj, rfl⟩ := List.getElem_of_mem hx
          exact hT.out j hj (by have := hml.out; omega)) (fun h => by cases h)
        have c0 := S.c 0 0 rfl rfl
        have c1 := S.c 0 1 rfl rfl
        have c2 := S.c 0 2 rfl rfl
        go_wp2_with fail
        go_ret
        exact ⟨rfl, S.b⟩

end Go.Proofs.Ytkmpmgojgidcgaa

namespace Go.Proofs.Ytkmpmgojgidcgaa
set_option linter.unusedVariables false
open Go.RowKit Go.Sort

theorem St.set3 {W w : World} {g : Nat} {bs : List (Nat × List Value)} {rs : List (Option Addr × List Value)} {a0 a1 a2 : Value} (S : St W w ((g, [a0, a1, a2]) :: bs) rs) (v0 v1 v2 : Value) (hg : W.heap.size ≤ g) (hd : ∀ x ∈ bs, x.1 ≠ g) :
    St W (((w.setCell ⟨g, 0, none⟩ v0).setCell ⟨g, 1, none⟩ v1).setCell ⟨g, 2, none⟩ v2) ((g, [v0, v1, v2]) :: bs) rs :=
  ((S.set 0 0 v0 rfl (by simp) hg hd _ rfl).set 0 1 v1 rfl (by simp) hg hd _ rfl).set 0 2 v2 rfl (by simp) hg hd _ rfl
theorem own_set3 {w : World} {base : Nat} {e : TypeId} {size : Nat} {v : Value} {n : Nat} {xs : List Value} (h : w.ownsRow base e size v n xs) {g : Nat} (hg : g < base) (u0 u1 u2 : Value) :
    (((w.setCell ⟨g, 0, none⟩ u0).setCell ⟨g, 1, none⟩ u1).setCell ⟨g, 2, none⟩ u2).ownsRow base e size v n xs :=
  ownsRow_setCell_below (a := ⟨g, 2, none⟩) (ownsRow_setCell_below (a := ⟨g, 1, none⟩) (ownsRow_setCell_below (a := ⟨g, 0, none⟩) h hg _) hg _) hg _
/-- A slice of the call's own that is not empty, as a box. -/
theorem own_box {w : World} {base : Nat} {e : TypeId} {size : Nat} {A : Option Addr} {n c : Nat} {xs : List Value} (h : w.ownsRow base e size (.slice A n c) n xs) (hn : 0 < n) : ∃ g, A = some ⟨g, 0, none⟩ ∧ base ≤ g ∧ g < w.heap.size ∧ Box w g xs := by
  have h0 := h
  rcases h.2 with ⟨h2, h3⟩ | ⟨g, cap, cur, h2, hgb, hh, r⟩
  · omega
  · injection h2 with h2 _ h4
    subst h2 h4
    refine ⟨g, rfl, hgb, (h0.lt g rfl).2, fun i u hu => ?_⟩
    have hc := h0.cells (g := g) rfl i u hu
    rw [show (⟨g, 0, none⟩ : Addr).add i = ⟨g, i, none⟩ by unfold Addr.add; split <;> simp_all] at hc
    exact ⟨hc, frozen_of_row w g i cur e hh⟩

def GClPost (w : World) (t : Tp) (e : Ending) (w' : World) : Prop :=
  ∃ A c B d, e = .returned (tpV t.n A t.ov.length c B t.ln.length d) ∧ w'.ownsRow w.heap.size 76 7 (.slice B t.ln.length d) t.ln.length (lksV t.ln) ∧ Below w.heap.size w w'

set_option maxRecDepth 100000 in
set_option maxHeartbeats 3200000 in
theorem gclone_any (w : World) (v : Value) (t : Tp) (h : TpAt w v t) (h1 : t.ov.length ≤ 1000000) (h2 : t.ln.length ≤ 1000000) : Calls Try.prog 47 #[v] w (GClPost w t) := by
  obtain ⟨A, c, B, d, rfl, rA, rB, h3, h4⟩ := h
  have S := ((((St.start w).read rB).read rA).new' #[.int .i64 t.n, .slice A t.ov.length c, .slice B t.ln.length d] 66 w.heap.size _ rfl rfl).new' #[.int .i64 0, .slice none 0 0, .slice none 0 0] 66 (w.heap.size + 1) _ (by simp) rfl
  have C1 := fun W (h : Rd W A (boV t.ov)) => clone_bo W A _ c t.ov h rfl h1
  have C2 := fun W (h : Rd W B (lksV t.ln)) => clone_lk W B _ d t.ln h rfl h2
  unfold ClonePost at C1 C2
  unfold GClPost
  replace C1 := Lib.hid C1
  replace C2 := Lib.hid C2
  clear rA rB h1 h2 h3 h4
  generalize t.ov.length = k at *
  generalize t.ln.length = m at *
  generalize t.n = n at *
  have a0 := S.c 1 0 rfl rfl
  have a1 := S.c 1 1 rfl rfl
  have a2 := S.c 1 2 rfl rfl
  go_enter Try.func47, Try.ntmps47
  go_wp2_with fail
  (with_reducible refine (C1.out _ (S.r 0 rfl)).mono ?_)
  rintro e w1 ⟨A1, c1, rfl, o1, hb⟩
  clear a0 a1 a2 C1
  replace S := S.call hb
  clear hb o1
  have a0 := S.c 1 0 rfl rfl
  have a1 := S.c 1 1 rfl rfl
  have a2 := S.c 1 2 rfl rfl
  have f0 := S.f 1 0 rfl rfl
  have f1 := S.f 1 1 rfl rfl
  have f2 := S.f 1 2 rfl rfl
  have S2 := S.set 1 1 (.slice A1 k c1) rfl (by simp) (Nat.le_refl _) (by simp) _ rfl
  have hsz := S2.b.size
  have hlt := (S2.box 0 rfl).lt (by simp)
  go_wp2_with fail
  generalize w1.setCell ⟨w.heap.size, 1, none⟩ (.slice A1 k c1) = w2 at *
  (with_reducible refine (C2.out _ (S2.r 1 rfl)).mono ?_)
  rintro e w3 ⟨B1, d1, rfl, o2, hb⟩
  clear a0 a1 a2 f0 f1 f2 C2 S
  replace S2 := S2.call hb
  clear hb
  have a0 := S2.c 1 0 rfl rfl
  have a1 := S2.c 1 1 rfl rfl
  have a2 := S2.c 1 2 rfl rfl
  have f0 := S2.f 1 0 rfl rfl
  have f1 := S2.f 1 1 rfl rfl
  have f2 := S2.f 1 2 rfl rfl
  have r0 := S2.c 0 0 rfl rfl
  have r1 := S2.c 0 1 rfl rfl
  have r2 := S2.c 0 2 rfl rfl
  have q0 := S2.f 0 0 rfl rfl
  have q1 := S2.f 0 1 rfl rfl
  have q2 := S2.f 0 2 rfl rfl
  have S9 := (S2.set 1 2 (.slice B1 m d1) rfl (by simp) (Nat.le_refl _) (by simp) _ rfl).set3 (.int .i64 n) (.slice A1 k c1) (.slice B1 m d1) (by omega) (by simp)
  have o4 := own_set3 (ownsRow_setCell_below (a := ⟨w.heap.size, 2, none⟩) o2 (by simp only; omega) (.slice B1 m d1)) (g := w.heap.size + 1) (by omega) (.int .i64 n) (.slice A1 k c1) (.slice B1 m d1)
  have hf := own_mono o4 (base := w.heap.size) (by omega)
  have hb9 := S9.b
  go_wp2_with fail
  exact bodyPost_ret (v := tpV n A1 k c1 B1 m d1) (by simp [results, Try.results47, go_sem, r0, r1, r2]) rfl ⟨_, _, _, _, rfl, hf, hb9⟩

end Go.Proofs.Ytkmpmgojgidcgaa

namespace Go.Proofs.Ytkmpmgojgidcgaa
set_option linter.unusedVariables false
open Go.RowKit Go.Maps Go.Sort

/-- The cost of an adjacency, if it is there. -/
def cstL : List Ad → Int → Int → Option Int
  | [], _, _ => none
  | x :: l, tn, lk => if x.2.1 = lk ∧ x.1 = tn then some x.2.2 else cstL l tn lk
def vX (N : Db) (i : Int) : La := getX (getO N i)
def CostPost (w : World) (r : Option Int) (e : Ending) (w' : World) : Prop := e = .returned (.tuple #[.int .i64 (r.getD 0), .bool r.isSome]) ∧ Below w.heap.size w w'
/-- What is read for a number, in every later world. -/
theorem DbAt.look {w : World} {g b : Nat} {N : Db} (h : DbAt w g b N) (hf : Few33 N) (i : Int) (hi : (Lit.int .i64 i).wf = true) :
    ∃ A c B d l, (∀ w', Below w.heap.size w w' → (Instr.lookup 81 (.map (some b)) (.int .i64 i) false).run Try.prog w' = .ok (hdV (vX N i) A c B d l) w') ∧ LaAt w (laV (vX N i).o (vX N i).s (vX N i).a (vX N i).ov A (vX N i).adj.length c B (vX N i).pre.length d) (vX N i) := by
  obtain ⟨M, hm, hs, ⟨A, c, B, d, l, hv, hl⟩, _⟩ := elem_form h hf i
  refine ⟨A, c, B, d, l, fun w' hb => ?_, hl⟩
  have := (hm.below hb).run_at hi
  rw [hv] at this
  exact this
theorem cstL_drop {l : List Ad} {k : Nat} (hk : k < l.length) (tn lk : Int) : cstL (l.drop k) tn lk = if l[k].2.1 = lk ∧ l[k].1 = tn then some l[k].2.2 else cstL (l.drop (k + 1)) tn lk := by
  rw [List.drop_eq_getElem_cons hk]; rfl

theorem la_field4 (o s a : Int) (ov : Bool) (A : Option Addr) (n c : Nat) (B : Option Addr) (m d : Nat) (W : World) : (Instr.field 30 (laV o s a ov A n c B m d) 4).run Try.prog W = .ok (.slice A n c) W := by kernel_rfl
theorem la_field3 (o s a : Int) (ov : Bool) (A : Option Addr) (n c : Nat) (B : Option Addr) (m d : Nat) (W : World) : (Instr.field 30 (laV o s a ov A n c B m d) 3).run Try.prog W = .ok (.bool ov) W := by kernel_rfl

set_option maxRecDepth 100000 in
set_option maxHeartbeats 3200000 in
theorem dcost_any (w : World) (g b : Nat) (N : Db) (node tn lk : Int) (h : DbAt w g b N) (hf : Few33 N) (hi : (Lit.int .i64 node).wf = true) :
    Calls Try.prog 49 #[.pointer (some ⟨g, 0, none⟩), .int .i64 node, .int .i64 tn, .int .i64 lk] w (CostPost w (cstL (vX N node).adj tn lk)) := by
  obtain ⟨A, c, B, d, l, L, la⟩ := h.look hf node hi
  have K := L w (Below.refl _ _)
  have FL := hd_field (vX N node) A c B d l
  have c0 := h.cell
  unfold hdV at K FL
  obtain ⟨x, hx⟩ : ∃ x, vX N node = x := ⟨_, rfl⟩
  rw [hx] at K FL la ⊢
  have rA : Rd w A (adV x.adj) := by
    obtain ⟨A', c', B', d', e, h1, _⟩ := la
    simp only [laV, Value.agg.injEq, Array.mk.injEq, List.cons.injEq, Value.slice.injEq] at e
    obtain ⟨-, -, -, -, ⟨rfl, -, -⟩, -⟩ := e
    exact h1
  have hlen : x.adj.length ≤ maxLen := by
    obtain ⟨A', c', B', d', e, h1, h2, h3, h4, _⟩ := la
    exact Nat.le_trans h3 h4
  unfold maxLen at hlen
  have S := (St.start w).read rA
  clear L la rA hx h hi
  obtain ⟨al, hal⟩ : ∃ al, x.adj = al := ⟨_, rfl⟩
  rw [hal] at S K FL hlen ⊢
  obtain ⟨n, hn⟩ : ∃ n, al.length = n := ⟨_, rfl⟩
  rw [hn] at K FL hlen
  replace hn := Lib.hid hn
  clear hal
  obtain ⟨r, hr⟩ : ∃ r, cstL al tn lk = r := ⟨_, rfl⟩
  rw [hr]
  have hr0 : Hid (cstL (al.drop 0) tn lk = r) := hr
  clear hr
  unfold CostPost
  have FL4 := la_field4 x.o x.s x.a x.ov A n c B x.pre.length d
  go_enter Try.func49, Try.ntmps49
  go_wp2_with fail
  clear K FL FL4 c0
  go_loopw [21] (fun v21 wr => ∃ k : Nat, v21 = .int .i64 k ∧ k ≤ n ∧ Hid (cstL (al.drop k) tn lk = r) ∧ St w wr [] [(A, adV al)]) (fun v21 _ => n - (intOf v21).toNat)
  case atStart => exact ⟨0, rfl, by omega, hr0, S⟩
  case round =>
    clear S hr0
    obtain ⟨k, rfl, hk, hr, S⟩ := hrel
    by_cases hkn : k < n
    · have hkl : k < al.length := by have := hn.out; omega
      obtain ⟨ba, off, rfl, hc⟩ := rd_ad (S.r 0 rfl) (by omega)
      obtain ⟨x0, x1, x2⟩ := hc k hkl
      have hd : cstL (al.drop k) tn lk = _ := cstL_drop hkl tn lk
      rw [hr.out] at hd
      generalize al[k] = y at *
      obtain ⟨p0, p1, p2⟩ := y
      simp only at x0 x1 x2 hd
      replace hd := Lib.hid hd
      clear hc hr
      go_upto_region 4 with fail
      replace S := S.new' #[.int .i64 p0, .int .i64 p1, .int .i64 p2] 61 wr.heap.size _ rfl rfl
      clear x0 x1 x2
      generalize World.alloc wr _ = w4 at *
      generalize wr.heap.size = g4 at *
      have d0 := S.c 0 0 rfl rfl
      have d1 := S.c 0 1 rfl rfl
      have d2 := S.c 0 2 rfl rfl
      by_cases e1 : p1 = lk
      · by_cases e2 : p0 = tn
        · have e3 := hd.out
          rw [if_pos ⟨e1, e2⟩] at e3
          subst e3 e1 e2
          clear hd
          go_wp2_with fail
          go_ret2
          exact ⟨rfl, S.b⟩
        · have e3 : Hid (cstL (al.drop (k + 1)) tn lk = r) := by
            have := hd.out
            rw [if_neg (fun h => e2 h.2)] at this
            exact this.symm
          subst e1
          go_wp2_with fail
          go_round
          case rel => exact ⟨k + 1, by go_num, by omega, e3, S.keepBoxes _ (by simp)⟩
          case measure => simp [intOf]; omega
      · have e3 : Hid (cstL (al.drop (k + 1)) tn lk = r) := by
          have := hd.out
          rw [if_neg (fun h => e1 h.1)] at this
          exact this.symm
        go_wp2_with fail
        go_round
        case rel => exact ⟨k + 1, by go_num, by omega, e3, S.keepBoxes _ (by simp)⟩
        case measure => simp [intOf]; omega
    · obtain rfl : k = n := by omega
      have e3 := hr.out
      rw [List.drop_of_length_le (by have := hn.out; omega)] at e3
      subst e3
      go_wp2_with fail
      go_ret2
      exact ⟨rfl, S.b⟩

end Go.Proofs.Ytkmpmgojgidcgaa

namespace Go.Proofs.Ytkmpmgojgidcgaa
set_option linter.unusedVariables false
open Go.RowKit Go.Maps Go.Sort

def cA (N : Db) (i : Nat) (x : Lk) : Option Int := cstL (vX N x.a).adj x.b (i : Int)
def cB (N : Db) (i : Nat) (x : Lk) : Option Int := cstL (vX N x.b).adj x.a (i : Int)
def upL (N : Db) (i : Nat) (x : Lk) : Lk := if (cA N i x).isSome && (cB N i x).isSome then { x with c := (cA N i x).getD 0, d := (cB N i x).getD 0 } else x
def dnB (N : Db) (i : Nat) (x : Lk) : Bool := !((cA N i x).isSome && (cB N i x).isSome)
def vwL (N : Db) : Nat → List Lk → List Lk
  | _, [] => []
  | i, x :: l => upL N i x :: vwL N (i + 1) l
def vwD (N : Db) : Nat → List Lk → List Bool
  | _, [] => []
  | i, x :: l => dnB N i x :: dnB N i x :: vwD N (i + 1) l
def vwO (N : Db) (n : Nat) : List Bool := (List.range n).map fun (i : Nat) => (vX N (i : Int)).ov
/-- The view. -/
def vwT (N : Db) (t : Tp) : Tp := ⟨t.n, vwO N t.n.toNat, vwL N 0 t.ln⟩
section
variable (N : Db)
theorem vwL_len (l : List Lk) : ∀ i, (vwL N i l).length = l.length := by
  induction l with
  | nil => intro i; rfl
  | cons x l ih => intro i; simp only [vwL, List.length_cons, ih]
theorem vwD_len (l : List Lk) : ∀ i, (vwD N i l).length = 2 * l.length := by
  induction l with
  | nil => intro i; rfl
  | cons x l ih => intro i; simp only [vwD, List.length_cons, ih]; omega
theorem vwO_len (n : Nat) : (vwO N n).length = n := by simp [vwO]
theorem vwO_succ (n : Nat) : vwO N (n + 1) = vwO N n ++ [(vX N (n : Int)).ov] := by simp [vwO, List.range_succ]
theorem vwL_app (x : Lk) (l : List Lk) : ∀ i, vwL N i (l ++ [x]) = vwL N i l ++ [upL N (i + l.length) x] := by
  induction l with
  | nil => intro i; rfl
  | cons y l ih => intro i; simp only [List.cons_append, vwL, ih, List.length_cons]; rw [show i + 1 + l.length = i + (l.length + 1) by omega]
theorem vwD_app (x : Lk) (l : List Lk) : ∀ i, vwD N i (l ++ [x]) = vwD N i l ++ [dnB N (i + l.length) x, dnB N (i + l.length) x] := by
  induction l with
  | nil => intro i; rfl
  | cons y l ih => intro i; simp only [List.cons_append, vwD, ih, List.length_cons]; rw [show i + 1 + l.length = i + (l.length + 1) by omega]
theorem vwL_get (l : List Lk) : ∀ (i k : Nat) (hk : k < l.length), (vwL N i l)[k]'(by rw [vwL_len]; exact hk) = upL N (i + k) l[k] := by
  induction l with
  | nil => intro i k hk; simp at hk
  | cons y l ih =>
    intro i k hk
    cases k with
    | zero => rfl
    | succ k =>
      simp only [vwL, List.getElem_cons_succ]
      rw [ih (i + 1) k (by simpa using hk), show i + 1 + k = i + (k + 1) by omega]
theorem vwD_get (l : List Lk) : ∀ (i k : Nat) (hk : k < l.length), (vwD N i l)[2 * k]'(by rw [vwD_len]; omega) = dnB N (i + k) l[k] ∧ (vwD N i l)[2 * k + 1]'(by rw [vwD_len]; omega) = dnB N (i + k) l[k] := by
  induction l with
  | nil => intro i k hk; simp at hk
  | cons y l ih =>
    intro i k hk
    cases k with
    | zero => exact ⟨rfl, rfl⟩
    | succ k =>
      have h := ih (i + 1) k (by simpa using hk)
      rw [show i + 1 + k = i + (k + 1) by omega] at h
      exact h
/-- Within the loops. -/
def stO (n k : Nat) : List Bool := vwO N k ++ List.replicate (n - k) false
def stL (l : List Lk) (k : Nat) : List Lk := vwL N 0 (l.take k) ++ l.drop k
def stD (l : List Lk) (k : Nat) : List Bool := vwD N 0 (l.take k) ++ List.replicate (2 * (l.length - k)) false
theorem stO_zero (n : Nat) : stO N n 0 = List.replicate n false := by simp [stO, vwO]
theorem stO_end (n : Nat) : stO N n n = vwO N n := by simp [stO]
theorem stL_zero (l : List Lk) : stL N l 0 = l := by simp [stL, vwL]
theorem stL_end (l : List Lk) : stL N l l.length = vwL N 0 l := by simp [stL]
theorem stD_zero (l : List Lk) : stD N l 0 = List.replicate (2 * l.length) false := by simp [stD, vwD]
theorem stD_end (l : List Lk) : stD N l l.length = vwD N 0 l := by simp [stD]
theorem stO_len {n k : Nat} (hk : k ≤ n) : (stO N n k).length = n := by simp [stO, vwO_len]; omega
theorem stL_len (l : List Lk) {k : Nat} (hk : k ≤ l.length) : (stL N l k).length = l.length := by simp [stL, vwL_len]; omega
theorem stD_len (l : List Lk) {k : Nat} (hk : k ≤ l.length) : (stD N l k).length = 2 * l.length := by simp [stD, vwD_len]; omega
theorem boV_set (P Q : List Bool) (a u : Bool) : (boV (P ++ a :: Q)).set P.length (.bool u) = boV (P ++ u :: Q) := by
  simp [boV]
theorem stO_next {n k : Nat} (hk : k < n) : (boV (stO N n k)).set k (.bool (vX N (k : Int)).ov) = boV (stO N n (k + 1)) := by
  have e : stO N n k = vwO N k ++ false :: List.replicate (n - (k + 1)) false := by
    unfold stO
    rw [show n - k = (n - (k + 1)) + 1 by omega, List.replicate_succ]
  rw [e]
  have h := boV_set (vwO N k) (List.replicate (n - (k + 1)) false) false (vX N (k : Int)).ov
  rw [vwO_len] at h
  rw [h]
  unfold stO
  rw [vwO_succ]
  simp
theorem stL_at (l : List Lk) {k : Nat} (hk : k < l.length) : stL N l k = vwL N 0 (l.take k) ++ l[k] :: l.drop (k + 1) := by
  unfold stL
  rw [List.drop_eq_getElem_cons hk]
theorem stL_succ (l : List Lk) {k : Nat} (hk : k < l.length) : stL N l (k + 1) = vwL N 0 (l.take k) ++ upL N k l[k] :: l.drop (k + 1) := by
  unfold stL
  rw [List.take_succ_eq_append_getElem hk, vwL_app]
  simp only [List.length_take, Nat.zero_add, Nat.min_eq_left (Nat.le_of_lt hk), List.append_assoc, List.singleton_append]
theorem stL_same (l : List Lk) {k : Nat} (hk : k < l.length) (h : upL N k l[k] = l[k]) : stL N l (k + 1) = stL N l k := by
  rw [stL_succ N l hk, stL_at N l hk, h]
theorem lks_set (P Q : List Lk) (x y : Lk) (j : Nat) (hj : j < 7) (v : Value) (h : (lkL x).set j v = lkL y) : (lksV (P ++ x :: Q)).set (P.length * 7 + j) v = lksV (P ++ y :: Q) := by
  rw [lksV_append, lksV_append]
  simp only [lksV]
  rw [List.set_append_right _ _ (by rw [lksV_len]; omega), lksV_len, show P.length * 7 + j - P.length * 7 = j by omega, List.set_append_left _ _ (by exact hj), h]
theorem stL_set (l : List Lk) {k : Nat} (hk : k < l.length) (p q : Int) (hu : upL N k l[k] = { l[k] with c := p, d := q }) :
    ((lksV (stL N l k)).set (k * 7 + 2) (.int .i64 p)).set (k * 7 + 3) (.int .i64 q) = lksV (stL N l (k + 1)) := by
  have hl : (vwL N 0 (l.take k)).length = k := by rw [vwL_len, List.length_take]; omega
  rw [stL_succ N l hk, stL_at N l hk, hu]
  have h1 := lks_set (vwL N 0 (l.take k)) (l.drop (k + 1)) l[k] { l[k] with c := p } 2 (by omega) (.int .i64 p) rfl
  have h2 := lks_set (vwL N 0 (l.take k)) (l.drop (k + 1)) { l[k] with c := p } { l[k] with c := p, d := q } 3 (by omega) (.int .i64 q) rfl
  rw [hl] at h1 h2
  rw [h1, h2]
theorem stD_at (l : List Lk) {k : Nat} (hk : k < l.length) : stD N l k = vwD N 0 (l.take k) ++ false :: false :: List.replicate (2 * (l.length - (k + 1))) false := by
  unfold stD
  rw [show 2 * (l.length - k) = (2 * (l.length - (k + 1)) + 1) + 1 by omega, List.replicate_succ, List.replicate_succ]
theorem stD_succ (l : List Lk) {k : Nat} (hk : k < l.length) : stD N l (k + 1) = vwD N 0 (l.take k) ++ dnB N k l[k] :: dnB N k l[k] :: List.replicate (2 * (l.length - (k + 1))) false := by
  unfold stD
  rw [List.take_succ_eq_append_getElem hk, vwD_app]
  simp only [List.length_take, Nat.zero_add, Nat.min_eq_left (Nat.le_of_lt hk), List.append_assoc, List.cons_append, List.nil_append]
theorem stD_same (l : List Lk) {k : Nat} (hk : k < l.length) (h : dnB N k l[k] = false) : stD N l (k + 1) = stD N l k := by
  rw [stD_succ N l hk, stD_at N l hk, h]
theorem stD_set (l : List Lk) {k : Nat} (hk : k < l.length) (h : dnB N k l[k] = true) : ((boV (stD N l k)).set (2 * k) (.bool true)).set (2 * k + 1) (.bool true) = boV (stD N l (k + 1)) := by
  have hl : (vwD N 0 (l.take k)).length = 2 * k := by rw [vwD_len, List.length_take]; omega
  rw [stD_succ N l hk, stD_at N l hk, h]
  have h1 := boV_set (vwD N 0 (l.take k)) (false :: List.replicate (2 * (l.length - (k + 1))) false) false true
  have h2 := boV_set (vwD N 0 (l.take k) ++ [true]) (List.replicate (2 * (l.length - (k + 1))) false) false true
  rw [hl] at h1
  rw [List.length_append, hl] at h2
  simp only [List.append_assoc, List.singleton_append, List.length_singleton] at h2
  rw [h1, h2]
end
/-- A slice of the call's own that may be empty: a block that holds it. -/
theorem own_box0 {w : World} {base g0 : Nat} {e : TypeId} {size : Nat} {A : Option Addr} {n c : Nat} {xs : List Value} (h : w.ownsRow base e size (.slice A n c) n xs) (h0 : g0 < w.heap.size) (hs : 0 < size) : ∃ g, (0 < n → A = some ⟨g, 0, none⟩ ∧ base ≤ g) ∧ (g = g0 ∨ base ≤ g) ∧ g < w.heap.size ∧ Box w g xs := by
  rcases Nat.eq_zero_or_pos n with hn | hn
  · refine ⟨g0, fun h => by omega, .inl rfl, h0, ?_⟩
    have hl := h.1
    rw [hn, Nat.zero_mul] at hl
    obtain rfl : xs = [] := List.eq_nil_of_length_eq_zero hl
    intro i u hu
    simp at hu
  · obtain ⟨g, h1, h2, h3, h4⟩ := own_box h hn
    exact ⟨g, fun _ => ⟨h1, h2⟩, .inr h2, h3, h4⟩

end Go.Proofs.Ytkmpmgojgidcgaa

namespace Go.Proofs.Ytkmpmgojgidcgaa
set_option linter.unusedVariables false
open Go.RowKit Go.Maps Go.Sort

theorem St.addBox {W w : World} {bs : List (Nat × List Value)} {rs : List (Option Addr × List Value)} {g : Nat} {cs : List Value} (S : St W w bs rs) (h : Box w g cs) : St W w ((g, cs) :: bs) rs :=
  ⟨S.b, fun i x hx => by
    cases i with
    | zero => simp at hx; subst hx; exact h
    | succ i => exact S.bx i x (by simpa using hx), S.rd⟩
theorem Box.rd {w : World} {g : Nat} {cs : List Value} (h : Box w g cs) : Rd w (some ⟨g, 0, none⟩) cs := fun _ => ⟨_, rfl, fun j u hu => by
  rw [show (⟨g, 0, none⟩ : Addr).add j = ⟨g, j, none⟩ by unfold Addr.add; split <;> simp_all]
  exact (h j u hu).1⟩
def ViewPost (w : World) (N : Db) (t : Tp) (e : Ending) (w' : World) : Prop :=
  ∃ v D c, e = .returned (.tuple #[v, .slice D (2 * t.ln.length) c, .int .i64 0]) ∧ TpAt w' v (vwT N t) ∧ Rd w' D (boV (vwD N 0 t.ln)) ∧ Below w.heap.size w w'
def ViewNo (w : World) (e : Ending) (w' : World) : Prop :=
  e = .returned (.tuple #[tpV 0 none 0 0 none 0 0, .slice none 0 0, .int .i64 1]) ∧ Below w.heap.size w w'

set_option maxRecDepth 100000 in
set_option maxHeartbeats 6400000 in
theorem dview_no (w : World) (g b : Nat) (N : Db) (v : Value) (t : Tp) (h : DbAt w g b N) (ht : TpAt w v t) (hno : tB t = false) : Calls Try.prog 27 #[.pointer (some ⟨g, 0, none⟩), v] w (ViewNo w) := by
  obtain ⟨A, c, B, d, rfl, rA, rB, h3, h4⟩ := id ht
  have S := ((St.start w).new' #[.int .i64 t.n, .slice A t.ov.length c, .slice B t.ln.length d] 66 w.heap.size _ rfl rfl).new' #[.int .i64 0, .slice none 0 0, .slice none 0 0] 66 (w.heap.size + 1) _ (by simp) rfl
  have TV := tvalid_any _ _ t (ht.below S.b)
  rw [hno] at TV
  unfold ViewNo
  replace TV := Lib.hid TV
  clear rA rB h h3 h4 ht hno
  generalize t.ov.length = k at *
  generalize t.ln.length = m at *
  generalize t.n = n at *
  have a0 := S.c 1 0 rfl rfl
  have a1 := S.c 1 1 rfl rfl
  have a2 := S.c 1 2 rfl rfl
  go_enter Try.func27, Try.ntmps27
  go_wp2_with fail
  (with_reducible refine (TV.out).mono ?_)
  rintro e w1 ⟨rfl, hb⟩
  clear a0 a1 a2
  clear TV
  replace S := S.call hb
  clear hb
  have r0 := S.c 0 0 rfl rfl
  have r1 := S.c 0 1 rfl rfl
  have r2 := S.c 0 2 rfl rfl
  have f0 := S.f 0 0 rfl rfl
  have f1 := S.f 0 1 rfl rfl
  have f2 := S.f 0 2 rfl rfl
  have S9 := S.set3 (.int .i64 0) (.slice none 0 0) (.slice none 0 0) (by simp) (by simp)
  have hb9 := S9.b
  go_wp2_with fail
  exact bodyPost_ret (v := .tuple #[tpV 0 none 0 0 none 0 0, .slice none 0 0, .int .i64 1]) (by simp [results, Try.results27, go_sem, r0, r1, r2]) rfl ⟨rfl, hb9⟩

set_option maxRecDepth 100000 in
set_option maxHeartbeats 12800000 in
theorem dview_any (w : World) (g b : Nat) (N : Db) (v : Value) (t : Tp) (h : DbAt w g b N) (hf : Few33 N) (ht : TpAt w v t) (hok : TpOk t) : Calls Try.prog 27 #[.pointer (some ⟨g, 0, none⟩), v] w (ViewPost w N t) := by
  obtain ⟨A, c, B, d, rfl, rA, rB, h3, h4⟩ := id ht
  have S := ((St.start w).new' #[.int .i64 t.n, .slice A t.ov.length c, .slice B t.ln.length d] 66 w.heap.size _ rfl rfl).new' #[.int .i64 0, .slice none 0 0, .slice none 0 0] 66 (w.heap.size + 1) _ (by simp) rfl
  have TV := tvalid_any _ _ t (ht.below S.b)
  rw [tB_t hok] at TV
  have hk64 : t.ov.length ≤ 64 := by have := hok.ov; have := hok.n; omega
  have GC := fun W hb => gclone_any W _ t (ht.below hb) (by omega) (by have := hok.ln; omega)
  unfold GClPost at GC
  have hln := hok.ln
  obtain ⟨q, hq⟩ : ∃ q : Nat, t.n = (q : Int) := ⟨t.n.toNat, by have := hok.n; omega⟩
  have hq64 : 1 ≤ q ∧ q ≤ 64 := by have := hok.n; omega
  have hlk : Hid (∀ x ∈ t.ln, LkOk (q : Int) x) := by have := hok.all; rw [hq] at this; exact this
  obtain ⟨l, hl⟩ : ∃ l, t.ln = l := ⟨_, rfl⟩
  have hfin : Hid (∀ w' A' c' B' d' D c3, Rd w' A' (boV (vwO N q)) → Rd w' B' (lksV (vwL N 0 l)) → Rd w' D (boV (vwD N 0 l)) → Below w.heap.size w w' → ViewPost w N t (.returned (.tuple #[tpV (q : Int) A' q c' B' l.length d', .slice D (2 * l.length) c3, .int .i64 0])) w') := fun w' A' c' B' d' D c3 r1 r2 r3 hb => by
    refine ⟨_, D, c3, by rw [hl], ⟨A', c', B', d', ?_, ?_, ?_, ?_, ?_⟩, by rw [hl]; exact r3, hb⟩
    · simp only [vwT, vwO_len, vwL_len, hq, Int.toNat_natCast, hl]
    · simp only [vwT, hq, Int.toNat_natCast]; exact r1
    · simp only [vwT, hl]; exact r2
    · simp only [vwT, hq, Int.toNat_natCast, vwO_len, maxLen]; omega
    · simp only [vwT, vwL_len, maxLen]; omega
  obtain ⟨m, hm⟩ : ∃ m, l.length = m := ⟨_, rfl⟩
  rw [hq, hl, hm] at S TV GC
  rw [hl, hm] at hln
  rw [hm] at hfin
  rw [hl] at hlk
  simp only [hq, hl, hm]
  have L := fun i => h.look hf i
  have hc := h.cell
  have dat := Lib.hid h
  have hgl := h.lt
  replace L := Lib.hid L
  replace hm := Lib.hid hm
  replace TV := Lib.hid TV
  replace GC := Lib.hid GC
  clear rA rB h h3 h4 ht hok hq hl
  generalize t.ov.length = k at *
  obtain ⟨l0, hl0⟩ : ∃ z, ViewPost w N t = z := ⟨_, rfl⟩
  rw [hl0] at hfin ⊢
  clear hl0
  have a0 := S.c 1 0 rfl rfl
  have a1 := S.c 1 1 rfl rfl
  have a2 := S.c 1 2 rfl rfl
  go_enter Try.func27, Try.ntmps27
  go_wp2_with fail
  (with_reducible refine (TV.out).mono ?_)
  rintro e w1 ⟨rfl, hb⟩
  clear a0 a1 a2
  clear TV
  replace S := S.call hb
  clear hb
  have a0 := S.c 1 0 rfl rfl
  have a1 := S.c 1 1 rfl rfl
  have a2 := S.c 1 2 rfl rfl
  go_wp2_with fail
  (with_reducible refine (GC.out _ S.b).mono ?_)
  rintro e w2 ⟨A1, c1, B1, d1, rfl, o1, hb⟩
  clear a0 a1 a2
  clear GC
  have hs1 := S.b.size
  have hs2 := hb.size
  have hlt0 := S.box 0 rfl
  have hlt1 : w.heap.size + 1 < w1.heap.size := (S.box 0 rfl).lt (by simp)
  clear hlt0
  replace S := S.call hb
  clear hb
  go_upto_region 6 with fail
  obtain ⟨gB, hBe, hBo, hBl, bxB⟩ := own_box0 (g0 := w.heap.size) o1 (by omega) (by omega)
  replace S := (S.addBox bxB).new' #[.int .i64 (q : Int), .slice A1 k c1, .slice B1 m d1] 66 w2.heap.size _ rfl rfl
  clear o1 bxB
  generalize hw3 : World.alloc w2 _ = w3 at *
  have hs3 : w2.heap.size < w3.heap.size := by rw [← hw3]; simp
  clear hw3
  generalize w2.heap.size = g7 at *
  replace hBe := Lib.hid hBe
  have MK := fun W => run_make1 (P := Try.prog) boT rfl .i64 .i64 q q (Nat.le_refl _) (by omega) (by omega) W
  have a0 := S.c 3 0 rfl rfl
  have a1 := S.c 3 1 rfl rfl
  have a2 := S.c 3 2 rfl rfl
  have r0 := S.c 0 0 rfl rfl
  have r1 := S.c 0 1 rfl rfl
  have r2 := S.c 0 2 rfl rfl
  have f0 := S.f 0 0 rfl rfl
  have f1 := S.f 0 1 rfl rfl
  have f2 := S.f 0 2 rfl rfl
  have S2 := ((S.set 0 1 (.slice (some ⟨w3.heap.size, 0, none⟩) q q) rfl (by simp) (by omega) (by simp; omega) _ rfl).new' (zeroRow (.bool false) q) 4 w3.heap.size (boV (stO N q 0)) (by simp) (by rw [stO_zero]; simp [zeroRow, boV])).keepBoxes [(w3.heap.size, boV (stO N q 0)), (g7, [.int .i64 (q : Int), .slice (some ⟨w3.heap.size, 0, none⟩) q q, .slice B1 m d1]), (gB, lksV l), (w.heap.size + 1, [.int .i64 0, .slice none 0 0, .slice none 0 0]), (w.heap.size, [.int .i64 (q : Int), .slice A k c, .slice B m d])] (by simp)
  go_upto_region 7 with fail
  clear S MK
  clear a0 a1 a2
  clear r0 r1 r2
  clear f0 f1 f2
  generalize World.alloc (World.setCell w3 _ _) _ = w4 at *
  generalize w3.heap.size = gO at *
  have r0 := S2.c 1 0 rfl rfl
  have r1 := S2.c 1 1 rfl rfl
  have r2 := S2.c 1 2 rfl rfl
  go_wp2_with fail
  clear r0 r1 r2
  go_loopw [32] (fun v32 wr => ∃ i : Nat, v32 = .int .i64 i ∧ i ≤ q ∧ St w wr [(gO, boV (stO N q i)), (g7, [.int .i64 (q : Int), .slice (some ⟨gO, 0, none⟩) q q, .slice B1 m d1]), (gB, lksV l), (w.heap.size + 1, [.int .i64 0, .slice none 0 0, .slice none 0 0]), (w.heap.size, [.int .i64 (q : Int), .slice A k c, .slice B m d])] []) (fun v32 _ => q - (intOf v32).toNat)
  case atStart => exact ⟨0, rfl, by omega, S2⟩
  case round =>
    clear S2
    obtain ⟨i, rfl, hi, S⟩ := hrel
    by_cases hiq : i < q
    · obtain ⟨A9, c9, B9, d9, l9, L9, -⟩ := L.out (i : Int) (wf64 (by omega) (by omega))
      have hu := hd_field (vX N (i : Int)) A9 c9 B9 d9 l9
      have hv := fun W => la_field3 (vX N (i : Int)).o (vX N (i : Int)).s (vX N (i : Int)).a (vX N (i : Int)).ov A9 (vX N (i : Int)).adj.length c9 B9 (vX N (i : Int)).pre.length d9 W
      have hst := stO_next N hiq
      have c0 := cell_later S.b hc
      have LK := L9 _ S.b.drew
      have c0' : wr.drew.cell? ⟨g, 0, none⟩ = some (.map (some b)) := c0
      have hlen : (stO N q i).length = q := stO_len N hi
      have hcO : ∃ u, wr.cell? ⟨gO, i, none⟩ = some u := ⟨_, S.c 0 i rfl (List.getElem?_eq_getElem (by rw [boV_len]; omega))⟩
      obtain ⟨u, hcO⟩ := hcO
      have hfO := S.f 0 i rfl (List.getElem?_eq_getElem (by rw [boV_len]; omega))
      unfold hdV at LK hu
      generalize hx : vX N (i : Int) = x at *
      clear L9
      have T := S.drew
      have S3 := (S.set 0 i (.bool x.ov) rfl (by rw [boV_len]; omega) (by omega) (by simp; omega) [(gO, boV (stO N q (i + 1))), (g7, [.int .i64 (q : Int), .slice (some ⟨gO, 0, none⟩) q q, .slice B1 m d1]), (gB, lksV l), (w.heap.size + 1, [.int .i64 0, .slice none 0 0, .slice none 0 0]), (w.heap.size, [.int .i64 (q : Int), .slice A k c, .slice B m d])] (by rw [← hst]; rfl)).drew
      clear S
      have r0 := T.c 1 0 rfl rfl
      have r1 := T.c 1 1 rfl rfl
      have r2 := T.c 1 2 rfl rfl
      go_upto_region 10 with fail
      go_region_law (fail)
      all_goals clear T hst LK hv hu r0 r1 r2
      all_goals (first | (refine ⟨⟨i + 1, by go_num, by omega, S3⟩, ?_⟩; simp [intOf]; omega) | (generalize World.drew (World.setCell _ _ _) = w6 at *; go_wp2_with fail; go_round; all_goals (first | exact ⟨i + 1, by go_num, by omega, S3⟩ | (simp [intOf]; omega))))
    · obtain rfl : i = q := by omega
      rw [stO_end] at S
      have AR := fun W => arcs_any (i : Int) (.slice A k c) B m d W (by omega)
      have MK : ∀ W : World, (Instr.makeSlice 63 (.int .i64 (2 * (m : Int))) (.int .i64 (2 * (m : Int)))).run Try.prog W = .ok (.slice (some ⟨W.heap.size, 0, none⟩) (2 * m) (2 * m)) (W.alloc (.cells (zeroRow (.bool false) (2 * m)) 4)) := fun W => by
        have := run_make1 (P := Try.prog) boT rfl .i64 .i64 (2 * m) (2 * m) (Nat.le_refl _) (by omega) (by omega) W
        rw [Int.natCast_mul] at this
        exact this
      replace AR := Lib.hid AR
      have a0 := S.c 4 0 rfl rfl
      have a1 := S.c 4 1 rfl rfl
      have a2 := S.c 4 2 rfl rfl
      go_wp2_with fail
      (with_reducible refine (AR.out _).mono ?_)
      rintro e w7 ⟨rfl, hb⟩
      clear a0 a1 a2
      clear AR
      replace S := S.call hb
      clear hb
      have hOl := (S.box 0 rfl).lt (by rw [boV_len, vwO_len]; omega)
      replace S := S.new' (zeroRow (.bool false) (2 * m)) 4 w7.heap.size (boV (stD N l 0)) rfl (by rw [stD_zero, hm.out]; simp [zeroRow, boV])
      rw [← stL_zero N l] at S
      have e0 : stD N (stL N l 0) 0 = stD N l 0 := by rw [stL_zero]
      rw [e0] at S
      clear e0
      go_upto_region 13 with fail
      generalize World.alloc w7 _ = w8 at *
      generalize w7.heap.size = gD at *
      have r0 := S.c 2 0 rfl rfl
      have r1 := S.c 2 1 rfl rfl
      have r2 := S.c 2 2 rfl rfl
      go_wp2_with fail
      clear r0 r1 r2
      clear MK
      go_loopw [54] (fun v54 wr => ∃ j : Nat, v54 = .int .i64 j ∧ j ≤ m ∧ St w wr [(gD, boV (stD N l j)), (gO, boV (vwO N i)), (g7, [.int .i64 (i : Int), .slice (some ⟨gO, 0, none⟩) i i, .slice B1 m d1]), (gB, lksV (stL N l j)), (w.heap.size + 1, [.int .i64 0, .slice none 0 0, .slice none 0 0]), (w.heap.size, [.int .i64 (i : Int), .slice A k c, .slice B m d])] []) (fun v54 _ => m - (intOf v54).toNat)
      case atStart => exact ⟨0, rfl, by omega, S⟩
      case round =>
        clear S
        obtain ⟨j, rfl, hj, S⟩ := hrel
        by_cases hjm : j < m
        · have hjl : j < l.length := by have := hm.out; omega
          obtain ⟨hB1, hBb⟩ := hBe.out (by omega)
          subst hB1
          have hk := hlk.out l[j] (List.getElem_mem hjl)
          have hat := stL_at N l hjl
          have hset := stL_set N l hjl
          have hsame := stL_same N l hjl
          have dset := stD_set N l hjl
          have dsame := stD_same N l hjl
          have hvl : (vwL N 0 (l.take j)).length = j := by rw [vwL_len, List.length_take]; omega
          have hcell : ∀ (q : Nat) (hq : q < 7) (u : Value), (lkL l[j])[q]? = some u → (lksV (stL N l j))[7 * j + q]? = some u := fun q hq u hu => by
            have hlen : j < (stL N l j).length := by rw [stL_len N l (by omega)]; exact hjl
            rw [lksV_get _ j hlen q hq]
            have e : (stL N l j)[j] = l[j] := by
              have : (stL N l j)[j]? = some l[j] := by rw [hat, List.getElem?_append_right (by omega), hvl]; simp
              rw [List.getElem?_eq_getElem hlen] at this
              exact Option.some.inj this
            rw [e]; exact hu
          have hdl : (stD N l j).length = 2 * m := by rw [stD_len N l (by omega), hm.out]
          have hll : (lksV (stL N l j)).length = m * 7 := by rw [lksV_len, stL_len N l (by omega), hm.out]
          obtain ⟨x, hx⟩ : ∃ x, l[j] = x := ⟨_, rfl⟩
          rw [hx] at hk hset hsame dset dsame
          simp only [hx] at hcell
          clear hat hx hvl
          have hcl : ∀ W, St w W [(gD, boV (stD N l j)), (gO, boV (vwO N i)), (g7, [.int .i64 (i : Int), .slice (some ⟨gO, 0, none⟩) i i, .slice (some ⟨gB, 0, none⟩) m d1]), (gB, lksV (stL N l j)), (w.heap.size + 1, [.int .i64 0, .slice none 0 0, .slice none 0 0]), (w.heap.size, [.int .i64 (i : Int), .slice A k c, .slice B m d])] [] → ∀ (q : Nat) (hq : q < 7) (u : Value), (lkL x)[q]? = some u → W.cell? ⟨gB, j * 7 + q, none⟩ = some u := fun W S q hq u hu => by
            have := S.c 3 (7 * j + q) rfl (hcell q hq u hu)
            rwa [show 7 * j + q = j * 7 + q by omega] at this
          have CO1 := fun W (hb : Below wr.heap.size wr W) => dcost_any W g b N x.a x.b (j : Int) (dat.out.below (S.b.trans (hb.mono S.b.size))) hf (wf64 hk.a.1 (by have := hk.a.2; omega))
          have CO2 := fun W (hb : Below w.heap.size w W) => dcost_any W g b N x.b x.a (j : Int) (dat.out.below hb) hf (wf64 hk.b.1 (by have := hk.b.2; omega))
          unfold CostPost at CO1 CO2
          obtain ⟨pA, hpA⟩ : ∃ z, cA N j x = z := ⟨_, rfl⟩
          obtain ⟨pB, hpB⟩ : ∃ z, cB N j x = z := ⟨_, rfl⟩
          have eA : cstL (vX N x.a).adj x.b (j : Int) = pA := hpA
          have eB : cstL (vX N x.b).adj x.a (j : Int) = pB := hpB
          rw [eA] at CO1
          rw [eB] at CO2
          unfold upL at hset hsame
          unfold dnB at dset dsame
          rw [hpA, hpB] at hset hsame dset dsame
          clear hcell eA eB hpA hpB hk
          replace hset := Lib.hid hset
          replace hsame := Lib.hid hsame
          replace dset := Lib.hid dset
          replace dsame := Lib.hid dsame
          replace hcl := Lib.hid hcl
          replace CO1 := Lib.hid CO1
          replace CO2 := Lib.hid CO2
          have r0 := S.c 2 0 rfl rfl
          have r1 := S.c 2 1 rfl rfl
          have r2 := S.c 2 2 rfl rfl
          go_upto_region 17 with fail
          clear r0 r1 r2
          have x0 := cell_regrown (hcl.out _ S 0 (by omega) _ rfl)
          have x1 := cell_regrown (hcl.out _ S 1 (by omega) _ rfl)
          simp only [Nat.add_zero] at x0 x1
          refine wp_region_quiet_below (by kernel_rfl) (by kernel_rfl) ?_
          repeat (go_big_quiet_step ((first | (go_at_call 49; with_reducible exact Calls.regrown_of (CO1.out _ (below_regrown _ _ _))))))
          refine wpQuiet_nil ?_
          intro _ hw'
          obtain ⟨⟨dq, osq⟩, hw''⟩ := hw'
          subst hw''
          replace S := S.call (below_regrown _ dq osq)
          generalize grow (redrawn _ dq) osq = w5 at *
          clear x0 x1 CO1
          replace CO2 := Lib.hid (fun W hb => CO2.out W (S.b.trans (Below.mono hb S.b.size)))
          have x0 := cell_regrown (hcl.out _ S 0 (by omega) _ rfl)
          have x1 := cell_regrown (hcl.out _ S 1 (by omega) _ rfl)
          simp only [Nat.add_zero] at x0 x1
          go_upto_region 18 with fail
          refine wp_region_quiet_below (by kernel_rfl) (by kernel_rfl) ?_
          repeat (go_big_quiet_step ((first | (go_at_call 49; with_reducible exact Calls.regrown_of (CO2.out _ (below_regrown _ _ _))))))
          refine wpQuiet_nil ?_
          intro _ hw'
          obtain ⟨⟨dq, osq⟩, hw''⟩ := hw'
          subst hw''
          replace S := S.call (below_regrown _ dq osq)
          generalize grow (redrawn _ dq) osq = w6 at *
          clear x0 x1 CO2
          have x2 := hcl.out _ S 2 (by omega) _ rfl
          have x3 := hcl.out _ S 3 (by omega) _ rfl
          have y2 := S.f 3 (j * 7 + 2) rfl (List.getElem?_eq_getElem (by omega))
          have y3 := S.f 3 (j * 7 + 3) rfl (List.getElem?_eq_getElem (by omega))
          have z0 := S.c 0 (2 * j) rfl (List.getElem?_eq_getElem (by rw [boV_len]; omega))
          have z1 := S.c 0 (2 * j + 1) rfl (List.getElem?_eq_getElem (by rw [boV_len]; omega))
          have q0 := S.f 0 (2 * j) rfl (List.getElem?_eq_getElem (by rw [boV_len]; omega))
          have q1 := S.f 0 (2 * j + 1) rfl (List.getElem?_eq_getElem (by rw [boV_len]; omega))
          generalize (boV (stD N l j))[2 * j]'_ = zz0 at z0
          generalize (boV (stD N l j))[2 * j + 1]'_ = zz1 at z1
          have hw0 : IntKind.i64.wrap (2 * (j : Int)) = 2 * (j : Int) := IntWalk.i64_in _ (by omega)
          have hw1 : IntKind.i64.wrap (2 * (j : Int) + 1) = 2 * (j : Int) + 1 := IntWalk.i64_in _ (by omega)
          rcases pA with _ | pa
          · clear x2 x3 y2 y3
            have en : Hid (stL N l (j + 1) = stL N l j) := hsame.out (if_neg (by simp))
            have ed : Hid (((boV (stD N l j)).set (2 * j) (.bool true)).set (2 * j + 1) (.bool true) = boV (stD N l (j + 1))) := dset.out rfl
            clear hset hsame dset dsame hcl
            have S9 := (S.set 0 (2 * j) (.bool true) rfl (by rw [boV_len]; omega) (by omega) (by simp; omega) _ rfl).set 0 (2 * j + 1) (.bool true) rfl (by rw [List.length_set, boV_len]; omega) (by omega) (by simp; omega) [(gD, boV (stD N l (j + 1))), (gO, boV (vwO N i)), (g7, [.int .i64 (i : Int), .slice (some ⟨gO, 0, none⟩) i i, .slice (some ⟨gB, 0, none⟩) m d1]), (gB, lksV (stL N l (j + 1))), (w.heap.size + 1, [.int .i64 0, .slice none 0 0, .slice none 0 0]), (w.heap.size, [.int .i64 (i : Int), .slice A k c, .slice B m d])] (by rw [← ed.out, en.out]; rfl)
            clear en ed
            replace S9 := Lib.hid S9
            go_wp2_with fail
            go_round
            case rel => exact ⟨j + 1, by go_num, by omega, S9.out⟩
            case measure => simp [intOf]; omega
          rcases pB with _ | pb
          · clear x2 x3 y2 y3
            have en : Hid (stL N l (j + 1) = stL N l j) := hsame.out (if_neg (by simp))
            have ed : Hid (((boV (stD N l j)).set (2 * j) (.bool true)).set (2 * j + 1) (.bool true) = boV (stD N l (j + 1))) := dset.out rfl
            clear hset hsame dset dsame hcl
            have S9 := (S.set 0 (2 * j) (.bool true) rfl (by rw [boV_len]; omega) (by omega) (by simp; omega) _ rfl).set 0 (2 * j + 1) (.bool true) rfl (by rw [List.length_set, boV_len]; omega) (by omega) (by simp; omega) [(gD, boV (stD N l (j + 1))), (gO, boV (vwO N i)), (g7, [.int .i64 (i : Int), .slice (some ⟨gO, 0, none⟩) i i, .slice (some ⟨gB, 0, none⟩) m d1]), (gB, lksV (stL N l (j + 1))), (w.heap.size + 1, [.int .i64 0, .slice none 0 0, .slice none 0 0]), (w.heap.size, [.int .i64 (i : Int), .slice A k c, .slice B m d])] (by rw [← ed.out, en.out]; rfl)
            clear en ed
            replace S9 := Lib.hid S9
            go_wp2_with fail
            go_round
            case rel => exact ⟨j + 1, by go_num, by omega, S9.out⟩
            case measure => simp [intOf]; omega
          have en : Hid (stD N l (j + 1) = stD N l j) := dsame.out rfl
          have ed : Hid (((lksV (stL N l j)).set (j * 7 + 2) (.int .i64 pa)).set (j * 7 + 3) (.int .i64 pb) = lksV (stL N l (j + 1))) := hset.out pa pb (if_pos rfl)
          clear hset hsame dset dsame hcl z0 z1 q0 q1
          have S9 := (S.set 3 (j * 7 + 2) (.int .i64 pa) rfl (by omega) (by omega) (by simp; omega) _ rfl).set 3 (j * 7 + 3) (.int .i64 pb) rfl (by rw [List.length_set]; omega) (by omega) (by simp; omega) [(gD, boV (stD N l (j + 1))), (gO, boV (vwO N i)), (g7, [.int .i64 (i : Int), .slice (some ⟨gO, 0, none⟩) i i, .slice (some ⟨gB, 0, none⟩) m d1]), (gB, lksV (stL N l (j + 1))), (w.heap.size + 1, [.int .i64 0, .slice none 0 0, .slice none 0 0]), (w.heap.size, [.int .i64 (i : Int), .slice A k c, .slice B m d])] (by rw [← ed.out, en.out]; rfl)
          clear en ed
          replace S9 := Lib.hid S9
          go_wp2_with fail
          go_round
          case rel => exact ⟨j + 1, by go_num, by omega, S9.out⟩
          case measure => simp [intOf]; omega
        · obtain rfl : j = m := by omega
          have eL : stL N l j = vwL N 0 l := by rw [← hm.out]; exact stL_end N l
          have eD : stD N l j = vwD N 0 l := by rw [← hm.out]; exact stD_end N l
          rw [eL, eD] at S
          clear eL eD
          have r0 := S.c 2 0 rfl rfl
          have r1 := S.c 2 1 rfl rfl
          have r2 := S.c 2 2 rfl rfl
          have a0 := S.c 4 0 rfl rfl
          have a1 := S.c 4 1 rfl rfl
          have a2 := S.c 4 2 rfl rfl
          have f0 := S.f 4 0 rfl rfl
          have f1 := S.f 4 1 rfl rfl
          have f2 := S.f 4 2 rfl rfl
          have S9 := (((S.set 4 0 (.int .i64 (i : Int)) rfl (by simp) (by omega) (by simp; omega) _ rfl).set 4 1 (.slice (some ⟨gO, 0, none⟩) i i) rfl (by simp) (by omega) (by simp; omega) _ rfl).set 4 2 (.slice B1 j d1) rfl (by simp) (by omega) (by simp; omega) _ rfl)
          have R1 := (S9.box 1 rfl).rd
          have R0 := (S9.box 0 rfl).rd
          have R3 : Rd _ B1 (lksV (vwL N 0 l)) := fun hn => by
            obtain ⟨e, _⟩ := hBe.out (by rw [lksV_len, vwL_len, hm.out] at hn; omega)
            have := (S9.box 3 rfl).rd hn
            rwa [← e] at this
          have hf9 := hfin.out _ _ i _ d1 _ (2 * j) R1 R3 R0 S9.b
          replace hf9 := Lib.hid hf9
          clear R1 R0 R3 S9 S
          go_wp2_with fail
          exact bodyPost_ret (v := .tuple #[tpV (i : Int) (some ⟨gO, 0, none⟩) i i B1 j d1, .slice (some ⟨gD, 0, none⟩) (2 * j) (2 * j), .int .i64 0]) (by simp [results, Try.results27, go_sem, a0, a1, a2]) rfl hf9.out

end Go.Proofs.Ytkmpmgojgidcgaa

namespace Go.Proofs.Ytkmpmgojgidcgaa
set_option linter.unusedVariables false
open Go.RowKit Go.Maps Go.Sort

set_option maxRecDepth 100000 in
set_option maxHeartbeats 3200000 in
theorem has_any (w : World) (v : Value) (x : La) (a b c0 : Int) (h : LaAt w v x) (hm : (a, b, c0) ∈ x.adj) :
    Calls Try.prog 31 #[v, .int .i64 a, .int .i64 b, .int .i64 c0] w fun e w' => e = .returned (.bool true) ∧ Below w.heap.size w w' := by
  obtain ⟨A, c, B, d, rfl, rA, rB, h1, h2, h3, h4, hu⟩ := h
  have S := ((St.start w).read rA).new' #[.int .i64 x.o, .int .i64 x.s, .int .i64 x.a, .bool x.ov, .slice A x.adj.length c, .slice B x.pre.length d] 30 w.heap.size _ rfl rfl
  have hlen := Nat.le_trans h1 h2
  unfold maxLen at hlen
  clear rA rB h1 h2 h3 h4 hu
  obtain ⟨l, hl⟩ : ∃ l, x.adj = l := ⟨_, rfl⟩
  rw [hl] at S hlen hm ⊢
  clear hl
  generalize x.pre.length = pm at *
  obtain ⟨n, hn⟩ : ∃ n, l.length = n := ⟨_, rfl⟩
  rw [hn] at S hlen ⊢
  replace hn := Lib.hid hn
  have hm0 : Hid ((a, b, c0) ∈ l.drop 0) := hm
  clear hm
  go_enter Try.func31, Try.ntmps31
  go_wp2_with fail
  generalize World.alloc w _ = w1 at *
  go_loopw [9] (fun v9 wr => ∃ k : Nat, v9 = .int .i64 k ∧ k ≤ n ∧ Hid ((a, b, c0) ∈ l.drop k) ∧ St w wr [(w.heap.size, [.int .i64 x.o, .int .i64 x.s, .int .i64 x.a, .bool x.ov, .slice A n c, .slice B pm d])] [(A, adV l)]) (fun v9 _ => n - (intOf v9).toNat)
  case atStart => exact ⟨0, rfl, by omega, hm0, S⟩
  case round =>
    clear S hm0
    obtain ⟨k, rfl, hk, hm, S⟩ := hrel
    have r0 := S.c 0 0 rfl rfl
    have r1 := S.c 0 1 rfl rfl
    have r2 := S.c 0 2 rfl rfl
    have r3 := S.c 0 3 rfl rfl
    have r4 := S.c 0 4 rfl rfl
    have r5 := S.c 0 5 rfl rfl
    by_cases hkn : k < n
    · have hkl : k < l.length := by have := hn.out; omega
      obtain ⟨ba, off, rfl, hc⟩ := rd_ad (S.r 0 rfl) (by omega)
      obtain ⟨x0, x1, x2⟩ := hc k hkl
      have hd := hm.out
      rw [List.drop_eq_getElem_cons hkl, List.mem_cons] at hd
      generalize l[k] = y at *
      obtain ⟨p0, p1, p2⟩ := y
      simp only at x0 x1 x2
      have NE := fun W => eql_ad W (p0, p1, p2) (a, b, c0)
      have hG := ad_guard
      clear hc hm
      by_cases e : (p0, p1, p2) = (a, b, c0)
      · rw [decide_eq_true e] at NE
        clear e hd
        go_wp2_with fail
        go_ret
        exact ⟨rfl, S.b⟩
      · rw [decide_eq_false e] at NE
        have hd2 : Hid ((a, b, c0) ∈ l.drop (k + 1)) := hd.resolve_left (fun h => e h.symm)
        clear hd e
        go_wp2_with fail
        go_round
        case rel => exact ⟨k + 1, by go_num, by omega, hd2, S⟩
        case measure => simp [intOf]; omega
    · have := hm.out
      rw [List.drop_of_length_le (by have := hn.out; omega)] at this
      cases this
theorem cstL_mem {l : List Ad} {a b c : Int} (h : cstL l a b = some c) : (a, b, c) ∈ l := by
  induction l with
  | nil => cases h
  | cons x l ih =>
    unfold cstL at h
    split at h
    · next e =>
      obtain ⟨e1, e2⟩ := e
      injection h with h
      obtain ⟨p0, p1, p2⟩ := x
      simp only at e1 e2 h
      subst e1 e2 h
      exact List.mem_cons_self
    · exact List.mem_cons_of_mem _ (ih h)

end Go.Proofs.Ytkmpmgojgidcgaa

namespace Go.Proofs.Ytkmpmgojgidcgaa
set_option linter.unusedVariables false
open Go.RowKit Go.ChangeShapes Go.WideShapes Go.ChangeAt

section
variable {P : Program} {w : World} {t : TypeId}
theorem opens_link {f0 f1 f2 f3 f4 f5 : Field} {R : Int → List Value → Prop} {R2 : Int × Int → List Value → Prop}
    (ht : P.underlying t = some (.struct #[f0, f1, f2, f3, f4, f5])) (o0 : f0.offset = 0) (o1 : f1.offset = 1) (o2 : f2.offset = 2) (o3 : f3.offset = 4) (o4 : f4.offset = 5) (o5 : f5.offset = 6)
    (c0 : P.cellsOf f0.type = 1) (c1 : P.cellsOf f1.type = 1) (c2 : P.cellsOf f2.type = 2) (c3 : P.cellsOf f3.type = 1) (c4 : P.cellsOf f4.type = 1) (c5 : P.cellsOf f5.type = 1) (hC : P.cellsOf t = 7)
    (h0 : Opens P w f0.type R) (h1 : Opens P w f1.type R) (h2 : Opens P w f2.type R2) (h3 : Opens P w f3.type R) (h4 : Opens P w f4.type R) (h5 : Opens P w f5.type R) :
    Opens P w t (fun (x : Int × Int × (Int × Int) × Int × Int × Int) cs => ∃ v0 v1 v2 v2' v3 v4 v5, cs = [v0, v1, v2, v2', v3, v4, v5] ∧ R x.1 [v0] ∧ R x.2.1 [v1] ∧ R2 x.2.2.1 [v2, v2'] ∧ R x.2.2.2.1 [v3] ∧ R x.2.2.2.2.1 [v4] ∧ R x.2.2.2.2.2 [v5]) := by
  intro H enc base spare held fuel cs x hx
  obtain ⟨xs, n, _, _, hcl, hl, hi⟩ := DataW.trod_struct ht hx
  simp at hl
  have e0 := hi 0 f0 rfl
  have e1 := hi 1 f1 rfl
  have e2 := hi 2 f2 rfl
  have e3 := hi 3 f3 rfl
  have e4 := hi 4 f4 rfl
  have e5 := hi 5 f5 rfl
  rw [List.getElem?_eq_getElem (by omega)] at e0 e1 e2 e3 e4 e5
  rw [hC] at hcl
  match cs, hcl with
  | [v0, v1, v2, v2', v3, v4, v5], _ =>
    rw [o0, c0] at e0
    rw [o1, c1] at e1
    rw [o2, c2] at e2
    rw [o3, c3] at e3
    rw [o4, c4] at e4
    rw [o5, c5] at e5
    obtain ⟨p0, r0, _⟩ := h0 e0
    obtain ⟨p1, r1, _⟩ := h1 e1
    obtain ⟨p2, r2, _⟩ := h2 e2
    obtain ⟨p3, r3, _⟩ := h3 e3
    obtain ⟨p4, r4, _⟩ := h4 e4
    obtain ⟨p5, r5, _⟩ := h5 e5
    exact ⟨(p0, p1, p2, p3, p4, p5), ⟨v0, v1, v2, v2', v3, v4, v5, rfl, r0, r1, r2, r3, r4, r5⟩, by simp [hC]⟩
end
def lkOf (x : Int × Int × (Int × Int) × Int × Int × Int) : Lk := ⟨x.1, x.2.1, x.2.2.1.1, x.2.2.1.2, x.2.2.2.1, x.2.2.2.2.1, x.2.2.2.2.2⟩
theorem rep_lk {xs : List (Int × Int × (Int × Int) × Int × Int × Int)} : ∀ {vs : List Value}, Rep (fun (x : Int × Int × (Int × Int) × Int × Int × Int) cs => ∃ v0 v1 v2 v2' v3 v4 v5, cs = [v0, v1, v2, v2', v3, v4, v5] ∧ IsInt .i64 x.1 [v0] ∧ IsInt .i64 x.2.1 [v1] ∧ IsTwo (IsInt .i64) (IsInt .i64) x.2.2.1 [v2, v2'] ∧ IsInt .i64 x.2.2.2.1 [v3] ∧ IsInt .i64 x.2.2.2.2.1 [v4] ∧ IsInt .i64 x.2.2.2.2.2 [v5]) 7 xs vs → vs = lksV (xs.map lkOf) := by
  induction xs with
  | nil => intro vs h; exact h
  | cons x t ih =>
    rintro vs ⟨c, q, rfl, ⟨a0, a1, a2, a2', a3, a4, a5, rfl, ⟨e0, _⟩, ⟨e1, _⟩, ⟨c1, c2, e2, ⟨rfl, _⟩, ⟨rfl, _⟩⟩, ⟨e3, _⟩, ⟨e4, _⟩, ⟨e5, _⟩⟩, _, hr⟩
    rw [ih hr]
    simp only [List.cons.injEq, and_true, List.cons_append, List.nil_append] at e0 e1 e2 e3 e4 e5
    obtain ⟨rfl, rfl⟩ := e2
    subst e0 e1 e3 e4 e5
    rfl
theorem rep_bo {xs : List Bool} : ∀ {vs : List Value}, Rep IsBool 1 xs vs → vs = boV xs := by
  induction xs with
  | nil => intro vs h; exact h
  | cons x t ih =>
    rintro vs ⟨c, q, rfl, h1, _, hr⟩
    unfold IsBool at h1
    rw [ih hr, h1]
    rfl
def IsTp (w : World) (x : Tp) (cs : List Value) : Prop := TpAt w (.agg cs.toArray) x ∧ cs.length = 3
theorem opens_tp (w : World) : Opens Try.prog w 66 (IsTp w) := by
  have OI : Opens Try.prog w 3 _ := opens_int (w := w) Try.underlying3 (by kernel_rfl)
  have OL : Opens Try.prog w 76 _ := opens_link (w := w) Try.underlying76 rfl rfl rfl rfl rfl rfl (by kernel_rfl) (by kernel_rfl) (by kernel_rfl) (by kernel_rfl) (by kernel_rfl) (by kernel_rfl) (by kernel_rfl) OI OI (opens_arr2 Try.underlying74 (by kernel_rfl) OI) OI OI OI
  have O : Opens Try.prog w 66 _ := opens_struct3 (w := w) Try.underlying66 rfl rfl rfl (by kernel_rfl) (by kernel_rfl) (by kernel_rfl) (by kernel_rfl) OI
    (opens_slice Try.underlying63 (by kernel_rfl) (opens_bool Try.underlying4 (by kernel_rfl))) (opens_slice Try.underlying64 (by kernel_rfl) OL)
  intro H enc base spare held fuel cs x hx
  obtain ⟨⟨p0, xs, ys⟩, ⟨v0, v1, v2, rfl, ⟨e0, _⟩, ⟨A, c, vs, e1, l1, l2, r1, rd1⟩, ⟨B, d, us, e2, l3, l4, r2, rd2⟩⟩, hl⟩ := O hx
  rw [show Try.prog.cellsOf 4 = 1 from by kernel_rfl] at r1
  rw [show Try.prog.cellsOf 76 = 7 from by kernel_rfl] at r2
  obtain rfl := rep_bo r1
  obtain rfl := rep_lk r2
  simp only [List.cons.injEq, and_true] at e0 e1 e2
  subst e0 e1 e2
  simp only at l1 l3 ⊢
  refine ⟨⟨p0, xs, ys.map lkOf⟩, ⟨⟨A, c, B, d, ?_, rd1, rd2, Nat.le_trans l1 l2, by simp only [List.length_map]; exact Nat.le_trans l3 l4⟩, rfl⟩, hl⟩
  simp only [List.length_map]
section
variable {H : Type} {enc : TypeId × Value → H} {w : World} {base : Nat} {spare : Nat → Bool} {held : Bool} {r : Reach} {b0 : Nat} {v : Value} {d : DataW H} {ps : List MemPlace}
set_option maxRecDepth 100000 in
theorem arg_tp (hv : Value.okWide Try.prog w r b0 66 v) (h : DataW.Trod enc Try.prog w base spare held 66 v d ps) : ∃ x, TpAt w v x := by
  obtain ⟨cs, x, rfl, hx, _⟩ := arg_struct Try.underlying66 (opens_tp w) hv h
  exact ⟨x, hx⟩
end

end Go.Proofs.Ytkmpmgojgidcgaa

namespace Go.Proofs.Ytkmpmgojgidcgaa
set_option linter.unusedVariables false
open Go.RowKit

theorem lk_fields : Try.prog.underlying 76 = some (.struct (Try.prog.fieldsOf 76)) := by kernel_rfl
theorem lk_held : Try.prog.stoodInHeld 76 = false := by kernel_rfl
theorem lk_guard : Try.prog.eqGuardType Try.prog.depth 76 = false := by kernel_rfl
abbrev lkA (x : Lk) : Value := .agg #[.int .i64 x.a, .int .i64 x.b, .int .i64 x.c, .int .i64 x.d, .int .i64 x.cap, .int .i64 x.del, .int .i64 x.grp]
theorem lk_fl : ((Try.prog.fieldsOf 76).toList.map fun f => (f.name != "_", f.type, f.offset)) = [(true, 3, 0), (true, 3, 1), (true, 74, 2), (true, 3, 4), (true, 3, 5), (true, 3, 6)] := by kernel_rfl
theorem int_info : ∃ i, Try.prog.info? 3 = some i := by
  cases h : Try.prog.info? 3 with
  | some i => exact ⟨i, rfl⟩
  | none =>
    have e : (Try.prog.info? 3).isSome = true := by kernel_rfl
    rw [h] at e; cases e
theorem eq_two (w : World) (d : Nat) (a b : Int) : (Op.equalIn (d + 1 + 1) 74 (.agg #[.int .i64 a, .int .i64 b]) (.agg #[.int .i64 a, .int .i64 b])).run Try.prog w = .ok true w := by
  obtain ⟨i, hi⟩ := int_info
  rw [run_equalIn_array (P := Try.prog) w (d + 1) _ _ Try.underlying74 hi]
  rw [show Try.prog.cellsOf 3 = 1 from by kernel_rfl, show List.range 2 = [0, 1] from rfl]
  have E := fun (W : World) (a b : Int) => run_equalIn_int (P := Try.prog) W d 3 .i64 .i64 a b Try.underlying3
  simp [Op.eqItems, part, sizeOf, E]
theorem eq_lk (w : World) (x : Lk) : (Op.equalIn 10000 76 (lkA x) (lkA x)).run Try.prog w = .ok true w := by
  rw [show (10000 : Nat) = 9999 + 1 from rfl, run_equalIn_agg w 9999 _ _ _ lk_fields lk_held]
  have h := lk_fl
  generalize (Try.prog.fieldsOf 76).toList = l at h
  rcases l with _ | ⟨f0, _ | ⟨f1, _ | ⟨f2, _ | ⟨f3, _ | ⟨f4, _ | ⟨f5, _ | ⟨f6, l⟩⟩⟩⟩⟩⟩⟩
  all_goals simp at h
  obtain ⟨⟨n0, t0, o0⟩, ⟨n1, t1, o1⟩, ⟨n2, t2, o2⟩, ⟨n3, t3, o3⟩, ⟨n4, t4, o4⟩, n5, t5, o5⟩ := h
  have E := fun (W : World) (a b : Int) => run_equalIn_int (P := Try.prog) W 9998 3 .i64 .i64 a b Try.underlying3
  have F := fun (W : World) (a b : Int) => eq_two W 9997 a b
  simp only [show (9998 + 1 : Nat) = 9999 from rfl] at E
  simp only [show (9997 + 1 + 1 : Nat) = 9999 from rfl] at F
  have hs : Try.t74.size = 2 := by kernel_rfl
  simp [Op.eqFields, n0, n1, n2, n3, n4, n5, t0, t1, t2, t3, t4, t5, o0, o1, o2, o3, o4, o5, part, sizeOf, E, F, hs]
theorem neq_lk (w : World) (x : Lk) : (binOp .neq 76 (lkA x) (lkA x)).run Try.prog w = .ok (.bool false) w := by rw [run_neq_struct, eq_lk]; rfl

end Go.Proofs.Ytkmpmgojgidcgaa

namespace Go.Proofs.Ytkmpmgojgidcgaa
set_option linter.unusedVariables false
open Go.RowKit Go.Maps Go.Sort

/-- What is live is what is held, as far as views go. -/
theorem vX_dead {R : Nat → Rs} (hok : DbOk (dbOf R)) {i : Nat} (hi : i < 64) (h : (R i).is = false ∨ (R i).x.y.a = 3600) : (vX (dbOf R) (i : Int)).ov = false ∧ (vX (dbOf R) (i : Int)).adj = [] := by
  unfold vX getO
  rw [if_pos ⟨by omega, by omega⟩, Int.toNat_natCast]
  cases hN : dbOf R i with
  | none => exact ⟨rfl, rfl⟩
  | some z =>
    have hv := (hok i z hN).1
    unfold dbOf at hN
    split at hN
    · next e =>
      injection hN with hN
      subst hN
      rcases h with h | h
      · rw [h] at e; cases e.2
      · have := hv.2.2.2.2.2.1 h
        exact ⟨this.1, this.2.1⟩
    · cases hN
theorem vX_live {R : Nat → Rs} {i : Nat} (hi : i < 64) (h : (R i).is = true) : vX (dbOf R) (i : Int) = (R i).x.y := by
  unfold vX getO
  rw [if_pos ⟨by omega, by omega⟩, Int.toNat_natCast]
  unfold dbOf
  rw [if_pos ⟨hi, h⟩]
  rfl
def LivePost (w : World) (x : La) (e : Ending) (w' : World) : Prop :=
  ∃ v q y, e = .returned (.tuple #[v, .bool q]) ∧ LaAt w' v y ∧ y.ov = x.ov ∧ y.adj = x.adj ∧ Below w.heap.size w w'

set_option maxRecDepth 100000 in
set_option maxHeartbeats 6400000 in
theorem rlive_any (w : World) (R : Nat → Rs) (hR : RdOk w R) (hok : DbOk (dbOf R)) (i : Nat) (hi : i < 64) :
    Calls Try.prog 51 #[.agg (rdC R).toArray, .int .i64 (i : Int)] w (LivePost w (vX (dbOf R) (i : Int))) := by
  have S := ((St.start w).new' (rdC R).toArray 46 w.heap.size (rdC R) rfl (by simp)).new' #[.int .i64 0, .int .i64 0, .int .i64 0, .bool false, .slice none 0 0, .slice none 0 0] 30 (w.heap.size + 1) _ (by simp) rfl
  have hdead := vX_dead hok hi
  have hlive := vX_live (R := R) hi
  have hx := hR i hi
  obtain ⟨is, his⟩ : ∃ z, (R i).is = z := ⟨_, rfl⟩
  obtain ⟨s, hs⟩ : ∃ z, (R i).x = z := ⟨_, rfl⟩
  rw [his, hs] at hdead
  rw [his, hs] at hlive
  rw [hs] at hx
  have hat := fun j hj => rdC_at R hi (j := j) hj
  have hsi : R i = ⟨s, (R i).l, is⟩ := by rw [← hs, ← his]
  obtain ⟨x0, hx0⟩ : ∃ z, vX (dbOf R) (i : Int) = z := ⟨_, rfl⟩
  rw [hx0] at hdead hlive ⊢
  clear hx0 hR hok
  go_enter Try.func51, Try.ntmps51
  go_upto_region 1 with fail
  generalize World.alloc _ _ = w1 at *
  have c0 := S.c 1 i rfl (rdC_is R hi)
  rw [his] at c0
  have hi9 : (i : Int) < 64 := by omega
  obtain ⟨⟨o, sq, ag, ov, adj, pre⟩, A, c, B, d⟩ := s
  unfold LxOk at hx
  simp only at hx hdead hlive
  have y0 := S.c 1 (64 + i * 7 + 0) rfl ((hat 0 (by omega)).trans (by rw [hsi]; rfl))
  have y1 := S.c 1 (64 + i * 7 + 1) rfl ((hat 1 (by omega)).trans (by rw [hsi]; rfl))
  have y2 := S.c 1 (64 + i * 7 + 2) rfl ((hat 2 (by omega)).trans (by rw [hsi]; rfl))
  have y3 := S.c 1 (64 + i * 7 + 3) rfl ((hat 3 (by omega)).trans (by rw [hsi]; rfl))
  have y4 := S.c 1 (64 + i * 7 + 4) rfl ((hat 4 (by omega)).trans (by rw [hsi]; rfl))
  have y5 := S.c 1 (64 + i * 7 + 5) rfl ((hat 5 (by omega)).trans (by rw [hsi]; rfl))
  simp only [Nat.add_zero] at y0
  have q0 := S.c 0 0 rfl rfl
  have q0 := S.c 0 0 rfl rfl
  have q1 := S.c 0 1 rfl rfl
  have q2 := S.c 0 2 rfl rfl
  have q3 := S.c 0 3 rfl rfl
  have q4 := S.c 0 4 rfl rfl
  have q5 := S.c 0 5 rfl rfl
  have f0 := S.f 0 0 rfl rfl
  have f1 := S.f 0 1 rfl rfl
  have f2 := S.f 0 2 rfl rfl
  have f3 := S.f 0 3 rfl rfl
  have f4 := S.f 0 4 rfl rfl
  have f5 := S.f 0 5 rfl rfl
  clear hat hsi hs his
  have hz := fun W => (laZero_own W W.heap.size).at
  by_cases hd : is = false ∨ ag = 3600
  · obtain ⟨e1, e2⟩ := hdead hd
    have S9 := S.set6 0 0 0 false (.slice none 0 0) (.slice none 0 0) (by simp) (by simp)
    have hfin : Hid (∀ W, Below w.heap.size w W → LivePost w x0 (.returned (.tuple #[laV 0 0 0 false none 0 0 none 0 0, .bool false])) W) := fun W hb => ⟨_, _, laZero, rfl, hz W, e1.symm, e2.symm, hb⟩
    have hb9 := S9.b
    clear hz hdead hlive e1 e2 S9
    rcases hd with rfl | hd
    · go_wp2_with fail
      exact bodyPost_ret (v := .tuple #[laV 0 0 0 false none 0 0 none 0 0, .bool false]) (by simp [results, Try.results51, go_sem, q0, q1, q2, q3, q4, q5]) rfl (hfin.out _ hb9)
    · subst hd
      cases is
      · go_wp2_with fail
        exact bodyPost_ret (v := .tuple #[laV 0 0 0 false none 0 0 none 0 0, .bool false]) (by simp [results, Try.results51, go_sem, q0, q1, q2, q3, q4, q5]) rfl (hfin.out _ hb9)
      · go_wp2_with fail
        exact bodyPost_ret (v := .tuple #[laV 0 0 0 false none 0 0 none 0 0, .bool false]) (by simp [results, Try.results51, go_sem, q0, q1, q2, q3, q4, q5]) rfl (hfin.out _ hb9)
  · obtain rfl : is = true := by
      cases is with
      | true => rfl
      | false => exact absurd (.inl rfl) hd
    have hag : (ag == 3600) = false := by simp; exact fun e => hd (.inr e)
    have e1 := hlive rfl
    have S9 := S.set6 o sq ag ov (.slice A adj.length c) (.slice B pre.length d) (by simp) (by simp)
    have hfin : Hid (∀ W, Below w.heap.size w W → LivePost w x0 (.returned (.tuple #[laV o sq ag ov A adj.length c B pre.length d, .bool true])) W) := fun W hb => ⟨_, _, _, rfl, hx.below hb, by rw [e1], by rw [e1], hb⟩
    have hb9 := S9.b
    clear hz hdead hlive e1 hd S9 hx
    generalize adj.length = an at *
    generalize pre.length = pn at *
    go_wp2_with fail
    exact bodyPost_ret (v := .tuple #[laV o sq ag ov A an c B pn d, .bool true]) (by simp [results, Try.results51, go_sem, q0, q1, q2, q3, q4, q5]) rfl (hfin.out _ hb9)

def RCostPost (w : World) (r : Option Int) (e : Ending) (w' : World) : Prop := e = .returned (.int .i64 (r.getD 0)) ∧ Below w.heap.size w w'

set_option maxRecDepth 100000 in
set_option maxHeartbeats 6400000 in
theorem rcost_any (w : World) (R : Nat → Rs) (hR : RdOk w R) (hok : DbOk (dbOf R)) (node tn lk : Int) (hi : 0 ≤ node ∧ node < 64) :
    Calls Try.prog 52 #[.agg (rdC R).toArray, .int .i64 node, .int .i64 tn, .int .i64 lk] w (RCostPost w (cstL (vX (dbOf R) node).adj tn lk)) := by
  obtain ⟨i, rfl⟩ := Int.eq_ofNat_of_zero_le hi.1
  have S := (St.start w).new' (rdC R).toArray 46 w.heap.size (rdC R) rfl (by simp)
  have LV := fun W hb => rlive_any W R (hR.below hb) hok i (by omega)
  unfold LivePost at LV
  obtain ⟨x, hx⟩ : ∃ z, vX (dbOf R) (i : Int) = z := ⟨_, rfl⟩
  rw [hx] at LV ⊢
  replace LV := Lib.hid LV
  clear hx hR hok
  unfold RCostPost
  obtain ⟨r, hr⟩ : ∃ r, cstL x.adj tn lk = r := ⟨_, rfl⟩
  rw [hr]
  replace hr := Lib.hid hr
  go_enter Try.func52, Try.ntmps52
  go_upto_region 1 with fail
  generalize World.alloc _ _ = w1 at *
  have hb0 := S.box 0 rfl
  go_wp2_with (first | (refine wpList_loadR (R := R) rfl (.tmp 4) rfl rfl ?hb ?_; (case hb => exact hb0)))
  (with_reducible refine (LV.out _ S.b).mono ?_)
  rintro e w2 ⟨v, q, y, rfl, hy, -, hya, hb⟩
  replace S := (S.call hb).keepBoxes [] (by simp)
  clear LV hb0
  have B0 := Lib.hid S.b
  have hsz := S.b.size
  have hbel : Hid (∀ W bs rs, St w2 W bs rs → Below w.heap.size w W) := fun W bs rs S' => B0.out.trans (S'.b.mono hsz)
  clear hsz
  obtain ⟨A, c, B, d, rfl, rA, rB, h1, h2, h3, h4, hu⟩ := hy
  have hlen := Nat.le_trans h1 h2
  unfold maxLen at hlen
  have T := ((St.start w2).read rA).new' #[.int .i64 y.o, .int .i64 y.s, .int .i64 y.a, .bool y.ov, .slice A y.adj.length c, .slice B y.pre.length d] 30 w2.heap.size _ rfl rfl
  clear rA rB h1 h2 h3 h4 hu S hb
  have hr1 : cstL y.adj tn lk = r := by rw [hya]; exact hr.out
  clear hya hr
  generalize y.adj = al at *
  obtain ⟨n, hn⟩ : ∃ n, al.length = n := ⟨_, rfl⟩
  rw [hn] at T hlen
  rw [hn]
  replace hn := Lib.hid hn
  generalize y.pre.length = pn at *
  have hr0 : Hid (cstL (al.drop 0) tn lk = r) := hr1
  clear hr1
  go_upto_region 2 with fail
  generalize World.alloc w2 _ = w3 at *
  generalize w2.heap.size = g2 at *
  go_wp2_with fail
  go_loopw [11] (fun v11 wr => ∃ k : Nat, v11 = .int .i64 k ∧ k ≤ n ∧ Hid (cstL (al.drop k) tn lk = r) ∧ St w2 wr [(g2, [.int .i64 y.o, .int .i64 y.s, .int .i64 y.a, .bool y.ov, .slice A n c, .slice B pn d])] [(A, adV al)]) (fun v11 _ => n - (intOf v11).toNat)
  case atStart => exact ⟨0, rfl, by omega, hr0, T⟩
  case round =>
    clear T hr0
    obtain ⟨k, rfl, hk, hr, S⟩ := hrel
    have r0 := S.c 0 0 rfl rfl
    have r1 := S.c 0 1 rfl rfl
    have r2 := S.c 0 2 rfl rfl
    have r3 := S.c 0 3 rfl rfl
    have r4 := S.c 0 4 rfl rfl
    have r5 := S.c 0 5 rfl rfl
    by_cases hkn : k < n
    · have hkl : k < al.length := by have := hn.out; omega
      obtain ⟨ba, off, rfl, hc⟩ := rd_ad (S.r 0 rfl) (by omega)
      obtain ⟨x0, x1, x2⟩ := hc k hkl
      have hd : cstL (al.drop k) tn lk = _ := cstL_drop hkl tn lk
      rw [hr.out] at hd
      generalize al[k] = z at *
      obtain ⟨p0, p1, p2⟩ := z
      simp only at x0 x1 x2 hd
      replace hd := Lib.hid hd
      clear hc hr
      by_cases e1 : p0 = tn
      · by_cases e2 : p1 = lk
        · have e3 := hd.out
          rw [if_pos ⟨e2, e1⟩] at e3
          subst e3 e1 e2
          clear hd
          go_wp2_with fail
          go_ret
          exact ⟨rfl, hbel.out _ _ _ S⟩
        · have e3 : Hid (cstL (al.drop (k + 1)) tn lk = r) := by
            have := hd.out
            rw [if_neg (fun h => e2 h.1)] at this
            exact this.symm
          subst e1
          go_wp2_with fail
          go_round
          case rel => exact ⟨k + 1, by go_num, by omega, e3, S⟩
          case measure => simp [intOf]; omega
      · have e3 : Hid (cstL (al.drop (k + 1)) tn lk = r) := by
          have := hd.out
          rw [if_neg (fun h => e1 h.2)] at this
          exact this.symm
        go_wp2_with fail
        go_round
        case rel => exact ⟨k + 1, by go_num, by omega, e3, S⟩
        case measure => simp [intOf]; omega
    · obtain rfl : k = n := by omega
      have e3 := hr.out
      rw [List.drop_of_length_le (by have := hn.out; omega)] at e3
      subst e3
      go_wp2_with fail
      go_ret
      exact ⟨rfl, hbel.out _ _ _ S⟩

end Go.Proofs.Ytkmpmgojgidcgaa

namespace Go.Proofs.Ytkmpmgojgidcgaa
set_option linter.unusedVariables false
open Go.RowKit Go.Maps Go.Sort

def RViewPost (w : World) (N : Db) (t : Tp) (e : Ending) (w' : World) : Prop :=
  ∃ v D c, e = .returned (.tuple #[v, .slice D (2 * t.ln.length) c]) ∧ TpAt w' v (vwT N t) ∧ Rd w' D (boV (vwD N 0 t.ln)) ∧ Below w.heap.size w w'

theorem own_box1 {w : World} {base g0 : Nat} {e : TypeId} {size : Nat} {A : Option Addr} {n c : Nat} {xs : List Value} (h : w.ownsRow base e size (.slice A n c) n xs) (h0 : g0 < w.heap.size) : ∃ g, (0 < n ∧ A = some ⟨g, 0, none⟩ ∧ base ≤ g ∨ n = 0 ∧ g = g0) ∧ g < w.heap.size ∧ Box w g xs := by
  rcases Nat.eq_zero_or_pos n with hn | hn
  · refine ⟨g0, .inr ⟨hn, rfl⟩, h0, ?_⟩
    have hl := h.1
    rw [hn, Nat.zero_mul] at hl
    obtain rfl : xs = [] := List.eq_nil_of_length_eq_zero hl
    intro i u hu
    simp at hu
  · obtain ⟨g, h1, h2, h3, h4⟩ := own_box h hn
    exact ⟨g, .inl ⟨hn, h1, h2⟩, h3, h4⟩
/-- Behind the first statement. -/
structure RvAt (w wx : World) (R : Nat → Rs) (q : Nat) (l : List Lk) (m : Nat) (A : Option Addr) (k c : Nat) (B : Option Addr) (d : Nat) (vO : Value) (g6 gB : Nat) (B1 : Option Addr) (d1 : Nat) : Prop where
  st : St w wx [(g6, [.int .i64 (q : Int), vO, .slice B1 m d1]), (gB, lksV l), (w.heap.size + 2, [.int .i64 0, .slice none 0 0, .slice none 0 0]), (w.heap.size + 1, [.int .i64 (q : Int), .slice A k c, .slice B m d]), (w.heap.size, rdC R)] [(B, lksV l)]
  e : 0 < m ∧ B1 = some ⟨gB, 0, none⟩ ∧ w.heap.size + 3 ≤ gB ∨ m = 0 ∧ gB = w.heap.size
  l6 : w.heap.size + 3 ≤ g6
  ne : g6 ≠ gB
  h6 : g6 < wx.heap.size
  hB : gB < wx.heap.size
theorem box_ne {w : World} {g gB : Nat} {l : List Lk} {v0 v2 : Value} {A : Option Addr} {n c : Nat} (h1 : Box w g [v0, .slice A n c, v2]) (h2 : Box w gB (lksV l)) (h : 0 < l.length) : g ≠ gB := fun e => by
  subst e
  cases l with
  | nil => cases h
  | cons x r =>
    have a := h1.c 1 rfl
    have b := h2.c 1 rfl
    rw [a] at b
    cases b
/-- .. where the list's copy was made behind the box, ahead of it. -/
theorem RvAt.of {w w2 : World} {R : Nat → Rs} {q : Nat} {l : List Lk} {m : Nat} {A : Option Addr} {k c : Nat} {B : Option Addr} {d : Nat} {g6 : Nat} {B1 : Option Addr} {d1 : Nat} {u0 u2 : Value}
    (S2 : St w w2 [(g6, [u0, .slice none 0 0, u2]), (w.heap.size + 2, [.int .i64 0, .slice none 0 0, .slice none 0 0]), (w.heap.size + 1, [.int .i64 (q : Int), .slice A k c, .slice B m d]), (w.heap.size, rdC R)] [(B, lksV l)])
    (ho : w2.ownsRow (w.heap.size + 3) 76 7 (.slice B1 m d1) m (lksV l)) (hm : l.length = m) (h6 : w.heap.size + 3 ≤ g6) :
    ∃ gB, RvAt w ((((w2.setCell ⟨g6, 0, none⟩ (.int .i64 (q : Int))).setCell ⟨g6, 1, none⟩ (.slice none 0 0)).setCell ⟨g6, 2, none⟩ (.slice B1 m d1))) R q l m A k c B d (.slice none 0 0) g6 gB B1 d1 := by
  have h66 := (S2.box 0 rfl).lt (by simp)
  obtain ⟨gB, e, h1, h2⟩ := own_box1 (g0 := w.heap.size) ho (by omega)
  have hne : g6 ≠ gB := by
    rcases e with ⟨e1, _, _⟩ | ⟨_, e2⟩
    · exact box_ne (S2.box 0 rfl) h2 (by omega)
    · omega
  have S3 := (S2.addBox h2).keepBoxes [(g6, [u0, .slice none 0 0, u2]), (gB, lksV l), (w.heap.size + 2, [.int .i64 0, .slice none 0 0, .slice none 0 0]), (w.heap.size + 1, [.int .i64 (q : Int), .slice A k c, .slice B m d]), (w.heap.size, rdC R)] (by simp)
  have S4 := S3.set3 (.int .i64 (q : Int)) (.slice none 0 0) (.slice B1 m d1) (by omega) (by
    intro x hx
    simp only [List.mem_cons, List.not_mem_nil, or_false] at hx
    rcases hx with rfl | rfl | rfl | rfl
    · exact fun e => hne e.symm
    · simp only; omega
    · simp only; omega
    · simp only; omega)
  exact ⟨gB, S4, e, h6, hne, by simpa using h66, by simpa using h1⟩
theorem RvAt.of2 {w w2 : World} {R : Nat → Rs} {q : Nat} {l : List Lk} {m : Nat} {A : Option Addr} {k c : Nat} {B : Option Addr} {d : Nat} {B1 : Option Addr} {d1 : Nat}
    (S2 : St w w2 [(w.heap.size + 2, [.int .i64 0, .slice none 0 0, .slice none 0 0]), (w.heap.size + 1, [.int .i64 (q : Int), .slice A k c, .slice B m d]), (w.heap.size, rdC R)] [(B, lksV l)])
    (ho : w2.ownsRow (w.heap.size + 3) 76 7 (.slice B1 m d1) m (lksV l)) (hm : l.length = m) :
    ∃ gB, RvAt w ((w2.alloc (.cells #[.int .i64 (q : Int), .slice none 0 0, .slice B1 m d1] 66))) R q l m A k c B d (.slice none 0 0) w2.heap.size gB B1 d1 := by
  have h66 := (S2.box 0 rfl).lt (by simp)
  obtain ⟨gB, e, h1, h2⟩ := own_box1 (g0 := w.heap.size) ho (by omega)
  have S4 := ((S2.addBox h2).new' #[.int .i64 (q : Int), .slice none 0 0, .slice B1 m d1] 66 w2.heap.size [.int .i64 (q : Int), .slice none 0 0, .slice B1 m d1] rfl rfl)
  exact ⟨gB, S4, e, by omega, by omega, by simp, by simp; omega⟩

set_option maxRecDepth 100000 in
set_option maxHeartbeats 12800000 in
theorem rview_any (w : World) (R : Nat → Rs) (hR : RdOk w R) (hdok : DbOk (dbOf R)) (v : Value) (t : Tp) (ht : TpAt w v t) (hok : TpOk t) : Calls Try.prog 29 #[.agg (rdC R).toArray, v] w (RViewPost w (dbOf R) t) := by
  obtain ⟨A, c, B, d, rfl, rA, rB, h3, h4⟩ := id ht
  have S := ((((St.start w).read rB).new' (rdC R).toArray 46 w.heap.size (rdC R) rfl (by simp)).new' #[.int .i64 t.n, .slice A t.ov.length c, .slice B t.ln.length d] 66 (w.heap.size + 1) _ (by simp) rfl).new' #[.int .i64 0, .slice none 0 0, .slice none 0 0] 66 (w.heap.size + 2) _ (by simp) rfl
  have hln := hok.ln
  obtain ⟨q, hq⟩ : ∃ q : Nat, t.n = (q : Int) := ⟨t.n.toNat, by have := hok.n; omega⟩
  have hq64 : 1 ≤ q ∧ q ≤ 64 := by have := hok.n; omega
  have hlk : Hid (∀ x ∈ t.ln, LkOk (q : Int) x) := by have := hok.all; rw [hq] at this; exact this
  obtain ⟨l, hl⟩ : ∃ l, t.ln = l := ⟨_, rfl⟩
  obtain ⟨N, hN⟩ : ∃ N, dbOf R = N := ⟨_, rfl⟩
  have hfin : Hid (∀ w' A' c' B' d' D c3, Rd w' A' (boV (vwO N q)) → Rd w' B' (lksV (vwL N 0 l)) → Rd w' D (boV (vwD N 0 l)) → Below w.heap.size w w' → RViewPost w N t (.returned (.tuple #[tpV (q : Int) A' q c' B' l.length d', .slice D (2 * l.length) c3])) w') := fun w' A' c' B' d' D c3 r1 r2 r3 hb => by
    refine ⟨_, D, c3, by rw [hl], ⟨A', c', B', d', ?_, ?_, ?_, ?_, ?_⟩, by rw [hl]; exact r3, hb⟩
    · simp only [vwT, vwO_len, vwL_len, hq, Int.toNat_natCast, hl]
    · simp only [vwT, hq, Int.toNat_natCast]; exact r1
    · simp only [vwT, hl]; exact r2
    · simp only [vwT, hq, Int.toNat_natCast, vwO_len, maxLen]; omega
    · simp only [vwT, vwL_len, maxLen]; omega
  obtain ⟨m, hm⟩ : ∃ m, l.length = m := ⟨_, rfl⟩
  rw [hq, hl, hm] at S
  rw [hl, hm] at hln
  rw [hm] at hfin
  rw [hl] at hlk
  simp only [hq, hl, hm]
  have LV := fun W (hb : Below w.heap.size w W) (i : Nat) hi => rlive_any W R (hR.below hb) hdok i hi
  have CO := fun W (hb : Below w.heap.size w W) a b (i : Int) hi => rcost_any W R (hR.below hb) hdok a b i hi
  unfold LivePost at LV
  unfold RCostPost at CO
  rw [hN] at LV CO ⊢
  have hpos : Hid (∀ a b i c, cstL (vX N a).adj b i = some c → 1 ≤ c) := fun a b i c h => by
    have hmem := cstL_mem h
    unfold vX at hmem
    cases ho : getO N a with
    | none => rw [ho] at hmem; simp [getX, laZero] at hmem
    | some z =>
      rw [ho] at hmem
      have hz : LaValid z.x := by
        unfold getO at ho
        split at ho
        · rw [← hN] at ho; exact (hdok _ z ho).1
        · cases ho
      obtain ⟨n, hn⟩ := List.getElem?_of_mem hmem
      exact (hz.2.2.2.2.2.2.1 n _ (List.getElem?_eq_some_iff.1 hn).1 hn).2.2.2.1.1
  replace LV := Lib.hid LV
  replace CO := Lib.hid CO
  replace hm := Lib.hid hm
  clear rA rB h3 h4 ht hok hq hl hR hdok hN
  generalize t.ov.length = k at *
  obtain ⟨l0, hl0⟩ : ∃ z, RViewPost w N t = z := ⟨_, rfl⟩
  rw [hl0] at hfin ⊢
  clear hl0
  go_enter Try.func29, Try.ntmps29
  go_upto_region 1 with fail
  generalize World.alloc _ _ = w1 at *
  have c0 := S.c 1 0 rfl rfl
  have c1 := S.c 1 1 rfl rfl
  have c2 := S.c 1 2 rfl rfl
  have S0 := S.drew
  have hs1 : w.heap.size + 3 ≤ w1.heap.size := by have := (S.box 0 rfl).lt (by simp); omega
  have Sa := S.alloc (.cells #[] 76)
  have Sb0 := S.new' #[.int .i64 0, .slice none 0 0, .slice none 0 0] 66 w1.heap.size _ rfl rfl
  have Sb := Sb0.alloc (.cells #[] 76)
  have Sc := (S.alloc (.cells #[] 76)).new' #[.int .i64 0, .slice none 0 0, .slice none 0 0] 66 (w1.heap.size + 1) _ (by simp) rfl
  have Sa' := Sa.drew
  have Sb0' := Sb0.drew
  have Sb' := Sb.drew
  have Sc' := Sc.drew
  have oA := own_mono (own_empty w1 76 7) hs1
  have oB := own_mono (own_empty (w1.alloc (.cells #[.int .i64 0, .slice none 0 0, .slice none 0 0] 66)) 76 7) (base := w.heap.size + 3) (by simp; omega)
  have oC := own_below oA (below_new' _ (.cells #[.int .i64 0, .slice none 0 0, .slice none 0 0] 66))
  simp only [World.size_alloc] at oB
  have hl7 : (lksV l).length = m * 7 := by rw [lksV_len, hm.out]
  have hone := lksV_one l
  have hb1 : 0 + m ≤ maxLen := by simp only [maxLen]; omega
  have hb2 : (0 + m) * 56 ≤ 140737488355328 := by omega
  have ra := Sa.r 0 rfl
  have rb := Sb.r 0 rfl
  have rc := Sc.r 0 rfl
  have hsA : w.heap.size + 3 ≤ (w1.alloc (.cells #[] 76)).heap.size := by simp; omega
  have hsB : w.heap.size + 3 ≤ ((w1.alloc (.cells #[.int .i64 0, .slice none 0 0, .slice none 0 0] 66)).alloc (.cells #[] 76)).heap.size := by simp; omega
  have hsC : w.heap.size + 3 ≤ ((w1.alloc (.cells #[] 76)).alloc (.cells #[.int .i64 0, .slice none 0 0, .slice none 0 0] 66)).heap.size := by simp; omega
  have k0 : w1.cell? ⟨w.heap.size + 1, 0, none⟩= some (.int .i64 (q : Int)) ∧ w1.cell? ⟨w.heap.size + 1, 2, none⟩= some (.slice B m d) := ⟨S.c 1 0 rfl rfl, S.c 1 2 rfl rfl⟩
  have k1 : (w1.alloc (.cells #[] 76)).cell? ⟨w.heap.size + 1, 0, none⟩= some (.int .i64 (q : Int)) ∧ (w1.alloc (.cells #[] 76)).cell? ⟨w.heap.size + 1, 2, none⟩= some (.slice B m d) := ⟨Sa.c 1 0 rfl rfl, Sa.c 1 2 rfl rfl⟩
  have k2 : (w1.alloc (.cells #[.int .i64 0, .slice none 0 0, .slice none 0 0] 66)).cell? ⟨w.heap.size + 1, 0, none⟩= some (.int .i64 (q : Int)) ∧ (w1.alloc (.cells #[.int .i64 0, .slice none 0 0, .slice none 0 0] 66)).cell? ⟨w.heap.size + 1, 2, none⟩= some (.slice B m d) := ⟨Sb0.c 2 0 rfl rfl, Sb0.c 2 2 rfl rfl⟩
  have k3 : ((w1.alloc (.cells #[.int .i64 0, .slice none 0 0, .slice none 0 0] 66)).alloc (.cells #[] 76)).cell? ⟨w.heap.size + 1, 0, none⟩= some (.int .i64 (q : Int)) ∧ ((w1.alloc (.cells #[.int .i64 0, .slice none 0 0, .slice none 0 0] 66)).alloc (.cells #[] 76)).cell? ⟨w.heap.size + 1, 2, none⟩= some (.slice B m d) := ⟨Sb.c 2 0 rfl rfl, Sb.c 2 2 rfl rfl⟩
  have k4 : ((w1.alloc (.cells #[] 76)).alloc (.cells #[.int .i64 0, .slice none 0 0, .slice none 0 0] 66)).cell? ⟨w.heap.size + 1, 0, none⟩= some (.int .i64 (q : Int)) ∧ ((w1.alloc (.cells #[] 76)).alloc (.cells #[.int .i64 0, .slice none 0 0, .slice none 0 0] 66)).cell? ⟨w.heap.size + 1, 2, none⟩= some (.slice B m d) := ⟨Sc.c 2 0 rfl rfl, Sc.c 2 2 rfl rfl⟩
  have hs9 : w.heap.size ≤ w1.heap.size := by omega
  have hs10 : w.heap.size ≤ w1.heap.size + 1 := by omega
  have hd9 : ∀ x ∈ ([(w.heap.size + 2, [.int .i64 0, .slice none 0 0, .slice none 0 0]), (w.heap.size + 1, [.int .i64 (q : Int), .slice A k c, .slice B m d]), (w.heap.size, rdC R)] : List (Nat × List Value)), x.1 ≠ w1.heap.size ∧ 0 < x.2.length := by
    intro x hx
    simp only [List.mem_cons, List.not_mem_nil, or_false] at hx
    rcases hx with rfl | rfl | rfl
    · exact ⟨by simp only; omega, by simp⟩
    · exact ⟨by simp only; omega, by simp⟩
    · exact ⟨by simp only; omega, by simp only [rdC_len]; omega⟩
  have hd10 : ∀ x ∈ ([(w1.heap.size, [.int .i64 0, .slice none 0 0, .slice none 0 0]), (w.heap.size + 2, [.int .i64 0, .slice none 0 0, .slice none 0 0]), (w.heap.size + 1, [.int .i64 (q : Int), .slice A k c, .slice B m d]), (w.heap.size, rdC R)] : List (Nat × List Value)), x.1 ≠ w1.heap.size + 1 ∧ 0 < x.2.length := by
    intro x hx
    simp only [List.mem_cons, List.not_mem_nil, or_false] at hx
    rcases hx with rfl | rfl | rfl | rfl
    · exact ⟨by simp only; omega, by simp⟩
    · exact ⟨by simp only; omega, by simp⟩
    · exact ⟨by simp only; omega, by simp⟩
    · exact ⟨by simp only; omega, by simp only [rdC_len]; omega⟩
  have hd11 : ∀ x ∈ ([(w1.heap.size + 1, [.int .i64 0, .slice none 0 0, .slice none 0 0]), (w.heap.size + 2, [.int .i64 0, .slice none 0 0, .slice none 0 0]), (w.heap.size + 1, [.int .i64 (q : Int), .slice A k c, .slice B m d]), (w.heap.size, rdC R)] : List (Nat × List Value)), x.1 ≠ w1.heap.size ∧ 0 < x.2.length := by
    intro x hx
    simp only [List.mem_cons, List.not_mem_nil, or_false] at hx
    rcases hx with rfl | rfl | rfl | rfl
    · exact ⟨by simp only; omega, by simp⟩
    · exact ⟨by simp only; omega, by simp⟩
    · exact ⟨by simp only; omega, by simp⟩
    · exact ⟨by simp only; omega, by simp only [rdC_len]; omega⟩
  go_cut [6] (fun v6 wx => ∃ g6 gB B1 d1, v6 = .pointer (some ⟨g6, 0, none⟩) ∧ Hid (RvAt w wx R q l m A k c B d (.slice none 0 0) g6 gB B1 d1))
  case first =>
    go_region_held3 (fun W => W.cell? ⟨w.heap.size + 1, 0, none⟩ = some (.int .i64 (q : Int)) ∧ W.cell? ⟨w.heap.size + 1, 2, none⟩ = some (.slice B m d)) (first | assumption | go_keep) (first
      | (refine step_appG (o := ⟨some 21, _, _, _, _, _⟩) rfl lkT (.tmp 18) (.tmp 20) (by rfl) (w.heap.size + 3) (by rfl) (show (w1.alloc (.cells #[] 76)).drew.ownsRow _ _ _ _ _ _ from oA) (by rfl) hl7 (show Rd (w1.alloc (.cells #[] 76)).drew _ _ from ra) hone hb1 hb2 hsA m (lksV l) (Nat.zero_add m) (List.nil_append _) ?_; intro v2 w2 hown2 hbel2 hgr2; obtain ⟨B2, d2, rfl, -⟩ := own_rd hown2; have hgr3 : World.grownBy _ w2 (some w1.heap.size) := hgr2; have T2 := St.via Sa' hgr3 hs9 hd9; have FIN := RvAt.of2 T2 hown2 hm.out; have k5 : w2.cell? ⟨w.heap.size + 1, 0, none⟩= some (.int .i64 (q : Int)) ∧ w2.cell? ⟨w.heap.size + 1, 2, none⟩= some (.slice B m d) := ⟨T2.c 1 0 rfl rfl, T2.c 1 2 rfl rfl⟩; have k6 : (w2.alloc (.cells #[.int .i64 0, .slice none 0 0, .slice none 0 0] 66)).cell? ⟨w.heap.size + 1, 0, none⟩= some (.int .i64 (q : Int)) ∧ (w2.alloc (.cells #[.int .i64 0, .slice none 0 0, .slice none 0 0] 66)).cell? ⟨w.heap.size + 1, 2, none⟩= some (.slice B m d) := ⟨(T2.alloc (.cells #[.int .i64 0, .slice none 0 0, .slice none 0 0] 66)).c 1 0 rfl rfl, (T2.alloc (.cells #[.int .i64 0, .slice none 0 0, .slice none 0 0] 66)).c 1 2 rfl rfl⟩; have k7 : (w2.alloc (.cells #[.int .i64 (q : Int), .slice none 0 0, .slice B2 m d2] 66)).cell? ⟨w.heap.size + 1, 0, none⟩= some (.int .i64 (q : Int)) ∧ (w2.alloc (.cells #[.int .i64 (q : Int), .slice none 0 0, .slice B2 m d2] 66)).cell? ⟨w.heap.size + 1, 2, none⟩= some (.slice B m d) := ⟨(T2.alloc (.cells #[.int .i64 (q : Int), .slice none 0 0, .slice B2 m d2] 66)).c 1 0 rfl rfl, (T2.alloc (.cells #[.int .i64 (q : Int), .slice none 0 0, .slice B2 m d2] 66)).c 1 2 rfl rfl⟩)
      | (refine step_appG (o := ⟨some 21, _, _, _, _, _⟩) rfl lkT (.tmp 18) (.tmp 20) (by rfl) (w.heap.size + 3) (by rfl) (show ((w1.alloc (.cells #[.int .i64 0, .slice none 0 0, .slice none 0 0] 66)).alloc (.cells #[] 76)).drew.ownsRow _ _ _ _ _ _ from oB) (by rfl) hl7 (show Rd ((w1.alloc (.cells #[.int .i64 0, .slice none 0 0, .slice none 0 0] 66)).alloc (.cells #[] 76)).drew _ _ from rb) hone hb1 hb2 hsB m (lksV l) (Nat.zero_add m) (List.nil_append _) ?_; intro v2 w2 hown2 hbel2 hgr2; obtain ⟨B2, d2, rfl, -⟩ := own_rd hown2; have hgr3 : World.grownBy _ w2 (some (w1.heap.size + 1)) := hgr2; have T2 := St.via Sb' hgr3 hs10 hd10; have FIN := RvAt.of T2 hown2 hm.out (by omega); have k5 : w2.cell? ⟨w.heap.size + 1, 0, none⟩= some (.int .i64 (q : Int)) ∧ w2.cell? ⟨w.heap.size + 1, 2, none⟩= some (.slice B m d) := ⟨T2.c 2 0 rfl rfl, T2.c 2 2 rfl rfl⟩; have T3 := T2.set3 (.int .i64 (q : Int)) (.slice none 0 0) (.slice B2 m d2) (by omega) (by simp; omega); have k7 : (((w2.setCell ⟨w1.heap.size, 0, none⟩ (.int .i64 (q : Int))).setCell ⟨w1.heap.size, 1, none⟩ (.slice none 0 0)).setCell ⟨w1.heap.size, 2, none⟩ (.slice B2 m d2)).cell? ⟨w.heap.size + 1, 0, none⟩= some (.int .i64 (q : Int)) ∧ (((w2.setCell ⟨w1.heap.size, 0, none⟩ (.int .i64 (q : Int))).setCell ⟨w1.heap.size, 1, none⟩ (.slice none 0 0)).setCell ⟨w1.heap.size, 2, none⟩ (.slice B2 m d2)).cell? ⟨w.heap.size + 1, 2, none⟩= some (.slice B m d) := ⟨T3.c 2 0 rfl rfl, T3.c 2 2 rfl rfl⟩; have p0 := T2.c 0 0 rfl rfl; have p1 := T2.c 0 1 rfl rfl; have p2 := T2.c 0 2 rfl rfl; have f0 := T2.f 0 0 rfl rfl; have f1 := T2.f 0 1 rfl rfl; have f2 := T2.f 0 2 rfl rfl)
      | (refine step_appG (o := ⟨some 21, _, _, _, _, _⟩) rfl lkT (.tmp 18) (.tmp 20) (by rfl) (w.heap.size + 3) (by rfl) (show ((w1.alloc (.cells #[] 76)).alloc (.cells #[.int .i64 0, .slice none 0 0, .slice none 0 0] 66)).drew.ownsRow _ _ _ _ _ _ from oC) (by rfl) hl7 (show Rd ((w1.alloc (.cells #[] 76)).alloc (.cells #[.int .i64 0, .slice none 0 0, .slice none 0 0] 66)).drew _ _ from rc) hone hb1 hb2 hsC m (lksV l) (Nat.zero_add m) (List.nil_append _) ?_; intro v2 w2 hown2 hbel2 hgr2; obtain ⟨B2, d2, rfl, -⟩ := own_rd hown2; have hgr3 : World.grownBy _ w2 (some w1.heap.size) := hgr2; have T2 := St.via Sc' hgr3 hs9 hd11; have FIN := RvAt.of T2 hown2 hm.out (by omega); have k5 : w2.cell? ⟨w.heap.size + 1, 0, none⟩= some (.int .i64 (q : Int)) ∧ w2.cell? ⟨w.heap.size + 1, 2, none⟩= some (.slice B m d) := ⟨T2.c 2 0 rfl rfl, T2.c 2 2 rfl rfl⟩; have T3 := T2.set3 (.int .i64 (q : Int)) (.slice none 0 0) (.slice B2 m d2) (by omega) (by simp; omega); have k7 : (((w2.setCell ⟨w1.heap.size + 1, 0, none⟩ (.int .i64 (q : Int))).setCell ⟨w1.heap.size + 1, 1, none⟩ (.slice none 0 0)).setCell ⟨w1.heap.size + 1, 2, none⟩ (.slice B2 m d2)).cell? ⟨w.heap.size + 1, 0, none⟩= some (.int .i64 (q : Int)) ∧ (((w2.setCell ⟨w1.heap.size + 1, 0, none⟩ (.int .i64 (q : Int))).setCell ⟨w1.heap.size + 1, 1, none⟩ (.slice none 0 0)).setCell ⟨w1.heap.size + 1, 2, none⟩ (.slice B2 m d2)).cell? ⟨w.heap.size + 1, 2, none⟩= some (.slice B m d) := ⟨T3.c 2 0 rfl rfl, T3.c 2 2 rfl rfl⟩; have p0 := T2.c 0 0 rfl rfl; have p1 := T2.c 0 1 rfl rfl; have p2 := T2.c 0 2 rfl rfl; have f0 := T2.f 0 0 rfl rfl; have f1 := T2.f 0 1 rfl rfl; have f2 := T2.f 0 2 rfl rfl))
    all_goals
      obtain ⟨gB, hRv⟩ := FIN
      replace hRv := Lib.hid hRv
      go_wp2_with fail
      go_meet
      exact ⟨_, gB, B2, d2, rfl, hRv⟩
  case rest =>
  obtain ⟨g6, gB, B1, d1, rfl, P⟩ := hcut
  clear k0 k1 k2 k3 k4 hd9 hd10 hd11 hs9 hs10 hs1 hsA hsB hsC ra rb rc hb1 hb2 hone hl7 oA oB oC Sa Sb0 Sb Sc Sa' Sb0' Sb' Sc' S S0 c0 c1 c2
  have hq9 : (q : Int) < 65 := by omega
  have hPe := P.out.e
  have hP6 := P.out.l6
  have hPn := P.out.ne
  have hPh6 := P.out.h6
  have hPhB := P.out.hB
  have S := P.out.st
  clear P
  replace hPe := Lib.hid hPe
  generalize hM : wc.heap.size = M at *
  have hMs : M ≤ wc.heap.size := by omega
  clear hM
  have own0 : Hid (wc.ownsRow M 4 1 (.slice none 0 0) 0 (boV (vwO N 0))) := World.ownsRow_nil _ _ _ _
  go_wp2_with fail
  go_loopw [7] (fun v7 wr => ∃ (i : Nat) (AO : Option Addr) (cO : Nat), v7 = .int .i64 i ∧ i ≤ q ∧ M ≤ wr.heap.size ∧ Hid (wr.ownsRow M 4 1 (.slice AO i cO) i (boV (vwO N i))) ∧ St w wr [(g6, [.int .i64 (q : Int), .slice AO i cO, .slice B1 m d1]), (gB, lksV l), (w.heap.size + 2, [.int .i64 0, .slice none 0 0, .slice none 0 0]), (w.heap.size + 1, [.int .i64 (q : Int), .slice A k c, .slice B m d]), (w.heap.size, rdC R)] [(B, lksV l)]) (fun v7 _ => q - (intOf v7).toNat)
  case atStart => exact ⟨0, none, 0, rfl, by omega, hMs, own0, S⟩
  case round =>
    clear S hMs own0
    obtain ⟨i, AO, cO, rfl, hi, hMs, hown, S⟩ := hrel
    by_cases hiq : i < q
    · have LV1 := LV.out wr S.b i (by omega)
      replace LV1 := Lib.hid LV1
      have hb0 := S.box 4 rfl
      have r0 := S.c 3 0 rfl rfl
      have r1 := S.c 3 1 rfl rfl
      have r2 := S.c 3 2 rfl rfl
      go_wp2_with (first | (refine wpList_loadR (R := R) rfl (.tmp 2) rfl rfl ?hb ?_; (case hb => exact hb0)))
      (with_reducible refine (LV1.out).mono ?_)
      rintro e w5 ⟨v5, q5, y, rfl, hy, hov, -, hb⟩
      clear LV1 hb0
      replace hov := Lib.hid hov
      clear r0 r1 r2
      replace S := S.call hb
      replace hown := Lib.hid (own_below hown.out hb)
      replace hMs := Nat.le_trans hMs hb.size
      clear hb
      obtain ⟨A5, c5, B5, d5, rfl⟩ := hy.form
      clear hy
      have hbn := below_new' w5 (.cells #[.int .i64 y.o, .int .i64 y.s, .int .i64 y.a, .bool y.ov, .slice A5 y.adj.length c5, .slice B5 y.pre.length d5] 30)
      replace S := S.new' #[.int .i64 y.o, .int .i64 y.s, .int .i64 y.a, .bool y.ov, .slice A5 y.adj.length c5, .slice B5 y.pre.length d5] 30 w5.heap.size _ rfl rfl
      replace hown := Lib.hid (own_below hown.out hbn)
      replace hMs := Nat.le_trans hMs hbn.size
      clear hbn
      go_upto_region 6 with fail
      generalize World.alloc w5 _ = w6 at *
      generalize w5.heap.size = g8 at *
      have a0 := S.c 0 0 rfl rfl
      have a1 := S.c 0 1 rfl rfl
      have a2 := S.c 0 2 rfl rfl
      have a3 := S.c 0 3 rfl rfl
      have a4 := S.c 0 4 rfl rfl
      have a5 := S.c 0 5 rfl rfl
      have u0 := S.c 1 0 rfl rfl
      have u1 := S.c 1 1 rfl rfl
      have u2 := S.c 1 2 rfl rfl
      generalize y.ov = yo at *
      have hown2 := own_below hown.out (below_new' w6 (.cells #[.bool yo] 4))
      have rd0 := Rd.lit w6 #[.bool yo] 4
      have hs2 : M ≤ (w6.alloc (.cells #[.bool yo] 4)).heap.size := by simp; omega
      replace S := (S.alloc (.cells #[.bool yo] 4)).keepBoxes [(g6, [.int .i64 (q : Int), .slice AO i cO, .slice B1 m d1]), (gB, lksV l), (w.heap.size + 2, [.int .i64 0, .slice none 0 0, .slice none 0 0]), (w.heap.size + 1, [.int .i64 (q : Int), .slice A k c, .slice B m d]), (w.heap.size, rdC R)] (by simp)
      have hvs : Hid (vwO N (i + 1) = vwO N i ++ [yo]) := by
        show _ = _
        rw [vwO_succ, ← hov.out]
      go_wp2_with (at_builtin; refine wpList_appB rfl boT (.tmp 36) (.tmp 39) rfl M rfl hown2 (m := 1) rfl (by simp) rd0 (by simp [Value.oneCell']) (by simp only [maxLen]; omega) (by omega) hs2 (i + 1) _ rfl rfl ?_; intro v3 w7 hown7 hbel7 hg7 hv7; obtain ⟨A7, c7, rfl, -⟩ := own_rd hown7; have S7 := S.belowB hbel7 (by omega) (by simp; omega); have f1 := S7.f 0 1 rfl rfl; have u1' := S7.c 0 1 rfl rfl; clear hg7 hv7)
      have S8 := S7.set 0 1 (.slice A7 (i + 1) c7) rfl (by simp) (by omega) (by simp; omega) [(g6, [.int .i64 (q : Int), .slice A7 (i + 1) c7, .slice B1 m d1]), (gB, lksV l), (w.heap.size + 2, [.int .i64 0, .slice none 0 0, .slice none 0 0]), (w.heap.size + 1, [.int .i64 (q : Int), .slice A k c, .slice B m d]), (w.heap.size, rdC R)] rfl
      have hown8 := ownsRow_setCell_below (a := ⟨g6, 1, none⟩) hown7 (by simp only; omega) (.slice A7 (i + 1) c7)
      rw [show boV (vwO N i) ++ [Value.bool yo] = boV (vwO N (i + 1)) by rw [hvs.out]; simp [boV]] at hown8
      have hs8 : M ≤ (w7.setCell ⟨g6, 1, none⟩ (.slice A7 (i + 1) c7)).heap.size := by have := hbel7.size; simp; omega
      replace hown8 := Lib.hid hown8
      clear a0 a1 a2 a3 a4 a5
      clear u0 u1 u2
      clear S7 f1 u1' hown7 hbel7 hown2 rd0 hs2 hvs hov S hown hMs
      generalize World.setCell w7 _ _ = w8 at *
      go_wp2_with fail
      go_round
      case rel => exact ⟨i + 1, A7, c7, by go_num, by omega, hs8, hown8, S8⟩
      case measure => simp [intOf]; omega
    · obtain rfl : i = q := by omega
      obtain ⟨gO, rfl, hgO1, hgO2, hbO⟩ := own_box hown.out (by omega)
      replace S := (S.addBox hbO).keepBoxes [(gO, boV (vwO N i)), (g6, [.int .i64 (i : Int), .slice (some ⟨gO, 0, none⟩) i cO, .slice B1 m d1]), (gB, lksV (stL N l 0)), (w.heap.size + 2, [.int .i64 0, .slice none 0 0, .slice none 0 0]), (w.heap.size + 1, [.int .i64 (i : Int), .slice A k c, .slice B m d]), (w.heap.size, rdC R)] (by rw [stL_zero]; simp)
      clear hown hbO
      obtain ⟨M2, hM2⟩ : ∃ z, wr.heap.size = z := ⟨_, rfl⟩
      have hMs2 : M2 ≤ wr.heap.size := by omega
      rw [hM2] at hgO2
      have own0 : Hid (wr.ownsRow M2 4 1 (.slice none 0 0) (2 * 0) (boV (vwD N 0 (l.take 0)))) := World.ownsRow_nil _ _ _ _
      rw [hM2] at hMs
      clear hM2
      have r0 := S.c 4 0 rfl rfl
      have r1 := S.c 4 1 rfl rfl
      have r2 := S.c 4 2 rfl rfl
      go_wp2_with fail
      clear r0 r1 r2
      go_loopw [10, 11] (fun v10 v11 wr => ∃ (j : Nat) (AD : Option Addr) (cD : Nat), v11 = .int .i64 j ∧ v10 = .slice AD (2 * j) cD ∧ j ≤ m ∧ M2 ≤ wr.heap.size ∧ Hid (wr.ownsRow M2 4 1 (.slice AD (2 * j) cD) (2 * j) (boV (vwD N 0 (l.take j)))) ∧ St w wr [(gO, boV (vwO N i)), (g6, [.int .i64 (i : Int), .slice (some ⟨gO, 0, none⟩) i cO, .slice B1 m d1]), (gB, lksV (stL N l j)), (w.heap.size + 2, [.int .i64 0, .slice none 0 0, .slice none 0 0]), (w.heap.size + 1, [.int .i64 (i : Int), .slice A k c, .slice B m d]), (w.heap.size, rdC R)] [(B, lksV l)]) (fun _ v11 _ => m - (intOf v11).toNat)
      case atStart => exact ⟨0, none, 0, rfl, rfl, by omega, hMs2, own0, S⟩
      case round =>
        clear S hMs2 own0
        obtain ⟨j, AD, cD, rfl, rfl, hj, hMs2, hown, S⟩ := hrel
        by_cases hjm : j < m
        · have hjl : j < l.length := by have := hm.out; omega
          obtain ⟨hB1, hBb⟩ : B1 = some ⟨gB, 0, none⟩ ∧ w.heap.size + 3 ≤ gB := by
            rcases hPe.out with ⟨_, e1, e2⟩ | ⟨e1, _⟩
            · exact ⟨e1, e2⟩
            · omega
          subst hB1
          obtain ⟨bt, ot, rfl, hct⟩ := rd_lk (S.r 0 rfl) (by omega)
          have hk := hlk.out l[j] (List.getElem_mem hjl)
          have hset := stL_set N l hjl
          have hsame := stL_same N l hjl
          have hvd : vwD N 0 (l.take (j + 1)) = vwD N 0 (l.take j) ++ [dnB N j l[j], dnB N j l[j]] := by
            rw [List.take_succ_eq_append_getElem hjl, vwD_app]
            simp only [List.length_take, Nat.zero_add, Nat.min_eq_left (Nat.le_of_lt hjl)]
          have hx := hct j hjl
          obtain ⟨x, hxe⟩ : ∃ x, l[j] = x := ⟨_, rfl⟩
          rw [hxe] at hk hset hsame hvd hx
          clear hct hxe
          obtain ⟨pA, hpA⟩ : ∃ z, cA N j x = z := ⟨_, rfl⟩
          obtain ⟨pB, hpB⟩ : ∃ z, cB N j x = z := ⟨_, rfl⟩
          have CO1 := fun W hb => CO.out W hb x.a x.b (j : Int) ⟨hk.a.1, by have := hk.a.2; omega⟩
          have CO2 := fun W hb => CO.out W hb x.b x.a (j : Int) ⟨hk.b.1, by have := hk.b.2; omega⟩
          have eA : cstL (vX N x.a).adj x.b (j : Int) = pA := hpA
          have eB : cstL (vX N x.b).adj x.a (j : Int) = pB := hpB
          have hpA1 : Hid (∀ p, pA = some p → 1 ≤ p) := fun p h => hpos.out x.a x.b (j : Int) p (by rw [eA, h])
          have hpB1 : Hid (∀ p, pB = some p → 1 ≤ p) := fun p h => hpos.out x.b x.a (j : Int) p (by rw [eB, h])
          simp only [eA] at CO1
          simp only [eB] at CO2
          unfold upL at hset hsame
          unfold dnB at hvd
          rw [hpA, hpB] at hset hsame hvd
          clear eA eB hpA hpB hk
          replace hset := Lib.hid hset
          replace hsame := Lib.hid hsame
          replace hvd := Lib.hid hvd
          replace CO1 := Lib.hid CO1
          replace CO2 := Lib.hid CO2
          obtain ⟨x0, x1, x2, x3, x3', x4, x5, x6⟩ := hx
          have r0 := S.c 4 0 rfl rfl
          have r1 := S.c 4 1 rfl rfl
          have r2 := S.c 4 2 rfl rfl
          go_upto_region 12 with fail
          clear x0 x1 x2 x3 x3' x4 x5 x6
          clear r0 r1 r2
          replace S := S.new' #[.int .i64 x.a, .int .i64 x.b, .int .i64 x.c, .int .i64 x.d, .int .i64 x.cap, .int .i64 x.del, .int .i64 x.grp] 76 wr.heap.size _ rfl rfl
          replace hown := Lib.hid (own_below hown.out (below_new' wr (.cells #[.int .i64 x.a, .int .i64 x.b, .int .i64 x.c, .int .i64 x.d, .int .i64 x.cap, .int .i64 x.del, .int .i64 x.grp] 76)))
          replace hMs2 := Nat.le_trans hMs2 (below_new' wr (.cells #[.int .i64 x.a, .int .i64 x.b, .int .i64 x.c, .int .i64 x.d, .int .i64 x.cap, .int .i64 x.del, .int .i64 x.grp] 76)).size
          generalize World.alloc wr _ = w5 at *
          generalize wr.heap.size = g12 at *
          have hS : ∀ W, St w W ((g12, [.int .i64 x.a, .int .i64 x.b, .int .i64 x.c, .int .i64 x.d, .int .i64 x.cap, .int .i64 x.del, .int .i64 x.grp]) :: [(gO, boV (vwO N i)), (g6, [.int .i64 (i : Int), .slice (some ⟨gO, 0, none⟩) i cO, .slice (some ⟨gB, 0, none⟩) m d1]), (gB, lksV (stL N l j)), (w.heap.size + 2, [.int .i64 0, .slice none 0 0, .slice none 0 0]), (w.heap.size + 1, [.int .i64 (i : Int), .slice A k c, .slice (some ⟨bt, ot, none⟩) m d]), (w.heap.size, rdC R)]) [(some ⟨bt, ot, none⟩, lksV l)] → W.cell? ⟨g12, 0, none⟩ = some (.int .i64 x.a) ∧ W.cell? ⟨g12, 1, none⟩ = some (.int .i64 x.b) ∧ W.rangeAt w.heap.size 0 (rdC R) := fun W T => ⟨T.c 0 0 rfl rfl, T.c 0 1 rfl rfl, (T.box 6 rfl).range⟩
          have hS0 := hS _ S.drew
          replace hS := Lib.hid hS
          have hdrew : Hid (∀ wa, Below w5.drew.heap.size w5.drew wa → Below w5.heap.size w5 wa) := fun wa h => ⟨h.os, h.tape, h.output, h.size, h.block⟩
          refine wp_region_noPanic ?_
          refine wp_region_held_drew (S := fun W => W.cell? ⟨g12, 0, none⟩ = some (.int .i64 x.a) ∧ W.cell? ⟨g12, 1, none⟩ = some (.int .i64 x.b) ∧ W.rangeAt w.heap.size 0 (rdC R)) (by kernel_rfl) hS0 (fun hHeld => ?_)
          clear hS0
          refine take_first (i := 1) (v := ?_) (some 55) rfl rfl (by kernel_rfl) (by kernel_rfl) (by kernel_rfl) (fun _ _ _ h => h) (Or.inl ⟨by rfl, ?_⟩) (by assumption) ?_
          rotate_left
          · intro w hSw; (try dsimp only at hSw); go_simp; (try with_reducible rfl)
          (try simp only [Act.put]); (try simp only [List.setIfInBounds_toArray]); (try simp only [List.set_cons_succ]); (try simp only [List.set_cons_zero])
          refine take_first (i := 2) (v := ?_) (some 56) rfl rfl (by kernel_rfl) (by kernel_rfl) (by kernel_rfl) (fun _ _ _ h => h) (Or.inl ⟨by rfl, ?_⟩) (by assumption) ?_
          rotate_left
          · intro w hSw; (try dsimp only at hSw); go_simp; (try with_reducible rfl)
          (try simp only [Act.put]); (try simp only [List.setIfInBounds_toArray]); (try simp only [List.set_cons_succ]); (try simp only [List.set_cons_zero])
          refine take_first (i := 3) (v := ?_) (some 57) rfl rfl (by kernel_rfl) (by kernel_rfl) (by kernel_rfl) (fun _ _ _ h => h) (Or.inl ⟨by rfl, ?_⟩) (by assumption) ?_
          rotate_left
          · intro w hSw; (try dsimp only at hSw); go_simp; (try with_reducible rfl)
          (try simp only [Act.put]); (try simp only [List.setIfInBounds_toArray]); (try simp only [List.set_cons_succ]); (try simp only [List.set_cons_zero])
          refine take_first (i := 4) (v := ?_) (some 58) rfl rfl (by kernel_rfl) (by kernel_rfl) (by kernel_rfl) (fun _ _ _ h => h) (Or.inl ⟨by rfl, ?_⟩) (by assumption) ?_
          rotate_left
          · intro w hSw; (try dsimp only at hSw); go_simp; (try with_reducible rfl)
          (try simp only [Act.put]); (try simp only [List.setIfInBounds_toArray]); (try simp only [List.set_cons_succ]); (try simp only [List.set_cons_zero])
          refine take_first (i := 5) (v := ?_) (some 59) rfl rfl (by kernel_rfl) (by kernel_rfl) (by kernel_rfl) (fun _ _ _ h => h) (Or.inl ⟨by rfl, ?_⟩) (by assumption) ?_
          rotate_left
          · intro w hSw; (try dsimp only at hSw); go_simp; (try with_reducible rfl)
          (try simp only [Act.put]); (try simp only [List.setIfInBounds_toArray]); (try simp only [List.set_cons_succ]); (try simp only [List.set_cons_zero])
          refine take_first (i := 8) (v := ?_) (some 62) rfl rfl (by kernel_rfl) (by kernel_rfl) (by kernel_rfl) (fun _ _ _ h => h) (Or.inl ⟨by rfl, ?_⟩) (by assumption) ?_
          rotate_left
          · intro w hSw; (try dsimp only at hSw); go_simp; (try with_reducible rfl)
          (try simp only [Act.put]); (try simp only [List.setIfInBounds_toArray]); (try simp only [List.set_cons_succ]); (try simp only [List.set_cons_zero])
          refine take_first (i := 9) (v := ?_) (some 63) rfl rfl (by kernel_rfl) (by kernel_rfl) (by kernel_rfl) (fun _ _ _ h => h) (Or.inl ⟨by rfl, ?_⟩) (by assumption) ?_
          rotate_left
          · intro w hSw; (try dsimp only at hSw); go_simp; (try with_reducible rfl)
          (try simp only [Act.put]); (try simp only [List.setIfInBounds_toArray]); (try simp only [List.set_cons_succ]); (try simp only [List.set_cons_zero])
          refine take_first (i := 10) (v := ?_) (some 64) rfl rfl (by kernel_rfl) (by kernel_rfl) (by kernel_rfl) (fun _ _ _ h => h) (Or.inl ⟨by rfl, ?_⟩) (by assumption) ?_
          rotate_left
          · intro w hSw; (try dsimp only at hSw); go_simp; (try with_reducible rfl)
          (try simp only [Act.put]); (try simp only [List.setIfInBounds_toArray]); (try simp only [List.set_cons_succ]); (try simp only [List.set_cons_zero])
          refine take_first (i := 11) (v := ?_) (some 65) rfl rfl (by kernel_rfl) (by kernel_rfl) (by kernel_rfl) (fun _ _ _ h => h) (Or.inl ⟨by rfl, ?_⟩) (by assumption) ?_
          rotate_left
          · intro w hSw; (try dsimp only at hSw); go_simp; (try with_reducible rfl)
          (try simp only [Act.put]); (try simp only [List.setIfInBounds_toArray]); (try simp only [List.set_cons_succ]); (try simp only [List.set_cons_zero])
          refine take_first (i := 12) (v := ?_) (some 66) rfl rfl (by kernel_rfl) (by kernel_rfl) (by kernel_rfl) (fun _ _ _ h => h) (Or.inl ⟨by rfl, ?_⟩) (by assumption) ?_
          rotate_left
          · intro w hSw; (try dsimp only at hSw); go_simp; (try with_reducible rfl)
          (try simp only [Act.put]); (try simp only [List.setIfInBounds_toArray]); (try simp only [List.set_cons_succ]); (try simp only [List.set_cons_zero])
          refine take_loadR (i := 0) (R := R) (g := w.heap.size) (some 54) rfl rfl (by kernel_rfl) (by kernel_rfl) (by kernel_rfl) (fun _ _ _ h => h) rfl (.tmp 2) rfl rfl (fun _ h => h.2.2) (by assumption) ?_
          (try simp only [Act.put]); (try simp only [List.setIfInBounds_toArray]); (try simp only [List.set_cons_succ]); (try simp only [List.set_cons_zero])
          refine take_loadR (i := 7) (R := R) (g := w.heap.size) (some 61) rfl rfl (by kernel_rfl) (by kernel_rfl) (by kernel_rfl) (fun _ _ _ h => h) rfl (.tmp 2) rfl rfl (fun _ h => h.2.2) (by assumption) ?_
          (try simp only [Act.put]); (try simp only [List.setIfInBounds_toArray]); (try simp only [List.set_cons_succ]); (try simp only [List.set_cons_zero])
          refine wpAnyH_ready (rs := [6]) (by kernel_rfl) (by simp) ?_
          refine AllReadyH.cons rfl (fun K hK => ?_) AllReadyH.nil
          go_simp
          (with_reducible refine (CO1.out w5.drew S.drew.b).mono ?_)
          rintro e wa ⟨rfl, hba⟩
          dsimp only
          have Sa := S.call (hdrew.out _ hba)
          have hownA := Lib.hid (own_below hown.out (hdrew.out _ hba))
          have hMsA := Nat.le_trans hMs2 (hdrew.out _ hba).size
          refine hK.out _ _ (hS.out _ Sa) (fun hHeld => ?_)
          clear hK K S hown hMs2 hba
          refine wpAnyH_ready (rs := [13]) (by kernel_rfl) (by simp) ?_
          refine AllReadyH.cons rfl (fun K hK => ?_) AllReadyH.nil
          go_simp
          (with_reducible refine (CO2.out wa Sa.b).mono ?_)
          rintro e wb ⟨rfl, hbb⟩
          dsimp only
          have Sb := Sa.call hbb
          have hownB := Lib.hid (own_below hownA.out hbb)
          have hMsB := Nat.le_trans hMsA hbb.size
          refine hK.out _ _ (hS.out _ Sb) (fun hHeld => ?_)
          clear hK K Sa hownA hMsA hbb
          refine take_first (i := 14) (v := .int .i64 (pA.getD 0)) (some 13) rfl rfl (by kernel_rfl) (by kernel_rfl) (by kernel_rfl) (fun _ _ _ h => h) (Or.inl ⟨by rfl, fun _ _ => rfl⟩) (by assumption) ?_
          (try simp only [Act.put]); (try simp only [List.setIfInBounds_toArray]); (try simp only [List.set_cons_succ]); (try simp only [List.set_cons_zero])
          refine take_first (i := 15) (v := .int .i64 (pB.getD 0)) (some 14) rfl rfl (by kernel_rfl) (by kernel_rfl) (by kernel_rfl) (fun _ _ _ h => h) (Or.inl ⟨by rfl, fun _ _ => rfl⟩) (by assumption) ?_
          (try simp only [Act.put]); (try simp only [List.setIfInBounds_toArray]); (try simp only [List.set_cons_succ]); (try simp only [List.set_cons_zero])
          refine wpAnyH_done (by kernel_rfl) ?_ _
          refine NoPanic.normal ?_
          clear hHeld
          rcases pA with _ | pa
          · have en : Hid (stL N l (j + 1) = stL N l j) := hsame.out (if_neg (by simp))
            replace Sb := Sb.keepBoxes [(gO, boV (vwO N i)), (g6, [.int .i64 (i : Int), .slice (some ⟨gO, 0, none⟩) i cO, .slice (some ⟨gB, 0, none⟩) m d1]), (gB, lksV (stL N l (j + 1))), (w.heap.size + 2, [.int .i64 0, .slice none 0 0, .slice none 0 0]), (w.heap.size + 1, [.int .i64 (i : Int), .slice A k c, .slice (some ⟨bt, ot, none⟩) m d]), (w.heap.size, rdC R)] (by rw [en.out]; simp)
            clear hset hsame en hpA1 hpB1 hS hdrew CO1 CO2
            go_upto_region 16 with fail
            generalize hwz : wb = wz at *
            clear hwz
            have hown2 := own_below hownB.out (below_new' wz (.cells #[.bool true, .bool true] 4))
            have rd0 := Rd.lit wz #[.bool true, .bool true] 4
            have hs2 : M2 ≤ (wz.alloc (.cells #[.bool true, .bool true] 4)).heap.size := by simp; omega
            replace Sb := Sb.alloc (.cells #[.bool true, .bool true] 4)
            have hvs : Hid (boV (vwD N 0 (l.take j)) ++ [.bool true, .bool true] = boV (vwD N 0 (l.take (j + 1)))) := by
              show _ = _
              rw [hvd.out]; simp [boV]
            clear hvd hownB hMsB
            go_wp2_with (at_builtin; refine wpList_appB rfl boT (.tmp 83) (.tmp 88) rfl M2 rfl hown2 (m := 2) rfl (by simp) rd0 (by simp [Value.oneCell']) (by simp only [maxLen]; omega) (by omega) hs2 (2 * (j + 1)) _ (by omega) rfl ?_; intro v3 w7 hown7 hbel7 hg7 hv7; obtain ⟨A7, c7, rfl, -⟩ := own_rd hown7; clear hg7 hv7)
            replace Sb := Sb.belowB hbel7 (by omega) (by simp; omega)
            have hs8 : M2 ≤ w7.heap.size := Nat.le_trans hs2 hbel7.size
            rw [show boV (vwD N 0 (l.take j)) ++ #[Value.bool true, Value.bool true].toList = boV (vwD N 0 (l.take (j + 1))) from hvs.out] at hown7
            replace hown7 := Lib.hid hown7
            clear hbel7 hown2 rd0 hs2 hvs
            go_wp2_with fail
            go_round
            case rel => exact ⟨j + 1, A7, c7, by go_num, by with_reducible rfl, by omega, hs8, hown7, Sb⟩
            case measure => simp [intOf]; omega
          have hdA : decide (0 < pa) = true := by have := hpA1.out pa rfl; simp; omega
          rcases pB with _ | pb
          · have en : Hid (stL N l (j + 1) = stL N l j) := hsame.out (if_neg (by simp))
            replace Sb := Sb.keepBoxes [(gO, boV (vwO N i)), (g6, [.int .i64 (i : Int), .slice (some ⟨gO, 0, none⟩) i cO, .slice (some ⟨gB, 0, none⟩) m d1]), (gB, lksV (stL N l (j + 1))), (w.heap.size + 2, [.int .i64 0, .slice none 0 0, .slice none 0 0]), (w.heap.size + 1, [.int .i64 (i : Int), .slice A k c, .slice (some ⟨bt, ot, none⟩) m d]), (w.heap.size, rdC R)] (by rw [en.out]; simp)
            clear hset hsame en hpA1 hpB1 hS hdrew CO1 CO2
            go_upto_region 16 with fail
            generalize hwz : wb = wz at *
            clear hwz
            have hown2 := own_below hownB.out (below_new' wz (.cells #[.bool true, .bool true] 4))
            have rd0 := Rd.lit wz #[.bool true, .bool true] 4
            have hs2 : M2 ≤ (wz.alloc (.cells #[.bool true, .bool true] 4)).heap.size := by simp; omega
            replace Sb := Sb.alloc (.cells #[.bool true, .bool true] 4)
            have hvs : Hid (boV (vwD N 0 (l.take j)) ++ [.bool true, .bool true] = boV (vwD N 0 (l.take (j + 1)))) := by
              show _ = _
              rw [hvd.out]; simp [boV]
            clear hvd hownB hMsB
            go_wp2_with (at_builtin; refine wpList_appB rfl boT (.tmp 83) (.tmp 88) rfl M2 rfl hown2 (m := 2) rfl (by simp) rd0 (by simp [Value.oneCell']) (by simp only [maxLen]; omega) (by omega) hs2 (2 * (j + 1)) _ (by omega) rfl ?_; intro v3 w7 hown7 hbel7 hg7 hv7; obtain ⟨A7, c7, rfl, -⟩ := own_rd hown7; clear hg7 hv7)
            replace Sb := Sb.belowB hbel7 (by omega) (by simp; omega)
            have hs8 : M2 ≤ w7.heap.size := Nat.le_trans hs2 hbel7.size
            rw [show boV (vwD N 0 (l.take j)) ++ #[Value.bool true, Value.bool true].toList = boV (vwD N 0 (l.take (j + 1))) from hvs.out] at hown7
            replace hown7 := Lib.hid hown7
            clear hbel7 hown2 rd0 hs2 hvs
            go_wp2_with fail
            go_round
            case rel => exact ⟨j + 1, A7, c7, by go_num, by with_reducible rfl, by omega, hs8, hown7, Sb⟩
            case measure => simp [intOf]; omega
          have hdB : decide (0 < pb) = true := by have := hpB1.out pb rfl; simp; omega
          have ed : Hid (((lksV (stL N l j)).set (j * 7 + 2) (.int .i64 pa)).set (j * 7 + 3) (.int .i64 pb) = lksV (stL N l (j + 1))) := hset.out pa pb (if_pos rfl)
          replace Sb := Sb.keepBoxes [(gO, boV (vwO N i)), (g6, [.int .i64 (i : Int), .slice (some ⟨gO, 0, none⟩) i cO, .slice (some ⟨gB, 0, none⟩) m d1]), (gB, lksV (stL N l j)), (w.heap.size + 2, [.int .i64 0, .slice none 0 0, .slice none 0 0]), (w.heap.size + 1, [.int .i64 (i : Int), .slice A k c, .slice (some ⟨bt, ot, none⟩) m d]), (w.heap.size, rdC R)] (by simp)
          have hll : (lksV (stL N l j)).length = m * 7 := by rw [lksV_len, stL_len N l (by omega), hm.out]
          have y2 := Sb.f 2 (j * 7 + 2) rfl (List.getElem?_eq_getElem (by omega))
          have y3 := Sb.f 2 (j * 7 + 3) rfl (List.getElem?_eq_getElem (by omega))
          have z2 := Sb.c 2 (j * 7 + 2) rfl (List.getElem?_eq_getElem (by omega))
          have z3 := Sb.c 2 (j * 7 + 3) rfl (List.getElem?_eq_getElem (by omega))
          generalize (lksV (stL N l j))[j * 7 + 2]'_ = zz2 at z2
          generalize (lksV (stL N l j))[j * 7 + 3]'_ = zz3 at z3
          have u0 := Sb.c 1 0 rfl rfl
          have u1 := Sb.c 1 1 rfl rfl
          have u2 := Sb.c 1 2 rfl rfl
          have S9 := (Sb.set 2 (j * 7 + 2) (.int .i64 pa) rfl (by omega) (by omega) (by simp; omega) _ rfl).set 2 (j * 7 + 3) (.int .i64 pb) rfl (by rw [List.length_set]; omega) (by omega) (by simp; omega) [(gO, boV (vwO N i)), (g6, [.int .i64 (i : Int), .slice (some ⟨gO, 0, none⟩) i cO, .slice (some ⟨gB, 0, none⟩) m d1]), (gB, lksV (stL N l (j + 1))), (w.heap.size + 2, [.int .i64 0, .slice none 0 0, .slice none 0 0]), (w.heap.size + 1, [.int .i64 (i : Int), .slice A k c, .slice (some ⟨bt, ot, none⟩) m d]), (w.heap.size, rdC R)] (by rw [← ed.out]; rfl)
          have hown9 := ownsRow_setCell_below (a := ⟨gB, j * 7 + 3, none⟩) (ownsRow_setCell_below (a := ⟨gB, j * 7 + 2, none⟩) hownB.out (by simp only; omega) (.int .i64 pa)) (by simp only; omega) (.int .i64 pb)
          have hMs9 : M2 ≤ ((wb.setCell ⟨gB, j * 7 + 2, none⟩ (.int .i64 pa)).setCell ⟨gB, j * 7 + 3, none⟩ (.int .i64 pb)).heap.size := by simp; omega
          replace hown9 := Lib.hid hown9
          clear hset hsame ed hpA1 hpB1 hS hdrew CO1 CO2
          go_upto_region 16 with fail
          clear y2 y3 z2 z3 hll hownB hMsB Sb
          clear u0 u1 u2
          generalize World.setCell (World.setCell wb _ _) _ _ = wz at *
          have hownB := hown9
          have hMsB := hMs9
          have Sb := S9
          clear hown9 hMs9 S9
          have hown2 := own_below hownB.out (below_new' wz (.cells #[.bool false, .bool false] 4))
          have rd0 := Rd.lit wz #[.bool false, .bool false] 4
          have hs2 : M2 ≤ (wz.alloc (.cells #[.bool false, .bool false] 4)).heap.size := by simp; omega
          replace Sb := Sb.alloc (.cells #[.bool false, .bool false] 4)
          have hvs : Hid (boV (vwD N 0 (l.take j)) ++ [.bool false, .bool false] = boV (vwD N 0 (l.take (j + 1)))) := by
            show _ = _
            rw [hvd.out]; simp [boV]
          clear hvd hownB hMsB
          go_wp2_with (at_builtin; refine wpList_appB rfl boT (.tmp 83) (.tmp 88) rfl M2 rfl hown2 (m := 2) rfl (by simp) rd0 (by simp [Value.oneCell']) (by simp only [maxLen]; omega) (by omega) hs2 (2 * (j + 1)) _ (by omega) rfl ?_; intro v3 w7 hown7 hbel7 hg7 hv7; obtain ⟨A7, c7, rfl, -⟩ := own_rd hown7; clear hg7 hv7)
          replace Sb := Sb.belowB hbel7 (by omega) (by simp; omega)
          have hs8 : M2 ≤ w7.heap.size := Nat.le_trans hs2 hbel7.size
          rw [show boV (vwD N 0 (l.take j)) ++ #[Value.bool false, Value.bool false].toList = boV (vwD N 0 (l.take (j + 1))) from hvs.out] at hown7
          replace hown7 := Lib.hid hown7
          clear hbel7 hown2 rd0 hs2 hvs
          go_wp2_with fail
          go_round
          case rel => exact ⟨j + 1, A7, c7, by go_num, by with_reducible rfl, by omega, hs8, hown7, Sb⟩
          case measure => simp [intOf]; omega
        · obtain rfl : j = m := by omega
          have eL : stL N l j = vwL N 0 l := by rw [← hm.out]; exact stL_end N l
          rw [eL] at S
          rw [show l.take j = l by rw [← hm.out]; exact List.take_length] at hown
          have r0 := S.c 1 0 rfl rfl
          have r1 := S.c 1 1 rfl rfl
          have r2 := S.c 1 2 rfl rfl
          have a0 := S.c 3 0 rfl rfl
          have a1 := S.c 3 1 rfl rfl
          have a2 := S.c 3 2 rfl rfl
          have u0 := S.c 4 0 rfl rfl
          have u1 := S.c 4 1 rfl rfl
          have u2 := S.c 4 2 rfl rfl
          have f0 := S.f 3 0 rfl rfl
          have f1 := S.f 3 1 rfl rfl
          have f2 := S.f 3 2 rfl rfl
          have hgB : gB = w.heap.size ∨ w.heap.size + 3 ≤ gB := by
            rcases hPe.out with ⟨_, _, e⟩ | ⟨_, e⟩
            · exact .inr e
            · exact .inl e
          have S9 := (((S.set 3 0 (.int .i64 (i : Int)) rfl (by simp) (by omega) (by simp; omega) _ rfl).set 3 1 (.slice (some ⟨gO, 0, none⟩) i cO) rfl (by simp) (by omega) (by simp; omega) _ rfl).set 3 2 (.slice B1 j d1) rfl (by simp) (by omega) (by simp; omega) _ rfl)
          have R1 := (S9.box 0 rfl).rd
          have R3 : Rd _ B1 (lksV (vwL N 0 l)) := fun hn => by
            rcases hPe.out with ⟨_, e, _⟩ | ⟨e, _⟩
            · have := (S9.box 2 rfl).rd hn
              rwa [← e] at this
            · rw [lksV_len, vwL_len, hm.out] at hn; omega
          have hown9 := ownsRow_setCell_below (a := ⟨w.heap.size + 2, 2, none⟩) (ownsRow_setCell_below (a := ⟨w.heap.size + 2, 1, none⟩) (ownsRow_setCell_below (a := ⟨w.heap.size + 2, 0, none⟩) hown.out (by simp only; omega) (.int .i64 (i : Int))) (by simp only; omega) (.slice (some ⟨gO, 0, none⟩) i cO)) (by simp only; omega) (.slice B1 j d1)
          have R0 := own_slice hown9
          have hf9 := hfin.out _ _ cO _ d1 _ cD R1 R3 R0 S9.b
          replace hf9 := Lib.hid hf9
          clear R1 R0 R3 S9 S hown hown9
          go_wp2_with fail
          exact bodyPost_ret (v := .tuple #[tpV (i : Int) (some ⟨gO, 0, none⟩) i cO B1 j d1, .slice AD (2 * j) cD]) (by simp [results, Try.results29, go_sem, a0, a1, a2]) rfl hf9.out

end Go.Proofs.Ytkmpmgojgidcgaa

namespace Go.Proofs.Ytkmpmgojgidcgaa
set_option linter.unusedVariables false
open Go.RowKit Go.Maps Go.Sort

def busB (l : List Bool) : Bool := l.any id
set_option maxRecDepth 100000 in
set_option maxHeartbeats 3200000 in
theorem busy_any (w : World) (v : Value) (t : Tp) (h : TpAt w v t) : Calls Try.prog 79 #[v] w fun e w' => e = .returned (.bool (busB t.ov)) ∧ Below w.heap.size w w' := by
  obtain ⟨A, c, B, d, rfl, rA, rB, h1, h2⟩ := h
  have S := ((St.start w).read rA).new' #[.int .i64 t.n, .slice A t.ov.length c, .slice B t.ln.length d] 66 w.heap.size _ rfl rfl
  clear rA rB
  unfold maxLen at h1
  generalize t.ln.length = m at *
  generalize t.n = n at *
  obtain ⟨l, hl⟩ : ∃ l, t.ov = l := ⟨_, rfl⟩
  rw [hl] at S h1 ⊢
  clear hl
  obtain ⟨k, hk⟩ : ∃ k, l.length = k := ⟨_, rfl⟩
  rw [hk] at S h1 ⊢
  replace hk := Lib.hid hk
  obtain ⟨r, hr⟩ : ∃ r, busB l = r := ⟨_, rfl⟩
  rw [hr]
  have hr0 : Hid (busB (l.drop 0) = r) := hr
  clear hr
  go_enter Try.func79, Try.ntmps79
  go_wp2_with fail
  generalize World.alloc w _ = w1 at *
  go_loopw [3] (fun v3 wr => ∃ i : Nat, v3 = .int .i64 i ∧ i ≤ k ∧ Hid (busB (l.drop i) = r) ∧ St w wr [(w.heap.size, [.int .i64 n, .slice A k c, .slice B m d])] [(A, boV l)]) (fun v3 _ => k - (intOf v3).toNat)
  case atStart => exact ⟨0, rfl, by omega, hr0, S⟩
  case round =>
    clear S hr0
    obtain ⟨i, rfl, hi, hr, S⟩ := hrel
    have r0 := S.c 0 0 rfl rfl
    have r1 := S.c 0 1 rfl rfl
    have r2 := S.c 0 2 rfl rfl
    by_cases hik : i < k
    · have hil : i < l.length := by have := hk.out; omega
      obtain ⟨b, off, rfl, hc⟩ := rd_bo (S.r 0 rfl) (by omega)
      have x0 := hc i hil
      have hd := hr.out
      rw [List.drop_eq_getElem_cons hil] at hd
      simp only [busB, List.any_cons, id] at hd
      generalize l[i] = x at *
      clear hc hr
      cases x with
      | true =>
        simp only [Bool.true_or] at hd
        subst hd
        go_wp2_with fail
        go_ret
        exact ⟨rfl, S.b⟩
      | false =>
        simp only [Bool.false_or] at hd
        have hd2 : Hid (busB (l.drop (i + 1)) = r) := hd
        clear hd
        go_wp2_with fail
        go_round
        case rel => exact ⟨i + 1, by go_num, by omega, hd2, S⟩
        case measure => simp [intOf]; omega
    · obtain rfl : i = k := by omega
      have e := hr.out
      rw [List.drop_of_length_le (by have := hk.out; omega)] at e
      subst e
      go_wp2_with fail
      go_ret
      exact ⟨rfl, S.b⟩

set_option maxRecDepth 100000 in
set_option maxHeartbeats 6400000 in
theorem rtsame_any (w : World) (v u : Value) (t : Tp) (h : TpAt w v t) (h' : TpAt w u t) : Calls Try.prog 53 #[v, u] w fun e w' => e = .returned (.bool true) ∧ Below w.heap.size w w' := by
  obtain ⟨A, c, B, d, rfl, rA, rB, h1, h2⟩ := id h
  obtain ⟨A', c', B', d', rfl, rA', rB', _, _⟩ := id h'
  have S := ((((((St.start w).read rB').read rA').read rB).read rA).new' #[.int .i64 t.n, .slice A t.ov.length c, .slice B t.ln.length d] 66 w.heap.size _ rfl rfl).new' #[.int .i64 t.n, .slice A' t.ov.length c', .slice B' t.ln.length d'] 66 (w.heap.size + 1) _ (by simp) rfl
  have B1 := fun W hb => busy_any W _ t (h.below hb)
  have B2 := fun W hb => busy_any W _ t (h'.below hb)
  clear rA rB rA' rB' h h'
  unfold maxLen at h1 h2
  obtain ⟨bb, hbb⟩ : ∃ z, busB t.ov = z := ⟨_, rfl⟩
  rw [hbb] at B1 B2
  clear hbb
  replace B1 := Lib.hid B1
  replace B2 := Lib.hid B2
  generalize t.n = n at *
  obtain ⟨lo, hlo⟩ : ∃ l, t.ov = l := ⟨_, rfl⟩
  obtain ⟨ll, hll⟩ : ∃ l, t.ln = l := ⟨_, rfl⟩
  rw [hlo] at S h1 B1 B2 ⊢
  rw [hll] at S h2 B1 B2 ⊢
  clear hlo hll
  obtain ⟨k, hk⟩ : ∃ k, lo.length = k := ⟨_, rfl⟩
  obtain ⟨m, hm⟩ : ∃ k, ll.length = k := ⟨_, rfl⟩
  rw [hk] at S h1 B1 B2 ⊢
  rw [hm] at S h2 B1 B2 ⊢
  replace hk := Lib.hid hk
  replace hm := Lib.hid hm
  have e1 : (n != n) = false := by simp
  have e2 : ((m : Int) != (m : Int)) = false := by simp
  have e3 : (bb != bb) = false := by simp
  have e4 : ((k : Int) != (k : Int)) = false := by simp
  go_enter Try.func53, Try.ntmps53
  go_upto_region 1 with fail
  generalize World.alloc _ _ = w1 at *
  have BA := fun W (hb : Below w1.heap.size w1 W) => B1.out W (S.b.trans (hb.mono S.b.size))
  have BB := fun W (hb : Below w1.heap.size w1 W) => B2.out W (S.b.trans (hb.mono S.b.size))
  replace BA := Lib.hid BA
  replace BB := Lib.hid BB
  have a0 := cell_regrown (S.c 0 0 rfl rfl)
  have a1 := cell_regrown (S.c 0 1 rfl rfl)
  have a2 := cell_regrown (S.c 0 2 rfl rfl)
  have b0 := cell_regrown (S.c 1 0 rfl rfl)
  have b1 := cell_regrown (S.c 1 1 rfl rfl)
  have b2 := cell_regrown (S.c 1 2 rfl rfl)
  refine wp_region_quiet_below (by kernel_rfl) (by kernel_rfl) ?_
  repeat (go_big_quiet_step ((first | (go_at_call 79; with_reducible exact Calls.regrown_of (BA.out _ (below_regrown _ _ _))) | (go_at_call 79; with_reducible exact Calls.regrown_of (BB.out _ (below_regrown _ _ _))))))
  refine wpQuiet_nil ?_
  intro _ hw'
  obtain ⟨⟨dq, osq⟩, hw''⟩ := hw'
  subst hw''
  replace S := S.call (below_regrown _ dq osq)
  generalize grow (redrawn _ dq) osq = w2 at *
  clear a0 a1 a2
  clear b0 b1 b2
  clear BA BB B2
  go_wp2_with fail
  go_loopw [5] (fun v5 wr => ∃ i : Nat, v5 = .int .i64 i ∧ i ≤ m ∧ St w wr [(w.heap.size + 1, [.int .i64 n, .slice A' k c', .slice B' m d']), (w.heap.size, [.int .i64 n, .slice A k c, .slice B m d])] [(A, boV lo), (B, lksV ll), (A', boV lo), (B', lksV ll)]) (fun v5 _ => m - (intOf v5).toNat)
  case atStart => exact ⟨0, rfl, by omega, S⟩
  case round =>
    clear S
    obtain ⟨i, rfl, hi, S⟩ := hrel
    have a0 := S.c 0 0 rfl rfl
    have a1 := S.c 0 1 rfl rfl
    have a2 := S.c 0 2 rfl rfl
    have b0 := S.c 1 0 rfl rfl
    have b1 := S.c 1 1 rfl rfl
    have b2 := S.c 1 2 rfl rfl
    by_cases him : i < m
    · have hil : i < ll.length := by have := hm.out; omega
      obtain ⟨p, off, rfl, hc⟩ := rd_lk (S.r 1 rfl) (by omega)
      obtain ⟨p', off', rfl, hc'⟩ := rd_lk (S.r 3 rfl) (by omega)
      obtain ⟨x0, x1, x2, x3, x3', x4, x5, x6⟩ := hc i hil
      obtain ⟨y0, y1, y2, y3, y3', y4, y5, y6⟩ := hc' i hil
      generalize ll[i] = x at *
      have NE := fun W => neq_lk W x
      have hG := lk_guard
      unfold lkA at NE
      obtain ⟨xa, xb, xc, xd, xe, xf, xg⟩ := x
      simp only at x0 x1 x2 x3 x3' x4 x5 x6 y0 y1 y2 y3 y3' y4 y5 y6 NE
      clear hc hc' B1
      go_wp2_with fail
      go_quiet (fail)
      go_wp2_with fail
      go_round
      case rel => exact ⟨i + 1, by go_num, by omega, S.drewN nq⟩
      case measure => simp [intOf]; omega
    · obtain rfl : i = m := by omega
      have BA := B1.out wr S.b
      replace BA := Lib.hid BA
      clear B1
      go_wp2_with fail
      (with_reducible refine (BA.out).mono ?_)
      rintro e w3 ⟨rfl, hb⟩
      clear a0 a1 a2
      clear b0 b1 b2
      replace S := S.call hb
      clear BA hb
      have a0 := S.c 0 0 rfl rfl
      have a1 := S.c 0 1 rfl rfl
      have a2 := S.c 0 2 rfl rfl
      have b0 := S.c 1 0 rfl rfl
      have b1 := S.c 1 1 rfl rfl
      have b2 := S.c 1 2 rfl rfl
      cases bb with
      | false =>
        go_wp2_with fail
        go_ret
        exact ⟨rfl, S.b⟩
      | true =>
        go_wp2_with fail
        clear a0 a1 a2
        clear b0 b1 b2
        go_loopw [6] (fun v6 wr => ∃ j : Nat, v6 = .int .i64 j ∧ j ≤ k ∧ St w wr [(w.heap.size + 1, [.int .i64 n, .slice A' k c', .slice B' i d']), (w.heap.size, [.int .i64 n, .slice A k c, .slice B i d])] [(A, boV lo), (B, lksV ll), (A', boV lo), (B', lksV ll)]) (fun v6 _ => k - (intOf v6).toNat)
        case atStart => exact ⟨0, rfl, by omega, S⟩
        case round =>
          clear S
          obtain ⟨j, rfl, hj, S⟩ := hrel
          have a0 := S.c 0 0 rfl rfl
          have a1 := S.c 0 1 rfl rfl
          have a2 := S.c 0 2 rfl rfl
          have b0 := S.c 1 0 rfl rfl
          have b1 := S.c 1 1 rfl rfl
          have b2 := S.c 1 2 rfl rfl
          by_cases hjk : j < k
          · have hjl : j < lo.length := by have := hk.out; omega
            obtain ⟨p, off, rfl, hc⟩ := rd_bo (S.r 0 rfl) (by omega)
            obtain ⟨p', off', rfl, hc'⟩ := rd_bo (S.r 2 rfl) (by omega)
            have x0 := hc j hjl
            have y0 := hc' j hjl
            generalize lo[j] = x at *
            have e5 : (x != x) = false := by simp
            clear hc hc'
            go_wp2_with fail
            go_quiet (fail)
            go_wp2_with fail
            go_round
            case rel => exact ⟨j + 1, by go_num, by omega, S.drewN nq⟩
            case measure => simp [intOf]; omega
          · obtain rfl : j = k := by omega
            go_wp2_with fail
            go_ret
            exact ⟨rfl, S.b⟩

set_option maxRecDepth 100000 in
set_option maxHeartbeats 6400000 in
theorem rsameview_any (w : World) (v u : Value) (t : Tp) (D E : Option Addr) (k c d : Nat) (l : List Bool) (h : TpAt w v t) (h' : TpAt w u t) (hD : Rd w D (boV l)) (hE : Rd w E (boV l)) (hk : l.length = k) (hk9 : k ≤ 1000000) :
    Calls Try.prog 30 #[v, u, .slice D k c, .slice E k d] w fun e w' => e = .returned (.bool true) ∧ Below w.heap.size w w' := by
  obtain ⟨A, ca, B, da, rfl, _⟩ := id h
  obtain ⟨A', ca', B', da', rfl, _⟩ := id h'
  have S := ((((St.start w).read hE).read hD).new' #[.int .i64 t.n, .slice A t.ov.length ca, .slice B t.ln.length da] 66 w.heap.size _ rfl rfl).new' #[.int .i64 t.n, .slice A' t.ov.length ca', .slice B' t.ln.length da'] 66 (w.heap.size + 1) _ (by simp) rfl
  have SM := rtsame_any _ _ _ t (h.below S.b) (h'.below S.b)
  replace SM := Lib.hid SM
  clear hE hD h h'
  replace hk := Lib.hid hk
  have e4 : ((k : Int) != (k : Int)) = false := by simp
  generalize t.n = n at *
  generalize t.ov.length = ko at *
  generalize t.ln.length = m at *
  have a0 := S.c 0 0 rfl rfl
  have a1 := S.c 0 1 rfl rfl
  have a2 := S.c 0 2 rfl rfl
  have b0 := S.c 1 0 rfl rfl
  have b1 := S.c 1 1 rfl rfl
  have b2 := S.c 1 2 rfl rfl
  go_enter Try.func30, Try.ntmps30
  go_wp2_with fail
  (with_reducible refine (SM.out).mono ?_)
  rintro e w1 ⟨rfl, hb⟩
  clear a0 a1 a2
  clear b0 b1 b2
  replace S := S.call hb
  clear SM hb
  go_wp2_with fail
  replace S := S.keepBoxes [] (by simp)
  go_loopw [9] (fun v9 wr => ∃ j : Nat, v9 = .int .i64 j ∧ j ≤ k ∧ St w wr [] [(D, boV l), (E, boV l)]) (fun v9 _ => k - (intOf v9).toNat)
  case atStart => exact ⟨0, rfl, by omega, S⟩
  case round =>
    clear S
    obtain ⟨j, rfl, hj, S⟩ := hrel
    by_cases hjk : j < k
    · have hjl : j < l.length := by have := hk.out; omega
      obtain ⟨p, off, rfl, hc⟩ := rd_bo (S.r 0 rfl) (by omega)
      obtain ⟨p', off', rfl, hc'⟩ := rd_bo (S.r 1 rfl) (by omega)
      have x0 := hc j hjl
      have y0 := hc' j hjl
      generalize l[j] = x at *
      have e5 : (x != x) = false := by simp
      clear hc hc'
      go_wp2_with fail
      go_quiet (fail)
      go_wp2_with fail
      go_round
      case rel => exact ⟨j + 1, by go_num, by omega, S.drewN nq⟩
      case measure => simp [intOf]; omega
    · obtain rfl : j = k := by omega
      go_wp2_with fail
      go_ret
      exact ⟨rfl, S.b⟩

end Go.Proofs.Ytkmpmgojgidcgaa

namespace Go.Proofs.Ytkmpmgojgidcgaa
set_option linter.unusedVariables false
open Go.RowKit Go.Maps Go.Sort

set_option maxRecDepth 100000 in
set_option maxHeartbeats 12800000 in
theorem view33_law (w : World) (A : Option Addr) (n c : Nat) (l : List Sx) (hA : Rd w A (sxV l)) (hn : l.length = n) (hm : n ≤ maxLen) (hok : ∀ s ∈ l, LxOk w s.x ∧ (Lit.int .i64 s.t).wf = true) (v : Value) (t : Tp) (ht : TpAt w v t) :
    Calls Try.prog 7 #[.slice A n c, v] w fun e w' => e = .returned (.bool true) ∧ Below w.heap.size w w' := by
  obtain ⟨At, ct, Bt, dt, rfl, rAt, rBt, h3, h4⟩ := id ht
  unfold maxLen at hm h3 h4
  have hokb : Hid (∀ W, Below w.heap.size w W → ∀ s ∈ l, LxOk W s.x ∧ (Lit.int .i64 s.t).wf = true) := fun W hb s hs => by
    obtain ⟨h1, h2⟩ := hok s hs
    unfold LxOk at *
    exact ⟨h1.below hb, h2⟩
  have S := ((St.start w).read hA).new' #[.int .i64 t.n, .slice At t.ov.length ct, .slice Bt t.ln.length dt] 66 w.heap.size _ rfl rfl
  have TR := fun W (hb : Below w.heap.size w W) => rtvalid_any W _ t (ht.below hb)
  have VW := fun W g b N (hb : Below w.heap.size w W) (h : DbAt W g b N) (hf : Few33 N) (ho : TpOk t) => dview_any W g b N _ t h hf (ht.below hb) ho
  unfold ViewPost at VW
  have VN := fun W g b N (hb : Below w.heap.size w W) (h : DbAt W g b N) (ho : tB t = false) => dview_no W g b N _ t h (ht.below hb) ho
  unfold ViewNo at VN
  have RV := fun W R (hb : Below w.heap.size w W) (hR : RdOk W R) (hd : DbOk (dbOf R)) (ho : TpOk t) => rview_any W R hR hd _ t (ht.below hb) ho
  unfold RViewPost at RV
  clear hA hok rAt
  clear rBt ht
  replace hn := Lib.hid hn
  replace TR := Lib.hid TR
  replace VW := Lib.hid VW
  replace VN := Lib.hid VN
  replace RV := Lib.hid RV
  obtain ⟨k, hk⟩ : ∃ k, t.ov.length = k := ⟨_, rfl⟩
  obtain ⟨m, hm'⟩ : ∃ m, t.ln.length = m := ⟨_, rfl⟩
  rw [hk] at S TR VW VN RV h3
  rw [hm'] at S TR VW VN RV h4
  simp only [hk, hm']
  replace hm' := Lib.hid hm'
  clear hk
  go_enter Try.func7, Try.ntmps7
  go_wp2_with fail
  generalize World.alloc w _ = w0 at *
  (with_reducible refine (awake_any _).mono ?_)
  rintro e w1 ⟨rfl, hb⟩
  replace S := S.call hb
  clear hb
  have F := few33_any w1 A n c l (S.r 0 rfl) hn.out (by omega) (hokb.out _ S.b)
  unfold FewPost at F
  replace F := Lib.hid F
  go_wp2_with fail
  (with_reducible refine (F.out).mono ?_)
  rintro e w2 ⟨fv, rfl, hsm, hb⟩
  clear F
  replace S := S.call hb
  clear hb
  cases fv with
  | false =>
    go_wp2_with fail
    go_ret
    exact ⟨rfl, S.b⟩
  | true =>
  replace hsm := Lib.hid (hsm rfl)
  have r0 := S.c 0 0 rfl rfl
  have r1 := S.c 0 1 rfl rfl
  have r2 := S.c 0 2 rfl rfl
  by_cases h20 : 70 < t.n
  · go_wp2_with fail
    go_ret
    exact ⟨rfl, S.b⟩
  by_cases h30 : 70 < k
  · go_wp2_with fail
    go_ret
    exact ⟨rfl, S.b⟩
  by_cases h40 : 300 < m
  · go_wp2_with fail
    go_ret
    exact ⟨rfl, S.b⟩
  have PL := play_any w2 A n c l (S.r 0 rfl) hn.out hsm.out (hokb.out _ S.b)
  unfold PlayPost at PL
  replace PL := Lib.hid PL
  clear hsm hokb hm h3 h4
  go_wp2_with fail
  (with_reducible refine (PL.out).mono ?_)
  rintro e w4 ⟨g, b, R, rfl, dat, hrd, hdok, hlb, hb⟩
  clear r0 r1 r2
  replace S := S.call hb
  replace hrd := hrd.below hb
  clear PL hb hlb
  have hbZ : Box (w4.alloc (.cells Try.zeroCells46 46)) w4.heap.size (rdC (fun _ => rsZ)) := Box.new' w4 _ _ _ _ rfl (by rw [← rdC_zero])
  have hbb : Below w4.heap.size w4 ((w4.alloc (.cells Try.zeroCells46 46)).setCells w4.heap.size 0 (rdC R)) := below_setCells (Nat.le_refl _) _ _ _ (below_new' w4 _)
  have S5 := (S.new' Try.zeroCells46 46 w4.heap.size (rdC (fun _ => rsZ)) rfl (by rw [← rdC_zero])).setAllR 0 R rfl S.b.size (by
    have := (S.box 0 rfl).lt (by simp)
    simp; omega) _ rfl
  replace dat := dat.below hbb
  replace hrd := hrd.below hbb
  go_upto_region 6 with (first | (refine wpList_storeR (R := fun _ => rsZ) rfl (.tmp 6) (.tmp 39) rfl rfl rfl ?hb ?_; (case hb => exact hbZ)))
  clear hbZ hbb S
  generalize World.setCells _ _ _ _ = w5 at *
  generalize w4.heap.size = g4 at *
  simp only [List.set_cons_zero] at S5
  replace hdok := Lib.hid hdok
  have r0 := S5.c 1 0 rfl rfl
  have r1 := S5.c 1 1 rfl rfl
  have r2 := S5.c 1 2 rfl rfl
  rcases htb : tB t with _ | _
  · have VP := VN.out w5 g b (dbOf R) S5.b dat htb
    have TR2 := fun W hb => TR.out W hb
    simp only [htb] at TR2
    replace VP := Lib.hid VP
    replace TR2 := Lib.hid TR2
    clear VW VN RV TR dat hrd hdok htb
    go_wp2_with fail
    (with_reducible refine (VP.out).mono ?_)
    rintro e w6 ⟨rfl, hb⟩
    clear r0 r1 r2
    clear VP
    replace S5 := (S5.call hb).new' #[.int .i64 0, .slice none 0 0, .slice none 0 0] 66 w6.heap.size _ rfl rfl
    clear hb
    go_upto_region 9 with fail
    generalize World.alloc w6 _ = w7 at *
    generalize w6.heap.size = g8 at *
    have r0 := S5.c 2 0 rfl rfl
    have r1 := S5.c 2 1 rfl rfl
    have r2 := S5.c 2 2 rfl rfl
    go_wp2_with fail
    (with_reducible refine (TR2.out _ S5.b).mono ?_)
    rintro e w8 ⟨rfl, hb⟩
    clear r0 r1 r2
    replace S5 := S5.call hb
    clear hb
    have u0 := S5.c 0 0 rfl rfl
    have u1 := S5.c 0 1 rfl rfl
    have u2 := S5.c 0 2 rfl rfl
    go_wp2_with fail
    go_ret
    exact ⟨rfl, S5.b⟩
  · have htok := tB_iff.1 htb
    have VP := VW.out w5 g b (dbOf R) S5.b dat hdok.out.few htok
    have TR2 := fun W hb => TR.out W hb
    simp only [htb] at TR2
    replace VP := Lib.hid VP
    replace TR2 := Lib.hid TR2
    replace hrd := Lib.hid hrd
    have RV2 := fun W hb hr => RV.out W R hb hr hdok.out htok
    replace RV2 := Lib.hid RV2
    have hln := htok.ln
    rw [hm'.out] at hln
    clear VW VN RV TR dat htb hdok htok
    go_wp2_with fail
    (with_reducible refine (VP.out).mono ?_)
    rintro e w6 ⟨vu, D, cD, rfl, tu, rD, hb⟩
    clear r0 r1 r2
    clear VP
    replace hrd := Lib.hid (hrd.out.below hb)
    replace S5 := S5.call hb
    clear hb
    obtain ⟨Au, cu, Bu, du, rfl, hrest⟩ := id tu
    clear hrest
    generalize (vwT (dbOf R) t).ov.length = ko at *
    generalize (vwT (dbOf R) t).ln.length = kl at *
    generalize (vwT (dbOf R) t).n = kn at *
    have hbn := below_new' w6 (.cells #[.int .i64 kn, .slice Au ko cu, .slice Bu kl du] 66)
    replace S5 := S5.new' #[.int .i64 kn, .slice Au ko cu, .slice Bu kl du] 66 w6.heap.size _ rfl rfl
    replace hrd := Lib.hid (hrd.out.below hbn)
    replace tu := Lib.hid (tu.below hbn)
    replace rD := Lib.hid (rD.below hbn)
    clear hbn
    go_upto_region 9 with fail
    generalize World.alloc w6 _ = w7 at *
    generalize w6.heap.size = g8 at *
    have r0 := S5.c 2 0 rfl rfl
    have r1 := S5.c 2 1 rfl rfl
    have r2 := S5.c 2 2 rfl rfl
    go_wp2_with fail
    (with_reducible refine (TR2.out _ S5.b).mono ?_)
    rintro e w8 ⟨rfl, hb⟩
    clear r0 r1 r2
    clear TR2
    replace S5 := S5.call hb
    replace hrd := Lib.hid (hrd.out.below hb)
    replace tu := Lib.hid (tu.out.below hb)
    replace rD := Lib.hid (rD.out.below hb)
    clear hb
    have r0 := S5.c 2 0 rfl rfl
    have r1 := S5.c 2 1 rfl rfl
    have r2 := S5.c 2 2 rfl rfl
    have hbx := S5.box 1 rfl
    have RV3 := RV2.out _ S5.b hrd.out
    replace RV3 := Lib.hid RV3
    clear RV2
    go_wp2_with (first | (refine wpList_loadR (R := R) rfl (.tmp 6) rfl rfl ?hb ?_; (case hb => exact hbx)))
    (with_reducible refine (RV3.out).mono ?_)
    rintro e w9 ⟨vr, E, cE, rfl, tr, rE, hb⟩
    clear r0 r1 r2
    clear RV3 hbx hrd
    replace S5 := S5.call hb
    replace tu := Lib.hid (tu.out.below hb)
    replace rD := Lib.hid (rD.out.below hb)
    clear hb
    obtain ⟨Ar, cr, Br, dr, rfl, hrest⟩ := id tr
    clear hrest
    generalize (vwT (dbOf R) t).ov.length = ko2 at *
    generalize (vwT (dbOf R) t).ln.length = kl2 at *
    generalize (vwT (dbOf R) t).n = kn2 at *
    have hbn := below_new' w9 (.cells #[.int .i64 kn2, .slice Ar ko2 cr, .slice Br kl2 dr] 66)
    replace S5 := S5.new' #[.int .i64 kn2, .slice Ar ko2 cr, .slice Br kl2 dr] 66 w9.heap.size _ rfl rfl
    have SV := rsameview_any _ _ _ (vwT (dbOf R) t) D E (2 * m) cD cE (vwD (dbOf R) 0 t.ln) (tu.out.below hbn) (tr.below hbn) (rD.out.below hbn) (rE.below hbn) (by rw [vwD_len, hm'.out]) (by omega)
    replace SV := Lib.hid SV
    clear hbn tu tr rD rE
    go_upto_region 12 with fail
    generalize World.alloc w9 _ = w10 at *
    generalize w9.heap.size = g11 at *
    have r0 := S5.c 0 0 rfl rfl
    have r1 := S5.c 0 1 rfl rfl
    have r2 := S5.c 0 2 rfl rfl
    have u0 := S5.c 1 0 rfl rfl
    have u1 := S5.c 1 1 rfl rfl
    have u2 := S5.c 1 2 rfl rfl
    go_wp2_with fail
    (with_reducible refine (SV.out).mono ?_)
    rintro e w11 ⟨rfl, hb⟩
    clear r0 r1 r2
    clear u0 u1 u2
    replace S5 := S5.call hb
    clear SV hb
    go_wp2_with fail
    go_ret
    exact ⟨rfl, S5.b⟩

end Go.Proofs.Ytkmpmgojgidcgaa

namespace Go.Proofs.Ytkmpmgojgidcgaa.lsdbView
open Go.ChangeShapes Go.WideShapes Go.ChangeAt Go.RowKit
set_option linter.unusedVariables false

set_option maxRecDepth 100000 in
theorem lifted (os : Os) (started : os.Started) (H : Type) (enc : TypeId × Value → H) :
    ReturnsInHanded {} Try.checked os 7 .any (Rows.lsdbViewSpec.pre6 enc Try.prog Try.f7 Rows.lsdbViewRow.domain false) (Rows.lsdbViewSpec.post enc Try.prog Try.f7 false true false false) := by
  refine returnsInHanded_of_change (C := Try.checked) frame_own started (by kernel_rfl) Try.func7
    (ChangeSpec.witness6 (enc := enc) (C := Try.checked) false ⟨#[], #[.slice none 0 0, .agg #[.int .i64 0, .slice none 0 0, .slice none 0 0]], []⟩ 8 (by kernel_rfl) (by kernel_rfl) (by kernel_rfl) (by kernel_rfl)) ?_
  intro W base args ds gs before hval0 hW hcnd _
  have hval : ∀ (j : Nat) t v, Try.f7.params[j]? = some t → args[j]? = some v → Value.okWide Try.prog W .any base t v := hval0
  have hW' := hW
  obtain ⟨p, q, hA0, hV, rfl, hfz, hnd⟩ := hW
  have hA : DataW.TrodAll enc Try.prog W 0 (fun _ => true) true Try.f7.params.toList args.toList ds p := hA0
  rw [Try.params7] at hA hval
  obtain ⟨v0, vs0, d0, ds0, p0', q0', hargs, rfl, rfl, h0, r0⟩ := trodAll_cons hA
  obtain ⟨v1, vs1, d1, ds1, p1', q1', rfl, rfl, rfl, h1, r1⟩ := trodAll_cons r0
  obtain ⟨rfl, rfl, rfl⟩ := trodAll_nil r1
  obtain rfl : args = #[v0, v1] := by cases args; simp_all
  obtain ⟨rfl, rfl⟩ := trodVars_none hV
  have k0 := h0
  have lt0 : ∀ x ∈ p0', x.block < W.heap.size := by obtain ⟨m, hm⟩ := k0; exact DataW.trod_lt m _ _ _ hm
  have k1 := h1
  have lt1 : ∀ x ∈ p1', x.block < W.heap.size := by obtain ⟨m, hm⟩ := k1; exact DataW.trod_lt m _ _ _ hm
  obtain ⟨A0, n0, c0, l0, rfl, hr0, hn0, hm0, hok0⟩ := arg_sx (hval 0 39 v0 rfl rfl) h0
  obtain ⟨x1, hx1⟩ := arg_tp (hval 1 66 v1 rfl rfl) h1
  clear hA0 hval0
  refine (view33_law W A0 n0 c0 l0 hr0 hn0 hm0 hok0 v1 x1 hx1).mono fun e W' ⟨he, bel⟩ => ?_
  subst he
  exact ⟨_, rfl, _, _, _, [], _, [], hW', trodAll_mk1 (shut_bool Try.underlying4 _), (trodAll_cons_mk (Below.trod frame_laidOut (by kernel_rfl) (of_decide_eq_true (by kernel_rfl)) k0 bel lt0) (trodAll_cons_mk (Below.trod frame_laidOut (by kernel_rfl) (of_decide_eq_true (by kernel_rfl)) k1 bel lt1) trodAll_mk0)), rfl, bel.frame _, fun h => by cases h⟩

theorem over : Rows.lsdbViewRow.holds Try.pinned (OpenSpec.ofChange Rows.lsdbViewSpec) :=
  OpenClaim.holds_of_wide 7 Try.f7 rfl rfl rfl rfl rfl rfl rfl ⟨rfl, rfl, rfl, rfl, rfl⟩ rfl rfl rfl rfl rfl (by kernel_rfl) Try.func7 (by kernel_rfl)
    (of_decide_eq_true (by kernel_rfl)) (by unfold Func.isWrapper; first | (rw [if_pos (by decide +kernel)]; kernel_rfl) | (rw [if_neg (by decide +kernel)]; exact ⟨rfl, rfl⟩))
    (fun os started H enc _ => lifted os started H enc)

theorem proved : Rows.LsdbViewSaid := over
#print axioms proved
end Go.Proofs.Ytkmpmgojgidcgaa.lsdbView
