/-
  Slices of the call's own that begin anywhere in their block: append, x[lo:], x[:hi].
-/
import Derived.Test.YtnfldccaeibcpaaMem
namespace Go.Proofs.Ytnfldccaeibcpaa
set_option linter.unusedVariables false
open Go.RowKit

/-- A slice of the call's own, beginning anywhere in its block. -/
def Win (w : World) (base : Nat) (e : TypeId) (size : Nat) (v : Value) (n : Nat) (xs : List Value) : Prop :=
  xs.length = n * size ∧
  ((v = .slice none 0 0 ∧ n = 0) ∨
   ∃ g off cap cur, v = .slice (some ⟨g, off, none⟩) n cap ∧ base ≤ g ∧ w.heap[g]? = some (.cells cur e (0, 0)) ∧ n ≤ cap ∧ cap ≤ maxLen ∧ off + cap * size ≤ cur.size ∧ (cur.toList.drop off).take (n * size) = xs)
section
variable {w w' : World} {base : Nat} {e : TypeId} {size : Nat} {v : Value} {n : Nat} {xs : List Value}
theorem win_own (h : w.ownsRow base e size v n xs) : Win w base e size v n xs := by
  refine ⟨h.1, ?_⟩
  rcases h.2 with h2 | ⟨g, cap, cur, rfl, hb, hg, h1, h2, h3, h4⟩
  · exact .inl h2
  · exact .inr ⟨g, 0, cap, cur, rfl, hb, hg, h1, h2, by omega, by simpa using h4⟩
theorem win_nil (w : World) (base : Nat) (e : TypeId) (size : Nat) : Win w base e size (.slice none 0 0) 0 [] := ⟨by simp, .inl ⟨rfl, rfl⟩⟩
theorem Win.lt (h : Win w base e size v n xs) : ∀ k, v.ownBlock = some k → base ≤ k ∧ k < w.heap.size := by
  intro k hk
  rcases h.2 with ⟨rfl, _⟩ | ⟨g, off, cap, cur, rfl, hb, hg, _⟩
  · simp [Value.ownBlock] at hk
  · simp [Value.ownBlock] at hk
    subst hk
    exact ⟨hb, (Array.getElem?_eq_some_iff.1 hg).1⟩
/-- The block is of its type. -/
theorem Win.ty (h : Win w base e size v n xs) : ∀ k, v.ownBlock = some k → ∃ cur, w.heap[k]? = some (.cells cur e (0, 0)) := by
  intro k hk
  rcases h.2 with ⟨rfl, _⟩ | ⟨g, off, cap, cur, rfl, hb, hg, _⟩
  · simp [Value.ownBlock] at hk
  · simp [Value.ownBlock] at hk
    subst hk
    exact ⟨cur, hg⟩
theorem Win.kept (h : Win w base e size v n xs) (hk : ∀ k, v.ownBlock = some k → w'.heap[k]? = w.heap[k]?) : Win w' base e size v n xs := by
  refine ⟨h.1, ?_⟩
  rcases h.2 with h2 | ⟨g, off, cap, cur, rfl, hb, hg, r⟩
  · exact .inl h2
  · exact .inr ⟨g, off, cap, cur, rfl, hb, (hk g rfl).trans hg, r⟩
theorem Win.below (h : Win w base e size v n xs) (hb : Below w.heap.size w w') : Win w' base e size v n xs := h.kept fun k hk => hb.block k (h.lt k hk).2
theorem Win.form (h : Win w base e size v n xs) : ∃ A c, v = .slice A n c ∧ n ≤ c ∧ c ≤ maxLen := by
  rcases h.2 with ⟨rfl, rfl⟩ | ⟨g, off, cap, cur, rfl, hb, hg, h1, h2, _⟩
  · exact ⟨none, 0, rfl, Nat.le_refl _, Nat.zero_le _⟩
  · exact ⟨_, cap, rfl, h1, h2⟩
theorem Win.cells {g off cap : Nat} (h : Win w base e size (.slice (some ⟨g, off, none⟩) n cap) n xs) : ∀ j u, xs[j]? = some u → w.cell? ((⟨g, off, none⟩ : Addr).add j) = some u := by
  intro j u hu
  rcases h.2 with ⟨h2, _⟩ | ⟨g', off', cap', cur, h2, hb, hg, h3, h4, h5, h6⟩
  · cases h2
  · injection h2 with h2 _ _
    injection h2 with h2
    injection h2 with h7 h8 _
    subst h7 h8
    have hadd : (⟨g, off, none⟩ : Addr).add j = ⟨g, off + j, none⟩ := by unfold Addr.add; split <;> simp_all
    rw [hadd, cell_of_row w g (off + j) cur e (0, 0) hg]
    rw [← h6, List.getElem?_take] at hu
    split at hu
    · rw [List.getElem?_drop] at hu
      simpa using hu
    · cases hu
theorem Win.rd {A : Option Addr} {c : Nat} (h : Win w base e size (.slice A n c) n xs) : Rd w A xs := by
  intro hn
  rcases h.2 with ⟨h2, h3⟩ | ⟨g, off, cap, cur, h2, _⟩
  · have := h.1
    rw [h3, Nat.zero_mul] at this
    omega
  · injection h2 with h2 h3 h4
    subst h2 h4
    exact ⟨_, rfl, fun j u hu => h.cells j u hu⟩
end
/-- The address of x[lo:], elements of so many cells. -/
def subS (size : Nat) (A : Option Addr) (lo c : Nat) : Option Addr := if c = lo then A else A.map (·.add (lo * size))
section
variable {P : Program} {t e : TypeId} {z : Value} {size bytes : Nat}
theorem run_fromS (hE : ElemT P t e z size bytes) (A : Option Addr) (n c lo : Nat) (h1 : lo ≤ n) (W : World) :
    (Instr.slice t (.slice A n c) (some (.int .i64 (lo : Int))) none none).run P W = .ok (.slice (subS size A lo c) (n - lo) (c - lo)) W := by
  obtain ⟨i, hi', hz0, hz1, hz2⟩ := info_parts hE.info
  have hel : P.elem t = e := by simp [Program.elem, hE.under]
  rw [run_slice_l W t A n c (by rw [hel]; exact hE.under) .i64 lo (by omega) (by omega), hel]
  simp [sizeOf, typeInfo, hi', hz1, sliced, subS, Result.andThen]
theorem run_uptoS (hE : ElemT P t e z size bytes) (A : Option Addr) (n c hi : Nat) (h1 : hi ≤ c) (W : World) :
    (Instr.slice t (.slice A n c) none (some (.int .i64 (hi : Int))) none).run P W = .ok (.slice (subS size A 0 c) hi c) W := by
  obtain ⟨i, hi', hz0, hz1, hz2⟩ := info_parts hE.info
  have hel : P.elem t = e := by simp [Program.elem, hE.under]
  rw [run_slice_h W t A n c (by rw [hel]; exact hE.under) .i64 hi (by omega) (by omega), hel]
  simp [sizeOf, typeInfo, hi', hz1, sliced, subS, Result.andThen]
theorem Rd.fromS {w : World} {A : Option Addr} {xs : List Value} (h : Rd w A xs) (lo c : Nat) (hc : xs.length ≤ c * size) : Rd w (subS size A lo c) (xs.drop (lo * size)) := by
  unfold subS
  split
  · rename_i e
    subst e
    rw [List.drop_eq_nil_of_le hc]; exact Rd.nil _ _
  · exact h.drop _
theorem Rd.uptoS {w : World} {A : Option Addr} {xs : List Value} (h : Rd w A xs) (hi c : Nat) (hc : xs.length ≤ c * size) : Rd w (subS size A 0 c) (xs.take (hi * size)) := by
  have h2 := h.fromS (size := size) 0 c hc
  rw [Nat.zero_mul, List.drop_zero] at h2
  intro hn
  have hn2 : 0 < xs.length := by rw [List.length_take] at hn; omega
  obtain ⟨ad, e, hcell⟩ := h2 hn2
  refine ⟨ad, e, fun j u hu => hcell j u ?_⟩
  rw [List.getElem?_take] at hu
  split at hu
  · exact hu
  · cases hu
theorem Win.from {w : World} {base : Nat} {A : Option Addr} {n c : Nat} {xs : List Value} (h : Win w base e size (.slice A n c) n xs) (lo : Nat) (hlo : lo ≤ n) (hs : 0 < size) : Win w base e size (.slice (subS size A lo c) (n - lo) (c - lo)) (n - lo) (xs.drop (lo * size)) := by
  refine ⟨by rw [List.length_drop, h.1, Nat.sub_mul], ?_⟩
  rcases h.2 with ⟨h2, h3⟩ | ⟨g, off, cap, cur, h2, hb, hg, h3, h4, h5, h6⟩
  · injection h2 with h2 _ h4
    subst h2 h4
    left
    have : lo = 0 := by omega
    subst this
    refine ⟨?_, by omega⟩
    subst h3
    rfl
  · injection h2 with h2 _ h7
    subst h2 h7
    right
    unfold subS
    by_cases hc : c = lo
    · have hn : n = lo := by omega
      subst hc
      subst hn
      rw [if_pos rfl, Nat.sub_self]
      refine ⟨g, off, 0, cur, rfl, hb, hg, Nat.le_refl _, Nat.zero_le _, ?_, ?_⟩
      · have : 0 ≤ n * size := Nat.zero_le _
        omega
      · rw [Nat.zero_mul, List.take_zero, List.drop_of_length_le (by rw [h.1]; exact Nat.le_refl _)]
    · rw [if_neg hc]
      have hadd : (⟨g, off, none⟩ : Addr).add (lo * size) = ⟨g, off + lo * size, none⟩ := by unfold Addr.add; split <;> simp_all
      refine ⟨g, off + lo * size, c - lo, cur, by simp only [Option.map_some]; rw [hadd], hb, hg, by omega, by omega, ?_, ?_⟩
      · have : lo * size + (c - lo) * size = c * size := by rw [← Nat.add_mul]; congr 1; omega
        omega
      · rw [← h6, List.drop_take, List.drop_drop, Nat.sub_mul]
theorem run_append_roomW (w : World) (ty : TypeId) (i : TypeInfo) (ht : P.underlying t = some (.slice e)) (hi : P.info? e = some i)
    (g off sLen sCap : Nat) (cur : Array Value) (hg : w.heap[g]? = some (.cells cur e (0, 0)))
    (a : Addr) (m c : Nat) (news : List Value) (hl : news.length = m * i.size) (hnews : ∀ j u, news[j]? = some u → w.cell? (a.add j) = some u) (h1 : ∀ u ∈ news, u.oneCell' = true)
    (hroom : sLen + m ≤ sCap) (hfit : off + sLen * i.size + news.length ≤ cur.size) :
    (Builtin.append_ #[t, t] ty #[.slice (some ⟨g, off, none⟩) sLen sCap, .slice (some a) m c]).run P w =
      .ok (.slice (some ⟨g, off, none⟩) (sLen + m) sCap) (w.setRow g (cur.toList.take (off + sLen * i.size) ++ news ++ cur.toList.drop (off + sLen * i.size + news.length)).toArray) := by
  have hf := run_firstCells_some (P := P) w i.size m a m c news hl hnews
  have hst := run_storeCells_at P g (off + sLen * i.size) e news 0 cur w hg (by simpa using hfit) h1
  simp only [Nat.add_zero] at hst
  have hadd : (⟨g, off, none⟩ : Addr).add (sLen * i.size) = ⟨g, off + sLen * i.size, none⟩ := by unfold Addr.add; split <;> simp_all
  simp [Builtin.append_, run_underlying ht, sizeOf, typeInfo, hi, Builtin.lenOf, hroom, hf, hadd, hst]
/-- append onto a slice that begins anywhere in its block. -/
theorem run_appW (w : World) (hE : ElemT P t e z size bytes) (ty : TypeId) (base : Nat) {v : Value} {n : Nat} {xs : List Value} (hown : Win w base e size v n xs)
    {A : Option Addr} {m c : Nat} {news : List Value} (hl : news.length = m * size) (hr : Rd w A news) (h1 : ∀ u ∈ news, u.oneCell' = true) (hm0 : 0 < m)
    (h63 : n + m ≤ maxLen) (hbytes : (n + m) * bytes ≤ 140737488355328) (hbase : base ≤ w.heap.size) :
    ∃ v' w', (Builtin.append_ #[t, t] ty #[v, .slice A m c]).run P w = .ok v' w' ∧ Win w' base e size v' (n + m) (xs ++ news) ∧ w.grownBy w' v.ownBlock ∧
      (v'.ownBlock = v.ownBlock ∨ v'.ownBlock = some w.heap.size) := by
  obtain ⟨i, hi, hz0, hz1, hz2⟩ := info_parts hE.info
  rcases hown.2 with ⟨rfl, rfl⟩ | ⟨g, off, cap, cur, rfl, hb, hg, h2, h3, h4, h5⟩
  · have hx : xs = [] := List.eq_nil_of_length_eq_zero (by simpa using hown.1)
    subst hx
    obtain ⟨v', w', a1, a2, a3, a4⟩ := run_app w hE ty base (World.ownsRow_nil w base e size) hl hr h1 h63 hbytes hbase (c := c)
    exact ⟨v', w', a1, win_own a2, a3, a4⟩
  · obtain ⟨ad, rfl, hcells⟩ := hr (by rw [hl]; exact Nat.mul_pos hm0 hE.pos)
    have hlen : (xs ++ news).length = (n + m) * size := by rw [List.length_append, hown.1, hl, Nat.add_mul]
    by_cases hroom : n + m ≤ cap
    · have hfit : off + n * i.size + news.length ≤ cur.size := by
        rw [hl, hz1]
        have : (n + m) * size ≤ cap * size := Nat.mul_le_mul_right _ hroom
        rw [Nat.add_mul] at this
        omega
      have hrun := run_append_roomW w ty i hE.under hi g off n cap cur hg ad m c news (by rw [hz1]; exact hl) hcells h1 hroom hfit
      refine ⟨_, _, hrun, ⟨hlen, .inr ⟨g, off, cap, _, rfl, hb, setRow_heap w g cur _ e _ hg, hroom, h3, ?_, ?_⟩⟩, ⟨rfl, rfl, rfl, by simp, fun k _ hk => setRow_other w g k _ (fun e => hk (by simp [Value.ownBlock, e]))⟩, .inl rfl⟩
      · simp only [List.size_toArray, List.length_append, List.length_take, List.length_drop, Array.length_toList]
        omega
      · rw [hz1] at hfit ⊢
        simp only
        have e1 : (cur.toList.take (off + n * size)).length = off + n * size := by rw [List.length_take, Array.length_toList]; omega
        rw [List.append_assoc, List.drop_append_of_le_length (by omega), List.drop_take, Nat.add_sub_cancel_left, h5, ← List.append_assoc, ← hlen]
        exact List.take_left
    · have hrun := run_append_grow (P := P) w t ty e i z hE.under hi hz0 ⟨g, off, none⟩ n cap xs (by rw [hz1]; exact hown.1) hown.cells ad m c news (by rw [hz1]; exact hl) hcells (by omega) (by simp only [maxLen] at h63; omega) (by rw [hz2]; exact growslice_fits (by omega) hbytes)
      have hge := grownCap_ge w (n + m) cap e
      have hcm : grownCap w (n + m) cap e ≤ maxLen := grownCap_le_maxLen w (n + m) cap e h63
      refine ⟨_, _, hrun, win_own ⟨hlen, .inr ⟨w.heap.size, _, _, rfl, hbase, heap_alloc_new w.drew _, hge, hcm, ?_, ?_⟩⟩, ⟨rfl, rfl, rfl, by simp, fun k hk _ => heap_alloc_old w.drew _ hk⟩, .inr rfl⟩
      · simp only [Array.size_append, List.size_toArray, size_zeroCells, hE.zsize, hown.1, hl, ← Nat.add_mul]
        congr 1
        omega
      · simp only [Array.toList_append, List.append_assoc]
        rw [← List.append_assoc, ← hlen]
        exact List.take_left
theorem below_win {a w w' : World} {v : Value} {B base : Nat} {n : Nat} {xs : List Value} (h : Below B a w) (hown : Win w base e size v n xs) (hg : w.grownBy w' v.ownBlock) (hB : B ≤ base) (hs : B ≤ w.heap.size) : Below B a w' :=
  h.grown hg hs fun k hk => Nat.le_trans hB (hown.lt k hk).1
theorem wp_appW (w : World) {o : Oper} {a : Act} {K : Act → World → Prop} {Q : Exit → Act → World → Prop} (hE : ElemT P t e z size bytes) (s x : Operand)
    (ho : o.op = .call { callee := .builtin .append, args := #[s, x], argTypes := #[t, t] }) (base : Nat) {v : Value} {n : Nat} {xs : List Value} (hs : a.eval s = v) (hown : Win w base e size v n xs)
    {A : Option Addr} {m c : Nat} {news : List Value} (hx : a.eval x = .slice A m c) (hl : news.length = m * size) (hr : Rd w A news) (h1 : ∀ u ∈ news, u.oneCell' = true) (hm0 : 0 < m)
    (h63 : n + m ≤ maxLen) (hbytes : (n + m) * bytes ≤ 140737488355328) (hbase : base ≤ w.heap.size) (N : Nat) (L : List Value) (hN : n + m = N) (hL : xs ++ news = L)
    (h : ∀ v' w', Win w' base e size v' N L → Below base w w' → w.grownBy w' v.ownBlock → (v'.ownBlock = v.ownBlock ∨ v'.ownBlock = some w.heap.size) → K (a.put o.dst v') w') : o.wp P a w K Q := by
  subst hN hL
  obtain ⟨v', w', hrun, h2, h3, h4⟩ := run_appW (P := P) w hE o.type base hown (c := c) hl hr h1 hm0 h63 hbytes hbase
  unfold Oper.wp execOp
  simp only [ho, resolve, invoke, builtin, Sem.run_bind, Sem.run_pure, Result.andThen_ok, List.map_toArray, List.map_cons, List.map_nil, hs, hx, hrun]
  exact h v' w' h2 (below_win (Below.refl _ _) hown h3 (Nat.le_refl _) hbase) h3 h4
theorem wpList_appW {w : World} {ops : Array Oper} {rest : List Oper} {o : Oper} {a : Act} {Q : Exit → Act → World → Prop} (hw : Region.wanted o (yielded ops a.tmps) = true) (hE : ElemT P t e z size bytes) (s x : Operand)
    (ho : o.op = .call { callee := .builtin .append, args := #[s, x], argTypes := #[t, t] }) (base : Nat) {v : Value} {n : Nat} {xs : List Value} (hs : a.eval s = v) (hown : Win w base e size v n xs)
    {A : Option Addr} {m c : Nat} {news : List Value} (hx : a.eval x = .slice A m c) (hl : news.length = m * size) (hr : Rd w A news) (h1 : ∀ u ∈ news, u.oneCell' = true) (hm0 : 0 < m)
    (h63 : n + m ≤ maxLen) (hbytes : (n + m) * bytes ≤ 140737488355328) (hbase : base ≤ w.heap.size) (N : Nat) (L : List Value) (hN : n + m = N) (hL : xs ++ news = L)
    (h : ∀ v' w', Win w' base e size v' N L → Below base w w' → w.grownBy w' v.ownBlock → (v'.ownBlock = v.ownBlock ∨ v'.ownBlock = some w.heap.size) → wpList P ops Q rest (a.put o.dst v') w') :
    wpList P ops Q (o :: rest) a w :=
  wpList_step fun _ hK => by rw [if_pos hw]; exact wp_appW w hE s x ho base hs hown hx hl hr h1 hm0 h63 hbytes hbase N L hN hL fun v' w' h2 h3 h4 h5 => hK _ _ (h v' w' h2 h3 h4 h5)
theorem step_appW {w : World} {ops : Array Oper} {o : Oper} {a : Act} {K : Act → World → Prop} {Q : Exit → Act → World → Prop} {F : Prop} (hgd : o.guard = none) (hE : ElemT P t e z size bytes) (s x : Operand)
    (ho : o.op = .call { callee := .builtin .append, args := #[s, x], argTypes := #[t, t] }) (base : Nat) {v : Value} {n : Nat} {xs : List Value} (hs : a.eval s = v) (hown : Win w base e size v n xs)
    {A : Option Addr} {m c : Nat} {news : List Value} (hx : a.eval x = .slice A m c) (hl : news.length = m * size) (hr : Rd w A news) (h1 : ∀ u ∈ news, u.oneCell' = true) (hm0 : 0 < m)
    (h63 : n + m ≤ maxLen) (hbytes : (n + m) * bytes ≤ 140737488355328) (hbase : base ≤ w.heap.size) (N : Nat) (L : List Value) (hN : n + m = N) (hL : xs ++ news = L)
    (h : ∀ v' w', Win w' base e size v' N L → Below base w w' → w.grownBy w' v.ownBlock → (v'.ownBlock = v.ownBlock ∨ v'.ownBlock = some w.heap.size) → K (a.put o.dst v') w') :
    if Region.wanted o (yielded ops a.tmps) = true then Oper.wp P o a w K Q else F := by
  have hw : Region.wanted o (yielded ops a.tmps) = true := by simp [Region.wanted, hgd]
  rw [if_pos hw]
  exact wp_appW w hE s x ho base hs hown hx hl hr h1 hm0 h63 hbytes hbase N L hN hL h
end

end Go.Proofs.Ytnfldccaeibcpaa
