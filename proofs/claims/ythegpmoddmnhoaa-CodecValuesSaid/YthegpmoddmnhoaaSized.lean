/-
  Arguments of a statement's call that are within the form's reach: lists of records whose bytes are no more than the reach.
-/
import Derived.SizedLaws
import Derived.Test.YthegpmoddmnhoaaCodArgs
namespace Go.Proofs.Ythegpmoddmnhoaa
set_option linter.unusedVariables false
open Go.RowKit Go.ChangeShapes Go.WideShapes Go.ChangeAt

def OpensZ (P : Program) (w : World) (t : TypeId) {α : Type} (R : α → List Value → Prop) : Prop :=
  ∀ {H : Type} {enc : TypeId × Value → H} {base : Nat} {spare : Nat → Bool} {held : Bool} {fuel : Nat} {cs : List Value} {x : DataW H × List MemPlace},
    DataW.trod enc P w base spare held fuel t cs = some x → (∀ m ∈ x.1.weights P t, m ≤ reachBytes) → ∃ a, R a cs ∧ cs.length = P.cellsOf t

section
variable {P : Program} {w : World} {t : TypeId}
theorem Opens.z {α : Type} {R : α → List Value → Prop} (h : Opens P w t R) : OpensZ P w t R := fun a _ => h a

def IsBytesZ (w : World) (bs : List UInt8) (cs : List Value) : Prop := IsBytes w bs cs ∧ bs.length ≤ reachBytes

theorem weightsAll_mem {H : Type} {e : TypeId} : ∀ {ds : List (DataW H)} {d : DataW H}, d ∈ ds → ∀ m ∈ d.weights P e, m ∈ DataW.weightsAll P e ds
  | d0 :: ds, d, hd, m, hm => by
    simp only [DataW.weightsAll, List.mem_append]
    rcases List.mem_cons.1 hd with rfl | hd
    · exact .inl hm
    · exact .inr (weightsAll_mem hd m hm)
  | [], _, hd, _, _ => by simp at hd

theorem opensZ_bytes {e : TypeId} (ht : P.underlying t = some (.slice e)) (hc : P.cellsOf t = 1) (he : P.underlying e = some (.int .u8)) (hce : P.cellsOf e = 1) (hb : P.bytesOf e = 1) : OpensZ P w t (IsBytesZ w) := by
  intro H enc base spare held fuel cs x h hz
  obtain ⟨bs, hbs, hl⟩ := opens_bytes ht hc he hce h
  refine ⟨bs, ⟨hbs, ?_⟩, hl⟩
  obtain ⟨A, c, rfl, _⟩ := hbs
  rcases DataW.trod_slice ht h with ⟨hcs, rfl⟩ | ⟨a, len, cap, elems, rest, n, _, hcs, rfl, _, _, _, _, hel, _⟩
  · simp only [List.cons.injEq, Value.slice.injEq, and_true] at hcs
    rw [hcs.2.1]; exact Nat.zero_le _
  · simp only [List.cons.injEq, Value.slice.injEq, and_true] at hcs
    have := hz ((elems.map (·.1)).length * 1 + (rest.map (·.1)).length * 1) (by
      simp only [DataW.weights, ht, hb, List.mem_cons]
      left; omega)
    rw [List.length_map] at this
    omega

theorem opensZ_slice {α : Type} {R : α → List Value → Prop} {e : TypeId} (ht : P.underlying t = some (.slice e)) (hc : P.cellsOf t = 1) (hR : OpensZ P w e R) : OpensZ P w t (IsSlice w R (P.cellsOf e)) := by
  intro H enc base spare held fuel cs x h hz
  rcases DataW.trod_slice ht h with ⟨rfl, _⟩ | ⟨a, len, cap, elems, rest, n, _, rfl, rfl, _, hlc, hcm, hel, hat, _, _⟩
  · exact ⟨[], ⟨none, 0, [], rfl, Nat.le_refl _, Nat.zero_le _, rfl, Rd.nil _ _⟩, by simp [hc]⟩
  · have hone : ∀ i, i < len → ∃ (b : α) (c : List Value), R b c ∧ c.length = P.cellsOf e ∧ ∀ j u, c[j]? = some u → w.cell? (a.add (i * P.cellsOf e + j)) = some u := by
      intro i hi
      have h1 := hat i hi
      rw [List.getElem?_eq_getElem (by omega)] at h1
      obtain ⟨c, hcc, htr⟩ := Option.bind_eq_some_iff.1 h1
      obtain ⟨_, hl, hcell⟩ := World.cells?_some hcc
      obtain ⟨b, hb, _⟩ := hR htr (fun m hm => hz m (by
        simp only [DataW.weights, ht, List.mem_cons, List.mem_append]
        exact .inr (.inl (weightsAll_mem (List.mem_map_of_mem (List.getElem_mem (by omega))) m hm))))
      refine ⟨b, c, hb, hl, fun j u hu => ?_⟩
      have hj : j < P.cellsOf e := by have := (List.getElem?_eq_some_iff.1 hu).1; omega
      rw [← addr_add_add, hcell j hj, hu]
    have hall : ∀ m, m ≤ len → ∃ (xs : List α) (vs : List Value), xs.length = m ∧ Rep R (P.cellsOf e) xs vs ∧ ∀ j u, vs[j]? = some u → w.cell? (a.add j) = some u := by
      intro m
      induction m with
      | zero => intro _; exact ⟨[], [], rfl, rfl, by simp⟩
      | succ m ih =>
        intro hm
        obtain ⟨xs, vs, hl, hrep, hcl⟩ := ih (by omega)
        obtain ⟨b, c, hb, hl2, hc2⟩ := hone m (by omega)
        refine ⟨xs ++ [b], vs ++ c, by simp [hl], hrep.append (Rep.one hb hl2), fun j u hu => ?_⟩
        have hlv := hrep.length
        rw [hl] at hlv
        rw [List.getElem?_append] at hu
        split at hu
        · exact hcl j u hu
        · have := hc2 _ u hu
          rw [show m * P.cellsOf e + (j - vs.length) = j from by omega] at this
          exact this
    obtain ⟨xs, vs, hl, hrep, hcl⟩ := hall len (Nat.le_refl _)
    exact ⟨xs, ⟨some a, cap, vs, by rw [hl], by omega, hcm, hrep, fun _ => ⟨a, rfl, hcl⟩⟩, by simp [hc]⟩

theorem opensZ_struct2 {α β : Type} {R : α → List Value → Prop} {S : β → List Value → Prop} {f g : Field} (ht : P.underlying t = some (.struct #[f, g])) (hf : f.offset = 0) (hg : g.offset = P.cellsOf f.type)
    (hC : P.cellsOf t = P.cellsOf f.type + P.cellsOf g.type) (hR : OpensZ P w f.type R) (hS : OpensZ P w g.type S) : OpensZ P w t (IsTwo R S) := by
  intro H enc base spare held fuel cs x h hz
  obtain ⟨xs, n, _, rfl, hcl, hl, hi⟩ := DataW.trod_struct ht h
  simp at hl
  have h0 := hi 0 f rfl
  have h1 := hi 1 g rfl
  rw [List.getElem?_eq_getElem (by omega)] at h0 h1
  obtain ⟨y0, y1, rfl⟩ : ∃ y0 y1, xs = [y0, y1] := by
    match xs, hl with
    | [a, b], _ => exact ⟨a, b, rfl⟩
  have hw : ∀ m, m ∈ y0.1.weights P f.type ∨ m ∈ y1.1.weights P g.type → m ≤ reachBytes := fun m hm => hz m (by
    simp only [DataW.weights, ht, List.map_cons, List.map_nil, DataW.weightsEach, List.mem_append]
    rcases hm with hm | hm
    · exact .inl hm
    · exact .inr (.inl hm))
  obtain ⟨a, ra, _⟩ := hR h0 (fun m hm => hw m (.inl hm))
  obtain ⟨b, rb, _⟩ := hS h1 (fun m hm => hw m (.inr hm))
  refine ⟨(a, b), ⟨_, _, ?_, ra, rb⟩, hcl⟩
  rw [hf, hg, List.drop_zero]
  rw [List.take_of_length_le (l := cs.drop _) (by rw [List.length_drop]; omega), List.take_append_drop]
end

section
variable {H : Type} {enc : TypeId × Value → H} {w : World} {base : Nat} {spare : Nat → Bool} {held : Bool} {r : Reach} {b0 : Nat} {v : Value} {d : DataW H} {ps : List MemPlace}

theorem rep_recsz {xs : List (Int × List UInt8)} : ∀ {vs : List Value}, Rep (IsTwo (IsInt .i64) (IsBytesZ w)) 2 xs vs → ∃ l : List Rc, vs = recV l ∧ l.length = xs.length ∧ ∀ r ∈ l, RcOk w r ∧ r.n ≤ reachBytes := by
  induction xs with
  | nil => intro vs h; exact ⟨[], h, rfl, by simp⟩
  | cons b t ih =>
    rintro vs ⟨c, q, rfl, ⟨c1, c2, rfl, ⟨rfl, w1⟩, ⟨⟨A, cp, rfl, h1, h2, h3⟩, hz⟩⟩, _, hr⟩
    obtain ⟨l, rfl, hl, hok⟩ := ih hr
    refine ⟨⟨b.1, A, b.2.length, cp, b.2⟩ :: l, rfl, by simp [hl], fun r hr => ?_⟩
    rcases List.mem_cons.1 hr with rfl | hr
    · exact ⟨⟨h3, rfl, h1, h2⟩, hz⟩
    · exact hok r hr

theorem arg_recsz (hv : Value.okWide Try.prog w r b0 22 v) (h : DataW.Trod enc Try.prog w base spare held 22 v d ps) (hz : ∀ m ∈ d.weights Try.prog 22, m ≤ reachBytes) :
    ∃ (A : Option Addr) (n c : Nat) (l : List Rc), v = .slice A n c ∧ Rd w A (recV l) ∧ l.length = n ∧ n ≤ c ∧ c ≤ maxLen ∧ ∀ r ∈ l, RcOk w r ∧ r.n ≤ reachBytes := by
  obtain ⟨A, n, c, rfl⟩ := okWide_slice Try.underlying22 hv
  obtain ⟨fuel, hf⟩ := h
  have hO := @opensZ_slice Try.prog w _ _ _ _ Try.underlying22 (by kernel_rfl) (opensZ_struct2 Try.underlying43 rfl (by kernel_rfl) (by kernel_rfl) (Opens.z (opens_int Try.underlying3 (by kernel_rfl))) (opensZ_bytes Try.underlying27 (by kernel_rfl) Try.underlying5 (by kernel_rfl) (by kernel_rfl)))
  obtain ⟨x, ⟨A', c', vs, h1, h2, h3, h4, h5⟩, _⟩ := hO hf hz
  have h1' : [Value.slice A n c] = [Value.slice A' x.length c'] := h1
  simp only [List.cons.injEq, Value.slice.injEq, and_true] at h1'
  obtain ⟨rfl, rfl, rfl⟩ := h1'
  rw [show Try.prog.cellsOf 43 = 2 from by kernel_rfl] at h4
  obtain ⟨l, rfl, hl, hok⟩ := rep_recsz h4
  exact ⟨A, _, c, l, rfl, h5, hl, h2, h3, hok⟩
end

end Go.Proofs.Ythegpmoddmnhoaa
