/-
  A range over a map whose round stores at a key that is there: the loop goes on as it stood. Plain laws; no program is named.
-/
import Derived.Maps.RangeWalk
namespace Go.Proofs.YtbkpholkjgjicaaGreat.Fd
set_option linter.unusedVariables false
open Go.ChangeMaps Go.MapKept Go.WideShapes
open Go.WideElems (Fit rd rg pl rd_key rd_val rg_of other_key rd_mk)
open Go.Maps (Keyed)

section
variable {H : Type} {P : Program} {k : TypeId} {R : Value → Option (DataW H × List MemPlace)} {w : World} {b r n : Nat} {D : DataW H} {left : Lit → Bool} {cnt : Nat}

theorem leftOf_len (es es' : Array MapEntry) (seen : Array Nat) (h : es'.toList.map (·.born) = es.toList.map (·.born)) : (leftOf es' seen).size = (leftOf es seen).size := by
  have key : ∀ (l : List MapEntry), (l.filter (fun e => !seen.contains e.born)).length = ((l.map (·.born)).filter (fun x => !seen.contains x)).length := fun l => by
    rw [List.filter_map, List.length_map]; rfl
  have sz : ∀ (a : Array MapEntry), (leftOf a seen).size = (a.toList.filter (fun e => !seen.contains e.born)).length := fun a => by
    unfold leftOf
    rw [← Array.length_toList (xs := Array.filter _ a), Array.toList_filter]
  rw [sz, sz, key, key, h]

theorem ranges_put {t e : TypeId} (h : w.ranges P k R b r n D left cnt) (K : Keyed P k) (ht : P.underlying t = some (.map k e)) (hn : n < maxLen) {key val : Value} {kl : Lit} {d : DataW H} {ps : List MemPlace}
    (hkey : keyOf P k key = some kl) (hhas : Maps.has D kl = true) (hv : R val = some (d, ps)) :
    ∃ w', (Instr.mapUpdate t (.map (some b)) key val).run P w = .ok () w' ∧ w'.ranges P k R b r n (D.put kl d) left cnt ∧ w.grownBy w' (some b) := by
  have hne := h.ne
  obtain ⟨es, clock, since, seen, c0, hb, F, hs, rfl, hr, hold, rfl, hl1, hl2, hsc, hsk⟩ := h
  obtain ⟨es', clock', hrun, F', hput, _⟩ := Maps.fit_store (R' := R) K ht hb F (Nat.lt_of_le_of_lt hs hn) (fun _ _ _ _ hz => hz) hkey hv
  rcases K.find w hkey es.toList F.keys with ⟨h1, h2⟩ | ⟨j, e0, h1, h2, h3⟩
  · exfalso
    obtain ⟨p, hp, hpk⟩ := List.any_eq_true.1 hhas
    obtain ⟨x, hx, rfl⟩ := List.mem_map.1 (mem_sorted.1 hp)
    obtain ⟨y, hy⟩ := F.reads x hx
    have e1 : (rg P k R x).1 = kl := WideAt.sameKey_eq hpk
    have e2 := rd_key hy
    rw [rg_of hy] at e1
    rw [e1] at e2
    exact h2 x hx (K.inj e2 hkey)
  · have hj : es[j]? = some e0 := by simpa using h2
    have hrun2 : (Instr.mapUpdate t (.map (some b)) key val).run P w = .ok () (setBlock w b (.map (es.modify j (fun e' => { e' with key := key, val := val })) clock)) := by
      simp [Instr.mapUpdate, run_underlying ht, MapKept.run_getObj_map hb, K.check w false hkey, h1, hj, h3, K.stays w hkey, MapKept.run_setObj_map _ hb, Result.andThen, setBlock]
    rw [hrun2] at hrun
    have hw : setBlock w b (.map (es.modify j (fun e' => { e' with key := key, val := val })) clock) = setBlock w b (.map es' clock') := by injection hrun
    have ha := heap_setBlock_same hb (.map (es.modify j (fun e' => { e' with key := key, val := val })) clock)
    rw [hw, heap_setBlock_same hb] at ha
    injection ha with ha
    injection ha with ha1 ha2
    subst ha1 ha2
    have hlist : (es.modify j (fun e' => { e' with key := key, val := val })).toList = es.toList.set j { e0 with key := key, val := val } := by rw [Array.toList_modify, modify_eq_set _ _ _ _ h2]
    have hjl : j < es.toList.length := (List.getElem?_eq_some_iff.1 h2).1
    have he0 : es.toList[j] = e0 := (List.getElem?_eq_some_iff.1 h2).2
    obtain ⟨y0, hy0⟩ := F.reads e0 (List.mem_of_getElem? h2)
    have hk0 : (rg P k R e0).1 = kl := by
      have := rd_key hy0
      rw [h3, hkey] at this
      injection this with this
      rw [rg_of hy0, this]
    have hk1 : (rg P k R { e0 with key := key, val := val }).1 = kl := by rw [rg_of (rd_mk hkey hv)]
    have who : ∀ x ∈ es.toList.set j { e0 with key := key, val := val }, x = { e0 with key := key, val := val } ∨ x ∈ es.toList := fun x hx => by
      rcases List.mem_or_eq_of_mem_set hx with h | h
      · exact .inr h
      · exact .inl h
    have hD : (DataW.map ((es.toList.map (rg P k R)).foldr DataW.insert [])).put kl d = .map (((es.modify j (fun e' => { e' with key := key, val := val })).toList.map (rg P k R)).foldr DataW.insert []) := by rw [DataW.put_eq, hput]
    refine ⟨_, hrun2, ⟨_, _, since, seen, c0, heap_setBlock_same hb _, F', by simpa using hs, hD, (heap_setBlock_other hb _ hne).trans hr, ?_, ?_, ?_, ?_, hsc, hsk⟩, ⟨rfl, rfl, rfl, by simp [setBlock], fun i _ hi => heap_setBlock_other hb _ (fun e => hi (by rw [e]))⟩⟩
    · intro x hx
      rw [hlist] at hx
      rcases who x hx with rfl | hx
      · exact hold e0 (List.mem_of_getElem? h2)
      · exact hold x hx
    · refine leftOf_len _ _ _ ?_
      rw [hlist, List.map_set]
      have : (es.toList.map (·.born))[j]'(by simpa using hjl) = e0.born := by simp only [List.getElem_map]; rw [he0]
      show (es.toList.map (·.born)).set j e0.born = _
      rw [← this, List.set_getElem_self]
    · intro x hx
      rw [hlist] at hx
      rcases who x hx with rfl | hx
      · rw [hk1, ← hk0]; exact hl1 e0 (List.mem_of_getElem? h2)
      · exact hl1 x hx
    · intro kl' hkl'
      obtain ⟨x, hx, e⟩ := hl2 kl' hkl'
      rw [hlist]
      obtain ⟨i, hi, ex⟩ := List.getElem_of_mem hx
      by_cases hij : j = i
      · subst hij
        rw [he0] at ex
        subst ex
        exact ⟨{ e0 with key := key, val := val }, List.mem_iff_getElem.2 ⟨j, by simpa using hjl, by simp⟩, by rw [hk1, ← hk0, e]⟩
      · exact ⟨x, List.mem_iff_getElem.2 ⟨i, by simpa using hi, by rw [List.getElem_set_ne hij, ex]⟩, e⟩
end

end Go.Proofs.YtbkpholkjgjicaaGreat.Fd
