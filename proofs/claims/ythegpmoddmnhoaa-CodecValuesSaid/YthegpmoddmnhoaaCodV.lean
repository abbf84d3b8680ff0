/-
  The contract of codec.Values.
-/
import Derived.Test.YthegpmoddmnhoaaCodSm
namespace Go.Proofs.Ythegpmoddmnhoaa
set_option linter.unusedVariables false
open Go.RowKit

theorem valT : ElemT Try.prog 45 27 (.slice none 0 0) 1 24 := ⟨Try.underlying45, by kernel_rfl, rfl, by omega⟩

def valV (l : List Rc) : List Value := l.map fun r => .slice r.A r.n r.c
/-- The values of the records of a type. -/
def vals (l : List Rec) (k : Int) : List (List UInt8) := (l.filter fun r => r.1 == k).map (·.2)
theorem vals_yes (l : List Rc) (k : Nat) (hk : k < l.length) (kind : Int) (h : l[k].t = kind) : vals ((l.take (k + 1)).map dat) kind = vals ((l.take k).map dat) kind ++ [l[k].bs] := by
  have h2 : ((dat l[k]).1 == kind) = true := by simpa [dat] using h
  rw [List.take_succ_eq_append_getElem hk, List.map_append, vals, List.filter_append, List.map_append, List.map_cons, List.map_nil, List.filter_cons, if_pos h2]
  rfl
theorem vals_no (l : List Rc) (k : Nat) (hk : k < l.length) (kind : Int) (h : l[k].t ≠ kind) : vals ((l.take (k + 1)).map dat) kind = vals ((l.take k).map dat) kind := by
  have h2 : ¬ ((dat l[k]).1 == kind) = true := by simpa [dat] using h
  rw [List.take_succ_eq_append_getElem hk, List.map_append, vals, List.filter_append, List.map_append, List.map_cons, List.map_nil, List.filter_cons, if_neg h2]
  simp [vals]
theorem vals_len (l : List Rec) (k : Int) : (vals l k).length ≤ l.length := by
  unfold vals; rw [List.length_map]; exact List.length_filter_le _ _
theorem vals_split (l : List Rc) (k : Nat) (kind : Int) : vals (l.map dat) kind = vals ((l.take k).map dat) kind ++ vals ((l.drop k).map dat) kind := by
  conv => lhs; rw [← List.take_append_drop k l, List.map_append, vals, List.filter_append, List.map_append]
  rfl

def ValPost (W : World) (l : List Rec) (kind : Int) (e : Ending) (w' : World) : Prop :=
  ∃ v rs, e = .returned v ∧ w'.ownsRow W.heap.size 27 1 v rs.length (valV rs) ∧ (∀ r ∈ rs, RcOwn w' W.heap.size 5 r) ∧ rs.map (·.bs) = vals l kind ∧ Below W.heap.size W w'

set_option maxHeartbeats 4000000 in
theorem values_any (A : Option Addr) (n cap : Nat) (l : List Rc) (kind : Int) (w : World) (hr : Rd w A (recV l)) (hok : ∀ r ∈ l, RcOk w r) (hn : l.length = n) (hn2 : n ≤ 1000) (hsm : ∀ r ∈ l, r.n ≤ 140737488355328) :
    Calls Try.prog 19 #[.slice A n cap, .int .i64 kind] w (ValPost w (l.map dat) kind) := by
  subst hn
  have S := (St.start w).read hr
  replace hok := Lib.hid hok
  replace hsm := Lib.hid hsm
  clear hr
  go_enter Try.func19, Try.ntmps19
  go_wp2_with fail
  go_loopw [5, 10] (fun v5 v10 wr => ∃ (k : Nat) (rs : List Rc), k ≤ l.length ∧ v10 = .int .i64 k ∧ wr.ownsRow w.heap.size 27 1 v5 rs.length (valV rs) ∧ Hid (∀ r ∈ rs, RcOwn wr w.heap.size 5 r) ∧ Hid (rs.map (·.bs) = vals ((l.take k).map dat) kind) ∧ rs.length ≤ k ∧ St w wr [] [(A, recV l)]) (fun _ v10 _ => l.length - (intOf v10).toNat)
  case atStart => exact ⟨0, [], by omega, rfl, World.ownsRow_nil _ _ _ _, (by intro r hr; simp at hr), rfl, by simp, S⟩
  case round =>
    clear S
    obtain ⟨k, rs, hk, rfl, hown, hrs, hvs, hrk, S⟩ := hrel
    by_cases hkn : k < l.length
    · obtain ⟨b, off, rfl, c0, c1⟩ := rd_recs (S.r 0 rfl) hkn
      have hrk0 := hok.out l[k] (List.getElem_mem hkn)
      have hsm0 := hsm.out l[k] (List.getElem_mem hkn)
      have hy := vals_yes l k hkn kind
      have hno := vals_no l k hkn kind
      generalize l[k] = r at c0 c1 hrk0 hsm0 hy hno
      obtain ⟨t, C, q, c, bs⟩ := r
      obtain ⟨rd, hl, hnc, hcm⟩ := hrk0
      simp only at c0 c1 rd hl hnc hcm hsm0 hy hno
      replace hl := Lib.hid hl
      by_cases ht : t = kind
      · subst ht
        have hv2 : Hid ((rs.map (·.bs)) ++ [bs] = vals ((l.take (k + 1)).map dat) t) := by show _ = _; rw [hy rfl, hvs.out]
        have S1 := S.call (below_new' wr (.cells #[.int .i64 t, .slice C q c] 56))
        have X := clone_any C q c bs _ (rd.below S1.b) hl.out hsm0
        replace hown := own_below hown (below_new' wr (.cells #[.int .i64 t, .slice C q c] 56))
        replace hrs : Hid (∀ r ∈ rs, RcOwn (wr.alloc (.cells #[.int .i64 t, .slice C q c] 56)) w.heap.size 5 r) := fun r hr => (hrs.out r hr).below (below_new' _ _)
        replace X := Lib.hid X
        clear hy hno
        go_wp2_with fail
        (with_reducible refine X.out.mono ?_)
        rintro e w2 ⟨v2, rfl, hown2, hb2⟩
        obtain ⟨A2, c2, rfl, rd2, hc2, hc2m⟩ := own_rd hown2
        have hsz := S1.b.size
        have hcl : RcOwn w2 w.heap.size 5 ⟨t, A2, q, c2, bs⟩ := own_mono hown2 hsz
        replace S := S1.call hb2
        replace hown := own_below hown hb2
        replace hrs : Hid (∀ r ∈ rs, RcOwn w2 w.heap.size 5 r) := fun r hr => (hrs.out r hr).below hb2
        have hb3 := below_new' w2 (.cells #[.slice A2 q c2] 27)
        have hown1 := own_below hown hb3
        have rd0 := Rd.lit w2 #[.slice A2 q c2] 27
        have S2 := S.call hb3
        have hsz2 := S2.b.size
        have hrs1 : Hid (∀ r ∈ rs ++ [Rc.mk t A2 q c2 bs], RcOwn (w2.alloc (.cells #[.slice A2 q c2] 27)) w.heap.size 5 r) := by
          intro r hr
          rcases List.mem_append.1 hr with hr | hr
          · exact (hrs.out r hr).below hb3
          · obtain rfl := List.mem_singleton.1 hr; exact hcl.below hb3
        clear hown hrs X hown2 hb2 rd2 hcl c0 c1 S1
        go_wp2_with (at_builtin; refine wpList_appG rfl valT (.tmp 18) (.tmp 22) rfl w.heap.size rfl hown1 (m := 1) rfl (by simp) rd0 (by simp [Value.oneCell']) (by simp only [maxLen]; omega) (by omega) hsz2 (rs.length + 1) (valV (rs ++ [Rc.mk t A2 q c2 bs])) (by omega) (by simp [valV]) ?_; intro v3 w3 hown3 hbel3 hg3)
        have hrs3 : Hid (∀ r ∈ rs ++ [Rc.mk t A2 q c2 bs], RcOwn w3 w.heap.size 5 r) := fun r hr => (hrs1.out r hr).grown hown1 (by decide) hg3
        replace S : St w w3 [] [(some ⟨b, off, none⟩, recV l)] := ⟨S2.b.trans hbel3, by simp, S.rd⟩
        go_roundw
        case rel => exact ⟨k + 1, rs ++ [Rc.mk t A2 q c2 bs], by omega, by go_num, by rw [List.length_append]; exact hown3, hrs3, by show _ = _; rw [List.map_append]; exact hv2.out, by simp; omega, S⟩
        case measure => simp [intOf]; omega
      · have hv2 : Hid (rs.map (·.bs) = vals ((l.take (k + 1)).map dat) kind) := by show _ = _; rw [hno ht, hvs.out]
        have ht' : (t == kind) = false := by simpa using ht
        have S1 := S.call (below_new' wr (.cells #[.int .i64 t, .slice C q c] 56))
        replace hown := own_below hown (below_new' wr (.cells #[.int .i64 t, .slice C q c] 56))
        replace hrs : Hid (∀ r ∈ rs, RcOwn (wr.alloc (.cells #[.int .i64 t, .slice C q c] 56)) w.heap.size 5 r) := fun r hr => (hrs.out r hr).below (below_new' _ _)
        clear hy hno
        go_wp2_with fail
        go_roundw
        case rel => exact ⟨k + 1, rs, by omega, by go_num, hown, hrs, hv2, by omega, S1⟩
        case measure => simp [intOf]; omega
    · obtain rfl : k = l.length := by omega
      rw [List.take_length] at hvs
      go_wp2_with fail
      go_ret
      exact ⟨_, rs, rfl, hown, hrs.out, hvs.out, S.b⟩

end Go.Proofs.Ythegpmoddmnhoaa
