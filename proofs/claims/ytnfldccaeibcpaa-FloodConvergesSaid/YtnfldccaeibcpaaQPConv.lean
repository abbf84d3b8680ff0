/-
  The statement FloodConverges: for every input that can be read, the law returns true and leaves its arguments as they were. No condition.
-/
import Derived.Test.YtnfldccaeibcpaaQPConv6
import Derived.Test.YtnfldccaeibcpaaQPConv5
import Derived.Test.YtnfldccaeibcpaaQPConv1
import Derived.Test.YtnfldccaeibcpaaQPConv2
import Derived.Lib.QuietBelow
import Derived.Deep.DeepCutAuto
import Derived.Test.YtnfldccaeibcpaaLaArg
import Derived.Test.YtnfldccaeibcpaaQPConv4
import Derived.Test.YtnfldccaeibcpaaFrame
namespace Go.Proofs.Ytnfldccaeibcpaa
set_option linter.unusedVariables false
open Go.RowKit Go.Maps Go.Sort

/-- A list of marks. -/
def gV (n : Nat) (f : Nat → Nat) : List Value := (List.range n).map fun i => .int .i64 ((f i : Nat) : Int)
theorem gV_len (n : Nat) (f : Nat → Nat) : (gV n f).length = n := by simp [gV]
theorem gV_get {n i : Nat} (f : Nat → Nat) (h : i < n) : (gV n f)[i]? = some (.int .i64 ((f i : Nat) : Int)) := by
  unfold gV
  rw [List.getElem?_map, List.getElem?_range h]
  rfl
theorem gV_set {n i : Nat} (f : Nat → Nat) (h : i < n) (v : Nat) : (gV n f).set i (.int .i64 (v : Int)) = gV n (upd f i v) := by
  refine List.ext_getElem? fun j => ?_
  rw [List.getElem?_set, gV_len]
  by_cases e : i = j
  · subst e
    rw [if_pos rfl, if_pos h, gV_get _ h, upd_same]
  · rw [if_neg e]
    by_cases hj : j < n
    · rw [gV_get _ hj, gV_get _ hj, upd_ne (fun e2 => e e2.symm)]
    · rw [List.getElem?_eq_none (by rw [gV_len]; omega), List.getElem?_eq_none (by rw [gV_len]; omega)]
theorem gV_congr {n : Nat} {f g : Nat → Nat} (h : ∀ i, i < n → f i = g i) : gV n f = gV n g := by
  unfold gV
  exact List.map_congr_left fun i hi => by rw [h i (List.mem_range.1 hi)]
theorem gV_zero (n : Nat) : (zeroRow (.int .i64 0) n).toList = gV n fun _ => 0 := by
  simp [zeroRow, gV, List.map_const']
theorem inT : ElemT Try.prog 61 3 (.int .i64 0) 1 8 := ⟨Try.underlying61, by kernel_rfl, rfl, by omega⟩
theorem gStep_upd (f : Nat → Nat) (p : Nat × Nat) : upd (upd f p.1 (min (f p.1) (f p.2))) p.2 (min (f p.1) (f p.2)) = gStep f p := by
  funext i
  unfold upd gStep
  by_cases h1 : i = p.2
  · rw [if_pos h1, if_pos (.inr h1)]
  · rw [if_neg h1]
    by_cases h2 : i = p.1
    · rw [if_pos h2, if_pos (.inl h2)]
    · rw [if_neg h2, if_neg (by simp [h1, h2])]
/-- Where a node's advertisement begins. -/
def atF (n : Nat) (at' : List UInt8) (k : Nat) : Nat := match at'[k]? with | some b => b.toNat % n | none => 0

/-- What is installed for the group of marks g. -/
def filG (F : Nat → Nat) (g : Nat) (bs : List (La × Nat)) : List La := (bs.filter fun b => decide (F b.2 = g)).map (·.1)
theorem filG_snoc (F : Nat → Nat) (g : Nat) (bs : List (La × Nat)) (b : La × Nat) : filG F g (bs ++ [b]) = if F b.2 = g then filG F g bs ++ [b.1] else filG F g bs := by
  unfold filG
  rw [List.filter_append, List.map_append]
  by_cases h : F b.2 = g
  · rw [if_pos h]; simp [h]
  · rw [if_neg h]; simp [h]
/-- While the want of a group is made. -/
structure WtAt (w wr : World) (n : Nat) (F : Nat → Nat) (g : Nat) (bs : List (La × Nat)) (kg gw : Nat) (bx : List Value) (AA : Option Addr) (at' : List UInt8) (AX : Option Addr) (xs : List Lx) (R : Nat → Rs) (k : Nat) : Prop where
  st : St w wr [(gw, rdC R), (kg, gV n F), (w.heap.size, bx)] [(AA, at'.map u8v), (AX, lxV xs)]
  ok : RdOk w R
  db : dbOf R = insts (filG F g (bs.take k))

set_option maxRecDepth 100000 in
set_option maxHeartbeats 12800000 in
theorem agrees_any {B0 : Nat} {w0 w : World} {m : Nm} {n : Nat} {ls : Lks} {S : Ns} {Aw : Option Addr} {cw : Nat} {ms : List Mx} {bs : List (La × Nat)} (h : NtAt B0 w0 w m n ls S Aw cw ms) (H : Inv n ls (Gd ls bs) bs S) (hok : ∀ b ∈ bs, LaOk b.1 ∧ b.2 < n) (hls : ∀ p ∈ ls, p.1 < n ∧ p.2 < n)
    (hp : ∀ i l o, i < n → pdA (S.fl i) l o = none) (hn : n ≤ 5) (hL : ls.length ≤ 8) (z : Int) (AL : Option Addr) (nl cl : Nat) (AA : Option Addr) (na ca : Nat) (at' : List UInt8) (hAA : Bs w AA at') (hna : at'.length = na) (hnam : na ≤ maxLen) (AX : Option Addr) (nx cx : Nat) (xs : List Lx) (hAX : Rd w AX (lxV xs)) (hnx : xs.length = nx) (hx6 : nx ≤ 6) (hxo : ∀ s ∈ xs, LxOk w s)
    (hbs : bs = xs.mapIdx fun k s => (s.y, atF n at' k)) :
    Calls Try.prog 9 #[.pointer (some ⟨m.g, 0, none⟩), .agg #[.int .u8 z, .slice AL nl cl, .slice AA na ca, .slice AX nx cx]] w fun e w' => e = .returned (.bool true) ∧ Below w.heap.size w w' := by
  have hG := gd_ok (ls := ls) fun b hb => (hok b hb).1
  have NB : Hid (∀ W, Below w.heap.size w W → NtAt B0 w0 W m n ls S Aw cw ms) := fun W hb => h.below hb
  have SS := (((St.start w).read hAX).read hAA).new' #[.int .u8 z, .slice AL nl cl, .slice AA na ca, .slice AX nx cx] 26 w.heap.size _ rfl rfl
  have MK := fun W => run_make1 (P := Try.prog) inT rfl .i64 .i64 n n (Nat.le_refl _) (by omega) (by omega) W
  clear h
  go_enter Try.func9, Try.ntmps9
  go_upto_region 1 with fail
  generalize World.alloc w _ = w1 at *
  have NT := NB.out _ SS.b
  have x0 := NT.bx.c 0 rfl
  go_upto_region 3 with fail
  clear x0
  have SG := SS.new' (zeroRow (.int .i64 0) n) 3 w1.heap.size (gV n fun _ => 0) rfl (gV_zero n)
  have hkg : w.heap.size < w1.heap.size := SS.lt 0 rfl (by simp)
  clear SS NT MK
  generalize World.alloc w1 _ = w2 at *
  generalize w1.heap.size = kg at *
  have e0 : gV n (fun _ => 0) = gV n fun j => if j < 0 then j else 0 := gV_congr fun i _ => by simp
  rw [e0] at SG
  clear e0
  go_wp2_with fail
  go_loopw [7] (fun v7 wr => ∃ (i : Nat), v7 = .int .i64 i ∧ i ≤ n ∧ St w wr [(kg, gV n fun j => if j < i then j else 0), (w.heap.size, [.int .u8 z, .slice AL nl cl, .slice AA na ca, .slice AX nx cx])] [(AA, at'.map u8v), (AX, lxV xs)]) (fun v7 _ => n - (intOf v7).toNat)
  case atStart => exact ⟨0, rfl, by omega, SG⟩
  case round =>
    clear SG
    obtain ⟨i, rfl, hi, SG⟩ := hrel
    by_cases hin : i < n
    · have p0 := SG.c 0 i rfl (gV_get _ hin)
      have f0 := SG.f 0 i rfl (gV_get _ hin)
      have S2 := SG.set 0 i (.int .i64 (i : Int)) rfl (by rw [gV_len]; exact hin) (by omega) (by simp; omega) _ rfl
      simp only [List.set_cons_zero] at S2
      rw [gV_set _ hin] at S2
      have e0 : gV n (upd (fun j => if j < i then j else 0) i i) = gV n fun j => if j < i + 1 then j else 0 := gV_congr fun j _ => by
        unfold upd
        by_cases e : j = i
        · subst e; simp
        · by_cases e2 : j < i
          · simp [e, e2]; intro h; omega
          · have : ¬ j < i + 1 := by omega
            simp [e, e2, this]
      rw [e0] at S2
      clear e0 SG
      go_wp2_with fail
      go_round
      case rel => exact ⟨i + 1, by go_num, by omega, S2⟩
      case measure => simp [intOf]; omega
    · obtain rfl : n = i := by omega
      have e0 : (gV n fun j => if j < n then j else 0) = gV n (gAll ls 0) := gV_congr fun j hj => by rw [if_pos hj]; rfl
      rw [e0] at SG
      clear e0
      go_wp2_with fail
      go_loopw [8] (fun v8 wr => ∃ (r : Nat), v8 = .int .i64 r ∧ r ≤ n ∧ St w wr [(kg, gV n (gAll ls r)), (w.heap.size, [.int .u8 z, .slice AL nl cl, .slice AA na ca, .slice AX nx cx])] [(AA, at'.map u8v), (AX, lxV xs)]) (fun v8 _ => n - (intOf v8).toNat)
      case atStart => exact ⟨0, rfl, by omega, SG⟩
      case round =>
        clear SG
        obtain ⟨r, rfl, hr, SG⟩ := hrel
        by_cases hrn : r < n
        · have SG0 : St w _ [(kg, gV n ((ls.take 0).foldl gStep (gAll ls r))), (w.heap.size, [.int .u8 z, .slice AL nl cl, .slice AA na ca, .slice AX nx cx])] [(AA, at'.map u8v), (AX, lxV xs)] := SG
          clear SG
          go_wp2_with fail
          go_loopw [9] (fun v9 wr => ∃ (l : Nat), v9 = .int .i64 l ∧ l ≤ ls.length ∧ St w wr [(kg, gV n ((ls.take l).foldl gStep (gAll ls r))), (w.heap.size, [.int .u8 z, .slice AL nl cl, .slice AA na ca, .slice AX nx cx])] [(AA, at'.map u8v), (AX, lxV xs)]) (fun v9 _ => ls.length - (intOf v9).toNat)
          case atStart => exact ⟨0, rfl, by omega, SG0⟩
          case round =>
            clear SG0
            obtain ⟨l, rfl, hl, SG⟩ := hrel
            have NT := NB.out _ SG.b
            have x2 := NT.bx.c 2 rfl
            by_cases hll : l < ls.length
            · obtain ⟨p, hpl⟩ : ∃ p, ls[l]? = some p := ⟨_, List.getElem?_eq_getElem hll⟩
              obtain ⟨b2, off2, hA2, c0, c1⟩ := lk2_cells (own_slice NT.r2) hpl
              rw [hA2] at x2
              obtain ⟨hp1, hp2⟩ := hls p (List.mem_of_getElem? hpl)
              have hfold : (ls.take (l + 1)).foldl gStep (gAll ls r) = gStep ((ls.take l).foldl gStep (gAll ls r)) p := by
                rw [List.take_succ_eq_append_getElem hll, List.foldl_append]
                rw [List.getElem?_eq_getElem hll] at hpl
                injection hpl with hpl
                rw [hpl]
                rfl
              generalize (ls.take l).foldl gStep (gAll ls r) = f at *
              have hsu := gStep_upd f p
              replace hfold := Lib.hid hfold
              replace hsu := Lib.hid hsu
              clear hpl hA2
              go_upto_region 13 with fail
              go_quiet (fail)
              replace SG := SG.drewN (nq + 1)
              clear x2 c0 c1 NT
              have k1 := SG.c 0 p.1 rfl (gV_get _ hp1)
              have k2 := SG.c 0 p.2 rfl (gV_get _ hp2)
              have k1f := SG.f 0 p.1 rfl (gV_get _ hp1)
              have hmin : min ((f p.1 : Nat) : Int) ((f p.2 : Nat) : Int) = ((min (f p.1) (f p.2) : Nat) : Int) := by omega
              have S2 := SG.set 0 p.1 (.int .i64 ((min (f p.1) (f p.2) : Nat) : Int)) rfl (by rw [gV_len]; exact hp1) (by omega) (by simp; omega) _ rfl
              simp only [List.set_cons_zero] at S2
              rw [gV_set _ hp1] at S2
              have k2f := S2.f 0 p.2 rfl (gV_get _ hp2)
              have k2c := S2.c 0 p.2 rfl (gV_get _ hp2)
              have S3 := S2.set 0 p.2 (.int .i64 ((min (f p.1) (f p.2) : Nat) : Int)) rfl (by rw [gV_len]; exact hp2) (by omega) (by simp; omega) _ rfl
              simp only [List.set_cons_zero] at S3
              rw [gV_set _ hp2, hsu.out] at S3
              clear S2 SG hsu
              generalize p.1 = a at *
              generalize p.2 = bb at *
              generalize f a = fa at *
              generalize f bb = fb at *
              go_upto_region 14 with fail
              refine wp_region_noPanic ?_
              refine wp_region_Z (S := fun W => W.cell? ⟨kg, a, none⟩ = some (.int .i64 (fa : Int)) ∧ W.cell? ⟨kg, bb, none⟩ = some (.int .i64 (fb : Int))) [22, 23, 24, 25] (by kernel_rfl) ⟨k1, k2⟩ (fun hHeld => ?_)
              refine takeU (i := 0) (v := ?_) (some 66) rfl rfl (by kernel_rfl) (by kernel_rfl) (by kernel_rfl) (fun _ _ _ h => h) (Or.inl ⟨by rfl, ?_⟩) ?_
              rotate_left
              · intro w hSw; go_simp; (try with_reducible rfl)
              (try simp only [Act.put]); (try simp only [List.setIfInBounds_toArray]); (try simp only [List.set_cons_succ]); (try simp only [List.set_cons_zero])
              refine takeU (i := 1) (v := ?_) (some 67) rfl rfl (by kernel_rfl) (by kernel_rfl) (by kernel_rfl) (fun _ _ _ h => h) (Or.inl ⟨by rfl, ?_⟩) ?_
              rotate_left
              · intro w hSw; go_simp; (try with_reducible rfl)
              (try simp only [Act.put]); (try simp only [List.setIfInBounds_toArray]); (try simp only [List.set_cons_succ]); (try simp only [List.set_cons_zero])
              refine takeU (i := 2) (v := ?_) (some 68) rfl rfl (by kernel_rfl) (by kernel_rfl) (by kernel_rfl) (fun _ _ _ h => h) (Or.inl ⟨by rfl, ?_⟩) ?_
              rotate_left
              · intro w hSw; go_simp; (try with_reducible rfl)
              (try simp only [Act.put]); (try simp only [List.setIfInBounds_toArray]); (try simp only [List.set_cons_succ]); (try simp only [List.set_cons_zero])
              refine takeU (i := 3) (v := ?_) (some 69) rfl rfl (by kernel_rfl) (by kernel_rfl) (by kernel_rfl) (fun _ _ _ h => h) (Or.inl ⟨by rfl, ?_⟩) ?_
              rotate_left
              · intro w hSw; go_simp; (try with_reducible rfl)
              (try simp only [Act.put]); (try simp only [List.setIfInBounds_toArray]); (try simp only [List.set_cons_succ]); (try simp only [List.set_cons_zero])
              refine takeU (i := 4) (v := ?_) (some 70) rfl rfl (by kernel_rfl) (by kernel_rfl) (by kernel_rfl) (fun _ _ _ h => h) (Or.inl ⟨by rfl, ?_⟩) ?_
              rotate_left
              · intro w hSw; go_simp; (try with_reducible rfl)
              (try simp only [Act.put]); (try simp only [List.setIfInBounds_toArray]); (try simp only [List.set_cons_succ]); (try simp only [List.set_cons_zero])
              refine takeU (i := 5) (v := ?_) (some 71) rfl rfl (by kernel_rfl) (by kernel_rfl) (by kernel_rfl) (fun _ _ _ h => h) (Or.inl ⟨by rfl, ?_⟩) ?_
              rotate_left
              · intro w hSw; go_simp; (try with_reducible rfl)
              (try simp only [Act.put]); (try simp only [List.setIfInBounds_toArray]); (try simp only [List.set_cons_succ]); (try simp only [List.set_cons_zero])
              refine takeU (i := 6) (v := ?_) (some 72) rfl rfl (by kernel_rfl) (by kernel_rfl) (by kernel_rfl) (fun _ _ _ h => h) (Or.inl ⟨by rfl, ?_⟩) ?_
              rotate_left
              · intro w hSw; go_simp; (try with_reducible rfl)
              (try simp only [Act.put]); (try simp only [List.setIfInBounds_toArray]); (try simp only [List.set_cons_succ]); (try simp only [List.set_cons_zero])
              refine takeZ (i := 7) (v := ?_) (some 73) rfl rfl (by kernel_rfl) (by kernel_rfl) (by kernel_rfl) (by kernel_rfl) (fun _ _ _ h => h) (Or.inl ⟨by rfl, ?_⟩) (by assumption) ?_
              rotate_left
              · intro w hSw; (try dsimp only at hSw); go_simp; (try with_reducible rfl)
              (try simp only [Act.put]); (try simp only [List.setIfInBounds_toArray]); (try simp only [List.set_cons_succ]); (try simp only [List.set_cons_zero])
              refine takeU (i := 8) (v := ?_) (some 74) rfl rfl (by kernel_rfl) (by kernel_rfl) (by kernel_rfl) (fun _ _ _ h => h) (Or.inl ⟨by rfl, ?_⟩) ?_
              rotate_left
              · intro w hSw; go_simp; (try with_reducible rfl)
              (try simp only [Act.put]); (try simp only [List.setIfInBounds_toArray]); (try simp only [List.set_cons_succ]); (try simp only [List.set_cons_zero])
              refine takeU (i := 9) (v := ?_) (some 75) rfl rfl (by kernel_rfl) (by kernel_rfl) (by kernel_rfl) (fun _ _ _ h => h) (Or.inl ⟨by rfl, ?_⟩) ?_
              rotate_left
              · intro w hSw; go_simp; (try with_reducible rfl)
              (try simp only [Act.put]); (try simp only [List.setIfInBounds_toArray]); (try simp only [List.set_cons_succ]); (try simp only [List.set_cons_zero])
              refine takeU (i := 10) (v := ?_) (some 76) rfl rfl (by kernel_rfl) (by kernel_rfl) (by kernel_rfl) (fun _ _ _ h => h) (Or.inl ⟨by rfl, ?_⟩) ?_
              rotate_left
              · intro w hSw; go_simp; (try with_reducible rfl)
              (try simp only [Act.put]); (try simp only [List.setIfInBounds_toArray]); (try simp only [List.set_cons_succ]); (try simp only [List.set_cons_zero])
              refine takeZ (i := 11) (v := ?_) (some 77) rfl rfl (by kernel_rfl) (by kernel_rfl) (by kernel_rfl) (by kernel_rfl) (fun _ _ _ h => h) (Or.inl ⟨by rfl, ?_⟩) (by assumption) ?_
              rotate_left
              · intro w hSw; (try dsimp only at hSw); go_simp; (try with_reducible rfl)
              (try simp only [Act.put]); (try simp only [List.setIfInBounds_toArray]); (try simp only [List.set_cons_succ]); (try simp only [List.set_cons_zero])
              refine takeU (i := 12) (v := ?_) (some 78) rfl rfl (by kernel_rfl) (by kernel_rfl) (by kernel_rfl) (fun _ _ _ h => h) (Or.inl ⟨by rfl, ?_⟩) ?_
              rotate_left
              · intro w hSw; go_simp; (try with_reducible rfl)
              (try simp only [Act.put]); (try simp only [List.setIfInBounds_toArray]); (try simp only [List.set_cons_succ]); (try simp only [List.set_cons_zero])
              refine takeU (i := 13) (v := ?_) (some 79) rfl rfl (by kernel_rfl) (by kernel_rfl) (by kernel_rfl) (fun _ _ _ h => h) (Or.inl ⟨by rfl, ?_⟩) ?_
              rotate_left
              · intro w hSw; go_simp; (try with_reducible rfl)
              (try simp only [Act.put]); (try simp only [List.setIfInBounds_toArray]); (try simp only [List.set_cons_succ]); (try simp only [List.set_cons_zero])
              refine takeU (i := 14) (v := ?_) (some 80) rfl rfl (by kernel_rfl) (by kernel_rfl) (by kernel_rfl) (fun _ _ _ h => h) (Or.inl ⟨by rfl, ?_⟩) ?_
              rotate_left
              · intro w hSw; go_simp; (try with_reducible rfl)
              (try simp only [Act.put]); (try simp only [List.setIfInBounds_toArray]); (try simp only [List.set_cons_succ]); (try simp only [List.set_cons_zero])
              refine takeU (i := 15) (v := ?_) (some 81) rfl rfl (by kernel_rfl) (by kernel_rfl) (by kernel_rfl) (fun _ _ _ h => h) (Or.inl ⟨by rfl, ?_⟩) ?_
              rotate_left
              · intro w hSw; go_simp; (try with_reducible rfl)
              (try simp only [Act.put]); (try simp only [List.setIfInBounds_toArray]); (try simp only [List.set_cons_succ]); (try simp only [List.set_cons_zero])
              refine takeZ (i := 16) (v := ?_) (some 82) rfl rfl (by kernel_rfl) (by kernel_rfl) (by kernel_rfl) (by kernel_rfl) (fun _ _ _ h => h) (Or.inl ⟨by rfl, ?_⟩) (by assumption) ?_
              rotate_left
              · intro w hSw; (try dsimp only at hSw); go_simp; (try with_reducible rfl)
              (try simp only [Act.put]); (try simp only [List.setIfInBounds_toArray]); (try simp only [List.set_cons_succ]); (try simp only [List.set_cons_zero])
              refine takeU (i := 17) (v := ?_) (some 83) rfl rfl (by kernel_rfl) (by kernel_rfl) (by kernel_rfl) (fun _ _ _ h => h) (Or.inl ⟨by rfl, ?_⟩) ?_
              rotate_left
              · intro w hSw; go_simp; (try with_reducible rfl)
              (try simp only [Act.put]); (try simp only [List.setIfInBounds_toArray]); (try simp only [List.set_cons_succ]); (try simp only [List.set_cons_zero])
              refine takeU (i := 18) (v := ?_) (some 84) rfl rfl (by kernel_rfl) (by kernel_rfl) (by kernel_rfl) (fun _ _ _ h => h) (Or.inl ⟨by rfl, ?_⟩) ?_
              rotate_left
              · intro w hSw; go_simp; (try with_reducible rfl)
              (try simp only [Act.put]); (try simp only [List.setIfInBounds_toArray]); (try simp only [List.set_cons_succ]); (try simp only [List.set_cons_zero])
              refine takeU (i := 19) (v := ?_) (some 85) rfl rfl (by kernel_rfl) (by kernel_rfl) (by kernel_rfl) (fun _ _ _ h => h) (Or.inl ⟨by rfl, ?_⟩) ?_
              rotate_left
              · intro w hSw; go_simp; (try with_reducible rfl)
              (try simp only [Act.put]); (try simp only [List.setIfInBounds_toArray]); (try simp only [List.set_cons_succ]); (try simp only [List.set_cons_zero])
              refine takeZ (i := 20) (v := ?_) (some 86) rfl rfl (by kernel_rfl) (by kernel_rfl) (by kernel_rfl) (by kernel_rfl) (fun _ _ _ h => h) (Or.inl ⟨by rfl, ?_⟩) (by assumption) ?_
              rotate_left
              · intro w hSw; (try dsimp only at hSw); go_simp; (try with_reducible rfl)
              (try simp only [Act.put]); (try simp only [List.setIfInBounds_toArray]); (try simp only [List.set_cons_succ]); (try simp only [List.set_cons_zero])
              refine takeU (i := 21) (v := ?_) (some 87) rfl rfl (by kernel_rfl) (by kernel_rfl) (by kernel_rfl) (fun _ _ _ h => h) (Or.inl ⟨by rfl, ?_⟩) ?_
              rotate_left
              · intro w hSw; go_simp; (try with_reducible rfl)
              (try simp only [Act.put]); (try simp only [List.setIfInBounds_toArray]); (try simp only [List.set_cons_succ]); (try simp only [List.set_cons_zero])
              refine takeU (i := 22) (v := ?_) (some 88) rfl rfl (by kernel_rfl) (by kernel_rfl) (by kernel_rfl) (fun _ _ _ h => h) (Or.inl ⟨by rfl, ?_⟩) ?_
              rotate_left
              · intro w hSw; go_simp; (try with_reducible rfl)
              (try simp only [Act.put]); (try simp only [List.setIfInBounds_toArray]); (try simp only [List.set_cons_succ]); (try simp only [List.set_cons_zero])
              have k1c : (wr.drewN nq).drew.cell? ⟨kg, a, none⟩ = _ := hHeld.1
              have k1g : (wr.drewN nq).drew.frozen? ⟨kg, a, none⟩ = false := k1f
              refine anyZ_ready (rs := [23]) (by kernel_rfl) (by simp) ?_
              refine readyZ_cons rfl (fun K hK => ?_) readyZ_nil
              go_simp
              (try rw [hmin])
              refine hK.out _ _ (fun h => absurd h (by decide)) (fun _ => ?_)
              clear hK K hHeld k1c k1g
              refine takeU (i := 24) (v := ?_) (some 89) rfl rfl (by kernel_rfl) (by kernel_rfl) (by kernel_rfl) (fun _ _ _ h => h) (Or.inl ⟨by rfl, ?_⟩) ?_
              rotate_left
              · intro w hSw; go_simp; (try with_reducible rfl)
              (try simp only [Act.put]); (try simp only [List.setIfInBounds_toArray]); (try simp only [List.set_cons_succ]); (try simp only [List.set_cons_zero])
              have k2g : ((wr.drewN nq).drew.setCell ⟨kg, a, none⟩ (.int .i64 ((min fa fb : Nat) : Int))).cell? ⟨kg, bb, none⟩ = _ := k2c
              have k2h : ((wr.drewN nq).drew.setCell ⟨kg, a, none⟩ (.int .i64 ((min fa fb : Nat) : Int))).frozen? ⟨kg, bb, none⟩ = false := k2f
              refine anyZ_ready (rs := [25]) (by kernel_rfl) (by simp) ?_
              refine readyZ_cons rfl (fun K hK => ?_) readyZ_nil
              go_simp
              (try rw [hmin])
              refine hK.out _ _ (fun h => absurd h (by decide)) (fun _ => ?_)
              clear hK K k2g k2h
              refine anyZ_done (by kernel_rfl) ?_ _
              refine NoPanic.normal ?_
              have S4 : St w (((wr.drewN nq).drew.setCell ⟨kg, a, none⟩ (.int .i64 ((min fa fb : Nat) : Int))).setCell ⟨kg, bb, none⟩ (.int .i64 ((min fa fb : Nat) : Int))) _ _ := S3
              rw [← hfold.out] at S4
              clear S3 k1 k2 k1f k2f k2c hmin
              go_wp2_with fail
              go_round
              case rel => exact ⟨l + 1, by go_num, by omega, S4⟩
              case measure => simp [intOf]; omega
            · obtain rfl : l = ls.length := by omega
              rw [List.take_length] at SG
              have SG2 : St w wr [(kg, gV n (gAll ls (r + 1))), (w.heap.size, [.int .u8 z, .slice AL nl cl, .slice AA na ca, .slice AX nx cx])] [(AA, at'.map u8v), (AX, lxV xs)] := SG
              clear SG NT
              go_wp2_with fail
              go_round
              case rel => exact ⟨r + 1, by go_num, by omega, SG2⟩
              case measure => simp [intOf]; omega
        · obtain rfl : n = r := by omega
          obtain ⟨F, hF⟩ : ∃ F, gAll ls n = F := ⟨_, rfl⟩
          rw [hF] at SG
          replace hF := Lib.hid hF
          have hbl : bs.length = nx := by rw [hbs, List.length_mapIdx, hnx]
          have hbk : ∀ k s, xs[k]? = some s → bs[k]? = some (s.y, atF n at' k) := fun k s h => by
            rw [hbs, List.getElem?_mapIdx, h]
            rfl
          replace hbl := Lib.hid hbl
          replace hbk := Lib.hid hbk
          replace hbs := Lib.hid hbs
          replace hnx := Lib.hid hnx
          go_wp2_with fail
          go_loopw [12] (fun v12 wr => ∃ (g : Nat), v12 = .int .i64 g ∧ g ≤ n ∧ St w wr [(kg, gV n F), (w.heap.size, [.int .u8 z, .slice AL nl cl, .slice AA na ca, .slice AX nx cx])] [(AA, at'.map u8v), (AX, lxV xs)]) (fun v12 _ => n - (intOf v12).toNat)
          case atStart => exact ⟨0, rfl, by omega, SG⟩
          case round =>
            clear SG
            obtain ⟨g, rfl, hg, SG⟩ := hrel
            by_cases hgn : g < n
            · have SW := SG.new' Try.zeroCells86 86 wr.heap.size (rdC (fun _ => rsZ)) rfl (by rw [← rdC_zero])
              have hkw : w.heap.size < wr.heap.size := SG.lt 1 rfl (by simp)
              have hkw2 : kg < wr.heap.size := SG.lt 0 rfl (by rw [gV_len]; omega)
              clear SG
              go_upto_region 19 with fail
              generalize World.alloc wr _ = w5 at *
              generalize wr.heap.size = gw at *
              have W0 : WtAt w w5 n F g bs kg gw [.int .u8 z, .slice AL nl cl, .slice AA na ca, .slice AX nx cx] AA at' AX xs (fun _ => rsZ) 0 :=
                ⟨SW, fun i hi => (laZero_own w w.heap.size).at, by rw [List.take_zero]; funext i; unfold dbOf; simp [rsZ, insts, filG]⟩
              clear SW
              replace W0 := Lib.hid W0
              go_wp2_with fail
              go_loopw [14, 15] (fun v14 v15 wr => ∃ (k : Nat) (R : Nat → Rs), v14 = .int .i64 k ∧ k ≤ nx ∧ Hid (WtAt w wr n F g bs kg gw [.int .u8 z, .slice AL nl cl, .slice AA na ca, .slice AX nx cx] AA at' AX xs R k)) (fun v14 _ _ => nx - (intOf v14).toNat)
              case atStart => exact ⟨0, _, rfl, by omega, W0⟩
              case round =>
                clear W0
                obtain ⟨k, R, rfl, hk, W⟩ := hrel
                have b3 := W.out.st.c 2 3 rfl rfl
                by_cases hkn : k < nx
                · have b2 := W.out.st.c 2 2 rfl rfl
                  obtain ⟨xk, hxk⟩ : ∃ xk, xs[k]? = some xk := ⟨_, List.getElem?_eq_getElem (by rw [hnx.out]; exact hkn)⟩
                  have hbk1 := hbk.out k xk hxk
                  have hbv := hok _ (List.mem_of_getElem? hbk1)
                  obtain ⟨hbo, hbn⟩ := hbv
                  simp only at hbo hbn
                  go_upto_if 106 with fail
                  go_cut [15] (fun v15 wx => v15 = .int .i64 ((atF n at' k : Nat) : Int) ∧ wr = wx)
                  case first =>
                    by_cases hka : k < na
                    · have hkl : k < at'.length := by omega
                      obtain ⟨ba, offa, hA, hcell⟩ := rd_at (W.out.st.r 0 rfl) (by rw [List.length_map]; omega)
                      have za := hcell k (.int .u8 (at'[k].toNat : Int)) (by rw [List.getElem?_map, List.getElem?_eq_getElem hkl]; rfl)
                      have e0 : atF n at' k = at'[k].toNat % n := by unfold atF; rw [List.getElem?_eq_getElem hkl]
                      have hzb : at'[k].toNat < 256 := UInt8.toNat_lt _
                      have hn0 : 0 < n := by omega
                      rw [hA] at b2
                      clear hcell
                      obtain ⟨zb, hzz⟩ : ∃ zb, at'[k].toNat = zb := ⟨_, rfl⟩
                      rw [hzz] at za e0 hzb
                      clear hzz hkl
                      go_wp2_with fail
                      go_meet
                      exact ⟨by rw [e0]; rfl, rfl⟩
                    · have e0 : atF n at' k = 0 := by unfold atF; rw [List.getElem?_eq_none (by omega)]
                      go_wp2_with fail
                      go_meet
                      exact ⟨by rw [e0]; rfl, rfl⟩
                  case rest =>
                    obtain ⟨rfl, rfl⟩ := hcut
                    have k1 := W.out.st.c 1 (atF n at' k) rfl (gV_get _ hbn)
                    obtain ⟨at0, hat0⟩ : ∃ at0, atF n at' k = at0 := ⟨_, rfl⟩
                    rw [hat0] at hbk1 hbn k1 ⊢
                    have htk : bs.take (k + 1) = bs.take k ++ [(xk.y, at0)] := by
                      obtain ⟨hkb, hbe⟩ := List.getElem?_eq_some_iff.1 hbk1
                      rw [List.take_succ_eq_append_getElem hkb, hbe]
                    have hsn := filG_snoc F g (bs.take k) (xk.y, at0)
                    rw [← htk] at hsn
                    simp only at hsn
                    by_cases hFg : F at0 = g
                    · rw [if_pos hFg] at hsn
                      have hkx : k < xs.length := by rw [hnx.out]; exact hkn
                      obtain ⟨bx, offx, rfl⟩ := lx_form (W.out.st.r 1 rfl) (by omega)
                      rw [List.getElem?_eq_getElem hkx] at hxk
                      injection hxk with hxk
                      have hxc := fun W' (h : Rd W' (some ⟨bx, offx, none⟩) (lxV xs)) => lx_cells h k hkx xk hxk
                      have hxo1 := hxo xk (by rw [← hxk]; exact List.getElem_mem hkx)
                      have hxl : LxOk wr xk := by unfold LxOk at hxo1 ⊢; exact hxo1.below W.out.st.b
                      obtain ⟨c0, c1, c2, c3, c4, c5⟩ := hxc _ (W.out.st.r 1 rfl)
                      have RI := rinstall_any wr.drew R _ xk.y (W.out.ok.below W.out.st.b.drew) hxl hbo.1
                      unfold RInstPost at RI
                      obtain ⟨y, A2, c22, B2, d2⟩ := xk
                      simp only at hbo hsn c0 c1 c2 c3 c4 c5 RI hxc
                      have hbx := W.out.st.box 0 rfl
                      have e1 : (((F at0 : Nat) : Int) == (g : Int)) = true := by simp; omega
                      generalize instR (dbOf R) y = ir at *
                      replace RI := Lib.hid RI
                      replace hxc := Lib.hid hxc
                      have hbxd := hbx.drew
                      go_upto_region 26 with fail
                      refine wp_region_noPanic ?_
                      refine wp_region_held_drew (S := fun w' => w'.cell? ⟨w.heap.size, 3, none⟩ = some (.slice (some ⟨bx, offx, none⟩) nx cx) ∧ w'.cell? ⟨bx, offx + k * 6, none⟩ = some (.int .i64 y.o) ∧ w'.cell? ⟨bx, offx + k * 6 + 1, none⟩ = some (.int .i64 y.s) ∧ w'.cell? ⟨bx, offx + k * 6 + 2, none⟩ = some (.int .i64 y.a) ∧ w'.cell? ⟨bx, offx + k * 6 + 3, none⟩ = some (.bool y.ov) ∧ w'.cell? ⟨bx, offx + k * 6 + 4, none⟩ = some (.slice A2 y.adj.length c22) ∧ w'.cell? ⟨bx, offx + k * 6 + 5, none⟩ = some (.slice B2 y.pre.length d2)) (by kernel_rfl) ⟨b3, c0, c1, c2, c3, c4, c5⟩ (fun hHeld => ?_)
                      refine take_first (i := 1) (v := ?_) (some 123) rfl rfl (by kernel_rfl) (by kernel_rfl) (by kernel_rfl) (fun _ _ _ h => h) (Or.inl ⟨by rfl, ?_⟩) (by assumption) ?_
                      rotate_left
                      · intro w hSw; (try dsimp only at hSw); go_simp; (try with_reducible rfl)
                      (try simp only [Act.put]); (try simp only [List.setIfInBounds_toArray]); (try simp only [List.set_cons_succ]); (try simp only [List.set_cons_zero])
                      refine take_first (i := 2) (v := ?_) (some 124) rfl rfl (by kernel_rfl) (by kernel_rfl) (by kernel_rfl) (fun _ _ _ h => h) (Or.inl ⟨by rfl, ?_⟩) (by assumption) ?_
                      rotate_left
                      · intro w hSw; (try dsimp only at hSw); go_simp; (try with_reducible rfl)
                      (try simp only [Act.put]); (try simp only [List.setIfInBounds_toArray]); (try simp only [List.set_cons_succ]); (try simp only [List.set_cons_zero])
                      refine take_first (i := 3) (v := ?_) (some 125) rfl rfl (by kernel_rfl) (by kernel_rfl) (by kernel_rfl) (fun _ _ _ h => h) (Or.inl ⟨by rfl, ?_⟩) (by assumption) ?_
                      rotate_left
                      · intro w hSw; (try dsimp only at hSw); go_simp; (try with_reducible rfl)
                      (try simp only [Act.put]); (try simp only [List.setIfInBounds_toArray]); (try simp only [List.set_cons_succ]); (try simp only [List.set_cons_zero])
                      refine take_first (i := 4) (v := ?_) (some 126) rfl rfl (by kernel_rfl) (by kernel_rfl) (by kernel_rfl) (fun _ _ _ h => h) (Or.inl ⟨by rfl, ?_⟩) (by assumption) ?_
                      rotate_left
                      · intro w hSw; (try dsimp only at hSw); go_simp; (try with_reducible rfl)
                      (try simp only [Act.put]); (try simp only [List.setIfInBounds_toArray]); (try simp only [List.set_cons_succ]); (try simp only [List.set_cons_zero])
                      refine take_first (i := 5) (v := ?_) (some 127) rfl rfl (by kernel_rfl) (by kernel_rfl) (by kernel_rfl) (fun _ _ _ h => h) (Or.inl ⟨by rfl, ?_⟩) (by assumption) ?_
                      rotate_left
                      · intro w hSw; (try dsimp only at hSw); go_simp; (try with_reducible rfl)
                      (try simp only [Act.put]); (try simp only [List.setIfInBounds_toArray]); (try simp only [List.set_cons_succ]); (try simp only [List.set_cons_zero])
                      refine ready_loadR (i := 0) (by kernel_rfl) rfl (.tmp 13) (some 122) rfl rfl rfl rfl hbxd hHeld ?_
                      (try simp only [Act.put]); (try simp only [List.setIfInBounds_toArray]); (try simp only [List.set_cons_succ]); (try simp only [List.set_cons_zero])
                      refine wpAnyH_ready (rs := [6]) (by kernel_rfl) (by simp) ?_
                      refine AllReadyH.cons rfl (fun K hK => ?_) AllReadyH.nil
                      go_simp
                      (with_reducible refine (RI.out).mono ?_)
                      rintro e wa ⟨R', rfl, hRk, hdb, hba⟩
                      dsimp only
                      have Sa := W.out.st.drew.call hba
                      have hRa := hRk w W.out.ok (by unfold LxOk at hxo1; exact hxo1)
                      obtain ⟨a0, a1, a2, a3, a4, a5⟩ := hxc.out _ (Sa.r 1 rfl)
                      refine hK.out _ _ ⟨Sa.c 2 3 rfl rfl, a0, a1, a2, a3, a4, a5⟩ (fun hHeld => ?_)
                      clear hK K
                      have hbxa := Sa.box 0 rfl
                      have Sb := Sa.setAllR 0 R' rfl (by omega) (by simp; omega) _ rfl
                      simp only [List.set_cons_zero] at Sb
                      obtain ⟨s0, s1, s2, s3, s4, s5⟩ := hxc.out _ (Sb.r 1 rfl)
                      refine take_first (i := 7) (v := .tuple #[.agg (rdC R').toArray, .int .i64 ir]) (some 121) rfl rfl (by kernel_rfl) (by kernel_rfl) (by kernel_rfl) (fun _ _ _ h => h) (Or.inl ⟨by rfl, fun _ _ => rfl⟩) (by assumption) ?_
                      (try simp only [Act.put]); (try simp only [List.setIfInBounds_toArray]); (try simp only [List.set_cons_succ]); (try simp only [List.set_cons_zero])
                      refine take_first (i := 8) (v := .agg (rdC R').toArray) (some 129) rfl rfl (by kernel_rfl) (by kernel_rfl) (by kernel_rfl) (fun _ _ _ h => h) (Or.inl ⟨by rfl, fun _ _ => rfl⟩) (by assumption) ?_
                      (try simp only [Act.put]); (try simp only [List.setIfInBounds_toArray]); (try simp only [List.set_cons_succ]); (try simp only [List.set_cons_zero])
                      refine take_first (i := 9) (v := .int .i64 ir) (some 130) rfl rfl (by kernel_rfl) (by kernel_rfl) (by kernel_rfl) (fun _ _ _ h => h) (Or.inl ⟨by rfl, fun _ _ => rfl⟩) (by assumption) ?_
                      (try simp only [Act.put]); (try simp only [List.setIfInBounds_toArray]); (try simp only [List.set_cons_succ]); (try simp only [List.set_cons_zero])
                      refine ready_storeR (i := 10) (by kernel_rfl) rfl (.tmp 13) (.tmp 129) none rfl rfl rfl rfl rfl hbxa ⟨Sb.c 2 3 rfl rfl, s0, s1, s2, s3, s4, s5⟩ ?_
                      clear hHeld
                      (try simp only [Act.put]); (try simp only [List.setIfInBounds_toArray]); (try simp only [List.set_cons_succ]); (try simp only [List.set_cons_zero])
                      refine wpAnyH_done (by kernel_rfl) ?_ _
                      refine NoPanic.normal ?_
                      have W2 : WtAt w _ n F g bs kg gw [.int .u8 z, .slice AL nl cl, .slice AA na ca, .slice (some ⟨bx, offx, none⟩) nx cx] AA at' (some ⟨bx, offx, none⟩) xs R' (k + 1) := ⟨Sb, hRa, by rw [hsn, insts_snoc, ← W.out.db]; exact hdb⟩
                      replace W2 := Lib.hid W2
                      clear W Sa Sb hbx hbxd hbxa hRk hdb hba a0 a1 a2 a3 a4 a5 s0 s1 s2 s3 s4 s5 c0 c1 c2 c3 c4 c5 hxc RI b3 b2 k1
                      generalize World.setCells _ _ _ _ = w9 at *
                      go_wp2_with fail
                      go_round
                      case rel => exact ⟨k + 1, R', by go_num, by omega, W2⟩
                      case measure => simp [intOf]; omega
                    · rw [if_neg hFg] at hsn
                      have e1 : (((F at0 : Nat) : Int) == (g : Int)) = false := by simp; omega
                      have W2 : WtAt w wr n F g bs kg gw [.int .u8 z, .slice AL nl cl, .slice AA na ca, .slice AX nx cx] AA at' AX xs R (k + 1) := ⟨W.out.st, W.out.ok, by rw [hsn]; exact W.out.db⟩
                      replace W2 := Lib.hid W2
                      clear W hsn htk hat0
                      go_wp2_with fail
                      go_round
                      case rel => exact ⟨k + 1, R, by go_num, by omega, W2⟩
                      case measure => simp [intOf]; omega
                · obtain rfl : nx = k := by omega
                  have Wst := W.out.st
                  have hwl := W.out.db
                  rw [List.take_of_length_le (by rw [hbl.out]; exact Nat.le_refl _)] at hwl
                  have hRw := W.out.ok
                  replace hwl := Lib.hid hwl
                  replace hRw := Lib.hid hRw
                  clear W
                  go_wp2_with fail
                  clear b3
                  go_loopw [16] (fun v16 wr => ∃ (i : Nat), v16 = .int .i64 i ∧ i ≤ n ∧ St w wr [(gw, rdC R), (kg, gV n F), (w.heap.size, [.int .u8 z, .slice AL nl cl, .slice AA na ca, .slice AX nx cx])] [(AA, at'.map u8v), (AX, lxV xs)]) (fun v16 _ => n - (intOf v16).toNat)
                  case atStart => exact ⟨0, rfl, by omega, Wst⟩
                  case round =>
                    clear Wst
                    obtain ⟨i, rfl, hi2, SW⟩ := hrel
                    by_cases hin2 : i < n
                    · have k1 := SW.c 1 i rfl (gV_get _ hin2)
                      by_cases hFi : F i = g
                      · have hlsI : ∀ l i, Inc ls l i → i < n := fun l i h => by
                          obtain ⟨p, hpl, _, h2⟩ := h
                          obtain ⟨q1, q2⟩ := hls p (List.mem_of_getElem? hpl)
                          rcases h2 with rfl | rfl
                          · exact q1
                          · exact q2
                        have hmem : ∀ a, a ∈ filG F g bs ↔ Gd ls bs a i := fun a => by
                          unfold filG Gd
                          rw [List.mem_map]
                          constructor
                          · rintro ⟨b, hb, rfl⟩
                            obtain ⟨hb1, hb2⟩ := List.mem_filter.1 hb
                            simp only [decide_eq_true_eq] at hb2
                            refine ⟨b, hb1, rfl, (gAll_iff hls (hok b hb1).2 hin2).1 ?_⟩
                            rw [hF.out, hb2, hFi]
                          · rintro ⟨b, hb1, rfl, hc⟩
                            refine ⟨b, List.mem_filter.2 ⟨hb1, ?_⟩, rfl⟩
                            have := (gAll_iff hls (hok b hb1).2 hin2).2 hc
                            rw [hF.out, hFi] at this
                            simpa using this
                        have hlok : ∀ a ∈ filG F g bs, LaOk a := fun a ha => by
                          obtain ⟨b, hb, rfl, _⟩ := (hmem a).1 ha
                          exact (hok b hb).1
                        obtain ⟨hlen, hsame⟩ := all_same (N := S.db i) (N' := dbOf R) fun o _ => by
                          rw [hwl.out]
                          exact nw_same hlok (H.newest hok hlsI hp hin2 _ hmem o) (nw_all (fun a ha => (hlok a ha).1) o)
                        have hdok : DbOk (S.db i) := fun o hd e => by
                          obtain ⟨d1, d2, d3⟩ := H.db i o hd hin2 e
                          exact ⟨hG.v d1, d2, by omega, by omega⟩
                        have e1 : (((F i : Nat) : Int) != (g : Int)) = false := by simp; omega
                        have NT := NB.out _ SW.b
                        obtain ⟨b0, off0, hA0, z0⟩ := rd_at (own_slice NT.r0) (by rw [ptrs_len]; omega)
                        replace z0 := z0 i _ (ptrs_get hin2)
                        have x0 := NT.bx.c 0 rfl
                        rw [hA0] at x0
                        have DA := dall_any wr.drew (m.gd i) (m.bd i) (S.db i) ((NT.db i hin2).below (Below.refl _ _).drew) hdok
                        have RA := fun W => rall_any W R
                        have hL2 := allR_len R
                        obtain ⟨no, hno⟩ : ∃ no, (orgs (S.db i)).length = no := ⟨_, rfl⟩
                        have hno64 : no ≤ 64 := by rw [← hno]; exact orgs_len _
                        have hlen2 : (orgs (dbOf R)).length = no := by
                          rw [← hno]
                          unfold allN at hlen
                          rw [List.length_map, List.length_map] at hlen
                          exact hlen.symm
                        unfold DAllPost at DA
                        rw [hno] at DA
                        rw [hlen2] at hL2
                        rw [hL2] at RA
                        have hAl := allR_la R
                        have hrg : wr.drew.rangeAt gw 0 (rdC R) := (SW.drew.box 0 rfl).range
                        replace DA := Lib.hid DA
                        replace RA := Lib.hid RA
                        replace hsame := Lib.hid hsame
                        clear hlok hmem hlsI hdok NT hA0
                        go_upto_region 31 with fail
                        refine wp_region_noPanic ?_
                        refine wp_region_held_drew (S := fun w' => w'.rangeAt gw 0 (rdC R) ∧ w'.cell? ⟨m.g, 0, none⟩ = some (.slice (some ⟨b0, off0, none⟩) n m.c0) ∧ w'.cell? ⟨b0, off0 + i, none⟩ = some (.pointer (some ⟨m.gd i, 0, none⟩))) (by kernel_rfl) ⟨hrg, x0, z0⟩ (fun hHeld => ?_)
                        refine take_first (i := 0) (v := ?_) (some 142) rfl rfl (by kernel_rfl) (by kernel_rfl) (by kernel_rfl) (fun _ _ _ h => h) (Or.inl ⟨by rfl, ?_⟩) (by assumption) ?_
                        rotate_left
                        · intro w hSw; (try dsimp only at hSw); go_simp; (try with_reducible rfl)
                        (try simp only [Act.put]); (try simp only [List.setIfInBounds_toArray]); (try simp only [List.set_cons_succ]); (try simp only [List.set_cons_zero])
                        refine take_first (i := 1) (v := ?_) (some 143) rfl rfl (by kernel_rfl) (by kernel_rfl) (by kernel_rfl) (fun _ _ _ h => h) (Or.inl ⟨by rfl, ?_⟩) (by assumption) ?_
                        rotate_left
                        · intro w hSw; (try dsimp only at hSw); go_simp; (try with_reducible rfl)
                        (try simp only [Act.put]); (try simp only [List.setIfInBounds_toArray]); (try simp only [List.set_cons_succ]); (try simp only [List.set_cons_zero])
                        refine take_first (i := 2) (v := ?_) (some 144) rfl rfl (by kernel_rfl) (by kernel_rfl) (by kernel_rfl) (fun _ _ _ h => h) (Or.inl ⟨by rfl, ?_⟩) (by assumption) ?_
                        rotate_left
                        · intro w hSw; (try dsimp only at hSw); go_simp; (try with_reducible rfl)
                        (try simp only [Act.put]); (try simp only [List.setIfInBounds_toArray]); (try simp only [List.set_cons_succ]); (try simp only [List.set_cons_zero])
                        refine take_first (i := 3) (v := ?_) (some 145) rfl rfl (by kernel_rfl) (by kernel_rfl) (by kernel_rfl) (fun _ _ _ h => h) (Or.inl ⟨by rfl, ?_⟩) (by assumption) ?_
                        rotate_left
                        · intro w hSw; (try dsimp only at hSw); go_simp; (try with_reducible rfl)
                        (try simp only [Act.put]); (try simp only [List.setIfInBounds_toArray]); (try simp only [List.set_cons_succ]); (try simp only [List.set_cons_zero])
                        refine take_first (i := 4) (v := ?_) (some 146) rfl rfl (by kernel_rfl) (by kernel_rfl) (by kernel_rfl) (fun _ _ _ h => h) (Or.inl ⟨by rfl, ?_⟩) (by assumption) ?_
                        rotate_left
                        · intro w hSw; (try dsimp only at hSw); go_simp; (try with_reducible rfl)
                        (try simp only [Act.put]); (try simp only [List.setIfInBounds_toArray]); (try simp only [List.set_cons_succ]); (try simp only [List.set_cons_zero])
                        refine take_first (i := 5) (v := ?_) (some 147) rfl rfl (by kernel_rfl) (by kernel_rfl) (by kernel_rfl) (fun _ _ _ h => h) (Or.inl ⟨by rfl, ?_⟩) (by assumption) ?_
                        rotate_left
                        · intro w hSw; (try dsimp only at hSw); go_simp; (try with_reducible rfl)
                        (try simp only [Act.put]); (try simp only [List.setIfInBounds_toArray]); (try simp only [List.set_cons_succ]); (try simp only [List.set_cons_zero])
                        refine take_first (i := 6) (v := ?_) (some 148) rfl rfl (by kernel_rfl) (by kernel_rfl) (by kernel_rfl) (fun _ _ _ h => h) (Or.inl ⟨by rfl, ?_⟩) (by assumption) ?_
                        rotate_left
                        · intro w hSw; (try dsimp only at hSw); go_simp; (try with_reducible rfl)
                        (try simp only [Act.put]); (try simp only [List.setIfInBounds_toArray]); (try simp only [List.set_cons_succ]); (try simp only [List.set_cons_zero])
                        refine take_loadR (i := 8) (R := R) (g := gw) (some 150) rfl rfl (by kernel_rfl) (by kernel_rfl) (by kernel_rfl) (fun _ _ _ h => h) rfl (.tmp 13) rfl rfl (fun _ h => h.1) (by assumption) ?_
                        (try simp only [Act.put]); (try simp only [List.setIfInBounds_toArray]); (try simp only [List.set_cons_succ]); (try simp only [List.set_cons_zero])
                        refine wpAnyH_ready (rs := [7]) (by kernel_rfl) (by simp) ?_
                        refine AllReadyH.cons rfl (fun K hK => ?_) AllReadyH.nil
                        go_simp
                        (with_reducible refine (DA.out).mono ?_)
                        rintro e wa ⟨A6, c6, ld, rfl, o6, hla, hlo, hba⟩
                        dsimp only
                        have Sa := SW.drew.call hba
                        have NTa := NB.out _ Sa.b
                        have hS2 : wa.cell? ⟨m.g, 0, none⟩ = some (.slice (some ⟨b0, off0, none⟩) n m.c0) ∧ wa.cell? ⟨b0, off0 + i, none⟩ = some (.pointer (some ⟨m.gd i, 0, none⟩)) := ⟨cell_later hba x0, cell_later hba z0⟩
                        refine hK.out _ _ ⟨(Sa.box 0 rfl).range, hS2.1, hS2.2⟩ (fun hHeld => ?_)
                        clear hK K
                        refine wpAnyH_ready (rs := [9]) (by kernel_rfl) (by simp) ?_
                        refine AllReadyH.cons rfl (fun K hK => ?_) AllReadyH.nil
                        go_simp
                        (with_reducible refine (RA.out wa).mono ?_)
                        rintro e wb ⟨A8, c8, rfl, o8, hbb⟩
                        dsimp only
                        have Sb := Sa.call hbb
                        refine hK.out _ _ ⟨(Sb.box 0 rfl).range, cell_later hbb hS2.1, cell_later hbb hS2.2⟩ (fun hHeld => ?_)
                        clear hK K Sa NTa
                        refine take_first (i := 10) (v := .slice A6 no c6) (some 17) rfl rfl (by kernel_rfl) (by kernel_rfl) (by kernel_rfl) (fun _ _ _ h => h) (Or.inl ⟨by rfl, fun _ _ => rfl⟩) (by assumption) ?_
                        (try simp only [Act.put]); (try simp only [List.setIfInBounds_toArray]); (try simp only [List.set_cons_succ]); (try simp only [List.set_cons_zero])
                        refine take_first (i := 11) (v := .slice A8 no c8) (some 18) rfl rfl (by kernel_rfl) (by kernel_rfl) (by kernel_rfl) (fun _ _ _ h => h) (Or.inl ⟨by rfl, fun _ _ => rfl⟩) (by assumption) ?_
                        (try simp only [Act.put]); (try simp only [List.setIfInBounds_toArray]); (try simp only [List.set_cons_succ]); (try simp only [List.set_cons_zero])
                        refine wpAnyH_done (by kernel_rfl) ?_ _
                        refine NoPanic.normal ?_
                        have r6 := Lib.hid (own_slice (own_below o6 hbb))
                        have r8 := Lib.hid (own_slice o8)
                        have k6 : Hid (∀ s ∈ ld, LxOk wb s) := fun s hs => (LaOwn.below (hlo s hs) hbb).at
                        have k8 : Hid (∀ s ∈ allR R, LxOk wb s) := allR_ok (hRw.out.below Sb.b)
                        replace hla := Lib.hid hla
                        replace hAl := Lib.hid hAl
                        replace hL2 := Lib.hid hL2
                        have hld : Hid (ld.length = no) := by
                          have := congrArg List.length hla.out
                          show _ = _
                          rw [← hno]
                          simpa [laL, allN] using this
                        have e2 : ((no : Int) != (no : Int)) = false := by simp
                        clear hHeld o6 o8 hlo hba hbb x0 z0 hS2 DA RA hrg e1 k1 SW hlen hno
                        go_wp2_with fail
                        clear e2
                        go_loopw [19] (fun v19 wr => ∃ (q : Nat), v19 = .int .i64 q ∧ q ≤ no ∧ Hid (Rd wr A6 (lxV ld)) ∧ Hid (Rd wr A8 (lxV (allR R))) ∧ Hid (∀ s ∈ ld, LxOk wr s) ∧ Hid (∀ s ∈ allR R, LxOk wr s) ∧ St w wr [(gw, rdC R), (kg, gV n F), (w.heap.size, [.int .u8 z, .slice AL nl cl, .slice AA na ca, .slice AX nx cx])] [(AA, at'.map u8v), (AX, lxV xs)]) (fun v19 _ => no - (intOf v19).toNat)
                        case atStart => exact ⟨0, rfl, by omega, r6, r8, k6, k8, Sb⟩
                        case round =>
                          clear r6 r8 k6 k8 Sb
                          obtain ⟨q, rfl, hq, r6, r8, k6, k8, Sb⟩ := hrel
                          by_cases hqn : q < no
                          · have hq6 : q < ld.length := by rw [hld.out]; exact hqn
                            have hq8 : q < (allR R).length := by rw [hL2.out]; exact hqn
                            have hsm := hsame.out q (by rw [← hla.out]; simpa [laL] using hq6) (by rw [← hAl.out]; simpa [laL] using hq8)
                            have hsm2 : sameB ld[q].y (allR R)[q].y = true := by
                              simp only [← hla.out, ← hAl.out] at hsm
                              simpa [laL] using hsm
                            obtain ⟨b6, off6, rfl⟩ := lx_form r6.out (by omega)
                            obtain ⟨b8, off8, rfl⟩ := lx_form r8.out (by omega)
                            have v6 := k6.out _ (List.getElem_mem hq6)
                            have v8 := k8.out _ (List.getElem_mem hq8)
                            obtain ⟨s6, hs6⟩ : ∃ s, ld[q] = s := ⟨_, rfl⟩
                            obtain ⟨s8, hs8⟩ : ∃ s, (allR R)[q] = s := ⟨_, rfl⟩
                            obtain ⟨c0, c1, c2, c3, c4, c5⟩ := lx_cells r6.out q hq6 s6 hs6
                            obtain ⟨d0, d1, d2, d3, d4, d5⟩ := lx_cells r8.out q hq8 s8 hs8
                            rw [hs6] at hsm2 v6
                            rw [hs8] at hsm2 v8
                            have EQ : Hid (∀ W, Below wr.heap.size wr W → Calls Try.prog 26 #[laV s6.y.o s6.y.s s6.y.a s6.y.ov s6.A s6.y.adj.length s6.c s6.B s6.y.pre.length s6.d, laV s8.y.o s8.y.s s8.y.a s8.y.ov s8.A s8.y.adj.length s8.c s8.B s8.y.pre.length s8.d] W fun e w' => e = .returned (.bool true) ∧ Below W.heap.size W w') := fun W hb => by
                              unfold LxOk at v6 v8
                              have := rsamela_any W _ _ s6.y s8.y (v6.below hb) (v8.below hb)
                              rwa [hsm2] at this
                            replace c0 := cell_regrown c0
                            replace c1 := cell_regrown c1
                            replace c2 := cell_regrown c2
                            replace c3 := cell_regrown c3
                            replace c4 := cell_regrown c4
                            replace c5 := cell_regrown c5
                            replace d0 := cell_regrown d0
                            replace d1 := cell_regrown d1
                            replace d2 := cell_regrown d2
                            replace d3 := cell_regrown d3
                            replace d4 := cell_regrown d4
                            replace d5 := cell_regrown d5
                            have l6 := r6.out
                            have l8 := r8.out
                            clear hsm hsm2 v6 v8 hs6 hs8 r6 r8
                            obtain ⟨⟨yo, ys, ya, yov, yj, yp⟩, sA, sc, sB, sd⟩ := s6
                            obtain ⟨⟨to', ts, ta, tov, tj, tp⟩, tA, tc, tB, td⟩ := s8
                            dsimp only at *
                            generalize yj.length = yn1 at *
                            generalize yp.length = yn2 at *
                            generalize tj.length = tn1 at *
                            generalize tp.length = tn2 at *
                            have m6 : ∀ W, Below wr.heap.size wr W → ∀ s ∈ ld, LxOk W s := fun W hb s hs => by
                              have := k6.out s hs; unfold LxOk at this ⊢; exact this.below hb
                            have m8 : ∀ W, Below wr.heap.size wr W → ∀ s ∈ allR R, LxOk W s := fun W hb s hs => by
                              have := k8.out s hs; unfold LxOk at this ⊢; exact this.below hb
                            replace m6 := Lib.hid m6
                            replace m8 := Lib.hid m8
                            have bb : Below wr.heap.size wr wr := Below.refl _ _
                            have Sb2 := Sb
                            clear Sb k6 k8
                            go_upto_region 37 with fail
                            refine wp_region_quiet_below (by kernel_rfl) (by kernel_rfl) ?_
                            repeat (go_big_quiet_step (first | (go_at_call 26; with_reducible exact Calls.regrown_of (EQ.out _ (below_regrown _ _ _)))))
                            refine wpQuiet_nil ?_
                            intro _ hw'
                            obtain ⟨⟨dq, osq⟩, hw''⟩ := hw'
                            subst hw''
                            have hbq := below_regrown wr dq osq
                            have S9 := Sb2.call hbq
                            have n6 := Lib.hid (l6.below hbq)
                            have n8 := Lib.hid (l8.below hbq)
                            have p6 := Lib.hid (m6.out _ hbq)
                            have p8 := Lib.hid (m8.out _ hbq)
                            clear EQ c0 c1 c2 c3 c4 c5 d0 d1 d2 d3 d4 d5 l6 l8 m6 m8 bb Sb2 hbq
                            generalize grow (redrawn wr dq) osq = w9 at *
                            go_wp2_with fail
                            go_round
                            case rel => exact ⟨q + 1, by go_num, by omega, n6, n8, p6, p8, S9⟩
                            case measure => simp [intOf]; omega
                          · obtain rfl : no = q := by omega
                            clear r6 r8 k6 k8
                            go_wp2_with fail
                            go_round
                            case rel => exact ⟨i + 1, by go_num, by omega, Sb⟩
                            case measure => simp [intOf]; omega
                      · have e1 : (((F i : Nat) : Int) != (g : Int)) = true := by simp; omega
                        go_wp2_with fail
                        go_round
                        case rel => exact ⟨i + 1, by go_num, by omega, SW⟩
                        case measure => simp [intOf]; omega
                    · obtain rfl : n = i := by omega
                      have S9 := SW.keepBoxes [(kg, gV n F), (w.heap.size, [.int .u8 z, .slice AL nl cl, .slice AA na ca, .slice AX nx cx])] (by simp)
                      clear SW
                      go_wp2_with fail
                      go_round
                      case rel => exact ⟨g + 1, by go_num, by omega, S9⟩
                      case measure => simp [intOf]; omega
            · have hb9 := SG.b
              clear SG
              go_wp2_with fail
              go_ret
              exact ⟨rfl, hb9⟩

end Go.Proofs.Ytnfldccaeibcpaa

namespace Go.Proofs.Ytnfldccaeibcpaa
set_option linter.unusedVariables false
open Go.RowKit Go.Maps

theorem pdT : ElemT Try.prog 34 63 (.pointer none) 1 8 := ⟨Try.underlying34, by kernel_rfl, rfl, by omega⟩
theorem pflT : ElemT Try.prog 35 40 (.pointer none) 1 8 := ⟨Try.underlying35, by kernel_rfl, rfl, by omega⟩
theorem lkT : ElemT Try.prog 36 66 (.agg #[.int .i64 0, .int .i64 0]) 2 16 := ⟨Try.underlying36, by kernel_rfl, rfl, by omega⟩
/-- A list of pairs of bytes in memory. -/
def l2V : List (UInt8 × UInt8) → List Value
  | [] => []
  | p :: l => u8v p.1 :: u8v p.2 :: l2V l
theorem l2V_len (l : List (UInt8 × UInt8)) : (l2V l).length = l.length * 2 := by
  induction l with
  | nil => rfl
  | cons r l ih => simp only [l2V, List.length_cons, ih]; omega
theorem l2V_get (l : List (UInt8 × UInt8)) : ∀ (k : Nat) (hk : k < l.length), (l2V l)[k * 2]? = some (u8v l[k].1) ∧ (l2V l)[k * 2 + 1]? = some (u8v l[k].2) := by
  induction l with
  | nil => intro k hk; cases hk
  | cons r l ih =>
    intro k hk
    cases k with
    | zero => exact ⟨rfl, rfl⟩
    | succ k =>
      have := ih k (by simpa using hk)
      rw [show (k + 1) * 2 = k * 2 + 1 + 1 by omega]
      exact this
def lsN (n : Nat) (l : List (UInt8 × UInt8)) : Lks := l.map fun p => (p.1.toNat % n, p.2.toNat % n)
def bsN (n : Nat) (at' : List UInt8) (xs : List Lx) : List (La × Nat) := xs.mapIdx fun k s => (s.y, atF n at' k)
/-- While the links are made: l of them are. -/
def LkAt (B0 : Nat) (w0 w : World) (n : Nat) (lk : List (UInt8 × UInt8)) (l g : Nat) : Prop := ∃ m S, m.g = g ∧ NtAt B0 w0 w m n (lsN n (lk.take l)) S none 0 [] ∧ Bd1 n (lsN n (lk.take l)) S ∧ (lsN n (lk.take l) = [] → m.A2 = none)
theorem LkAt.bel {B0 : Nat} {w0 w : World} {n : Nat} {lk : List (UInt8 × UInt8)} {l g : Nat} (h : LkAt B0 w0 w n lk l g) : Below B0 w0 w := by
  obtain ⟨m, S, _, h, _⟩ := h
  exact h.bel
theorem rdc {w : World} {A : Option Addr} {xs : List Value} {b off : Nat} (h : Rd w A xs) (hA : A = some ⟨b, off, none⟩) {j : Nat} {u : Value} (hj : xs[j]? = some u) : w.cell? ⟨b, off + j, none⟩ = some u := by
  obtain ⟨b', off', e, hc⟩ := rd_at h (by have := (List.getElem?_eq_some_iff.1 hj).1; omega)
  rw [hA] at e
  injection e with e
  injection e with e1 e2
  subst e1 e2
  exact hc _ _ hj
theorem atF_lt {n : Nat} (at' : List UInt8) (k : Nat) (hn : 0 < n) : atF n at' k < n := by
  unfold atF
  split
  · exact Nat.mod_lt _ hn
  · exact hn
/-- While the advertisements begin. -/
def BsAt (B0 : Nat) (w0 w : World) (n : Nat) (ls : Lks) (at' : List UInt8) (xs : List Lx) (k g : Nat) : Prop := ∃ m S, m.g = g ∧ NtAt B0 w0 w m n ls S none 0 [] ∧ Bd2 n ls ((bsN n at' xs).take k) S ∧ ∀ b ∈ (bsN n at' xs).take k, LaOk b.1 ∧ b.2 < n
theorem BsAt.bel {B0 : Nat} {w0 w : World} {n : Nat} {ls : Lks} {at' : List UInt8} {xs : List Lx} {k g : Nat} (h : BsAt B0 w0 w n ls at' xs k g) : Below B0 w0 w := by
  obtain ⟨m, S, _, h, _⟩ := h
  exact h.bel
theorem NtAt.rebase {B0 B1 : Nat} {w0 w1 w : World} {m : Nm} {n : Nat} {ls : Lks} {S : Ns} {Aw : Option Addr} {cw : Nat} {ms : List Mx} (h : NtAt B0 w0 w m n ls S Aw cw ms) (hB : B1 ≤ B0) (hb : Below B1 w1 w) : NtAt B1 w1 w m n ls S Aw cw ms :=
  ⟨h.bx, h.nb, own_mono h.r0 hB, own_mono h.r1 hB, own_mono h.r2 hB, h.wy, h.mo, h.mp, h.db, h.fl, h.cd, h.cb, h.cf, ⟨Nat.le_trans hB h.lo.1, h.lo.2⟩, h.gl, fun i hi => ⟨Nat.le_trans hB (h.bl i hi).1, Nat.le_trans hB (h.bl i hi).2.1, fun l hl hs => Nat.le_trans hB ((h.bl i hi).2.2 l hl hs)⟩, hb⟩
/-- What build leaves behind. -/
def BuildPost (w : World) (n : Nat) (lk : List (UInt8 × UInt8)) (at' : List UInt8) (xs : List Lx) (e : Ending) (w' : World) : Prop :=
  (e = .returned (.tuple #[.pointer none, .bool false]) ∧ Below w.heap.size w w') ∨
  ∃ m S, e = .returned (.tuple #[.pointer (some ⟨m.g, 0, none⟩), .bool true]) ∧ NtAt w.heap.size w w' m n (lsN n lk) S none 0 [] ∧ Bd2 n (lsN n lk) (bsN n at' xs) S ∧ (∀ b ∈ bsN n at' xs, LaOk b.1 ∧ b.2 < n) ∧ lk.length ≤ 8 ∧ xs.length ≤ 6

theorem one1 (p : Option Addr) : ∀ u ∈ [Value.pointer p], u.oneCell' = true := by
  intro u hu
  rw [List.mem_singleton.1 hu]; rfl
theorem lit1 (w : World) (x : Value) (e : TypeId) : (w.alloc (.cells #[x] e)).ownsRow w.heap.size e 1 (.slice (some ⟨w.heap.size, 0, none⟩) 1 1) 1 [x] :=
  World.ownsRow_lit (base := w.heap.size) (e := e) (size := 1) w #[x] 1 (Nat.le_refl _) (by unfold maxLen; omega) (by simp)

set_option maxRecDepth 100000 in
set_option maxHeartbeats 12800000 in
theorem build_any (w : World) (z : Int) (hz0 : 0 ≤ z) (hz1 : z < 256) (n : Nat) (hq : 2 + z % 4 = (n : Int)) (AL : Option Addr) (nl cl : Nat) (lk : List (UInt8 × UInt8)) (hAL : Rd w AL (l2V lk)) (hlk : lk.length = nl) (hnl : nl ≤ maxLen)
    (AA : Option Addr) (na ca : Nat) (at' : List UInt8) (hAA : Bs w AA at') (hna : at'.length = na) (hnam : na ≤ maxLen) (AX : Option Addr) (nx cx : Nat) (xs : List Lx) (hAX : Rd w AX (lxV xs)) (hnx : xs.length = nx) (hnxm : nx ≤ maxLen) (hxo : ∀ s ∈ xs, LxOk w s) :
    Calls Try.prog 5 #[.agg #[.int .u8 z, .slice AL nl cl, .slice AA na ca, .slice AX nx cx]] w (BuildPost w n lk at' xs) := by
  have S1 := ((((St.start w).read hAX).read hAA).read hAL).new' #[.int .u8 z, .slice AL nl cl, .slice AA na ca, .slice AX nx cx] 26 w.heap.size _ rfl rfl
  have hn2 : 2 ≤ n ∧ n ≤ 5 := by omega
  replace hlk := Lib.hid hlk
  replace hnx := Lib.hid hnx
  replace hna := Lib.hid hna
  replace hxo := Lib.hid hxo
  unfold maxLen at hnl hnam hnxm
  clear hAL hAA hAX
  go_enter Try.func5, Try.ntmps5
  go_upto_region 1 with fail
  generalize World.alloc w _ = w1 at *
  have b0 := S1.c 0 0 rfl rfl
  have b1 := S1.c 0 1 rfl rfl
  have b3 := S1.c 0 3 rfl rfl
  by_cases hnl8 : nl ≤ 8
  rotate_left
  · have hfin : BuildPost w n lk at' xs (.returned (.tuple #[.pointer none, .bool false])) w1 := .inl ⟨rfl, S1.b⟩
    have e8 : decide ((8 : Int) < (nl : Int)) = true := by simp; omega
    replace hfin := Lib.hid hfin
    clear S1
    go_wp2_with fail
    go_ret2
    exact hfin.out
  have e8 : decide ((8 : Int) < (nl : Int)) = false := by simp; omega
  by_cases hnx6 : nx ≤ 6
  rotate_left
  · have hfin : BuildPost w n lk at' xs (.returned (.tuple #[.pointer none, .bool false])) w1 := .inl ⟨rfl, S1.b⟩
    have e6 : decide ((6 : Int) < (nx : Int)) = true := by simp; omega
    replace hfin := Lib.hid hfin
    clear S1
    go_wp2_with fail
    go_ret2
    exact hfin.out
  have e6 : decide ((6 : Int) < (nx : Int)) = false := by simp; omega
  have hlt1 := S1.lt 0 rfl (by simp)
  have hb2 := below_new' w1 (.cells #[.slice none 0 0, .slice none 0 0, .slice none 0 0, .slice none 0 0] 39)
  have hbx := Box.new' w1 #[.slice none 0 0, .slice none 0 0, .slice none 0 0, .slice none 0 0] 39 w1.heap.size _ rfl rfl
  have ND : NdAt w1.heap.size w1 (w1.alloc (.cells #[.slice none 0 0, .slice none 0 0, .slice none 0 0, .slice none 0 0] 39)) w1.heap.size (fun _ => 0) (fun _ => 0) (fun _ => 0) (fun _ => 0) (fun _ => 0) 0 0 [.slice none 0 0, .slice none 0 0, .slice none 0 0, .slice none 0 0] (.slice none 0 0) 0 (.slice none 0 0) 0 :=
    ⟨hbx, ⟨_, _, heap_alloc_new w1 _⟩, World.ownsRow_nil _ _ _ _, World.ownsRow_nil _ _ _ _, fun _ => rfl, fun _ => rfl, ⟨Nat.le_refl _, Nat.le_refl _⟩, fun i h => absurd h (by omega), fun i h => absurd h (by omega), fun i h => absurd h (by omega), fun i h => absurd h (by omega), ⟨fun i h => absurd h (by omega), fun i h => absurd h (by omega)⟩, Nat.le_refl _, hb2⟩
  go_upto_region 5 with fail
  clear b0 b1 b3 hbx hb2 e8 e6
  generalize World.alloc w1 _ = w2 at *
  obtain ⟨B0, hB0⟩ : ∃ B0, w1.heap.size = B0 := ⟨_, rfl⟩
  rw [hB0] at ND hlt1 ⊢
  have hw1 := S1.b
  have SX : Hid (∀ W, Below B0 w1 W → St w W [(w.heap.size, [.int .u8 z, .slice AL nl cl, .slice AA na ca, .slice AX nx cx])] [(AL, l2V lk), (AA, at'.map u8v), (AX, lxV xs)]) := fun W hb => S1.call (by rw [hB0]; exact hb)
  have hreb : Hid (∀ W, Below B0 w1 W → Below w.heap.size w W) := fun W hb => hw1.trans (hb.mono (by omega))
  replace ND := Lib.hid ND
  clear S1 hw1
  go_wp2_with fail
  go_loopw [6] (fun v6 wr => ∃ (i : Nat) (A0 A1 : Option Addr) (c0 c1 : Nat) (gd bd gf bf col : Nat → Nat), v6 = .int .i64 i ∧ i ≤ n ∧ Hid (NdAt B0 w1 wr B0 gd bd gf bf col i i [.slice A0 i c0, .slice A1 i c1, .slice none 0 0, .slice none 0 0] (.slice A0 i c0) i (.slice A1 i c1) i)) (fun v6 _ => n - (intOf v6).toNat)
  case atStart => exact ⟨0, none, none, 0, 0, _, _, _, _, _, rfl, by omega, ND⟩
  case round =>
    clear ND
    obtain ⟨i, A0, A1, c0, c1, gd, bd, gf, bf, col, rfl, hi, ND⟩ := hrel
    by_cases hin : i < n
    · have FN := Fd.fnew_any wr 4 (by omega) (by omega)
      replace FN := Lib.hid FN
      go_wp2_with fail
      (with_reducible refine (FN.out).mono ?_)
      rintro e w3 ⟨rfl, hf3, hb3⟩
      clear FN
      obtain ⟨gf', bf', col', hgf, ND3⟩ := ND.out.newFl (by simp) hf3 hb3 (by omega) (by omega)
      clear ND hf3 hb3
      generalize wr.heap.size + 1 = f1 at *
      have x0 := ND3.bx.c 0 rfl
      have x1 := ND3.bx.c 1 rfl
      go_upto_region 9 with fail
      refine wp_region_noPanic ?_
      refine wp_region_Z (S := fun W => W.cell? ⟨B0, 0, none⟩ = some (.slice A0 i c0) ∧ W.cell? ⟨B0, 1, none⟩ = some (.slice A1 i c1)) [18, 19, 20, 21] (by kernel_rfl) ⟨x0, x1⟩ (fun hHeld => ?_)
      have V := ND3.below (w' := w3.drew) (by simp) (Below.refl _ _).drew
      clear ND3 x0 x1
      generalize World.drew w3 = wq at *
      refine takeU (i := 0) (v := ?_) (some 42) rfl rfl (by kernel_rfl) (by kernel_rfl) (by kernel_rfl) (fun _ _ _ h => h) (Or.inl ⟨by rfl, ?_⟩) ?_
      rotate_left
      · intro w hSw; go_simp; (try with_reducible rfl)
      (try simp only [Act.put]); (try simp only [List.setIfInBounds_toArray]); (try simp only [List.set_cons_succ]); (try simp only [List.set_cons_zero])
      refine takeU (i := 1) (v := ?_) (some 43) rfl rfl (by kernel_rfl) (by kernel_rfl) (by kernel_rfl) (fun _ _ _ h => h) (Or.inl ⟨by rfl, ?_⟩) ?_
      rotate_left
      · intro w hSw; go_simp; (try with_reducible rfl)
      (try simp only [Act.put]); (try simp only [List.setIfInBounds_toArray]); (try simp only [List.set_cons_succ]); (try simp only [List.set_cons_zero])
      refine takeU (i := 2) (v := ?_) (some 44) rfl rfl (by kernel_rfl) (by kernel_rfl) (by kernel_rfl) (fun _ _ _ h => h) (Or.inl ⟨by rfl, ?_⟩) ?_
      rotate_left
      · intro w hSw; go_simp; (try with_reducible rfl)
      (try simp only [Act.put]); (try simp only [List.setIfInBounds_toArray]); (try simp only [List.set_cons_succ]); (try simp only [List.set_cons_zero])
      refine takeZ (i := 3) (v := ?_) (some 45) rfl rfl (by kernel_rfl) (by kernel_rfl) (by kernel_rfl) (by kernel_rfl) (fun _ _ _ h => h) (Or.inl ⟨by rfl, ?_⟩) (by assumption) ?_
      rotate_left
      · intro w hSw; (try dsimp only at hSw); go_simp; (try with_reducible rfl)
      (try simp only [Act.put]); (try simp only [List.setIfInBounds_toArray]); (try simp only [List.set_cons_succ]); (try simp only [List.set_cons_zero])
      refine takeZ (i := 4) (v := ?_) (some 46) rfl rfl (by kernel_rfl) (by kernel_rfl) (by kernel_rfl) (by kernel_rfl) (fun _ _ _ h => h) (Or.inl ⟨by rfl, ?_⟩) (by assumption) ?_
      rotate_left
      · intro w hSw; (try dsimp only at hSw); go_simp; (try with_reducible rfl)
      (try simp only [Act.put]); (try simp only [List.setIfInBounds_toArray]); (try simp only [List.set_cons_succ]); (try simp only [List.set_cons_zero])
      refine takeZ (i := 5) (v := ?_) (some 47) rfl rfl (by kernel_rfl) (by kernel_rfl) (by kernel_rfl) (by kernel_rfl) (fun _ _ _ h => h) (Or.inl ⟨by rfl, ?_⟩) (by assumption) ?_
      rotate_left
      · intro w hSw; (try dsimp only at hSw); go_simp; (try with_reducible rfl)
      (try simp only [Act.put]); (try simp only [List.setIfInBounds_toArray]); (try simp only [List.set_cons_succ]); (try simp only [List.set_cons_zero])
      refine takeU (i := 9) (v := ?_) (some 51) rfl rfl (by kernel_rfl) (by kernel_rfl) (by kernel_rfl) (fun _ _ _ h => h) (Or.inl ⟨by rfl, ?_⟩) ?_
      rotate_left
      · intro w hSw; go_simp; (try with_reducible rfl)
      (try simp only [Act.put]); (try simp only [List.setIfInBounds_toArray]); (try simp only [List.set_cons_succ]); (try simp only [List.set_cons_zero])
      refine takeU (i := 10) (v := ?_) (some 52) rfl rfl (by kernel_rfl) (by kernel_rfl) (by kernel_rfl) (fun _ _ _ h => h) (Or.inl ⟨by rfl, ?_⟩) ?_
      rotate_left
      · intro w hSw; go_simp; (try with_reducible rfl)
      (try simp only [Act.put]); (try simp only [List.setIfInBounds_toArray]); (try simp only [List.set_cons_succ]); (try simp only [List.set_cons_zero])
      refine takeU (i := 11) (v := ?_) (some 53) rfl rfl (by kernel_rfl) (by kernel_rfl) (by kernel_rfl) (fun _ _ _ h => h) (Or.inl ⟨by rfl, ?_⟩) ?_
      rotate_left
      · intro w hSw; go_simp; (try with_reducible rfl)
      (try simp only [Act.put]); (try simp only [List.setIfInBounds_toArray]); (try simp only [List.set_cons_succ]); (try simp only [List.set_cons_zero])
      refine takeZ (i := 12) (v := ?_) (some 54) rfl rfl (by kernel_rfl) (by kernel_rfl) (by kernel_rfl) (by kernel_rfl) (fun _ _ _ h => h) (Or.inl ⟨by rfl, ?_⟩) (by assumption) ?_
      rotate_left
      · intro w hSw; (try dsimp only at hSw); go_simp; (try with_reducible rfl)
      (try simp only [Act.put]); (try simp only [List.setIfInBounds_toArray]); (try simp only [List.set_cons_succ]); (try simp only [List.set_cons_zero])
      refine takeU (i := 13) (v := ?_) (some 55) rfl rfl (by kernel_rfl) (by kernel_rfl) (by kernel_rfl) (fun _ _ _ h => h) (Or.inl ⟨by rfl, ?_⟩) ?_
      rotate_left
      · intro w hSw; go_simp; (try with_reducible rfl)
      (try simp only [Act.put]); (try simp only [List.setIfInBounds_toArray]); (try simp only [List.set_cons_succ]); (try simp only [List.set_cons_zero])
      refine anyZ_ready (rs := [6, 14]) (by kernel_rfl) (by simp) ?_
      refine readyZ_cons rfl (fun K hK => ?_) (readyZ_cons rfl (fun K hK => ?_) readyZ_nil)
      · go_simp
        (with_reducible refine (dnew_any _).mono ?_)
        rintro e wd ⟨rfl, hd6, hb6⟩
        dsimp only
        obtain ⟨gd', bd', col2, hgd, V6⟩ := V.newDb (by simp) hd6 hb6 (by omega) (by omega)
        clear hd6
        generalize Array.size (World.heap _) + 1 = g1 at *
        refine hK.out _ _ (fun _ => ⟨V6.bx.c 0 rfl, V6.bx.c 1 rfl⟩) (fun hHeld0 => ?_)
        replace hHeld := hHeld0 (by decide)
        clear hK K hHeld0
        refine anyZ_ready (rs := [7, 14]) (by kernel_rfl) (by simp) ?_
        refine readyZ_cons rfl (fun K hK => ?_) (readyZ_cons rfl (fun K hK => ?_) readyZ_nil)
        · have o7 := lit1 wd (.pointer (some ⟨g1, 0, none⟩)) 63
          have hb7 := below_new' wd (.cells #[(.pointer (some ⟨g1, 0, none⟩))] 63)
          have V7 := V6.below (by simp) hb7
          go_simp
          refine hK.out _ _ (fun _ => ⟨V7.bx.c 0 rfl, V7.bx.c 1 rfl⟩) (fun hHeld0 => ?_)
          replace hHeld := hHeld0 (by decide)
          clear hK K hHeld0
          generalize World.alloc wd _ = wf at *
          refine anyZ_ready (rs := [8, 14]) (by kernel_rfl) (by simp) ?_
          refine readyZ_cons rfl (fun K hK => ?_) (readyZ_cons rfl (fun K hK => ?_) readyZ_nil)
          · refine step_appG rfl pdT (.tmp 47) (.tmp 49) (by rfl) B0 (by rfl) V7.r0 (by rfl) (m := 1) (by rfl) (own_slice o7) (one1 _) (by simp only [maxLen]; omega) (by omega) (V7.b0 (by simp)) (i + 1) _ rfl rfl ?_
            intro v8 w8 ho8 hb8 hg8
            obtain ⟨A8, c8, rfl, -⟩ := own_rd ho8
            have V8 := V7.app0 (by simp) hg8 (by omega) hgd ho8
            refine hK.out _ _ (fun _ => ⟨V8.bx.c 0 rfl, V8.bx.c 1 rfl⟩) (fun hHeld0 => ?_)
            replace hHeld := hHeld0 (by decide)
            clear hK K hHeld0
            refine anyZ_ready (rs := [14]) (by kernel_rfl) (by simp) ?_
            refine readyZ_cons rfl (fun K hK => ?_) readyZ_nil
            have o14 := lit1 w8 (.pointer (some ⟨f1, 0, none⟩)) 40
            have hb14 := below_new' w8 (.cells #[.pointer (some ⟨f1, 0, none⟩)] 40)
            have V14 := V8.below (by simp) hb14
            go_simp
            refine hK.out _ _ (fun _ => ⟨V14.bx.c 0 rfl, V14.bx.c 1 rfl⟩) (fun hHeld0 => ?_)
            replace hHeld := hHeld0 (by decide)
            clear hK K hHeld0
            generalize World.alloc w8 _ = we at *
            refine anyZ_ready (rs := [15]) (by kernel_rfl) (by simp) ?_
            refine readyZ_cons rfl (fun K hK => ?_) readyZ_nil
            refine step_appG rfl pflT (.tmp 54) (.tmp 56) (by rfl) B0 (by rfl) V14.r1 (by rfl) (m := 1) (by rfl) (own_slice o14) (one1 _) (by simp only [maxLen]; omega) (by omega) (V14.b0 (by simp)) (i + 1) _ rfl rfl ?_
            intro v9 w9 ho9 hb9 hg9
            obtain ⟨A9, c9, rfl, -⟩ := own_rd ho9
            have V9 := V14.app1 (by simp) hg9 (by omega) hgf ho9
            refine hK.out _ _ (fun _ => ⟨V9.bx.c 0 rfl, V9.bx.c 1 rfl⟩) (fun hHeld0 => ?_)
            replace hHeld := hHeld0 (by decide)
            clear hK K hHeld0
            refine anyZ_ready (rs := [16]) (by kernel_rfl) (by simp) ?_
            refine readyZ_cons rfl (fun K hK => ?_) readyZ_nil
            go_simp
            refine hK.out _ _ (fun _ => hHeld) (fun _ => ?_)
            clear hK K
            refine takeU (i := 17) (v := ?_) (some 59) rfl rfl (by kernel_rfl) (by kernel_rfl) (by kernel_rfl) (fun _ _ _ h => h) (Or.inl ⟨by rfl, ?_⟩) ?_
            rotate_left
            · intro w hSw; go_simp; (try with_reducible rfl)
            (try simp only [Act.put]); (try simp only [List.setIfInBounds_toArray]); (try simp only [List.set_cons_succ]); (try simp only [List.set_cons_zero])
            have q0 := V9.bx.f 0 rfl
            have q1 := V9.bx.c 0 rfl
            refine anyZ_ready (rs := [18]) (by kernel_rfl) (by simp) ?_
            refine readyZ_cons rfl (fun K hK => ?_) readyZ_nil
            go_simp
            refine hK.out _ _ (fun h => absurd h (by decide)) (fun _ => ?_)
            clear hK K hHeld q0 q1
            have V10 := V9.set 0 (.slice A8 (i + 1) c8) (by simp)
            have q0 := V10.bx.f 1 rfl
            have q1 := V10.bx.c 1 rfl
            refine takeU (i := 19) (v := ?_) (some 60) rfl rfl (by kernel_rfl) (by kernel_rfl) (by kernel_rfl) (fun _ _ _ h => h) (Or.inl ⟨by rfl, ?_⟩) ?_
            rotate_left
            · intro w hSw; go_simp; (try with_reducible rfl)
            (try simp only [Act.put]); (try simp only [List.setIfInBounds_toArray]); (try simp only [List.set_cons_succ]); (try simp only [List.set_cons_zero])
            refine takeU (i := 20) (v := ?_) (some 61) rfl rfl (by kernel_rfl) (by kernel_rfl) (by kernel_rfl) (fun _ _ _ h => h) (Or.inl ⟨by rfl, ?_⟩) ?_
            rotate_left
            · intro w hSw; go_simp; (try with_reducible rfl)
            (try simp only [Act.put]); (try simp only [List.setIfInBounds_toArray]); (try simp only [List.set_cons_succ]); (try simp only [List.set_cons_zero])
            refine anyZ_ready (rs := [21]) (by kernel_rfl) (by simp) ?_
            refine readyZ_cons rfl (fun K hK => ?_) readyZ_nil
            go_simp
            refine hK.out _ _ (fun h => absurd h (by decide)) (fun _ => ?_)
            clear hK K q0 q1
            have V11 := V10.set 1 (.slice A9 (i + 1) c9) (by simp)
            simp only [List.set_cons_succ, List.set_cons_zero] at V11
            refine anyZ_done (by kernel_rfl) ?_ _
            refine NoPanic.normal ?_
            replace V11 := Lib.hid V11
            clear V9 V10
            go_wp2_with fail
            go_round
            case rel => exact ⟨i + 1, _, _, _, _, _, _, _, _, _, by go_num, by omega, V11⟩
            case measure => simp [intOf]; omega
          · have o14 := lit1 wf (.pointer (some ⟨f1, 0, none⟩)) 40
            have hb14 := below_new' wf (.cells #[.pointer (some ⟨f1, 0, none⟩)] 40)
            have V14 := V7.below (by simp) hb14
            go_simp
            refine hK.out _ _ (fun _ => ⟨V14.bx.c 0 rfl, V14.bx.c 1 rfl⟩) (fun hHeld0 => ?_)
            replace hHeld := hHeld0 (by decide)
            clear hK K hHeld0
            generalize World.alloc wf _ = we at *
            have o7b := own_below o7 hb14
            refine anyZ_ready (rs := [8]) (by kernel_rfl) (by simp) ?_
            refine readyZ_cons rfl (fun K hK => ?_) readyZ_nil
            refine step_appG rfl pdT (.tmp 47) (.tmp 49) (by rfl) B0 (by rfl) V14.r0 (by rfl) (m := 1) (by rfl) (own_slice o7b) (one1 _) (by simp only [maxLen]; omega) (by omega) (V14.b0 (by simp)) (i + 1) _ rfl rfl ?_
            intro v8 w8 ho8 hb8 hg8
            obtain ⟨A8, c8, rfl, -⟩ := own_rd ho8
            have V8 := V14.app0 (by simp) hg8 (by omega) hgd ho8
            refine hK.out _ _ (fun _ => ⟨V8.bx.c 0 rfl, V8.bx.c 1 rfl⟩) (fun hHeld0 => ?_)
            replace hHeld := hHeld0 (by decide)
            clear hK K hHeld0
            have o14d := own_grown o14 hg8 (fun k hk => by rcases own_ne o14 V14.r0 (by decide) with e | e <;> simp_all)
            refine anyZ_ready (rs := [15]) (by kernel_rfl) (by simp) ?_
            refine readyZ_cons rfl (fun K hK => ?_) readyZ_nil
            refine step_appG rfl pflT (.tmp 54) (.tmp 56) (by rfl) B0 (by rfl) V8.r1 (by rfl) (m := 1) (by rfl) (own_slice o14d) (one1 _) (by simp only [maxLen]; omega) (by omega) (V8.b0 (by simp)) (i + 1) _ rfl rfl ?_
            intro v9 w9 ho9 hb9 hg9
            obtain ⟨A9, c9, rfl, -⟩ := own_rd ho9
            have V9 := V8.app1 (by simp) hg9 (by omega) hgf ho9
            refine hK.out _ _ (fun _ => ⟨V9.bx.c 0 rfl, V9.bx.c 1 rfl⟩) (fun hHeld0 => ?_)
            replace hHeld := hHeld0 (by decide)
            clear hK K hHeld0
            refine anyZ_ready (rs := [16]) (by kernel_rfl) (by simp) ?_
            refine readyZ_cons rfl (fun K hK => ?_) readyZ_nil
            go_simp
            refine hK.out _ _ (fun _ => hHeld) (fun _ => ?_)
            clear hK K
            refine takeU (i := 17) (v := ?_) (some 59) rfl rfl (by kernel_rfl) (by kernel_rfl) (by kernel_rfl) (fun _ _ _ h => h) (Or.inl ⟨by rfl, ?_⟩) ?_
            rotate_left
            · intro w hSw; go_simp; (try with_reducible rfl)
            (try simp only [Act.put]); (try simp only [List.setIfInBounds_toArray]); (try simp only [List.set_cons_succ]); (try simp only [List.set_cons_zero])
            have q0 := V9.bx.f 0 rfl
            have q1 := V9.bx.c 0 rfl
            refine anyZ_ready (rs := [18]) (by kernel_rfl) (by simp) ?_
            refine readyZ_cons rfl (fun K hK => ?_) readyZ_nil
            go_simp
            refine hK.out _ _ (fun h => absurd h (by decide)) (fun _ => ?_)
            clear hK K hHeld q0 q1
            have V10 := V9.set 0 (.slice A8 (i + 1) c8) (by simp)
            have q0 := V10.bx.f 1 rfl
            have q1 := V10.bx.c 1 rfl
            refine takeU (i := 19) (v := ?_) (some 60) rfl rfl (by kernel_rfl) (by kernel_rfl) (by kernel_rfl) (fun _ _ _ h => h) (Or.inl ⟨by rfl, ?_⟩) ?_
            rotate_left
            · intro w hSw; go_simp; (try with_reducible rfl)
            (try simp only [Act.put]); (try simp only [List.setIfInBounds_toArray]); (try simp only [List.set_cons_succ]); (try simp only [List.set_cons_zero])
            refine takeU (i := 20) (v := ?_) (some 61) rfl rfl (by kernel_rfl) (by kernel_rfl) (by kernel_rfl) (fun _ _ _ h => h) (Or.inl ⟨by rfl, ?_⟩) ?_
            rotate_left
            · intro w hSw; go_simp; (try with_reducible rfl)
            (try simp only [Act.put]); (try simp only [List.setIfInBounds_toArray]); (try simp only [List.set_cons_succ]); (try simp only [List.set_cons_zero])
            refine anyZ_ready (rs := [21]) (by kernel_rfl) (by simp) ?_
            refine readyZ_cons rfl (fun K hK => ?_) readyZ_nil
            go_simp
            refine hK.out _ _ (fun h => absurd h (by decide)) (fun _ => ?_)
            clear hK K q0 q1
            have V11 := V10.set 1 (.slice A9 (i + 1) c9) (by simp)
            simp only [List.set_cons_succ, List.set_cons_zero] at V11
            refine anyZ_done (by kernel_rfl) ?_ _
            refine NoPanic.normal ?_
            replace V11 := Lib.hid V11
            clear V9 V10
            go_wp2_with fail
            go_round
            case rel => exact ⟨i + 1, _, _, _, _, _, _, _, _, _, by go_num, by omega, V11⟩
            case measure => simp [intOf]; omega
        · have o14 := lit1 wd (.pointer (some ⟨f1, 0, none⟩)) 40
          have hb14 := below_new' wd (.cells #[.pointer (some ⟨f1, 0, none⟩)] 40)
          have V14 := V6.below (by simp) hb14
          go_simp
          refine hK.out _ _ (fun _ => ⟨V14.bx.c 0 rfl, V14.bx.c 1 rfl⟩) (fun hHeld0 => ?_)
          replace hHeld := hHeld0 (by decide)
          clear hK K hHeld0
          generalize World.alloc wd _ = we at *
          refine anyZ_ready (rs := [7]) (by kernel_rfl) (by simp) ?_
          refine readyZ_cons rfl (fun K hK => ?_) readyZ_nil
          have o7 := lit1 we (.pointer (some ⟨g1, 0, none⟩)) 63
          have hb7 := below_new' we (.cells #[(.pointer (some ⟨g1, 0, none⟩))] 63)
          have V7 := V14.below (by simp) hb7
          go_simp
          refine hK.out _ _ (fun _ => ⟨V7.bx.c 0 rfl, V7.bx.c 1 rfl⟩) (fun hHeld0 => ?_)
          replace hHeld := hHeld0 (by decide)
          clear hK K hHeld0
          generalize World.alloc we _ = wf at *
          have o14c := own_below o14 hb7
          refine anyZ_ready (rs := [8]) (by kernel_rfl) (by simp) ?_
          refine readyZ_cons rfl (fun K hK => ?_) readyZ_nil
          refine step_appG rfl pdT (.tmp 47) (.tmp 49) (by rfl) B0 (by rfl) V7.r0 (by rfl) (m := 1) (by rfl) (own_slice o7) (one1 _) (by simp only [maxLen]; omega) (by omega) (V7.b0 (by simp)) (i + 1) _ rfl rfl ?_
          intro v8 w8 ho8 hb8 hg8
          obtain ⟨A8, c8, rfl, -⟩ := own_rd ho8
          have V8 := V7.app0 (by simp) hg8 (by omega) hgd ho8
          refine hK.out _ _ (fun _ => ⟨V8.bx.c 0 rfl, V8.bx.c 1 rfl⟩) (fun hHeld0 => ?_)
          replace hHeld := hHeld0 (by decide)
          clear hK K hHeld0
          have o14d := own_grown o14c hg8 (fun k hk => by rcases own_ne o14c V7.r0 (by decide) with e | e <;> simp_all)
          refine anyZ_ready (rs := [15]) (by kernel_rfl) (by simp) ?_
          refine readyZ_cons rfl (fun K hK => ?_) readyZ_nil
          refine step_appG rfl pflT (.tmp 54) (.tmp 56) (by rfl) B0 (by rfl) V8.r1 (by rfl) (m := 1) (by rfl) (own_slice o14d) (one1 _) (by simp only [maxLen]; omega) (by omega) (V8.b0 (by simp)) (i + 1) _ rfl rfl ?_
          intro v9 w9 ho9 hb9 hg9
          obtain ⟨A9, c9, rfl, -⟩ := own_rd ho9
          have V9 := V8.app1 (by simp) hg9 (by omega) hgf ho9
          refine hK.out _ _ (fun _ => ⟨V9.bx.c 0 rfl, V9.bx.c 1 rfl⟩) (fun hHeld0 => ?_)
          replace hHeld := hHeld0 (by decide)
          clear hK K hHeld0
          refine anyZ_ready (rs := [16]) (by kernel_rfl) (by simp) ?_
          refine readyZ_cons rfl (fun K hK => ?_) readyZ_nil
          go_simp
          refine hK.out _ _ (fun _ => hHeld) (fun _ => ?_)
          clear hK K
          refine takeU (i := 17) (v := ?_) (some 59) rfl rfl (by kernel_rfl) (by kernel_rfl) (by kernel_rfl) (fun _ _ _ h => h) (Or.inl ⟨by rfl, ?_⟩) ?_
          rotate_left
          · intro w hSw; go_simp; (try with_reducible rfl)
          (try simp only [Act.put]); (try simp only [List.setIfInBounds_toArray]); (try simp only [List.set_cons_succ]); (try simp only [List.set_cons_zero])
          have q0 := V9.bx.f 0 rfl
          have q1 := V9.bx.c 0 rfl
          refine anyZ_ready (rs := [18]) (by kernel_rfl) (by simp) ?_
          refine readyZ_cons rfl (fun K hK => ?_) readyZ_nil
          go_simp
          refine hK.out _ _ (fun h => absurd h (by decide)) (fun _ => ?_)
          clear hK K hHeld q0 q1
          have V10 := V9.set 0 (.slice A8 (i + 1) c8) (by simp)
          have q0 := V10.bx.f 1 rfl
          have q1 := V10.bx.c 1 rfl
          refine takeU (i := 19) (v := ?_) (some 60) rfl rfl (by kernel_rfl) (by kernel_rfl) (by kernel_rfl) (fun _ _ _ h => h) (Or.inl ⟨by rfl, ?_⟩) ?_
          rotate_left
          · intro w hSw; go_simp; (try with_reducible rfl)
          (try simp only [Act.put]); (try simp only [List.setIfInBounds_toArray]); (try simp only [List.set_cons_succ]); (try simp only [List.set_cons_zero])
          refine takeU (i := 20) (v := ?_) (some 61) rfl rfl (by kernel_rfl) (by kernel_rfl) (by kernel_rfl) (fun _ _ _ h => h) (Or.inl ⟨by rfl, ?_⟩) ?_
          rotate_left
          · intro w hSw; go_simp; (try with_reducible rfl)
          (try simp only [Act.put]); (try simp only [List.setIfInBounds_toArray]); (try simp only [List.set_cons_succ]); (try simp only [List.set_cons_zero])
          refine anyZ_ready (rs := [21]) (by kernel_rfl) (by simp) ?_
          refine readyZ_cons rfl (fun K hK => ?_) readyZ_nil
          go_simp
          refine hK.out _ _ (fun h => absurd h (by decide)) (fun _ => ?_)
          clear hK K q0 q1
          have V11 := V10.set 1 (.slice A9 (i + 1) c9) (by simp)
          simp only [List.set_cons_succ, List.set_cons_zero] at V11
          refine anyZ_done (by kernel_rfl) ?_ _
          refine NoPanic.normal ?_
          replace V11 := Lib.hid V11
          clear V9 V10
          go_wp2_with fail
          go_round
          case rel => exact ⟨i + 1, _, _, _, _, _, _, _, _, _, by go_num, by omega, V11⟩
          case measure => simp [intOf]; omega
      · have o14 := lit1 wq (.pointer (some ⟨f1, 0, none⟩)) 40
        have hb14 := below_new' wq (.cells #[.pointer (some ⟨f1, 0, none⟩)] 40)
        have V14 := V.below (by simp) hb14
        go_simp
        refine hK.out _ _ (fun _ => ⟨V14.bx.c 0 rfl, V14.bx.c 1 rfl⟩) (fun hHeld0 => ?_)
        replace hHeld := hHeld0 (by decide)
        clear hK K hHeld0
        generalize World.alloc wq _ = we at *
        refine anyZ_ready (rs := [6]) (by kernel_rfl) (by simp) ?_
        refine readyZ_cons rfl (fun K hK => ?_) readyZ_nil
        go_simp
        (with_reducible refine (dnew_any _).mono ?_)
        rintro e wd ⟨rfl, hd6, hb6⟩
        dsimp only
        obtain ⟨gd', bd', col2, hgd, V6⟩ := V14.newDb (by simp) hd6 hb6 (by omega) (by omega)
        clear hd6
        generalize Array.size (World.heap _) + 1 = g1 at *
        refine hK.out _ _ (fun _ => ⟨V6.bx.c 0 rfl, V6.bx.c 1 rfl⟩) (fun hHeld0 => ?_)
        replace hHeld := hHeld0 (by decide)
        clear hK K hHeld0
        have o14b := own_below o14 hb6
        refine anyZ_ready (rs := [7]) (by kernel_rfl) (by simp) ?_
        refine readyZ_cons rfl (fun K hK => ?_) readyZ_nil
        have o7 := lit1 wd (.pointer (some ⟨g1, 0, none⟩)) 63
        have hb7 := below_new' wd (.cells #[(.pointer (some ⟨g1, 0, none⟩))] 63)
        have V7 := V6.below (by simp) hb7
        go_simp
        refine hK.out _ _ (fun _ => ⟨V7.bx.c 0 rfl, V7.bx.c 1 rfl⟩) (fun hHeld0 => ?_)
        replace hHeld := hHeld0 (by decide)
        clear hK K hHeld0
        generalize World.alloc wd _ = wf at *
        have o14c := own_below o14b hb7
        refine anyZ_ready (rs := [8]) (by kernel_rfl) (by simp) ?_
        refine readyZ_cons rfl (fun K hK => ?_) readyZ_nil
        refine step_appG rfl pdT (.tmp 47) (.tmp 49) (by rfl) B0 (by rfl) V7.r0 (by rfl) (m := 1) (by rfl) (own_slice o7) (one1 _) (by simp only [maxLen]; omega) (by omega) (V7.b0 (by simp)) (i + 1) _ rfl rfl ?_
        intro v8 w8 ho8 hb8 hg8
        obtain ⟨A8, c8, rfl, -⟩ := own_rd ho8
        have V8 := V7.app0 (by simp) hg8 (by omega) hgd ho8
        refine hK.out _ _ (fun _ => ⟨V8.bx.c 0 rfl, V8.bx.c 1 rfl⟩) (fun hHeld0 => ?_)
        replace hHeld := hHeld0 (by decide)
        clear hK K hHeld0
        have o14d := own_grown o14c hg8 (fun k hk => by rcases own_ne o14c V7.r0 (by decide) with e | e <;> simp_all)
        refine anyZ_ready (rs := [15]) (by kernel_rfl) (by simp) ?_
        refine readyZ_cons rfl (fun K hK => ?_) readyZ_nil
        refine step_appG rfl pflT (.tmp 54) (.tmp 56) (by rfl) B0 (by rfl) V8.r1 (by rfl) (m := 1) (by rfl) (own_slice o14d) (one1 _) (by simp only [maxLen]; omega) (by omega) (V8.b0 (by simp)) (i + 1) _ rfl rfl ?_
        intro v9 w9 ho9 hb9 hg9
        obtain ⟨A9, c9, rfl, -⟩ := own_rd ho9
        have V9 := V8.app1 (by simp) hg9 (by omega) hgf ho9
        refine hK.out _ _ (fun _ => ⟨V9.bx.c 0 rfl, V9.bx.c 1 rfl⟩) (fun hHeld0 => ?_)
        replace hHeld := hHeld0 (by decide)
        clear hK K hHeld0
        refine anyZ_ready (rs := [16]) (by kernel_rfl) (by simp) ?_
        refine readyZ_cons rfl (fun K hK => ?_) readyZ_nil
        go_simp
        refine hK.out _ _ (fun _ => hHeld) (fun _ => ?_)
        clear hK K
        refine takeU (i := 17) (v := ?_) (some 59) rfl rfl (by kernel_rfl) (by kernel_rfl) (by kernel_rfl) (fun _ _ _ h => h) (Or.inl ⟨by rfl, ?_⟩) ?_
        rotate_left
        · intro w hSw; go_simp; (try with_reducible rfl)
        (try simp only [Act.put]); (try simp only [List.setIfInBounds_toArray]); (try simp only [List.set_cons_succ]); (try simp only [List.set_cons_zero])
        have q0 := V9.bx.f 0 rfl
        have q1 := V9.bx.c 0 rfl
        refine anyZ_ready (rs := [18]) (by kernel_rfl) (by simp) ?_
        refine readyZ_cons rfl (fun K hK => ?_) readyZ_nil
        go_simp
        refine hK.out _ _ (fun h => absurd h (by decide)) (fun _ => ?_)
        clear hK K hHeld q0 q1
        have V10 := V9.set 0 (.slice A8 (i + 1) c8) (by simp)
        have q0 := V10.bx.f 1 rfl
        have q1 := V10.bx.c 1 rfl
        refine takeU (i := 19) (v := ?_) (some 60) rfl rfl (by kernel_rfl) (by kernel_rfl) (by kernel_rfl) (fun _ _ _ h => h) (Or.inl ⟨by rfl, ?_⟩) ?_
        rotate_left
        · intro w hSw; go_simp; (try with_reducible rfl)
        (try simp only [Act.put]); (try simp only [List.setIfInBounds_toArray]); (try simp only [List.set_cons_succ]); (try simp only [List.set_cons_zero])
        refine takeU (i := 20) (v := ?_) (some 61) rfl rfl (by kernel_rfl) (by kernel_rfl) (by kernel_rfl) (fun _ _ _ h => h) (Or.inl ⟨by rfl, ?_⟩) ?_
        rotate_left
        · intro w hSw; go_simp; (try with_reducible rfl)
        (try simp only [Act.put]); (try simp only [List.setIfInBounds_toArray]); (try simp only [List.set_cons_succ]); (try simp only [List.set_cons_zero])
        refine anyZ_ready (rs := [21]) (by kernel_rfl) (by simp) ?_
        refine readyZ_cons rfl (fun K hK => ?_) readyZ_nil
        go_simp
        refine hK.out _ _ (fun h => absurd h (by decide)) (fun _ => ?_)
        clear hK K q0 q1
        have V11 := V10.set 1 (.slice A9 (i + 1) c9) (by simp)
        simp only [List.set_cons_succ, List.set_cons_zero] at V11
        refine anyZ_done (by kernel_rfl) ?_ _
        refine NoPanic.normal ?_
        replace V11 := Lib.hid V11
        clear V9 V10
        go_wp2_with fail
        go_round
        case rel => exact ⟨i + 1, _, _, _, _, _, _, _, _, _, by go_num, by omega, V11⟩
        case measure => simp [intOf]; omega
    · obtain rfl : n = i := by omega
      have NT0 := ND.out.nt n
      clear ND
      have hmL : lk.map (fun p => (p.1.toNat % n, p.2.toNat % n)) = lsN n lk := rfl
      have E0 : LkAt B0 w1 wr n lk 0 B0 := ⟨_, _, rfl, NT0, bd1_start n, fun _ => rfl⟩
      clear NT0
      replace E0 := Lib.hid E0
      go_wp2_with fail
      go_loopw [9] (fun v9 wr => ∃ (l : Nat), v9 = .int .i64 l ∧ l ≤ nl ∧ Hid (LkAt B0 w1 wr n lk l B0)) (fun v9 _ => nl - (intOf v9).toNat)
      case atStart => exact ⟨0, rfl, by omega, E0⟩
      case round =>
        clear E0
        obtain ⟨l, rfl, hl, E⟩ := hrel
        have SW := SX.out _ E.out.bel
        have b1 := SW.c 0 1 rfl rfl
        by_cases hll : l < nl
        · have hlk2 : l < lk.length := by rw [hlk.out]; exact hll
          obtain ⟨bL, offL, rfl, hcL⟩ := rd_at (SW.r 0 rfl) (by rw [l2V_len]; omega)
          obtain ⟨g0, g1⟩ := l2V_get lk l hlk2
          replace g0 := hcL _ _ g0
          replace g1 := hcL _ _ g1
          replace g1 : wr.cell? ⟨bL, offL + l * 2 + 1, none⟩ = some (u8v lk[l].2) := by rw [Nat.add_assoc]; exact g1
          have hnext : lsN n (lk.take (l + 1)) = lsN n (lk.take l) ++ [(lk[l].1.toNat % n, lk[l].2.toNat % n)] := by
            unfold lsN
            rw [List.take_succ_eq_append_getElem hlk2, List.map_append]
            rfl
          have hLl : (lsN n (lk.take l)).length = l := by
            unfold lsN
            rw [List.length_map, List.length_take]
            omega
          obtain ⟨za, hza⟩ : ∃ za, lk[l].1.toNat = za := ⟨_, rfl⟩
          obtain ⟨zb, hzb⟩ : ∃ zb, lk[l].2.toNat = zb := ⟨_, rfl⟩
          have hza8 : za < 256 := by rw [← hza]; exact UInt8.toNat_lt _
          have hzb8 : zb < 256 := by rw [← hzb]; exact UInt8.toNat_lt _
          unfold u8v at g0 g1
          rw [hza] at g0
          rw [hzb] at g1
          rw [hza, hzb] at hnext
          obtain ⟨m, S, hmg, NT, hB1, hA2⟩ := E.out
          obtain ⟨L, hLe⟩ : ∃ L, lsN n (lk.take l) = L := ⟨_, rfl⟩
          rw [hLe] at hnext hLl NT hB1 hA2
          have ha : za % n < n := Nat.mod_lt _ (by omega)
          have hb : zb % n < n := Nat.mod_lt _ (by omega)
          obtain ⟨a, hae⟩ : ∃ a, za % n = a := ⟨_, rfl⟩
          obtain ⟨b, hbe⟩ : ∃ b, zb % n = b := ⟨_, rfl⟩
          have hae2 : (za : Int) % (n : Int) = (a : Int) := by rw [← hae]; rfl
          have hbe2 : (zb : Int) % (n : Int) = (b : Int) := by rw [← hbe]; rfl
          rw [hae] at ha hnext
          rw [hbe] at hb hnext
          have hn0 : 0 < n := by omega
          replace hnext := Lib.hid hnext
          replace hLl := Lib.hid hLl
          replace hA2 := Lib.hid hA2
          replace hB1 := Lib.hid hB1
          clear E hcL hza hzb hae hbe hLe hmL
          go_upto_region 13 with fail
          go_quiet (fail)
          clear g0 g1 b1
          have NT2 := NT.below (below_drewN (Below.refl _ _) nq)
          clear NT SW
          generalize World.drewN wr nq = w5 at *
          have hb6 := below_new' w5 (.cells #[.int .i64 (a : Int), .int .i64 (b : Int)] 66)
          have NT3 := NT2.below hb6
          have rd6 := Rd.lit w5 #[.int .i64 (a : Int), .int .i64 (b : Int)] 66
          have x2 := NT2.bx.c 2 rfl
          rw [hmg] at x2
          have y2 := cell_later hb6 x2
          have hown := NT3.r2
          have hb0 := NT3.b0
          have one2 : ∀ u ∈ [Value.int .i64 (a : Int), .int .i64 (b : Int)], u.oneCell' = true := by
            intro u hu
            simp only [List.mem_cons, List.not_mem_nil, or_false] at hu
            rcases hu with rfl | rfl <;> rfl
          have hk6 : Hid (∀ w6, (w5.alloc (.cells #[.int .i64 (a : Int), .int .i64 (b : Int)] 66)).grownBy w6 (Value.slice m.A2 L.length m.c2).ownBlock → w6.cell? ⟨B0, 2, none⟩ = some (.slice m.A2 L.length m.c2) ∧ w6.frozen? ⟨B0, 2, none⟩ = false) := fun w6 hg6 => by
            have := NT3.bx.kept hg6 (fun e => (NT3.off2 hA2.out e.symm).2.1 rfl) (by simp)
            rw [hmg] at this
            exact ⟨this.c 2 rfl, this.f 2 rfl⟩
          go_upto_region 15 with (at_builtin; refine wpList_appG rfl lkT (.tmp 91) (.tmp 95) rfl B0 rfl hown (m := 1) rfl rfl rd6 one2 (by simp only [maxLen]; have := hLl.out; omega) (by have := hLl.out; omega) hb0 _ _ rfl rfl ?_; intro v6 w6 o6 hbel6 hg6; obtain ⟨q0, q1⟩ := hk6.out _ hg6; obtain ⟨A6, c6, rfl, -⟩ := own_rd o6)
          have NT4 := NT3.link (p := (a, b)) hB1.out.way hA2.out ⟨hB1.out.db, hB1.out.emp⟩ hg6 o6
          rw [hmg] at NT4
          clear NT2 NT3 hb6 rd6 x2 y2 hown hb0 one2 hk6 q0 q1 o6 hbel6 hg6
          generalize World.setCell w6 _ _ = w7 at *
          by_cases hab : a = b
          · have E9 : LkAt B0 w1 w7 n lk (l + 1) B0 := ⟨_, _, rfl, by rw [hnext.out]; exact NT4, by rw [hnext.out]; exact hB1.out.loop hab, fun e => by rw [hnext.out] at e; simp at e⟩
            replace E9 := Lib.hid E9
            have e9 : ((a : Int) != (b : Int)) = false := by simp [hab]
            clear NT4
            go_wp2_with fail
            go_round
            case rel => exact ⟨l + 1, by go_num, by omega, E9⟩
            case measure => simp [intOf]; omega
          · have e9 : ((a : Int) != (b : Int)) = true := by simp; omega
            obtain ⟨m4, hm4, NT5⟩ : ∃ m4 : Nm, m4.g = B0 ∧ NtAt B0 w1 w7 m4 n (L ++ [(a, b)]) S none 0 [] := ⟨_, rfl, NT4⟩
            clear NT4
            have hsl : ∀ (F : Fd.Fn) (l' : Nat), (Fd.setN F l (fun _ => none) l').isSome = true → l' = l ∨ (F l').isSome = true := fun F l' h => by
              unfold Fd.setN at h
              by_cases e : l' = l
              · exact .inl e
              · rw [if_neg e] at h; exact .inr h
            have U1 := Fd.fup_any w7 (m4.gf a) (m4.bf a) 4 (S.fl a) (m4.ff a) (NT5.fl a ha) l (by omega) none 0 0 [] (Rd.nil _ _) rfl (by omega) (by simp)
            unfold Fd.UpPost at U1
            rw [show Fd.offs (fun _ => none) (Fd.laL []) = fun _ => none from rfl] at U1
            obtain ⟨b1', off1, hA1, z1⟩ := rd_at (own_slice NT5.r1) (by rw [ptrs_len]; omega)
            have x1 := NT5.bx.c 1 rfl
            rw [hA1, hm4] at x1
            replace z1 := z1 a _ (ptrs_get ha)
            replace U1 := Lib.hid U1
            clear hA1
            go_wp2_with fail
            (with_reducible refine (U1.out).mono ?_)
            rintro e w8 ⟨rfl, k8, hk8, hf8, hg8⟩
            have NT6 := NT5.up ha hk8 (hsl _) hf8 hg8
            clear U1 x1 z1 hk8 hf8 hg8 NT5
            obtain ⟨m6, hm6, NT7⟩ : ∃ m6 : Nm, m6.g = B0 ∧ NtAt B0 w1 w8 m6 n (L ++ [(a, b)]) ⟨S.db, upd S.fl a (Fd.setN (S.fl a) l (fun _ => none)), S.way⟩ none 0 [] := ⟨_, by exact hm4, NT6⟩
            clear NT6
            have U2 := Fd.fup_any w8 (m6.gf b) (m6.bf b) 4 _ (m6.ff b) (NT7.fl b hb) l (by omega) none 0 0 [] (Rd.nil _ _) rfl (by omega) (by simp)
            unfold Fd.UpPost at U2
            rw [show Fd.offs (fun _ => none) (Fd.laL []) = fun _ => none from rfl] at U2
            obtain ⟨b1', off1, hA1, z1⟩ := rd_at (own_slice NT7.r1) (by rw [ptrs_len]; omega)
            have x1 := NT7.bx.c 1 rfl
            rw [hA1, hm6] at x1
            replace z1 := z1 b _ (ptrs_get hb)
            replace U2 := Lib.hid U2
            clear hA1
            go_wp2_with fail
            (with_reducible refine (U2.out).mono ?_)
            rintro e w9 ⟨rfl, k9, hk9, hf9, hg9⟩
            have NT8 := NT7.up hb hk9 (hsl _) hf9 hg9
            clear U2 x1 z1 hk9 hf9 hg9 NT7
            have hlink := hB1.out.link (p := (a, b)) hab
            simp only at NT8 hlink
            rw [upd_ne (fun e => hab e.symm)] at NT8
            rw [hLl.out] at hlink
            rw [← hnext.out] at NT8 hlink
            have E9 : LkAt B0 w1 w9 n lk (l + 1) B0 := ⟨_, _, by exact hm6, NT8, hlink, fun e => by rw [hnext.out] at e; simp at e⟩
            replace E9 := Lib.hid E9
            clear NT8 hlink
            go_wp2_with fail
            go_round
            case rel => exact ⟨l + 1, by go_num, by omega, E9⟩
            case measure => simp [intOf]; omega
        · obtain rfl : nl = l := by omega
          have hE := E.out
          unfold LkAt at hE
          rw [List.take_of_length_le (by rw [hlk.out]; exact Nat.le_refl _)] at hE
          obtain ⟨m, S, hmg, NT, hB1, hA2⟩ := hE
          have E2 : BsAt B0 w1 wr n (lsN n lk) at' xs 0 B0 := ⟨m, S, hmg, NT, by rw [List.take_zero]; exact hB1.two, fun b hb => by simp at hb⟩
          have hbs1 : ∀ k s, xs[k]? = some s → (bsN n at' xs).take (k + 1) = (bsN n at' xs).take k ++ [(s.y, atF n at' k)] := fun k s h => by
            have h2 : (bsN n at' xs)[k]? = some (s.y, atF n at' k) := by
              unfold bsN
              rw [List.getElem?_mapIdx, h]
              rfl
            obtain ⟨hkb, hbe⟩ := List.getElem?_eq_some_iff.1 h2
            rw [List.take_succ_eq_append_getElem hkb, hbe]
          have hlsn : ∀ l i, Inc (lsN n lk) l i → i < n := fun l i h => by
            obtain ⟨p, hpl, _, h2⟩ := h
            obtain ⟨q, _, rfl⟩ := List.mem_map.1 (List.mem_of_getElem? hpl)
            simp only at h2
            rcases h2 with rfl | rfl
            · exact Nat.mod_lt _ (by omega)
            · exact Nat.mod_lt _ (by omega)
          have hlsl : (lsN n lk).length ≤ 8 := by unfold lsN; rw [List.length_map, hlk.out]; exact hnl8
          replace hbs1 := Lib.hid hbs1
          replace hlsn := Lib.hid hlsn
          replace hlsl := Lib.hid hlsl
          replace E2 := Lib.hid E2
          clear E NT hB1 hA2 hmg hmL
          go_wp2_with fail
          go_loopw [12] (fun v12 wr => ∃ (k : Nat), v12 = .int .i64 k ∧ k ≤ nx ∧ Hid (BsAt B0 w1 wr n (lsN n lk) at' xs k B0)) (fun v12 _ => nx - (intOf v12).toNat)
          case atStart => exact ⟨0, rfl, by omega, E2⟩
          case round =>
            clear E2
            obtain ⟨k, rfl, hk, E⟩ := hrel
            have SW := SX.out _ E.out.bel
            have b3 := SW.c 0 3 rfl rfl
            by_cases hkn : k < nx
            · have hkl : k < xs.length := by rw [hnx.out]; exact hkn
              obtain ⟨bX, offX, rfl⟩ := lx_form (SW.r 2 rfl) (by omega)
              have hso := hxo.out _ (List.getElem_mem hkl)
              have hsn := hbs1.out k _ (List.getElem?_eq_getElem hkl)
              obtain ⟨s, hs⟩ : ∃ s, xs[k] = s := ⟨_, rfl⟩
              have hcell := fun W (h : Rd W (some ⟨bX, offX, none⟩) (lxV xs)) => lx_cells h k hkl s hs
              rw [hs] at hso hsn
              clear hs
              obtain ⟨y, Ay, cy, By, dy⟩ := s
              have hso2 := hso
              unfold LxOk at hso
              simp only at hso hsn hcell
              have hpu : ∀ p ∈ y.pre, p.1 < 4294967296 := by
                obtain ⟨A', c', B', d', _, _, _, _, _, _, _, hu⟩ := hso
                exact hu
              replace hcell := Lib.hid hcell
              obtain ⟨fb, hfb⟩ : ∃ z, fewB y = z := ⟨_, rfl⟩
              obtain ⟨vb, hvb⟩ : ∃ z, vB y = z := ⟨_, rfl⟩
              have F := fun W hb => few_any W _ y (hso.below hb)
              have V := fun W hb => rvalid_at W _ y (hso.below hb)
              rw [hfb] at F
              rw [hvb] at V
              replace F := Lib.hid F
              replace V := Lib.hid V
              obtain ⟨m, S, hmg, NT, hB2, hok⟩ := E.out
              have B1 := hreb.out _ NT.bel
              have hfail : Hid (∀ W, Below w.heap.size w W → BuildPost w n lk at' xs (.returned (.tuple #[.pointer none, .bool false])) W) := fun W hb => .inl ⟨rfl, hb⟩
              replace hsn := Lib.hid hsn
              replace hso2 := Lib.hid hso2
              replace hso := Lib.hid hso
              replace hB2 := Lib.hid hB2
              replace hok := Lib.hid hok
              replace hfb := Lib.hid hfb
              replace hvb := Lib.hid hvb
              replace hpu := Lib.hid hpu
              obtain ⟨x0, x1, x2, x3, x4, x5⟩ := hcell.out _ (SW.r 2 rfl)
              clear E
              go_wp2_with fail
              (with_reducible refine (F.out _ B1).mono ?_)
              rintro e w3 ⟨rfl, hb⟩
              clear x0 x1 x2 x3 x4 x5 F b3
              replace NT := NT.below hb
              replace SW := SW.call hb
              replace B1 := hreb.out _ NT.bel
              clear hb
              cases fb with
              | false =>
                have hfin := hfail.out _ B1
                replace hfin := Lib.hid hfin
                go_wp2_with fail
                go_ret2
                exact hfin.out
              | true =>
              obtain ⟨x0, x1, x2, x3, x4, x5⟩ := hcell.out _ (SW.r 2 rfl)
              have b3 := SW.c 0 3 rfl rfl
              go_wp2_with fail
              (with_reducible refine (V.out _ B1).mono ?_)
              rintro e w4 ⟨rfl, hb⟩
              clear x0 x1 x2 x3 x4 x5 V b3
              replace NT := NT.below hb
              replace SW := SW.call hb
              replace B1 := hreb.out _ NT.bel
              clear hb
              cases vb with
              | false =>
                have hfin := hfail.out _ B1
                replace hfin := Lib.hid hfin
                go_wp2_with fail
                go_ret2
                exact hfin.out
              | true =>
              have b2 := SW.c 0 2 rfl rfl
              go_upto_if 147 with fail
              go_cut [13] (fun v13 wx => v13 = .int .i64 ((atF n at' k : Nat) : Int) ∧ w4 = wx)
              case first =>
                by_cases hka : k < na
                · have hkl : k < at'.length := by rw [hna.out]; exact hka
                  obtain ⟨ba, offa, rfl, hcA⟩ := rd_at (SW.r 1 rfl) (by rw [List.length_map]; omega)
                  have za := hcA k (.int .u8 (at'[k].toNat : Int)) (by rw [List.getElem?_map, List.getElem?_eq_getElem hkl]; rfl)
                  have e0 : atF n at' k = at'[k].toNat % n := by unfold atF; rw [List.getElem?_eq_getElem hkl]
                  have hzb : at'[k].toNat < 256 := UInt8.toNat_lt _
                  have hn0 : 0 < n := by omega
                  clear hcA
                  obtain ⟨zb, hzz⟩ : ∃ zb, at'[k].toNat = zb := ⟨_, rfl⟩
                  rw [hzz] at za e0 hzb
                  clear hzz hkl
                  go_wp2_with fail
                  go_meet
                  exact ⟨by rw [e0]; rfl, rfl⟩
                · have e0 : atF n at' k = 0 := by unfold atF; rw [List.getElem?_eq_none (by rw [hna.out]; omega)]
                  go_wp2_with fail
                  go_meet
                  exact ⟨by rw [e0]; rfl, rfl⟩
              case rest =>
                obtain ⟨rfl, rfl⟩ := hcut
                have hat : atF n at' k < n := atF_lt _ _ (by omega)
                obtain ⟨at0, hat0⟩ : ∃ at0, atF n at' k = at0 := ⟨_, rfl⟩
                rw [hat0] at hat ⊢
                replace hsn := hsn.out
                rw [hat0] at hsn
                have hok1 : LaOk y := ⟨vB_iff.1 hvb.out, hpu.out⟩
                have hva := hok1.1
                have hE : instE y = 0 := by unfold instE; rw [vB_t hva, if_pos rfl]
                replace SW := SW.drew
                replace NT := NT.below (w' := w4.drew) (Below.refl _ _).drew
                have DI := dinstall_any w4.drew (m.gd at0) (m.bd at0) (S.db at0) _ y (NT.db at0 hat) (hso.out.below SW.b)
                unfold InstPost at DI
                rw [hE] at DI
                obtain ⟨b0', off0, hA0, z0⟩ := rd_at (own_slice NT.r0) (by rw [ptrs_len]; omega)
                have y0 := NT.bx.c 0 rfl
                rw [hA0, hmg] at y0
                replace z0 := z0 at0 _ (ptrs_get hat)
                have b3 := SW.c 0 3 rfl rfl
                obtain ⟨x0, x1, x2, x3, x4, x5⟩ := hcell.out _ (SW.r 2 rfl)
                obtain ⟨ir, hir⟩ : ∃ ir, instR (S.db at0) y = ir := ⟨_, rfl⟩
                rw [hir] at DI
                replace hir := Lib.hid hir
                replace hsn := Lib.hid hsn
                replace DI := Lib.hid DI
                replace hA0 := Lib.hid hA0
                clear b2 hat0 hE
                go_upto_region 26 with fail
                refine wp_region_noPanic ?_
                refine wp_region_held_drew (S := fun W => W.cell? ⟨B0, 0, none⟩ = some (.slice (some ⟨b0', off0, none⟩) n m.c0) ∧ W.cell? ⟨b0', off0 + at0, none⟩ = some (.pointer (some ⟨m.gd at0, 0, none⟩)) ∧ W.cell? ⟨w.heap.size, 3, none⟩ = some (.slice (some ⟨bX, offX, none⟩) nx cx) ∧ W.cell? ⟨bX, offX + k * 6, none⟩ = some (.int .i64 y.o) ∧ W.cell? ⟨bX, offX + k * 6 + 1, none⟩ = some (.int .i64 y.s) ∧ W.cell? ⟨bX, offX + k * 6 + 2, none⟩ = some (.int .i64 y.a) ∧ W.cell? ⟨bX, offX + k * 6 + 3, none⟩ = some (.bool y.ov) ∧ W.cell? ⟨bX, offX + k * 6 + 4, none⟩ = some (.slice Ay y.adj.length cy) ∧ W.cell? ⟨bX, offX + k * 6 + 5, none⟩ = some (.slice By y.pre.length dy)) (by kernel_rfl) ⟨y0, z0, b3, x0, x1, x2, x3, x4, x5⟩ (fun hHeld => ?_)
                refine take_first (i := 0) (v := ?_) (some 157) rfl rfl (by kernel_rfl) (by kernel_rfl) (by kernel_rfl) (fun _ _ _ h => h) (Or.inl ⟨by rfl, ?_⟩) (by assumption) ?_
                rotate_left
                · intro w hSw; (try dsimp only at hSw); go_simp; (try with_reducible rfl)
                (try simp only [Act.put]); (try simp only [List.setIfInBounds_toArray]); (try simp only [List.set_cons_succ]); (try simp only [List.set_cons_zero])
                refine take_first (i := 1) (v := ?_) (some 158) rfl rfl (by kernel_rfl) (by kernel_rfl) (by kernel_rfl) (fun _ _ _ h => h) (Or.inl ⟨by rfl, ?_⟩) (by assumption) ?_
                rotate_left
                · intro w hSw; (try dsimp only at hSw); go_simp; (try with_reducible rfl)
                (try simp only [Act.put]); (try simp only [List.setIfInBounds_toArray]); (try simp only [List.set_cons_succ]); (try simp only [List.set_cons_zero])
                refine take_first (i := 2) (v := ?_) (some 159) rfl rfl (by kernel_rfl) (by kernel_rfl) (by kernel_rfl) (fun _ _ _ h => h) (Or.inl ⟨by rfl, ?_⟩) (by assumption) ?_
                rotate_left
                · intro w hSw; (try dsimp only at hSw); go_simp; (try with_reducible rfl)
                (try simp only [Act.put]); (try simp only [List.setIfInBounds_toArray]); (try simp only [List.set_cons_succ]); (try simp only [List.set_cons_zero])
                refine take_first (i := 3) (v := ?_) (some 160) rfl rfl (by kernel_rfl) (by kernel_rfl) (by kernel_rfl) (fun _ _ _ h => h) (Or.inl ⟨by rfl, ?_⟩) (by assumption) ?_
                rotate_left
                · intro w hSw; (try dsimp only at hSw); go_simp; (try with_reducible rfl)
                (try simp only [Act.put]); (try simp only [List.setIfInBounds_toArray]); (try simp only [List.set_cons_succ]); (try simp only [List.set_cons_zero])
                refine take_first (i := 4) (v := ?_) (some 161) rfl rfl (by kernel_rfl) (by kernel_rfl) (by kernel_rfl) (fun _ _ _ h => h) (Or.inl ⟨by rfl, ?_⟩) (by assumption) ?_
                rotate_left
                · intro w hSw; (try dsimp only at hSw); go_simp; (try with_reducible rfl)
                (try simp only [Act.put]); (try simp only [List.setIfInBounds_toArray]); (try simp only [List.set_cons_succ]); (try simp only [List.set_cons_zero])
                refine take_first (i := 5) (v := ?_) (some 162) rfl rfl (by kernel_rfl) (by kernel_rfl) (by kernel_rfl) (fun _ _ _ h => h) (Or.inl ⟨by rfl, ?_⟩) (by assumption) ?_
                rotate_left
                · intro w hSw; (try dsimp only at hSw); go_simp; (try with_reducible rfl)
                (try simp only [Act.put]); (try simp only [List.setIfInBounds_toArray]); (try simp only [List.set_cons_succ]); (try simp only [List.set_cons_zero])
                refine take_first (i := 6) (v := ?_) (some 163) rfl rfl (by kernel_rfl) (by kernel_rfl) (by kernel_rfl) (fun _ _ _ h => h) (Or.inl ⟨by rfl, ?_⟩) (by assumption) ?_
                rotate_left
                · intro w hSw; (try dsimp only at hSw); go_simp; (try with_reducible rfl)
                (try simp only [Act.put]); (try simp only [List.setIfInBounds_toArray]); (try simp only [List.set_cons_succ]); (try simp only [List.set_cons_zero])
                refine take_first (i := 7) (v := ?_) (some 164) rfl rfl (by kernel_rfl) (by kernel_rfl) (by kernel_rfl) (fun _ _ _ h => h) (Or.inl ⟨by rfl, ?_⟩) (by assumption) ?_
                rotate_left
                · intro w hSw; (try dsimp only at hSw); go_simp; (try with_reducible rfl)
                (try simp only [Act.put]); (try simp only [List.setIfInBounds_toArray]); (try simp only [List.set_cons_succ]); (try simp only [List.set_cons_zero])
                refine take_first (i := 8) (v := ?_) (some 165) rfl rfl (by kernel_rfl) (by kernel_rfl) (by kernel_rfl) (fun _ _ _ h => h) (Or.inl ⟨by rfl, ?_⟩) (by assumption) ?_
                rotate_left
                · intro w hSw; (try dsimp only at hSw); go_simp; (try with_reducible rfl)
                (try simp only [Act.put]); (try simp only [List.setIfInBounds_toArray]); (try simp only [List.set_cons_succ]); (try simp only [List.set_cons_zero])
                refine take_first (i := 9) (v := ?_) (some 166) rfl rfl (by kernel_rfl) (by kernel_rfl) (by kernel_rfl) (fun _ _ _ h => h) (Or.inl ⟨by rfl, ?_⟩) (by assumption) ?_
                rotate_left
                · intro w hSw; (try dsimp only at hSw); go_simp; (try with_reducible rfl)
                (try simp only [Act.put]); (try simp only [List.setIfInBounds_toArray]); (try simp only [List.set_cons_succ]); (try simp only [List.set_cons_zero])
                refine take_first (i := 10) (v := ?_) (some 167) rfl rfl (by kernel_rfl) (by kernel_rfl) (by kernel_rfl) (fun _ _ _ h => h) (Or.inl ⟨by rfl, ?_⟩) (by assumption) ?_
                rotate_left
                · intro w hSw; (try dsimp only at hSw); go_simp; (try with_reducible rfl)
                (try simp only [Act.put]); (try simp only [List.setIfInBounds_toArray]); (try simp only [List.set_cons_succ]); (try simp only [List.set_cons_zero])
                refine take_first (i := 11) (v := ?_) (some 168) rfl rfl (by kernel_rfl) (by kernel_rfl) (by kernel_rfl) (fun _ _ _ h => h) (Or.inl ⟨by rfl, ?_⟩) (by assumption) ?_
                rotate_left
                · intro w hSw; (try dsimp only at hSw); go_simp; (try with_reducible rfl)
                (try simp only [Act.put]); (try simp only [List.setIfInBounds_toArray]); (try simp only [List.set_cons_succ]); (try simp only [List.set_cons_zero])
                refine wpAnyH_ready (rs := [12]) (by kernel_rfl) (by simp) ?_
                refine AllReadyH.cons rfl (fun K hK => ?_) AllReadyH.nil
                go_simp
                (with_reducible refine (DI.out).mono ?_)
                rintro e wa ⟨rfl, hd, hg⟩
                dsimp only
                have NT2 := NT.dbTurn hat hg hd
                have SW2 := SX.out _ NT2.bel
                have y0' := NT2.bx.c 0 rfl
                rw [hA0.out, hmg] at y0'
                have z0' := rdc (own_slice NT2.r0) hA0.out (ptrs_get hat)
                obtain ⟨x0', x1', x2', x3', x4', x5'⟩ := hcell.out _ (SW2.r 2 rfl)
                refine hK.out _ _ ⟨y0', z0', SW2.c 0 3 rfl rfl, x0', x1', x2', x3', x4', x5'⟩ (fun hHeld => ?_)
                clear hK K y0 z0 b3 x0 x1 x2 x3 x4 x5 DI hd hg NT SW
                refine take_first (i := 13) (v := .tuple #[.int .i64 ir, .int .i64 0]) (some 156) rfl rfl (by kernel_rfl) (by kernel_rfl) (by kernel_rfl) (fun _ _ _ h => h) (Or.inl ⟨by rfl, fun _ _ => rfl⟩) (by assumption) ?_
                (try simp only [Act.put]); (try simp only [List.setIfInBounds_toArray]); (try simp only [List.set_cons_succ]); (try simp only [List.set_cons_zero])
                refine take_first (i := 14) (v := .int .i64 ir) (some 170) rfl rfl (by kernel_rfl) (by kernel_rfl) (by kernel_rfl) (fun _ _ _ h => h) (Or.inl ⟨by rfl, fun _ _ => rfl⟩) (by assumption) ?_
                (try simp only [Act.put]); (try simp only [List.setIfInBounds_toArray]); (try simp only [List.set_cons_succ]); (try simp only [List.set_cons_zero])
                refine take_first (i := 15) (v := .int .i64 0) (some 171) rfl rfl (by kernel_rfl) (by kernel_rfl) (by kernel_rfl) (fun _ _ _ h => h) (Or.inl ⟨by rfl, fun _ _ => rfl⟩) (by assumption) ?_
                (try simp only [Act.put]); (try simp only [List.setIfInBounds_toArray]); (try simp only [List.set_cons_succ]); (try simp only [List.set_cons_zero])
                refine take_first (i := 16) (v := .int .i64 ir) (some 14) rfl rfl (by kernel_rfl) (by kernel_rfl) (by kernel_rfl) (fun _ _ _ h => h) (Or.inl ⟨by rfl, fun _ _ => rfl⟩) (by assumption) ?_
                (try simp only [Act.put]); (try simp only [List.setIfInBounds_toArray]); (try simp only [List.set_cons_succ]); (try simp only [List.set_cons_zero])
                refine take_first (i := 17) (v := .int .i64 0) (some 15) rfl rfl (by kernel_rfl) (by kernel_rfl) (by kernel_rfl) (fun _ _ _ h => h) (Or.inl ⟨by rfl, fun _ _ => rfl⟩) (by assumption) ?_
                (try simp only [Act.put]); (try simp only [List.setIfInBounds_toArray]); (try simp only [List.set_cons_succ]); (try simp only [List.set_cons_zero])
                refine wpAnyH_done (by kernel_rfl) ?_ _
                refine NoPanic.normal ?_
                clear hHeld y0' z0' x0' x1' x2' x3' x4' x5'
                by_cases hir1 : ir = 1
                · have e1 : (ir == (1 : Int)) = true := by simp [hir1]
                  have hB3 := hB2.out.put hlsn.out hok.out hok1 hat (hir.out.trans hir1)
                  rw [← hsn.out] at hB3
                  replace SW2 := SW2.drew
                  replace NT2 := NT2.below (w' := wa.drew) (Below.refl _ _).drew
                  have SP := Fd.fspread_any wa.drew (m.gf at0) (m.bf at0) 4 (S.fl at0) (m.ff at0) (NT2.fl at0 hat) _ y (hso.out.below SW2.b) hva (-1)
                  unfold Fd.SprPost at SP
                  obtain ⟨b1', off1, hA1, z1⟩ := rd_at (own_slice NT2.r1) (by rw [ptrs_len]; omega)
                  have y1 := NT2.bx.c 1 rfl
                  rw [hA1, hmg] at y1
                  replace z1 := z1 at0 _ (ptrs_get hat)
                  have b3 := SW2.c 0 3 rfl rfl
                  obtain ⟨x0, x1, x2, x3, x4, x5⟩ := hcell.out _ (SW2.r 2 rfl)
                  replace hA1 := Lib.hid hA1
                  replace SP := Lib.hid SP
                  replace hB3 := Lib.hid hB3
                  clear hir1
                  go_upto_region 28 with fail
                  refine wp_region_noPanic ?_
                  refine wp_region_held_drew (S := fun W => W.cell? ⟨B0, 1, none⟩ = some (.slice (some ⟨b1', off1, none⟩) n m.c1) ∧ W.cell? ⟨b1', off1 + at0, none⟩ = some (.pointer (some ⟨m.gf at0, 0, none⟩)) ∧ W.cell? ⟨w.heap.size, 3, none⟩ = some (.slice (some ⟨bX, offX, none⟩) nx cx) ∧ W.cell? ⟨bX, offX + k * 6, none⟩ = some (.int .i64 y.o) ∧ W.cell? ⟨bX, offX + k * 6 + 1, none⟩ = some (.int .i64 y.s) ∧ W.cell? ⟨bX, offX + k * 6 + 2, none⟩ = some (.int .i64 y.a) ∧ W.cell? ⟨bX, offX + k * 6 + 3, none⟩ = some (.bool y.ov) ∧ W.cell? ⟨bX, offX + k * 6 + 4, none⟩ = some (.slice Ay y.adj.length cy) ∧ W.cell? ⟨bX, offX + k * 6 + 5, none⟩ = some (.slice By y.pre.length dy)) (by kernel_rfl) ⟨y1, z1, b3, x0, x1, x2, x3, x4, x5⟩ (fun hHeld => ?_)
                  refine take_first (i := 0) (v := ?_) (some 174) rfl rfl (by kernel_rfl) (by kernel_rfl) (by kernel_rfl) (fun _ _ _ h => h) (Or.inl ⟨by rfl, ?_⟩) (by assumption) ?_
                  rotate_left
                  · intro w hSw; (try dsimp only at hSw); go_simp; (try with_reducible rfl)
                  (try simp only [Act.put]); (try simp only [List.setIfInBounds_toArray]); (try simp only [List.set_cons_succ]); (try simp only [List.set_cons_zero])
                  refine take_first (i := 1) (v := ?_) (some 175) rfl rfl (by kernel_rfl) (by kernel_rfl) (by kernel_rfl) (fun _ _ _ h => h) (Or.inl ⟨by rfl, ?_⟩) (by assumption) ?_
                  rotate_left
                  · intro w hSw; (try dsimp only at hSw); go_simp; (try with_reducible rfl)
                  (try simp only [Act.put]); (try simp only [List.setIfInBounds_toArray]); (try simp only [List.set_cons_succ]); (try simp only [List.set_cons_zero])
                  refine take_first (i := 2) (v := ?_) (some 176) rfl rfl (by kernel_rfl) (by kernel_rfl) (by kernel_rfl) (fun _ _ _ h => h) (Or.inl ⟨by rfl, ?_⟩) (by assumption) ?_
                  rotate_left
                  · intro w hSw; (try dsimp only at hSw); go_simp; (try with_reducible rfl)
                  (try simp only [Act.put]); (try simp only [List.setIfInBounds_toArray]); (try simp only [List.set_cons_succ]); (try simp only [List.set_cons_zero])
                  refine take_first (i := 3) (v := ?_) (some 177) rfl rfl (by kernel_rfl) (by kernel_rfl) (by kernel_rfl) (fun _ _ _ h => h) (Or.inl ⟨by rfl, ?_⟩) (by assumption) ?_
                  rotate_left
                  · intro w hSw; (try dsimp only at hSw); go_simp; (try with_reducible rfl)
                  (try simp only [Act.put]); (try simp only [List.setIfInBounds_toArray]); (try simp only [List.set_cons_succ]); (try simp only [List.set_cons_zero])
                  refine take_first (i := 4) (v := ?_) (some 178) rfl rfl (by kernel_rfl) (by kernel_rfl) (by kernel_rfl) (fun _ _ _ h => h) (Or.inl ⟨by rfl, ?_⟩) (by assumption) ?_
                  rotate_left
                  · intro w hSw; (try dsimp only at hSw); go_simp; (try with_reducible rfl)
                  (try simp only [Act.put]); (try simp only [List.setIfInBounds_toArray]); (try simp only [List.set_cons_succ]); (try simp only [List.set_cons_zero])
                  refine take_first (i := 5) (v := ?_) (some 179) rfl rfl (by kernel_rfl) (by kernel_rfl) (by kernel_rfl) (fun _ _ _ h => h) (Or.inl ⟨by rfl, ?_⟩) (by assumption) ?_
                  rotate_left
                  · intro w hSw; (try dsimp only at hSw); go_simp; (try with_reducible rfl)
                  (try simp only [Act.put]); (try simp only [List.setIfInBounds_toArray]); (try simp only [List.set_cons_succ]); (try simp only [List.set_cons_zero])
                  refine take_first (i := 6) (v := ?_) (some 180) rfl rfl (by kernel_rfl) (by kernel_rfl) (by kernel_rfl) (fun _ _ _ h => h) (Or.inl ⟨by rfl, ?_⟩) (by assumption) ?_
                  rotate_left
                  · intro w hSw; (try dsimp only at hSw); go_simp; (try with_reducible rfl)
                  (try simp only [Act.put]); (try simp only [List.setIfInBounds_toArray]); (try simp only [List.set_cons_succ]); (try simp only [List.set_cons_zero])
                  refine take_first (i := 7) (v := ?_) (some 181) rfl rfl (by kernel_rfl) (by kernel_rfl) (by kernel_rfl) (fun _ _ _ h => h) (Or.inl ⟨by rfl, ?_⟩) (by assumption) ?_
                  rotate_left
                  · intro w hSw; (try dsimp only at hSw); go_simp; (try with_reducible rfl)
                  (try simp only [Act.put]); (try simp only [List.setIfInBounds_toArray]); (try simp only [List.set_cons_succ]); (try simp only [List.set_cons_zero])
                  refine take_first (i := 8) (v := ?_) (some 182) rfl rfl (by kernel_rfl) (by kernel_rfl) (by kernel_rfl) (fun _ _ _ h => h) (Or.inl ⟨by rfl, ?_⟩) (by assumption) ?_
                  rotate_left
                  · intro w hSw; (try dsimp only at hSw); go_simp; (try with_reducible rfl)
                  (try simp only [Act.put]); (try simp only [List.setIfInBounds_toArray]); (try simp only [List.set_cons_succ]); (try simp only [List.set_cons_zero])
                  refine take_first (i := 9) (v := ?_) (some 183) rfl rfl (by kernel_rfl) (by kernel_rfl) (by kernel_rfl) (fun _ _ _ h => h) (Or.inl ⟨by rfl, ?_⟩) (by assumption) ?_
                  rotate_left
                  · intro w hSw; (try dsimp only at hSw); go_simp; (try with_reducible rfl)
                  (try simp only [Act.put]); (try simp only [List.setIfInBounds_toArray]); (try simp only [List.set_cons_succ]); (try simp only [List.set_cons_zero])
                  refine take_first (i := 10) (v := ?_) (some 184) rfl rfl (by kernel_rfl) (by kernel_rfl) (by kernel_rfl) (fun _ _ _ h => h) (Or.inl ⟨by rfl, ?_⟩) (by assumption) ?_
                  rotate_left
                  · intro w hSw; (try dsimp only at hSw); go_simp; (try with_reducible rfl)
                  (try simp only [Act.put]); (try simp only [List.setIfInBounds_toArray]); (try simp only [List.set_cons_succ]); (try simp only [List.set_cons_zero])
                  refine take_first (i := 11) (v := ?_) (some 185) rfl rfl (by kernel_rfl) (by kernel_rfl) (by kernel_rfl) (fun _ _ _ h => h) (Or.inl ⟨by rfl, ?_⟩) (by assumption) ?_
                  rotate_left
                  · intro w hSw; (try dsimp only at hSw); go_simp; (try with_reducible rfl)
                  (try simp only [Act.put]); (try simp only [List.setIfInBounds_toArray]); (try simp only [List.set_cons_succ]); (try simp only [List.set_cons_zero])
                  refine wpAnyH_ready (rs := [12]) (by kernel_rfl) (by simp) ?_
                  refine AllReadyH.cons rfl (fun K hK => ?_) AllReadyH.nil
                  go_simp
                  (with_reducible refine (SP.out).mono ?_)
                  rintro e wb ⟨rfl, hf, hkf⟩
                  dsimp only
                  have NT3 := NT2.flTurn hat hkf hf (fun l => isS_spr l)
                  have SW3 := SX.out _ NT3.bel
                  have y1' := NT3.bx.c 1 rfl
                  rw [hA1.out, hmg] at y1'
                  have z1' := rdc (own_slice NT3.r1) hA1.out (ptrs_get hat)
                  obtain ⟨x0', x1', x2', x3', x4', x5'⟩ := hcell.out _ (SW3.r 2 rfl)
                  refine hK.out _ _ ⟨y1', z1', SW3.c 0 3 rfl rfl, x0', x1', x2', x3', x4', x5'⟩ (fun hHeld => ?_)
                  clear hK K y1 z1 b3 x0 x1 x2 x3 x4 x5 SP hf hkf NT2 SW2
                  refine wpAnyH_done (by kernel_rfl) ?_ _
                  refine NoPanic.normal ?_
                  clear hHeld y1' z1' x0' x1' x2' x3' x4' x5'
                  have E9 : BsAt B0 w1 wb n (lsN n lk) at' xs (k + 1) B0 := ⟨m, _, hmg, NT3, hB3.out, fun b hb => by
                    rw [hsn.out] at hb
                    rcases List.mem_append.1 hb with hb | hb
                    · exact hok.out b hb
                    · rw [List.mem_singleton.1 hb]; exact ⟨hok1, hat⟩⟩
                  replace E9 := Lib.hid E9
                  clear NT3 SW3
                  go_wp2_with fail
                  go_round
                  case rel => exact ⟨k + 1, by go_num, by omega, E9⟩
                  case measure => simp [intOf]; omega
                · have e1 : (ir == (1 : Int)) = false := by simp [hir1]
                  have hB3 := hB2.out.skip hok.out hok1 hat (by rw [hir.out]; exact hir1)
                  rw [← hsn.out] at hB3
                  have hin : instN (S.db at0) y = S.db at0 := by unfold instN; rw [if_neg (fun e => hir1 (hir.out.symm.trans e.2))]
                  rw [hin, upd_self] at NT2
                  have E9 : BsAt B0 w1 wa n (lsN n lk) at' xs (k + 1) B0 := ⟨m, _, hmg, NT2, hB3, fun b hb => by
                    rw [hsn.out] at hb
                    rcases List.mem_append.1 hb with hb | hb
                    · exact hok.out b hb
                    · rw [List.mem_singleton.1 hb]; exact ⟨hok1, hat⟩⟩
                  replace E9 := Lib.hid E9
                  clear NT2 SW2 hB3 hin hir1
                  go_wp2_with fail
                  go_round
                  case rel => exact ⟨k + 1, by go_num, by omega, E9⟩
                  case measure => simp [intOf]; omega
            · obtain rfl : nx = k := by omega
              obtain ⟨m, S, hmg, NT, hB2, hok⟩ := E.out
              have hlen : (bsN n at' xs).length = nx := by unfold bsN; rw [List.length_mapIdx, hnx.out]
              rw [List.take_of_length_le (by rw [hlen]; exact Nat.le_refl _)] at hB2 hok
              have hfin : BuildPost w n lk at' xs (.returned (.tuple #[.pointer (some ⟨B0, 0, none⟩), .bool true])) wr := .inr ⟨m, S, by rw [hmg], NT.rebase (by omega) (hreb.out _ NT.bel), hB2, hok, by rw [hlk.out]; exact hnl8, by rw [hnx.out]; exact hnx6⟩
              replace hfin := Lib.hid hfin
              clear E NT hB2 SW
              go_wp2_with fail
              go_ret2
              exact hfin.out

end Go.Proofs.Ytnfldccaeibcpaa

namespace Go.Proofs.Ytnfldccaeibcpaa
set_option linter.unusedVariables false
open Go.RowKit Go.Sort Go.ChangeShapes Go.WideShapes Go.ChangeAt

theorem opens_struct4 {P : Program} {w : World} {t : TypeId} {α0 α1 α2 α3 : Type} {R0 : α0 → List Value → Prop} {R1 : α1 → List Value → Prop} {R2 : α2 → List Value → Prop} {R3 : α3 → List Value → Prop} {f0 f1 f2 f3 : Field}
    (ht : P.underlying t = some (.struct #[f0, f1, f2, f3])) (o0 : f0.offset = 0) (o1 : f1.offset = 1) (o2 : f2.offset = 2) (o3 : f3.offset = 3)
    (c0 : P.cellsOf f0.type = 1) (c1 : P.cellsOf f1.type = 1) (c2 : P.cellsOf f2.type = 1) (c3 : P.cellsOf f3.type = 1) (hC : P.cellsOf t = 4)
    (h0 : Opens P w f0.type R0) (h1 : Opens P w f1.type R1) (h2 : Opens P w f2.type R2) (h3 : Opens P w f3.type R3) :
    Opens P w t (fun (x : α0 × α1 × α2 × α3) cs => ∃ v0 v1 v2 v3, cs = [v0, v1, v2, v3] ∧ R0 x.1 [v0] ∧ R1 x.2.1 [v1] ∧ R2 x.2.2.1 [v2] ∧ R3 x.2.2.2 [v3]) := by
  intro H enc base spare held fuel cs x hx
  obtain ⟨xs, n, _, _, hcl, hl, hi⟩ := DataW.trod_struct ht hx
  simp at hl
  have e0 := hi 0 f0 rfl
  have e1 := hi 1 f1 rfl
  have e2 := hi 2 f2 rfl
  have e3 := hi 3 f3 rfl
  rw [List.getElem?_eq_getElem (by omega)] at e0 e1 e2 e3
  rw [hC] at hcl
  match cs, hcl with
  | [v0, v1, v2, v3], _ =>
    rw [o0, c0] at e0
    rw [o1, c1] at e1
    rw [o2, c2] at e2
    rw [o3, c3] at e3
    obtain ⟨p0, r0, _⟩ := h0 e0
    obtain ⟨p1, r1, _⟩ := h1 e1
    obtain ⟨p2, r2, _⟩ := h2 e2
    obtain ⟨p3, r3, _⟩ := h3 e3
    exact ⟨(p0, p1, p2, p3), ⟨v0, v1, v2, v3, rfl, r0, r1, r2, r3⟩, by simp [hC]⟩
theorem rep_u82 {xs : List (UInt8 × UInt8)} : ∀ {vs : List Value}, Rep (IsTwo IsU8 IsU8) 2 xs vs → vs = l2V xs := by
  induction xs with
  | nil => intro vs h; exact h
  | cons x t ih =>
    rintro vs ⟨c, q, rfl, ⟨c1, c2, rfl, h1, h2⟩, _, hr⟩
    rw [ih hr, h1, h2]
    rfl
section
variable {H : Type} {enc : TypeId × Value → H} {w : World} {base : Nat} {spare : Nat → Bool} {held : Bool} {r : Reach} {b0 : Nat} {v : Value} {d : DataW H} {ps : List MemPlace}
set_option maxRecDepth 100000 in
theorem arg_acts (hv : Value.okWide Try.prog w r b0 27 v) (h : DataW.Trod enc Try.prog w base spare held 27 v d ps) :
    ∃ (A : Option Addr) (n c : Nat) (l : List (UInt8 × UInt8)), v = .slice A n c ∧ Rd w A (l2V l) ∧ l.length = n ∧ n ≤ maxLen := by
  have O8 : Opens Try.prog w 5 IsU8 := opens_u8 Try.underlying5 (by kernel_rfl)
  have OA : Opens Try.prog w 33 (IsTwo IsU8 IsU8) := opens_struct2 Try.underlying33 rfl (by kernel_rfl) (by kernel_rfl) O8 O8
  obtain ⟨A, n, c, x, rfl, A', c', vs, h1, h2, h3, h4, h5⟩ := arg_slice Try.underlying27 (opens_slice Try.underlying27 (by kernel_rfl) OA) hv h
  simp only [List.cons.injEq, Value.slice.injEq, and_true] at h1
  obtain ⟨rfl, rfl, rfl⟩ := h1
  rw [show Try.prog.cellsOf 33 = 2 from by kernel_rfl] at h4
  rw [rep_u82 h4] at h5
  exact ⟨A, _, c, x, rfl, h5, rfl, Nat.le_trans h2 h3⟩
set_option maxRecDepth 100000 in
theorem arg_net (hv : Value.okWide Try.prog w r b0 26 v) (h : DataW.Trod enc Try.prog w base spare held 26 v d ps) :
    ∃ (z : Int) (AL : Option Addr) (nl cl : Nat) (lk : List (UInt8 × UInt8)) (AA : Option Addr) (na ca : Nat) (at' : List UInt8) (AX : Option Addr) (nx cx : Nat) (xs : List Lx), v = .agg #[.int .u8 z, .slice AL nl cl, .slice AA na ca, .slice AX nx cx] ∧
      (0 ≤ z ∧ z < 256) ∧ Rd w AL (l2V lk) ∧ lk.length = nl ∧ nl ≤ maxLen ∧ Bs w AA at' ∧ at'.length = na ∧ na ≤ maxLen ∧ Rd w AX (lxV xs) ∧ xs.length = nx ∧ nx ≤ maxLen ∧ ∀ s ∈ xs, LxOk w s := by
  have O8 : Opens Try.prog w 5 IsU8 := opens_u8 Try.underlying5 (by kernel_rfl)
  have O2 : Opens Try.prog w 65 (IsTwo IsU8 IsU8) := opens_arr2 Try.underlying65 (by kernel_rfl) O8
  have O : Opens Try.prog w 26 _ := opens_struct4 (w := w) Try.underlying26 rfl rfl rfl rfl (by kernel_rfl) (by kernel_rfl) (by kernel_rfl) (by kernel_rfl) (by kernel_rfl) O8 (opens_slice Try.underlying22 (by kernel_rfl) O2) (opens_slice Try.underlying23 (by kernel_rfl) O8) (opens_slice Try.underlying24 (by kernel_rfl) (opens_la w))
  obtain ⟨cs, ⟨p0, p1, p2, p3⟩, rfl, v0, v1, v2, v3, rfl, e0, ⟨A1, c1, vs1, e1, m1, k1, r1, d1⟩, ⟨A2, c2, vs2, e2, m2, k2, r2, d2⟩, ⟨A3, c3, vs3, e3, m3, k3, r3, d3⟩⟩ := arg_struct Try.underlying26 O hv h
  rw [show Try.prog.cellsOf 65 = 2 from by kernel_rfl] at r1
  rw [show Try.prog.cellsOf 5 = 1 from by kernel_rfl] at r2
  rw [show Try.prog.cellsOf 45 = 6 from by kernel_rfl] at r3
  rw [rep_u82 r1] at d1
  rw [rep_u8 r2] at d2
  obtain ⟨l, rfl, hl, hok⟩ := rep_las r3
  unfold IsU8 u8v at e0
  simp only [List.cons.injEq, and_true] at e0 e1 e2 e3
  subst e0 e1 e2 e3
  have h8 : p0.toNat < 256 := UInt8.toNat_lt _
  exact ⟨p0.toNat, A1, _, c1, p1, A2, _, c2, p2, A3, _, c3, l, rfl, ⟨by omega, by omega⟩, d1, rfl, Nat.le_trans m1 k1, d2, rfl, Nat.le_trans m2 k2, d3, hl, Nat.le_trans m3 k3, hok⟩
end

end Go.Proofs.Ytnfldccaeibcpaa

namespace Go.Proofs.Ytnfldccaeibcpaa
set_option linter.unusedVariables false
open Go.RowKit Go.Maps

/-- While time passes at the nodes: at k of them it has. -/
def TcAt (B0 : Nat) (w0 w : World) (m : Nm) (n : Nat) (ls : Lks) (S : Ns) (Aw : Option Addr) (cw : Nat) (ms : List Mx) (kk : Int) (k : Nat) : Prop :=
  ∃ S1, NtAt B0 w0 w m n ls S1 Aw cw ms ∧ S1.db = S.db ∧ S1.way = S.way ∧ ∀ j, j < n → S1.fl j = if j < k then Fd.tikN kk (S.fl j) else S.fl j
section
variable {B0 : Nat} {w0 w w' : World} {m : Nm} {n : Nat} {ls : Lks} {S : Ns} {Aw : Option Addr} {cw : Nat} {ms : List Mx} {kk : Int} {k : Nat}
theorem TcAt.start (h : NtAt B0 w0 w m n ls S Aw cw ms) (kk : Int) : TcAt B0 w0 w m n ls S Aw cw ms kk 0 := ⟨S, h, rfl, rfl, fun j _ => by simp⟩
theorem TcAt.at (h : TcAt B0 w0 w m n ls S Aw cw ms kk k) (hk : k < n) : ∃ S1, NtAt B0 w0 w m n ls S1 Aw cw ms ∧ S1.fl k = S.fl k ∧
    ∀ w', Fd.Kf (Fd.FS (S.fl k) (m.ff k)) w w' → Fd.FlAt w' (m.gf k) (m.bf k) 4 (Fd.tikN kk (S.fl k)) (m.ff k) → TcAt B0 w0 w' m n ls S Aw cw ms kk (k + 1) := by
  obtain ⟨S1, h1, h2, h3, h4⟩ := h
  have e : S1.fl k = S.fl k := by rw [h4 k hk, if_neg (by omega)]
  refine ⟨S1, h1, e, fun w' hkf hf => ⟨_, h1.flTurn hk (by rw [e]; exact hkf) hf (fun l => by rw [isS_tik, e]), h2, h3, fun j hj => ?_⟩⟩
  simp only
  by_cases ej : j = k
  · subst ej; rw [upd_same, if_pos (by omega)]
  · rw [upd_ne ej, h4 j hj]
    by_cases e2 : j < k
    · rw [if_pos e2, if_pos (by omega)]
    · rw [if_neg e2, if_neg (by omega)]
theorem TcAt.below (h : TcAt B0 w0 w m n ls S Aw cw ms kk k) (hb : Below w.heap.size w w') : TcAt B0 w0 w' m n ls S Aw cw ms kk k := by
  obtain ⟨S1, h1, h2⟩ := h
  exact ⟨S1, h1.below hb, h2⟩
theorem TcAt.nt (h : TcAt B0 w0 w m n ls S Aw cw ms kk k) : ∃ S1, NtAt B0 w0 w m n ls S1 Aw cw ms := ⟨h.choose, h.choose_spec.1⟩
theorem TcAt.fin (h : TcAt B0 w0 w m n ls S Aw cw ms kk n) : NtAt B0 w0 w m n ls (tikS kk S) Aw cw ms := by
  obtain ⟨S1, h1, h2, h3, h4⟩ := h
  exact h1.ext (fun i hi => by rw [h2]; rfl) (fun i hi => by rw [h4 i hi, if_pos hi]; rfl) h3.symm
theorem PlIs.nt {S1 : Ns} (h : PlIs n ls S S1 n n []) (h2 : NtAt B0 w0 w m n ls S1 Aw cw ms) : NtAt B0 w0 w m n ls (polS n ls S) Aw cw ms := by
  obtain ⟨e1, e2, e3⟩ := h.pol
  exact h2.ext e1 e2 e3
/-- Within the script. -/
structure CvAt (B0 : Nat) (w0 w : World) (m : Nm) (n : Nat) (ls : Lks) (bs : List (La × Nat)) (S : Ns) (Aw : Option Addr) (cw : Nat) (ms : List Mx) (T D : Nat) : Prop where
  nt : NtAt B0 w0 w m n ls S Aw cw ms
  iv : Inv n ls (Gd ls bs) bs S
  tal : Tal n ls bs S T D
/-- What is fixed. -/
structure Fxd (n : Nat) (ls : Lks) (bs : List (La × Nat)) : Prop where
  ok : ∀ b ∈ bs, LaOk b.1 ∧ b.2 < n
  hl : ∀ l i, Inc ls l i → i < n
  lp : ∀ p ∈ ls, p.1 < n ∧ p.2 < n
  L : ls.length ≤ 8
  b : bs.length ≤ 6
  n2 : 2 ≤ n ∧ n ≤ 5
theorem Fxd.G {bs : List (La × Nat)} (h : Fxd n ls bs) : GOk ls (Gd ls bs) := gd_ok fun b hb => (h.ok b hb).1
theorem Fxd.Gm {bs : List (La × Nat)} (h : Fxd n ls bs) : ∀ a i, Gd ls bs a i → ∃ b ∈ bs, b.1 = a := fun a i h => by
  obtain ⟨b, hb, e, _⟩ := h
  exact ⟨b, hb, e⟩
theorem Fxd.bv {bs : List (La × Nat)} (h : Fxd n ls bs) : ∀ b ∈ bs, LaValid b.1 ∧ b.2 < n := fun b hb => ⟨(h.ok b hb).1.1, (h.ok b hb).2⟩
theorem CvAt.len {bs : List (La × Nat)} {T D : Nat} (h : CvAt B0 w0 w m n ls bs S Aw cw ms T D) (F : Fxd n ls bs) (h60 : T + D ≤ 60) : ms.length ≤ 5000 ∧ S.way.length = ms.length := by
  have h1 := h.tal.fin h.iv F.G F.Gm F.L F.b h60
  have h2 := len_mu S.way
  have h3 : S.way.length = ms.length := by rw [← h.nt.mp, List.length_map]
  omega
end

theorem act_cells {w : World} {b off : Nat} {l : List (UInt8 × UInt8)} (h : Rd w (some ⟨b, off, none⟩) (l2V l)) (i : Nat) (hi : i < l.length) :
    w.cell? ⟨b, off + i * 2, none⟩ = some (.int .u8 (l[i].1.toNat : Int)) ∧ w.cell? ⟨b, off + i * 2 + 1, none⟩ = some (.int .u8 (l[i].2.toNat : Int)) := by
  obtain ⟨g0, g1⟩ := l2V_get l i hi
  exact ⟨rdc h rfl g0, by rw [Nat.add_assoc]; exact rdc h rfl g1⟩

set_option maxRecDepth 100000 in
set_option maxHeartbeats 12800000 in
theorem converges_law (w : World) (z : Int) (hz : 0 ≤ z ∧ z < 256) (AL : Option Addr) (nl cl : Nat) (lk : List (UInt8 × UInt8)) (hAL : Rd w AL (l2V lk)) (hlk : lk.length = nl) (hnl : nl ≤ maxLen)
    (AA : Option Addr) (na ca : Nat) (at' : List UInt8) (hAA : Bs w AA at') (hna : at'.length = na) (hnam : na ≤ maxLen) (AX : Option Addr) (nx cx : Nat) (xs : List Lx) (hAX : Rd w AX (lxV xs)) (hnx : xs.length = nx) (hnxm : nx ≤ maxLen) (hxo : ∀ s ∈ xs, LxOk w s)
    (AS : Option Addr) (ns cs : Nat) (sc : List (UInt8 × UInt8)) (hAS : Rd w AS (l2V sc)) (hns : sc.length = ns) (hnsm : ns ≤ maxLen) :
    Calls Try.prog 3 #[.agg #[.int .u8 z, .slice AL nl cl, .slice AA na ca, .slice AX nx cx], .slice AS ns cs] w fun e w' => e = .returned (.bool true) ∧ Below w.heap.size w w' := by
  obtain ⟨hz0, hz1⟩ := hz
  obtain ⟨n, hq⟩ : ∃ n : Nat, 2 + z % 4 = (n : Int) := ⟨(2 + z % 4).toNat, by omega⟩
  have S1 := ((((St.start w).read hAX).read hAA).read hAL |>.read hAS).new' #[.int .u8 z, .slice AL nl cl, .slice AA na ca, .slice AX nx cx] 26 w.heap.size _ rfl rfl
  have hn2 : 2 ≤ n ∧ n ≤ 5 := by omega
  have BU := fun W (hb : Below w.heap.size w W) => build_any W z hz0 hz1 n hq AL nl cl lk (hAL.below hb) hlk hnl AA na ca at' (hAA.below hb) hna hnam AX nx cx xs (hAX.below hb) hnx hnxm (fun s hs => by have := hxo s hs; unfold LxOk at this ⊢; exact this.below hb)
  replace BU := Lib.hid BU
  replace hlk := Lib.hid hlk
  have hnx' := Lib.hid hnx
  clear hnx
  replace hna := Lib.hid hna
  replace hns := Lib.hid hns
  replace hxo := Lib.hid hxo
  unfold maxLen at hnl hnam hnxm hnsm
  clear hAL hAA hAX hAS hq
  go_enter Try.func3, Try.ntmps3
  go_upto_region 1 with fail
  generalize World.alloc w _ = w1 at *
  go_wp2_with fail
  (with_reducible refine (Fd.awake35_any _).mono ?_)
  rintro e w2 ⟨rfl, hb⟩
  replace S1 := S1.call hb
  clear hb
  by_cases hn60 : ns ≤ 60
  rotate_left
  · have e60 : decide ((60 : Int) < (ns : Int)) = true := by simp; omega
    have hb9 := S1.b
    clear S1
    go_wp2_with fail
    go_ret
    exact ⟨rfl, hb9⟩
  have e60 : decide ((60 : Int) < (ns : Int)) = false := by simp; omega
  have a0 := S1.c 0 0 rfl rfl
  have a1 := S1.c 0 1 rfl rfl
  have a2 := S1.c 0 2 rfl rfl
  have a3 := S1.c 0 3 rfl rfl
  go_wp2_with fail
  (with_reducible refine (BU.out _ S1.b).mono ?_)
  rintro e w3 hp
  rcases hp with ⟨rfl, hb⟩ | ⟨m, S, rfl, NT, hB2, hok, hl8, hx6⟩
  · have hb9 := S1.b.trans (hb.mono S1.b.size)
    clear a0 a1 a2 a3 S1 BU
    go_wp2_with fail
    go_ret
    exact ⟨rfl, hb9⟩
  obtain ⟨ls, hlse⟩ : ∃ ls, lsN n lk = ls := ⟨_, rfl⟩
  obtain ⟨bs, hbse⟩ : ∃ bs, bsN n at' xs = bs := ⟨_, rfl⟩
  rw [hlse] at NT hB2
  rw [hbse] at hB2 hok
  have hLl : ls.length ≤ 8 := by rw [← hlse]; unfold lsN; rw [List.length_map]; exact hl8
  have hlp : ∀ p ∈ ls, p.1 < n ∧ p.2 < n := fun p hp => by
    rw [← hlse] at hp
    obtain ⟨q, _, rfl⟩ := List.mem_map.1 hp
    exact ⟨Nat.mod_lt _ (by omega), Nat.mod_lt _ (by omega)⟩
  have F : Fxd n ls bs := ⟨hok, fun l i h => by
    obtain ⟨p, hpl, _, h2⟩ := h
    obtain ⟨q1, q2⟩ := hlp p (List.mem_of_getElem? hpl)
    rcases h2 with rfl | rfl
    · exact q1
    · exact q2, hlp, hLl, by rw [← hbse]; unfold bsN; rw [List.length_mapIdx]; exact hx6, hn2⟩
  have C0 : CvAt w2.heap.size w2 w3 m n ls bs S none 0 [] 0 0 := ⟨NT, hB2.inv, hB2.tal F.L F.b⟩
  have hw2 := S1.b
  obtain ⟨B0, hB0⟩ : ∃ B0, w2.heap.size = B0 := ⟨_, rfl⟩
  rw [hB0] at C0
  have hlt1 : w.heap.size < B0 := by have := S1.lt 0 rfl (by simp); omega
  have SX : Hid (∀ W, Below B0 w2 W → St w W [(w.heap.size, [.int .u8 z, .slice AL nl cl, .slice AA na ca, .slice AX nx cx])] [(AS, l2V sc), (AL, l2V lk), (AA, at'.map u8v), (AX, lxV xs)]) := fun W hb => S1.call (by rw [hB0]; exact hb)
  replace C0 := Lib.hid C0
  replace F := Lib.hid F
  replace hbse := Lib.hid hbse
  clear NT hB2 hok hl8 hlse hLl hlp BU S1 a0 a1 a2 a3 hB0 hw2
  have hn5 := hn2.2
  have ds : ∀ x : Nat, x = 0 ∨ 0 < x := fun x => by omega
  replace ds := Lib.hid ds
  go_wp2_with fail
  go_loopw [7] (fun v7 wr => ∃ (i T D : Nat) (S : Ns) (Aw : Option Addr) (cw : Nat) (ms : List Mx), v7 = .int .i64 i ∧ i ≤ ns ∧ T + D ≤ i ∧ Hid (CvAt B0 w2 wr m n ls bs S Aw cw ms T D)) (fun v7 _ => ns - (intOf v7).toNat)
  case atStart => exact ⟨0, 0, 0, S, none, 0, [], rfl, by omega, by omega, C0⟩
  case round =>
    clear C0
    obtain ⟨i, T, D, S, Aw, cw, ms, rfl, hi, hTD, CV⟩ := hrel
    have SW := SX.out _ CV.out.nt.bel
    obtain ⟨hms5, hway⟩ := CV.out.len F.out (by omega)
    by_cases hin : i < ns
    · have hkl : i < sc.length := by rw [hns.out]; exact hin
      obtain ⟨bS, offS, rfl, hcS⟩ := rd_at (SW.r 0 rfl) (by rw [l2V_len]; omega)
      have hg := fun W (h : Rd W (some ⟨bS, offS, none⟩) (l2V sc)) => act_cells h i hkl
      obtain ⟨kd, hkd⟩ : ∃ kd, sc[i].1.toNat = kd := ⟨_, rfl⟩
      obtain ⟨pk, hpk⟩ : ∃ pk, sc[i].2.toNat = pk := ⟨_, rfl⟩
      have hkd8 : kd < 256 := by rw [← hkd]; exact UInt8.toNat_lt _
      have hpk8 : pk < 256 := by rw [← hpk]; exact UInt8.toNat_lt _
      rw [hkd, hpk] at hg
      replace hg := Lib.hid hg
      obtain ⟨y0, y1⟩ := hg.out _ (SW.r 0 rfl)
      have x3 := CV.out.nt.bx.c 3 rfl
      clear hcS hkd hpk hkl
      replace hway := Lib.hid hway
      obtain ⟨bt, hbt⟩ : ∃ bt : Bool, (decide (kd % 4 = 3) || decide (ms.length = 0)) = bt := ⟨_, rfl⟩
      replace hbt := Lib.hid hbt
      go_upto_region 11 with fail
      go_cut [47] (fun v47 wx => v47 = .bool bt ∧ wr = wx)
      case first =>
        by_cases h3 : kd % 4 = 3
        · have e3 : (kd : Int) % 4 = 3 := by omega
          have eb : bt = true := by rw [← hbt.out]; simp [h3]
          go_wp2_with fail
          go_meet
          exact ⟨by rw [eb], rfl⟩
        · have e3 : ¬ (kd : Int) % 4 = 3 := by omega
          by_cases h0 : ms.length = 0
          · have e0 : ((ms.length : Int) == 0) = true := by simp [h0]
            have eb : bt = true := by rw [← hbt.out]; simp [h0]
            go_wp2_with fail
            go_meet
            exact ⟨by rw [eb], rfl⟩
          · have e0 : ((ms.length : Int) == 0) = false := by simp; exact fun e => h0 (by rw [e]; rfl)
            have eb : bt = false := by rw [← hbt.out]; simp [h0, h3]
            go_wp2_with fail
            go_meet
            exact ⟨by rw [eb]; simp [e3], rfl⟩
      case rest =>
        obtain ⟨rfl, rfl⟩ := hcut
        cases bt with
        | true =>
          clear hbt
          obtain ⟨kk, hkk⟩ : ∃ kk : Int, 1 + (pk : Int) % 3 = kk := ⟨_, rfl⟩
          have hkk1 : 1 ≤ kk ∧ kk ≤ 3 := by omega
          have hew : Hid (IntKind.i64.wrap (1 + (IntKind.i64.wrap (pk : Int)).tmod 3) = kk) := by
            rw [IntWalk.i64_in (pk : Int) (by omega), Int.tmod_eq_emod_of_nonneg (by omega), IntWalk.i64_in _ (by omega)]; exact hkk
          have TK0 : Hid (TcAt B0 w2 wr m n ls S Aw cw ms kk 0) := TcAt.start CV.out.nt kk
          have hfn := fun j (hj : j < n) => CV.out.iv.fnok F.out.G hj
          have hend : Hid (∀ W, TcAt B0 w2 W m n ls S Aw cw ms kk n → NtAt B0 w2 W m n ls (tikS kk S) Aw cw ms) := fun W h => h.fin
          have hI := CV.out.iv.tik F.out.G F.out.hl (k := kk) (by omega)
          have hpoll : Hid (∀ W, NtAt B0 w2 W m n ls (tikS kk S) Aw cw ms → Calls Try.prog 7 #[.pointer (some ⟨m.g, 0, none⟩)] W (PollPost B0 w2 m n ls (tikS kk S))) := fun W h => poll_any h hI F.out.G F.out.hl (by omega) F.out.L (by have := hway.out; show S.way.length ≤ 10000; omega)
          have hnext : Hid (∀ W S1 Aw1 cw1 ms1, PlIs n ls (tikS kk S) S1 n n [] → NtAt B0 w2 W m n ls S1 Aw1 cw1 ms1 → CvAt B0 w2 W m n ls bs (tps n ls kk S) Aw1 cw1 ms1 (T + 1) D) := fun W S1 Aw1 cw1 ms1 h1 h2 => ⟨h1.nt h2, CV.out.iv.tps F.out.G F.out.hl hkk1.1, CV.out.tal.tps CV.out.iv F.out.G F.out.Gm F.out.L F.out.b hkk1.1 hkk1.2⟩
          replace hfn := Lib.hid hfn
          replace hkk := Lib.hid hkk
          clear y0 y1 x3 SW CV hI hway
          go_wp2_with fail
          go_loopw [8] (fun v8 wr => ∃ (k : Nat), v8 = .int .i64 k ∧ k ≤ n ∧ Hid (TcAt B0 w2 wr m n ls S Aw cw ms kk k)) (fun v8 _ => n - (intOf v8).toNat)
          case atStart => exact ⟨0, rfl, by omega, TK0⟩
          case round =>
            clear TK0
            obtain ⟨k, rfl, hk, TK⟩ := hrel
            by_cases hkn : k < n
            · obtain ⟨S1, NT, hS1, hstep⟩ := (TK.out.below (w' := wr.drew) (Below.refl _ _).drew).at hkn
              have SW := SX.out _ NT.bel
              have TI := Fd.ftick_any wr.drew (m.gf k) (m.bf k) 4 (S.fl k) (m.ff k) (by have := NT.fl k hkn; rwa [hS1] at this) (hfn.out k hkn) kk (by omega)
              have TI2 : Calls Try.prog 6 #[.pointer (some ⟨m.gf k, 0, none⟩), .int .i64 (IntKind.i64.wrap (1 + (IntKind.i64.wrap (pk : Int)).tmod 3))] wr.drew (fun e w' => e = .returned (.tuple #[]) ∧ Fd.FlAt w' (m.gf k) (m.bf k) 4 (Fd.tikN kk (S.fl k)) (m.ff k) ∧ Fd.Kf (Fd.FS (S.fl k) (m.ff k)) wr.drew w') := by rw [hew.out]; exact TI
              obtain ⟨b1', off1, hA1, z1⟩ := rd_at (own_slice NT.r1) (by rw [ptrs_len]; omega)
              have x1 := NT.bx.c 1 rfl
              rw [hA1] at x1
              replace z1 := z1 k _ (ptrs_get hkn)
              obtain ⟨y0, y1⟩ := hg.out _ (SW.r 0 rfl)
              replace x1 : wr.cell? ⟨m.g, 1, none⟩ = some (.slice (some ⟨b1', off1, none⟩) n m.c1) := x1
              replace TI2 := Lib.hid TI2
              replace hA1 := Lib.hid hA1
              replace hstep := Lib.hid hstep
              clear TI TK y0 SW NT hS1
              go_upto_region 15 with fail
              refine wp_region_noPanic ?_
              refine wp_region_held_drew (S := fun W => W.cell? ⟨m.g, 1, none⟩ = some (.slice (some ⟨b1', off1, none⟩) n m.c1) ∧ W.cell? ⟨b1', off1 + k, none⟩ = some (.pointer (some ⟨m.gf k, 0, none⟩)) ∧ W.cell? ⟨bS, offS + i * 2 + 1, none⟩ = some (.int .u8 (pk : Int))) (by kernel_rfl) ⟨x1, z1, y1⟩ (fun hHeld => ?_)
              refine take_first (i := 0) (v := ?_) (some 57) rfl rfl (by kernel_rfl) (by kernel_rfl) (by kernel_rfl) (fun _ _ _ h => h) (Or.inl ⟨by rfl, ?_⟩) (by assumption) ?_
              rotate_left
              · intro w hSw; (try dsimp only at hSw); go_simp; (try with_reducible rfl)
              (try simp only [Act.put]); (try simp only [List.setIfInBounds_toArray]); (try simp only [List.set_cons_succ]); (try simp only [List.set_cons_zero])
              refine take_first (i := 1) (v := ?_) (some 58) rfl rfl (by kernel_rfl) (by kernel_rfl) (by kernel_rfl) (fun _ _ _ h => h) (Or.inl ⟨by rfl, ?_⟩) (by assumption) ?_
              rotate_left
              · intro w hSw; (try dsimp only at hSw); go_simp; (try with_reducible rfl)
              (try simp only [Act.put]); (try simp only [List.setIfInBounds_toArray]); (try simp only [List.set_cons_succ]); (try simp only [List.set_cons_zero])
              refine take_first (i := 2) (v := ?_) (some 59) rfl rfl (by kernel_rfl) (by kernel_rfl) (by kernel_rfl) (fun _ _ _ h => h) (Or.inl ⟨by rfl, ?_⟩) (by assumption) ?_
              rotate_left
              · intro w hSw; (try dsimp only at hSw); go_simp; (try with_reducible rfl)
              (try simp only [Act.put]); (try simp only [List.setIfInBounds_toArray]); (try simp only [List.set_cons_succ]); (try simp only [List.set_cons_zero])
              refine take_first (i := 3) (v := ?_) (some 60) rfl rfl (by kernel_rfl) (by kernel_rfl) (by kernel_rfl) (fun _ _ _ h => h) (Or.inl ⟨by rfl, ?_⟩) (by assumption) ?_
              rotate_left
              · intro w hSw; (try dsimp only at hSw); go_simp; (try with_reducible rfl)
              (try simp only [Act.put]); (try simp only [List.setIfInBounds_toArray]); (try simp only [List.set_cons_succ]); (try simp only [List.set_cons_zero])
              refine take_first (i := 4) (v := ?_) (some 61) rfl rfl (by kernel_rfl) (by kernel_rfl) (by kernel_rfl) (fun _ _ _ h => h) (Or.inl ⟨by rfl, ?_⟩) (by assumption) ?_
              rotate_left
              · intro w hSw; (try dsimp only at hSw); go_simp; (try with_reducible rfl)
              (try simp only [Act.put]); (try simp only [List.setIfInBounds_toArray]); (try simp only [List.set_cons_succ]); (try simp only [List.set_cons_zero])
              refine take_first (i := 5) (v := ?_) (some 62) rfl rfl (by kernel_rfl) (by kernel_rfl) (by kernel_rfl) (fun _ _ _ h => h) (Or.inl ⟨by rfl, ?_⟩) (by assumption) ?_
              rotate_left
              · intro w hSw; (try dsimp only at hSw); go_simp; (try with_reducible rfl)
              (try simp only [Act.put]); (try simp only [List.setIfInBounds_toArray]); (try simp only [List.set_cons_succ]); (try simp only [List.set_cons_zero])
              refine take_first (i := 6) (v := ?_) (some 63) rfl rfl (by kernel_rfl) (by kernel_rfl) (by kernel_rfl) (fun _ _ _ h => h) (Or.inl ⟨by rfl, ?_⟩) (by assumption) ?_
              rotate_left
              · intro w hSw; (try dsimp only at hSw); go_simp; (try with_reducible rfl)
              (try simp only [Act.put]); (try simp only [List.setIfInBounds_toArray]); (try simp only [List.set_cons_succ]); (try simp only [List.set_cons_zero])
              refine take_first (i := 7) (v := ?_) (some 64) rfl rfl (by kernel_rfl) (by kernel_rfl) (by kernel_rfl) (fun _ _ _ h => h) (Or.inl ⟨by rfl, ?_⟩) (by assumption) ?_
              rotate_left
              · intro w hSw; (try dsimp only at hSw); go_simp; (try with_reducible rfl)
              (try simp only [Act.put]); (try simp only [List.setIfInBounds_toArray]); (try simp only [List.set_cons_succ]); (try simp only [List.set_cons_zero])
              refine take_first (i := 8) (v := ?_) (some 65) rfl rfl (by kernel_rfl) (by kernel_rfl) (by kernel_rfl) (fun _ _ _ h => h) (Or.inl ⟨by rfl, ?_⟩) (by assumption) ?_
              rotate_left
              · intro w hSw; (try dsimp only at hSw); go_simp; (try with_reducible rfl)
              (try simp only [Act.put]); (try simp only [List.setIfInBounds_toArray]); (try simp only [List.set_cons_succ]); (try simp only [List.set_cons_zero])
              refine take_first (i := 9) (v := ?_) (some 66) rfl rfl (by kernel_rfl) (by kernel_rfl) (by kernel_rfl) (fun _ _ _ h => h) (Or.inl ⟨by rfl, ?_⟩) (by assumption) ?_
              rotate_left
              · intro w hSw; (try dsimp only at hSw); go_simp; (try with_reducible rfl)
              (try simp only [Act.put]); (try simp only [List.setIfInBounds_toArray]); (try simp only [List.set_cons_succ]); (try simp only [List.set_cons_zero])
              refine take_first (i := 10) (v := ?_) (some 67) rfl rfl (by kernel_rfl) (by kernel_rfl) (by kernel_rfl) (fun _ _ _ h => h) (Or.inl ⟨by rfl, ?_⟩) (by assumption) ?_
              rotate_left
              · intro w hSw; (try dsimp only at hSw); go_simp; (try with_reducible rfl)
              (try simp only [Act.put]); (try simp only [List.setIfInBounds_toArray]); (try simp only [List.set_cons_succ]); (try simp only [List.set_cons_zero])
              refine take_first (i := 11) (v := ?_) (some 68) rfl rfl (by kernel_rfl) (by kernel_rfl) (by kernel_rfl) (fun _ _ _ h => h) (Or.inl ⟨by rfl, ?_⟩) (by assumption) ?_
              rotate_left
              · intro w hSw; (try dsimp only at hSw); go_simp; (try with_reducible rfl)
              (try simp only [Act.put]); (try simp only [List.setIfInBounds_toArray]); (try simp only [List.set_cons_succ]); (try simp only [List.set_cons_zero])
              refine take_first (i := 12) (v := ?_) (some 69) rfl rfl (by kernel_rfl) (by kernel_rfl) (by kernel_rfl) (fun _ _ _ h => h) (Or.inl ⟨by rfl, ?_⟩) (by assumption) ?_
              rotate_left
              · intro w hSw; (try dsimp only at hSw); go_simp; (try with_reducible rfl)
              (try simp only [Act.put]); (try simp only [List.setIfInBounds_toArray]); (try simp only [List.set_cons_succ]); (try simp only [List.set_cons_zero])
              refine take_first (i := 13) (v := ?_) (some 70) rfl rfl (by kernel_rfl) (by kernel_rfl) (by kernel_rfl) (fun _ _ _ h => h) (Or.inl ⟨by rfl, ?_⟩) (by assumption) ?_
              rotate_left
              · intro w hSw; (try dsimp only at hSw); go_simp; (try with_reducible rfl)
              (try simp only [Act.put]); (try simp only [List.setIfInBounds_toArray]); (try simp only [List.set_cons_succ]); (try simp only [List.set_cons_zero])
              refine take_first (i := 14) (v := ?_) (some 71) rfl rfl (by kernel_rfl) (by kernel_rfl) (by kernel_rfl) (fun _ _ _ h => h) (Or.inl ⟨by rfl, ?_⟩) (by assumption) ?_
              rotate_left
              · intro w hSw; (try dsimp only at hSw); go_simp; (try with_reducible rfl)
              (try simp only [Act.put]); (try simp only [List.setIfInBounds_toArray]); (try simp only [List.set_cons_succ]); (try simp only [List.set_cons_zero])
              refine wpAnyH_ready (rs := [15]) (by kernel_rfl) (by simp) ?_
              refine AllReadyH.cons rfl (fun K hK => ?_) AllReadyH.nil
              go_simp
              (with_reducible refine (TI2.out).mono ?_)
              rintro e wa ⟨rfl, hf, hkf⟩
              dsimp only
              have TK2 := hstep.out wa hkf hf
              obtain ⟨S2, NT2⟩ := TK2.nt
              have x1' := NT2.bx.c 1 rfl
              rw [hA1.out] at x1'
              have z1' := rdc (own_slice NT2.r1) hA1.out (ptrs_get hkn)
              refine hK.out _ _ ⟨x1', z1', (hg.out _ ((SX.out _ NT2.bel).r 0 rfl)).2⟩ (fun hHeld => ?_)
              clear hK K x1 z1 y1 TI2 hstep hf hkf x1' z1' NT2 hHeld
              refine wpAnyH_done (by kernel_rfl) ?_ _
              refine NoPanic.normal ?_
              replace TK2 := Lib.hid TK2
              go_wp2_with fail
              go_round
              case rel => exact ⟨k + 1, by go_num, by omega, TK2⟩
              case measure => simp [intOf]; omega
            · obtain rfl : n = k := by omega
              have NT := hend.out _ TK.out
              have PO := hpoll.out _ NT
              unfold PollPost at PO
              replace PO := Lib.hid PO
              have x1 := NT.bx.c 1 rfl
              clear NT TK hend hpoll
              go_wp2_with fail
              (with_reducible refine (PO.out).mono ?_)
              rintro e w5 ⟨rfl, S1, Aw1, cw1, ms1, hp, NT5⟩
              have C9 := hnext.out _ _ _ _ _ hp NT5
              replace C9 := Lib.hid C9
              clear PO hp NT5 hnext
              go_wp2_with fail
              go_round
              case rel => exact ⟨i + 1, T + 1, D, _, _, _, _, by go_num, by omega, by omega, C9⟩
              case measure => simp [intOf]; omega
        | false =>
          have h3 : ¬ kd % 4 = 3 := by have := hbt.out; simp at this; exact this.1
          have h0 : 0 < ms.length := by
            have := hbt.out
            simp at this
            exact List.length_pos_iff.2 this.2
          clear hbt
          have hT := CV.out.tal.one (fun e => by have := hway.out; rw [e] at this; simp at this; omega)
          obtain ⟨k, hke⟩ : ∃ k, pk % ms.length = k := ⟨_, rfl⟩
          have hk : k < ms.length := by rw [← hke]; exact Nat.mod_lt _ h0
          have hke2 : (pk : Int) % (ms.length : Int) = (k : Int) := by rw [← hke]; rfl
          go_upto_region 17 with fail
          go_quiet (fail)
          have CV5 : CvAt B0 w2 (wr.drewN nq) m n ls bs S Aw cw ms T D := ⟨CV.out.nt.below (below_drewN (Below.refl _ _) nq), CV.out.iv, CV.out.tal⟩
          try rw [hke2]
          clear CV SW y0 y1 x3 hke hke2
          generalize World.drewN wr nq = w5 at *
          obtain ⟨bw, offw, rfl⟩ := mx_form CV5.nt.wy.rd h0
          obtain ⟨s, hs⟩ : ∃ s, ms[k] = s := ⟨_, rfl⟩
          have hc := mx_cells CV5.nt.wy.rd k hk s hs
          have hmem : s ∈ ms := by rw [← hs]; exact List.getElem_mem hk
          have hla := CV5.nt.mo s hmem
          have hmo := CV5.iv.msg (m := mxP s) (by rw [← CV5.nt.mp]; exact List.mem_map.2 ⟨s, hmem, rfl⟩)
          obtain ⟨q, t, ak, ⟨y, A, c, B, d⟩⟩ := s
          simp only at hla
          have x0 : w5.cell? ⟨bw, offw + k * 9, none⟩ = some (.int .i64 (q : Int)) := hc 0 _ (by omega) rfl
          have x1 := hc 1 _ (by omega) rfl
          have x2 := hc 2 _ (by omega) rfl
          have x3' := hc 3 _ (by omega) rfl
          have x4 := hc 4 _ (by omega) rfl
          have x5 := hc 5 _ (by omega) rfl
          have x6 := hc 6 _ (by omega) rfl
          have x7 := hc 7 _ (by omega) rfl
          have x8 := hc 8 _ (by omega) rfl
          have x3 := CV5.nt.bx.c 3 rfl
          have V0 : DvAt B0 w2 (w5.alloc (.cells #[.int .i64 (q : Int), .int .i64 (t : Int), .bool ak, .int .i64 y.o, .int .i64 y.s, .int .i64 y.a, .bool y.ov, .slice A y.adj.length c, .slice B y.pre.length d] 47)) m n ls S (some ⟨bw, offw, none⟩) cw ms w5.heap.size ⟨q, t, ak, ⟨y, A, c, B, d⟩⟩ := by
            have hb2 := below_new' w5 (.cells #[.int .i64 (q : Int), .int .i64 (t : Int), .bool ak, .int .i64 y.o, .int .i64 y.s, .int .i64 y.a, .bool y.ov, .slice A y.adj.length c, .slice B y.pre.length d] 47)
            exact ⟨CV5.nt.below hb2, Box.new' w5 _ _ _ _ rfl rfl, hla.below hb2, CV5.nt.lo.2.2, fun e => by have := (CV5.nt.wy.lt _ e).2; omega⟩
          have hiv := Lib.hid CV5.iv
          have htal := Lib.hid CV5.tal
          replace hmo := Lib.hid hmo
          clear hc hs hmem hla CV5
          go_upto_region 19 with fail
          clear x0 x1 x2 x3' x4 x5 x6 x7 x8 x3
          generalize World.alloc w5 _ = w6 at *
          generalize w5.heap.size = km at *
          have hms5' : ms.length ≤ 5000 := hms5
          obtain ⟨y0, -⟩ := hg.out _ ((SX.out _ V0.nt.bel).r 0 rfl)
          go_upto_if 100 with fail
          clear y0
          go_cut [] (fun wx => ∃ (S' : Ns) (Aw' : Option Addr) (cw' : Nat) (ms' : List Mx), ms'.length ≤ 5000 ∧ Hid (DvAt B0 w2 wx m n ls S' Aw' cw' ms' km ⟨q, t, ak, ⟨y, A, c, B, d⟩⟩) ∧ Hid (Inv n ls (Gd ls bs) bs S') ∧ Hid (Tal n ls bs S' T D) ∧ Hid (MsgOk n ls (Gd ls bs) S' ⟨q, t, ak, y⟩))
          case first =>
            by_cases h2 : kd % 4 = 2
            · have e2 : (kd : Int) % 4 = 2 := by omega
              go_wp2_with fail
              go_meet
              exact ⟨S, _, _, ms, hms5', V0, hiv, htal, hmo⟩
            · have e2 : ¬ (kd : Int) % 4 = 2 := by omega
              have e2b : ((kd : Int) % 4 != 2) = true := by simp [e2]
              have x3 := V0.nt.bx.c 3 rfl
              have hrdw := V0.nt.wy.rd
              have RU := fun W => run_uptoS (P := Try.prog) mxT (some ⟨bw, offw, none⟩) ms.length cw k (by obtain ⟨_, _, e, h1, _⟩ := V0.nt.wy.form; injection e with _ _ e; omega) W
              have RF : ∀ W, (Instr.slice 37 (.slice (some ⟨bw, offw, none⟩) ms.length cw) (some (.int .i64 ((k : Int) + 1))) none none).run Try.prog W = .ok (.slice (subS 9 (some ⟨bw, offw, none⟩) (k + 1) cw) (ms.length - (k + 1)) (cw - (k + 1))) W := fun W => run_fromS (P := Try.prog) mxT (some ⟨bw, offw, none⟩) ms.length cw (k + 1) hk W
              obtain ⟨Aq, hAq⟩ : ∃ Aq, subS 9 (some ⟨bw, offw, none⟩) 0 cw = Aq := ⟨_, rfl⟩
              obtain ⟨Ar, hAr⟩ : ∃ Ar, subS 9 (some ⟨bw, offw, none⟩) (k + 1) cw = Ar := ⟨_, rfl⟩
              rw [hAq] at RU
              rw [hAr] at RF
              have hwk : IntKind.i64.wrap ((k : Int) + 1) = (k : Int) + 1 := IntWalk.i64_in _ (by omega)
              go_upto_region 20 with fail
              refine wp_region_noPanic ?_
              refine wp_region_Z (S := fun W => W.cell? ⟨m.g, 3, none⟩ = some (.slice (some ⟨bw, offw, none⟩) ms.length cw)) [19] (by kernel_rfl) x3 (fun hHeld => ?_)
              have V := V0.below (w' := w6.drew) (Below.refl _ _).drew
              clear V0 x3 hrdw
              generalize World.drew w6 = wq at *
              refine takeU (i := 0) (v := ?_) (some 101) rfl rfl (by kernel_rfl) (by kernel_rfl) (by kernel_rfl) (fun _ _ _ h => h) (Or.inl ⟨by rfl, ?_⟩) ?_
              rotate_left
              · intro w hSw; go_simp; (try with_reducible rfl)
              (try simp only [Act.put]); (try simp only [List.setIfInBounds_toArray]); (try simp only [List.set_cons_succ]); (try simp only [List.set_cons_zero])
              refine takeU (i := 2) (v := ?_) (some 103) rfl rfl (by kernel_rfl) (by kernel_rfl) (by kernel_rfl) (fun _ _ _ h => h) (Or.inl ⟨by rfl, ?_⟩) ?_
              rotate_left
              · intro w hSw; go_simp; (try with_reducible rfl)
              (try simp only [Act.put]); (try simp only [List.setIfInBounds_toArray]); (try simp only [List.set_cons_succ]); (try simp only [List.set_cons_zero])
              refine takeZ (i := 3) (v := ?_) (some 104) rfl rfl (by kernel_rfl) (by kernel_rfl) (by kernel_rfl) (by kernel_rfl) (fun _ _ _ h => h) (Or.inl ⟨by rfl, ?_⟩) (by assumption) ?_
              rotate_left
              · intro w hSw; (try dsimp only at hSw); go_simp; (try with_reducible rfl)
              (try simp only [Act.put]); (try simp only [List.setIfInBounds_toArray]); (try simp only [List.set_cons_succ]); (try simp only [List.set_cons_zero])
              refine takeZ (i := 4) (v := ?_) (some 105) rfl rfl (by kernel_rfl) (by kernel_rfl) (by kernel_rfl) (by kernel_rfl) (fun _ _ _ h => h) (Or.inl ⟨by rfl, ?_⟩) (by assumption) ?_
              rotate_left
              · intro w hSw; (try dsimp only at hSw); go_simp; (try with_reducible rfl)
              (try simp only [Act.put]); (try simp only [List.setIfInBounds_toArray]); (try simp only [List.set_cons_succ]); (try simp only [List.set_cons_zero])
              refine takeZ (i := 5) (v := ?_) (some 106) rfl rfl (by kernel_rfl) (by kernel_rfl) (by kernel_rfl) (by kernel_rfl) (fun _ _ _ h => h) (Or.inl ⟨by rfl, ?_⟩) (by assumption) ?_
              rotate_left
              · intro w hSw; (try dsimp only at hSw); go_simp; (try with_reducible rfl)
              (try simp only [Act.put]); (try simp only [List.setIfInBounds_toArray]); (try simp only [List.set_cons_succ]); (try simp only [List.set_cons_zero])
              refine takeU (i := 6) (v := ?_) (some 107) rfl rfl (by kernel_rfl) (by kernel_rfl) (by kernel_rfl) (fun _ _ _ h => h) (Or.inl ⟨by rfl, ?_⟩) ?_
              rotate_left
              · intro w hSw; go_simp; (try with_reducible rfl)
              (try simp only [Act.put]); (try simp only [List.setIfInBounds_toArray]); (try simp only [List.set_cons_succ]); (try simp only [List.set_cons_zero])
              refine takeU (i := 7) (v := ?_) (some 108) rfl rfl (by kernel_rfl) (by kernel_rfl) (by kernel_rfl) (fun _ _ _ h => h) (Or.inl ⟨by rfl, ?_⟩) ?_
              rotate_left
              · intro w hSw; go_simp; (try with_reducible rfl)
              (try simp only [Act.put]); (try simp only [List.setIfInBounds_toArray]); (try simp only [List.set_cons_succ]); (try simp only [List.set_cons_zero])
              refine takeU (i := 9) (v := ?_) (some 110) rfl rfl (by kernel_rfl) (by kernel_rfl) (by kernel_rfl) (fun _ _ _ h => h) (Or.inl ⟨by rfl, ?_⟩) ?_
              rotate_left
              · intro w hSw; go_simp; (try with_reducible rfl)
              (try simp only [Act.put]); (try simp only [List.setIfInBounds_toArray]); (try simp only [List.set_cons_succ]); (try simp only [List.set_cons_zero])
              refine takeZ (i := 10) (v := ?_) (some 111) rfl rfl (by kernel_rfl) (by kernel_rfl) (by kernel_rfl) (by kernel_rfl) (fun _ _ _ h => h) (Or.inl ⟨by rfl, ?_⟩) (by assumption) ?_
              rotate_left
              · intro w hSw; (try dsimp only at hSw); go_simp; (try with_reducible rfl)
              (try simp only [Act.put]); (try simp only [List.setIfInBounds_toArray]); (try simp only [List.set_cons_succ]); (try simp only [List.set_cons_zero])
              refine takeZ (i := 11) (v := ?_) (some 112) rfl rfl (by kernel_rfl) (by kernel_rfl) (by kernel_rfl) (by kernel_rfl) (fun _ _ _ h => h) (Or.inl ⟨by rfl, ?_⟩) (by assumption) ?_
              rotate_left
              · intro w hSw; (try dsimp only at hSw); go_simp; (try with_reducible rfl)
              (try simp only [Act.put]); (try simp only [List.setIfInBounds_toArray]); (try simp only [List.set_cons_succ]); (try simp only [List.set_cons_zero])
              refine takeZ (i := 12) (v := ?_) (some 113) rfl rfl (by kernel_rfl) (by kernel_rfl) (by kernel_rfl) (by kernel_rfl) (fun _ _ _ h => h) (Or.inl ⟨by rfl, ?_⟩) (by assumption) ?_
              rotate_left
              · intro w hSw; (try dsimp only at hSw); go_simp; (try with_reducible rfl)
              (try simp only [Act.put]); (try simp only [List.setIfInBounds_toArray]); (try simp only [List.set_cons_succ]); (try simp only [List.set_cons_zero])
              refine takeU (i := 13) (v := ?_) (some 114) rfl rfl (by kernel_rfl) (by kernel_rfl) (by kernel_rfl) (fun _ _ _ h => h) (Or.inl ⟨by rfl, ?_⟩) ?_
              rotate_left
              · intro w hSw; go_simp; (try with_reducible rfl)
              (try simp only [Act.put]); (try simp only [List.setIfInBounds_toArray]); (try simp only [List.set_cons_succ]); (try simp only [List.set_cons_zero])
              refine takeU (i := 14) (v := ?_) (some 115) rfl rfl (by kernel_rfl) (by kernel_rfl) (by kernel_rfl) (fun _ _ _ h => h) (Or.inl ⟨by rfl, ?_⟩) ?_
              rotate_left
              · intro w hSw; go_simp; (try with_reducible rfl)
              (try simp only [Act.put]); (try simp only [List.setIfInBounds_toArray]); (try simp only [List.set_cons_succ]); (try simp only [List.set_cons_zero])
              refine takeU (i := 15) (v := ?_) (some 116) rfl rfl (by kernel_rfl) (by kernel_rfl) (by kernel_rfl) (fun _ _ _ h => h) (Or.inl ⟨by rfl, ?_⟩) ?_
              rotate_left
              · intro w hSw; go_simp; (try with_reducible rfl)
              (try simp only [Act.put]); (try simp only [List.setIfInBounds_toArray]); (try simp only [List.set_cons_succ]); (try simp only [List.set_cons_zero])
              have hbe := below_new' wq (.cells #[] 47)
              have V1 := V.below hbe
              have oe := own_empty wq 47 9
              have rd1 : Rd (wq.alloc (.cells #[] 47)) Aq (mxV (ms.take k)) := by
                have := V1.nt.wy.rd.uptoS (size := 9) k cw (by rw [mxV_len]; obtain ⟨_, _, e, h1, _⟩ := V.nt.wy.form; injection e with _ _ e; exact Nat.mul_le_mul_right _ (by omega))
                rw [hAq, ← mxV_take] at this
                exact this
              have hlk1 : (mxV (ms.take k)).length = k * 9 := by rw [mxV_len, List.length_take, Nat.min_eq_left (by omega)]
              refine anyZ_ready (rs := [1]) (by kernel_rfl) (by simp) ?_
              refine readyZ_cons rfl (fun K hK => ?_) readyZ_nil
              go_simp
              refine hK.out _ _ (fun _ => V1.nt.bx.c 3 rfl) (fun hHeld0 => ?_)
              replace hHeld := hHeld0 (by decide)
              clear hK K hHeld0
              refine anyZ_ready (rs := [8]) (by kernel_rfl) (by simp) ?_
              refine readyZ_cons rfl (fun K hK => ?_) readyZ_nil
              refine step_appG rfl mxT (.tmp 102) (.tmp 108) (by rfl) wq.heap.size (by rfl) oe (by rfl) (m := k) hlk1 rd1 (mxV_one _) (by simp only [maxLen]; omega) (by omega) (by simp) k (mxV (ms.take k)) (by omega) rfl ?_
              intro v8 w8 o8 hb8 hg8
              obtain ⟨A8, c8, rfl, -⟩ := own_rd o8
              have hb18 : Below wq.heap.size wq w8 := hbe.trans hb8
              have V8 := V.below hb18
              refine hK.out _ _ (fun _ => V8.nt.bx.c 3 rfl) (fun hHeld0 => ?_)
              replace hHeld := hHeld0 (by decide)
              clear hK K hHeld0 rd1 oe V1
              have rd2 : Rd w8 Ar (mxV (ms.drop (k + 1))) := by
                have := V8.nt.wy.rd.fromS (size := 9) (k + 1) cw (by rw [mxV_len]; obtain ⟨_, _, e, h1, _⟩ := V.nt.wy.form; injection e with _ _ e; exact Nat.mul_le_mul_right _ (by omega))
                rw [hAr, ← mxV_drop] at this
                exact this
              have hlk2 : (mxV (ms.drop (k + 1))).length = (ms.length - (k + 1)) * 9 := by rw [mxV_len, List.length_drop]
              have hml : (ms.take k ++ ms.drop (k + 1)).length = k + (ms.length - (k + 1)) := by rw [List.length_append, List.length_take, List.length_drop, Nat.min_eq_left (by omega)]
              obtain ⟨N0, hN0⟩ : ∃ N0, (ms.take k ++ ms.drop (k + 1)).length = N0 := ⟨_, rfl⟩
              refine anyZ_ready (rs := [16]) (by kernel_rfl) (by simp) ?_
              refine readyZ_cons rfl (fun K hK => ?_) readyZ_nil
              refine step_appG rfl mxT (.tmp 109) (.tmp 116) (by rfl) wq.heap.size (by rfl) o8 (by rfl) (m := ms.length - (k + 1)) hlk2 rd2 (mxV_one _) (by simp only [maxLen]; omega) (by omega) hb18.size N0 (mxV (ms.take k ++ ms.drop (k + 1))) (by rw [← hml, hN0]) (mxV_append _ _).symm ?_
              intro v9 w9 o9 hb9 hg9
              obtain ⟨A9, c9, rfl, -⟩ := own_rd o9
              have V9 := V.below (hb18.trans hb9)
              refine hK.out _ _ (fun _ => V9.nt.bx.c 3 rfl) (fun hHeld0 => ?_)
              replace hHeld := hHeld0 (by decide)
              clear hK K hHeld0 rd2 V8 o8
              refine anyZ_ready (rs := [17]) (by kernel_rfl) (by simp) ?_
              refine readyZ_cons rfl (fun K hK => ?_) readyZ_nil
              go_simp
              refine hK.out _ _ (fun _ => hHeld) (fun _ => ?_)
              clear hK K
              refine takeU (i := 18) (v := ?_) (some 119) rfl rfl (by kernel_rfl) (by kernel_rfl) (by kernel_rfl) (fun _ _ _ h => h) (Or.inl ⟨by rfl, ?_⟩) ?_
              rotate_left
              · intro w hSw; go_simp; (try with_reducible rfl)
              (try simp only [Act.put]); (try simp only [List.setIfInBounds_toArray]); (try simp only [List.set_cons_succ]); (try simp only [List.set_cons_zero])
              have f3 := V9.nt.bx.f 3 rfl
              have p3 := V9.nt.bx.c 3 rfl
              refine anyZ_ready (rs := [19]) (by kernel_rfl) (by simp) ?_
              refine readyZ_cons rfl (fun K hK => ?_) readyZ_nil
              go_simp
              refine hK.out _ _ (fun h => absurd h (by decide)) (fun _ => ?_)
              clear hK K hHeld f3 p3
              refine anyZ_done (by kernel_rfl) ?_ _
              refine NoPanic.normal ?_
              have hkm := V.bx.lt (by simp [mxL])
              have hlo := V.nt.lo
              have hgr : w9.grownBy w9 (Value.slice (some ⟨bw, offw, none⟩) ms.length cw).ownBlock := ⟨rfl, rfl, rfl, Nat.le_refl _, fun _ _ _ => rfl⟩
              have NT9 := V9.nt.put (ms' := ms.take k ++ ms.drop (k + 1)) (way' := S.way.take k ++ S.way.drop (k + 1)) (v' := .slice A9 N0 c9) (A' := A9) (c' := c9) (by rw [hN0]) (by rw [hN0]; exact win_own (own_mono o9 hlo.2.2)) hgr (fun s hs => V9.nt.mo s (by
                rcases List.mem_append.1 hs with hs | hs
                · exact List.mem_of_mem_take hs
                · exact List.mem_of_mem_drop hs)) (by rw [List.map_append, List.map_take, List.map_drop, V9.nt.mp])
              have hnf := V9.nt.putNf hgr (.slice A9 N0 c9)
              have V10 : DvAt B0 w2 (w9.setCell ⟨m.g, 3, none⟩ (.slice A9 N0 c9)) m n ls ⟨S.db, S.fl, S.way.take k ++ S.way.drop (k + 1)⟩ A9 c9 (ms.take k ++ ms.drop (k + 1)) km ⟨q, t, ak, ⟨y, A, c, B, d⟩⟩ :=
                ⟨NT9, V9.bx.far _ (by have := V9.kq; simp only; omega), hnf.la V9.nt.nb V9.la, V9.kq, fun e => by rw [hN0] at e; have := (own_cells o9 e).1; omega⟩
              have hsub : ∀ x ∈ S.way.take k ++ S.way.drop (k + 1), x ∈ S.way := fun x hx => by
                rcases List.mem_append.1 hx with hx | hx
                · exact List.mem_of_mem_take hx
                · exact List.mem_of_mem_drop hx
              have hfin := Lib.hid (show (ms.take k ++ ms.drop (k + 1)).length ≤ 5000 from by omega)
              have hV := Lib.hid V10
              have hI := Lib.hid (hiv.out.sub _ hsub)
              have hTl := Lib.hid (htal.out.sub (S.way.take k ++ S.way.drop (k + 1)) (mu_drop _ _) (fun e => by rw [e]; simp))
              have hMo : Hid (MsgOk n ls (Gd ls bs) ⟨S.db, S.fl, S.way.take k ++ S.way.drop (k + 1)⟩ ⟨q, t, ak, y⟩) := ⟨hmo.out.inc, hmo.out.lt, hmo.out.g, hmo.out.from'⟩
              clear V10 V9 hnf NT9 hgr o9 hb9 hg9 hsub V RU RF hlk1 hlk2 hml hb18 hb8 hg8 hbe
              go_wp2_with fail
              go_meet
              exact ⟨_, A9, c9, _, hfin.out, hV, hI, hTl, hMo⟩
          case rest =>
            clear V0 hiv htal hmo hms5 hms5' hk
            obtain ⟨S', Aw', cw', ms', hms', V, hiv, htal, hmo⟩ := hcut
            obtain ⟨y0, -⟩ := hg.out _ ((SX.out _ V.out.nt.bel).r 0 rfl)
            by_cases h1 : kd % 4 = 1
            · have e1 : (kd : Int) % 4 = 1 := by omega
              have C9 : CvAt B0 w2 wc m n ls bs S' Aw' cw' ms' T D := ⟨V.out.nt, hiv.out, htal.out⟩
              replace C9 := Lib.hid C9
              clear V hiv htal hmo
              go_wp2_with fail
              go_round
              case rel => exact ⟨i + 1, T, D, _, _, _, _, by go_num, by omega, by omega, C9⟩
              case measure => simp [intOf]; omega
            · have e1 : ¬ (kd : Int) % 4 = 1 := by omega
              have e1b : ((kd : Int) % 4 != 1) = true := by simp [e1]
              have DL := deliver_any V.out.nt hiv.out F.out.G F.out.hl hn5 F.out.L ⟨q, t, ak, ⟨y, A, c, B, d⟩⟩ V.out.la hmo.out (by omega)
              have DL2 : Calls Try.prog 8 #[.pointer (some ⟨m.g, 0, none⟩), .agg #[.int .i64 (q : Int), .int .i64 (t : Int), .bool ak, .int .i64 y.o, .int .i64 y.s, .int .i64 y.a, .bool y.ov, .slice A y.adj.length c, .slice B y.pre.length d]] wc (fun e w' => e = .returned (.bool true) ∧ ∃ Aw cw ms, NtAt B0 w2 w' m n ls (dlv ls S' ⟨q, t, ak, y⟩) Aw cw ms) := DL
              replace DL2 := Lib.hid DL2
              obtain ⟨z0, z1, z2, z3, z4, z5, z6, z7, z8⟩ := V.out.cl
              have hiv9 := Lib.hid (hiv.out.dlv F.out.G F.out.hl F.out.bv hmo.out)
              have htal9 := Lib.hid (htal.out.dlv hiv.out F.out.G F.out.Gm F.out.L hmo.out hT)
              clear DL V hiv htal hmo
              go_wp2_with fail
              (with_reducible refine (DL2.out).mono ?_)
              rintro e w10 ⟨rfl, Aw9, cw9, ms9, NT10⟩
              have C9 : CvAt B0 w2 w10 m n ls bs (dlv ls S' ⟨q, t, ak, y⟩) Aw9 cw9 ms9 T (D + 1) := ⟨NT10, hiv9.out, htal9.out⟩
              replace C9 := Lib.hid C9
              clear DL2 NT10 hiv9 htal9 y0 z0 z1 z2 z3 z4 z5 z6 z7 z8
              go_wp2_with fail
              go_round
              case rel => exact ⟨i + 1, T, D + 1, _, _, _, _, by go_num, by omega, by omega, C9⟩
              case measure => simp [intOf]; omega
    · obtain rfl : ns = i := by omega
      have hmu0 := CV.out.tal.fin CV.out.iv F.out.G F.out.Gm F.out.L F.out.b (by omega)
      have NT0 := Lib.hid CV.out.nt
      have I0 := Lib.hid CV.out.iv
      have R0 : Hid (RdIs n ls bs 0 S) := ⟨hmu0, .inl rfl⟩
      clear CV SW hmu0 hway
      go_wp2_with fail
      go_loopw [11] (fun v11 wr => ∃ (r : Nat) (S : Ns) (Aw : Option Addr) (cw : Nat) (ms : List Mx), v11 = .int .i64 r ∧ r ≤ 31 ∧ Hid (NtAt B0 w2 wr m n ls S Aw cw ms) ∧ Hid (Inv n ls (Gd ls bs) bs S) ∧ Hid (RdIs n ls bs r S)) (fun v11 _ => 60 - (intOf v11).toNat)
      case atStart => exact ⟨0, S, _, _, _, rfl, by omega, NT0, I0, R0⟩
      case round =>
        clear NT0 I0 R0
        obtain ⟨r, S, Aw, cw, ms, rfl, hr, NT, HI, RI⟩ := hrel
        have er : decide ((r : Int) < 60) = true := by simp; omega
        have hin0 := Lib.hid (RI.out.in HI.out F.out.G F.out.hl)
        have hmu := RI.out.mu
        obtain ⟨rk, hrk⟩ : ∃ rk, rank n bs S = rk := ⟨_, rfl⟩
        rw [hrk] at hin0
        have hmu0 : Hid (0 + mu S.way ≤ 5000) := by show _ ≤ _; omega
        clear hrk RI hmu
        go_wp2_with fail
        go_loopw [12] (fun v12 wr => ∃ (c : Nat) (S : Ns) (Aw : Option Addr) (cw : Nat) (ms : List Mx), v12 = .int .i64 c ∧ Hid (c + mu S.way ≤ 5000) ∧ Hid (NtAt B0 w2 wr m n ls S Aw cw ms) ∧ Hid (Inv n ls (Gd ls bs) bs S) ∧ Hid (InRd n ls bs r rk S)) (fun v12 _ => 5001 - (intOf v12).toNat)
        case atStart => exact ⟨0, S, _, _, _, rfl, hmu0, NT, HI, hin0⟩
        case round =>
          clear NT HI hin0 hmu0
          obtain ⟨ct, S, Aw, cw, ms, rfl, hmu, NT, HI, IR⟩ := hrel
          have x3 := NT.out.bx.c 3 rfl
          have hlw : S.way.length = ms.length := by rw [← NT.out.mp, List.length_map]
          have hlm := len_mu S.way
          have hmu1 := hmu.out
          have hms5 : ms.length ≤ 5000 := by omega
          by_cases h0 : 0 < ms.length
          · obtain ⟨bw, offw, rfl⟩ := mx_form NT.out.wy.rd h0
            obtain ⟨s, hs⟩ : ∃ s, ms[0] = s := ⟨_, rfl⟩
            have hc := mx_cells NT.out.wy.rd 0 h0 s hs
            have hmem : s ∈ ms := by rw [← hs]; exact List.getElem_mem h0
            have hla := NT.out.mo s hmem
            have hmo := HI.out.msg (m := mxP s) (by rw [← NT.out.mp]; exact List.mem_map.2 ⟨s, hmem, rfl⟩)
            have hcons : S.way = mxP s :: S.way.drop 1 := by
              rw [← NT.out.mp]
              cases ms with
              | nil => simp at h0
              | cons x t => simp at hs; subst hs; simp
            obtain ⟨q, t, ak, ⟨y, A, c, B, d⟩⟩ := s
            simp only at hla
            have x0 : wr.cell? ⟨bw, offw, none⟩ = some (.int .i64 (q : Int)) := by have := hc 0 _ (by omega) rfl; simpa using this
            have x1 : wr.cell? ⟨bw, offw + 1, none⟩ = some (.int .i64 (t : Int)) := by have := hc 1 _ (by omega) rfl; simpa using this
            have x2 : wr.cell? ⟨bw, offw + 2, none⟩ = some (.bool ak) := by have := hc 2 _ (by omega) rfl; simpa using this
            have x3' : wr.cell? ⟨bw, offw + 3, none⟩ = some (.int .i64 y.o) := by have := hc 3 _ (by omega) rfl; simpa using this
            have x4 : wr.cell? ⟨bw, offw + 4, none⟩ = some (.int .i64 y.s) := by have := hc 4 _ (by omega) rfl; simpa using this
            have x5 : wr.cell? ⟨bw, offw + 5, none⟩ = some (.int .i64 y.a) := by have := hc 5 _ (by omega) rfl; simpa using this
            have x6 : wr.cell? ⟨bw, offw + 6, none⟩ = some (.bool y.ov) := by have := hc 6 _ (by omega) rfl; simpa using this
            have x7 : wr.cell? ⟨bw, offw + 7, none⟩ = some (.slice A y.adj.length c) := by have := hc 7 _ (by omega) rfl; simpa using this
            have x8 : wr.cell? ⟨bw, offw + 8, none⟩ = some (.slice B y.pre.length d) := by have := hc 8 _ (by omega) rfl; simpa using this
            have V0 : DvAt B0 w2 (wr.alloc (.cells #[.int .i64 (q : Int), .int .i64 (t : Int), .bool ak, .int .i64 y.o, .int .i64 y.s, .int .i64 y.a, .bool y.ov, .slice A y.adj.length c, .slice B y.pre.length d] 47)) m n ls S (some ⟨bw, offw, none⟩) cw ms wr.heap.size ⟨q, t, ak, ⟨y, A, c, B, d⟩⟩ := by
              have hb2 := below_new' wr (.cells #[.int .i64 (q : Int), .int .i64 (t : Int), .bool ak, .int .i64 y.o, .int .i64 y.s, .int .i64 y.a, .bool y.ov, .slice A y.adj.length c, .slice B y.pre.length d] 47)
              exact ⟨NT.out.below hb2, Box.new' wr _ _ _ _ rfl rfl, hla.below hb2, NT.out.lo.2.2, fun e => by have := (NT.out.wy.lt _ e).2; omega⟩
            replace hmo := Lib.hid hmo
            replace hcons := Lib.hid hcons
            replace V0 := Lib.hid V0
            clear hc hs hmem hla NT hlw hlm
            go_upto_region 30 with fail
            clear x0 x1 x2 x3' x4 x5 x6 x7 x8 x3
            generalize World.alloc wr _ = w6 at *
            generalize wr.heap.size = km at *
            have RF : ∀ W, (Instr.slice 37 (.slice (some ⟨bw, offw, none⟩) ms.length cw) (some (.int .i64 1)) none none).run Try.prog W = .ok (.slice (subS 9 (some ⟨bw, offw, none⟩) 1 cw) (ms.length - 1) (cw - 1)) W := fun W => run_fromS (P := Try.prog) mxT (some ⟨bw, offw, none⟩) ms.length cw 1 h0 W
            have hlen1 : ((ms.drop 1).length) = ms.length - 1 := List.length_drop
            obtain ⟨N0, hN0⟩ : ∃ N0, ms.length - 1 = N0 := ⟨_, rfl⟩
            obtain ⟨Ar, hAr⟩ : ∃ Ar, subS 9 (some ⟨bw, offw, none⟩) 1 cw = Ar := ⟨_, rfl⟩
            obtain ⟨c9, hc9⟩ : ∃ c9, cw - 1 = c9 := ⟨_, rfl⟩
            have hwin := V0.out.nt.wy.from 1 h0 (by omega)
            rw [hN0, hAr, hc9] at RF hwin
            rw [← mxV_drop] at hwin
            have hgr : w6.grownBy w6 (Value.slice (some ⟨bw, offw, none⟩) ms.length cw).ownBlock := ⟨rfl, rfl, rfl, Nat.le_refl _, fun _ _ _ => rfl⟩
            have hlo := V0.out.nt.lo
            have NT9 := V0.out.nt.put (v' := .slice Ar N0 c9) (ms' := ms.drop 1) (way' := S.way.drop 1) (A' := Ar) (c' := c9) (by rw [hlen1, hN0]) (by rw [hlen1, hN0]; exact hwin) hgr (fun s hs => V0.out.nt.mo s (List.mem_of_mem_drop hs)) (by rw [List.map_drop, V0.out.nt.mp])
            have hnf := V0.out.nt.putNf hgr (.slice Ar N0 c9)
            have hbo : (Value.slice Ar N0 c9).ownBlock = (Value.slice (some ⟨bw, offw, none⟩ : Option Addr) ms.length cw).ownBlock := by
              rw [← hAr]
              unfold subS
              split
              · rfl
              · simp only [Option.map_some, Value.ownBlock]
                rw [addr_add_block]
            have V10 : DvAt B0 w2 (w6.setCell ⟨m.g, 3, none⟩ (.slice Ar N0 c9)) m n ls ⟨S.db, S.fl, S.way.drop 1⟩ Ar c9 (ms.drop 1) km ⟨q, t, ak, ⟨y, A, c, B, d⟩⟩ :=
              ⟨NT9, V0.out.bx.far _ (by have := V0.out.kq; simp only; omega), hnf.la V0.out.nt.nb V0.out.la, V0.out.kq, fun e => V0.out.kw (by rw [← hbo, ← hN0, ← hlen1]; exact e)⟩
            have x3 := V0.out.nt.bx.c 3 rfl
            have f3 := V0.out.nt.bx.f 3 rfl
            have hIs := HI.out.sub (S.way.drop 1) (fun x hx => List.mem_of_mem_drop hx)
            have hMo : MsgOk n ls (Gd ls bs) ⟨S.db, S.fl, S.way.drop 1⟩ ⟨q, t, ak, y⟩ := ⟨hmo.out.inc, hmo.out.lt, hmo.out.g, hmo.out.from'⟩
            have hml9 : (ms.drop 1).length ≤ 5000 := by omega
            replace V10 := Lib.hid V10
            replace hwin := Lib.hid hwin
            replace hN0 := Lib.hid hN0
            replace hlen1 := Lib.hid hlen1
            replace hml9 := Lib.hid hml9
            clear NT9 hnf hgr hlo hbo V0 hAr hc9 hwin
            go_upto_region 31 with fail
            clear x3 f3 RF
            generalize World.setCell w6 _ _ = w7 at *
            have DL := deliver_any V10.out.nt hIs F.out.G F.out.hl hn5 F.out.L ⟨q, t, ak, ⟨y, A, c, B, d⟩⟩ V10.out.la hMo (by have := hml9.out; omega)
            have DL2 : Calls Try.prog 8 #[.pointer (some ⟨m.g, 0, none⟩), .agg #[.int .i64 (q : Int), .int .i64 (t : Int), .bool ak, .int .i64 y.o, .int .i64 y.s, .int .i64 y.a, .bool y.ov, .slice A y.adj.length c, .slice B y.pre.length d]] w7 (fun e w' => e = .returned (.bool true) ∧ ∃ Aw cw ms, NtAt B0 w2 w' m n ls (dlv ls ⟨S.db, S.fl, S.way.drop 1⟩ ⟨q, t, ak, y⟩) Aw cw ms) := DL
            replace DL2 := Lib.hid DL2
            obtain ⟨z0, z1, z2, z3, z4, z5, z6, z7, z8⟩ := V10.out.cl
            have hI9 := Lib.hid (hIs.dlv F.out.G F.out.hl F.out.bv hMo)
            have hIR9 := Lib.hid (IR.out.step HI.out F.out.G F.out.hl F.out.Gm F.out.bv hcons.out)
            have hmud := mu_dlv ls S ⟨q, t, ak, y⟩ (S.way.drop 1)
            have hcm : mu S.way = mu (⟨q, t, ak, y⟩ :: S.way.drop 1) := congrArg mu hcons.out
            have hmu9 : Hid (ct + 1 + mu (dlv ls ⟨S.db, S.fl, S.way.drop 1⟩ ⟨q, t, ak, y⟩).way ≤ 5000) := by show _ ≤ _; omega
            have hct : ct ≤ 5000 := by omega
            have e5 : decide ((5000 : Int) < (ct : Int)) = false := by simp; omega
            clear DL V10 HI IR hIs hMo hmud hcm hmu hmu1 hcons hmo
            go_wp2_with fail
            (with_reducible refine (DL2.out).mono ?_)
            rintro e w10 ⟨rfl, Aw9, cw9, ms9, NT10⟩
            replace NT10 := Lib.hid NT10
            clear DL2 z0 z1 z2 z3 z4 z5 z6 z7 z8
            go_wp2_with fail
            go_round
            case rel => exact ⟨ct + 1, _, _, _, _, by go_num, hmu9, NT10, hI9, hIR9⟩
            case measure => simp [intOf]; omega
          · have hms0 : ms = [] := List.eq_nil_of_length_eq_zero (by omega)
            subst hms0
            have hway : S.way = [] := List.eq_nil_of_length_eq_zero (by rw [hlw]; rfl)
            have hnx := IR.out.next HI.out F.out.G F.out.hl F.out.Gm F.out.L F.out.b hn5 hway
            have TK0 : Hid (TcAt B0 w2 wr m n ls S Aw cw [] 4 0) := TcAt.start NT.out 4
            have hfn := Lib.hid (fun j (hj : j < n) => HI.out.fnok F.out.G hj)
            have hend : Hid (∀ W, TcAt B0 w2 W m n ls S Aw cw [] 4 n → NtAt B0 w2 W m n ls (tikS 4 S) Aw cw []) := fun W h => h.fin
            have hI := HI.out.tik F.out.G F.out.hl (k := 4) (by omega)
            have hpoll : Hid (∀ W, NtAt B0 w2 W m n ls (tikS 4 S) Aw cw [] → Calls Try.prog 7 #[.pointer (some ⟨m.g, 0, none⟩)] W (PollPost B0 w2 m n ls (tikS 4 S))) := fun W h => poll_any h hI F.out.G F.out.hl (by omega) F.out.L (by show S.way.length ≤ 10000; omega)
            have hnext : Hid (∀ W S1 Aw1 cw1 ms1, PlIs n ls (tikS 4 S) S1 n n [] → NtAt B0 w2 W m n ls S1 Aw1 cw1 ms1 → NtAt B0 w2 W m n ls (tps n ls 4 S) Aw1 cw1 ms1) := fun W S1 Aw1 cw1 ms1 h1 h2 => h1.nt h2
            have hI9 := Lib.hid (HI.out.tps F.out.G F.out.hl (k := 4) (by omega))
            replace hnx := Lib.hid hnx
            clear NT HI IR hI hway hlw hlm hmu1 hms5 hmu h0
            go_wp2_with fail
            go_loopw [14] (fun v14 wr => ∃ (k : Nat), v14 = .int .i64 k ∧ k ≤ n ∧ Hid (TcAt B0 w2 wr m n ls S Aw cw [] 4 k)) (fun v14 _ => n - (intOf v14).toNat)
            case atStart => exact ⟨0, rfl, by omega, TK0⟩
            case round =>
              clear TK0
              obtain ⟨k, rfl, hk, TK⟩ := hrel
              by_cases hkn : k < n
              · obtain ⟨S1, NT, hS1, hstep⟩ := TK.out.at hkn
                have TI := Fd.ftick_any wr (m.gf k) (m.bf k) 4 (S.fl k) (m.ff k) (by have := NT.fl k hkn; rwa [hS1] at this) (hfn.out k hkn) 4 (by omega)
                unfold Fd.TickPost at TI
                obtain ⟨b1', off1, hA1, z1⟩ := rd_at (own_slice NT.r1) (by rw [ptrs_len]; omega)
                have x1 := NT.bx.c 1 rfl
                rw [hA1] at x1
                replace z1 := z1 k _ (ptrs_get hkn)
                replace TI := Lib.hid TI
                replace hstep := Lib.hid hstep
                clear TK hS1 hA1 NT x3
                go_wp2_with fail
                (with_reducible refine (TI.out).mono ?_)
                rintro e wa ⟨rfl, hf, hkf⟩
                have TK2 := Lib.hid (hstep.out wa hkf hf)
                clear TI hstep hf hkf x1 z1
                go_wp2_with fail
                go_round
                case rel => exact ⟨k + 1, by go_num, by omega, TK2⟩
                case measure => simp [intOf]; omega
              · obtain rfl : n = k := by omega
                have NT := hend.out _ TK.out
                have PO := hpoll.out _ NT
                unfold PollPost at PO
                replace PO := Lib.hid PO
                have x1 := NT.bx.c 1 rfl
                clear NT TK hend hpoll x3
                go_wp2_with fail
                (with_reducible refine (PO.out).mono ?_)
                rintro e w5 ⟨rfl, S1, Aw1, cw1, ms1, hp, NT5⟩
                have NT9 := hnext.out _ _ _ _ _ hp NT5
                have x3 := NT9.bx.c 3 rfl
                have hl9 : (tps n ls 4 S).way.length = ms1.length := by rw [← NT9.mp, List.length_map]
                clear PO hp NT5 hnext
                rcases hnx.out with ⟨hw, hpn⟩ | ⟨hw, hR, hr1⟩
                · have hms0 : ms1 = [] := List.eq_nil_of_length_eq_zero (by rw [← hl9, hw]; rfl)
                  subst hms0
                  have SW := SX.out _ NT9.bel
                  have AG := agrees_any NT9 hI9.out F.out.ok F.out.lp hpn hn5 F.out.L z AL nl cl AA na ca at' (SW.r 2 rfl) hna.out (by unfold maxLen; omega) AX nx cx xs (SW.r 3 rfl) hnx'.out (by have := hnx'.out; omega) (fun s hs => by have := hxo.out s hs; unfold LxOk at this ⊢; exact this.below SW.b) hbse.out.symm
                  replace AG := Lib.hid AG
                  have a0 := SW.c 0 0 rfl rfl
                  have a1 := SW.c 0 1 rfl rfl
                  have a2 := SW.c 0 2 rfl rfl
                  have a3 := SW.c 0 3 rfl rfl
                  have hb9 := SW.b
                  clear NT9 SW hl9 hw hnx hpn
                  go_wp2_with fail
                  (with_reducible refine (AG.out).mono ?_)
                  rintro e w9 ⟨rfl, hb⟩
                  replace hb9 := hb9.trans (hb.mono hb9.size)
                  clear AG hb a0 a1 a2 a3 x3
                  go_wp2_with fail
                  go_ret
                  exact ⟨rfl, hb9⟩
                · have e9 : ((ms1.length : Int) == 0) = false := by
                    simp
                    intro e
                    exact hw (List.eq_nil_of_length_eq_zero (by rw [hl9, e]; rfl))
                  replace NT9 := Lib.hid NT9
                  replace hR := Lib.hid hR
                  clear hl9 hw hnx
                  go_wp2_with fail
                  go_round
                  case rel => exact ⟨r + 1, _, _, _, _, by go_num, by omega, NT9, hI9, hR⟩
                  case measure => simp [intOf]; omega
end Go.Proofs.Ytnfldccaeibcpaa

namespace Go.Proofs.Ytnfldccaeibcpaa.floodConverges
open Go.ChangeShapes Go.WideShapes Go.ChangeAt Go.RowKit
set_option linter.unusedVariables false

set_option maxRecDepth 100000 in
theorem lifted (os : Os) (started : os.Started) (H : Type) (enc : TypeId × Value → H) :
    ReturnsInHanded {} Try.checked os 3 .any (Rows.floodConvergesSpec.pre6 enc Try.prog Try.f3 Rows.floodConvergesRow.domain false) (Rows.floodConvergesSpec.post enc Try.prog Try.f3 false true false false) := by
  refine returnsInHanded_of_change (C := Try.checked) frame_own started (by kernel_rfl) Try.func3
    (ChangeSpec.witness6 (enc := enc) (C := Try.checked) false ⟨#[], #[.agg #[.int .u8 0, .slice none 0 0, .slice none 0 0, .slice none 0 0], .slice none 0 0], []⟩ 8 (by kernel_rfl) (by kernel_rfl) (by kernel_rfl) (by kernel_rfl)) ?_
  intro W base args ds gs before hval0 hW hcnd _
  have hval : ∀ (j : Nat) t v, Try.f3.params[j]? = some t → args[j]? = some v → Value.okWide Try.prog W .any base t v := hval0
  have hW' := hW
  obtain ⟨p, q, hA0, hV, rfl, hfz, hnd⟩ := hW
  have hA : DataW.TrodAll enc Try.prog W 0 (fun _ => true) true Try.f3.params.toList args.toList ds p := hA0
  rw [Try.params3] at hA hval
  obtain ⟨v0, vs0, d0, ds0, p0', q0', hargs, rfl, rfl, h0, r0⟩ := trodAll_cons hA
  obtain ⟨v1, vs1, d1, ds1, p1', q1', rfl, rfl, rfl, h1, r1⟩ := trodAll_cons r0
  obtain ⟨rfl, rfl, rfl⟩ := trodAll_nil r1
  obtain rfl : args = #[v0, v1] := by cases args; simp_all
  obtain ⟨rfl, rfl⟩ := trodVars_none hV
  have k0 := h0
  have lt0 : ∀ x ∈ p0', x.block < W.heap.size := by obtain ⟨m, hm⟩ := k0; exact DataW.trod_lt m _ _ _ hm
  have k1 := h1
  have lt1 : ∀ x ∈ p1', x.block < W.heap.size := by obtain ⟨m, hm⟩ := k1; exact DataW.trod_lt m _ _ _ hm
  obtain ⟨z0, AL0, nl0, cl0, lk0, AA0, na0, ca0, at0, AX0, nx0, cx0, xs0, rfl, hz0, hAL0, hlk0, hnl0, hAA0, hna0, hnam0, hAX0, hnx0, hnxm0, hxo0⟩ := arg_net (hval 0 26 v0 rfl rfl) h0
  obtain ⟨A1, n1, c1, l1, rfl, hr1, hn1, hm1⟩ := arg_acts (hval 1 27 v1 rfl rfl) h1
  clear hA0 hval0
  refine (converges_law W z0 hz0 AL0 nl0 cl0 lk0 hAL0 hlk0 hnl0 AA0 na0 ca0 at0 hAA0 hna0 hnam0 AX0 nx0 cx0 xs0 hAX0 hnx0 hnxm0 hxo0 A1 n1 c1 l1 hr1 hn1 hm1).mono fun e W' ⟨he, bel⟩ => ?_
  subst he
  exact ⟨_, rfl, _, _, _, [], _, [], hW', trodAll_mk1 (shut_bool Try.underlying4 _), (trodAll_cons_mk (Below.trod frame_laidOut (by kernel_rfl) (of_decide_eq_true (by kernel_rfl)) k0 bel lt0) (trodAll_cons_mk (Below.trod frame_laidOut (by kernel_rfl) (of_decide_eq_true (by kernel_rfl)) k1 bel lt1) trodAll_mk0)), rfl, bel.frame _, fun h => by cases h⟩

theorem over : Rows.floodConvergesRow.holds Try.pinned (OpenSpec.ofChange Rows.floodConvergesSpec) :=
  OpenClaim.holds_of_wide 3 Try.f3 rfl rfl rfl rfl rfl rfl rfl ⟨rfl, rfl, rfl, rfl, rfl⟩ rfl rfl rfl rfl rfl (by kernel_rfl) Try.func3 (by kernel_rfl)
    (of_decide_eq_true (by kernel_rfl)) (by unfold Func.isWrapper; first | (rw [if_pos (by decide +kernel)]; kernel_rfl) | (rw [if_neg (by decide +kernel)]; exact ⟨rfl, rfl⟩))
    (fun os started H enc _ => lifted os started H enc)

theorem proved : Rows.FloodConvergesSaid := over
#print axioms proved
end Go.Proofs.Ytnfldccaeibcpaa.floodConverges
