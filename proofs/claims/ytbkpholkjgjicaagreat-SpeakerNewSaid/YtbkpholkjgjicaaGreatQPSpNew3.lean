/-
  The texts Sp2, Sp3, Sp4, Sp5, Sp6, one after the other.
-/
import Derived.Test.YtbkpholkjgjicaaGreatSp1
import Derived.Test.YtbkpholkjgjicaaGreatQPSpNew2
import Derived.Test.YtbkpholkjgjicaaGreatQPSpNew0
import Derived.StillTailTactics
import Derived.Deep.DeepCutAuto
import Derived.Deep.CutBlock
import Derived.Deep.RegionLaw
import Derived.Test.YtbkpholkjgjicaaGreatQPSpNew1
import Derived.Test.YtbkpholkjgjicaaGreatTpArg
import Derived.Deep.RegionHeld3
namespace Go.Proofs.YtbkpholkjgjicaaGreat
set_option linter.unusedVariables false
open Go.RowKit Go.Maps Go.Sort

abbrev Fn0 : Fd.Fn := fun _ => none
abbrev Db0 : Db := fun _ => none
theorem lks0 : Fd.lks Fn0 = [] := by
  unfold Fd.lks
  simp
set_option maxRecDepth 100000 in
set_option maxHeartbeats 3200000 in
theorem spread0_any (w : World) (g b : Nat) (iv : Int) (f : Nat → Nat) (v : Value) (x : La) (z : Int) (h : Fd.FlAt w g b iv Fn0 f) (hv : LaAt w v x) :
    Calls Tryz.prog 47 #[.pointer (some ⟨g, 0, none⟩), v, .int .i64 z] w fun e w' => ∃ r, e = .returned (.int .i64 r) ∧ Below w.heap.size w w' := by
  have hv' := hv
  obtain ⟨A, c, B, d, rfl, -⟩ := hv
  have S := (St.start w).new' #[.int .i64 x.o, .int .i64 x.s, .int .i64 x.a, .bool x.ov, .slice A x.adj.length c, .slice B x.pre.length d] 52 w.heap.size _ rfl rfl
  have V := valid_at _ _ x (hv'.below S.b)
  have L := fun W (hb : Below w.heap.size w W) => Fd.flinks_any W g b iv Fn0 f (h.below hb)
  rw [lks0] at L
  unfold Fd.IntsPost at L
  replace V := Lib.hid V
  replace L := Lib.hid L
  replace hv' := Lib.hid hv'
  replace h := Lib.hid h
  have c0 := S.c 0 0 rfl rfl
  have c1 := S.c 0 1 rfl rfl
  have c2 := S.c 0 2 rfl rfl
  have c3 := S.c 0 3 rfl rfl
  have c4 := S.c 0 4 rfl rfl
  have c5 := S.c 0 5 rfl rfl
  go_enter Tryz.func47, Tryz.ntmps47
  go_wp2_with fail
  (with_reducible refine (V.out).mono ?_)
  rintro e w1 ⟨rfl, hb⟩
  clear c0 c1 c2 c3 c4 c5
  replace S := S.call hb
  clear hb V
  have hb9 := S.b
  cases vB x
  · go_wp2_with fail
    go_ret
    exact ⟨1, rfl, hb9⟩
  · go_wp2_with fail
    (with_reducible refine (L.out _ hb9).mono ?_)
    rintro e w2 ⟨A2, c2, rfl, ho, hb⟩
    replace S := S.call hb
    have hb9 := S.b
    clear hb ho
    go_wp2_with fail
    go_loop [19] (fun v19 => v19 = .int .i64 0) (fun _ => 0)
    case atStart => rfl
    case round =>
      obtain rfl := hrel
      go_wp2_with fail
      go_ret
      exact ⟨⟨0, rfl⟩, hb9⟩

/-! ### What stays -/
theorem DbAt.kept0 {w w' : World} {g b k : Nat} (h : DbAt w g b Db0) (hg : w.grownBy w' (some k)) (h1 : g ≠ k) (h2 : b ≠ k) : DbAt w' g b Db0 := by
  obtain ⟨⟨M, hm, he⟩, hc⟩ := h
  refine ⟨⟨M, hm.kept hg (fun e => by injection e with e; exact h2 e.symm), fun i hi => ?_⟩, ?_⟩
  · have := he i hi
    match hM : M (i : Int) with
    | none => trivial
    | some v => rw [hM] at this; exact this.elim
  · rw [World.cell?_of_block (a := ⟨g, 0, none⟩) (hg.block g (World.block_lt_of_cell? _ _ hc) (fun e => by injection e with e; exact h1 e))]
    exact hc
theorem flat_kept0 {w w' : World} {g b k : Nat} {iv : Int} {f : Nat → Nat} (h : Fd.FlAt w g b iv Fn0 f) (hg : w.grownBy w' (some k)) (h1 : g ≠ k) (h2 : b ≠ k) : Fd.FlAt w' g b iv Fn0 f := by
  have e := hg.block g (World.block_lt_of_cell? _ _ h.c0) (fun e => by injection e with e; exact h1 e)
  exact ⟨(World.cell?_of_block (a := ⟨g, 0, none⟩) e).trans h.c0, (World.cell?_of_block (a := ⟨g, 1, none⟩) e).trans h.c1, h.nb.kept hg (fun e => by injection e with e; exact h2 e.symm), fun i _ D hD => (by cases hD), fun i _ hs => (by cases hs), fun i j _ _ hs => (by cases hs)⟩
end Go.Proofs.YtbkpholkjgjicaaGreat

namespace Go.Proofs.YtbkpholkjgjicaaGreat
set_option linter.unusedVariables false
open Go.RowKit Go.Maps Go.Sort

theorem grown_cell {w w' : World} {k : Nat} (hg : w.grownBy w' (some k)) {a : Addr} {v : Value} (h : w.cell? a = some v) (hne : a.block ≠ k) : w'.cell? a = some v := by
  rw [World.cell?_of_block (hg.block a.block (World.block_lt_of_cell? _ _ h) (fun e => by injection e with e; exact hne e))]; exact h
theorem own_keptB {w w' : World} {base k : Nat} {e : TypeId} {size : Nat} {v : Value} {n : Nat} {xs : List Value} (h : w.ownsRow base e size v n xs) (hg : w.grownBy w' (some k)) (hk : k < base) : w'.ownsRow base e size v n xs := by
  refine own_rowNe h hg ?_
  rcases h.2 with ⟨rfl, _⟩ | ⟨g, cap, cur, rfl, hgb, _⟩
  · exact .inl rfl
  · right
    simp only [Value.ownBlock, ne_eq, Option.some.injEq]
    omega
theorem LaOwn.keptB {w w' : World} {base k : Nat} {v : Value} {x : La} (h : LaOwn w base v x) (hg : w.grownBy w' (some k)) (hk : k < base) : LaOwn w' base v x := by
  obtain ⟨A, c, B, d, rfl, o1, o2, hu⟩ := h
  exact ⟨A, c, B, d, rfl, own_keptB o1 hg hk, own_keptB o2 hg hk, hu⟩
def Pub0 (w : World) (gd bd : Nat) (x : La) (e : Ending) (w' : World) : Prop := e = .returned (.tuple #[]) ∧ DbAt w' gd bd (instN Db0 x) ∧ w.grownBy w' (some bd)

set_option maxRecDepth 100000 in
set_option maxHeartbeats 3200000 in
theorem publish0_any (w : World) (g gd bd gf bf go : Nat) (iv : Int) (f : Nat → Nat) (x : La) (hc12 : w.cell? ⟨g, 12, none⟩ = some (.pointer (some ⟨gd, 0, none⟩))) (hc13 : w.cell? ⟨g, 13, none⟩ = some (.pointer (some ⟨gf, 0, none⟩))) (hc14 : w.cell? ⟨g, 14, none⟩ = some (.pointer (some ⟨go, 0, none⟩)))
    (hO : OrAt w go x true) (hb1 : x.adj.length ≤ 1000000) (hb2 : x.pre.length ≤ 1000000) (hD : DbAt w gd bd Db0) (hF : Fd.FlAt w gf bf iv Fn0 f) (n1 : gf ≠ bd) (n2 : bf ≠ bd) (n3 : g ≠ bd) :
    Calls Tryz.prog 49 #[.pointer (some ⟨g, 0, none⟩)] w (Pub0 w gd bd x) := by
  have CU := current_any w go x true hO hb1 hb2
  unfold CurPost curX at CU
  rw [if_pos rfl] at CU
  have hbd := hD.lt
  replace CU := Lib.hid CU
  clear hO hb1 hb2
  replace hD := Lib.hid hD
  replace hF := Lib.hid hF
  go_enter Tryz.func49, Tryz.ntmps49
  go_wp2_with fail
  (with_reducible refine (CU.out).mono ?_)
  rintro e w1 ⟨v, rfl, hown, hb⟩
  obtain ⟨A, c, B, d, hv⟩ := hown.at.form
  subst hv
  clear CU
  have S := (((St.start w).call hb).new' #[.int .i64 x.o, .int .i64 x.s, .int .i64 x.a, .bool x.ov, .slice A x.adj.length c, .slice B x.pre.length d] 52 w1.heap.size _ rfl rfl)
  have hla := hown.below (below_new' w1 (.cells #[.int .i64 x.o, .int .i64 x.s, .int .i64 x.a, .bool x.ov, .slice A x.adj.length c, .slice B x.pre.length d] 52))
  have hsz : w.heap.size ≤ w1.heap.size := hb.size
  clear hown hb
  go_upto_region 1 with fail
  generalize World.alloc w1 _ = w2 at *
  generalize w1.heap.size = k at *
  have S3 := S.drew
  have hla3 := hla.below (Below.refl _ _).drew
  have i12 := cell_later S.b hc12
  have I := Lib.hid (dinstall_any w2.drew gd bd Db0 _ x (hD.out.below S3.b) hla3.at)
  have c0 := S.c 0 0 rfl rfl
  have c1 := S.c 0 1 rfl rfl
  have c2 := S.c 0 2 rfl rfl
  have c3 := S.c 0 3 rfl rfl
  have c4 := S.c 0 4 rfl rfl
  have c5 := S.c 0 5 rfl rfl
  go_still_tail 5, (by kernel_rfl)
  change wpList _ _ _ _ _ w2.drew
  clear c0 c1 c2 c3 c4 c5
  clear i12 S hla
  generalize w2.drew = w3 at *
  go_wp2_with fail
  (with_reducible refine (I.out).mono ?_)
  rintro e w4 ⟨rfl, hD4, hg⟩
  clear I
  have bx4 := (S3.box 0 rfl).kept hg (by intro e; injection e; omega) (by simp)
  have hla4 := hla3.keptB hg (by omega)
  have i13 := grown_cell hg (cell_later S3.b hc13) n3
  have hF4 := Lib.hid (flat_kept0 (hF.out.below S3.b) hg n1 n2)
  have hgr := (below_grownBy S3.b (some bd)).trans hg
  clear hla3 S3 hF hD hg
  replace hD4 := Lib.hid hD4
  have SP := Lib.hid (spread0_any w4.drew gf bf iv f _ x (-1) (hF4.out.below (Below.refl _ _).drew) (hla4.below (Below.refl _ _).drew).at)
  have c0 := bx4.c 0 rfl
  have c1 := bx4.c 1 rfl
  have c2 := bx4.c 2 rfl
  have c3 := bx4.c 3 rfl
  have c4 := bx4.c 4 rfl
  have c5 := bx4.c 5 rfl
  go_upto_region 2 with fail
  go_still_tail 5, (by kernel_rfl)
  change wpList _ _ _ _ _ w4.drew
  go_wp2_with fail
  (with_reducible refine (SP.out).mono ?_)
  rintro e w5 ⟨r, rfl, hb5⟩
  have hb6 : Below w4.heap.size w4 w5 := (Below.refl _ _).drew.trans hb5
  have hfin : Pub0 w gd bd x (.returned (.tuple #[])) w5 := ⟨rfl, hD4.out.below hb6, hgr.trans (below_grownBy hb6 (some bd))⟩
  clear c0 c1 c2 c3 c4 c5
  clear hb5 hb6 SP hF4 hla4 bx4 i13
  go_wp2_with fail
  exact bodyPost_end (v := .tuple #[]) (by simp [results, Tryz.results49, go_sem]) rfl hfin
end Go.Proofs.YtbkpholkjgjicaaGreat

namespace Go.Proofs.YtbkpholkjgjicaaGreat
set_option linter.unusedVariables false
open Go.RowKit Go.Maps Go.Sort

/-- A port whose neighbour is down. -/
structure Pt where
  l : Int
  o : Int
  c : Int
def ptL (p : Pt) : List Value := [.int .i64 p.l, .int .i64 p.o, .int .i64 p.c, .int .i64 0, .int .i64 0, .int .i64 0]
def ptV : List Pt → List Value
  | [] => []
  | p :: r => ptL p ++ ptV r
theorem ptV_len (l : List Pt) : (ptV l).length = l.length * 6 := by
  induction l with
  | nil => rfl
  | cons p r ih => simp only [ptV, ptL, List.length_append, List.length_cons, List.length_nil, ih]; omega
theorem ptV_append (a b : List Pt) : ptV (a ++ b) = ptV a ++ ptV b := by
  induction a with
  | nil => rfl
  | cons p r ih => simp only [List.cons_append, ptV, ih, List.append_assoc]
theorem ptV_get (l : List Pt) : ∀ (k : Nat) (hk : k < l.length) (j : Nat) (hj : j < 6), (ptV l)[6 * k + j]? = (ptL l[k])[j]? := by
  induction l with
  | nil => intro k hk; simp at hk
  | cons p r ih =>
    intro k hk j hj
    have h6 : (ptL p).length = 6 := rfl
    cases k with
    | zero => simp only [ptV, List.getElem_cons_zero]; rw [List.getElem?_append_left (by omega)]; simp
    | succ k =>
      simp only [ptV, List.getElem_cons_succ]
      rw [List.getElem?_append_right (by omega), h6, show 6 * (k + 1) + j - 6 = 6 * k + j by omega]
      exact ih k (by simpa using hk) j hj
structure PtC (w : World) (b o : Nat) (p : Pt) : Prop where
  c0 : w.cell? ⟨b, o, none⟩ = some (.int .i64 p.l)
  c1 : w.cell? ⟨b, o + 1, none⟩ = some (.int .i64 p.o)
  c2 : w.cell? ⟨b, o + 2, none⟩ = some (.int .i64 p.c)
  c3 : w.cell? ⟨b, o + 3, none⟩ = some (.int .i64 0)
  c4 : w.cell? ⟨b, o + 4, none⟩ = some (.int .i64 0)
  c4' : w.cell? ⟨b, o + 3 + 1, none⟩ = some (.int .i64 0)
  c5 : w.cell? ⟨b, o + 5, none⟩ = some (.int .i64 0)
theorem rd_pt {w : World} {A : Option Addr} {l : List Pt} (h : Rd w A (ptV l)) (hn : 0 < l.length) :
    ∃ b off, A = some ⟨b, off, none⟩ ∧ ∀ k (hk : k < l.length), PtC w b (off + k * 6) l[k] := by
  obtain ⟨b, off, e, hc⟩ := rd_at h (by rw [ptV_len]; omega)
  have key : ∀ k (hk : k < l.length) j (u : Value), j < 6 → (ptL l[k])[j]? = some u → w.cell? ⟨b, off + k * 6 + j, none⟩ = some u := fun k hk j u hj hu => by
    rw [Nat.add_assoc]
    exact hc _ _ (by rw [Nat.mul_comm k 6, ptV_get l k hk j hj]; exact hu)
  exact ⟨b, off, e, fun k hk => ⟨key k hk 0 _ (by omega) rfl, key k hk 1 _ (by omega) rfl, key k hk 2 _ (by omega) rfl, key k hk 3 _ (by omega) rfl, key k hk 4 _ (by omega) rfl, key k hk 4 _ (by omega) rfl, key k hk 5 _ (by omega) rfl⟩⟩

def laO (node : Int) (ov : Bool) : La := ⟨node, 1, 0, ov, [], []⟩
theorem laO_valid {node : Int} (h0 : 0 ≤ node) (h1 : node ≤ 63) (ov : Bool) : LaValid (laO node ov) :=
  ⟨⟨h0, h1⟩, ⟨by simp [laO], by simp [laO]⟩, ⟨by simp [laO], by simp [laO]⟩, by simp [laO], by simp [laO], by simp [laO], fun j y _ hy => by simp [laO] at hy, fun j y _ hy => by simp [laO] at hy⟩
theorem set_laO {node : Int} (h0 : 0 ≤ node) (h1 : node ≤ 63) (ov : Bool) : setP ⟨node, 0, 0, false, [], []⟩ false ⟨0, 0, 0, ov, [], []⟩ = ⟨laO node ov, true, true, 0⟩ := by
  unfold setP
  rw [if_pos (vB_t (laO_valid h0 h1 ov) : vB (num node 1 0 ⟨0, 0, 0, ov, [], []⟩) = true), if_neg (by simp), if_neg (by simp)]
  rfl
theorem grownBy_below {w w' : World} {k B : Nat} (hg : w.grownBy w' (some k)) (hk : B ≤ k) (hB : B ≤ w.heap.size) : Below B w w' :=
  ⟨hg.os, hg.tape, hg.output, hg.size, fun j hj => hg.block j (by omega) (fun e => by injection e; omega)⟩
def Orig0 (w : World) (g gd bd go : Nat) (x : La) (e : Ending) (w' : World) : Prop := e = .returned (.tuple #[]) ∧ DbAt w' gd bd (instN Db0 x) ∧ w'.cell? ⟨g, 12, none⟩ = some (.pointer (some ⟨gd, 0, none⟩)) ∧ ∀ B, B ≤ go → B ≤ bd → B ≤ w.heap.size → Below B w w'

set_option maxRecDepth 100000 in
set_option maxHeartbeats 6400000 in
theorem originate0_any (w : World) (g gd bd gf bf go : Nat) (iv : Int) (f : Nat → Nat) (node : Int) (ov : Bool) (ps : List Pt) (P : Option Addr) (c : Nat) (hn0 : 0 ≤ node) (hn1 : node ≤ 63) (hps : ps.length ≤ 100000)
    (h9 : w.cell? ⟨g, 9, none⟩ = some (.slice P ps.length c)) (hP : Rd w P (ptV ps)) (h10 : w.cell? ⟨g, 10, none⟩ = some (.bool ov)) (h11 : w.cell? ⟨g, 11, none⟩ = some (.slice none 0 0))
    (h12 : w.cell? ⟨g, 12, none⟩ = some (.pointer (some ⟨gd, 0, none⟩))) (h13 : w.cell? ⟨g, 13, none⟩ = some (.pointer (some ⟨gf, 0, none⟩))) (h14 : w.cell? ⟨g, 14, none⟩ = some (.pointer (some ⟨go, 0, none⟩)))
    (hO : OrAt w go ⟨node, 0, 0, false, [], []⟩ false) (hD : DbAt w gd bd Db0) (hF : Fd.FlAt w gf bf iv Fn0 f) (n1 : gf ≠ bd) (n2 : bf ≠ bd) (n3 : g ≠ bd) (n4 : g ≠ go) (n5 : gd ≠ go) (n6 : bd ≠ go) (n7 : gf ≠ go) (n8 : bf ≠ go) :
    Calls Tryz.prog 29 #[.pointer (some ⟨g, 0, none⟩)] w (Orig0 w g gd bd go (laO node ov)) := by
  have OS := fun W (hb : Below w.heap.size w W) => oset_any W go (coV ov none 0 0 none 0 0) ⟨node, 0, 0, false, [], []⟩ ⟨0, 0, 0, ov, [], []⟩ false (hO.below hb) ⟨none, 0, none, 0, rfl, Rd.nil _ _, Rd.nil _ _, by simp, by simp [maxLen], by simp, by simp [maxLen], by simp⟩ (by simp) (by simp) (by simp) (by simp)
  rw [set_laO hn0 hn1 ov] at OS
  unfold OrPost at OS
  have hgo := hO.lt
  have hbd := hD.lt
  replace OS := Lib.hid OS
  replace hD := Lib.hid hD
  replace hF := Lib.hid hF
  clear hO
  go_enter Tryz.func29, Tryz.ntmps29
  have k10 := cell_later (below_new' w (.cells #[.bool false, .slice none 0 0, .slice none 0 0] 129)) h10
  have k11 := cell_later (below_new' w (.cells #[.bool false, .slice none 0 0, .slice none 0 0] 129)) h11
  go_upto_region 0 with fail
  go_cut [2] (fun v2 wx => v2 = .pointer (some ⟨w.heap.size, 0, none⟩) ∧ wx = (w.alloc (.cells #[.bool ov, .slice none 0 0, .slice none 0 0] 129)).drew)
  case first =>
    go_region_law (fail)
    all_goals
      go_wp2_with fail
      go_meet
      exact ⟨rfl, rfl⟩
  case rest =>
    obtain ⟨rfl, rfl⟩ := hcut
    have S := ((St.start w).read hP).new' #[.bool ov, .slice none 0 0, .slice none 0 0] 129 w.heap.size _ rfl rfl
    replace S := S.drew
    generalize (w.alloc _).drew = w2 at *
    have i9 := cell_later S.b h9
    clear k10 k11
    have hs2 : w.heap.size < w2.heap.size := (S.box 0 rfl).lt (by simp)
    go_wp2_with fail
    clear i9
    go_loopw [21] (fun v21 wr => ∃ i : Nat, v21 = .int .i64 i ∧ i ≤ ps.length ∧ St w wr [(w.heap.size, [.bool ov, .slice none 0 0, .slice none 0 0])] [(P, ptV ps)]) (fun v21 _ => ps.length - (intOf v21).toNat)
    case atStart => exact ⟨0, rfl, by omega, S⟩
    case round =>
      clear S
      obtain ⟨i, rfl, hi, S⟩ := hrel
      by_cases hin : i < ps.length
      · obtain ⟨b, off, hB, hc⟩ := rd_pt (S.r 0 rfl) (by omega)
        subst hB
        obtain ⟨p0, p1, p2, p3, p4, p4', p5⟩ := hc i hin
        generalize ps[i] = p at *
        have S2 := S.new' #[.int .i64 p.l, .int .i64 p.o, .int .i64 p.c, .int .i64 0, .int .i64 0, .int .i64 0] 80 wr.heap.size _ rfl rfl
        have S3 := S2.keepBoxes [(w.heap.size, [.bool ov, .slice none 0 0, .slice none 0 0])] (by simp)
        have c0 := S2.c 0 0 rfl rfl
        have c1 := S2.c 0 1 rfl rfl
        have c2 := S2.c 0 2 rfl rfl
        have c3 := S2.c 0 3 rfl rfl
        have c4 := S2.c 0 4 rfl rfl
        have c5 := S2.c 0 5 rfl rfl
        clear hc
        go_wp2_with fail
        go_round
        case rel => exact ⟨i + 1, by go_num, by omega, S3⟩
        case measure => simp [intOf]; omega
      · obtain rfl : i = ps.length := by omega
        have S4 := S.drew
        have OS4 := Lib.hid (OS.out _ S4.b)
        have i14 := cell_later S.b h14
        have k0 : wr.drew.cell? ⟨w.heap.size, 0, none⟩ = some (.bool ov) ∧ wr.drew.cell? ⟨w.heap.size, 1, none⟩ = some (.slice none 0 0) ∧ wr.drew.cell? ⟨w.heap.size, 2, none⟩ = some (.slice none 0 0) ∧ wr.drew.cell? ⟨g, 14, none⟩ = some (.pointer (some ⟨go, 0, none⟩)) := ⟨S4.c 0 0 rfl rfl, S4.c 0 1 rfl rfl, S4.c 0 2 rfl rfl, i14⟩
        go_upto_region 7 with fail
        go_region_held3 (fun W => W.cell? ⟨w.heap.size, 0, none⟩ = some (.bool ov) ∧ W.cell? ⟨w.heap.size, 1, none⟩ = some (.slice none 0 0) ∧ W.cell? ⟨w.heap.size, 2, none⟩ = some (.slice none 0 0) ∧ W.cell? ⟨g, 14, none⟩ = some (.pointer (some ⟨go, 0, none⟩))) (first | assumption | go_keep)
          (first
            | (go_at_call 62; (with_reducible refine OS4.out.mono ?_); rintro e wa ⟨rfl, hOa, hga⟩; have ka : wa.cell? ⟨w.heap.size, 0, none⟩ = some (.bool ov) ∧ wa.cell? ⟨w.heap.size, 1, none⟩ = some (.slice none 0 0) ∧ wa.cell? ⟨w.heap.size, 2, none⟩ = some (.slice none 0 0) ∧ wa.cell? ⟨g, 14, none⟩ = some (.pointer (some ⟨go, 0, none⟩)) := ⟨grown_cell hga k0.1 (by simp only; omega), grown_cell hga k0.2.1 (by simp only; omega), grown_cell hga k0.2.2.1 (by simp only; omega), grown_cell hga k0.2.2.2 n4⟩))
        all_goals
          have PB := Lib.hid (publish0_any wa g gd bd gf bf go iv f (laO node ov) (grown_cell hga (cell_later S4.b h12) n4) (grown_cell hga (cell_later S4.b h13) n4) (grown_cell hga (cell_later S4.b h14) n4) hOa (by simp [laO]) (by simp [laO]) ((hD.out.below S4.b).kept0 hga n5 n6) (flat_kept0 (hF.out.below S4.b) hga n7 n8) n1 n2 n3)
          have hfin : Hid (∀ w', DbAt w' gd bd (instN Db0 (laO node ov)) → wa.grownBy w' (some bd) → Orig0 w g gd bd go (laO node ov) (.returned (.tuple #[])) w') := fun w' hd hg =>
            ⟨rfl, hd, grown_cell hg (grown_cell hga (cell_later S4.b h12) n4) n3, fun B h1 h2 h3 => (S4.b.mono h3).trans ((grownBy_below hga h1 (Nat.le_trans h3 S4.b.size)).trans (grownBy_below hg h2 (Nat.le_trans h3 (Nat.le_trans S4.b.size hga.size))))⟩
          clear hOa hga ka k0 S S4 OS4 i14
          go_wp2_with fail
          (with_reducible refine (PB.out).mono ?_)
          rintro e w9 ⟨rfl, hD9, hg9⟩
          have hf9 := hfin.out _ hD9 hg9
          clear PB hfin hD9 hg9
          go_wp2_with fail
          exact bodyPost_end (v := .tuple #[]) (by simp [results, Tryz.results29, go_sem]) rfl hf9
end Go.Proofs.YtbkpholkjgjicaaGreat

namespace Go.Proofs.YtbkpholkjgjicaaGreat
set_option linter.unusedVariables false
open Go.RowKit Go.Maps Go.Sort

/-- The timers' test. -/
def tmB (h1 h2 h3 : Int) : Bool := wiB h1 1 65536 && (wiB h2 1 65536 && wiB h3 1 65536)
theorem grownBy_none {w w' : World} (h : w.grownBy w' none) (k : Nat) : w.grownBy w' (some k) := ⟨h.os, h.tape, h.output, h.size, fun j hj _ => h.block j hj (by simp)⟩
theorem orat_kept {w w' : World} {go k : Nat} {node : Int} (h : OrAt w go ⟨node, 0, 0, false, [], []⟩ false) (hg : w.grownBy w' (some k)) (hne : go ≠ k) : OrAt w' go ⟨node, 0, 0, false, [], []⟩ false := by
  obtain ⟨A, c, B, d, h0, h1, h2, h3⟩ := h
  exact ⟨A, c, B, d, h0.kept hg (by intro e; injection e; contradiction) (by simp), Rd.nil _ _, Rd.nil _ _, h3⟩

/-- Within the last loop of New. -/
structure NpAt (w wr : World) (g gd bd gf bf go : Nat) (iv : Int) (f : Nat → Nat) (node : Int) (u0 u1 u2 u3 u4 u5 u6 u7 u8 : Value) (ov : Bool) (T0 T1 T2 : Value) (O : Option Addr) (q d : Nat) (zs : List Int) (ps : List Pt) (P : Option Addr) (c : Nat) : Prop where
  S : St w wr [(g, [u0, u1, u2, u3, u4, u5, u6, u7, u8, .slice P ps.length c, .bool ov, .slice none 0 0, .pointer (some ⟨gd, 0, none⟩), .pointer (some ⟨gf, 0, none⟩), .pointer (some ⟨go, 0, none⟩)]), (w.heap.size, [T0, T1, T2])] []
  own : wr.ownsRow (go + 1) 80 6 (.slice P ps.length c) ps.length (ptV ps)
  out : wr.ownsRow (go + 1) 3 1 (.slice O q d) q (zs.map iV)
  db : DbAt wr gd bd Db0
  fl : Fd.FlAt wr gf bf iv Fn0 f
  org : OrAt wr go ⟨node, 0, 0, false, [], []⟩ false
  hgo : go < wr.heap.size
section
variable {w wr w' : World} {g gd bd gf bf go : Nat} {iv : Int} {f : Nat → Nat} {node : Int} {u0 u1 u2 u3 u4 u5 u6 u7 u8 : Value} {ov : Bool} {T0 T1 T2 : Value} {O : Option Addr} {q d : Nat} {zs : List Int} {ps : List Pt} {P : Option Addr} {c : Nat}
theorem NpAt.below (h : NpAt w wr g gd bd gf bf go iv f node u0 u1 u2 u3 u4 u5 u6 u7 u8 ov T0 T1 T2 O q d zs ps P c) (hb : Below wr.heap.size wr w') : NpAt w w' g gd bd gf bf go iv f node u0 u1 u2 u3 u4 u5 u6 u7 u8 ov T0 T1 T2 O q d zs ps P c :=
  ⟨h.S.call hb, own_below h.own hb, own_below h.out hb, h.db.below hb, h.fl.below hb, h.org.below hb, Nat.lt_of_lt_of_le h.hgo hb.size⟩
/-- Behind the append of a port. -/
theorem NpAt.mid (h : NpAt w wr g gd bd gf bf go iv f node u0 u1 u2 u3 u4 u5 u6 u7 u8 ov T0 T1 T2 O q d zs ps P c)
    (o1 : w.heap.size < bd) (o2 : bd < gd) (o3 : gd < g) (o4 : g < bf) (o5 : bf < gf) (o6 : gf < go) (hg : wr.grownBy w' (Value.slice P ps.length c).ownBlock) :
    St w w' [(g, [u0, u1, u2, u3, u4, u5, u6, u7, u8, .slice P ps.length c, .bool ov, .slice none 0 0, .pointer (some ⟨gd, 0, none⟩), .pointer (some ⟨gf, 0, none⟩), .pointer (some ⟨go, 0, none⟩)]), (w.heap.size, [T0, T1, T2])] [] ∧ ∃ k, go + 1 ≤ k ∧ wr.grownBy w' (some k) := by
  have hk : ∃ k, go + 1 ≤ k ∧ wr.grownBy w' (some k) := by
    rcases h.own.2 with ⟨e, _⟩ | ⟨k, cap, cur, e, hkb, _⟩
    · rw [e] at hg; exact ⟨go + 1, Nat.le_refl _, grownBy_none hg _⟩
    · rw [e] at hg; exact ⟨k, hkb, hg⟩
  obtain ⟨k, hk, hgk⟩ := hk
  have hsw := h.S.b.size
  refine ⟨⟨h.S.b.trans (grownBy_below hgk (by omega) (by omega)), fun i x hx => ?_, by simp⟩, k, hk, hgk⟩
  have hb := h.S.bx i x hx
  match i, hx with
  | 0, hx => simp at hx; subst hx; exact hb.kept hgk (by simp only [ne_eq, Option.some.injEq]; omega) (by simp)
  | 1, hx => simp at hx; subst hx; exact hb.kept hgk (by simp only [ne_eq, Option.some.injEq]; omega) (by simp)
/-- .. and the store of the ports. -/
theorem NpAt.app (h : NpAt w wr g gd bd gf bf go iv f node u0 u1 u2 u3 u4 u5 u6 u7 u8 ov T0 T1 T2 O q d zs ps P c) {p : Pt} {P' : Option Addr} {c' : Nat}
    (o1 : w.heap.size < bd) (o2 : bd < gd) (o3 : gd < g) (o4 : g < bf) (o5 : bf < gf) (o6 : gf < go)
    (ho : w'.ownsRow (go + 1) 80 6 (.slice P' (ps.length + 1) c') (ps.length + 1) (ptV ps ++ ptL p)) (hg : wr.grownBy w' (Value.slice P ps.length c).ownBlock) :
    NpAt w (w'.setCell ⟨g, 9, none⟩ (.slice P' (ps.length + 1) c')) g gd bd gf bf go iv f node u0 u1 u2 u3 u4 u5 u6 u7 u8 ov T0 T1 T2 O q d zs (ps ++ [p]) P' c' := by
  obtain ⟨hS, k, hk, hgk⟩ := h.mid o1 o2 o3 o4 o5 o6 hg
  have hout := own_rowNe h.out hg (own_ne h.out h.own (by decide))
  have hsw := h.S.b.size
  have hdb := h.db.kept0 hgk (by omega) (by omega)
  have hfl := flat_kept0 h.fl hgk (by omega) (by omega)
  have horg := orat_kept h.org hgk (by omega)
  have hs := grownBy_set w' g 9 (.slice P' (ps.length + 1) c')
  have el : (ps ++ [p]).length = ps.length + 1 := by simp
  refine ⟨hS.set 0 9 _ rfl (by simp) (by omega) (by simp; omega) _ (by rw [el]; rfl), ?_, ?_, hdb.kept0 hs (by omega) (by omega), flat_kept0 hfl hs (by omega) (by omega), orat_kept horg hs (by omega), ?_⟩
  · rw [el, ptV_append]
    have := ownsRow_setCell_below (a := ⟨g, 9, none⟩) ho (by simp only; omega) (.slice P' (ps.length + 1) c')
    simpa [ptV] using this
  · exact ownsRow_setCell_below (a := ⟨g, 9, none⟩) hout (by simp only; omega) _
  · have := hgk.size
    have := h.hgo
    have := hs.size
    omega
end
def DnPost (w : World) (e : Ending) (w' : World) : Prop :=
  ∃ gd bd, e = .returned (.pointer (some ⟨gd, 0, none⟩)) ∧ DbAt w' gd bd Db0 ∧ w.heap.size ≤ bd ∧ bd < gd ∧ Below w.heap.size w w'
theorem dnew0_any (w : World) : Calls Tryz.prog 23 #[] w (DnPost w) :=
  (dnew_any w).mono fun e w' ⟨h1, h2, h3⟩ => ⟨_, _, h1, h2, Nat.le_refl _, Nat.lt_succ_self _, h3⟩
/-- Behind the first statement of New. -/
def N1 (w2 : World) (node boot h1 h2 h3 : Int) (ov : Bool) (v12 : Value) (wx : World) : Prop :=
  ∃ g gd bd u0 u1 u2, v12 = .pointer (some ⟨g, 0, none⟩) ∧ Below w2.heap.size w2 wx ∧ Box wx g [u0, u1, u2, .int .i64 node, .int .i64 boot, .int .i64 h1, .int .i64 h2, .int .i64 h3, .int .i64 0, .slice none 0 0, .bool ov, .slice none 0 0, .pointer (some ⟨gd, 0, none⟩), .pointer none, .pointer none] ∧ DbAt wx gd bd Db0 ∧ w2.heap.size ≤ bd ∧ bd < gd ∧ gd < g ∧ g < wx.heap.size
theorem n1_of {w2 wc : World} {gd bd : Nat} (hB2 : Below w2.heap.size w2 wc) (hD : DbAt wc gd bd Db0) (o1 : w2.heap.size ≤ bd) (o2 : bd < gd) (u0 u1 u2 : Value) (node boot h1 h2 h3 : Int) (ov : Bool) :
    N1 w2 node boot h1 h2 h3 ov (.pointer (some ⟨wc.heap.size, 0, none⟩)) (wc.alloc (.cells #[u0, u1, u2, .int .i64 node, .int .i64 boot, .int .i64 h1, .int .i64 h2, .int .i64 h3, .int .i64 0, .slice none 0 0, .bool ov, .slice none 0 0, .pointer (some ⟨gd, 0, none⟩), .pointer none, .pointer none] 69)) :=
  ⟨wc.heap.size, gd, bd, u0, u1, u2, rfl, hB2.alloc hB2.size _, Box.new' wc _ _ _ _ rfl rfl, hD.below (below_new' _ _), o1, o2, hD.lt.1, by simp⟩
theorem St.addBx {W w : World} {bs : List (Nat × List Value)} {rs : List (Option Addr × List Value)} {g : Nat} {cs : List Value} (S : St W w bs rs) (h : Box w g cs) : St W w ((g, cs) :: bs) rs :=
  ⟨S.b, fun i x hx => by
    cases i with
    | zero => simp at hx; subst hx; exact h
    | succ i => exact S.bx i x (by simpa using hx), S.rd⟩
theorem outs_len (t : Tp) (z : Int) : (outs t z).length ≤ 2 * t.ln.length := outK_len _ _ _
def hdI (l : List Lk) (i : Nat) : Int := match l[i / 2]? with | some x => tailL x (!decide (i % 2 = 1)) | none => -1
def coI (l : List Lk) (i : Nat) : Int := match l[i / 2]? with | some x => costL x (decide (i % 2 = 1)) | none => -1
theorem head_arc (w : World) (v : Value) (t : Tp) (h : TpAt w v t) (i : Nat) (hi : i < 2 * t.ln.length) (hm : t.ln.length ≤ 256) : Calls Tryz.prog 27 #[v, .int .i64 (i : Int)] w fun e w' => e = .returned (.int .i64 (hdI t.ln i)) ∧ Below w.heap.size w w' := by
  have := head_any w v t h (i / 2) (decide (i % 2 = 1)) (by omega) hm
  rw [arc_of] at this
  have e : hdI t.ln i = tailL t.ln[i / 2] (!decide (i % 2 = 1)) := by unfold hdI; rw [List.getElem?_eq_getElem (by omega)]
  rw [e]; exact this
theorem cost_arc (w : World) (v : Value) (t : Tp) (h : TpAt w v t) (i : Nat) (hi : i < 2 * t.ln.length) (hm : t.ln.length ≤ 256) : Calls Tryz.prog 28 #[v, .int .i64 (i : Int)] w fun e w' => e = .returned (.int .i64 (coI t.ln i)) ∧ Below w.heap.size w w' := by
  have := cost_any w v t h (i / 2) (decide (i % 2 = 1)) (by omega) hm
  rw [arc_of] at this
  have e : coI t.ln i = costL t.ln[i / 2] (decide (i % 2 = 1)) := by unfold coI; rw [List.getElem?_eq_getElem (by omega)]
  rw [e]; exact this
theorem tmB_t {a b c : Int} (h : tmB a b c = true) : 1 ≤ c ∧ c ≤ 65536 := by
  simp only [tmB, wiB, Bool.and_eq_true, decide_eq_true_eq] at h; omega
theorem outs_get (t : Tp) (z : Int) (j : Nat) (hj : j < (outs t z).length) : ∃ i : Nat, (outs t z)[j]? = some (i : Int) ∧ i < 2 * t.ln.length := by
  have hm := List.getElem_mem hj
  unfold outs outK at hm
  obtain ⟨i, hi, e⟩ := List.mem_map.1 hm
  exact ⟨i, by rw [List.getElem?_eq_getElem hj, e]; rfl, by have := (List.mem_filter.1 hi).1; simpa using this⟩
theorem ptT : ElemT Tryz.prog 65 80 (.agg #[.int .i64 0, .int .i64 0, .int .i64 0, .int .i64 0, .int .i64 0, .int .i64 0]) 6 48 := ⟨Tryz.underlying65, by kernel_rfl, rfl, by omega⟩
theorem ptL_one (p : Pt) : ∀ u ∈ ptL p, u.oneCell' = true := by
  intro u hu
  simp only [ptL, List.mem_cons, List.not_mem_nil, or_false] at hu
  rcases hu with rfl | rfl | rfl | rfl | rfl | rfl <;> rfl
def NewBad (w : World) (k : Int) (e : Ending) (w' : World) : Prop := e = .returned (.tuple #[.pointer none, .int .i64 k]) ∧ Below w.heap.size w w'
def NewOk (w : World) (x : La) (e : Ending) (w' : World) : Prop := ∃ g gd bd, e = .returned (.tuple #[.pointer (some ⟨g, 0, none⟩), .int .i64 0]) ∧ w'.cell? ⟨g, 12, none⟩ = some (.pointer (some ⟨gd, 0, none⟩)) ∧ DbAt w' gd bd (instN Db0 x) ∧ Below w.heap.size w w'
end Go.Proofs.YtbkpholkjgjicaaGreat

namespace Go.Proofs.YtbkpholkjgjicaaGreat
set_option linter.unusedVariables false
open Go.RowKit Go.Maps Go.Sort

def NewPost (w : World) (t : Tp) (node boot h1 h2 h3 : Int) (e : Ending) (w' : World) : Prop :=
  (tB t = true ∧ wiB boot 1 1073741824 = true ∧ tmB h1 h2 h3 = true → ndB t.n node = true → NewOk w (laO node (ovB t node.toNat)) e w') ∧
  (tB t = true ∧ wiB boot 1 1073741824 = true ∧ tmB h1 h2 h3 = true → ndB t.n node = false → NewBad w 2 e w') ∧
  (¬ (tB t = true ∧ wiB boot 1 1073741824 = true ∧ tmB h1 h2 h3 = true) → NewBad w 1 e w')

set_option maxRecDepth 100000 in
set_option maxHeartbeats 12800000 in
theorem snew_any (w : World) (v : Value) (t : Tp) (node boot h1 h2 h3 : Int) (ht : TpAt w v t) : Calls Tryz.prog 5 #[v, .int .i64 node, .int .i64 boot, .agg #[.int .i64 h1, .int .i64 h2, .int .i64 h3]] w (NewPost w t node boot h1 h2 h3) := by
  have ht' := ht
  obtain ⟨A, c, B, d, rfl, rA, rB, l1, l2⟩ := ht
  have S := ((St.start w).new' #[.int .i64 t.n, .slice A t.ov.length c, .slice B t.ln.length d] 25 w.heap.size _ rfl rfl).new' #[.int .i64 h1, .int .i64 h2, .int .i64 h3] 28 (w.heap.size + 1) _ (by simp) rfl
  have TV := tvalid_any _ _ t (ht'.below S.b)
  have hbad1 : Hid (∀ w', Below w.heap.size w w' → ¬ (tB t = true ∧ wiB boot 1 1073741824 = true ∧ tmB h1 h2 h3 = true) → NewPost w t node boot h1 h2 h3 (.returned (.tuple #[.pointer none, .int .i64 1])) w') := fun w' hb hn => ⟨fun h => absurd h hn, fun h => absurd h hn, fun _ => ⟨rfl, hb⟩⟩
  have hbad2 : Hid (∀ w', Below w.heap.size w w' → (tB t = true ∧ wiB boot 1 1073741824 = true ∧ tmB h1 h2 h3 = true) → ndB t.n node = false → NewPost w t node boot h1 h2 h3 (.returned (.tuple #[.pointer none, .int .i64 2])) w') := fun w' hb hn hd => ⟨fun _ h => (by rw [hd] at h; cases h), fun _ _ => ⟨rfl, hb⟩, fun h => absurd hn h⟩
  have hok : Hid (∀ w' g gd bd, Below w.heap.size w w' → (tB t = true ∧ wiB boot 1 1073741824 = true ∧ tmB h1 h2 h3 = true) → ndB t.n node = true → w'.cell? ⟨g, 12, none⟩ = some (.pointer (some ⟨gd, 0, none⟩)) → DbAt w' gd bd (instN Db0 (laO node (ovB t node.toNat))) → NewPost w t node boot h1 h2 h3 (.returned (.tuple #[.pointer (some ⟨g, 0, none⟩), .int .i64 0])) w') := fun w' g gd bd hb hn hd h12 hD => ⟨fun _ _ => ⟨g, gd, bd, rfl, h12, hD, hb⟩, fun _ h => (by rw [hd] at h; cases h), fun h => absurd hn h⟩
  obtain ⟨Q, hQ⟩ : ∃ z, NewPost w t node boot h1 h2 h3 = z := ⟨_, rfl⟩
  simp only [hQ] at hbad1 hbad2 hok ⊢
  clear hQ
  have ND := fun W => node_any t.n node (.slice A t.ov.length c) (.slice B t.ln.length d) rfl rfl W
  replace TV := Lib.hid TV
  replace ND := Lib.hid ND
  replace ht' := Lib.hid ht'
  have c0 := S.c 1 0 rfl rfl
  have c1 := S.c 1 1 rfl rfl
  have c2 := S.c 1 2 rfl rfl
  go_enter Tryz.func5, Tryz.ntmps5
  go_wp2_with fail
  (with_reducible refine (TV.out).mono ?_)
  rintro e w1 ⟨rfl, hb⟩
  clear TV c0 c1 c2
  replace S := S.call hb
  clear hb
  rcases hv : tB t with _ | _
  · have hf := hbad1.out _ S.b (by rw [hv]; simp)
    clear hv hbad1
    go_wp2_with fail
    (first | exact hf | (go_ret2; exact hf))
  rcases hbo : wiB boot 1 1073741824 with _ | _
  · have hf := hbad1.out _ S.b (by rw [hbo]; simp)
    have sw := fun W => swithin_any boot 1 1073741824 W
    rw [hbo] at sw
    clear hv hbad1 hbo
    go_wp2_with fail
    (with_reducible refine (sw _).mono ?_)
    rintro e w2 ⟨rfl, rfl⟩
    go_wp2_with fail
    (first | exact hf | (go_ret2; exact hf))
  have sw := fun W => swithin_any boot 1 1073741824 W
  rw [hbo] at sw
  have c0 := S.c 0 0 rfl rfl
  have c1 := S.c 0 1 rfl rfl
  have c2 := S.c 0 2 rfl rfl
  have ix0 : ∀ W, (Instr.index 60 (.agg #[.int .i64 h1, .int .i64 h2, .int .i64 h3]) (.int .i64 0)).run Tryz.prog W = .ok (.int .i64 h1) W := fun W => by kernel_rfl
  have ix1 : ∀ W, (Instr.index 60 (.agg #[.int .i64 h1, .int .i64 h2, .int .i64 h3]) (.int .i64 1)).run Tryz.prog W = .ok (.int .i64 h2) W := fun W => by kernel_rfl
  have ix2 : ∀ W, (Instr.index 60 (.agg #[.int .i64 h1, .int .i64 h2, .int .i64 h3]) (.int .i64 2)).run Tryz.prog W = .ok (.int .i64 h3) W := fun W => by kernel_rfl
  have W1 := fun W => swithin_any h1 1 65536 W
  have W2 := fun W => swithin_any h2 1 65536 W
  have W3 := fun W => swithin_any h3 1 65536 W
  replace hv := Lib.hid hv
  replace hbo := Lib.hid hbo
  replace W1 := Lib.hid W1
  replace W2 := Lib.hid W2
  replace W3 := Lib.hid W3
  go_wp2_with fail
  (with_reducible refine (sw _).mono ?_)
  rintro e w2 ⟨rfl, rfl⟩
  clear sw
  go_wp2_with fail
  have hbad1' : Hid (tmB h1 h2 h3 = false → Q (.returned (.tuple #[.pointer none, .int .i64 1])) w1) := fun h => hbad1.out _ S.b (by rw [h]; simp)
  clear hbad1
  go_loop [30] (fun v30 => v30 = .int .i64 0 ∨ (v30 = .int .i64 1 ∧ Hid (wiB h1 1 65536 = true)) ∨ (v30 = .int .i64 2 ∧ Hid (wiB h1 1 65536 = true ∧ wiB h2 1 65536 = true)) ∨ (v30 = .int .i64 3 ∧ Hid (tmB h1 h2 h3 = true))) (fun v30 => 3 - (intOf v30).toNat)
  case atStart => exact .inl rfl
  case round =>
    rcases hrel with rfl | ⟨rfl, ho⟩ | ⟨rfl, ho⟩ | ⟨rfl, ho⟩
    · go_wp2_with fail
      (with_reducible refine (W1.out _).mono ?_)
      rintro e w2 ⟨rfl, rfl⟩
      rcases hw : wiB h1 1 65536 with _ | _
      · have hf := hbad1'.out (by unfold tmB; rw [hw]; rfl)
        clear hw
        go_wp2_with fail
        (first | exact hf | (go_ret2; exact hf))
      · go_wp2_with fail
        go_round
        case rel => exact .inr (.inl ⟨rfl, hw⟩)
        case measure => decide
    · go_wp2_with fail
      (with_reducible refine (W2.out _).mono ?_)
      rintro e w2 ⟨rfl, rfl⟩
      rcases hw : wiB h2 1 65536 with _ | _
      · have hf := hbad1'.out (by unfold tmB; rw [hw]; simp)
        clear hw
        go_wp2_with fail
        (first | exact hf | (go_ret2; exact hf))
      · go_wp2_with fail
        go_round
        case rel => exact .inr (.inr (.inl ⟨rfl, ho.out, hw⟩))
        case measure => decide
    · go_wp2_with fail
      (with_reducible refine (W3.out _).mono ?_)
      rintro e w2 ⟨rfl, rfl⟩
      rcases hw : wiB h3 1 65536 with _ | _
      · have hf := hbad1'.out (by unfold tmB; rw [hw]; simp)
        clear hw
        go_wp2_with fail
        (first | exact hf | (go_ret2; exact hf))
      · go_wp2_with fail
        go_round
        case rel => exact .inr (.inr (.inr ⟨rfl, show _ = _ by unfold tmB; rw [ho.out.1, ho.out.2, hw]; rfl⟩))
        case measure => decide
    · clear W1 W2 W3 hbad1' ix0 ix1 ix2
      clear c0 c1 c2
      have c0 := S.c 1 0 rfl rfl
      have c1 := S.c 1 1 rfl rfl
      have c2 := S.c 1 2 rfl rfl
      go_wp2_with fail
      (with_reducible refine (ND.out _).mono ?_)
      rintro e w2 ⟨rfl, hb⟩
      clear c0 c1 c2
      clear ND
      replace S := S.call hb
      clear hb
      rcases hnd : ndB t.n node with _ | _
      · have hf := hbad2.out _ S.b ⟨hv.out, hbo.out, ho.out⟩ hnd
        clear hnd hbad2 hok
        go_wp2_with fail
        (first | exact hf | (go_ret2; exact hf))
      clear hbad2
      replace hok := fun w' g gd bd hb h12 hD => hok.out w' g gd bd hb ⟨hv.out, hbo.out, ho.out⟩ hnd h12 hD
      replace hok := Lib.hid hok
      have hn0 := ndB_t hnd
      have hb3 := tmB_t ho.out
      have hT := tB_iff.1 hv.out
      clear hv hbo ho hnd
      go_upto_region 11 with fail
      have hov : Hid (t.ov.length = 0 ∨ node.toNat < t.ov.length) := show _ ∨ _ by have := hT.ov; have := hT.n; omega
      have GC := fun W (hb : Below w.heap.size w W) => gclone_any W _ t (ht'.out.below hb) (by have := hT.ov; have := hT.n; omega) (by have := hT.ln; omega)
      have OV := fun W (hb : Below w.heap.size w W) => over_any W _ t (ht'.out.below hb) node.toNat node (by omega) hov.out (by have := hT.ov; have := hT.n; omega)
      have DN := fun W => dnew0_any W
      replace GC := Lib.hid GC
      replace OV := Lib.hid OV
      replace DN := Lib.hid DN
      go_cut [12] (fun v12 wx => N1 w2 node boot h1 h2 h3 (ovB t node.toNat) v12 wx)
      case first =>
        have T := S.drew
        clear S
        have c0 := T.c 1 0 rfl rfl
        have c1 := T.c 1 1 rfl rfl
        have c2 := T.c 1 2 rfl rfl
        have d0 := T.c 0 0 rfl rfl
        have d1 := T.c 0 1 rfl rfl
        have d2 := T.c 0 2 rfl rfl
        have tok1 : True := trivial
        have tok2 : True := trivial
        have tok3 : True := trivial
        have hz2 : w2.heap.size ≤ w2.drew.heap.size := Nat.le_refl _
        have hB2 : Below w2.heap.size w2 w2.drew := (Below.refl _ _).drew
        go_region_law
          (first
            | (clear tok1; rw [if_pos (by simp [Region.wanted])]; go_simp; (with_reducible refine (GC.out _ T.b).mono ?_); rintro e wa ⟨A5, c5, B5, d5, rfl, -, hba⟩; dsimp only; replace T := T.call hba; replace hB2 := hB2.trans (hba.mono hB2.size); (try (replace hD := hD.below hba)); clear hba; have c0 := T.c 1 0 rfl rfl; have c1 := T.c 1 1 rfl rfl; have c2 := T.c 1 2 rfl rfl; have d0 := T.c 0 0 rfl rfl; have d1 := T.c 0 1 rfl rfl; have d2 := T.c 0 2 rfl rfl)
            | (clear tok2; rw [if_pos (by simp [Region.wanted])]; go_simp; (with_reducible refine (OV.out _ T.b).mono ?_); rintro e wb ⟨rfl, hbb⟩; dsimp only; replace T := T.call hbb; replace hB2 := hB2.trans (hbb.mono hB2.size); (try (replace hD := hD.below hbb)); clear hbb; have c0 := T.c 1 0 rfl rfl; have c1 := T.c 1 1 rfl rfl; have c2 := T.c 1 2 rfl rfl; have d0 := T.c 0 0 rfl rfl; have d1 := T.c 0 1 rfl rfl; have d2 := T.c 0 2 rfl rfl)
            | (clear tok3; rw [if_pos (by simp [Region.wanted])]; go_simp; (with_reducible refine (DN.out _).mono ?_); rintro e wc ⟨gd, bd, rfl, hD, o1, o2, hbc⟩; dsimp only; replace T := T.call hbc; replace o1 := Nat.le_trans hB2.size o1; replace hB2 := hB2.trans (hbc.mono hB2.size); clear hbc; have c0 := T.c 1 0 rfl rfl; have c1 := T.c 1 1 rfl rfl; have c2 := T.c 1 2 rfl rfl; have d0 := T.c 0 0 rfl rfl; have d1 := T.c 0 1 rfl rfl; have d2 := T.c 0 2 rfl rfl))
        all_goals
          have hN := n1_of hB2 hD o1 o2 (.int .i64 t.n) (.slice A5 t.ov.length c5) (.slice B5 t.ln.length d5) node boot h1 h2 h3 (ovB t node.toNat)
          replace hN := Lib.hid hN
          clear hD o1 o2 hB2
          go_wp2_with fail
          go_meet
          exact hN.out
      case rest =>
        obtain ⟨g, gd, bd, u0, u1, u2, rfl, hB, hG, hD, o1, o2, o3, o4⟩ := hcut
        have S3 := ((S.call hB).addBx hG).keepBoxes [(g, [u0, u1, u2, .int .i64 node, .int .i64 boot, .int .i64 h1, .int .i64 h2, .int .i64 h3, .int .i64 0, .slice none 0 0, .bool (ovB t node.toNat), .slice none 0 0, .pointer (some ⟨gd, 0, none⟩), .pointer none, .pointer none]), (w.heap.size, [.int .i64 t.n, .slice A t.ov.length c, .slice B t.ln.length d]), (w.heap.size + 1, [.int .i64 h1, .int .i64 h2, .int .i64 h3])] (by simp)
        have l1' : w.heap.size + 1 < w2.heap.size := (S.box 0 rfl).lt (by simp)
        have FN := fun W => Fd.fnew_any W h3 hb3.1 hb3.2
        have ON := fun W => onew_ok W node hn0.1 (by have := hT.n; omega)
        unfold OrNew at ON
        replace FN := Lib.hid FN
        replace ON := Lib.hid ON
        clear GC OV DN S hB hG hov
        have c0 := S3.c 2 0 rfl rfl
        have c1 := S3.c 2 1 rfl rfl
        have c2 := S3.c 2 2 rfl rfl
        go_wp2_with fail
        (with_reducible refine (FN.out _).mono ?_)
        rintro e w3 ⟨rfl, hF, hb⟩
        clear c0 c1 c2
        clear FN
        replace S3 := S3.call hb
        replace hD := hD.below hb
        have z3 := hb.size
        have hfl := hF.lt
        clear hb
        generalize hbf : wc.heap.size = bf at *
        have i13 := S3.c 0 13 rfl rfl
        have f13 := S3.f 0 13 rfl rfl
        have S4 := S3.set 0 13 (.pointer (some ⟨bf + 1, 0, none⟩)) rfl (by simp) (by omega) (by simp; omega) _ rfl
        have hs := grownBy_set w3 g 13 (.pointer (some ⟨bf + 1, 0, none⟩))
        have hD4 := hD.kept0 hs (by omega) (by omega)
        have hF4 := flat_kept0 hF hs (by omega) (by omega)
        have z4 := hs.size
        clear hs hD hF S3
        go_wp2_with fail
        generalize w3.setCell ⟨g, 13, none⟩ (.pointer (some ⟨bf + 1, 0, none⟩)) = w4 at *
        clear i13 f13
        (with_reducible refine (ON.out _).mono ?_)
        rintro e w5 ⟨rfl, hO, hb⟩
        clear ON
        replace S4 := S4.call hb
        replace hD4 := hD4.below hb
        replace hF4 := hF4.below hb
        have z5 := hb.size
        have hol := hO.lt
        clear hb
        generalize hgo : w4.heap.size = go at *
        have i14 := S4.c 0 14 rfl rfl
        have f14 := S4.f 0 14 rfl rfl
        have S5 := S4.set 0 14 (.pointer (some ⟨go, 0, none⟩)) rfl (by simp) (by omega) (by simp; omega) _ rfl
        have hs := grownBy_set w5 g 14 (.pointer (some ⟨go, 0, none⟩))
        have hD5 := hD4.kept0 hs (by omega) (by omega)
        have hF5 := flat_kept0 hF4 hs (by omega) (by omega)
        have hO5 := orat_kept hO hs (by omega)
        have z6 := hs.size
        have OU := Lib.hid (out_any (w5.setCell ⟨g, 14, none⟩ (.pointer (some ⟨go, 0, none⟩))) _ t (ht'.out.below S5.b) node (by have := hT.ln; omega))
        have c0 := S4.c 1 0 rfl rfl
        have c1 := S4.c 1 1 rfl rfl
        have c2 := S4.c 1 2 rfl rfl
        clear hs hD4 hF4 hO S4
        go_wp2_with fail
        generalize w5.setCell ⟨g, 14, none⟩ (.pointer (some ⟨go, 0, none⟩)) = w6 at *
        clear c0 c1 c2
        clear i14 f14
        (with_reducible refine (OU.out).mono ?_)
        rintro e w7 ⟨O, q5, rfl, ho, hb⟩
        clear OU
        replace S5 := S5.call hb
        have hN : NpAt w w7 g gd bd (bf + 1) bf go h3 (fun _ => 0) node u0 u1 u2 (.int .i64 node) (.int .i64 boot) (.int .i64 h1) (.int .i64 h2) (.int .i64 h3) (.int .i64 0) (ovB t node.toNat) (.int .i64 t.n) (.slice A t.ov.length c) (.slice B t.ln.length d) O (outs t node).length q5 (outs t node) [] none 0 :=
          ⟨S5.keepBoxes _ (by simp), World.ownsRow_nil _ _ _ _, own_mono ho (by omega), hD5.below hb, hF5.below hb, hO5.below hb, by have := hb.size; omega⟩
        clear ho hb S5 hD5 hF5 hO5
        have hog := outs_get t node
        have hol2 := outs_len t node
        have HD := fun W (hb : Below w.heap.size w W) (i : Nat) (hi : i < 2 * t.ln.length) => head_arc W _ t (ht'.out.below hb) i hi (by have := hT.ln; omega)
        have CO := fun W (hb : Below w.heap.size w W) (i : Nat) (hi : i < 2 * t.ln.length) => cost_arc W _ t (ht'.out.below hb) i hi (by have := hT.ln; omega)
        have hm256 := hT.ln
        have hn64 : node ≤ 63 := by have := hT.n; omega
        clear ht' hT
        replace hog := Lib.hid hog
        replace HD := Lib.hid HD
        replace CO := Lib.hid CO
        generalize outs t node = zs at *
        generalize hq : zs.length = q at *
        replace hq := Lib.hid hq
        replace hbf := Lib.hid hbf
        replace hgo := Lib.hid hgo
        go_wp2_with fail
        have n1 : w.heap.size < bd := by omega
        have n4 : g < bf := by omega
        have n6 : bf + 1 < go := by omega
        have n0 : go ≤ w7.heap.size := Nat.le_of_lt hN.hgo
        have hq512 : q ≤ 512 := by omega
        clear z3 z4 z5 z6 hfl hol o1 o4 l1'
        go_loopw [73] (fun v73 wr => ∃ (j : Nat) (ps : List Pt) (P : Option Addr) (cc : Nat), v73 = .int .i64 j ∧ j ≤ q ∧ ps.length = j ∧ NpAt w wr g gd bd (bf + 1) bf go h3 (fun _ => 0) node u0 u1 u2 (.int .i64 node) (.int .i64 boot) (.int .i64 h1) (.int .i64 h2) (.int .i64 h3) (.int .i64 0) (ovB t node.toNat) (.int .i64 t.n) (.slice A t.ov.length c) (.slice B t.ln.length d) O q q5 zs ps P cc) (fun v73 _ => q - (intOf v73).toNat)
        case atStart => exact ⟨0, [], none, 0, rfl, by omega, rfl, hN⟩
        case round =>
          clear hN n0
          obtain ⟨j, ps, P, cc, rfl, hj, hps, N⟩ := hrel
          by_cases hjn : j < q
          · obtain ⟨b9, o9, e9, hc9⟩ := rd_at (own_rdp N.out).1 (by simp only [List.length_map]; rw [hq.out]; omega)
            subst e9
            obtain ⟨i, ei, hi⟩ := hog.out j hjn
            obtain ⟨z, hz⟩ : ∃ z : Int, (i : Int) = z := ⟨_, rfl⟩
            have k9 := hc9 j (.int .i64 z) (by rw [List.getElem?_map, ei, hz]; rfl)
            have HDi := fun W (hb : Below w.heap.size w W) => HD.out W hb i hi
            have COi := fun W (hb : Below w.heap.size w W) => CO.out W hb i hi
            rw [hz] at HDi COi
            obtain ⟨l, hl⟩ : ∃ l, z.tdiv 2 = l := ⟨_, rfl⟩
            have hl0 : 0 ≤ l ∧ l ≤ 256 := by rw [← hl, Int.tdiv_eq_ediv_of_nonneg (by omega)]; omega
            obtain ⟨hl0, hl1⟩ := hl0
            generalize hdI t.ln i = hd at *
            generalize coI t.ln i = co at *
            replace HDi := Lib.hid HDi
            replace COi := Lib.hid COi
            clear hc9 ei HD CO
            replace hps := Lib.hid hps
            replace hz := Lib.hid hz
            go_upto_region 17 with fail
            replace N := N.below (Below.refl _ _).drew
            have i9 := N.S.c 0 9 rfl rfl
            have c0 := N.S.c 1 0 rfl rfl
            have c1 := N.S.c 1 1 rfl rfl
            have c2 := N.S.c 1 2 rfl rfl
            have tok1 : True := trivial
            have tok2 : True := trivial
            go_region_law
              (first
                | (clear tok1; rw [if_pos (by simp [Region.wanted])]; go_simp; (with_reducible refine (HDi.out _ N.S.b).mono ?_); rintro e wa ⟨rfl, hba⟩; dsimp only; replace N := N.below hba; clear hba; have i9 := N.S.c 0 9 rfl rfl; have c0 := N.S.c 1 0 rfl rfl; have c1 := N.S.c 1 1 rfl rfl; have c2 := N.S.c 1 2 rfl rfl; have rd3 := Rd.lit wa #[.int .i64 (IntKind.i64.wrap l), .int .i64 hd, .int .i64 co, .int .i64 0, .int .i64 0, .int .i64 0] 80; have N3 := N.below (below_new' wa (.cells #[.int .i64 (IntKind.i64.wrap l), .int .i64 hd, .int .i64 co, .int .i64 0, .int .i64 0, .int .i64 0] 80)); have i93 := N3.S.c 0 9 rfl rfl)
                | (clear tok2; rw [if_pos (by simp [Region.wanted])]; go_simp; (with_reducible refine (COi.out _ N.S.b).mono ?_); rintro e wa ⟨rfl, hba⟩; dsimp only; replace N := N.below hba; clear hba; have i9 := N.S.c 0 9 rfl rfl; have c0 := N.S.c 1 0 rfl rfl; have c1 := N.S.c 1 1 rfl rfl; have c2 := N.S.c 1 2 rfl rfl; have rd3 := Rd.lit wa #[.int .i64 (IntKind.i64.wrap l), .int .i64 hd, .int .i64 co, .int .i64 0, .int .i64 0, .int .i64 0] 80; have N3 := N.below (below_new' wa (.cells #[.int .i64 (IntKind.i64.wrap l), .int .i64 hd, .int .i64 co, .int .i64 0, .int .i64 0, .int .i64 0] 80)); have i93 := N3.S.c 0 9 rfl rfl)
                | (refine step_appG (o := ⟨some 92, _, _, _, _, _⟩) rfl ptT (.tmp 81) (.tmp 91) (by rfl) (go + 1) (by rfl) N3.own (m := 1) (by rfl) (by rfl) (show Rd _ _ (ptL ⟨IntKind.i64.wrap l, hd, co⟩) from rd3) (ptL_one ⟨IntKind.i64.wrap l, hd, co⟩) (by simp only [maxLen]; rw [hps.out]; omega) (by rw [hps.out]; omega) N3.hgo _ _ rfl rfl ?_; intro v6 w6 o6 hbel6 hg6; obtain ⟨P6, c6, rfl, _⟩ := own_rd o6; obtain ⟨S6, -⟩ := N3.mid n1 o2 o3 n4 (Nat.lt_succ_self _) n6 hg6; have N9 := N3.app (p := ⟨IntKind.i64.wrap l, hd, co⟩) n1 o2 o3 n4 (Nat.lt_succ_self _) n6 o6 hg6; have i69 := S6.c 0 9 rfl rfl; have f69 := S6.f 0 9 rfl rfl))
            all_goals
              replace N9 := Lib.hid N9
              clear N3 rd3 i93 o6 S6 hbel6 hg6 HDi COi i9
              go_wp2_with fail
              go_round
              case rel => exact ⟨j + 1, ps ++ [⟨IntKind.i64.wrap l, hd, co⟩], P6, c6, by go_num, by omega, by simp [hps.out], N9.out⟩
              case measure => simp [intOf]; omega
          · have hjq : j = q := by omega
            subst hjq
            have OR := Lib.hid (originate0_any wr g gd bd (bf + 1) bf go h3 (fun _ => 0) node (ovB t node.toNat) ps P cc hn0.1 hn64 (by omega) (N.S.c 0 9 rfl rfl) (own_rdp N.own).1 (N.S.c 0 10 rfl rfl) (N.S.c 0 11 rfl rfl) (N.S.c 0 12 rfl rfl) (N.S.c 0 13 rfl rfl) (N.S.c 0 14 rfl rfl) N.org N.db N.fl (by omega) (by omega) (by omega) (by omega) (by omega) (by omega) (by omega) (by omega))
            have hf := fun w9 hD9 hc9 (hB9 : ∀ B, B ≤ go → B ≤ bd → B ≤ wr.heap.size → Below B wr w9) => hok.out w9 g gd bd (N.S.b.trans (hB9 w.heap.size (by omega) (by omega) N.S.b.size)) hc9 hD9
            replace hf := Lib.hid hf
            clear hog HD CO hok N
            replace hps := Lib.hid hps
            go_wp2_with fail
            (with_reducible refine (OR.out).mono ?_)
            rintro e w9 ⟨rfl, hD9, hc9, hB9⟩
            have hf9 := hf.out w9 hD9 hc9 hB9
            clear hf OR hD9 hc9 hB9
            go_wp2_with fail
            (first | exact hf9 | (go_ret2; exact hf9))
end Go.Proofs.YtbkpholkjgjicaaGreat
