/-
  The law's awake.
-/
import Derived.Test.YtpcbgmnldpbamaaLaS
namespace Go.Proofs.Ytpcbgmnldpbamaa
set_option linter.unusedVariables false
open Go.RowKit

def awX : La := ⟨3, 5, 0, false, [(1, 7, 10)], []⟩
theorem awX_valid : LaValid awX := by
  refine ⟨by simp [awX], by simp [awX], by simp [awX], by simp [awX], by simp [awX], fun h => by simp [awX] at h, ?_, fun k x hk _ => by simp [awX] at hk⟩
  intro k x hk hx
  obtain rfl : k = 0 := by simpa [awX] using hk
  obtain rfl : (1, 7, 10) = x := by simpa [awX] using hx
  exact ⟨by simp, by simp [awX], by simp, by simp, fun y h => by omega⟩
theorem aw24 : (laEnc awX).take 24 = [1, 0, 9, 0, 3, 0, 0, 0, 5, 0, 0, 0, 2, 0, 6, 0, 1, 0, 7, 0, 10, 4, 0, 2] := by decide +kernel
theorem awX_ok : LaOk awX := ⟨awX_valid, by simp [awX]⟩
def AwEnc (w : World) (e : Ending) (w' : World) : Prop :=
  ∃ A c, e = .returned (.tuple #[.slice A 26 c, .int .i64 0]) ∧ 26 ≤ c ∧ c ≤ 9223372036854775807 ∧ Bs w' A (laEnc awX) ∧ Below w.heap.size w w'
theorem aw_enc (w : World) (v : Value) (h : LaAt w v awX) : Calls Try.prog 12 #[v] w (AwEnc w) := by
  refine (enc_at w v awX h).mono ?_
  rintro e w' ⟨A, c, rfl, hown, hb⟩
  have h1 : lencB awX = laEnc awX := by unfold lencB; rw [vB_t awX_valid]; rfl
  have h2 : (laEnc awX).length = 26 := by rw [laEnc_len]; rfl
  have h3 : lencE awX = 0 := by unfold lencE; rw [vB_t awX_valid]; rfl
  obtain ⟨A', c', e, r, l, m⟩ := own_rd hown
  rw [h1, h2] at e l
  rw [h1] at r
  rw [h1, h2, h3]
  simp only [Value.slice.injEq, true_and] at e
  obtain ⟨rfl, rfl⟩ := e
  exact ⟨A, c, rfl, l, m, r, hb⟩
def AwDec (w : World) (e : Ending) (w' : World) : Prop :=
  ∃ A c B d, e = .returned (.tuple #[laV 3 5 0 false A 1 c B 0 d, .int .i64 0]) ∧ Hid (∀ W', Below w'.heap.size w' W' → LaAt W' (laV 3 5 0 false A 1 c B 0 d) awX) ∧ Below w.heap.size w w'
theorem aw_dec (w : World) (A : Option Addr) (c : Nat) (h : Bs w A (laEnc awX)) (h1 : 26 ≤ c) (h2 : c ≤ 9223372036854775807) : Calls Try.prog 19 #[.slice A 26 c] w (AwDec w) := by
  refine (ldecode_any A 26 c _ w h (by rw [laEnc_len]; rfl) h1 (by unfold maxLen; omega) (by omega)).mono ?_
  rintro e w' ⟨v, he, hown, hb⟩
  obtain ⟨e1, e2⟩ := ldec_yes (bs := laEnc awX) ⟨awX_ok, rfl⟩
  rw [e1] at he
  rw [e2] at hown
  obtain ⟨A', c', B', d', rfl, hl⟩ := hown.open
  exact ⟨A', c', B', d', he, hl, hb⟩
def AwPur (w : World) (e : Ending) (w' : World) : Prop :=
  ∃ A c B d, e = .returned (.tuple #[laV 3 5 3600 false A 0 c B 0 d, .int .i64 0]) ∧ Hid (∀ W', Below w'.heap.size w' W' → LaAt W' (laV 3 5 3600 false A 0 c B 0 d) (purgeX awX)) ∧ Below w.heap.size w w'
theorem aw_pur (w : World) (v : Value) (h : LaAt w v awX) : Calls Try.prog 13 #[v] w (AwPur w) := by
  refine (lpurge_any w v awX h).mono ?_
  rintro e w' ⟨v, he, hown, hb⟩
  have h1 : purgeV awX = purgeX awX := by unfold purgeV; rw [vB_t awX_valid]; rfl
  have h2 : purgeE awX = 0 := by unfold purgeE; rw [vB_t awX_valid]; rfl
  rw [h2] at he
  rw [h1] at hown
  obtain ⟨A', c', B', d', rfl, hl⟩ := hown.open
  exact ⟨A', c', B', d', he, hl, hb⟩
def awD : La := { awX with s := 6 }
theorem awD_valid : LaValid awD := by
  obtain ⟨h1, h2, h3, h4, h5, h6, h7, h8⟩ := awX_valid
  exact ⟨h1, by simp [awD], h3, h4, h5, h6, h7, h8⟩
theorem awP_valid : LaValid (purgeX awX) := by
  refine ⟨by simp [awX, purgeX], by simp [awX, purgeX], by simp [purgeX], by simp [purgeX], by simp [purgeX], fun _ => ⟨rfl, rfl, rfl⟩, fun k x hk _ => ?_, fun k x hk _ => ?_⟩
  · simp [purgeX] at hk
  · simp [purgeX] at hk
theorem aw_n1 : newI awD awX = 1 := by rw [newI_v awD_valid awX_valid]; simp [awD, awX, cmpI]
theorem aw_n2 : newI (purgeX awX) awX = 1 := by rw [newI_v awP_valid awX_valid]; simp [purgeX, awX]
theorem aw_n3 : newI awD (purgeX awX) = 1 := by rw [newI_v awD_valid awP_valid]; simp [awD, awX, purgeX, cmpI]
theorem aw_eq : equB awX awX = true := by simp [equB, sameB, conB]

set_option maxRecDepth 100000 in
set_option maxHeartbeats 4000000 in
theorem awake_any (w : World) : Calls Try.prog 10 #[] w fun e w' => e = .returned (.bool true) ∧ Below w.heap.size w w' := by
  have S := ((St.start w).new' #[.int .i64 1, .int .i64 7, .int .i64 10] 43 w.heap.size _ rfl rfl).new' #[.int .i64 3, .int .i64 5, .int .i64 0, .bool false, .slice (some ⟨w.heap.size, 0, none⟩) 1 1, .slice none 0 0] 25 (w.heap.size + 1) _ (by simp) rfl
  have h1 : LaAt ((w.alloc (.cells #[.int .i64 1, .int .i64 7, .int .i64 10] 43)).alloc (.cells #[.int .i64 3, .int .i64 5, .int .i64 0, .bool false, .slice (some ⟨w.heap.size, 0, none⟩) 1 1, .slice none 0 0] 25)) (laV 3 5 0 false (some ⟨w.heap.size, 0, none⟩) 1 1 none 0 0) awX :=
    ⟨_, _, _, _, rfl, (Rd.lit w #[.int .i64 1, .int .i64 7, .int .i64 10] 43).below (below_new' _ _), Rd.nil _ _, by simp [awX], by simp [maxLen], by simp [awX], by simp [maxLen], by simp [awX]⟩
  have x0 := S.c 0 0 rfl rfl
  have x1 := S.c 0 1 rfl rfl
  have x2 := S.c 0 2 rfl rfl
  have x3 := S.c 0 3 rfl rfl
  have x4 := S.c 0 4 rfl rfl
  have x5 := S.c 0 5 rfl rfl
  have E := aw_enc _ _ h1
  go_enter Try.func10, Try.ntmps10
  go_wp2_with fail
  (with_reducible refine (E).mono ?_)
  rintro e w1 ⟨A1, c1, rfl, hc1, hm1, rd1, hb⟩
  clear E
  replace S := S.call hb
  replace h1 := h1.below hb
  clear hb
  clear x0 x1 x2 x3 x4 x5
  have x0 := S.c 0 0 rfl rfl
  have x1 := S.c 0 1 rfl rfl
  have x2 := S.c 0 2 rfl rfl
  have x3 := S.c 0 3 rfl rfl
  have x4 := S.c 0 4 rfl rfl
  have x5 := S.c 0 5 rfl rfl
  have rd24 := rd1.take 24
  rw [← List.map_take, aw24] at rd24
  have hs := fun W => run_upto bytesT A1 26 c1 24 (by omega) W (P := Try.prog)
  rw [show ((24 : Nat) : Int) = 24 from rfl] at hs
  have cv := conv_bytes (n := 24) (P := Try.prog) w1 (src := 28) (dst := 9) (e := 5) Try.underlying28 Try.underlying5 Try.underlying9 (cap := c1) rd24 rfl
  have D := aw_dec w1 A1 c1 rd1 hc1 hm1
  clear rd24 rd1
  go_wp2_with fail
  (with_reducible refine (D).mono ?_)
  rintro e w2 ⟨A2, c2, B2, d2, rfl, hL2, hb⟩
  clear D hs cv
  replace S := S.call hb
  replace h1 := h1.below hb
  clear hb
  have h2 := hL2.out _ (Below.refl _ _)
  clear hL2
  replace S := S.new' #[.int .i64 3, .int .i64 5, .int .i64 0, .bool false, .slice A2 1 c2, .slice B2 0 d2] 25 (w2.heap.size) _ (by first | rfl | simp) rfl
  replace h1 := h1.below (below_new' _ (.cells #[.int .i64 3, .int .i64 5, .int .i64 0, .bool false, .slice A2 1 c2, .slice B2 0 d2] 25))
  replace h2 := h2.below (below_new' _ (.cells #[.int .i64 3, .int .i64 5, .int .i64 0, .bool false, .slice A2 1 c2, .slice B2 0 d2] 25))
  clear x0 x1 x2 x3 x4 x5
  have x0 := S.c 1 0 rfl rfl
  have x1 := S.c 1 1 rfl rfl
  have x2 := S.c 1 2 rfl rfl
  have x3 := S.c 1 3 rfl rfl
  have x4 := S.c 1 4 rfl rfl
  have x5 := S.c 1 5 rfl rfl
  have P := aw_pur _ _ h1
  go_wp2_with fail
  (with_reducible refine (P).mono ?_)
  rintro e w3 ⟨A3, c3, B3, d3, rfl, hL3, hb⟩
  clear P
  replace S := S.call hb
  replace h1 := h1.below hb
  replace h2 := h2.below hb
  clear hb
  have h3 := hL3.out _ (Below.refl _ _)
  clear hL3
  have Q := (St.start w3).new' #[.int .i64 3, .int .i64 5, .int .i64 3600, .bool false, .slice A3 0 c3, .slice B3 0 d3] 25 w3.heap.size _ rfl rfl
  have T := S.call Q.b
  clear x0 x1 x2 x3 x4 x5
  have x0 := T.c 1 0 rfl rfl
  have x1 := T.c 1 1 rfl rfl
  have x2 := T.c 1 2 rfl rfl
  have x3 := T.c 1 3 rfl rfl
  have x4 := T.c 1 4 rfl rfl
  have x5 := T.c 1 5 rfl rfl
  clear T
  replace Q := Q.new' #[.int .i64 3, .int .i64 6, .int .i64 0, .bool false, .slice (some ⟨w.heap.size, 0, none⟩) 1 1, .slice none 0 0] 25 (w3.heap.size + 1) _ (by simp) rfl
  replace S := S.call Q.b
  replace h1 := h1.below Q.b
  replace h2 := h2.below Q.b
  replace h3 := h3.below Q.b
  go_upto_region 9 with fail
  clear x0 x1 x2 x3 x4 x5
  have p0 := Q.c 0 0 rfl rfl
  have p1 := Q.c 0 1 rfl rfl
  have p2 := Q.c 0 2 rfl rfl
  have p3 := Q.c 0 3 rfl rfl
  have p4 := Q.c 0 4 rfl rfl
  have p5 := Q.c 0 5 rfl rfl
  have q0 := Q.c 1 0 rfl rfl
  have q1 := Q.c 1 1 rfl rfl
  have q2 := Q.c 1 2 rfl rfl
  have q3 := Q.c 1 3 rfl rfl
  have q4 := Q.c 1 4 rfl rfl
  have q5 := Q.c 1 5 rfl rfl
  have r0 := S.c 0 0 rfl rfl
  have r1 := S.c 0 1 rfl rfl
  have r2 := S.c 0 2 rfl rfl
  have r3 := S.c 0 3 rfl rfl
  have r4 := S.c 0 4 rfl rfl
  have r5 := S.c 0 5 rfl rfl
  have x0 := S.c 1 0 rfl rfl
  have x1 := S.c 1 1 rfl rfl
  have x2 := S.c 1 2 rfl rfl
  have x3 := S.c 1 3 rfl rfl
  have x4 := S.c 1 4 rfl rfl
  have x5 := S.c 1 5 rfl rfl
  have h4 := h1.renum 3 6 0 false
  rw [show (⟨3, 6, 0, false, awX.adj, awX.pre⟩ : La) = awD from rfl] at h4
  generalize hw4 : World.alloc (World.alloc w3 _) _ = w4 at *
  clear hw4
  have EQ := equal_any _ _ _ awX awX h1 h2
  have N1 := fun W hb => lnewer_any W _ _ awD awX (h4.below hb) (h1.below hb)
  have N2 := fun W hb => lnewer_any W _ _ (purgeX awX) awX (h3.below hb) (h1.below hb)
  have N3 := fun W hb => lnewer_any W _ _ awD (purgeX awX) (h4.below hb) (h3.below hb)
  rw [aw_eq] at EQ
  rw [aw_n1] at N1
  rw [aw_n2] at N2
  rw [aw_n3] at N3
  replace EQ := Lib.hid EQ
  replace N1 := Lib.hid N1
  replace N2 := Lib.hid N2
  replace N3 := Lib.hid N3
  clear h1 h2 h3 h4
  go_wp2_with fail
  (with_reducible refine (EQ.out).mono ?_)
  rintro e w5 ⟨rfl, hb⟩
  have B5 := hb
  replace S := S.call hb
  replace Q := Q.call hb
  clear hb EQ
  clear p0 p1 p2 p3 p4 p5
  clear q0 q1 q2 q3 q4 q5
  clear r0 r1 r2 r3 r4 r5
  clear x0 x1 x2 x3 x4 x5
  have p0 := Q.c 0 0 rfl rfl
  have p1 := Q.c 0 1 rfl rfl
  have p2 := Q.c 0 2 rfl rfl
  have p3 := Q.c 0 3 rfl rfl
  have p4 := Q.c 0 4 rfl rfl
  have p5 := Q.c 0 5 rfl rfl
  have x0 := S.c 1 0 rfl rfl
  have x1 := S.c 1 1 rfl rfl
  have x2 := S.c 1 2 rfl rfl
  have x3 := S.c 1 3 rfl rfl
  have x4 := S.c 1 4 rfl rfl
  have x5 := S.c 1 5 rfl rfl
  go_wp2_with fail
  (with_reducible refine (N1.out _ B5).mono ?_)
  rintro e w6 ⟨rfl, hb⟩
  replace S := S.call hb
  replace Q := Q.call hb
  replace B5 := B5.trans (hb.mono B5.size)
  clear hb N1
  clear p0 p1 p2 p3 p4 p5
  clear x0 x1 x2 x3 x4 x5
  have q0 := Q.c 1 0 rfl rfl
  have q1 := Q.c 1 1 rfl rfl
  have q2 := Q.c 1 2 rfl rfl
  have q3 := Q.c 1 3 rfl rfl
  have q4 := Q.c 1 4 rfl rfl
  have q5 := Q.c 1 5 rfl rfl
  have x0 := S.c 1 0 rfl rfl
  have x1 := S.c 1 1 rfl rfl
  have x2 := S.c 1 2 rfl rfl
  have x3 := S.c 1 3 rfl rfl
  have x4 := S.c 1 4 rfl rfl
  have x5 := S.c 1 5 rfl rfl
  go_wp2_with fail
  (with_reducible refine (N2.out _ B5).mono ?_)
  rintro e w7 ⟨rfl, hb⟩
  replace S := S.call hb
  replace Q := Q.call hb
  replace B5 := B5.trans (hb.mono B5.size)
  clear hb N2
  clear q0 q1 q2 q3 q4 q5
  clear x0 x1 x2 x3 x4 x5
  have p0 := Q.c 0 0 rfl rfl
  have p1 := Q.c 0 1 rfl rfl
  have p2 := Q.c 0 2 rfl rfl
  have p3 := Q.c 0 3 rfl rfl
  have p4 := Q.c 0 4 rfl rfl
  have p5 := Q.c 0 5 rfl rfl
  have q0 := Q.c 1 0 rfl rfl
  have q1 := Q.c 1 1 rfl rfl
  have q2 := Q.c 1 2 rfl rfl
  have q3 := Q.c 1 3 rfl rfl
  have q4 := Q.c 1 4 rfl rfl
  have q5 := Q.c 1 5 rfl rfl
  go_wp2_with fail
  (with_reducible refine (N3.out _ B5).mono ?_)
  rintro e w8 ⟨rfl, hb⟩
  replace S := S.call hb
  go_wp2_with fail
  go_ret
  exact ⟨rfl, S.b⟩

end Go.Proofs.Ytpcbgmnldpbamaa
