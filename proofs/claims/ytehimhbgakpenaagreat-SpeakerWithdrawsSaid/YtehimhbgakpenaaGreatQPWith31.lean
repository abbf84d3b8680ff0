/-
  The texts MsU, one after the other.
-/
import Derived.Test.YtehimhbgakpenaaGreatQPWith29
import Derived.Test.YtehimhbgakpenaaGreatQPWith14
namespace Go.Proofs.YtehimhbgakpenaaGreat
set_option linter.unusedVariables false
open Go.RowKit Go.Sort
theorem uiN_of {bs:List UInt8} (h1:1 ≤ bs.length) (h8:bs.length ≤ 8):uiN bs = uintB bs ∧ uiE bs = 0:=by
 unfold uiN uiE
 rw [if_pos ⟨h1,h8⟩,if_pos ⟨h1,h8⟩]
 exact ⟨rfl,rfl⟩
theorem uintB_small {bs:List UInt8} (h:bs.length ≤ 4):uintB bs < 4294967296:=by
 have:=uintB_lt bs
 have h2:256 ^ bs.length ≤ 256 ^ 4:=Nat.pow_le_pow_right (by omega) h
 omega
set_option maxRecDepth 100000 in
set_option maxHeartbeats 1600000 in
theorem unum_any (w:World) (g:Nat) (A:Option Addr) (n c:Nat) (bs:List UInt8) (hg:w.cell? ⟨g,0,none⟩ = some (.slice A n c)) (hr:Bs w A bs) (hn:bs.length = n) (hnc:n ≤ c) (lo k:Nat) (z1 z2:Int) (h1:z1 = lo) (h2:z2 = k) (hk1:1 ≤ k) (hk4:k ≤ 4) (hl:lo + k ≤ n) (hn2:n ≤ 100000) (q:Nat) (hq:uintB ((bs.drop lo).take k) = q) :
  Calls Tryz.prog 112 #[.int .i64 z1,.int .i64 z2,.pointer (some ⟨g,0,none⟩)] w fun e w'=>e = .returned (.int .i64 (q:Int)) ∧ w = w':=by
 subst h1 h2
 have hlen:((bs.drop lo).take k).length = k:=by rw [List.length_take,List.length_drop]; omega
 have hsl:=run_sub bytesT A n c lo (lo + k) (by omega) (by omega) w
 have rd:=(hr.sub lo c (by simp; omega)).take k
 rw [← List.map_drop,← List.map_take] at rd
 obtain ⟨e1,e2⟩:=uiN_of (bs:=(bs.drop lo).take k) (by omega) (by omega)
 have U:=uint_any (subA A lo c) k (c - lo) _ w rd hlen (by omega)
 have hqs:=uintB_small (bs:=(bs.drop lo).take k) (by omega)
 rw [e1,e2,hq] at U
 rw [hq] at hqs
 generalize subA A lo c = A2 at *
 replace U:=Lib.hid U
 rw [Int.natCast_add,Nat.add_sub_cancel_left] at hsl
 clear hr rd e1 e2 hq hlen
 replace hn:=Lib.hid hn
 go_enter Tryz.func112,Tryz.ntmps112
 go_wp2_with fail
 (with_reducible refine (U.out).mono ?_)
 rintro e w1 ⟨rfl,rfl⟩
 go_wp2_with fail
 go_ret
 exact ⟨rfl,rfl⟩
abbrev z10:List Value:=[.int .i64 0,.int .i64 0,.int .i64 0,.int .i64 0,.int .i64 0,.int .i64 0,.int .i64 0,.bool false,.slice none 0 0,.slice none 0 0]
theorem St.setM {W w:World} {g:Nat} {bs:List (Nat × List Value)} {rs:List (Option Addr × List Value)} {a0 a1 a2 a3 a4 a5 a6 a7 a8 a9:Value} (S:St W w ((g,[a0,a1,a2,a3,a4,a5,a6,a7,a8,a9]) :: bs) rs) (u0 u1 u2 u3 u4 u5 u6 u7 u8 u9:Value) (hg:W.heap.size ≤ g) (hd:∀ x ∈ bs,x.1 ≠ g) :
  St W ((((((((((w.setCell ⟨g,0,none⟩ u0).setCell ⟨g,1,none⟩ u1).setCell ⟨g,2,none⟩ u2).setCell ⟨g,3,none⟩ u3).setCell ⟨g,4,none⟩ u4).setCell ⟨g,5,none⟩ u5).setCell ⟨g,6,none⟩ u6).setCell ⟨g,7,none⟩ u7).setCell ⟨g,8,none⟩ u8).setCell ⟨g,9,none⟩ u9) ((g,[u0,u1,u2,u3,u4,u5,u6,u7,u8,u9]) :: bs) rs :=
 (((((((((S.set 0 0 u0 rfl (by simp) hg hd _ rfl).set 0 1 u1 rfl (by simp) hg hd _ rfl).set 0 2 u2 rfl (by simp) hg hd _ rfl).set 0 3 u3 rfl (by simp) hg hd _ rfl).set 0 4 u4 rfl (by simp) hg hd _ rfl).set 0 5 u5 rfl (by simp) hg hd _ rfl).set 0 6 u6 rfl (by simp) hg hd _ rfl).set 0 7 u7 rfl (by simp) hg hd _ rfl).set 0 8 u8 rfl (by simp) hg hd _ rfl).set 0 9 u9 rfl (by simp) hg hd _ rfl
theorem own_setM {w:World} {base:Nat} {e:TypeId} {size:Nat} {v:Value} {n:Nat} {xs:List Value} (h:w.ownsRow base e size v n xs) {g:Nat} (hg:g < base) (u0 u1 u2 u3 u4 u5 u6 u7 u8 u9:Value) :
  ((((((((((w.setCell ⟨g,0,none⟩ u0).setCell ⟨g,1,none⟩ u1).setCell ⟨g,2,none⟩ u2).setCell ⟨g,3,none⟩ u3).setCell ⟨g,4,none⟩ u4).setCell ⟨g,5,none⟩ u5).setCell ⟨g,6,none⟩ u6).setCell ⟨g,7,none⟩ u7).setCell ⟨g,8,none⟩ u8).setCell ⟨g,9,none⟩ u9).ownsRow base e size v n xs :=
 ownsRow_setCell_below (a:=⟨g,9,none⟩) (ownsRow_setCell_below (a:=⟨g,8,none⟩) (ownsRow_setCell_below (a:=⟨g,7,none⟩) (ownsRow_setCell_below (a:=⟨g,6,none⟩) (ownsRow_setCell_below (a:=⟨g,5,none⟩) (ownsRow_setCell_below (a:=⟨g,4,none⟩) (ownsRow_setCell_below (a:=⟨g,3,none⟩) (ownsRow_setCell_below (a:=⟨g,2,none⟩) (ownsRow_setCell_below (a:=⟨g,1,none⟩) (ownsRow_setCell_below (a:=⟨g,0,none⟩) h hg _) hg _) hg _) hg _) hg _) hg _) hg _) hg _) hg _) hg _
theorem own_setO {w:World} {base:Nat} {e:TypeId} {size:Nat} {v:Value} {n:Nat} {xs:List Value} (h:w.ownsRow base e size v n xs) {g:Nat} (hg:g < base) (u0 u1 u2 u3 u4 u5:Value) :
  ((((((w.setCell ⟨g,4,none⟩ u0).setCell ⟨g,5,none⟩ u1).setCell ⟨g,6,none⟩ u2).setCell ⟨g,7,none⟩ u3).setCell ⟨g,8,none⟩ u4).setCell ⟨g,9,none⟩ u5).ownsRow base e size v n xs :=
 ownsRow_setCell_below (a:=⟨g,9,none⟩) (ownsRow_setCell_below (a:=⟨g,8,none⟩) (ownsRow_setCell_below (a:=⟨g,7,none⟩) (ownsRow_setCell_below (a:=⟨g,6,none⟩) (ownsRow_setCell_below (a:=⟨g,5,none⟩) (ownsRow_setCell_below (a:=⟨g,4,none⟩) h hg _) hg _) hg _) hg _) hg _) hg _
def UnpPost (w:World) (E:Int) (m:Ms) (e:Ending) (w':World):Prop :=
 ∃ v,e = .returned (.tuple #[v,.int .i64 E]) ∧ MsOwn w' w.heap.size v m ∧ Below w.heap.size w w'
set_option maxRecDepth 100000 in
set_option maxHeartbeats 12800000 in
theorem sunpack_any (A:Option Addr) (n cap:Nat) (bs:List UInt8) (w:World) (hr:Bs w A bs) (hn:bs.length = n) (hcap:n ≤ cap) (hm:cap ≤ maxLen) (hn2:n ≤ 100000) :
  Calls Tryz.prog 65 #[.slice A n cap] w (UnpPost w (unpE bs) (unpM bs)):=by
 have S:St w (w.alloc (.cells #[.int .i64 0,.int .i64 0,.int .i64 0,.int .i64 0,.int .i64 0,.int .i64 0,.int .i64 0,.bool false,.slice none 0 0,.slice none 0 0] 142)) [(w.heap.size,z10)] [(A,bs.map u8v)]:=((St.start w).read hr).new #[.int .i64 0,.int .i64 0,.int .i64 0,.int .i64 0,.int .i64 0,.int .i64 0,.int .i64 0,.bool false,.slice none 0 0,.slice none 0 0] 142
 have DK:=cdecode_any A n cap bs _ (S.r 0 rfl) hn hcap hm (by omega)
 obtain ⟨E,hE⟩:∃ E,unpE bs = E:=⟨_,rfl⟩
 obtain ⟨V,hV⟩:∃ V,unpM bs = V:=⟨_,rfl⟩
 rw [hE,hV]
 unfold unpE at hE
 unfold unpM at hV
 have hfail:Hid (∀ E w9,Below w.heap.size w w9 → UnpPost w E msZero (.returned (.tuple #[.agg #[.int .i64 0,.int .i64 0,.int .i64 0,.int .i64 0,.int .i64 0,.int .i64 0,.int .i64 0,.bool false,.slice none 0 0,.slice none 0 0],.int .i64 E])) w9):=fun E w9 S9=>⟨_,rfl,msZero_own _ _,S9⟩
 rcases hD:decO bs with _ | l
 ·rw [hD] at hE hV
  simp only at hE hV
  subst hE hV
  have hDE:Hid (decE bs = 4):=by show _ = _; unfold decE; rw [hD]; rfl
  clear hD
  replace hn:=Lib.hid hn
  go_enter Tryz.func65,Tryz.ntmps65
  go_wp2_with fail
  (with_reducible refine DK.mono ?_)
  rintro e w2 ⟨v,rs,rfl,hown,hrs,hd,hb2⟩
  rw [hDE.out]
  replace hd:=Lib.hid hd
  replace S:=S.call hb2
  have c0:=S.c 0 0 rfl rfl
  have c1:=S.c 0 1 rfl rfl
  have c2:=S.c 0 2 rfl rfl
  have c3:=S.c 0 3 rfl rfl
  have c4:=S.c 0 4 rfl rfl
  have c5:=S.c 0 5 rfl rfl
  have c6:=S.c 0 6 rfl rfl
  have c7:=S.c 0 7 rfl rfl
  have c8:=S.c 0 8 rfl rfl
  have c9:=S.c 0 9 rfl rfl
  have f0:=S.f 0 0 rfl rfl
  have f1:=S.f 0 1 rfl rfl
  have f2:=S.f 0 2 rfl rfl
  have f3:=S.f 0 3 rfl rfl
  have f4:=S.f 0 4 rfl rfl
  have f5:=S.f 0 5 rfl rfl
  have f6:=S.f 0 6 rfl rfl
  have f7:=S.f 0 7 rfl rfl
  have f8:=S.f 0 8 rfl rfl
  have f9:=S.f 0 9 rfl rfl
  go_wp2_with fail
  have S9:=S.setM (.int .i64 0) (.int .i64 0) (.int .i64 0) (.int .i64 0) (.int .i64 0) (.int .i64 0) (.int .i64 0) (.bool false) (.slice none 0 0) (.slice none 0 0) (Nat.le_refl _) (by simp)
  exact bodyPost_ret (v:=.tuple #[.agg #[.int .i64 0,.int .i64 0,.int .i64 0,.int .i64 0,.int .i64 0,.int .i64 0,.int .i64 0,.bool false,.slice none 0 0,.slice none 0 0],.int .i64 4]) (by simp [results,Tryz.results65,go_sem,c0,c1,c2,c3,c4,c5,c6,c7,c8,c9]) rfl (hfail.out _ _ S9.b)
 have hDE:Hid (decE bs = 0):=by show _ = _; unfold decE; rw [hD]; rfl
 have hDL:Hid (decL bs = l):=by show _ = _; unfold decL; rw [hD]; rfl
 have hal:=(decO_all _ bs (Nat.le_refl _) l hD).2.1
 rw [hD] at hE hV
 clear hD
 by_cases h1:¬ l.length = 1
 ·have hE4:E = 4 ∧ V = msZero:=by
   rcases l with _ | ⟨a,_ | ⟨b,l⟩⟩
   ·simp only at hE hV; exact ⟨hE.symm,hV.symm⟩
   ·simp at h1
   ·simp only at hE hV; exact ⟨hE.symm,hV.symm⟩
  obtain ⟨rfl,rfl⟩:=hE4
  clear hE hV
  replace hn:=Lib.hid hn
  replace h1:=Lib.hid h1
  go_enter Tryz.func65,Tryz.ntmps65
  go_wp2_with fail
  (with_reducible refine DK.mono ?_)
  rintro e w2 ⟨v,rs,rfl,hown,hrs,hd,hb2⟩
  rw [hDE.out]
  rw [hDL.out] at hd
  have hrl:¬ rs.length = 1:=fun h=>h1.out (by rw [← hd,List.length_map]; exact h)
  obtain ⟨A1,c1',rfl,_⟩:=own_rd hown
  replace hd:=Lib.hid hd
  replace S:=S.call hb2
  have hrl2:((rs.length:Int) != 1) = true:=by simp; omega
  clear hown hrs hrl
  have c0:=S.c 0 0 rfl rfl
  have c1:=S.c 0 1 rfl rfl
  have c2:=S.c 0 2 rfl rfl
  have c3:=S.c 0 3 rfl rfl
  have c4:=S.c 0 4 rfl rfl
  have c5:=S.c 0 5 rfl rfl
  have c6:=S.c 0 6 rfl rfl
  have c7:=S.c 0 7 rfl rfl
  have c8:=S.c 0 8 rfl rfl
  have c9:=S.c 0 9 rfl rfl
  have f0:=S.f 0 0 rfl rfl
  have f1:=S.f 0 1 rfl rfl
  have f2:=S.f 0 2 rfl rfl
  have f3:=S.f 0 3 rfl rfl
  have f4:=S.f 0 4 rfl rfl
  have f5:=S.f 0 5 rfl rfl
  have f6:=S.f 0 6 rfl rfl
  have f7:=S.f 0 7 rfl rfl
  have f8:=S.f 0 8 rfl rfl
  have f9:=S.f 0 9 rfl rfl
  go_wp2_with fail
  have S9:=S.setM (.int .i64 0) (.int .i64 0) (.int .i64 0) (.int .i64 0) (.int .i64 0) (.int .i64 0) (.int .i64 0) (.bool false) (.slice none 0 0) (.slice none 0 0) (Nat.le_refl _) (by simp)
  exact bodyPost_ret (v:=.tuple #[.agg #[.int .i64 0,.int .i64 0,.int .i64 0,.int .i64 0,.int .i64 0,.int .i64 0,.int .i64 0,.bool false,.slice none 0 0,.slice none 0 0],.int .i64 4]) (by simp [results,Tryz.results65,go_sem,c0,c1,c2,c3,c4,c5,c6,c7,c8,c9]) rfl (hfail.out _ _ S9.b)
 obtain ⟨r,rfl⟩:=List.length_eq_one_iff.1 (Decidable.not_not.1 h1)
 simp only at hE hV
 clear h1
 replace hn:=Lib.hid hn
 replace hE:=Lib.hid hE
 replace hV:=Lib.hid hV
 go_enter Tryz.func65,Tryz.ntmps65
 go_wp2_with fail
 (with_reducible refine DK.mono ?_)
 rintro e w2 ⟨v,rs,rfl,hown,hrs,hd,hb2⟩
 rw [hDE.out]
 rw [hDL.out] at hd
 obtain ⟨rc,rfl⟩:=List.length_eq_one_iff.1 (show rs.length = 1 by have:=congrArg List.length hd; simpa using this)
 have hrc:=hrs rc (by simp)
 have hdr:dat rc = r:=by simpa using hd
 obtain ⟨g3,c3,rfl,hg3,hg3l,hown3⟩:=own_form hown (by simp)
 replace S:=S.call hb2
 obtain ⟨t,X,nx,cx,bx⟩:=rc
 simp only [dat] at hdr
 subst hdr
 have hok:=hrc.ok
 obtain ⟨k1,k2,k3,k4⟩:=hok
 simp only at k1 k2 k3 k4
 have rd3:=(own_rdp hown3).1
 have z0:=rd3.at 0 (u:=.int .i64 t) rfl
 have z1:=rd3.at 1 (u:=.slice X nx cx) rfl
 have hbxl:bx.length ≤ 100000:=by
  have:=congrArg List.length hal
  simp [encAll,enc1_len] at this
  have:=hn.out
  omega
 clear hal
 have T:=(S.new' #[.int .i64 t,.int .i64 0,.int .i64 0,.int .i64 0,.int .i64 0,.int .i64 0,.int .i64 0,.bool false,.slice none 0 0,.slice none 0 0] 142 w2.heap.size _ rfl rfl).new' #[.slice X nx cx] 89 (w2.heap.size + 1) _ (by simp) rfl
 have k1':=(k1.below (below_new' _ (.cells #[.int .i64 t,.int .i64 0,.int .i64 0,.int .i64 0,.int .i64 0,.int .i64 0,.int .i64 0,.bool false,.slice none 0 0,.slice none 0 0] 142))).below (below_new' _ (.cells #[.slice X nx cx] 89))
 clear hown hrs hrc hown3 rd3 DK hd
 go_upto_region 6 with fail
 clear z0 z1
 have hlt2:=S.lt 0 rfl (by simp)
 have hk1b:∀ ad,X = some ad → 0 < bx.length → ad.block < w2.heap.size:=fun ad e hp=>by
  obtain ⟨ad',e',hb⟩:=Rd.block k1 (by simpa using hp)
  rw [e] at e'; injection e' with e'; subst e'; exact hb
 generalize World.alloc (World.alloc _ _) _ = w3 at *
 generalize w2.heap.size = g4 at *
 have hval:Hid (∀ W,Bs W X bx → ∀ j u,Bs (W.setCell ⟨g4,j,none⟩ u) X bx):=fun W h j u=>Rd.keptR h (grownBy_set _ _ _ _) (fun hp ad e e2=>by have:=hk1b ad e (by simpa using hp); injection e2 with e2; omega)
 clear S hr k1 hk1b
 replace k2:=Lib.hid k2
 have T0:=T
 by_cases ht1:t = 1
 ·subst ht1
  by_cases h10:bx.length = 10
  ·obtain rfl:nx = 10:=by rw [← k2.out,h10]
   have U1:=fun W (hc:W.cell? ⟨g4 + 1,0,none⟩ = some (.slice X 10 cx)) (hb:Bs W X bx)=>unum_any W (g4 + 1) X 10 cx bx hc hb h10 k3 0 2 0 2 rfl rfl (by omega) (by omega) (by omega) (by omega) _ rfl
   have U2:=fun W (hc:W.cell? ⟨g4 + 1,0,none⟩ = some (.slice X 10 cx)) (hb:Bs W X bx)=>unum_any W (g4 + 1) X 10 cx bx hc hb h10 k3 2 4 2 4 rfl rfl (by omega) (by omega) (by omega) (by omega) _ rfl
   have U3:=fun W (hc:W.cell? ⟨g4 + 1,0,none⟩ = some (.slice X 10 cx)) (hb:Bs W X bx)=>unum_any W (g4 + 1) X 10 cx bx hc hb h10 k3 6 4 6 4 rfl rfl (by omega) (by omega) (by omega) (by omega) _ rfl
   have hR:unpR (1,bx) = ⟨1,uintB ((bx.drop 0).take 2),uintB ((bx.drop 2).take 4),uintB ((bx.drop 6).take 4),laZero⟩:=by unfold unpR; rw [if_pos rfl,List.drop_zero]
   generalize uintB ((bx.drop 0).take 2) = q1 at *
   generalize uintB ((bx.drop 2).take 4) = q2 at *
   generalize uintB ((bx.drop 6).take 4) = q3 at *
   have hE2:(if msB ⟨1,q1,q2,q3,laZero⟩ = true then 0 else 4) = E:=by
    rw [← hE.out]; unfold unpE1; rw [if_pos rfl,hR]
    by_cases hm:msB ⟨1,q1,q2,q3,laZero⟩ = true
    ·rw [if_pos hm,if_pos ⟨h10,hm⟩]
    ·rw [if_neg hm,if_neg (fun h=>hm h.2)]
   have hV2:(if E = 0 then ⟨1,q1,q2,q3,laZero⟩ else msZero) = V:=by rw [← hV.out,hE.out,hR]
   clear hE hV hR
   obtain ⟨mb,hmb⟩:∃ z,msB ⟨1,q1,q2,q3,laZero⟩ = z:=⟨_,rfl⟩
   rw [hmb] at hE2
   have VA:∀ W,Calls Tryz.prog 116 #[.agg #[.int .i64 1,.int .i64 q1,.int .i64 q2,.int .i64 q3,.int .i64 0,.int .i64 0,.int .i64 0,.bool false,.slice none 0 0,.slice none 0 0]] W fun e w'=>e = .returned (.bool mb) ∧ Below W.heap.size W w':=fun W=>by
    have:=svalid_any W _ ⟨1,q1,q2,q3,laZero⟩ ⟨none,0,none,0,rfl,(laZero_own W W.heap.size).at⟩
    rw [hmb] at this
    exact this
   clear hmb h10
   replace hE2:=Lib.hid hE2
   replace hV2:=Lib.hid hV2
   replace U1:=Lib.hid U1
   replace U2:=Lib.hid U2
   replace U3:=Lib.hid U3
   replace VA:=Lib.hid VA
   have v0:=T.c 0 0 rfl rfl
   have a0:=T.c 1 0 rfl rfl
   have a1:=T.c 1 1 rfl rfl
   have a2:=T.c 1 2 rfl rfl
   have a3:=T.c 1 3 rfl rfl
   have a4:=T.c 1 4 rfl rfl
   have a5:=T.c 1 5 rfl rfl
   have a6:=T.c 1 6 rfl rfl
   have a7:=T.c 1 7 rfl rfl
   have a8:=T.c 1 8 rfl rfl
   have a9:=T.c 1 9 rfl rfl
   have e0:=T.f 1 0 rfl rfl
   have e1:=T.f 1 1 rfl rfl
   have e2:=T.f 1 2 rfl rfl
   have e3:=T.f 1 3 rfl rfl
   have e4:=T.f 1 4 rfl rfl
   have e5:=T.f 1 5 rfl rfl
   have e6:=T.f 1 6 rfl rfl
   have e7:=T.f 1 7 rfl rfl
   have e8:=T.f 1 8 rfl rfl
   have e9:=T.f 1 9 rfl rfl
   go_wp2_with fail
   (with_reducible refine (U1.out _ v0 k1').mono ?_)
   rintro e w4 ⟨rfl,rfl⟩
   go_wp2_with fail
   have k2':=hval.out _ k1' 1 (.int .i64 (q1:Int))
   have T2:=T.set 1 1 (.int .i64 (q1:Int)) rfl (by simp) (by omega) (by simp; omega) _ rfl
   clear a0 a1 a2 a3 a4 a5 a6 a7 a8 a9
   clear e0 e1 e2 e3 e4 e5 e6 e7 e8 e9
   clear v0 k1' U1
   generalize World.setCell _ _ _ = w4 at *
   have v0:=T2.c 0 0 rfl rfl
   have a0:=T2.c 1 0 rfl rfl
   have a1:=T2.c 1 1 rfl rfl
   have a2:=T2.c 1 2 rfl rfl
   have a3:=T2.c 1 3 rfl rfl
   have a4:=T2.c 1 4 rfl rfl
   have a5:=T2.c 1 5 rfl rfl
   have a6:=T2.c 1 6 rfl rfl
   have a7:=T2.c 1 7 rfl rfl
   have a8:=T2.c 1 8 rfl rfl
   have a9:=T2.c 1 9 rfl rfl
   have e0:=T2.f 1 0 rfl rfl
   have e1:=T2.f 1 1 rfl rfl
   have e2:=T2.f 1 2 rfl rfl
   have e3:=T2.f 1 3 rfl rfl
   have e4:=T2.f 1 4 rfl rfl
   have e5:=T2.f 1 5 rfl rfl
   have e6:=T2.f 1 6 rfl rfl
   have e7:=T2.f 1 7 rfl rfl
   have e8:=T2.f 1 8 rfl rfl
   have e9:=T2.f 1 9 rfl rfl
   (with_reducible refine (U2.out _ v0 k2').mono ?_)
   rintro e w5 ⟨rfl,rfl⟩
   go_wp2_with fail
   have k3':=hval.out _ k2' 2 (.int .i64 (q2:Int))
   have T3:=T2.set 1 2 (.int .i64 (q2:Int)) rfl (by simp) (by omega) (by simp; omega) _ rfl
   clear a0 a1 a2 a3 a4 a5 a6 a7 a8 a9
   clear e0 e1 e2 e3 e4 e5 e6 e7 e8 e9
   clear v0 k2' U2
   generalize World.setCell _ _ _ = w5 at *
   have v0:=T3.c 0 0 rfl rfl
   have a0:=T3.c 1 0 rfl rfl
   have a1:=T3.c 1 1 rfl rfl
   have a2:=T3.c 1 2 rfl rfl
   have a3:=T3.c 1 3 rfl rfl
   have a4:=T3.c 1 4 rfl rfl
   have a5:=T3.c 1 5 rfl rfl
   have a6:=T3.c 1 6 rfl rfl
   have a7:=T3.c 1 7 rfl rfl
   have a8:=T3.c 1 8 rfl rfl
   have a9:=T3.c 1 9 rfl rfl
   have e0:=T3.f 1 0 rfl rfl
   have e1:=T3.f 1 1 rfl rfl
   have e2:=T3.f 1 2 rfl rfl
   have e3:=T3.f 1 3 rfl rfl
   have e4:=T3.f 1 4 rfl rfl
   have e5:=T3.f 1 5 rfl rfl
   have e6:=T3.f 1 6 rfl rfl
   have e7:=T3.f 1 7 rfl rfl
   have e8:=T3.f 1 8 rfl rfl
   have e9:=T3.f 1 9 rfl rfl
   (with_reducible refine (U3.out _ v0 k3').mono ?_)
   rintro e w6 ⟨rfl,rfl⟩
   have T4:=T3.set 1 3 (.int .i64 (q3:Int)) rfl (by simp) (by omega) (by simp; omega) _ rfl
   go_upto_region 22 with fail
   clear a0 a1 a2 a3 a4 a5 a6 a7 a8 a9
   clear e0 e1 e2 e3 e4 e5 e6 e7 e8 e9
   clear v0 k3' U3
   generalize World.setCell _ _ _ = w6 at *
   have a0:=T4.c 1 0 rfl rfl
   have a1:=T4.c 1 1 rfl rfl
   have a2:=T4.c 1 2 rfl rfl
   have a3:=T4.c 1 3 rfl rfl
   have a4:=T4.c 1 4 rfl rfl
   have a5:=T4.c 1 5 rfl rfl
   have a6:=T4.c 1 6 rfl rfl
   have a7:=T4.c 1 7 rfl rfl
   have a8:=T4.c 1 8 rfl rfl
   have a9:=T4.c 1 9 rfl rfl
   go_wp2_with fail
   (with_reducible refine (VA.out _).mono ?_)
   rintro e w7 ⟨rfl,hb⟩
   clear a0 a1 a2 a3 a4 a5 a6 a7 a8 a9
   replace T:=T4.call hb
   clear T2 T3 T4 hb VA T0
   cases mb with
   | false =>
     obtain rfl:E = 4:=hE2.out.symm
     obtain rfl:V = msZero:=hV2.out.symm
     have c0:=T.c 2 0 rfl rfl
     have c1:=T.c 2 1 rfl rfl
     have c2:=T.c 2 2 rfl rfl
     have c3:=T.c 2 3 rfl rfl
     have c4:=T.c 2 4 rfl rfl
     have c5:=T.c 2 5 rfl rfl
     have c6:=T.c 2 6 rfl rfl
     have c7:=T.c 2 7 rfl rfl
     have c8:=T.c 2 8 rfl rfl
     have c9:=T.c 2 9 rfl rfl
     have f0:=T.f 2 0 rfl rfl
     have f1:=T.f 2 1 rfl rfl
     have f2:=T.f 2 2 rfl rfl
     have f3:=T.f 2 3 rfl rfl
     have f4:=T.f 2 4 rfl rfl
     have f5:=T.f 2 5 rfl rfl
     have f6:=T.f 2 6 rfl rfl
     have f7:=T.f 2 7 rfl rfl
     have f8:=T.f 2 8 rfl rfl
     have f9:=T.f 2 9 rfl rfl
     have S9:=(T.keepBoxes [(w.heap.size,z10)] (by simp)).setM (.int .i64 0) (.int .i64 0) (.int .i64 0) (.int .i64 0) (.int .i64 0) (.int .i64 0) (.int .i64 0) (.bool false) (.slice none 0 0) (.slice none 0 0) (Nat.le_refl _) (by simp)
     go_wp2_with fail
     exact bodyPost_ret (v:=.tuple #[.agg #[.int .i64 0,.int .i64 0,.int .i64 0,.int .i64 0,.int .i64 0,.int .i64 0,.int .i64 0,.bool false,.slice none 0 0,.slice none 0 0],.int .i64 4]) (by simp [results,Tryz.results65,go_sem,c0,c1,c2,c3,c4,c5,c6,c7,c8,c9]) rfl (hfail.out _ _ S9.b)
   | true =>
     obtain rfl:E = 0:=hE2.out.symm
     obtain rfl:V = ⟨1,q1,q2,q3,laZero⟩:=hV2.out.symm
     have a0:=T.c 1 0 rfl rfl
     have a1:=T.c 1 1 rfl rfl
     have a2:=T.c 1 2 rfl rfl
     have a3:=T.c 1 3 rfl rfl
     have a4:=T.c 1 4 rfl rfl
     have a5:=T.c 1 5 rfl rfl
     have a6:=T.c 1 6 rfl rfl
     have a7:=T.c 1 7 rfl rfl
     have a8:=T.c 1 8 rfl rfl
     have a9:=T.c 1 9 rfl rfl
     have c0:=T.c 2 0 rfl rfl
     have c1:=T.c 2 1 rfl rfl
     have c2:=T.c 2 2 rfl rfl
     have c3:=T.c 2 3 rfl rfl
     have c4:=T.c 2 4 rfl rfl
     have c5:=T.c 2 5 rfl rfl
     have c6:=T.c 2 6 rfl rfl
     have c7:=T.c 2 7 rfl rfl
     have c8:=T.c 2 8 rfl rfl
     have c9:=T.c 2 9 rfl rfl
     have f0:=T.f 2 0 rfl rfl
     have f1:=T.f 2 1 rfl rfl
     have f2:=T.f 2 2 rfl rfl
     have f3:=T.f 2 3 rfl rfl
     have f4:=T.f 2 4 rfl rfl
     have f5:=T.f 2 5 rfl rfl
     have f6:=T.f 2 6 rfl rfl
     have f7:=T.f 2 7 rfl rfl
     have f8:=T.f 2 8 rfl rfl
     have f9:=T.f 2 9 rfl rfl
     have S9:=(T.keepBoxes [(w.heap.size,z10)] (by simp)).setM (.int .i64 1) (.int .i64 q1) (.int .i64 q2) (.int .i64 q3) (.int .i64 0) (.int .i64 0) (.int .i64 0) (.bool false) (.slice none 0 0) (.slice none 0 0) (Nat.le_refl _) (by simp)
     go_wp2_with fail
     exact bodyPost_ret (v:=.tuple #[.agg #[.int .i64 1,.int .i64 q1,.int .i64 q2,.int .i64 q3,.int .i64 0,.int .i64 0,.int .i64 0,.bool false,.slice none 0 0,.slice none 0 0],.int .i64 0]) (by simp [results,Tryz.results65,go_sem,c0,c1,c2,c3,c4,c5,c6,c7,c8,c9]) rfl ⟨_,rfl,⟨none,0,none,0,rfl,laZero_own _ _⟩,S9.b⟩
  ·have hE2:4 = E:=by
    rw [← hE.out]; unfold unpE1; rw [if_pos rfl,if_neg (fun h=>h10 h.1)]
   obtain rfl:=hE2
   obtain rfl:V = msZero:=by rw [← hV.out,hE.out,if_neg (by omega)]
   have hnx:((nx:Int) != 10) = true:=by have:=k2.out; simp; omega
   clear h10 hE hV k1' T0
   have v0:=T.c 0 0 rfl rfl
   have a0:=T.c 1 0 rfl rfl
   have a1:=T.c 1 1 rfl rfl
   have a2:=T.c 1 2 rfl rfl
   have a3:=T.c 1 3 rfl rfl
   have a4:=T.c 1 4 rfl rfl
   have a5:=T.c 1 5 rfl rfl
   have a6:=T.c 1 6 rfl rfl
   have a7:=T.c 1 7 rfl rfl
   have a8:=T.c 1 8 rfl rfl
   have a9:=T.c 1 9 rfl rfl
   have c0:=T.c 2 0 rfl rfl
   have c1:=T.c 2 1 rfl rfl
   have c2:=T.c 2 2 rfl rfl
   have c3:=T.c 2 3 rfl rfl
   have c4:=T.c 2 4 rfl rfl
   have c5:=T.c 2 5 rfl rfl
   have c6:=T.c 2 6 rfl rfl
   have c7:=T.c 2 7 rfl rfl
   have c8:=T.c 2 8 rfl rfl
   have c9:=T.c 2 9 rfl rfl
   have f0:=T.f 2 0 rfl rfl
   have f1:=T.f 2 1 rfl rfl
   have f2:=T.f 2 2 rfl rfl
   have f3:=T.f 2 3 rfl rfl
   have f4:=T.f 2 4 rfl rfl
   have f5:=T.f 2 5 rfl rfl
   have f6:=T.f 2 6 rfl rfl
   have f7:=T.f 2 7 rfl rfl
   have f8:=T.f 2 8 rfl rfl
   have f9:=T.f 2 9 rfl rfl
   have S9:=(T.keepBoxes [(w.heap.size,z10)] (by simp)).setM (.int .i64 0) (.int .i64 0) (.int .i64 0) (.int .i64 0) (.int .i64 0) (.int .i64 0) (.int .i64 0) (.bool false) (.slice none 0 0) (.slice none 0 0) (Nat.le_refl _) (by simp)
   go_wp2_with fail
   exact bodyPost_ret (v:=.tuple #[.agg #[.int .i64 0,.int .i64 0,.int .i64 0,.int .i64 0,.int .i64 0,.int .i64 0,.int .i64 0,.bool false,.slice none 0 0,.slice none 0 0],.int .i64 4]) (by simp [results,Tryz.results65,go_sem,c0,c1,c2,c3,c4,c5,c6,c7,c8,c9]) rfl (hfail.out _ _ S9.b)
 by_cases ht2:t = 2 ∨ t = 3
 ·by_cases h4:bx.length < 4
  ·obtain rfl:E = 4:=by
    rw [← hE.out]; unfold unpE1; rw [if_neg ht1,if_pos ht2,if_pos h4]
   obtain rfl:V = msZero:=by rw [← hV.out,hE.out,if_neg (by omega)]
   have hnx:(nx:Int) < 4:=by have:=k2.out; omega
   clear h4 hE hV k1' T0
   rcases ht2 with rfl | rfl
   all_goals
    have v0:=T.c 0 0 rfl rfl
    have a0:=T.c 1 0 rfl rfl
    have a1:=T.c 1 1 rfl rfl
    have a2:=T.c 1 2 rfl rfl
    have a3:=T.c 1 3 rfl rfl
    have a4:=T.c 1 4 rfl rfl
    have a5:=T.c 1 5 rfl rfl
    have a6:=T.c 1 6 rfl rfl
    have a7:=T.c 1 7 rfl rfl
    have a8:=T.c 1 8 rfl rfl
    have a9:=T.c 1 9 rfl rfl
    have c0:=T.c 2 0 rfl rfl
    have c1:=T.c 2 1 rfl rfl
    have c2:=T.c 2 2 rfl rfl
    have c3:=T.c 2 3 rfl rfl
    have c4:=T.c 2 4 rfl rfl
    have c5:=T.c 2 5 rfl rfl
    have c6:=T.c 2 6 rfl rfl
    have c7:=T.c 2 7 rfl rfl
    have c8:=T.c 2 8 rfl rfl
    have c9:=T.c 2 9 rfl rfl
    have f0:=T.f 2 0 rfl rfl
    have f1:=T.f 2 1 rfl rfl
    have f2:=T.f 2 2 rfl rfl
    have f3:=T.f 2 3 rfl rfl
    have f4:=T.f 2 4 rfl rfl
    have f5:=T.f 2 5 rfl rfl
    have f6:=T.f 2 6 rfl rfl
    have f7:=T.f 2 7 rfl rfl
    have f8:=T.f 2 8 rfl rfl
    have f9:=T.f 2 9 rfl rfl
    have S9:=(T.keepBoxes [(w.heap.size,z10)] (by simp)).setM (.int .i64 0) (.int .i64 0) (.int .i64 0) (.int .i64 0) (.int .i64 0) (.int .i64 0) (.int .i64 0) (.bool false) (.slice none 0 0) (.slice none 0 0) (Nat.le_refl _) (by simp)
    go_wp2_with fail
    exact bodyPost_ret (v:=.tuple #[.agg #[.int .i64 0,.int .i64 0,.int .i64 0,.int .i64 0,.int .i64 0,.int .i64 0,.int .i64 0,.bool false,.slice none 0 0,.slice none 0 0],.int .i64 4]) (by simp [results,Tryz.results65,go_sem,c0,c1,c2,c3,c4,c5,c6,c7,c8,c9]) rfl (hfail.out _ _ S9.b)
  ·have hnx:4 ≤ nx:=by have:=k2.out; omega
   have hnx2:¬ (nx:Int) < 4:=by omega
   have hnx3:nx ≤ 100000:=by have:=k2.out; omega
   have hsl:∀ W,(Instr.slice 89 (.slice X nx cx) (some (.int .i64 4)) none none).run Tryz.prog W = .ok (.slice (subA X 4 cx) (nx - 4) (cx - 4)) W:=fun W=>run_from bytesT X nx cx 4 hnx W
   have hr4:∀ W,Bs W X bx → Bs W (subA X 4 cx) (bx.drop 4):=fun W h=>by
    have:=Rd.sub h 4 cx (by simpa [k2.out] using k3)
    rwa [← List.map_drop] at this
   have hl4:(bx.drop 4).length = nx - 4:=by rw [List.length_drop,k2.out]
   have CK:=fun W h=>check_any (subA X 4 cx) (nx - 4) (cx - 4) (bx.drop 4) W (hr4 W h) hl4 (by omega)
   have LD:=fun W h=>ldecode_any (subA X 4 cx) (nx - 4) (cx - 4) (bx.drop 4) W (hr4 W h) hl4 (by omega) (by unfold maxLen; omega) (by omega)
   generalize subA X 4 cx = X4 at *
   by_cases hc:chk (bx.drop 4) = false
   ·obtain rfl:E = 5:=by
     rw [← hE.out]; unfold unpE1; rw [if_neg ht1,if_pos ht2,if_neg h4,if_pos hc]
    obtain rfl:V = msZero:=by rw [← hV.out,hE.out,if_neg (by omega)]
    rw [hc] at CK
    replace CK:=Lib.hid CK
    clear h4 hE hV T0 LD hr4 hl4
    rcases ht2 with rfl | rfl
    all_goals
     have v0:=T.c 0 0 rfl rfl
     have a0:=T.c 1 0 rfl rfl
     have a1:=T.c 1 1 rfl rfl
     have a2:=T.c 1 2 rfl rfl
     have a3:=T.c 1 3 rfl rfl
     have a4:=T.c 1 4 rfl rfl
     have a5:=T.c 1 5 rfl rfl
     have a6:=T.c 1 6 rfl rfl
     have a7:=T.c 1 7 rfl rfl
     have a8:=T.c 1 8 rfl rfl
     have a9:=T.c 1 9 rfl rfl
     go_wp2_with fail
     (with_reducible refine (CK.out _ k1').mono ?_)
     rintro e w4 ⟨rfl,rfl⟩
     have c0:=T.c 2 0 rfl rfl
     have c1:=T.c 2 1 rfl rfl
     have c2:=T.c 2 2 rfl rfl
     have c3:=T.c 2 3 rfl rfl
     have c4:=T.c 2 4 rfl rfl
     have c5:=T.c 2 5 rfl rfl
     have c6:=T.c 2 6 rfl rfl
     have c7:=T.c 2 7 rfl rfl
     have c8:=T.c 2 8 rfl rfl
     have c9:=T.c 2 9 rfl rfl
     have f0:=T.f 2 0 rfl rfl
     have f1:=T.f 2 1 rfl rfl
     have f2:=T.f 2 2 rfl rfl
     have f3:=T.f 2 3 rfl rfl
     have f4:=T.f 2 4 rfl rfl
     have f5:=T.f 2 5 rfl rfl
     have f6:=T.f 2 6 rfl rfl
     have f7:=T.f 2 7 rfl rfl
     have f8:=T.f 2 8 rfl rfl
     have f9:=T.f 2 9 rfl rfl
     have S9:=(T.keepBoxes [(w.heap.size,z10)] (by simp)).setM (.int .i64 0) (.int .i64 0) (.int .i64 0) (.int .i64 0) (.int .i64 0) (.int .i64 0) (.int .i64 0) (.bool false) (.slice none 0 0) (.slice none 0 0) (Nat.le_refl _) (by simp)
     go_wp2_with fail
     exact bodyPost_ret (v:=.tuple #[.agg #[.int .i64 0,.int .i64 0,.int .i64 0,.int .i64 0,.int .i64 0,.int .i64 0,.int .i64 0,.bool false,.slice none 0 0,.slice none 0 0],.int .i64 5]) (by simp [results,Tryz.results65,go_sem,c0,c1,c2,c3,c4,c5,c6,c7,c8,c9]) rfl (hfail.out _ _ S9.b)
   ·have hc1:chk (bx.drop 4) = true:=by simpa using hc
    have hE2:(if msB (unpR (t,bx)) = true then 0 else 4) = E:=by
     rw [← hE.out]; unfold unpE1; rw [if_neg ht1,if_pos ht2,if_neg h4,if_neg hc]
    have hV2:(if E = 0 then unpR (t,bx) else msZero) = V:=by rw [← hV.out,hE.out]
    have hR:unpR (t,bx) = ⟨t,0,uintB ((bx.drop 0).take 4),0,ldecV (bx.drop 4)⟩:=by unfold unpR; rw [if_neg ht1,List.drop_zero]
    rw [hR] at hE2 hV2
    rw [hc1] at CK
    have U1:=fun W (hc:W.cell? ⟨g4 + 1,0,none⟩ = some (.slice X nx cx)) (hb:Bs W X bx)=>unum_any W (g4 + 1) X nx cx bx hc hb k2.out k3 0 4 0 4 rfl rfl (by omega) (by omega) (by omega) (by omega) _ rfl
    unfold LdecPost at LD
    generalize uintB ((bx.drop 0).take 4) = q1 at *
    generalize ldecV (bx.drop 4) = y at *
    generalize ldecE (bx.drop 4) = ye at *
    obtain ⟨mb,hmb⟩:∃ z,msB ⟨t,0,q1,0,y⟩ = z:=⟨_,rfl⟩
    rw [hmb] at hE2
    have VA:∀ W A5 c5 B5 d5,LaAt W (laV y.o y.s y.a y.ov A5 y.adj.length c5 B5 y.pre.length d5) y → Calls Tryz.prog 116 #[.agg #[.int .i64 t,.int .i64 0,.int .i64 q1,.int .i64 0,.int .i64 y.o,.int .i64 y.s,.int .i64 y.a,.bool y.ov,.slice A5 y.adj.length c5,.slice B5 y.pre.length d5]] W fun e w'=>e = .returned (.bool mb) ∧ Below W.heap.size W w':=fun W A5 c5 B5 d5 h=>by
     have:=svalid_any W _ ⟨t,0,q1,0,y⟩ ⟨A5,c5,B5,d5,rfl,h⟩
     rw [hmb] at this
     exact this
    replace CK:=Lib.hid CK
    replace LD:=Lib.hid LD
    replace U1:=Lib.hid U1
    replace VA:=Lib.hid VA
    replace hE2:=Lib.hid hE2
    replace hV2:=Lib.hid hV2
    have tt:((t == 2) = true ∧ (t == 3) = false) ∨ ((t == 2) = false ∧ (t == 3) = true):=by rcases ht2 with rfl | rfl <;> simp
    have t1:(t == 1) = false:=by simpa using ht1
    clear h4 hE hV T0 hr4 hl4 hc hc1 hmb hR ht1 ht2
    rcases tt with ⟨t2,t3⟩ | ⟨t2,t3⟩
    all_goals
     have v0:=T.c 0 0 rfl rfl
     have a0:=T.c 1 0 rfl rfl
     have a1:=T.c 1 1 rfl rfl
     have a2:=T.c 1 2 rfl rfl
     have a3:=T.c 1 3 rfl rfl
     have a4:=T.c 1 4 rfl rfl
     have a5:=T.c 1 5 rfl rfl
     have a6:=T.c 1 6 rfl rfl
     have a7:=T.c 1 7 rfl rfl
     have a8:=T.c 1 8 rfl rfl
     have a9:=T.c 1 9 rfl rfl
     have e0:=T.f 1 0 rfl rfl
     have e1:=T.f 1 1 rfl rfl
     have e2:=T.f 1 2 rfl rfl
     have e3:=T.f 1 3 rfl rfl
     have e4:=T.f 1 4 rfl rfl
     have e5:=T.f 1 5 rfl rfl
     have e6:=T.f 1 6 rfl rfl
     have e7:=T.f 1 7 rfl rfl
     have e8:=T.f 1 8 rfl rfl
     have e9:=T.f 1 9 rfl rfl
     go_wp2_with fail
     (with_reducible refine (CK.out _ k1').mono ?_)
     rintro e w4 ⟨rfl,rfl⟩
     go_wp2_with fail
     (with_reducible refine (U1.out _ v0 k1').mono ?_)
     rintro e w4 ⟨rfl,rfl⟩
     have k2':=hval.out _ k1' 2 (.int .i64 (q1:Int))
     have T2:=T.set 1 2 (.int .i64 (q1:Int)) rfl (by simp) (by omega) (by simp; omega) _ rfl
     go_upto_region 21 with fail
     clear a0 a1 a2 a3 a4 a5 a6 a7 a8 a9
     clear e0 e1 e2 e3 e4 e5 e6 e7 e8 e9
     clear v0 k1' U1 CK T
     generalize World.setCell _ _ _ = w4 at *
     have v0:=T2.c 0 0 rfl rfl
     go_wp2_with fail
     (with_reducible refine (LD.out _ k2').mono ?_)
     rintro e w5 ⟨v5,rfl,hown,hb⟩
     clear LD v0 k2'
     have hsz4:=T2.lt 1 rfl (by simp)
     replace T2:=T2.call hb
     have hsz5:=hb.size
     clear hb
     obtain ⟨A5,c5,B5,d5,rfl,o1,o2,hu⟩:=hown
     have a0:=T2.c 1 0 rfl rfl
     have a1:=T2.c 1 1 rfl rfl
     have a2:=T2.c 1 2 rfl rfl
     have a3:=T2.c 1 3 rfl rfl
     have a4:=T2.c 1 4 rfl rfl
     have a5:=T2.c 1 5 rfl rfl
     have a6:=T2.c 1 6 rfl rfl
     have a7:=T2.c 1 7 rfl rfl
     have a8:=T2.c 1 8 rfl rfl
     have a9:=T2.c 1 9 rfl rfl
     have e0:=T2.f 1 0 rfl rfl
     have e1:=T2.f 1 1 rfl rfl
     have e2:=T2.f 1 2 rfl rfl
     have e3:=T2.f 1 3 rfl rfl
     have e4:=T2.f 1 4 rfl rfl
     have e5:=T2.f 1 5 rfl rfl
     have e6:=T2.f 1 6 rfl rfl
     have e7:=T2.f 1 7 rfl rfl
     have e8:=T2.f 1 8 rfl rfl
     have e9:=T2.f 1 9 rfl rfl
     have T3:=(((((T2.set 1 4 (.int .i64 y.o) rfl (by simp) (by omega) (by simp; omega) _ rfl).set 1 5 (.int .i64 y.s) rfl (by simp) (by omega) (by simp; omega) _ rfl).set 1 6 (.int .i64 y.a) rfl (by simp) (by omega) (by simp; omega) _ rfl).set 1 7 (.bool y.ov) rfl (by simp) (by omega) (by simp; omega) _ rfl).set 1 8 (.slice A5 y.adj.length c5) rfl (by simp) (by omega) (by simp; omega) _ rfl).set 1 9 (.slice B5 y.pre.length d5) rfl (by simp) (by omega) (by simp; omega) _ rfl
     have p1:=own_setO o1 hsz4 (.int .i64 y.o) (.int .i64 y.s) (.int .i64 y.a) (.bool y.ov) (.slice A5 y.adj.length c5) (.slice B5 y.pre.length d5)
     have p2:=own_setO o2 hsz4 (.int .i64 y.o) (.int .i64 y.s) (.int .i64 y.a) (.bool y.ov) (.slice A5 y.adj.length c5) (.slice B5 y.pre.length d5)
     go_upto_region 22 with fail
     clear a0 a1 a2 a3 a4 a5 a6 a7 a8 a9
     clear e0 e1 e2 e3 e4 e5 e6 e7 e8 e9
     clear o1 o2 T2
     generalize World.setCell _ _ _ = w6 at *
     have hlo:LaOwn w6 w4.heap.size (laV y.o y.s y.a y.ov A5 y.adj.length c5 B5 y.pre.length d5) y:=⟨A5,c5,B5,d5,rfl,p1,p2,hu⟩
     have hla:=hlo.at
     clear p1 p2 hu
     have a0:=T3.c 1 0 rfl rfl
     have a1:=T3.c 1 1 rfl rfl
     have a2:=T3.c 1 2 rfl rfl
     have a3:=T3.c 1 3 rfl rfl
     have a4:=T3.c 1 4 rfl rfl
     have a5:=T3.c 1 5 rfl rfl
     have a6:=T3.c 1 6 rfl rfl
     have a7:=T3.c 1 7 rfl rfl
     have a8:=T3.c 1 8 rfl rfl
     have a9:=T3.c 1 9 rfl rfl
     go_wp2_with fail
     (with_reducible refine (VA.out _ A5 c5 B5 d5 hla).mono ?_)
     rintro e w7 ⟨rfl,hb⟩
     clear a0 a1 a2 a3 a4 a5 a6 a7 a8 a9
     have T:=T3.call hb
     replace hlo:=hlo.below hb
     clear T3 hb VA hla
     cases mb with
     | false =>
       obtain rfl:E = 4:=hE2.out.symm
       obtain rfl:V = msZero:=hV2.out.symm
       clear hlo
       have r0:=T.c 2 0 rfl rfl
       have r1:=T.c 2 1 rfl rfl
       have r2:=T.c 2 2 rfl rfl
       have r3:=T.c 2 3 rfl rfl
       have r4:=T.c 2 4 rfl rfl
       have r5:=T.c 2 5 rfl rfl
       have r6:=T.c 2 6 rfl rfl
       have r7:=T.c 2 7 rfl rfl
       have r8:=T.c 2 8 rfl rfl
       have r9:=T.c 2 9 rfl rfl
       have f0:=T.f 2 0 rfl rfl
       have f1:=T.f 2 1 rfl rfl
       have f2:=T.f 2 2 rfl rfl
       have f3:=T.f 2 3 rfl rfl
       have f4:=T.f 2 4 rfl rfl
       have f5:=T.f 2 5 rfl rfl
       have f6:=T.f 2 6 rfl rfl
       have f7:=T.f 2 7 rfl rfl
       have f8:=T.f 2 8 rfl rfl
       have f9:=T.f 2 9 rfl rfl
       have S9:=(T.keepBoxes [(w.heap.size,z10)] (by simp)).setM (.int .i64 0) (.int .i64 0) (.int .i64 0) (.int .i64 0) (.int .i64 0) (.int .i64 0) (.int .i64 0) (.bool false) (.slice none 0 0) (.slice none 0 0) (Nat.le_refl _) (by simp)
       go_wp2_with fail
       exact bodyPost_ret (v:=.tuple #[.agg #[.int .i64 0,.int .i64 0,.int .i64 0,.int .i64 0,.int .i64 0,.int .i64 0,.int .i64 0,.bool false,.slice none 0 0,.slice none 0 0],.int .i64 4]) (by simp [results,Tryz.results65,go_sem,r0,r1,r2,r3,r4,r5,r6,r7,r8,r9]) rfl (hfail.out _ _ S9.b)
     | true =>
       obtain rfl:E = 0:=hE2.out.symm
       have hV3:=hV2.out.symm
       rw [if_pos rfl] at hV3
       subst hV3
       have hlo2:∀ u0 u1 u2 u3 u4 u5 u6 u7 u8 u9,LaOwn ((((((((((w7.setCell ⟨w.heap.size,0,none⟩ u0).setCell ⟨w.heap.size,1,none⟩ u1).setCell ⟨w.heap.size,2,none⟩ u2).setCell ⟨w.heap.size,3,none⟩ u3).setCell ⟨w.heap.size,4,none⟩ u4).setCell ⟨w.heap.size,5,none⟩ u5).setCell ⟨w.heap.size,6,none⟩ u6).setCell ⟨w.heap.size,7,none⟩ u7).setCell ⟨w.heap.size,8,none⟩ u8).setCell ⟨w.heap.size,9,none⟩ u9) w4.heap.size (laV y.o y.s y.a y.ov A5 y.adj.length c5 B5 y.pre.length d5) y:=by
        intro u0 u1 u2 u3 u4 u5 u6 u7 u8 u9
        obtain ⟨A9,c9,B9,d9,e9,o1,o2,hu⟩:=hlo
        exact ⟨A9,c9,B9,d9,e9,own_setM o1 (by omega) _ _ _ _ _ _ _ _ _ _,own_setM o2 (by omega) _ _ _ _ _ _ _ _ _ _,hu⟩
       replace hlo2:=Lib.hid hlo2
       clear hlo
       have a0:=T.c 1 0 rfl rfl
       have a1:=T.c 1 1 rfl rfl
       have a2:=T.c 1 2 rfl rfl
       have a3:=T.c 1 3 rfl rfl
       have a4:=T.c 1 4 rfl rfl
       have a5:=T.c 1 5 rfl rfl
       have a6:=T.c 1 6 rfl rfl
       have a7:=T.c 1 7 rfl rfl
       have a8:=T.c 1 8 rfl rfl
       have a9:=T.c 1 9 rfl rfl
       have r0:=T.c 2 0 rfl rfl
       have r1:=T.c 2 1 rfl rfl
       have r2:=T.c 2 2 rfl rfl
       have r3:=T.c 2 3 rfl rfl
       have r4:=T.c 2 4 rfl rfl
       have r5:=T.c 2 5 rfl rfl
       have r6:=T.c 2 6 rfl rfl
       have r7:=T.c 2 7 rfl rfl
       have r8:=T.c 2 8 rfl rfl
       have r9:=T.c 2 9 rfl rfl
       have f0:=T.f 2 0 rfl rfl
       have f1:=T.f 2 1 rfl rfl
       have f2:=T.f 2 2 rfl rfl
       have f3:=T.f 2 3 rfl rfl
       have f4:=T.f 2 4 rfl rfl
       have f5:=T.f 2 5 rfl rfl
       have f6:=T.f 2 6 rfl rfl
       have f7:=T.f 2 7 rfl rfl
       have f8:=T.f 2 8 rfl rfl
       have f9:=T.f 2 9 rfl rfl
       have hsz9:=T.b.size
       have S9:=(T.keepBoxes [(w.heap.size,z10)] (by simp)).setM (.int .i64 t) (.int .i64 0) (.int .i64 q1) (.int .i64 0) (.int .i64 y.o) (.int .i64 y.s) (.int .i64 y.a) (.bool y.ov) (.slice A5 y.adj.length c5) (.slice B5 y.pre.length d5) (Nat.le_refl _) (by simp)
       go_wp2_with fail
       exact bodyPost_ret (v:=.tuple #[msV ⟨t,0,q1,0,y⟩ A5 c5 B5 d5,.int .i64 0]) (by simp [results,Tryz.results65,go_sem,r0,r1,r2,r3,r4,r5,r6,r7,r8,r9]) rfl ⟨_,rfl,⟨A5,c5,B5,d5,rfl,(hlo2.out _ _ _ _ _ _ _ _ _ _).mono (by omega)⟩,S9.b⟩
 ·have hE4:E = 4:=by
   rw [← hE.out]; unfold unpE1; rw [if_neg ht1,if_neg ht2]
  obtain rfl:=hE4
  obtain rfl:V = msZero:=by rw [← hV.out,hE.out,if_neg (by omega)]
  have hmb:msB ⟨t,0,0,0,laZero⟩ = false:=by simp [msB,wiB]
  have VA:∀ W,Calls Tryz.prog 116 #[.agg #[.int .i64 t,.int .i64 0,.int .i64 0,.int .i64 0,.int .i64 0,.int .i64 0,.int .i64 0,.bool false,.slice none 0 0,.slice none 0 0]] W fun e w'=>e = .returned (.bool false) ∧ Below W.heap.size W w':=fun W=>by
   have:=svalid_any W _ ⟨t,0,0,0,laZero⟩ ⟨none,0,none,0,rfl,(laZero_own W W.heap.size).at⟩
   rw [hmb] at this
   exact this
  have t1:(t == 1) = false:=by simpa using ht1
  have t2:(t == 2) = false:=by simp; omega
  have t3:(t == 3) = false:=by simp; omega
  clear hE hV k1' T0 ht1 ht2 hmb
  replace VA:=Lib.hid VA
  have a0:=T.c 1 0 rfl rfl
  have a1:=T.c 1 1 rfl rfl
  have a2:=T.c 1 2 rfl rfl
  have a3:=T.c 1 3 rfl rfl
  have a4:=T.c 1 4 rfl rfl
  have a5:=T.c 1 5 rfl rfl
  have a6:=T.c 1 6 rfl rfl
  have a7:=T.c 1 7 rfl rfl
  have a8:=T.c 1 8 rfl rfl
  have a9:=T.c 1 9 rfl rfl
  go_wp2_with fail
  (with_reducible refine (VA.out _).mono ?_)
  rintro e w4 ⟨rfl,hb⟩
  clear a0 a1 a2 a3 a4 a5 a6 a7 a8 a9
  replace T:=T.call hb
  clear hb
  have r0:=T.c 2 0 rfl rfl
  have r1:=T.c 2 1 rfl rfl
  have r2:=T.c 2 2 rfl rfl
  have r3:=T.c 2 3 rfl rfl
  have r4:=T.c 2 4 rfl rfl
  have r5:=T.c 2 5 rfl rfl
  have r6:=T.c 2 6 rfl rfl
  have r7:=T.c 2 7 rfl rfl
  have r8:=T.c 2 8 rfl rfl
  have r9:=T.c 2 9 rfl rfl
  have f0:=T.f 2 0 rfl rfl
  have f1:=T.f 2 1 rfl rfl
  have f2:=T.f 2 2 rfl rfl
  have f3:=T.f 2 3 rfl rfl
  have f4:=T.f 2 4 rfl rfl
  have f5:=T.f 2 5 rfl rfl
  have f6:=T.f 2 6 rfl rfl
  have f7:=T.f 2 7 rfl rfl
  have f8:=T.f 2 8 rfl rfl
  have f9:=T.f 2 9 rfl rfl
  have S9:=(T.keepBoxes [(w.heap.size,z10)] (by simp)).setM (.int .i64 0) (.int .i64 0) (.int .i64 0) (.int .i64 0) (.int .i64 0) (.int .i64 0) (.int .i64 0) (.bool false) (.slice none 0 0) (.slice none 0 0) (Nat.le_refl _) (by simp)
  go_wp2_with fail
  exact bodyPost_ret (v:=.tuple #[.agg #[.int .i64 0,.int .i64 0,.int .i64 0,.int .i64 0,.int .i64 0,.int .i64 0,.int .i64 0,.bool false,.slice none 0 0,.slice none 0 0],.int .i64 4]) (by simp [results,Tryz.results65,go_sem,r0,r1,r2,r3,r4,r5,r6,r7,r8,r9]) rfl (hfail.out _ _ S9.b)
end Go.Proofs.YtehimhbgakpenaaGreat
