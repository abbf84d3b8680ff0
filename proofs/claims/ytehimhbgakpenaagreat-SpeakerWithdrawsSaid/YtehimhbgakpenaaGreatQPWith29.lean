/-
  The texts MsP, one after the other.
-/
import Derived.Test.YtehimhbgakpenaaGreatQPWith26
import Derived.Test.YtehimhbgakpenaaGreatQPWith3
import Derived.Test.YtehimhbgakpenaaGreatQPWith11
namespace Go.Proofs.YtehimhbgakpenaaGreat
set_option linter.unusedVariables false
open Go.RowKit Go.Sort
theorem au_ok (bs:List UInt8) (m k:Nat) (z:Int) (hz:z = k) (h1:1 ≤ k) (h8:k ≤ 8) (hm:m < 256 ^ k):auE m z = 0 ∧ auR bs m z = bs ++ numB m k:=by
 subst hz
 have e:auE m (k:Int) = 0:=by
  unfold auE
  rw [if_neg (by omega),if_pos (by simpa using hm)]
 refine ⟨e,?_⟩
 unfold auR
 rw [e,if_pos rfl,Int.toNat_natCast]
theorem append_ok (A:Option Addr) (n cap:Nat) (bs:List UInt8) (m k:Nat) (z:Int) (w:World) (hr:Bs w A bs) (hn:bs.length = n) (hn2:n ≤ 1000000) (hz:z = k) (h1:1 ≤ k) (h8:k ≤ 8) (hm:m < 256 ^ k) (N:Nat) (L:List UInt8) (hN:n + k = N) (hL:bs ++ numB m k = L) :
  Calls Tryz.prog 123 #[.slice A n cap,.int .u64 m,.int .i64 z] w fun e w' =>
   ∃ A' c',e = .returned (.tuple #[.slice A' N c',.int .i64 0]) ∧ w'.ownsRow w.heap.size 5 1 (.slice A' N c') N (L.map u8v) ∧ Below w.heap.size w w':=by
 have h64:256 ^ k ≤ 18446744073709551616:=by
  have:256 ^ k ≤ 256 ^ 8:=Nat.pow_le_pow_right (by omega) h8
  omega
 obtain ⟨e1,e2⟩:=au_ok bs m k z hz h1 h8 hm
 refine (append_any A n cap bs m z w hr hn hn2 (by omega)).mono ?_
 rintro e w' ⟨v,he,hown,hb⟩
 rw [e1] at he
 rw [e2,hL] at hown
 have hl:L.length = N:=by rw [← hL,List.length_append,numB_len]; omega
 rw [hl] at hown
 obtain ⟨A',c',rfl,_⟩:=own_rd hown
 exact ⟨A',c',he,hown,hb⟩
noncomputable def packE (m:Ms):Int:=if msB m = true then 0 else 1
noncomputable def packB (m:Ms):List UInt8:=if msB m = true then msEnc m else []
def PackPost (w:World) (m:Ms) (e:Ending) (w':World):Prop :=
 ∃ A c,e = .returned (.tuple #[.slice A (packB m).length c,.int .i64 (packE m)]) ∧ w'.ownsRow w.heap.size 5 1 (.slice A (packB m).length c) (packB m).length ((packB m).map u8v) ∧ Below w.heap.size w w'
theorem ms_cases {m:Ms} (h:msB m = true):(1 ≤ m.b ∧ m.b ≤ 1073741824) ∧ ((m.k = 1 ∧ (0 ≤ m.n ∧ m.n ≤ 63) ∧ (0 ≤ m.h ∧ m.h ≤ 1073741824) ∧ m.y = laZero) ∨ ((m.k = 2 ∨ m.k = 3) ∧ m.n = 0 ∧ m.h = 0 ∧ LaValid m.y)):=by
 simp only [msB,Bool.and_eq_true] at h
 refine ⟨wiB_t h.1,?_⟩
 obtain ⟨_,h⟩:=h
 by_cases hk:m.k = 1
 ·rw [if_pos hk] at h
  simp only [Bool.and_eq_true] at h
  exact .inl ⟨hk,wiB_t h.1,wiB_t h.2.1,emB_iff.1 h.2.2⟩
 ·rw [if_neg hk] at h
  by_cases hk2:m.k = 2 ∨ m.k = 3
  ·rw [if_pos hk2] at h
   simp only [Bool.and_eq_true] at h
   exact .inr ⟨hk2,by simpa using h.1,by simpa using h.2.1,vB_iff.1 h.2.2⟩
  ·rw [if_neg hk2] at h; cases h
theorem enc1_one (r:Rec) (h1:1 ≤ r.1) (h2:r.1 ≤ 255) (h3:r.2.length ≤ 65535):encE [r] = 0 ∧ encR [r] = enc1 r:=by
 have e:encE [r] = 0:=encE_all _ (by simp; exact ⟨h1,h2,h3⟩)
 refine ⟨e,?_⟩
 unfold encR
 rw [e,if_pos rfl]
 simp [encAll]
theorem encode_one (w:World) (k:Int) (A:Option Addr) (n c:Nat) (bs:List UInt8) (g:Nat) (h1:1 ≤ k) (h2:k ≤ 255) (h3:n ≤ 65535) (hr:Bs w A bs) (hn:bs.length = n) (hnc:n ≤ c) (hc:c ≤ 9223372036854775807) (hg:Rd w (some ⟨g,0,none⟩) [.int .i64 k,.slice A n c]) :
  Calls Tryz.prog 125 #[.slice (some ⟨g,0,none⟩) 1 1] w fun e w' =>
   ∃ A' c',e = .returned (.tuple #[.slice A' (enc1 (k,bs)).length c',.int .i64 0]) ∧ w'.ownsRow w.heap.size 5 1 (.slice A' (enc1 (k,bs)).length c') (enc1 (k,bs)).length ((enc1 (k,bs)).map u8v) ∧ Below w.heap.size w w':=by
 obtain ⟨e1,e2⟩:=enc1_one (k,bs) h1 h2 (by simpa [hn] using h3)
 refine (cencode_any (some ⟨g,0,none⟩) 1 1 [⟨k,A,n,c,bs⟩] w hg (by
  intro r hr'
  rw [List.mem_singleton.1 hr']
  exact ⟨hr,hn,hnc,hc⟩) rfl (by omega)).mono ?_
 rintro e w' ⟨v,he,hown,hb⟩
 rw [show [(⟨k,A,n,c,bs⟩:Rc)].map dat = [(k,bs)] from rfl] at he hown
 rw [e1] at he
 rw [e2] at hown
 obtain ⟨A',c',rfl,_⟩:=own_rd hown
 exact ⟨A',c',he,hown,hb⟩
set_option maxRecDepth 100000 in
set_option maxHeartbeats 6400000 in
theorem spack_any (w:World) (v:Value) (m:Ms) (h:MsAt w v m):Calls Tryz.prog 70 #[v] w (PackPost w m):=by
 have V:=fun W (hb:Below w.heap.size w W)=>svalid_any W v m (h.below hb)
 obtain ⟨A,c,B,d,rfl,hl⟩:=h
 have S:=(St.start w).new' #[.int .i64 m.k,.int .i64 m.n,.int .i64 m.b,.int .i64 m.h,.int .i64 m.y.o,.int .i64 m.y.s,.int .i64 m.y.a,.bool m.y.ov,.slice A m.y.adj.length c,.slice B m.y.pre.length d] 142 w.heap.size _ rfl rfl
 have N:=fun W hb=>enc_at W _ m.y (hl.below hb)
 clear hl
 rcases hv:msB m with _ | _
 ·have hP:PackPost w m = fun e w'=>∃ A c,e = .returned (.tuple #[.slice A ([]:List UInt8).length c,.int .i64 1]) ∧ w'.ownsRow w.heap.size 5 1 (.slice A ([]:List UInt8).length c) ([]:List UInt8).length (([]:List UInt8).map u8v) ∧ Below w.heap.size w w':=by
   unfold PackPost packB packE
   rw [hv]
   rfl
  rw [hP]
  rw [hv] at V
  clear hP hv N
  replace V:=Lib.hid V
  have a0:=S.c 0 0 rfl rfl
  have a1:=S.c 0 1 rfl rfl
  have a2:=S.c 0 2 rfl rfl
  have a3:=S.c 0 3 rfl rfl
  have a4:=S.c 0 4 rfl rfl
  have a5:=S.c 0 5 rfl rfl
  have a6:=S.c 0 6 rfl rfl
  have a7:=S.c 0 7 rfl rfl
  have a8:=S.c 0 8 rfl rfl
  have a9:=S.c 0 9 rfl rfl
  go_enter Tryz.func70,Tryz.ntmps70
  go_wp2_with fail
  (with_reducible refine (V.out _ S.b).mono ?_)
  rintro e w1 ⟨rfl,hb⟩
  replace S:=S.call hb
  go_wp2_with fail
  go_ret2
  exact ⟨none,0,rfl,World.ownsRow_nil _ _ _ _,S.b⟩
 have hP:PackPost w m = fun e w'=>∃ A c,e = .returned (.tuple #[.slice A (msEnc m).length c,.int .i64 0]) ∧ w'.ownsRow w.heap.size 5 1 (.slice A (msEnc m).length c) (msEnc m).length ((msEnc m).map u8v) ∧ Below w.heap.size w w':=by
  unfold PackPost packB packE
  rw [hv]
  rfl
 rw [hP]
 rw [hv] at V
 have hval:=msVal_len hv
 obtain ⟨⟨hb1,hb2⟩,hc⟩:=ms_cases hv
 clear hP hv
 unfold msEnc msVal at *
 obtain ⟨k,n,b,h,y⟩:=m
 simp only at *
 obtain ⟨bb,rfl⟩:=Int.eq_ofNat_of_zero_le (show 0 ≤ b by omega)
 replace V:=Lib.hid V
 replace N:=Lib.hid N
 rcases hc with ⟨rfl,⟨hn1,hn2⟩,⟨hh1,hh2⟩,rfl⟩ | ⟨hk,rfl,rfl,hy⟩
 ·obtain ⟨nn,rfl⟩:=Int.eq_ofNat_of_zero_le hn1
  obtain ⟨hh,rfl⟩:=Int.eq_ofNat_of_zero_le hh1
  rw [if_pos rfl]
  rw [show (((nn:Int)).toNat) = nn from Int.toNat_natCast nn,show (((bb:Int)).toNat) = bb from Int.toNat_natCast bb,show (((hh:Int)).toNat) = hh from Int.toNat_natCast hh]
  clear hval N
  obtain ⟨L,hL⟩:∃ L,enc1 (1,numB nn 2 ++ (numB bb 4 ++ numB hh 4)) = L:=⟨_,rfl⟩
  rw [hL]
  replace hL:=Lib.hid hL
  have a0:=S.c 0 0 rfl rfl
  have a1:=S.c 0 1 rfl rfl
  have a2:=S.c 0 2 rfl rfl
  have a3:=S.c 0 3 rfl rfl
  have a4:=S.c 0 4 rfl rfl
  have a5:=S.c 0 5 rfl rfl
  have a6:=S.c 0 6 rfl rfl
  have a7:=S.c 0 7 rfl rfl
  have a8:=S.c 0 8 rfl rfl
  have a9:=S.c 0 9 rfl rfl
  go_enter Tryz.func70,Tryz.ntmps70
  go_wp2_with fail
  (with_reducible refine (V.out _ S.b).mono ?_)
  rintro e w1 ⟨rfl,hb⟩
  clear a0 a1 a2 a3 a4 a5 a6 a7 a8 a9
  replace S:=S.call hb
  clear hb V
  have a0:=S.c 0 0 rfl rfl
  have a1:=S.c 0 1 rfl rfl
  have a2:=S.c 0 2 rfl rfl
  have a3:=S.c 0 3 rfl rfl
  have a4:=S.c 0 4 rfl rfl
  have a5:=S.c 0 5 rfl rfl
  have a6:=S.c 0 6 rfl rfl
  have a7:=S.c 0 7 rfl rfl
  have a8:=S.c 0 8 rfl rfl
  have a9:=S.c 0 9 rfl rfl
  go_wp2_with fail
  (with_reducible refine (append_ok none 0 0 [] nn 2 2 _ (Rd.nil _ _) rfl (by omega) rfl (by omega) (by omega) (by omega) 2 (numB nn 2) rfl (by simp)).mono ?_)
  rintro e w2 ⟨A1,c1,rfl,o1,hb⟩
  clear a0 a1 a2 a3 a4 a5 a6 a7 a8 a9
  replace S:=S.call hb
  clear hb
  have a0:=S.c 0 0 rfl rfl
  have a1:=S.c 0 1 rfl rfl
  have a2:=S.c 0 2 rfl rfl
  have a3:=S.c 0 3 rfl rfl
  have a4:=S.c 0 4 rfl rfl
  have a5:=S.c 0 5 rfl rfl
  have a6:=S.c 0 6 rfl rfl
  have a7:=S.c 0 7 rfl rfl
  have a8:=S.c 0 8 rfl rfl
  have a9:=S.c 0 9 rfl rfl
  go_wp2_with fail
  (with_reducible refine (append_ok A1 2 c1 (numB nn 2) bb 4 4 _ (own_slice' o1) (numB_len _ _) (by omega) rfl (by omega) (by omega) (by omega) 6 (numB nn 2 ++ numB bb 4) rfl rfl).mono ?_)
  rintro e w3 ⟨A2,c2,rfl,o2,hb⟩
  clear a0 a1 a2 a3 a4 a5 a6 a7 a8 a9
  replace S:=S.call hb
  clear hb o1
  have a0:=S.c 0 0 rfl rfl
  have a1:=S.c 0 1 rfl rfl
  have a2:=S.c 0 2 rfl rfl
  have a3:=S.c 0 3 rfl rfl
  have a4:=S.c 0 4 rfl rfl
  have a5:=S.c 0 5 rfl rfl
  have a6:=S.c 0 6 rfl rfl
  have a7:=S.c 0 7 rfl rfl
  have a8:=S.c 0 8 rfl rfl
  have a9:=S.c 0 9 rfl rfl
  go_wp2_with fail
  (with_reducible refine (append_ok A2 6 c2 (numB nn 2 ++ numB bb 4) hh 4 4 _ (own_slice' o2) (by simp [numB_len]) (by omega) rfl (by omega) (by omega) (by omega) 10 (numB nn 2 ++ (numB bb 4 ++ numB hh 4)) rfl (by simp)).mono ?_)
  rintro e w4 ⟨A3,c3,rfl,o3,hb⟩
  clear a0 a1 a2 a3 a4 a5 a6 a7 a8 a9
  replace S:=S.call hb
  clear hb o2
  have hl3:(numB nn 2 ++ (numB bb 4 ++ numB hh 4)).length = 10:=by simp [numB_len]
  obtain ⟨r3,n3,m3⟩:=own_rdp o3
  have hb4:=below_new' w4 (.cells #[.int .i64 1,.slice A3 10 c3] 215)
  have EN:=encode_one (w4.alloc (.cells #[.int .i64 1,.slice A3 10 c3] 215)) 1 A3 10 c3 _ w4.heap.size (by omega) (by omega) (by omega) (r3.below hb4) hl3 n3 (by unfold maxLen at m3; omega) (Rd.lit w4 _ _)
  rw [hL.out] at EN
  clear o3 r3 hl3
  have hs4:=S.b.size
  replace EN:=Lib.hid EN
  have a0:=S.c 0 0 rfl rfl
  have a1:=S.c 0 1 rfl rfl
  have a2:=S.c 0 2 rfl rfl
  have a3:=S.c 0 3 rfl rfl
  have a4:=S.c 0 4 rfl rfl
  have a5:=S.c 0 5 rfl rfl
  have a6:=S.c 0 6 rfl rfl
  have a7:=S.c 0 7 rfl rfl
  have a8:=S.c 0 8 rfl rfl
  have a9:=S.c 0 9 rfl rfl
  go_wp2_with fail
  (with_reducible refine (EN.out).mono ?_)
  rintro e w5 ⟨A4,c4,rfl,o4,hb⟩
  replace S:=(S.call hb4).call hb
  go_wp2_with fail
  go_ret2
  exact ⟨A4,c4,rfl,own_mono o4 (by simp; omega),S.b⟩
 ·have hk1:(k == 1) = false:=by simp; omega
  rw [if_neg (by omega)] at hval ⊢
  rw [show (((bb:Int)).toNat) = bb from Int.toNat_natCast bb] at hval ⊢
  have hkb:1 ≤ k ∧ k ≤ 255:=by omega
  clear hk
  have hyl:=laEnc_len y
  have hyb:(laEnc y).length ≤ 2996:=by rw [List.length_append,numB_len] at hval; omega
  have N2:∀ W,Below w.heap.size w W → Calls Tryz.prog 124 #[laW y A c B d] W (fun e w'=>∃ A c,e = .returned (.tuple #[.slice A (laEnc y).length c,.int .i64 0]) ∧ w'.ownsRow W.heap.size 5 1 (.slice A (laEnc y).length c) (laEnc y).length ((laEnc y).map u8v) ∧ Below W.heap.size W w'):=fun W hb=>(N.out W hb).mono fun e w' h=>by
   unfold EncPost lencB lencE at h
   rw [vB_t hy] at h
   exact h
  clear N hyl hy
  obtain ⟨Y,hY⟩:∃ Y,laEnc y = Y:=⟨_,rfl⟩
  rw [hY] at hval hyb N2 ⊢
  clear hY
  obtain ⟨L,hL⟩:∃ L,enc1 (k,numB bb 4 ++ Y) = L:=⟨_,rfl⟩
  rw [hL]
  replace hL:=Lib.hid hL
  replace N2:=Lib.hid N2
  replace hk1:=Lib.hid hk1
  have a0:=S.c 0 0 rfl rfl
  have a1:=S.c 0 1 rfl rfl
  have a2:=S.c 0 2 rfl rfl
  have a3:=S.c 0 3 rfl rfl
  have a4:=S.c 0 4 rfl rfl
  have a5:=S.c 0 5 rfl rfl
  have a6:=S.c 0 6 rfl rfl
  have a7:=S.c 0 7 rfl rfl
  have a8:=S.c 0 8 rfl rfl
  have a9:=S.c 0 9 rfl rfl
  go_enter Tryz.func70,Tryz.ntmps70
  go_wp2_with fail
  (with_reducible refine (V.out _ S.b).mono ?_)
  rintro e w1 ⟨rfl,hb⟩
  clear a0 a1 a2 a3 a4 a5 a6 a7 a8 a9
  replace S:=S.call hb
  clear hb V
  have a0:=S.c 0 0 rfl rfl
  have a1:=S.c 0 1 rfl rfl
  have a2:=S.c 0 2 rfl rfl
  have a3:=S.c 0 3 rfl rfl
  have a4:=S.c 0 4 rfl rfl
  have a5:=S.c 0 5 rfl rfl
  have a6:=S.c 0 6 rfl rfl
  have a7:=S.c 0 7 rfl rfl
  have a8:=S.c 0 8 rfl rfl
  have a9:=S.c 0 9 rfl rfl
  have hk2:=hk1.out
  have S0lt:=S.lt 0 rfl (by simp)
  have hs1:=S.b.size
  go_wp2_with fail
  (with_reducible refine (append_ok none 0 0 [] bb 4 4 _ (Rd.nil _ _) rfl (by omega) rfl (by omega) (by omega) (by omega) 4 (numB bb 4) rfl (by simp)).mono ?_)
  rintro e w2 ⟨A1,c1,rfl,o1,hb⟩
  clear a0 a1 a2 a3 a4 a5 a6 a7 a8 a9
  have hg1:=S0lt
  replace S:=S.call hb
  have h12':=hb.size
  clear hb
  have a0:=S.c 0 0 rfl rfl
  have a1:=S.c 0 1 rfl rfl
  have a2:=S.c 0 2 rfl rfl
  have a3:=S.c 0 3 rfl rfl
  have a4:=S.c 0 4 rfl rfl
  have a5:=S.c 0 5 rfl rfl
  have a6:=S.c 0 6 rfl rfl
  have a7:=S.c 0 7 rfl rfl
  have a8:=S.c 0 8 rfl rfl
  have a9:=S.c 0 9 rfl rfl
  go_wp2_with fail
  (with_reducible refine (N2.out _ S.b).mono ?_)
  rintro e w3 ⟨A2,c2,rfl,o2,hb⟩
  clear a0 a1 a2 a3 a4 a5 a6 a7 a8 a9
  replace S:=S.call hb
  replace o1:=own_below o1 hb
  have hsz:=hb.size
  clear hb N2
  obtain ⟨r2,n2,m2⟩:=own_rdp o2
  have hwb:=S.b.size
  have hlY:(Y.map u8v).length = Y.length * 1:=by simp
  have a0:=S.c 0 0 rfl rfl
  have a1:=S.c 0 1 rfl rfl
  have a2:=S.c 0 2 rfl rfl
  have a3:=S.c 0 3 rfl rfl
  have a4:=S.c 0 4 rfl rfl
  have a5:=S.c 0 5 rfl rfl
  have a6:=S.c 0 6 rfl rfl
  have a7:=S.c 0 7 rfl rfl
  have a8:=S.c 0 8 rfl rfl
  have a9:=S.c 0 9 rfl rfl
  go_wp2_with (at_builtin; refine wpList_app rfl bytesT (.tmp 46) (.tmp 47) rfl w1.heap.size rfl o1 (m:=Y.length) rfl hlY r2 (u8v_one _) (by simp only [maxLen]; omega) (by omega) (by omega) (4 + Y.length) ((numB bb 4 ++ Y).map u8v) rfl (by simp) ?_; intro v3 w4 o3 hb3; have q0:=(hb3.cell (p:=⟨w.heap.size,0,none⟩) hg1).trans a0; obtain ⟨A3,c3,rfl,r3,n3,m3⟩:=own_rd o3)
  have hb4':Below w.heap.size w w4:=S.b.trans (hb3.mono hs1)
  have hl3:(numB bb 4 ++ Y).length = 4 + Y.length:=by simp [numB_len]
  have hb4:=below_new' w4 (.cells #[.int .i64 k,.slice A3 (4 + Y.length) c3] 215)
  have EN:=encode_one (w4.alloc (.cells #[.int .i64 k,.slice A3 (4 + Y.length) c3] 215)) k A3 (4 + Y.length) c3 _ w4.heap.size hkb.1 hkb.2 (by omega) (r3.below hb4) hl3 n3 (by unfold maxLen at m3; omega) (Rd.lit w4 _ _)
  rw [hL.out] at EN
  (with_reducible refine (EN).mono ?_)
  rintro e w5 ⟨A4,c4,rfl,o4,hb⟩
  have hs4:w.heap.size ≤ w4.heap.size:=Nat.le_trans hwb hb3.size
  have hb5:=hb4'.trans ((hb4.mono hs4).trans (hb.mono (by simp; omega)))
  clear EN
  go_wp2_with fail
  go_ret2
  exact ⟨A4,c4,rfl,own_mono o4 (by simp; omega),hb5⟩
end Go.Proofs.YtehimhbgakpenaaGreat
