/-
  The texts Enc, one after the other.
-/
import Derived.Test.YtehimhbgakpenaaGreatQPWith11
import Derived.Test.YtehimhbgakpenaaGreatQPWith2
import Derived.Deep.DeepCutAuto
namespace Go.Proofs.YtehimhbgakpenaaGreat
set_option linter.unusedVariables false
open Go.RowKit
abbrev laC (o s a:Int) (ov:Bool) (A:Option Addr) (n c:Nat) (B:Option Addr) (m d:Nat):List Value:=[.int .i64 o,.int .i64 s,.int .i64 a,.bool ov,.slice A n c,.slice B m d]
set_option maxRecDepth 100000 in
set_option maxHeartbeats 6400000 in
theorem lencode_any (o s a:Int) (ov:Bool) (adj:List Ad) (pre:List Pf) (A:Option Addr) (n c:Nat) (B:Option Addr) (m d:Nat) (w:World) (hn:adj.length = n) (hm:pre.length = m) (hA:Rd w A (adV adj)) (hB:Rd w B (pfV pre)) (hu:∀ x ∈ pre,x.1 < 4294967296) :
  Calls Tryz.prog 124 #[laV o s a ov A n c B m d] w fun e w' =>
   ∃ v,e = .returned (.tuple #[v,.int .i64 (lencE ⟨o,s,a,ov,adj,pre⟩)]) ∧ w'.ownsRow w.heap.size 5 1 v (lencB ⟨o,s,a,ov,adj,pre⟩).length ((lencB ⟨o,s,a,ov,adj,pre⟩).map u8v) ∧ Below w.heap.size w w':=by
 have S0:St w (w.alloc (laB o s a ov A n c B m d)) [(w.heap.size,laC o s a ov A n c B m d)] [(A,adV adj),(B,pfV pre)]:=((((St.start w).read hB).read hA).new #[.int .i64 o,.int .i64 s,.int .i64 a,.bool ov,.slice A n c,.slice B m d] 41)
 have hbx:=Box.new w #[.int .i64 o,.int .i64 s,.int .i64 a,.bool ov,.slice A n c,.slice B m d] 41
 have c0:=hbx.c 0 rfl
 have c1:=hbx.c 1 rfl
 have c2:=hbx.c 2 rfl
 have c3:=hbx.c 3 rfl
 have c4:=hbx.c 4 rfl
 have c5:=hbx.c 5 rfl
 have V:=valid_any o s a ov adj pre A n c B m d (w.alloc (laB o s a ov A n c B m d)) hn hm (S0.r 0 rfl) (S0.r 1 rfl) hu
 have hb1:=below_new' w (laB o s a ov A n c B m d)
 clear hbx
 by_cases hv:LaValid ⟨o,s,a,ov,adj,pre⟩
 rotate_left
 ·have e0:=vB_f hv
  have e1:lencE ⟨o,s,a,ov,adj,pre⟩ = 1:=by unfold lencE; rw [e0]; rfl
  have e2:lencB ⟨o,s,a,ov,adj,pre⟩ = []:=by unfold lencB; rw [e0]; rfl
  rw [e1,e2]
  rw [e0] at V
  clear e0 e1 e2
  replace V:=Lib.hid V
  go_enter Tryz.func124,Tryz.ntmps124
  go_wp2_with fail
  (with_reducible refine V.out.mono ?_)
  rintro e w1 ⟨rfl,hb2⟩
  go_wp2_with fail
  go_ret2
  exact ⟨_,rfl,World.ownsRow_nil _ _ _ _,hb1.trans (hb2.mono hb1.size)⟩
 have e0:=vB_t hv
 have e1:lencE ⟨o,s,a,ov,adj,pre⟩ = 0:=by unfold lencE; rw [e0]; rfl
 have e2:lencB ⟨o,s,a,ov,adj,pre⟩ = laEnc ⟨o,s,a,ov,adj,pre⟩:=by unfold lencB; rw [e0]; rfl
 rw [e1,e2]
 rw [e0] at V
 clear e0 e1 e2
 replace V:=Lib.hid V
 go_enter Tryz.func124,Tryz.ntmps124
 go_wp2_with fail
 (with_reducible refine V.out.mono ?_)
 rintro e w1 ⟨rfl,hb2⟩
 go_wp2_with fail
 have E0:=EncS.start (S0.call hb2) (by simp) 211 32
 have hg:w.heap.size < w1.heap.size:=by have:=hb2.size; simp at this; omega
 generalize (w1.alloc (.cells #[.slice none 0 0] 211)).alloc (.cells #[.int .i64 0] 32) = w2 at *
 generalize w1.heap.size = g1 at *
 clear c0 c1 c2 c3 c4 c5 V hb1 hb2 S0
 obtain ⟨⟨ho0,ho1⟩,⟨hs0,hs1⟩,⟨ha0,ha1⟩,hl1,hl2,_,hAd,hPf⟩:=hv
 simp only at ho0 ho1 hs0 hs1 ha0 ha1 hl1 hl2 hAd hPf
 rw [hn] at hl1 hAd
 rw [hm] at hl2 hPf
 replace hn:=Lib.hid hn
 replace hm:=Lib.hid hm
 replace hu:=Lib.hid hu
 replace hAd:=Lib.hid hAd
 replace hPf:=Lib.hid hPf
 (with_reducible refine (begin_any _ _ _ _ _ _ _ _ E0 (by simp)).mono ?_)
 clear E0
 rintro e w3 ⟨rfl,E1⟩
 have c0:=E1.c 0 0 rfl rfl
 go_wp2_with fail
 (with_reducible refine (put_z o 2 o.toNat 2 (by omega) rfl _ _ _ _ _ _ _ _ _ E1 (by simp) (by simp) (by omega) (by omega) (by omega) (by omega)).mono ?_)
 clear E1 c0
 rintro e w4 ⟨rfl,E1⟩
 have c0:=E1.c 0 1 rfl rfl
 go_wp2_with fail
 (with_reducible refine (put_z s 4 s.toNat 4 (by omega) rfl _ _ _ _ _ _ _ _ _ E1 (by simp) (by simp [numB_len]) (by omega) (by omega) (by omega) (by omega)).mono ?_)
 clear E1 c0
 rintro e w5 ⟨rfl,E1⟩
 have c0:=E1.c 0 2 rfl rfl
 go_wp2_with fail
 (with_reducible refine (put_z a 2 a.toNat 2 (by omega) rfl _ _ _ _ _ _ _ _ _ E1 (by simp) (by simp [numB_len]) (by omega) (by omega) (by omega) (by omega)).mono ?_)
 clear E1 c0
 rintro e w6 ⟨rfl,E1⟩
 have c0:=E1.c 0 3 rfl rfl
 go_upto_if 34 with fail
 go_cut [] (fun wx=>EncS w wx g1 (g1 + 1) [(w.heap.size,laC o s a ov A n c B m d)] [(A,adV adj),(B,pfV pre)] ([] ++ [(1,[] ++ numB o.toNat 2 ++ numB s.toNat 4 ++ numB a.toNat 2 ++ numB (bit ov) 1)]))
 case first =>
  cases ov
  ·go_wp2_with fail
   (with_reducible refine (put_z 0 1 0 1 rfl rfl _ _ _ _ _ _ _ _ _ E1 (by simp) (by simp [numB_len]) (by omega) (by omega) (by omega) (by omega)).mono ?_)
   rintro e w7 ⟨rfl,E2⟩
   go_wp2_with fail
   go_meet
   exact E2
  ·go_wp2_with fail
   (with_reducible refine (put_z 1 1 1 1 rfl rfl _ _ _ _ _ _ _ _ _ E1 (by simp) (by simp [numB_len]) (by omega) (by omega) (by omega) (by omega)).mono ?_)
   rintro e w7 ⟨rfl,E2⟩
   go_wp2_with fail
   go_meet
   exact E2
 case rest =>
 clear E1 c0
 have E1:EncS w wc g1 (g1 + 1) [(w.heap.size,laC o s a ov A n c B m d)] [(A,adV adj),(B,pfV pre)] (headR ⟨o,s,a,ov,adj,pre⟩ :: (adj.take 0).map adR):=hcut
 clear hcut
 have c4:=E1.c 0 4 rfl rfl
 go_wp2_with fail
 clear c4
 go_loopw [42] (fun v42 wr=>∃ k:Nat,v42 = .int .i64 k ∧ k ≤ n ∧ EncS w wr g1 (g1 + 1) [(w.heap.size,laC o s a ov A n c B m d)] [(A,adV adj),(B,pfV pre)] (headR ⟨o,s,a,ov,adj,pre⟩ :: (adj.take k).map adR)) (fun v42 _=>n - (intOf v42).toNat)
 case atStart=>exact ⟨0,rfl,by omega,E1⟩
 case round =>
  clear E1
  obtain ⟨k,rfl,hk,E1⟩:=hrel
  by_cases hkn:k < n
  ·obtain ⟨b,off,rfl,hcells⟩:=rd_ad (E1.r 0 rfl) (by have:=hn.out; omega)
   have hkl:k < adj.length:=by have:=hn.out; omega
   obtain ⟨x0,x1,x2⟩:=hcells k hkl
   have htk:=adR_take ⟨o,s,a,ov,adj,pre⟩ k hkl
   simp only at htk
   obtain ⟨⟨l0,l3⟩,_,⟨l1,l4⟩,⟨l2,l5⟩,_⟩:=hAd.out k adj[k] hkn (List.getElem?_eq_getElem hkl)
   clear hcells
   generalize adj[k] = x at x0 x1 x2 htk l0 l1 l2 l3 l4 l5
   replace htk:=Lib.hid htk
   go_wp2_with fail
   have E2:=E1.new #[.int .i64 x.1,.int .i64 x.2.1,.int .i64 x.2.2] 169 (by simp)
   clear E1 x0 x1 x2
   generalize wr.alloc (.cells #[.int .i64 x.1,.int .i64 x.2.1,.int .i64 x.2.2] 169) = w3 at *
   generalize wr.heap.size = g3 at *
   have hll:(headR ⟨o,s,a,ov,adj,pre⟩ :: (adj.take k).map adR).length ≤ 1000000:=by simp; omega
   (with_reducible refine (begin_any _ _ _ _ _ _ _ _ E2 hll).mono ?_)
   clear E2
   rintro e w4 ⟨rfl,E1⟩
   have c0:=E1.c 0 0 rfl rfl
   go_wp2_with fail
   (with_reducible refine (put_z x.1 2 x.1.toNat 2 (by omega) rfl _ _ _ _ _ _ _ _ _ E1 hll (by simp) (by omega) (by omega) (by omega) (by omega)).mono ?_)
   clear E1 c0
   rintro e w5 ⟨rfl,E1⟩
   have c0:=E1.c 0 1 rfl rfl
   go_wp2_with fail
   (with_reducible refine (put_z x.2.1 2 x.2.1.toNat 2 (by omega) rfl _ _ _ _ _ _ _ _ _ E1 hll (by simp [numB_len]) (by omega) (by omega) (by omega) (by omega)).mono ?_)
   clear E1 c0
   rintro e w6 ⟨rfl,E1⟩
   have c0:=E1.c 0 2 rfl rfl
   go_wp2_with fail
   (with_reducible refine (put_z x.2.2 2 x.2.2.toNat 2 (by omega) rfl _ _ _ _ _ _ _ _ _ E1 hll (by simp [numB_len]) (by omega) (by omega) (by omega) (by omega)).mono ?_)
   clear E1 c0
   rintro e w7 ⟨rfl,E1⟩
   go_wp2_with fail
   go_roundw
   case rel=>exact ⟨k + 1,by go_num,by omega,by rw [htk.out]; exact E1.drop _ (by simp)⟩
   case measure=>simp [intOf]; omega
  ·obtain rfl:k = n:=by omega
   rw [List.take_of_length_le (by have:=hn.out; omega)] at E1
   have c5:=E1.c 0 5 rfl rfl
   go_wp2_with fail
   clear c5
   replace E1:EncS w wr g1 (g1 + 1) [(w.heap.size,laC o s a ov A k c B m d)] [(A,adV adj),(B,pfV pre)] (headR ⟨o,s,a,ov,adj,pre⟩ :: (adj.map adR ++ (pre.take 0).map pfR)):=by simpa using E1
   go_loopw [64] (fun v42 wr=>∃ k2:Nat,v42 = .int .i64 k2 ∧ k2 ≤ m ∧ EncS w wr g1 (g1 + 1) [(w.heap.size,laC o s a ov A k c B m d)] [(A,adV adj),(B,pfV pre)] (headR ⟨o,s,a,ov,adj,pre⟩ :: (adj.map adR ++ (pre.take k2).map pfR))) (fun v42 _=>m - (intOf v42).toNat)
   case atStart=>exact ⟨0,rfl,by omega,E1⟩
   case round =>
    clear E1
    obtain ⟨k2,rfl,hk,E1⟩:=hrel
    have hkk:adj.length = k:=hn.out
    by_cases hkn:k2 < m
    ·obtain ⟨b,off,rfl,hcells⟩:=rd_pf (E1.r 1 rfl) (by have:=hm.out; omega)
     have hkl:k2 < pre.length:=by have:=hm.out; omega
     obtain ⟨x0,x1⟩:=hcells k2 hkl
     have htk:=pfR_take ⟨o,s,a,ov,adj,pre⟩ k2 hkl
     simp only at htk
     have hP:=(hPf.out k2 pre[k2] hkn (List.getElem?_eq_getElem hkl)).1
     have hU:=hu.out pre[k2] (List.getElem_mem hkl)
     unfold pfxB at hP
     rw [decide_eq_true_iff] at hP
     obtain ⟨l0,l3,_⟩:=hP
     clear hcells
     generalize pre[k2] = x at x0 x1 htk l0 l3 hU
     replace htk:=Lib.hid htk
     have hll:(headR ⟨o,s,a,ov,adj,pre⟩ :: (adj.map adR ++ (pre.take k2).map pfR)).length ≤ 1000000:=by simp; omega
     replace hll:=Lib.hid hll
     replace hkk:=Lib.hid hkk
     go_wp2_with fail
     have E2:=E1.new #[.int .u32 (x.1:Int),.int .i64 x.2] 181 (by simp)
     clear E1 x0 x1
     generalize wr.alloc (.cells #[.int .u32 (x.1:Int),.int .i64 x.2] 181) = w3 at *
     generalize wr.heap.size = g3 at *
     (with_reducible refine (begin_any _ _ _ _ _ _ _ _ E2 hll.out).mono ?_)
     clear E2
     rintro e w4 ⟨rfl,E1⟩
     have c0:=E1.c 0 0 rfl rfl
     go_wp2_with fail
     (with_reducible refine (put_z (x.1:Int) 4 x.1 4 rfl rfl _ _ _ _ _ _ _ _ _ E1 hll.out (by simp) (by omega) (by omega) (by omega) (by omega)).mono ?_)
     clear E1 c0
     rintro e w5 ⟨rfl,E1⟩
     have c0:=E1.c 0 1 rfl rfl
     go_wp2_with fail
     (with_reducible refine (put_z x.2 1 x.2.toNat 1 (by omega) rfl _ _ _ _ _ _ _ _ _ E1 hll.out (by simp [numB_len]) (by omega) (by omega) (by omega) (by omega)).mono ?_)
     clear E1 c0
     rintro e w6 ⟨rfl,E1⟩
     go_wp2_with fail
     go_roundw
     case rel=>exact ⟨k2 + 1,by go_num,by omega,by rw [htk.out]; exact E1.drop _ (by simp)⟩
     case measure=>simp [intOf]; omega
    ·obtain rfl:k2 = m:=by omega
     rw [List.take_of_length_le (by have:=hm.out; omega)] at E1
     have hmm:pre.length = k2:=hm.out
     have hll:(headR ⟨o,s,a,ov,adj,pre⟩ :: (adj.map adR ++ pre.map pfR)).length ≤ 1000000:=by simp; omega
     have hpl:=laPlain_len ⟨o,s,a,ov,adj,pre⟩
     simp only [hkk,hmm] at hpl
     have hR:=laRecs_R ⟨o,s,a,ov,adj,pre⟩
     have hE:=laRecs_E ⟨o,s,a,ov,adj,pre⟩
     have hlr:(laRecs ⟨o,s,a,ov,adj,pre⟩).length = k + k2 + 2:=by simp [laRecs,hkk,hmm]; omega
     replace hll:=Lib.hid hll
     replace hR:=Lib.hid hR
     replace hE:=Lib.hid hE
     replace hlr:=Lib.hid hlr
     replace hpl:=Lib.hid hpl
     clear hkk hmm
     go_wp2_with fail
     (with_reducible refine (begin_any _ _ _ _ _ _ _ _ E1 hll.out).mono ?_)
     clear E1
     rintro e w4 ⟨rfl,E1⟩
     go_wp2_with fail
     (with_reducible refine (put_z 0 2 0 2 rfl rfl _ _ _ _ _ _ _ _ _ E1 hll.out (by simp) (by omega) (by omega) (by omega) (by omega)).mono ?_)
     clear E1 hll
     rintro e w5 ⟨rfl,E1⟩
     replace E1:EncS w w5 g1 (g1 + 1) [(w.heap.size,laC o s a ov A k c B k2 d)] [(A,adV adj),(B,pfV pre)] (laRecs ⟨o,s,a,ov,adj,pre⟩):=E1
     obtain ⟨v,rs,E1,hd⟩:=E1
     generalize laRecs ⟨o,s,a,ov,adj,pre⟩ = LR at hR hE hlr hd
     have hrl:rs.length ≤ 1000000:=by
      have:=hlr.out
      rw [← hd,List.length_map] at this; omega
     obtain ⟨A1,k1,rfl,rdv,_,_⟩:=own_rd E1.own
     have CE:=cencode_any A1 rs.length k1 rs w5 rdv (fun r hr=>(E1.recs r hr).ok) rfl hrl
     rw [hd,hE.out,hR.out] at CE
     replace CE:=Lib.hid CE
     clear hd hE hR hlr rdv
     have c1:=E1.S.c 0 0 rfl rfl
     go_wp2_with fail
     (with_reducible refine CE.out.mono ?_)
     rintro e w6 ⟨v6,rfl,hown6,hb6⟩
     have hb6':=E1.S.b.trans (hb6.mono E1.S.b.size)
     have c2:=(E1.S.call hb6).c 1 0 rfl rfl
     obtain ⟨A6,k6,rfl,rd6,_,_⟩:=own_rd hown6
     have SE:=seal_any A6 (laPlain ⟨o,s,a,ov,adj,pre⟩).length k6 ((laPlain ⟨o,s,a,ov,adj,pre⟩).length - 2) (laPlain ⟨o,s,a,ov,adj,pre⟩) w6 rd6 rfl (by rw [hpl.out]; omega) (by rw [hpl.out]; omega)
     have hpl2:(laPlain ⟨o,s,a,ov,adj,pre⟩).length ≤ 1000000:=by rw [hpl.out]; omega
     have hpl3:2 ≤ (laPlain ⟨o,s,a,ov,adj,pre⟩).length:=by rw [hpl.out]; omega
     have hsl:(laEnc ⟨o,s,a,ov,adj,pre⟩).length = (laPlain ⟨o,s,a,ov,adj,pre⟩).length:=by rw [laEnc_len,laPlain_len]
     replace hsl:=Lib.hid hsl
     have hse:Hid (sealed (laPlain ⟨o,s,a,ov,adj,pre⟩) ((laPlain ⟨o,s,a,ov,adj,pre⟩).length - 2) = laEnc ⟨o,s,a,ov,adj,pre⟩):=rfl
     clear c1 CE
     rw [hse.out] at SE
     generalize (laPlain ⟨o,s,a,ov,adj,pre⟩).length = q at *
     have hq:((q - 2:Nat):Int) = (q:Int) - 2:=by omega
     replace SE:=Lib.hid (SE _ hq.symm)
     clear hq
     go_wp2_with fail
     (with_reducible refine SE.out.mono ?_)
     rintro e w7 ⟨v7,rfl,hown7,hb7⟩
     go_wp2_with fail
     go_ret2
     exact ⟨_,rfl,by rw [hsl.out]; exact own_mono hown7 (hb6'.size),hb6'.trans (hb7.mono hb6'.size)⟩
end Go.Proofs.YtehimhbgakpenaaGreat
