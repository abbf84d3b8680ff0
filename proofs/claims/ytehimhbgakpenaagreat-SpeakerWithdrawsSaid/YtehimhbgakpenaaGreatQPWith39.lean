/-
  The texts Fl8, Fl4, one after the other.
-/
import Derived.Test.YtehimhbgakpenaaGreatQPWith35
namespace Go.Proofs.YtehimhbgakpenaaGreat.Fd
set_option linter.unusedVariables false
open Go.RowKit Go.Maps Go.Sort
def PollPost (w:World) (g b:Nat) (iv:Int) (N:Fn) (f:Nat → Nat) (e:Ending) (w':World):Prop :=
 ∃ A c ls,e = .returned (.slice A ls.length c) ∧ w'.ownsRow w.heap.size 263 7 (.slice A ls.length c) ls.length (sdV ls) ∧ sdP ls = sndK N (lks N) ∧ (∀ s ∈ ls,LxOwn w' w.heap.size s.x) ∧ FlAt w' g b iv (polN iv N) f ∧ Kf (FS N f) w w'
set_option maxRecDepth 100000 in
set_option maxHeartbeats 12800000 in
theorem fpoll_any (w:World) (g b:Nat) (iv:Int) (N:Fn) (f:Nat → Nat) (h:FlAt w g b iv N f) (hok:FnOk N) :
  Calls Tryz.prog 150 #[.pointer (some ⟨g,0,none⟩)] w (PollPost w g b iv N f):=by
 have O:=flinks_any w g b iv N f h
 unfold IntsPost at O
 obtain ⟨len,hlen⟩:∃ z,(lks N).length = z:=⟨_,rfl⟩
 have hl256:len ≤ 256:=by rw [← hlen]; exact lks_len N
 rw [hlen] at O
 replace O:=Lib.hid O
 go_enter Tryz.func150,Tryz.ntmps150
 go_wp2_with fail
 (with_reducible refine (O.out).mono ?_)
 rintro e w1 ⟨A,c,rfl,og,hb⟩
 clear O
 have hF:=h.below hb
 have hsz1:=hb.size
 have hfin:Hid (∀ wr AS cS ls,FlMid w1 wr g b N f (polK iv N len) → wr.ownsRow w1.heap.size 263 7 (.slice AS ls.length cS) ls.length (sdV ls) → sdP ls = sndK N (lks N) → (∀ s ∈ ls,LxOwn wr w1.heap.size s.x) → PollPost w g b iv N f (.returned (.slice AS ls.length cS)) wr):=fun wr AS cS ls hm ho hp hx=>by
  have h1:=hm.fin hF (fun i _=>polK_some iv N len i)
  refine ⟨AS,cS,ls,rfl,own_mono ho hsz1,hp,fun s hs=>LaOwn.monoF (hx s hs) hsz1,?_,((Kf.refl _ w).below hb).trans hm.kf⟩
  refine ⟨h1.c0,h1.c1,?_,fun i hi D hD=>h1.el i hi D (by rw [← hlen,polK_end iv N i hi]; exact hD),fun i hi hs=>hF.ne i hi (by simpa [polN] using hs),fun i j hi hj hs hs'=>hF.inj i j hi hj (by simpa [polN] using hs) (by simpa [polN] using hs')⟩
  have e:nbM (polN iv N) f = nbM (polK iv N len) f:=by
   funext z
   unfold nbM
   by_cases hz:0 ≤ z ∧ z < 256
   ·rw [if_pos hz,if_pos hz,← hlen,polK_end iv N z.toNat (by omega)]
   ·rw [if_neg hz,if_neg hz]
  rw [e]; exact h1.nb
 have hmid:Hid (FlMid w1 w1 g b N f (polK iv N 0)):=by rw [polK_zero]; exact hF.mid
 have hpo:Hid (PoA w.heap.size w1.heap.size w1 A len c (lks N) none 0 0 [] (.slice none 0 0) []):=⟨by rw [hlen] at *; exact og,World.ownsRow_nil _ _ _ _,World.ownsRow_nil _ _ _ _,by simp⟩
 have hsp:Hid (sdP [] = sndK N ((lks N).take 0)):=rfl
 replace hF:=Lib.hid hF
 replace hok:=Lib.hid hok
 replace hlen:=Lib.hid hlen
 clear h og hb
 go_wp2_with fail
 go_loopw [3,13] (fun v3 v13 wr=>∃ (k:Nat) (AS:Option Addr) (cS:Nat) (ls:List Sd),v13 = .int .i64 k ∧ v3 = .slice AS ls.length cS ∧ k ≤ len ∧ ls.length ≤ 64 * k ∧ Hid (FlMid w1 wr g b N f (polK iv N k)) ∧ Hid (PoA w.heap.size w1.heap.size wr A len c (lks N) none 0 0 [] (.slice AS ls.length cS) ls) ∧ Hid (sdP ls = sndK N ((lks N).take k))) (fun _ v13 _=>len - (intOf v13).toNat)
 case atStart=>exact ⟨0,none,0,[],rfl,rfl,by omega,by simp,hmid,hpo,hsp⟩
 case round =>
  clear hmid hpo hsp
  obtain ⟨k,AS,cS,ls,rfl,rfl,hk,hls,hmid,hpo,hsp⟩:=hrel
  by_cases hkn:k < len
  ·have hkl:k < (lks N).length:=by rw [hlen.out]; exact hkn
   have hmem:=(lks_mem (N:=N) (lks N)[k]).1 (List.getElem_mem hkl)
   obtain ⟨q,hq⟩:=Int.eq_ofNat_of_zero_le hmem.1.1
   have hq256:q < 256:=by have:=hmem.1.2; omega
   have hqs:(N q).isSome = true:=by have:=hmem.2; rwa [hq,Int.toNat_natCast] at this
   obtain ⟨D,hD⟩:=Option.isSome_iff_exists.1 hqs
   have hat:=polK_at iv N k hkl q hq
   have hsucc:=polK_succ iv N k hkl q hq hD
   have hssc:=sndK_succ N k hkl q hq hD
   obtain ⟨M,hm,he⟩:=hmid.out.el q hq256 D (by rw [hat,hD])
   have hko:=keysL_orgs he
   have hrd2:Rd wr A ((lks N).map encZ):=own_slice hpo.out.o1
   obtain ⟨bz,offz,rfl,hz⟩:=rd_at hrd2 (by simp only [List.length_map]; omega)
   have z0:=hz k _ (by rw [List.getElem?_map,List.getElem?_eq_getElem hkl]; rfl)
   rw [hq] at z0
   unfold encZ at z0
   have x1:=hmid.out.c1
   have hwq:(Lit.int .i64 (q:Int)).wf = true:=wf64 (by omega) (by omega)
   have K1:=hmid.out.nb.run_at nbT hwq
   rw [nbM_at hq256,hD] at K1
   simp only [Option.map_some,Option.getD_some] at K1
   have SO:=sortedP_any wr (f q) 64 M hm (by omega)
   unfold SortedPost at SO
   rw [hko] at SO
   obtain ⟨no,hno⟩:∃ z,(orgs D).length = z:=⟨_,rfl⟩
   have hno64:no ≤ 64:=by rw [← hno]; exact orgs_len D
   rw [hno] at SO
   replace SO:=Lib.hid SO
   replace hsucc:=Lib.hid hsucc
   replace hssc:=Lib.hid hssc
   replace hq:=Lib.hid hq
   replace hno:=Lib.hid hno
   have hkl':=Lib.hid hkl
   clear hz hrd2 hmem hat hm he hko
   go_wp2_with fail
   (with_reducible refine (keysP_any _ _).mono ?_)
   rintro e w4 ⟨rfl,rfl⟩
   go_wp2_with fail
   (with_reducible refine SO.out.mono ?_)
   rintro e w5 ⟨A2,c2,rfl,og2,hb5⟩
   clear SO K1 x1 z0
   have hb4:=(below_new' wr (.cells #[.map (some (f q))] 228)).trans (hb5.mono (by simp))
   have hmid5:Hid (FlMid w1 w5 g b N f (setN (polK iv N k) q (polJ iv D 0))):=by
    have h1:=hmid.out.below hb4
    have e:setN (polK iv N k) q (polJ iv D 0) = polK iv N k:=by
     rw [polJ_zero]
     funext j
     unfold setN
     by_cases e:j = q
     ·subst e; rw [if_pos rfl,polK_at iv N k hkl j hq.out,hD]
     ·rw [if_neg e]
    rw [e]; exact h1
   have hszw:w1.heap.size ≤ wr.heap.size:=hmid.out.kf.size
   have hpo5:Hid (PoA w.heap.size w1.heap.size w5 (some ⟨bz,offz,none⟩) len c (lks N) A2 no c2 (orgs D) (.slice AS ls.length cS) ls):=by
    have h1:=hpo.out.below hb4
    exact ⟨h1.o1,own_mono og2 (by simp; omega),h1.os,h1.ok⟩
   have hsp5:Hid (sdP ls = sndK N ((lks N).take k) ++ sndJ (q:Int) D ((orgs D).take 0)):=by
    show _ = _
    rw [hsp.out]; simp [sndJ]
   clear hmid hpo hsp og2 hb5 hb4
   go_wp2_with fail
   go_loopw [3,27] (fun v3 v27 wx=>∃ (j:Nat) (AS:Option Addr) (cS:Nat) (ls:List Sd),v27 = .int .i64 j ∧ v3 = .slice AS ls.length cS ∧ j ≤ no ∧ ls.length ≤ 64 * k + j ∧ Hid (FlMid w1 wx g b N f (setN (polK iv N k) q (polJ iv D j))) ∧ Hid (PoA w.heap.size w1.heap.size wx (some ⟨bz,offz,none⟩) len c (lks N) A2 no c2 (orgs D) (.slice AS ls.length cS) ls) ∧ Hid (sdP ls = sndK N ((lks N).take k) ++ sndJ (q:Int) D ((orgs D).take j))) (fun _ v27 _=>no - (intOf v27).toNat)
   case atStart=>exact ⟨0,AS,cS,ls,rfl,rfl,by omega,by omega,hmid5,hpo5,hsp5⟩
   case round =>
    clear hmid5 hpo5 hsp5
    obtain ⟨j,AS,cS,ls,rfl,rfl,hj,hls,hmid,hpo,hsp⟩:=hrel
    by_cases hjn:j < no
    ·have hjl:j < (orgs D).length:=by rw [hno.out]; exact hjn
     have hmem:=(orgs_mem (D:=D) (orgs D)[j]).1 (List.getElem_mem hjl)
     obtain ⟨o,ho⟩:=Int.eq_ofNat_of_zero_le hmem.1.1
     have ho64:o < 64:=by have:=hmem.1.2; omega
     obtain ⟨hh,hDo⟩:∃ hh,D o = some hh:=by
      have:=hmem.2
      rw [ho,Int.toNat_natCast] at this
      exact Option.isSome_iff_exists.1 this
     have hst:Hid (∀ i,i < 256 → (setN (polK iv N k) q (polJ iv D j) i).isSome = true → (N i).isSome = true):=fun i hi hs=>by
      unfold setN at hs
      split at hs
      ·next e=>rw [e]; exact hqs
      ·rwa [polK_some] at hs
     obtain ⟨M,hm,he⟩:=hmid.out.el q hq256 (polJ iv D j) (by unfold setN; rw [if_pos rfl])
     have hel:=he o ho64
     rw [polJ_at iv D j hjl o ho,hDo] at hel
     obtain ⟨Mv,hMv⟩:∃ Mv,M (o:Int) = Mv:=⟨_,rfl⟩
     rw [hMv] at hel
     cases Mv with
     | none=>exact hel.elim
     | some vv =>
     obtain ⟨A5,c5,B5,d5,rfl,hla⟩:=hel
     have hwo:(Lit.int .i64 (o:Int)).wf = true:=wf64 (by omega) (by omega)
     have K2:=hm.run_at pdT hwo
     rw [hMv] at K2
     simp only [Option.getD_some] at K2
     have hrd2:Rd wr A2 ((orgs D).map encZ):=own_slice hpo.out.o2
     obtain ⟨by2,offy,rfl,hz⟩:=rd_at hrd2 (by simp only [List.length_map]; omega)
     have z0:=hz j _ (by rw [List.getElem?_map,List.getElem?_eq_getElem hjl]; rfl)
     rw [ho] at z0
     unfold encZ at z0
     have hb5:=hok.out q D o hh hD hDo
     have hKq:=hmid.out.kf.kq hF.out.maps
     have hla2:=hKq.la hla.1
     replace hla:=Lib.hid hla
     replace hb5:=Lib.hid hb5
     unfold hdV at K2
     replace hm:=Lib.hid hm
     replace he:=Lib.hid he
     replace hMv:=Lib.hid hMv
     have hjl':=Lib.hid hjl
     replace ho:=Lib.hid ho
     clear hz hrd2 hmem hKq
     by_cases hll:0 < hh.l
     ·have hs1:Hid (setN (polK iv N k) q (polJ iv D (j + 1)) = setN (polK iv N k) q (polJ iv D j)):=by
       show _ = _
       rw [polJ_same iv D j hjl o ho.out hDo hll]
      have hs2:=sndJ_no (q:Int) D j hjl o ho.out hDo hll
      rw [← hs1.out] at hmid
      rw [← hs2] at hsp
      have hbn:=below_new' wr (.cells #[.int .i64 hh.x.o,.int .i64 hh.x.s,.int .i64 hh.x.a,.bool hh.x.ov,.slice A5 hh.x.adj.length c5,.slice B5 hh.x.pre.length d5,.int .i64 hh.l] 231)
      have hbx:=Box.new' wr #[.int .i64 hh.x.o,.int .i64 hh.x.s,.int .i64 hh.x.a,.bool hh.x.ov,.slice A5 hh.x.adj.length c5,.slice B5 hh.x.pre.length d5,.int .i64 hh.l] 231 wr.heap.size _ rfl rfl
      replace hmid:=Lib.hid (hmid.out.below hbn)
      replace hpo:=Lib.hid (hpo.out.below hbn)
      clear hs1 hs2 hm he hla2 hbn
      go_upto_region 10 with fail
      clear K2 z0
      generalize World.alloc wr _ = w6 at *
      generalize wr.heap.size = g6 at *
      have a6:=hbx.c 6 rfl
      clear hbx
      go_wp2_with fail
      go_round
      case rel=>exact ⟨j + 1,AS,cS,ls,by go_num,rfl,by omega,by omega,hmid,hpo,hsp⟩
      case measure=>simp [intOf]; omega
     ·have hs2:=sndJ_yes (q:Int) D j hjl o ho.out hDo hll
      have hpj:=polJ_succ iv D j hjl o ho.out hDo
      have hadj:=hb5.out.1.2.2.2.1
      have hpre:=hb5.out.1.2.2.2.2.1
      have C:=fun W hb=>fclone_any W _ hh.x (hla2.below hb) (by omega) (by omega)
      replace C:=Lib.hid C
      have hbn:=below_new' wr (.cells #[.int .i64 hh.x.o,.int .i64 hh.x.s,.int .i64 hh.x.a,.bool hh.x.ov,.slice A5 hh.x.adj.length c5,.slice B5 hh.x.pre.length d5,.int .i64 hh.l] 231)
      have hbx:=Box.new' wr #[.int .i64 hh.x.o,.int .i64 hh.x.s,.int .i64 hh.x.a,.bool hh.x.ov,.slice A5 hh.x.adj.length c5,.slice B5 hh.x.pre.length d5,.int .i64 hh.l] 231 wr.heap.size _ rfl rfl
      have hty:∃ cs fr,(wr.alloc (.cells #[.int .i64 hh.x.o,.int .i64 hh.x.s,.int .i64 hh.x.a,.bool hh.x.ov,.slice A5 hh.x.adj.length c5,.slice B5 hh.x.pre.length d5,.int .i64 hh.l] 231)).heap[wr.heap.size]? = some (.cells cs 231 fr):=⟨_,_,heap_alloc_new wr _⟩
      have hg6:w1.heap.size ≤ wr.heap.size:=hmid.out.kf.size
      replace hmid:=Lib.hid (hmid.out.below hbn)
      replace hpo:=Lib.hid (hpo.out.below hbn)
      have C6:=C.out _ hbn
      replace C6:=Lib.hid C6
      replace hs2:=Lib.hid hs2
      replace hpj:=Lib.hid hpj
      clear hm he hla2 hbn C
      go_upto_region 10 with fail
      clear K2 z0
      generalize World.alloc wr _ = w6 at *
      generalize wr.heap.size = g6 at *
      have a0:=hbx.c 0 rfl
      have a1:=hbx.c 1 rfl
      have a2:=hbx.c 2 rfl
      have a3:=hbx.c 3 rfl
      have a4:=hbx.c 4 rfl
      have a5:=hbx.c 5 rfl
      have a6:=hbx.c 6 rfl
      have hl0:decide (0 < hh.l) = false:=by simpa using hll
      go_wp2_with fail
      (with_reducible refine (C6.out).mono ?_)
      rintro e w7 ⟨v7,rfl,hown,hb7⟩
      clear a0 a1 a2 a3 a4 a5 a6 C6
      have hsz6:w1.heap.size ≤ w6.heap.size:=hmid.out.kf.size
      have hown':LaOwn w7 w1.heap.size v7 hh.x:=hown.monoF hsz6
      replace hmid:=Lib.hid (hmid.out.below hb7)
      replace hpo:=Lib.hid (hpo.out.below hb7)
      replace hbx:=hbx.later hb7
      replace hty:=ty_below hty hb7
      obtain ⟨A7,c7,B7,d7,hv7⟩:=hown'.at.form
      subst hv7
      have hb8:=below_new' w7 (.cells #[.int .i64 (q:Int),.int .i64 hh.x.o,.int .i64 hh.x.s,.int .i64 hh.x.a,.bool hh.x.ov,.slice A7 hh.x.adj.length c7,.slice B7 hh.x.pre.length d7] 263)
      have rd0:=Rd.lit w7 #[.int .i64 (q:Int),.int .i64 hh.x.o,.int .i64 hh.x.s,.int .i64 hh.x.a,.bool hh.x.ov,.slice A7 hh.x.adj.length c7,.slice B7 hh.x.pre.length d7] 263
      have hown8:LxOwn _ w1.heap.size ⟨hh.x,A7,c7,B7,d7⟩:=LaOwn.below hown' hb8
      have hpo8:=hpo.out.below hb8
      have hmid8:=hmid.out.below hb8
      have hbx8:=hbx.later hb8
      have hty8:=ty_below hty hb8
      have hos:=hpo8.os
      have hsz8:=hmid8.kf.size
      clear hown hown' hmid hpo hbx hty hb7 hb8
      replace hown8:=Lib.hid hown8
      replace hpo8:=Lib.hid hpo8
      replace hmid8:=Lib.hid hmid8
      replace hbx8:=Lib.hid hbx8
      replace hty8:=Lib.hid hty8
      have hone:=sdL_one ⟨(q:Int),⟨hh.x,A7,c7,B7,d7⟩⟩
      have hb9a:ls.length + 1 ≤ maxLen:=by simp only [maxLen]; omega
      have hb9b:(ls.length + 1) * 88 ≤ 140737488355328:=by omega
      go_upto_region 12 with (at_builtin; refine wpList_appB rfl sdT (.tmp 37) (.tmp 43) rfl w1.heap.size rfl hos (m:=1) rfl (by simp) rd0 hone hb9a hb9b hsz8 (ls.length + 1) _ rfl rfl ?_; intro v9 w9 ho9 hbel9 hg9 hv9; obtain ⟨A9,c9,rfl,-⟩:=own_rd ho9)
      have hne9:=own_offTy hos hty8.out (by decide)
      have hne9':(Value.slice AS ls.length cS).ownBlock ≠ some g6:=by
       rcases hne9 with e | e
       ·rw [e]; simp
       ·exact e
      have hpo9:=PoA.app (s:=⟨(q:Int),⟨hh.x,A7,c7,B7,d7⟩⟩) hpo8.out hown8.out ho9 hg9
      have hmid9:=hmid8.out.app hbel9 (Nat.le_refl _) hF.out hst.out
      have hbx9:=hbx8.out.kept hg9 (fun e=>hne9' e.symm) (by simp)
      have hty9:=ty_row hty8.out hg9 hne9'
      have x0:w9.cell? ⟨g,0,none⟩ = some (.int .i64 iv):=by
       obtain ⟨iv',e1,e2⟩:=hmid9.c0
       rw [hF.out.c0] at e2
       rw [e1,← e2]
      clear hos hpo8 hmid8 hbx8 hty8 hown8 hone hb9a hb9b rd0 ho9 hbel9 hg9 hv9 hne9 hne9'
      have a6:=hbx9.c 6 rfl
      have f6:=hbx9.f 6 rfl
      have hgs:=grownBy_set w9 g6 6 (.int .i64 iv)
      have hpo10:=Lib.hid (hpo9.row hgs hty9)
      have hmid10:=Lib.hid (hmid9.new hgs hg6 hF.out hst.out)
      have hbx10:=hbx9.set 6 (.int .i64 iv) (by simp)
      clear hgs hpo9 hmid9 hbx9 hty9
      go_upto_region 13 with fail
      clear x0 a6 f6
      generalize World.setCell w9 _ _ = w10 at *
      obtain ⟨M2,hm2,he2⟩:=hmid10.out.el q hq256 (polJ iv D j) (by unfold setN; rw [if_pos rfl])
      obtain ⟨w11,run11,hm11,hg11⟩:=hm2.run_put pdT (by omega) (i:=(o:Int)) (by omega) (by omega) (hdV hh.x A5 c5 B5 d5 iv)
      have hmid11:Hid (FlMid w1 w11 g b N f (setN (polK iv N k) q (polJ iv D (j + 1)))):=by
       have h1:=hmid10.out.turn hF.out hq256 hqs hst.out (D':=polJ iv D (j + 1)) hm11 (fun o' ho'=>by
        rw [hpj.out]
        by_cases e:o' = o
        ·subst e
         simp only [if_true]
         refine ⟨A5,c5,B5,d5,?_,?_⟩
         ·unfold polH; rw [if_neg (by omega)]
         ·unfold polH; rw [if_neg (by omega)]; exact hla.out
        ·have e':¬ (o':Int) = (o:Int):=by omega
         simp only [if_neg e,if_neg e']
         exact he2 o' ho') hg11
       have e:setN (setN (polK iv N k) q (polJ iv D j)) q (polJ iv D (j + 1)) = setN (polK iv N k) q (polJ iv D (j + 1)):=by
        funext z; unfold setN; split <;> rfl
       rw [e] at h1
       exact h1
      have hpo11:Hid (PoA w.heap.size w1.heap.size w11 (some ⟨bz,offz,none⟩) len c (lks N) (some ⟨by2,offy,none⟩) no c2 (orgs D) (.slice A9 (ls.length + 1) c9) (ls ++ [⟨(q:Int),⟨hh.x,A7,c7,B7,d7⟩⟩])):=hpo10.out.kq (Kq.of_map hm2 hg11)
      have hsp11:Hid (sdP (ls ++ [⟨(q:Int),⟨hh.x,A7,c7,B7,d7⟩⟩]) = sndK N ((lks N).take k) ++ sndJ (q:Int) D ((orgs D).take (j + 1))):=by
       show _ = _
       rw [hs2.out,← List.append_assoc,← hsp.out]
       simp [sdP]
      unfold hdV at run11
      have a0:=hbx10.c 0 rfl
      have a1:=hbx10.c 1 rfl
      have a2:=hbx10.c 2 rfl
      have a3:=hbx10.c 3 rfl
      have a4:=hbx10.c 4 rfl
      have a5:=hbx10.c 5 rfl
      have a6:=hbx10.c 6 rfl
      clear hpo10 hmid10 hbx10 hm2 he2 hm11 hg11 hsp hs2 hpj hla
      go_wp2_with fail
      go_round
      case rel=>exact ⟨j + 1,A9,c9,ls ++ [⟨(q:Int),⟨hh.x,A7,c7,B7,d7⟩⟩],by go_num,by simp,by omega,by simp; omega,hmid11,by simpa using hpo11,hsp11⟩
      case measure=>simp [intOf]; omega
    ·obtain rfl:j = no:=by omega
     have hmidE:Hid (FlMid w1 wr g b N f (polK iv N (k + 1))):=by
      rw [hsucc.out]
      have h1:=hmid.out
      rw [← hno.out] at h1
      exact ⟨h1.c0,h1.c1,h1.nb,fun i hi E hE=>by
       unfold setN at hE
       by_cases e:i = q
       ·subst e
        simp only [if_true,Option.some.injEq] at hE
        subst hE
        obtain ⟨M,hm,he⟩:=h1.el i hi (polJ iv D (orgs D).length) (by unfold setN; rw [if_pos rfl])
        exact ⟨M,hm,fun o ho=>by rw [← polJ_end64 iv D o ho]; exact he o ho⟩
       ·simp only [if_neg e] at hE
        exact h1.el i hi E (by unfold setN; rw [if_neg e]; exact hE),h1.kf⟩
     have hspE:Hid (sdP ls = sndK N ((lks N).take (k + 1))):=by
      show _ = _
      rw [hssc.out,hsp.out,← hno.out,List.take_length]
     have hpoE:Hid (PoA w.heap.size w1.heap.size wr (some ⟨bz,offz,none⟩) len c (lks N) none 0 0 [] (.slice AS ls.length cS) ls):=⟨hpo.out.o1,World.ownsRow_nil _ _ _ _,hpo.out.os,hpo.out.ok⟩
     clear hmid hpo hsp
     go_wp2_with fail
     go_round
     case rel=>exact ⟨k + 1,AS,cS,ls,by go_num,rfl,by omega,by omega,hmidE,hpoE,hspE⟩
     case measure=>simp [intOf]; omega
  ·obtain rfl:k = len:=by omega
   have hf:=hfin.out _ _ _ _ hmid.out hpo.out.os (by rw [hsp.out,← hlen.out,List.take_length]) hpo.out.ok
   replace hf:=Lib.hid hf
   clear hmid hpo hsp
   go_wp2_with fail
   go_ret
   exact hf.out
end Go.Proofs.YtehimhbgakpenaaGreat.Fd

namespace Go.Proofs.YtehimhbgakpenaaGreat.Fd
set_option linter.unusedVariables false
open Go.RowKit Go.Maps Go.Sort
noncomputable def offs (D:Db) (l:List La):Db:=l.foldl offD D
theorem offs_next (l:List Lx) (k:Nat) (hk:k < l.length) (D:Db):offs D ((laL l).take (k + 1)) = offD (offs D ((laL l).take k)) l[k].y:=by
 unfold offs
 rw [List.take_succ_eq_append_getElem (by simpa [laL] using hk),List.foldl_append,laL_get l k hk]
 rfl
theorem FlAt.up {w w':World} {g b:Nat} {iv:Int} {N:Fn} {f:Nat → Nat} (h:FlAt w g b iv N f) {i:Nat} (hi:i < 256) (hm':MapIs 256 w' b (fun j=>if j = (i:Int) then some (.map (some w.heap.size)) else nbM N f j))
  (hnew:MapIs 64 w' w.heap.size (fun _=>none)) (hq:Kq w w') (hkeep:∀ j,j < 256 → (N j).isSome = true → ∀ D,N j = some D → InAt w' (f j) D):FlAt w' g b iv (setN N i (fun _=>none)) (fun j=>if j = i then w.heap.size else f j):=by
 have hlt:=h.lt
 refine ⟨hq.cell h.c0,hq.cell h.c1,?_,fun j hj D hD=>?_,fun j hj hs=>?_,fun j k hj hk hjs hks e=>?_⟩
 ·have e:nbM (setN N i (fun _=>none)) (fun j=>if j = i then w.heap.size else f j) = (fun j=>if j = (i:Int) then some (.map (some w.heap.size)) else nbM N f j):=by
   funext z
   unfold nbM setN
   by_cases e:z = (i:Int)
   ·subst e
    rw [if_pos ⟨by omega,by omega⟩]
    simp
   ·simp only [if_neg e]
    by_cases hz:0 ≤ z ∧ z < 256
    ·have e2:z.toNat ≠ i:=by omega
     simp only [if_pos hz,if_neg e2]
    ·simp only [if_neg hz]
  rw [e]; exact hm'
 ·unfold setN at hD
  by_cases e:j = i
  ·subst e
   simp only [if_true,Option.some.injEq] at hD
   subst hD
   simp only [if_true]
   exact ⟨_,hnew,fun o _=>trivial⟩
  ·simp only [if_neg e] at hD ⊢
   exact hkeep j hj (by rw [hD]; rfl) D hD
 ·unfold setN at hs
  by_cases e:j = i
  ·simp only [if_pos e]; omega
  ·simp only [if_neg e] at hs ⊢; exact h.ne j hj hs
 ·unfold setN at hjs hks
  by_cases e1:j = i
  ·by_cases e2:k = i
   ·omega
   ·simp only [if_pos e1,if_neg e2] at e hks
    have:=h.flt hk hks
    omega
  ·by_cases e2:k = i
   ·simp only [if_neg e1,if_pos e2] at e hjs
    have:=h.flt hj hjs
    omega
   ·simp only [if_neg e1,if_neg e2] at e hjs hks
    exact h.inj j k hj hk hjs hks e
def UpPost (w:World) (g b:Nat) (iv:Int) (N':Fn) (f:Nat → Nat) (i:Nat) (e:Ending) (w':World):Prop:=e = .returned (.int .i64 0) ∧ ∃ k,w.heap.size ≤ k ∧ FlAt w' g b iv N' (fun j=>if j = i then k else f j) ∧ w.grownBy w' (some b)
set_option maxRecDepth 100000 in
set_option maxHeartbeats 6400000 in
theorem fup_any (w:World) (g b:Nat) (iv:Int) (N:Fn) (f:Nat → Nat) (h:FlAt w g b iv N f) (i:Nat) (hi:i < 256) (A:Option Addr) (n c:Nat) (l:List Lx) (hA:Rd w A (lxV l)) (hn:l.length = n) (hm:n ≤ 1000000) (hok:∀ s ∈ l,LxOk w s ∧ LaValid s.y) :
  Calls Tryz.prog 144 #[.pointer (some ⟨g,0,none⟩),.int .i64 (i:Int),.slice A n c] w (UpPost w g b iv (setN N i (offs (fun _=>none) (laL l))) f i):=by
 have S:=(St.start w).read hA
 have hnb:=h.nb
 have hc1:=h.c1
 have hgb:=h.lt
 have hwi:(Lit.int .i64 (i:Int)).wf = true:=wf64 (by omega) (by omega)
 have hi9:(i:Int) < 256:=by omega
 replace hn:=Lib.hid hn
 replace hok:=Lib.hid hok
 clear hA
 have hmk:=@run_makeMap Tryz.prog
 go_enter Tryz.func144,Tryz.ntmps144
 go_wp2_with fail
 go_loopw [21] (fun v21 wr=>∃ (k:Nat),v21 = .int .i64 k ∧ k ≤ n ∧ St w wr [] [(A,lxV l)]) (fun v21 _=>n - (intOf v21).toNat)
 case atStart=>exact ⟨0,rfl,by omega,S⟩
 case round =>
  clear S
  obtain ⟨k,rfl,hk,S⟩:=hrel
  by_cases hkn:k < n
  ·have hkl:k < l.length:=by rw [hn.out]; exact hkn
   obtain ⟨ba,off,rfl⟩:=lx_form (S.r 0 rfl) (by omega)
   obtain ⟨hso,hva⟩:=hok.out l[k] (List.getElem_mem hkl)
   obtain ⟨s,hs⟩:∃ s,l[k] = s:=⟨_,rfl⟩
   rw [hs] at hso hva
   have hcell:=fun W (h:Rd W (some ⟨ba,off,none⟩) (lxV l))=>lx_cells h k hkl s hs
   clear hs hkl
   obtain ⟨y,A2,c2,B2,d2⟩:=s
   unfold LxOk at hso
   simp only at hso hcell hva
   obtain ⟨x0,x1,x2,x3,x4,x5⟩:=hcell _ (S.r 0 rfl)
   have V:=fun W hb=>valid_at W _ y (hso.below hb)
   rw [vB_t hva] at V
   replace V:=Lib.hid V
   clear hcell hso
   go_upto_region 8 with fail
   replace S:=S.new' #[.int .i64 y.o,.int .i64 y.s,.int .i64 y.a,.bool y.ov,.slice A2 y.adj.length c2,.slice B2 y.pre.length d2] 41 wr.heap.size _ rfl rfl
   clear x0 x1 x2 x3 x4 x5
   generalize World.alloc wr _ = w4 at *
   generalize wr.heap.size = g4 at *
   have r0:=S.c 0 0 rfl rfl
   have r1:=S.c 0 1 rfl rfl
   have r2:=S.c 0 2 rfl rfl
   have r3:=S.c 0 3 rfl rfl
   have r4:=S.c 0 4 rfl rfl
   have r5:=S.c 0 5 rfl rfl
   go_wp2_with fail
   (with_reducible refine (V.out _ S.b).mono ?_)
   rintro e w5 ⟨rfl,hb⟩
   clear r0 r1 r2 r3 r4 r5
   replace S:=(S.call hb).keepBoxes [] (by simp)
   clear hb V
   go_wp2_with fail
   go_round
   case rel=>exact ⟨k + 1,by go_num,by omega,S⟩
   case measure=>simp [intOf]; omega
  ·obtain rfl:k = n:=by omega
   have hc2:=cell_later S.b hc1
   have eqn:=fun W=>(show (binOp .eql 160 (.map (some b)) (.map none)).run Tryz.prog W = .ok (.bool false) W by kernel_rfl)
   have hnb2:=hnb.below S.b
   have hFl:=h.below S.b
   have hb0:=Lib.hid S.b
   have hsz:=S.b.size
   -- the new map
   have hba:=below_new' wr (.map #[] 0)
   obtain ⟨w9,run9,hm9,hg9⟩:=(hnb2.below hba).run_put nbT (by omega) (i:=(i:Int)) (by omega) hi9 (.map (some wr.heap.size))
   have hq9:=(Kq.of_below hba).trans (Kq.of_map (hnb2.below hba) hg9)
   have hFl9:FlAt w9 g b iv (setN N i (fun _=>none)) (fun j=>if j = i then wr.heap.size else f j):=hFl.up hi hm9 ((MapIs.made 64 wr).kept hg9 (fun e=>by injection e with e; have:=hFl.lt; omega)) hq9 (fun j hj hs D hD=>((hFl.below hba).el j hj D hD).kept (Kq.of_map (hnb2.below hba) hg9) hg9 (h.ne j hj hs))
   have hg0:w.grownBy w9 (some b):=(below_row hb0.out (some b)).andThen ((below_row hba (some b)).trans hg9) (fun j e=>.inr e)
   have hq0:Kq w w9:=(Kq.of_below hb0.out).trans hq9
   have hkb:w.heap.size ≤ wr.heap.size:=hsz
   have e0:offs (fun _=>none) ((laL l).take 0) = fun _=>none:=rfl
   rw [← e0] at hFl9
   clear e0 hm9 hg9 hq9 hba hFl hnb2 hb0 hsz hnb
   obtain ⟨kb,hkbe⟩:∃ z,wr.heap.size = z:=⟨_,rfl⟩
   rw [hkbe] at hFl9 hkb
   have hrd0:Hid (Rd w A (lxV l)):=S.rd 0 _ rfl
   replace hFl9:=Lib.hid hFl9
   replace hg0:=Lib.hid hg0
   replace hq0:=Lib.hid hq0
   replace hkbe:=Lib.hid hkbe
   clear S
   go_wp2_with fail
   go_loopw [46] (fun v46 wr=>∃ (q:Nat),v46 = .int .i64 q ∧ q ≤ k ∧ Hid (FlAt wr g b iv (setN N i (offs (fun _=>none) ((laL l).take q))) (fun j=>if j = i then kb else f j)) ∧ Hid (w.grownBy wr (some b)) ∧ Hid (Kq w wr)) (fun v46 _=>k - (intOf v46).toNat)
   case atStart=>exact ⟨0,rfl,by omega,hFl9,hg0,hq0⟩
   case round =>
    clear hFl9 hg0 hq0 run9
    obtain ⟨q,rfl,hq,hFl,hg,hKq⟩:=hrel
    by_cases hqn:q < k
    ·have hql:q < l.length:=by rw [hn.out]; exact hqn
     have hrd:=hKq.out.rd hrd0.out
     obtain ⟨ba,off,rfl⟩:=lx_form hrd (by omega)
     obtain ⟨hso,hva⟩:=hok.out l[q] (List.getElem_mem hql)
     have hnx:=offs_next l q hql (fun _=>none)
     obtain ⟨s,hs⟩:∃ s,l[q] = s:=⟨_,rfl⟩
     rw [hs] at hso hva hnx
     obtain ⟨x0,x1,x2,x3,x4,x5⟩:=lx_cells hrd q hql s hs
     clear hs hql hrd
     obtain ⟨y,A2,c2,B2,d2⟩:=s
     unfold LxOk at hso
     simp only at hso x0 x1 x2 x3 x4 x5 hva hnx
     have hbn:=below_new' wr (.cells #[.int .i64 y.o,.int .i64 y.s,.int .i64 y.a,.bool y.ov,.slice A2 y.adj.length c2,.slice B2 y.pre.length d2] 41)
     have hbx:=Box.new' wr #[.int .i64 y.o,.int .i64 y.s,.int .i64 y.a,.bool y.ov,.slice A2 y.adj.length c2,.slice B2 y.pre.length d2] 41 wr.heap.size _ rfl rfl
     have OF:=foffer0_any _ g b iv _ _ (hFl.out.below hbn) i hi (offs (fun _=>none) ((laL l).take q)) (by unfold setN; rw [if_pos rfl]) _ y ((hKq.out.la hso).below hbn) hva
     unfold OfferPost at OF
     have hKq2:=hKq.out.trans (Kq.of_below hbn)
     have hg2:=hg.out.andThen (below_row hbn none) (fun j e=>by cases e)
     replace OF:=Lib.hid OF
     replace hnx:=Lib.hid hnx
     have hin:∃ M,MapIs 64 (wr.alloc (.cells #[.int .i64 y.o,.int .i64 y.s,.int .i64 y.a,.bool y.ov,.slice A2 y.adj.length c2,.slice B2 y.pre.length d2] 41)) kb M:=by
      obtain ⟨M,hm,_⟩:=(hFl.out.below hbn).el i hi (offs (fun _=>none) ((laL l).take q)) (by unfold setN; rw [if_pos rfl])
      simp only [if_true] at hm
      exact ⟨M,hm⟩
     replace hin:=Lib.hid hin
     clear hso hFl hKq hg hbn
     go_upto_region 17 with fail
     generalize World.alloc wr _ = w4 at *
     generalize wr.heap.size = g4 at *
     have r0:=hbx.c 0 rfl
     have r1:=hbx.c 1 rfl
     have r2:=hbx.c 2 rfl
     have r3:=hbx.c 3 rfl
     have r4:=hbx.c 4 rfl
     have r5:=hbx.c 5 rfl
     clear x0 x1 x2 x3 x4 x5 hbx
     go_wp2_with fail
     (with_reducible refine (OF.out).mono ?_)
     rintro e w5 ⟨rfl,hFl5,hg5⟩
     clear r0 r1 r2 r3 r4 r5
     simp only [if_true] at hg5
     have hFl6:Hid (FlAt w5 g b iv (setN N i (offs (fun _=>none) ((laL l).take (q + 1)))) (fun j=>if j = i then kb else f j)):=by
      rw [hnx.out]
      have e:setN (setN N i (offs (fun _=>none) ((laL l).take q))) i (offD (offs (fun _=>none) ((laL l).take q)) y) = setN N i (offD (offs (fun _=>none) ((laL l).take q)) y):=by
       funext j; unfold setN; split <;> rfl
      rw [e] at hFl5
      exact hFl5
     have hg6:Hid (w.grownBy w5 (some b)):=hg2.andThen hg5 (fun j e=>by injection e with e; exact .inl (by omega))
     obtain ⟨M,hmM⟩:=hin.out
     have hKq6:Hid (Kq w w5):=hKq2.trans (Kq.of_map hmM hg5)
     clear hFl5 hg5 hg2 hKq2 OF hnx hmM hin
     go_wp2_with fail
     go_round
     case rel=>exact ⟨q + 1,by go_num,by omega,hFl6,hg6,hKq6⟩
     case measure=>simp [intOf]; omega
    ·obtain rfl:q = k:=by omega
     have hf:Hid (UpPost w g b iv (setN N i (offs (fun _=>none) (laL l))) f i (.returned (.int .i64 0)) wr):=by
      have e:(laL l).take q = laL l:=List.take_of_length_le (by rw [List.length_map,hn.out]; omega)
      have hF:=hFl.out
      rw [e] at hF
      exact ⟨rfl,kb,hkb,hF,hg.out⟩
     clear hFl hg hKq
     go_wp2_with fail
     go_ret
     exact hf.out
end Go.Proofs.YtehimhbgakpenaaGreat.Fd
