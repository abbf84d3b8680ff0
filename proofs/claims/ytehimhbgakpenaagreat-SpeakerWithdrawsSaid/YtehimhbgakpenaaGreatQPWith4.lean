/-
  The texts LaD, one after the other.
-/
import Derived.Test.YtehimhbgakpenaaGreatQPWith2
import Derived.Test.YtehimhbgakpenaaGreatQPWith3
namespace Go.Proofs.YtehimhbgakpenaaGreat
set_option linter.unusedVariables false
open Go.RowKit
def laZero:La:=⟨0,0,0,false,[],[]⟩
def LaOk (x:La):Prop:=LaValid x ∧ ∀ p ∈ x.pre,p.1 < 4294967296
def stepP (x:La) (r:Rec):La :=
 if r.1 = 1 then { x with o:=uiN (r.2.take 2),s:=uiN ((r.2.drop 2).take 4),a:=uiN (((r.2.drop 2).drop 4).take 2),ov:=decide (uiN ((((r.2.drop 2).drop 4).drop 2).take 1) = 1) }
 else if r.1 = 2 then { x with adj:=x.adj ++ [((uiN (r.2.take 2):Int),(uiN ((r.2.drop 2).take 2):Int),(uiN (((r.2.drop 2).drop 2).take 2):Int))] }
 else if r.1 = 3 then { x with pre:=x.pre ++ [(uiN (r.2.take 4),(uiN ((r.2.drop 4).take 1):Int))] }
 else x
def foldP (x:La):List Rec → La
 | []=>x
 | r :: l=>foldP (stepP x r) l
theorem foldP_snoc (l:List Rec):∀ (x:La) (r:Rec),foldP x (l ++ [r]) = stepP (foldP x l) r:=by
 induction l with
 | nil=>intro x r; rfl
 | cons a l ih=>intro x r; simp only [List.cons_append,foldP,ih]
theorem foldP_app (l m:List Rec):∀ (x:La),foldP x (l ++ m) = foldP (foldP x l) m:=by
 induction l with
 | nil=>intro x; rfl
 | cons a l ih=>intro x; simp only [List.cons_append,foldP,ih]
theorem uiN_num (n k:Nat) (h1:1 ≤ k) (h8:k ≤ 8) (h:n < 256 ^ k):uiN (numB n k) = n:=by
 unfold uiN; rw [numB_len,if_pos ⟨h1,h8⟩,uint_num n k h]
theorem take_num (n k:Nat) (l:List UInt8):(numB n k ++ l).take k = numB n k:=by
 rw [List.take_append_of_le_length (by rw [numB_len]; exact Nat.le_refl _),List.take_of_length_le (by rw [numB_len]; exact Nat.le_refl _)]
theorem drop_num (n k:Nat) (l:List UInt8):(numB n k ++ l).drop k = l:=by
 rw [List.drop_append_of_le_length (by rw [numB_len]; exact Nat.le_refl _),List.drop_of_length_le (by rw [numB_len]; exact Nat.le_refl _)]; rfl
section
variable {x:La}
theorem head_P (h:LaValid x) (y:La):stepP y (headR x) = { y with o:=x.o,s:=x.s,a:=x.a,ov:=x.ov }:=by
 obtain ⟨⟨h1,h2⟩,⟨h3,h4⟩,⟨h5,h6⟩,_⟩:=h
 unfold stepP
 rw [if_pos (show (headR x).1 = 1 from rfl)]
 simp only [headR,List.append_assoc,take_num,drop_num,uiN_num _ 2 (by omega) (by omega) (show x.o.toNat < 256 ^ 2 by omega),uiN_num _ 4 (by omega) (by omega) (show x.s.toNat < 256 ^ 4 by omega),uiN_num _ 2 (by omega) (by omega) (show x.a.toNat < 256 ^ 2 by omega)]
 have hb:bit x.ov < 256 ^ 1:=by unfold bit; split <;> omega
 rw [List.take_of_length_le (by rw [numB_len]; exact Nat.le_refl _),uiN_num _ 1 (by omega) (by omega) hb,Int.toNat_of_nonneg h1,Int.toNat_of_nonneg (by omega),Int.toNat_of_nonneg h5]
 cases x.ov <;> simp [bit]
theorem ad_P (y:La) (z:Ad) (h0:0 ≤ z.1 ∧ z.1 ≤ 63) (h1:0 ≤ z.2.1 ∧ z.2.1 ≤ 255) (h2:1 ≤ z.2.2 ∧ z.2.2 ≤ 65535):stepP y (adR z) = { y with adj:=y.adj ++ [z] }:=by
 obtain ⟨a,b,c⟩:=z
 simp only at h0 h1 h2
 unfold stepP
 rw [if_neg (by simp [adR]),if_pos (show (adR (a,b,c)).1 = 2 from rfl)]
 simp only [adR,List.append_assoc,take_num,drop_num,uiN_num _ 2 (by omega) (by omega) (show a.toNat < 256 ^ 2 by omega),uiN_num _ 2 (by omega) (by omega) (show b.toNat < 256 ^ 2 by omega)]
 rw [List.take_of_length_le (by rw [numB_len]; exact Nat.le_refl _),uiN_num _ 2 (by omega) (by omega) (show c.toNat < 256 ^ 2 by omega),Int.toNat_of_nonneg h0.1,Int.toNat_of_nonneg h1.1,Int.toNat_of_nonneg (by omega)]
theorem pf_P (y:La) (z:Pf) (h0:z.1 < 4294967296) (h1:0 ≤ z.2 ∧ z.2 ≤ 32):stepP y (pfR z) = { y with pre:=y.pre ++ [z] }:=by
 obtain ⟨a,b⟩:=z
 simp only at h0 h1
 unfold stepP
 rw [if_neg (by simp [pfR]),if_neg (by simp [pfR]),if_pos (show (pfR (a,b)).1 = 3 from rfl)]
 simp only [pfR,take_num,drop_num,uiN_num _ 4 (by omega) (by omega) (show a < 256 ^ 4 by omega)]
 rw [List.take_of_length_le (by rw [numB_len]; exact Nat.le_refl _),uiN_num _ 1 (by omega) (by omega) (show b.toNat < 256 ^ 1 by omega),Int.toNat_of_nonneg h1.1]
theorem last_P (y:La) (v:List UInt8):stepP y (4,v) = y:=by simp [stepP]
theorem good_ad (h:LaValid x):∀ z ∈ x.adj,(0 ≤ z.1 ∧ z.1 ≤ 63) ∧ (0 ≤ z.2.1 ∧ z.2.1 ≤ 255) ∧ (1 ≤ z.2.2 ∧ z.2.2 ≤ 65535):=by
 intro z hz
 obtain ⟨i,hi,he⟩:=List.getElem_of_mem hz
 obtain ⟨_,_,_,_,_,_,h7,_⟩:=h
 obtain ⟨a,_,b,c,_⟩:=h7 i z hi (by rw [List.getElem?_eq_getElem hi,he])
 exact ⟨b,a,c⟩
theorem good_pf (h:LaValid x):∀ z ∈ x.pre,0 ≤ z.2 ∧ z.2 ≤ 32:=by
 intro z hz
 obtain ⟨i,hi,he⟩:=List.getElem_of_mem hz
 obtain ⟨_,_,_,_,_,_,_,h8⟩:=h
 have:=(h8 i z hi (by rw [List.getElem?_eq_getElem hi,he])).1
 unfold pfxB at this
 rw [decide_eq_true_iff] at this
 exact ⟨this.1,this.2.1⟩
theorem adj_P (l:List Ad) (h:∀ z ∈ l,(0 ≤ z.1 ∧ z.1 ≤ 63) ∧ (0 ≤ z.2.1 ∧ z.2.1 ≤ 255) ∧ (1 ≤ z.2.2 ∧ z.2.2 ≤ 65535)):∀ y:La,foldP y (l.map adR) = { y with adj:=y.adj ++ l }:=by
 induction l with
 | nil=>intro y; simp [foldP]
 | cons z l ih =>
   intro y
   obtain ⟨a,b,c⟩:=h z (by simp)
   rw [List.map_cons,foldP,ad_P y z a b c,ih fun q hq=>h q (by simp [hq])]
   simp
theorem pre_P (l:List Pf) (h:∀ z ∈ l,z.1 < 4294967296 ∧ 0 ≤ z.2 ∧ z.2 ≤ 32):∀ y:La,foldP y (l.map pfR) = { y with pre:=y.pre ++ l }:=by
 induction l with
 | nil=>intro y; simp [foldP]
 | cons z l ih =>
   intro y
   obtain ⟨a,b⟩:=h z (by simp)
   rw [List.map_cons,foldP,pf_P y z a b,ih fun q hq=>h q (by simp [hq])]
   simp
def laFront (x:La):List Rec:=headR x :: (x.adj.map adR ++ x.pre.map pfR)
theorem fold_P (h:LaOk x) (v:List UInt8):foldP laZero (laFront x ++ [(4,v)]) = x:=by
 have h1:=good_ad h.1
 have h2:∀ z ∈ x.pre,z.1 < 4294967296 ∧ 0 ≤ z.2 ∧ z.2 ≤ 32:=fun z hz=>⟨h.2 z hz,good_pf h.1 z hz⟩
 rw [foldP_snoc,last_P,laFront,foldP,head_P h.1,foldP_app,adj_P _ h1,pre_P _ h2]
 simp [laZero]
theorem laEnc_form (x:La):∃ b1 b2,laEnc x = encAll (laFront x ++ [(4,[b1,b2])]):=by
 have hp:laPlain x = (encAll (laFront x) ++ [4,0,2]) ++ [0,0]:=by
  unfold laPlain
  rw [show laRecs x = laFront x ++ [(4,[0,0])] from rfl,encAll_append,List.append_assoc]
  rfl
 have hl:(laPlain x).length - 2 = (encAll (laFront x) ++ [4,0,2]).length:=by rw [hp,List.length_append]; simp
 unfold laEnc sealed zeroed
 rw [hl]
 generalize UInt8.ofNat (sealX _ _).toNat = b1
 generalize UInt8.ofNat (sealY _ _).toNat = b2
 refine ⟨b1,b2,?_⟩
 rw [hp,encAll_append]
 generalize encAll (laFront x) = F
 have e1:∀ (P:List UInt8) (u v w:UInt8),(P ++ [u,v]).set P.length w = P ++ [w,v]:=fun P u v w=>by rw [List.set_append_right _ _ (Nat.le_refl _)]; simp
 have e2:∀ (P:List UInt8) (u v w:UInt8),(P ++ [u,v]).set (P.length + 1) w = P ++ [u,w]:=fun P u v w=>by rw [List.set_append_right _ _ (by omega)]; simp
 rw [e1,e2,e1,e2]
 simp [encAll,enc1]
theorem laFront_E (x:La) (b1 b2:UInt8):encE (laFront x ++ [(4,[b1,b2])]) = 0:=by
 refine encE_all _ fun r hr=>?_
 rcases List.mem_append.1 hr with hr | hr
 ·exact laRecs_ok x r (List.mem_append.2 (.inl hr))
 ·obtain rfl:=List.mem_singleton.1 hr
  simp
theorem laEnc_dec (x:La):∃ b1 b2,decO (laEnc x) = some (laFront x ++ [(4,[b1,b2])]):=by
 obtain ⟨b1,b2,h⟩:=laEnc_form x
 exact ⟨b1,b2,by rw [h]; exact decO_full _ (laFront_E x b1 b2)⟩
theorem laEnc_chk (x:La):chk (laEnc x) = true:=sealed_chk _ _ (by rw [laPlain_len]; omega)
theorem laEnc_inj {y:La} (hx:LaOk x) (hy:LaOk y) (h:laEnc x = laEnc y):x = y:=by
 obtain ⟨a1,a2,e1⟩:=laEnc_dec x
 obtain ⟨b1,b2,e2⟩:=laEnc_dec y
 rw [h,e2] at e1
 injection e1 with e1
 rw [← fold_P hx [a1,a2],← fold_P hy [b1,b2],e1]
end
def DecIs (bs:List UInt8) (x:La):Prop:=LaOk x ∧ laEnc x = bs
open Classical in
noncomputable def ldecE (bs:List UInt8):Int:=if chk bs = false then 5 else if ∃ x,DecIs bs x then 0 else 4
open Classical in
noncomputable def ldecV (bs:List UInt8):La:=if h:∃ x,DecIs bs x then Classical.choose h else laZero
theorem ldecE_sum {bs:List UInt8} (h:chk bs = false):ldecE bs = 5:=by unfold ldecE; rw [if_pos h]
theorem ldec_no {bs:List UInt8} (h:chk bs = true) (hn:¬ ∃ x,DecIs bs x):ldecE bs = 4:=by unfold ldecE; rw [if_neg (by rw [h]; simp),if_neg hn]
theorem ldecV_no {bs:List UInt8} (hn:¬ ∃ x,DecIs bs x):ldecV bs = laZero:=by unfold ldecV; rw [dif_neg hn]
theorem ldec_yes {bs:List UInt8} {x:La} (h:DecIs bs x):ldecE bs = 0 ∧ ldecV bs = x:=by
 have hc:chk bs = true:=by rw [← h.2]; exact laEnc_chk x
 have he:∃ x,DecIs bs x:=⟨x,h⟩
 constructor
 ·unfold ldecE; rw [if_neg (by rw [hc]; simp),if_pos he]
 ·unfold ldecV
  rw [dif_pos he]
  have h2:=Classical.choose_spec he
  exact laEnc_inj h2.1 h.1 (h2.2.trans h.2.symm)
theorem ldecV_sum {bs:List UInt8} (h:chk bs = false):ldecV bs = laZero:=ldecV_no fun ⟨x,hx⟩=>by
 have:=laEnc_chk x
 rw [hx.2,h] at this; cases this
theorem ldec_form {bs:List UInt8} (h:decO bs = none):¬ ∃ x,DecIs bs x:=fun ⟨x,hx⟩=>by
 obtain ⟨b1,b2,e⟩:=laEnc_dec x
 rw [hx.2,h] at e; cases e
theorem ldec_P {bs:List UInt8} {l:List Rec} (h:decO bs = some l) (hn:¬ DecIs bs (foldP laZero l)):¬ ∃ x,DecIs bs x:=fun ⟨x,hx⟩=>by
 obtain ⟨b1,b2,e⟩:=laEnc_dec x
 rw [hx.2,h] at e
 injection e with e
 rw [e,fold_P hx.1] at hn
 exact hn hx
end Go.Proofs.YtehimhbgakpenaaGreat
