/- Parts of the iy. No conditions. -/
import Derived.Test.YtanfphjoebobaaaGreatDoorZzfae
namespace Go.Proofs.YtanfphjoebobaaaGreatDoor
open _root_.Array renaming replicate_succ->akY
open _root_.Bool renaming and_eq_true->akD
open _root_.Go.IntWalk renaming i64_in->ajw
open _root_.Go.World renaming block_lt_of_cell?->akl,cell?_of_block->amb
open _root_.List renaming append_toArray->ala,ext_getElem?->alL,getD_eq_getElem?_getD->ajg,getElem?_eq_getElem->ajh,getElem?_eq_none->ajK,getElem?_eq_some_iff->ake,getElem?_map->aks,getElem?_range->amf,getElem_mem->aji,getElem_of_mem->alg,length_append->alm,length_cons->akn,length_nil->ako,length_take->alS,mem_append->aln,nil_append->akr,nodup_append->amd,nodup_nil->akQ,push_toArray->akZ,size_toArray->akX,take_add_one->alU
open _root_.Nat renaming le_of_lt->akb,le_refl->aje,le_trans->ajU,lt_of_lt_of_le->ajf,lt_or_ge->ajz,mul_le_mul_right->ajE,two_pow_pos->amc,zero_le->aki
open _root_.Option renaming getD_some->ame,isSome_iff_exists->ajQ
open _root_.Go.Proofs.Tryz hiding prog
open _root_.Go.Proofs.Tryz renaming prog->aA
set_option maxRecDepth 100000
set_option maxHeartbeats 16000000
section
attribute [local go_sem] Oper.semAt_some
open Go.RowKit
def dL (H:HS):Nat->List Nat
 | 0=>[]
 | b+1=>dL H b++H.bH b
theorem Nu {H:HS}:∀ {n b j:Nat},b<n->j<(H.bH b).length->(dL H n)[(dL H b).length+j]?=some ((H.bH b).getD j 0)
 | 0,_,_,h,_=>absurd h (by omega)
 | n+1,b,j,h,hj=>by
   rcases ajz b n with g|g
   ·have e:=Nu (n:=n) g hj
    have:=(ake.1 e).1
    show (dL H n++H.bH n)[_]?=_
    rw [List.getElem?_append_left this,e]
   ·obtain rfl:b=n:=by omega
    show (dL H b++H.bH b)[_]?=_
    rw [List.getElem?_append_right (by omega),Nat.add_sub_cancel_left,ajg,ajh hj];rfl
theorem zi (H:HS) (b:Nat):(dL H (b+1)).length=(dL H b).length+(H.bH b).length:=by
 show (dL H b++H.bH b).length=_
 rw [alm]
theorem Nv (H:HS) {b n:Nat} (h:b<=n):(dL H b).length<=(dL H n).length:=by
 induction n with
 | zero => obtain rfl:b=0:=by omega
           exact aje _
 | succ n ih =>
   rcases ajz n b with g|g
   ·obtain rfl:b=n+1:=by omega
    exact aje _
   ·rw [zi];have:=ih g;omega
structure Eu (bx:Nat) (V:World) (R X aO:Nat) (c:bK) (K:List Nat):Prop where
 t:nU V R X aO c K
 l:lu V
 s:jk V
 r:R≠bx/\¬ uU bx V R
 x:X≠bx/\¬ uU bx V X
 b:bx<V.heap.size
 n:∀ q,uU bx V q->q<V.heap.size
section
variable {w w' V V':World} {R X aO bx N:Nat} {c:bK} {K:List Nat} {Ts:List TypeId} {D:Nat->Nat} {H:HS}
theorem wS {b:Nat} (h:bx<V.heap.size) (k:aj aB V V') (hb:uU bx V' b):uU bx V b:=by
 obtain ⟨v,h1,h2⟩:=hb
 refine ⟨v,?_,h2⟩
 unfold aF at *
 rw [<- k.block bx h (fun f=>f)];exact h1
theorem nU.still (ht:nU V R X aO c K) (k:aj aB V V'):nU V' R X aO c K:=by
 obtain ⟨g1,⟨cur,g2,g3⟩,g4,g5,g6⟩:=ht
 exact ⟨k.aH g1 (fun f=>f),⟨cur,k.aH g2 (fun f=>f),g3⟩,g4,g5,g6⟩
theorem Eu.still (h:Eu bx V R X aO c K) (k:aj aB V V'):Eu bx V' R X aO c K :=
 ⟨h.t.still k,h.l.aK k,h.s.aK k,⟨h.r.1,fun f=>h.r.2 (wS h.b k f)⟩,⟨h.x.1,fun f=>h.x.2 (wS h.b k f)⟩,ajf h.b k.size,fun q f=>ajf (h.n q (wS h.b k f)) k.size⟩
theorem Eu.hold (h:Eu bx V R X aO c K) (k:lZ Ts bx N V V') (hN:3<N/\4<N/\2<N):Eu bx V' R X aO c K:=by
 obtain ⟨g1,⟨cur,g2,g3⟩,g4,g5,g6⟩:=h.t
 have r1:=k.o R _ _ h.r.1 h.r.2 g1
 have x1:=k.o X _ _ h.x.1 h.x.2 g2
 exact ⟨⟨r1.1,⟨cur,x1.1,g3⟩,g4,g5,g6⟩,⟨fun i r hr=>by rw [amb (w:=V) (k.t.Sl _ hN.1)];exact h.l.xg i r hr,fun i r hr=>by rw [amb (w:=V) (k.t.Sl _ hN.2.1)];exact h.l.kind i r hr⟩,fun i r hr=>by rw [amb (w:=V) (k.t.Sl _ hN.2.2)];exact h.s i r hr,⟨h.r.1,r1.2⟩,⟨h.x.1,x1.2⟩,ajf h.b k.t.size,k.n h.n⟩
theorem abo (h:nU w R X aO c K):Calls aA 53 #[au R] w fun e w'=>e = .returned (.agg c.cells.toArray)/\aj aB w w':=by
 have hb:=h.aH
 obtain ⟨c0,c1,c2,c3,c4,c5,c6⟩:=c
 simp only [bK.cells,List.cons_append,akr] at hb ⊢
 have HA:∀ o,aj aB w (w.alloc o):=fun o=>(aj.refl _ _).alloc o
 have s0:=fun o=>(HA o).still (hb.cell 0 rfl);have s1:=fun o=>(HA o).still (hb.cell 1 rfl);have s2:=fun o=>(HA o).still (hb.cell 2 rfl);have s3:=fun o=>(HA o).still (hb.cell 3 rfl);have s4:=fun o=>(HA o).still (hb.cell 4 rfl);have s5:=fun o=>(HA o).still (hb.cell 5 rfl);have s6:=fun o=>(HA o).still (hb.cell 6 rfl)
 have HB:Hid (∀ o,aj aB w (w.alloc o)):=HA
 clear HA
 clear h hb
 go_enter func53,ntmps53
 go_wp2_with fail
 obtain ⟨W1,hW1⟩:∃ W',W'=w.alloc (.cells #[ah c0,ah c1,ah c2,ah c3,ah c4,ah c5,ah c6] 23):=⟨_,rfl⟩
 rw [<- hW1]
 have hF:aF W1 w.heap.size [ah c0,ah c1,ah c2,ah c3,ah c4,ah c5,ah c6] 23:=by rw [hW1];exact aF.bC w _ _
 have k0:=hF.cell 0 rfl;have k1:=hF.cell 1 rfl;have k2:=hF.cell 2 rfl;have k3:=hF.cell 3 rfl;have k4:=hF.cell 4 rfl;have k5:=hF.cell 5 rfl;have k6:=hF.cell 6 rfl
 refine bodyPost_ret (v := .agg #[ah c0,ah c1,ah c2,ah c3,ah c4,ah c5,ah c6]) (by simp [results,Tryz.f53,go_sem,k0,k1,k2,k3,k4,k5,k6]) rfl ⟨rfl,?_⟩
 rw [hW1];exact HB.out _
theorem UU (h:aI w D H) (ht:nU V R X aO H.c H.K) (hT:lu V) (hS:jk V) (B:Nat):Calls aA 63 #[au R,ah (B:Int)] V fun e w'=>∃ a cp,e = .returned (.slice a (H.bH B).length cp)/\w'.ownsRow V.heap.size 3 1 (.slice a (H.bH B).length cp) (H.bH B).length (aS (H.bH B))/\aj aB V w':=by
 by_cases hk:H.K.getD B 0=0
 ·rw [Hf hk]
  refine (O6 ht B hk).mono ?_
  rintro e w' ⟨rfl,rfl⟩
  exact ⟨none,0,rfl,⟨rfl,.inl ⟨rfl,rfl⟩⟩,aj.refl _ _⟩
 ·obtain ⟨hBl,hk4⟩:=h.k4 hk
  have h1:=JV ht H.ww B (H.K.getD B 0 - 1) h.cw hBl (by omega) (by omega) hT hS
  rw [show H.K.getD B 0 - 1+1=H.K.getD B 0 by omega] at h1
  have e1:H.bH B=mP (H.ww/2^(H.K.getD B 0)) (2^(H.K.getD B 0)) (B*H.ww):=by unfold HS.bH;rw [aT hk]
  have el:(H.bH B).length=H.ww/2^(H.K.getD B 0):=by rw [e1,wL]
  refine h1.mono ?_
  rintro e w2 ⟨v,rfl,ho,k2⟩
  rw [<- e1,<- el] at ho
  obtain ⟨a,cp,rfl,_⟩:=gy (bQ ho (aki _))
  exact ⟨a,cp,rfl,ho,k2⟩
theorem Qp (h:aI w D H) (B:Nat):(H.bH B).length<=256:=by
 by_cases hk:H.K.getD B 0=0
 ·rw [Hf hk];simp
 ·have e1:H.bH B=mP (H.ww/2^(H.K.getD B 0)) (2^(H.K.getD B 0)) (B*H.ww):=by unfold HS.bH;rw [aT hk]
  rw [e1,wL]
  exact ajU (Nat.div_le_self _ _) h.ZK.2.2.2.1
theorem adz {b1:Nat} (h:aI w D H) (hp1:aF w b1 [au (D 3)] 97) (hbx:aF w bx [.slice none 0 0] 32) (hN:3<N/\4<N/\2<N) (Ts:List TypeId) (m:Nat) :
 Eb aB (fun _=>True) Fence.wide m aA 148 #[au b1] (dL H H.b) FW (lZ Ts bx N) w:=by
 intro l J Jx W1 hW hJ hJx hY h0
 have hh:=h.still hW
 have Hr:=ay (OY hh.ji)
 have hb1:=hW.aH hbx (fun f=>f)
 have HTH:Hid (∀ V R X aO,aj aB W1 V->nU V R X aO H.c H.K->Eu bx V R X aO H.c H.K):=fun V R X aO k ht=>by
  have hb2:=k.aH hb1 (fun f=>f)
  obtain ⟨cur,OX,_⟩:=ht.jh
  refine ⟨ht,(hh.still k).qQ,(hh.still k).sizes,⟨fun e=>?_,FX hb2⟩,⟨fun e=>?_,FX hb2⟩,hb2.lt,fun q f=>absurd f (FX hb2)⟩
  ·have h9:=ht.aH
   rw [e] at h9
   exact absurd (h9.jL hb2).2 (by decide)
  ·rw [e] at OX
   exact absurd (OX.jL hb2).2 (by decide)
 have HSL:Hid (∀ V R X aO B,Eu bx V R X aO H.c H.K->Calls aA 63 #[au R,ah ((B:Nat):Int)] V fun e w'=>∃ a cp,e = .returned (.slice a (H.bH B).length cp)/\w'.ownsRow V.heap.size 3 1 (.slice a (H.bH B).length cp) (H.bH B).length (aS (H.bH B))/\aj aB V w'):=fun V R X aO B ht=>UU h ht.t ht.l ht.s B
 have HLEN:Hid (∀ B,(H.bH B).length<=256):=fun B=>Qp h B
 have HAT:Hid (∀ b j,b<H.b->j<(H.bH b).length->(dL H H.b)[(dL H b).length+j]?=some ((H.bH b).getD j 0)/\(dL H b).length+j+1<=(dL H H.b).length):=fun b j hb hj=>⟨Nu hb hj,by have:=zi H b;have:=Nv H (show b+1<=H.b from hb);omega⟩
 have qK:Hid ((dL H 0).length=0):=rfl
 have WA:Hid (∀ b,(dL H (b+1)).length=(dL H b).length+(H.bH b).length):=zi H
 have sN:Hid (∀ V R X aO,nU V R X aO H.c H.K->Calls aA 53 #[au R] V fun e w'=>e = .returned (.agg H.c.cells.toArray)/\aj aB V w'):=fun V R X aO ht=>abo ht
 have hcb:=h.cb
 have hnb:=h.ZK.2.1
 have c0:=(hW.aH hp1 (fun f=>f)).cell 0 (v := au (D 3)) rfl
 have TK:=ay hJ
 have H0:=ay h0
 have HY:=ay hY
 have HN:=ay hN
 obtain ⟨all,hall⟩:∃ all,all=dL H H.b:=⟨_,rfl⟩
 rw [<- hall] at HAT HY ⊢
 have Dh:Hid (all.length=(dL H H.b).length):=by unfold Hid;rw [hall]
 clear hall
 generalize dL H=sT at *
 generalize H.bH=sL at *
 obtain ⟨⟨x0,x1,x2,x3,x4,x5,x6⟩,hcE⟩:∃ c,c=H.c:=⟨_,rfl⟩
 rw [<- hcE] at Hr HTH HSL sN hcb
 simp only [bK.cells] at sN
 have hcb':x0=(H.b:Int):=hcb
 subst hcb'
 generalize H.b=nb at *
 generalize H.K=K at *
 have hfld:=UE (nb:Int) x1 x2 x3 x4 x5 x6
 clear h hp1 hbx hh hb1 hW hJ hJx hY h0 hN hcb hcE
 refine callsIn_of_wp func148 rfl trivial ?_ rfl
 simp only [ntmps148,akX,akn,ako,Nat.reduceAdd,Nat.reduceSub,akY,Array.replicate_zero,akZ,ala,akr,List.cons_append]
 refine KH ?_
 gi_wp2_with fail
 refine ⟨trivial,fun h=>(by cases h),CallsIn.mono (callsIn_wide.2 Hr.out) ?_⟩
 rintro e w1 ⟨R,X,aO,rfl,ht,k1⟩
 have HT1:=ay (HTH.out w1 R X aO k1 ht)
 have HJ1:=ay (TK.out 0 _ _ H0.out k1 (fun _=>trivial))
 have tV:=ay (sN.out w1 R X aO ht)
 clear Hr HTH sN H0 c0 ht k1
 gi_wp2_with fail
 refine wpIn_label ?_
 gi_wp2_with fail
 refine ⟨trivial,fun h=>(by cases h),CallsIn.mono (callsIn_wide.2 tV.out) ?_⟩
 rintro e w2 ⟨rfl,k2⟩
 have HT2:=ay (HT1.out.still k2)
 have HJ2:=ay (TK.out 0 _ _ HJ1.out k2 (fun _=>trivial))
 clear tV HT1 HJ1 k2
 gi_wp2_with fail
 gi_loopw [4,6,12,17,18,19] (fun _ _ bv _ _ _ wr=>∃ b:Nat,b<=nb/\bv = ah b/\J (sT b).length wr/\Eu bx wr R X aO ⟨nb,x1,x2,x3,x4,x5,x6⟩ K) (fun _ _ bv _ _ _ _=>nb - (intOf bv).toNat)
 case atStart=>exact ⟨0,aki _,rfl,by rw [qK.out];exact HJ2.out,HT2.out⟩
 case round =>
  obtain ⟨b,hb,rfl,hJb,hT⟩:=hrel
  by_cases hlt:b<nb
  ·have lJ:(b:Int)<(nb:Int):=by omega
   have mJ:=ay (HSL.out wr R X aO b hT)
   have HT3:=ay hT
   have HJ3:=ay hJb
   have LY:=ay hlt
   have HLB:=ay (HLEN.out b)
   have HAB:=ay (fun j=>HAT.out b j hlt)
   have HSB:=ay (WA.out b)
   have hwb:IntKind.i64.wrap ((b:Int)+1)=(b:Int)+1:=ajw _ (by omega)
   generalize sL b=row at *
   clear hb hJb hT hlt
   gi_wp2_with fail
   refine ⟨trivial,fun h=>(by cases h),CallsIn.mono (callsIn_wide.2 mJ.out) ?_⟩
   rintro e w3 ⟨a0,c0,rfl,ho,k3⟩
   have HT4:=ay (HT3.out.still k3)
   have HJ4:=ay (TK.out _ _ _ HJ3.out k3 (fun _=>trivial))
   have qO:Hid (w3.ownsRow 0 3 1 (.slice a0 row.length c0) row.length (aS row)/\∀ q,(Value.slice a0 row.length c0).ownBlock=some q->q≠bx/\¬ uU bx w3 q):=by
    refine ⟨bQ ho (aki _),fun q hq=>?_⟩
    have g1:=(World.ownsRow.lt ho q hq).1
    exact ⟨fun e=>by have:=HT3.out.b;omega,fun f=>by have:=HT3.out.n q (wS HT3.out.b k3 f);omega⟩
   clear mJ HT3 HJ3 ho k3
   generalize wr=Wo at *
   gi_wp2_with fail
   gi_loopw [6,19] (fun _ jv ws=>∃ j:Nat,j<=row.length/\jv = ah j/\J ((sT b).length+j) ws/\Eu bx ws R X aO ⟨nb,x1,x2,x3,x4,x5,x6⟩ K/\ws.ownsRow 0 3 1 (.slice a0 row.length c0) row.length (aS row)/\∀ q,(Value.slice a0 row.length c0).ownBlock=some q->q≠bx/\¬ uU bx ws q) (fun _ jv _=>row.length - (intOf jv).toNat)
   case atStart=>exact ⟨0,aki _,rfl,HJ4.out,HT4.out,qO.out.1,qO.out.2⟩
   case round =>
    obtain ⟨j,hj,rfl,uK,hT,hown,hno⟩:=hrel
    by_cases hlt:j<row.length
    ·obtain ⟨q,rfl,_,_,hcb⟩:=wH hown (qG hlt)
     have lJ:(j:Int)<(row.length:Int):=by omega
     have Jh:(0:Int)<=(j:Int):=by omega
     obtain ⟨hx,hle⟩:=HAB.out j hlt
     obtain ⟨fn,tmps,assign,body,hy,hR⟩:=HY.out _ (row.getD j 0) #[ah ((row.getD j 0:Nat):Int)] wr hx uK rfl
     have HO:=ay (And.intro hown (And.intro hno hT))
     have Jv:=ay (And.intro hlt hle)
     have hwr:IntKind.i64.wrap ((j:Int)+1)=(j:Int)+1:=ajw _ (by have:=HLB.out;omega)
     generalize row.getD j 0=x at *
     clear hown hno hx uK hlt hT hle
     gi_wp2_with fail
     refine ⟨fun h=>(by cases h),hR.mono ?_⟩
     rintro e W' (⟨rfl,hJ',hk⟩|⟨rfl,BX⟩)
     ·have uV:=ay (And.intro (Qo HO.out.1 hk HO.out.2.1) (HO.out.2.2.hold hk HN.out))
      clear hk
      gi_wp2_with fail
      go_roundw
      case rel=>exact ⟨j+1,Jv.out.1,rfl,hJ',uV.out.2,uV.out.1.1,uV.out.1.2⟩
      case measure=>have:=Jv.out;simp [intOf];omega
     ·gi_wp2_with fail
      simp only [Exit.noGoto]
      go_end0
      exact ⟨⟨_,rfl⟩,.inr ⟨_,Jv.out.2,BX⟩⟩
    ·obtain rfl:j=row.length:=by omega
     have lJ:¬ (row.length:Int)<(row.length:Int):=by omega
     have HE:=ay (And.intro uK hT)
     clear hown hno uK hlt hT
     gi_wp2_with fail
     go_roundw
     case rel=>exact ⟨b+1,LY.out,rfl,by rw [HSB.out];exact HE.out.1,HE.out.2⟩
     case measure=>have:=LY.out;simp [intOf];omega
  ·obtain rfl:b=nb:=by omega
   have lJ:¬ (b:Int)<(b:Int):=by omega
   have GR:=ay hJb
   clear hb hJb hT hlt
   gi_wp2_with fail
   go_end0
   exact ⟨⟨_,rfl⟩,.inl (by rw [Dh.out];exact GR.out)⟩
end
end
section
attribute [local go_sem ↓] nD
attribute [local go_sem] Oper.semAt_some
open Go.RowKit
def HS.xU (H:HS):List Nat:=(dL H H.b).filter H.qU
section
variable {w w':World} {D:Nat->Nat} {H:HS}
theorem agO (B:Nat) (w:World):Calls aA 104 #[au B] w fun e w'=>e = .returned (.func (.func 148) #[] #[au w.heap.size])/\w'=w.alloc (.cells #[au B] 97):=by
 have hmf:∀ (fn:Fn) (first aO:Array Value) (w:World),(Instr.makeFunc fn first aO).run aA w = .ok (.func fn first aO) w:=fun _ _ _ _=>rfl
 go_enter func104,ntmps104
 go_wp2_with fail
 go_ret
 exact ⟨rfl,rfl⟩
theorem lZ.sG {Ts:List TypeId} {bx N:Nat} {A B:World} (k:aj aB A B) (hN:N<=A.heap.size) (hb:bx<A.heap.size):lZ Ts bx N A B :=
 ⟨oH.sG k hN,fun b cs T _ h2 h3=>⟨k.aH h3 (fun f=>f),fun f=>h2 (wS hb k f)⟩,fun h q f=>ajf (h q (wS hb k f)) k.size⟩
theorem JC (h:aI w D H) (n:Nat):(dL H n).length<=256*n:=by
 induction n with
 | zero=>exact aje _
 | succ n ih=>rw [zi];have:=Qp h n;omega
theorem Y6 (h:aI w D H):Calls aA 64 #[au (D 0)] w fun e w'=>∃ v,e = .returned v/\w'.ownsRow w.heap.size 3 1 v H.xU.length (aS H.xU)/\aj aB w w':=by
 obtain ⟨W0,hW0⟩:∃ W0,W0=w.alloc (.cells #[au (D 0)] 47):=⟨_,rfl⟩
 have k0:aj aB w W0:=by rw [hW0];exact (aj.refl _ _).alloc _
 have hb0:aF W0 w.heap.size [au (D 0)] 47:=by rw [hW0];exact aF.bC w _ _
 have hs0:W0.heap.size=w.heap.size+1:=by rw [hW0];simp
 obtain ⟨W1,hW1⟩:∃ W1,W1=W0.alloc (.cells #[.slice none 0 0] 32):=⟨_,rfl⟩
 have k1:aj aB W0 W1:=by rw [hW1];exact (aj.refl _ _).alloc _
 have hb1:aF W1 W0.heap.size [.slice none 0 0] 32:=by rw [hW1];exact aF.bC W0 _ _
 have hs1:W1.heap.size=W0.heap.size+1:=by rw [hW1];simp
 obtain ⟨W2,hW2⟩:∃ W2,W2=W1.alloc (.cells #[au (D 3)] 97):=⟨_,rfl⟩
 have k2:aj aB W1 W2:=by rw [hW2];exact (aj.refl _ _).alloc _
 have hb2:aF W2 W1.heap.size [au (D 3)] 97:=by rw [hW2];exact aF.bC W1 _ _
 have hs2:W2.heap.size=W1.heap.size+1:=by rw [hW2];simp
 have hh:=h.still k0
 have hG:3<W0.heap.size/\4<W0.heap.size/\2<W0.heap.size:=⟨akl _ _ (hh.qQ.xg 0 _ rfl),akl _ _ (hh.qQ.kind 0 _ rfl),akl _ _ (hh.sizes 0 _ rfl)⟩
 have Zx:Hid (Eb aB (fun _=>True) Fence.wide 8 aA 148 #[au W1.heap.size] (dL H H.b) FW (lZ [] W0.heap.size W0.heap.size) W2):=adz ((hh.still k1).still k2) hb2 (k2.aH hb1 (fun f=>f)) hG [] 8
 have hU:ML W0.heap.size (fun _=>True):=fun _ _ _ _ _ _=>trivial
 have HU:=ay hU
 have HI0:Hid (xB aB (fun _=>True) W0 W2.heap.size W0.heap.size (((dL H H.b).take 0).filter H.qU) W2):=⟨k1.trans k2,aje _,⟨_,k2.aH hb1 (fun f=>f),⟨rfl,.inl ⟨rfl,rfl⟩⟩⟩,trivial⟩
 have qK:Hid (W0.heap.size<W2.heap.size/\w.heap.size<W0.heap.size):=by unfold Hid;omega
 have HL:Hid ((dL H H.b).length<=4000000):=by
  have:=JC h H.b
  have:=h.ZK.2.1
  unfold Hid;omega
 have HHA:Hid (∀ V (a:Nat),aj aB W0 V->Calls aA 105 #[au (D 0),ah (a:Int)] V fun e w'=>e = .returned (.tuple #[ah (H.jh a:Int),.bool (H.qU a)])/\aj aB V w'):=fun V a k=>Ad (hh.still k) a
 have Aa:Hid (∀ V,aj aB W0 V->V.cell? ⟨w.heap.size,0,none⟩=some (au (D 0))):=fun V k=>(k.aH hb0 (fun f=>f)).cell 0 rfl
 have yK:Hid (∀ V,aj aB w V->V.cell? ⟨D 0,1,none⟩=some (au (D 3))):=fun V k=>(k.aH h.aH (fun f=>f)).cell 1 rfl
 have gQ:=ay k0
 have bI:=ay k1
 have AQ:Hid (W1=(w.alloc (.cells #[au (D 0)] 47)).alloc (.cells #[.slice none 0 0] 32)/\W2=W1.alloc (.cells #[au (D 3)] 97)/\W0.heap.size=w.heap.size+1):=⟨by rw [hW1,hW0],hW2,hs0⟩
 have q2:=yK.out W1 (k0.trans k1)
 rw [AQ.out.1] at q2
 unfold HS.xU
 generalize dL H H.b=l at *
 generalize H.qU=hd at *
 generalize H.jh=cl at *
 clear h k0 hb0 hs0 hW0 k1 hb1 hs1 hW1 k2 hb2 hs2 hW2 hh hG hU
 refine (callsIn_wide (n:=9)).1 ?_
 refine callsIn_of_wp_marks func64 rfl trivial ?_ rfl
 refine wpIn_wide.2 ?_
 simp only [ntmps64,akX,akn,ako,Nat.reduceAdd,Nat.reduceSub,akY,Array.replicate_zero,akZ,ala,akr,List.cons_append]
 go_wp2_with fail
 rw [<- AQ.out.1]
 refine (agO _ _).mono ?_
 rintro e w2 ⟨rfl,hw2⟩
 rw [<- AQ.out.2.1] at hw2
 subst hw2
 clear q2
 go_wp2_with fail
 rw [<- AQ.out.2.2]
 refine wpIn_wide (n:=9) |>.1 ?_
 refine JF rfl (by decide) (gf:=148) (lb:=#[au W1.heap.size]) rfl trivial (fun args w=>by simp [callFunc,func148,go_sem];rfl) (all:=l) (Enc:=FW) (R:=lZ [] W0.heap.size W0.heap.size) (N:=W0.heap.size) (akb qK.out.1) (lZ.rel _ _ _)
  Zx.out ?hps (fun j W=>xB aB (fun _=>True) W0 w2.heap.size W0.heap.size ((l.take j).filter hd) W) (fun _ _ _=>False) ?hI ?hIx ?h0 (fun b f=>f.elim) (fun k A C h kk ke=>xB.later h (fun b f=>f.elim) qK.out.1 kk ke) (fun _ _ _ _ h _ _=>h) ?round ?done ?stop
 case hI=>exact fun k=>xB.own (akb qK.out.1) HU.out ((l.take k).filter hd)
 case hIx=>exact fun c s W W' row h hg hr=>h
 case h0=>exact HI0.out
 case hps =>
  rintro W x args h
  rw [h];rfl
 case stop=>exact fun D c k W hD hk h=>h.elim
 case round =>
  rintro q j x args W hx henc hI
  have hj:j<l.length:=(ake.1 hx).1
  obtain rfl:args=#[ah (x:Int)]:=henc
  have H8:Hid ((l.take (j+1)).filter hd=if hd x=true then (l.take j).filter hd++[x] else (l.take j).filter hd):=by
   unfold Hid
   rw [alU,hx,List.filter_append]
   by_cases e:hd x=true<;>simp [e]
  have HJ:Hid (((l.take j).filter hd).length<=4000000):=by
   have h1:=List.length_filter_le hd (l.take j)
   rw [alS] at h1
   have:=HL.out
   unfold Hid;omega
  have HI:=ay hI
  clear hI hx hj
  generalize (l.take j).filter hd=r at *
  gi_wp2_with fail
  refine ⟨fun W=>xB aB (fun _=>True) W0 w2.heap.size W0.heap.size r W,KeepsFrom.refl _ _,lZ.refl _ _ _ _,HI.out,(fun _ W' W'' row h hg hr=>xB.own (akb qK.out.1) HU.out r W' W'' row h hg hr),?_⟩
  clear HI
  rintro w3 hI
  have c0:=Aa.out w3 hI.aK
  have HP:=ay (HHA.out w3 x hI.aK)
  have HI:=ay hI
  clear hI
  gi_wp2_with fail
  refine ⟨trivial,CallsIn.mono (CallsIn.inRound q (callsIn_wide.2 HP.out)) ?_⟩
  rintro e w4 ⟨rfl,k4⟩
  have HI4:=ay (xB.later HI.out (fun b f=>f.elim) qK.out.1 k4 (fun _=>trivial))
  have nV:Hid (KeepsFrom w2.heap.size w3 w4/\lZ [] W0.heap.size W0.heap.size w3 w4):=⟨KeepsFrom.sG k4,lZ.sG k4 (by have:=HI.out.kD;have:=qK.out.1;omega) (by have:=HI.out.kD;have:=qK.out.1;omega)⟩
  clear HP k4 HI c0
  by_cases WZ:hd x=true
  ·rw [aZ WZ] at H8
   have aiy:hd x=true:=WZ
   obtain ⟨v,g,aO,w5,c4,cO4,hrun9,cO5,fO5,p1,p2,p3⟩:=HI4.out.push (N:=W0.heap.size) (x:=x) (aje _) qK.out.1 (aje _) (fun b f=>f.elim) HU.out HJ.out [] (by decide) (by decide)
   rw [<- H8.out] at p1
   have iH:=ay (And.intro (nV.out.1.trans p2) (And.intro (nV.out.2.trans p3) p1))
   generalize r.length+1=jl at *
   clear p1 p2 p3 HI4 nV WZ
   gi_wp2_with fail
   exact iH.out
  ·have aiy:hd x=false:=by simpa using WZ
   rw [aT WZ] at H8
   have iH:=ay (And.intro nV.out.1 (And.intro nV.out.2 HI4.out))
   rw [<- H8.out] at iH
   clear HI4 nV WZ
   gi_wp2_with fail
   exact iH.out
 case done =>
  rintro D W hD hI EG
  obtain ⟨v,xq,hrow⟩:=hI.o
  rw [List.take_length] at hrow
  have cO:=xq.cell 0 (v:=v) rfl
  have Rw:=(gQ.out.trans hI.aK).takeDeferred (D:=D) (by have:=qK.out;omega) (.deferred none)
  have qO:=ay hrow
  clear hrow
  go_wp2_with fail
  refine ⟨by simp,.inl ⟨_,_,rfl,run_takeDeferred EG,?_⟩⟩
  refine ⟨v,by simp [results,Tryz.f64,go_sem],v,rfl,bQ (gK (S:=fun i=>i=D) qO.out ⟨rfl,rfl,rfl,by simp,fun q _ n=>World.putObj_heap_other n⟩ (fun q hq e=>?_)) (by have:=qK.out;omega),Rw⟩
  obtain ⟨cur,hcur⟩:=nG (bQ qO.out (aki _)) hq
  rw [e,EG] at hcur
  cases hcur
end
end
section
section
variable {H:HS}
theorem IJ {B a:Nat} (hB:B<H.b) (h:a∈H.bH B):∃ k,H.iC a=some (B,k):=by
 unfold HS.bH at h
 split at h
 ·cases h
 ·rename_i hK
  unfold mP at h
  obtain ⟨i,hi,rfl⟩:=List.mem_map.1 h
  have hi:=List.mem_range.1 hi
  have hz:0<2^H.K.getD B 0:=amc _
  have hw:0<H.ww:=by
   rcases Nat.eq_zero_or_pos H.ww with e|e
   ·rw [e] at hi;simp at hi
   ·exact e
  have h1:(i+1)*2^H.K.getD B 0<=H.ww:=ajU (ajE _ hi) (Nat.div_mul_le_self _ _)
  rw [Nat.add_mul,Nat.one_mul] at h1
  have h2:B*H.ww+H.ww<=H.b*H.ww:=by
   have:=ajE H.ww (show B+1<=H.b from hB)
   rwa [Nat.add_mul,Nat.one_mul] at this
  have e1:B*H.ww+i*2^H.K.getD B 0+1 - 1=B*H.ww+i*2^H.K.getD B 0:=Nat.add_sub_cancel _ _
  have e2:(B*H.ww+i*2^H.K.getD B 0)/H.ww=B:=by
   rw [Nat.mul_comm B,Nat.mul_add_div hw,Nat.div_eq_of_lt (by omega),Nat.add_zero]
  have e3:(B*H.ww+i*2^H.K.getD B 0)%H.ww=i*2^H.K.getD B 0:=by
   rw [Nat.mul_comm B,Nat.mul_add_mod,Nat.mod_eq_of_lt (by omega)]
  refine ⟨H.K.getD B 0 - 1,?_⟩
  unfold HS.iC qI
  rw [e1,e2,e3,aZ]
  refine ⟨by omega,by omega,hK,Nat.mul_mod_left _ _,?_⟩
  rw [Nat.mul_div_cancel _ hz]
  exact hi
theorem Ew {a:Nat}:∀ {n:Nat},a∈dL H n↔∃ B,B<n/\a∈H.bH B
 | 0=>⟨fun h=>(by cases h),fun ⟨_,h,_⟩=>absurd h (by omega)⟩
 | n+1=>by
   show a∈dL H n++H.bH n↔_
   rw [aln,Ew (n:=n)]
   constructor
   ·rintro (⟨B,h1,h2⟩|h)
    ·exact ⟨B,by omega,h2⟩
    ·exact ⟨n,by omega,h⟩
   ·rintro ⟨B,h1,h2⟩
    rcases ajz B n with g|g
    ·exact .inl ⟨B,g,h2⟩
    ·obtain rfl:B=n:=by omega
     exact .inr h2
theorem Oq {a:Nat}:a∈dL H H.b↔(H.iC a).isSome=true:=by
 rw [Ew]
 constructor
 ·rintro ⟨B,h1,h2⟩
  obtain ⟨k,h3⟩:=IJ h1 h2
  rw [h3];rfl
 ·intro h
  obtain ⟨⟨B,k⟩,e⟩:=ajQ.1 h
  obtain ⟨g1,g2⟩:=DW e
  exact ⟨B,g1,g2⟩
theorem VO (B:Nat):(H.bH B).Nodup:=by
 unfold HS.bH
 split
 ·exact akQ
 ·unfold mP
  have hz:0<2^H.K.getD B 0:=amc _
  refine (List.pairwise_lt_range.map _ (S:=(· < ·)) (fun i j hij=>?_)).imp (fun h=>Nat.ne_of_lt h)
  have:=Nat.mul_lt_mul_of_pos_right hij hz
  omega
theorem AA:∀ {n:Nat},n<=H.b->(dL H n).Nodup
 | 0,_=>akQ
 | n+1,h=>by
   show (dL H n++H.bH n).Nodup
   refine amd.2 ⟨AA (by omega),VO n,fun a ha b hb e=>?_⟩
   subst e
   obtain ⟨B,h1,h2⟩:=Ew.1 ha
   obtain ⟨k1,e1⟩:=IJ (by omega) h2
   obtain ⟨k2,e2⟩:=IJ (by omega) hb
   rw [e1] at e2
   cases e2
   omega
def HS.fZ (H:HS):Nat->List Nat
 | 0=>H.aQ++H.xU
 | k+1=>H.fZ k++H.row k
structure Y7 (H:HS):Prop where
 len:(H.fZ 4).length=(dL H H.b).length
 nd:(H.fZ 4).Nodup
 rng:∀ a∈H.fZ 4,1<=a/\a<=H.b*H.ww
 cov:∀ a∈dL H H.b,a∈H.fZ 4
theorem Xa (h:eu H) {a:Nat}:H.jg a=true↔∃ k,k<4/\a∈H.row k:=by
 unfold HS.jg HS.row
 rw [List.any_eq_true]
 constructor
 ·rintro ⟨l,h1,h2⟩
  obtain ⟨k,hk,e⟩:=alg h1
  refine ⟨k,by rw [<- h.oP];exact hk,?_⟩
  rw [ajg,ajh hk,ame,e]
  simpa using h2
 ·rintro ⟨k,hk,h1⟩
  have hk':k<H.fr.length:=by rw [h.oP];exact hk
  rw [ajg,ajh hk',ame] at h1
  exact ⟨_,aji hk',by simpa using h1⟩
theorem BJ {a:Nat}:∀ {n:Nat},a∈H.fZ n↔a∈H.aQ\/a∈H.xU\/∃ k,k<n/\a∈H.row k
 | 0=>by
   show a∈H.aQ++H.xU↔_
   rw [aln]
   constructor
   ·rintro (h|h)
    ·exact .inl h
    ·exact .inr (.inl h)
   ·rintro (h|h|⟨k,h,_⟩)
    ·exact .inl h
    ·exact .inr h
    ·omega
 | n+1=>by
   show a∈H.fZ n++H.row n↔_
   rw [aln,BJ (n:=n)]
   constructor
   ·rintro ((h|h|⟨k,h1,h2⟩)|h)
    ·exact .inl h
    ·exact .inr (.inl h)
    ·exact .inr (.inr ⟨k,by omega,h2⟩)
    ·exact .inr (.inr ⟨n,by omega,h⟩)
   ·rintro (h|h|⟨k,h1,h2⟩)
    ·exact .inl (.inl h)
    ·exact .inl (.inr (.inl h))
    ·rcases ajz k n with g|g
     ·exact .inl (.inr (.inr ⟨k,g,h2⟩))
     ·obtain rfl:k=n:=by omega
      exact .inr h2
theorem D8 {a:Nat}:a∈H.xU↔H.qU a=true:=by
 unfold HS.xU
 rw [List.mem_filter,Oq]
 unfold HS.qU
 constructor
 ·exact fun h=>h.2
 ·intro h
  have h':=h
  simp only [akD] at h'
  exact ⟨h'.1.1,h⟩
theorem IK (h:eu H):∀ {n:Nat},n<=4->(H.fZ n).Nodup
 | 0,_=>by
   show (H.aQ++H.xU).Nodup
   refine amd.2 ⟨(En _ _).imp (fun h=>Nat.ne_of_lt h),(AA (aje _)).filter _,fun a ha b hb e=>?_⟩
   subst e
   have h1:=(lK.1 ha).2
   have h2:=D8.1 hb
   unfold HS.qU at h2
   rw [h1] at h2
   simp at h2
 | n+1,hn=>by
   show (H.fZ n++H.row n).Nodup
   refine amd.2 ⟨IK h (by omega),h.nodup n (by omega),fun a ha b hb e=>?_⟩
   subst e
   obtain ⟨f1,B,f2⟩:=h.og n (by omega) a hb
   rcases BJ.1 ha with g|g|⟨k,g1,g2⟩
   ·rw [(lK.1 g).2] at f1;cases f1
   ·have h2:=D8.1 g
    unfold HS.qU at h2
    rw [(Xa h).2 ⟨n,by omega,hb⟩] at h2
    simp at h2
   ·obtain ⟨_,B',e2⟩:=h.og k (by omega) a g2
    rw [f2] at e2
    cases e2
    omega
theorem eu.agP (h:eu H):Y7 H:=by
 have hown:∀ a∈H.fZ 4,(H.iC a).isSome=true:=fun a ha=>by
  rcases BJ.1 ha with g|g|⟨k,g1,g2⟩
  ·obtain ⟨B,k,f,e,_⟩:=h.kG a (lK.1 g).2
   rw [e];rfl
  ·have h2:=D8.1 g
   unfold HS.qU at h2
   simp only [akD] at h2
   exact h2.1.1
  ·obtain ⟨_,B,e⟩:=h.og k g1 a g2
   rw [e];rfl
 have hcov:∀ a∈dL H H.b,a∈H.fZ 4:=fun a ha=>by
  have ho:=Oq.1 ha
  obtain ⟨⟨B,k⟩,e⟩:=ajQ.1 ho
  obtain ⟨o1,o2,_⟩:=gB e
  rw [BJ]
  by_cases hb:H.bn a=true
  ·exact .inl (lK.2 ⟨by unfold HS.sz;omega,hb⟩)
  ·by_cases hi:H.jg a=true
   ·exact .inr (.inr ((Xa h).1 hi))
   ·refine .inr (.inl (D8.2 ?_))
    unfold HS.qU
    rw [ho]
    simp [hb,hi]
 have hnd:=IK h (aje 4)
 refine ⟨Nat.le_antisymm (wB hnd (fun a ha=>Oq.2 (hown a ha))) (wB (AA (aje _)) hcov),hnd,fun a ha=>?_,hcov⟩
 obtain ⟨⟨B,k⟩,e⟩:=ajQ.1 (hown a ha)
 obtain ⟨o1,o2,_⟩:=gB e
 exact ⟨o1,o2⟩
end
end
section
attribute [local go_sem ↓] nD
attribute [local go_sem] Oper.semAt_some
open Go.RowKit
def IL (n:Nat) (l:List Nat):List Value:=(List.range n).map fun a => .bool (l.contains a)
theorem abp {n a:Nat} {l:List Nat} (h:a<n):(IL n l)[a]?=some (.bool (l.contains a)):=by
 unfold IL
 rw [aks,amf h];rfl
theorem afb (n:Nat):IL n []=fV (.bool false) n:=by
 refine alL (fun i=>?_)
 unfold IL fV
 rw [aks,List.getElem?_replicate]
 by_cases h:i<n
 ·rw [amf h,aZ h];rfl
 ·rw [aT h,ajK (by simpa using h)];rfl
theorem afc {n a:Nat} {l:List Nat}:(IL n l).set a (.bool true)=IL n (l++[a]):=by
 refine alL (fun i=>?_)
 unfold IL
 rw [List.getElem?_set,aks,aks]
 simp only [List.length_map,List.length_range]
 by_cases h:i<n
 ·rw [amf h]
  by_cases e:a=i
  ·subst e
   simp [h]
  ·rw [aT e]
   have:(l++[a]).contains i=l.contains i:=by
    rw [Bool.eq_iff_iff]
    simp
    omega
   simp only [Option.map_some,this]
 ·rw [ajK (by simpa using h)]
  by_cases e:a=i
  ·subst e
   simp [h]
  ·rw [aT e];rfl
section
variable {w w':World} {D:Nat->Nat} {H:HS}
theorem VP (H:HS) (b:Nat):dL H (b+1)=dL H b++H.bH b:=rfl
theorem Y8 (H:HS) (k:Nat):H.fZ (k+1)=H.fZ k++H.row k:=rfl
theorem Y7.at (h:Y7 H) {i:Nat} (hi:i<(H.fZ 4).length):1<=(H.fZ 4).getD i 0/\(H.fZ 4).getD i 0<=H.b*H.ww/\((H.fZ 4).take i).contains ((H.fZ 4).getD i 0)=false/\(H.fZ 4).take (i+1)=(H.fZ 4).take i++[(H.fZ 4).getD i 0]:=by
 have hn:=h.nd
 have hr:=h.rng
 generalize H.fZ 4=l at *
 have e:l.getD i 0=l[i]:=by rw [ajg,ajh hi];rfl
 rw [e]
 obtain ⟨r1,r2⟩:=hr _ (aji hi)
 refine ⟨r1,r2,?_,by rw [alU,ajh hi];rfl⟩
 rw [Bool.eq_false_iff]
 intro hc
 have hm:l[i]∈l.take i:=by simpa using hc
 obtain ⟨j,hj,e2⟩:=alg hm
 rw [alS] at hj
 rw [List.getElem_take] at e2
 have:=(List.pairwise_iff_getElem.1 hn) j i (by omega) hi (by omega)
 exact this e2
theorem Y9 (h:aI w D H) (hT:pI w):Calls aA 37 #[au (D 0)] w fun e w'=>e = .returned (.bool true)/\aj (only (D 1)) w w':=by
 have hP:=h.gU.agP
 have agQ:=h.ZK
 have UW:Hid (∀ i,i<(H.fZ 4).length->1<=(H.fZ 4).getD i 0/\(H.fZ 4).getD i 0<=H.b*H.ww/\((H.fZ 4).take i).contains ((H.fZ 4).getD i 0)=false/\(H.fZ 4).take (i+1)=(H.fZ 4).take i++[(H.fZ 4).getD i 0]):=fun i hi=>hP.at hi
 have HCV:Hid (∀ i,i<(dL H H.b).length->(H.fZ 4).contains ((dL H H.b).getD i 0)=true/\1<=(dL H H.b).getD i 0/\(dL H H.b).getD i 0<=H.b*H.ww):=fun i hi=>by
  have hm:(dL H H.b).getD i 0∈dL H H.b:=by rw [ajg,ajh hi];exact aji _
  have h2:=hP.cov _ hm
  exact ⟨by simpa using h2,hP.rng _ h2⟩
 have Jj:Hid ((H.fZ 4).length=(dL H H.b).length/\(dL H H.b).length<=1048576/\∀ b,b<=H.b->(dL H b).length<=1048576):=by
  have hl:=JC h H.b
  have h2:256*H.b<=256*4096:=Nat.mul_le_mul_left _ agQ.2.1
  exact ⟨hP.len,by omega,fun b hb=>by have:=Nv H hb;omega⟩
 have TI:Hid (∀ k,k<=4->(H.fZ k).length<=1048576):=fun k hk=>by
  have h4:(H.fZ k).length<=(H.fZ 4).length:=by
   rcases (by omega:k=0\/k=1\/k=2\/k=3\/k=4) with rfl|rfl|rfl|rfl|rfl<;>simp [HS.fZ]<;>omega
  have h5:=Jj.out
  omega
 have HD:Hid (D 1<w.heap.size/\D 2<w.heap.size):=⟨by obtain ⟨_,_,q⟩:=h.lY.aH;exact q.lt,h.lY.pU.lt⟩
 have yK:Hid (Calls aA 62 #[au (D 0)] w fun e w'=>∃ R' X' aO,e = .returned (au R')/\nU w' R' X' aO H.c H.K/\aj aB w w'):=Bo h
 have HSL:Hid (∀ V R X aO B,aj aB w V->nU V R X aO H.c H.K->Calls aA 63 #[au R,ah ((B:Nat):Int)] V fun e w'=>∃ a cp,e = .returned (.slice a (H.bH B).length cp)/\w'.ownsRow V.heap.size 3 1 (.slice a (H.bH B).length cp) (H.bH B).length (aS (H.bH B))/\aj aB V w'):=fun V R X aO B k ht=>UU h ht (h.still k).qQ (h.still k).sizes B
 have sN:Hid (∀ V,aI V D H->Calls aA 26 #[au (D 0)] V fun e w'=>e = .returned (.agg H.c.cells.toArray)/\aj aB V w'):=fun V hV=>zO hV
 have yM:Hid (∀ V,aj aB w V->Calls aA 23 #[au (D 0)] V fun e w'=>∃ v,e = .returned v/\w'.ownsRow V.heap.size 3 1 v H.aQ.length (aS H.aQ)/\aj aB V w'):=fun V k=>yT (h.still k) (hT.still k)
 have HHA:Hid (∀ V,aj aB w V->Calls aA 64 #[au (D 0)] V fun e w'=>∃ v,e = .returned v/\w'.ownsRow V.heap.size 3 1 v H.xU.length (aS H.xU)/\aj aB V w'):=fun V k=>Y6 (h.still k)
 have HFR:Hid (∀ V k,k<4->aI V D H->Calls aA 65 #[au (D 0),ah ((k:Nat):Int)] V fun e w'=>∃ v,e = .returned v/\w'.ownsRow V.heap.size 3 1 v (H.row k).length (aS (H.row k))/\aI w' D H/\aj (only (D 1)) V w'):=fun V k hk hV=>Y5 hV k hk
 have HH:=ay h
 have TM:=ay (VP H)
 have HSE:=ay (Y8 H)
 have qK:Hid (H.fZ 0=H.aQ++H.xU):=rfl
 have HT0:Hid (dL H 0=[]):=rfl
 have hcb:=h.cb
 have hcw:=h.cw
 obtain ⟨n,hn⟩:∃ n,n=H.b*H.ww:=⟨_,rfl⟩
 rw [<- hn] at UW HCV
 have hmul:IntKind.i64.wrap ((H.b:Int)*(H.ww:Int))=(n:Int):=by
  rw [<- Int.natCast_mul,<- hn]
  exact ajw _ (by omega)
 have Df:Hid (n<=1048576):=by unfold Hid;omega
 obtain ⟨⟨x0,x1,x2,x3,x4,x5,x6⟩,hcE⟩:∃ c,c=H.c:=⟨_,rfl⟩
 rw [<- hcE] at yK HSL sN hcb hcw
 simp only [bK.cells] at sN
 have hb4:(H.b:Int)<=4096:=by omega
 obtain ⟨nb,hnb⟩:∃ nb,nb=H.b:=⟨_,rfl⟩
 obtain ⟨nw,hnw⟩:∃ nw,nw=H.ww:=⟨_,rfl⟩
 rw [<- hnb,<- hnw] at hmul
 rw [<- hnb] at HCV Jj hb4 hcb
 rw [<- hnw] at hcw
 have hcb':x0=(nb:Int):=hcb
 have aiz:x1=(nw:Int):=hcw
 subst hcb' aiz
 have hf0:=UE (nb:Int) (nw:Int) x2 x3 x4 x5 x6
 have hf1:=adl (nb:Int) (nw:Int) x2 x3 x4 x5 x6
 clear h hT hP agQ hcb hcw hn hcE hnb hnw
 go_enter func37,ntmps37
 go_wp2_with fail
 refine yK.out.mono ?_
 rintro e w1 ⟨R,X,aO,rfl,ht,k1⟩
 have HT1:=ay ht
 have bI:=ay k1
 clear yK ht k1
 go_wp2_with fail
 go_loopw [4,6] (fun av bv wr=>∃ (b:Nat) (v:Value),v=av/\b<=nb/\bv = ah b/\wr.ownsRow w1.heap.size 3 1 v (dL H b).length (aS (dL H b))/\aj aB w1 wr) (fun _ bv _=>nb - (intOf bv).toNat)
 case atStart=>exact ⟨0,_,rfl,aki _,rfl,⟨rfl,.inl ⟨rfl,rfl⟩⟩,aj.refl _ _⟩
 case round =>
  obtain ⟨b,v,hv,hb,rfl,hown,hk⟩:=hrel
  subst hv
  have HK:=ay hk
  have HO:=ay hown
  have tV:=ay (sN.out _ (HH.out.still (bI.out.trans hk)))
  have LY:=ay hb
  clear hown hk hb
  by_cases hlt:b<nb
  ·have lJ:(b:Int)<(nb:Int):=by omega
   have ny:=ay hlt
   clear hlt
   go_wp2_with fail
   refine tV.out.mono ?_
   rintro e w2 ⟨rfl,k2⟩
   have dF:=ay (HK.out.trans k2)
   have uV:=ay (bY HO.out k2)
   have mJ:=ay (HSL.out w2 R X aO b (bI.out.trans dF.out) (HT1.out.still dF.out))
   clear k2 tV HK HO
   go_wp2_with fail
   refine mJ.out.mono ?_
   rintro e w3 ⟨a3,c3,rfl,ho3,k3⟩
   have ho4:=bY uV.out k3
   have hb9:=Jj.out.2.2 (b+1) ny.out
   rw [TM.out,alm] at hb9
   obtain ⟨v5,w5,hrun,hown5,hgr⟩:=xY ho4 (ajU dF.out.size k3.size) (bQ ho3 (aki _)) (by omega)
   rw [<- TM.out] at hown5
   have TS:Hid (w5.ownsRow w1.heap.size 3 1 v5 (dL H (b+1)).length (aS (dL H (b+1)))/\aj aB w1 w5):=⟨hown5,lQ ho4 hgr (dF.out.trans k3) (fun b h1 h2=>by omega)⟩
   clear ho3 k3 ho4 hb9 hown5 hgr mJ uV dF
   go_wp2_with fail
   exact ⟨⟨b+1,_,rfl,ny.out,by have:=ny.out;go_num,TS.out.1,TS.out.2⟩,by have:=ny.out;simp [intOf];omega⟩
  ·obtain rfl:b=nb:=by have:=LY.out;omega
   have lJ:¬ (b:Int)<(b:Int):=by omega
   clear hlt
   go_wp2_with fail
   refine tV.out.mono ?_
   rintro e w2 ⟨rfl,k2⟩
   have dF:=ay (HK.out.trans k2)
   have uV:=ay (bY HO.out k2)
   have HB1:=ay (yM.out w2 (bI.out.trans dF.out))
   clear k2 tV HK HO
   go_wp2_with fail
   refine HB1.out.mono ?_
   rintro e w3 ⟨v3,rfl,ho3,k3⟩
   have hlo:=TI.out 0 (by decide)
   rw [qK.out,alm] at hlo
   have hn3:w3.ownsRow w2.heap.size 3 1 (.slice none 0 0) ([]:List Nat).length (aS []):=⟨rfl,.inl ⟨rfl,rfl⟩⟩
   obtain ⟨v4,w4,hrun,ho4,hgr⟩:=xY hn3 k3.size (bQ ho3 (aki _)) (by simp;omega)
   rw [akr] at ho4
   have k4:aj aB w2 w4:=lQ hn3 hgr k3 (fun b h1 h2=>by omega)
   have GI:=ay ho4
   have nV:=ay k4
   have OQ:=ay (HHA.out w4 ((bI.out.trans dF.out).trans k4))
   clear HB1 ho3 k3 hn3 hgr ho4 k4
   go_wp2_with fail
   refine OQ.out.mono ?_
   rintro e w5 ⟨v5,rfl,ho5,k5⟩
   have ho4:=bY GI.out k5
   obtain ⟨v6,w6,hrun,ho6,hgr⟩:=xY ho4 (ajU nV.out.size k5.size) (bQ ho5 (aki _)) (by omega)
   rw [<- qK.out] at ho6
   have k6:aj aB w2 w6:=lQ ho4 hgr (nV.out.trans k5) (fun b h1 h2=>by omega)
   have MO:Hid (w6.ownsRow w2.heap.size 3 1 v6 (H.fZ 0).length (aS (H.fZ 0))/\dY w6 (D 1) (D 2) H.A/\aj (only (D 1)) w2 w6):=⟨ho6,(HH.out.still ((bI.out.trans dF.out).trans k6)).lY,k6.mono (fun _ _ f=>f.elim)⟩
   clear OQ ho5 k5 hgr ho4 ho6 k6 hlo GI nV
   go_wp2_with fail
   have UY:=ay (bI.out.trans dF.out)
   have HD2:Hid (D 1<w2.heap.size/\D 2<w2.heap.size/\D 1<w1.heap.size):=by
    have:=HD.out;have:=UY.out.size;have:=bI.out.size
    unfold Hid;omega
   have HHW:Hid (∀ V,aj (only (D 1)) w2 V->dY V (D 1) (D 2) H.A->aI V D H):=fun V k hA=>(HH.out.still UY.out).EJ k hA
   go_loopw [5,7] (fun sv kv wr=>∃ (k:Nat) (u:Value),u=sv/\k<=4/\kv = ah k/\wr.ownsRow w2.heap.size 3 1 u (H.fZ k).length (aS (H.fZ k))/\dY wr (D 1) (D 2) H.A/\aj (only (D 1)) w2 wr) (fun _ kv _=>4 - (intOf kv).toNat)
   case atStart=>exact ⟨0,_,rfl,by decide,rfl,MO.out.1,MO.out.2.1,MO.out.2.2⟩
   case round =>
    obtain ⟨k,u,hu,hk,rfl,hown,hA,hkp⟩:=hrel
    subst hu
    have HO:=ay (And.intro hown (And.intro hA hkp))
    clear hown hA hkp
    by_cases hlt:k<4
    ·have lJ:(k:Int)<4:=by omega
     have hk0:(0:Int)<=(k:Int):=by omega
     have wU:=ay (HFR.out wr k hlt (HHW.out wr HO.out.2.2 HO.out.2.1))
     go_wp2_with fail
     refine wU.out.mono ?_
     rintro e w7 ⟨v7,rfl,ho7,hh7,k7⟩
     have ho8:w7.ownsRow w2.heap.size 3 1 u (H.fZ k).length (aS (H.fZ k)):=gK HO.out.1 k7 (fun B hB e=>by have:=(World.ownsRow.lt HO.out.1 B hB).1;have:=HD2.out.1;have:B=D 1:=e;omega)
     have hb9:=TI.out (k+1) hlt
     rw [HSE.out,alm] at hb9
     have hk2:=HO.out.2.2.trans k7
     obtain ⟨v9,w9,hrun,hown9,hgr⟩:=xY ho8 hk2.size (bQ ho7 (aki _)) (by omega)
     rw [<- HSE.out] at hown9
     have kg:aj (fun i=>u.ownBlock=some i) w7 w9:=⟨hgr.os,hgr.tape,hgr.output,hgr.size,fun k hk n=>hgr.block k hk (fun e=>n e.symm)⟩
     have hno:∀ b,b<w2.heap.size->¬ u.ownBlock=some b:=fun b hb e=>by have:=(World.ownsRow.lt ho8 b e).1;omega
     have MZ:Hid (w9.ownsRow w2.heap.size 3 1 v9 (H.fZ (k+1)).length (aS (H.fZ (k+1)))/\dY w9 (D 1) (D 2) H.A/\aj (only (D 1)) w2 w9):=⟨hown9,hh7.lY.aK kg (hno _ HD2.out.1) (hno _ HD2.out.2.1),lQ ho8 hgr hk2 (fun b h1 h2=>by omega)⟩
     clear ho7 hh7 k7 ho8 hb9 hk2 hown9 hgr kg hno wU HO
     go_wp2_with fail
     exact ⟨⟨k+1,_,rfl,hlt,by go_num,MZ.out.1,MZ.out.2.1,MZ.out.2.2⟩,by simp [intOf];omega⟩
    ·obtain rfl:k=4:=by omega
     have lJ:¬ (((4:Nat):Int)<4):=by omega
     obtain ⟨sa,sc,e1,_⟩:=gy (bQ HO.out.1 (aki _))
     subst e1
     have Qq:Hid (wr.ownsRow w1.heap.size 3 1 v (dL H b).length (aS (dL H b))):=gK uV.out HO.out.2.2 (fun B hB e=>by have:=(World.ownsRow.lt uV.out B hB).1;have:=HD2.out.2.2;have:B=D 1:=e;omega)
     obtain ⟨aa,ac,e2,_⟩:=gy (bQ uV.out (aki _))
     subst e2
     have tV:=ay (sN.out wr (HHW.out wr HO.out.2.2 HO.out.2.1))
     have HHR:=ay (HHW.out wr HO.out.2.2 HO.out.2.1)
     have Xb:=ay (HO.out.2.2)
     have HSR:=ay HO.out.1
     obtain ⟨L,hL⟩:∃ L,L=(dL H b).length:=⟨_,rfl⟩
     have hLS:=Jj.out.1
     have adA:(H.fZ 4).length=(dL H b).length:=Jj.out.1
     have hLI:(L:Int)<=1048576:=by have:=Jj.out.2.1;omega
     rw [<- hL] at HCV Jj hLS adA ⊢
     have agR:(dL H b).length=L:=hL.symm
     rw [hLS] at UW ⊢
     rw [agR] at Qq
     rw [adA] at HSR
     generalize H.fZ 4=sl at *
     generalize dL H b=al at *
     clear HO hL TI HFR HHA yM TM HSE qK HT0 MO uV HSL HT1
     go_wp2_with fail
     refine tV.out.mono ?_
     rintro e w7 ⟨rfl,k7⟩
     have HH7:=ay (HHR.out.still k7)
     have HC7:=ay (sN.out w7 HH7.out)
     have HK7:=ay k7
     clear k7 tV
     go_wp2_with fail
     refine HC7.out.mono ?_
     rintro e w8 ⟨rfl,k8⟩
     have HK8:=ay (HK7.out.trans k8)
     have hmk:∀ w:World,(Instr.makeSlice 111 (ah ((n:Int)+1)) (ah ((n:Int)+1))).run aA w = .ok (.slice (some ⟨w.heap.size,0,none⟩) (n+1) (n+1)) (w.alloc (.cells (fV (.bool false) (n+1)).toArray 4)):=fun w=>yD (P:=aA) (by kernel_rfl) Tryz.infoBool9 rfl (by decide) (n+1) (by have:=Df.out;omega) _ (by omega) w
     have O8:(n:Int)<=1048576:=by have:=Df.out;omega
     obtain ⟨W9,pW⟩:∃ W9,W9=w8.alloc (.cells (fV (.bool false) (n+1)).toArray 4):=⟨_,rfl⟩
     have k9:aj aB w8 W9:=by rw [pW];exact (aj.refl _ _).alloc _
     have hq9:aF W9 w8.heap.size (IL (n+1) (sl.take 0)) 4:=by
      rw [pW,List.take_zero,afb]
      exact aF.bC w8 _ _
     obtain ⟨Q,hQ⟩:∃ Q,Q=w8.heap.size:=⟨_,rfl⟩
     rw [<- hQ] at hq9
     have agS:=ay (bY HSR.out HK8.out)
     have agT:=ay (bY Qq.out HK8.out)
     have HQ9:=ay hq9
     have WA:Hid (∀ i,i<L->∃ c,sa=some ⟨c,0,none⟩/\∀ W,aj (only Q) W9 W->W.cell? ⟨c,i,none⟩=some (ah ((sl.getD i 0:Nat):Int))):=fun i hi=>by
      obtain ⟨c,e1,_,hlt,hc⟩:=wH agS.out (qG (by rw [adA];exact hi))
      exact ⟨c,e1,fun W k=>k.nP (k9.still hc) (fun e=>by have e:c=Q:=e;omega)⟩
     have Ql:Hid (∀ i,i<L->∃ c,aa=some ⟨c,0,none⟩/\∀ W,aj (only Q) W9 W->W.cell? ⟨c,i,none⟩=some (ah ((al.getD i 0:Nat):Int))):=fun i hi=>by
      obtain ⟨c,e1,_,hlt,hc⟩:=wH agT.out (qG (by rw [agR];exact hi))
      exact ⟨c,e1,fun W k=>k.nP (k9.still hc) (fun e=>by have e:c=Q:=e;omega)⟩
     have AQ:=ay pW
     have HQE:=ay hQ
     have Zy:Hid (∀ W,aj (only Q) W9 W->aj (only (D 1)) w W):=fun W k=>by
      have h1:aj (only (D 1)) w W9:=(((UY.out.mono (fun _ _ f=>f.elim)).trans Xb.out).trans (HK8.out.mono (fun _ _ f=>f.elim))).trans (k9.mono (fun _ _ f=>f.elim))
      refine h1.kF k (fun i hi e=>?_)
      have e:i=Q:=e
      have g1:=UY.out.size;have g2:=Xb.out.size;have g3:=HK8.out.size
      omega
     clear pW k9 hq9 hQ HC7 HSR Qq agS agT HK7 HK8 Xb HH7 HHR HHW UY HD2 HD sN HH bI dF
     go_wp2_with fail
     rw [<- AQ.out,<- HQE.out]
     go_loopw [9] (fun iv wr=>∃ i:Nat,i<=L/\iv = ah i/\aF wr Q (IL (n+1) (sl.take i)) 4/\aj (only Q) W9 wr) (fun iv _=>L - (intOf iv).toNat)
     case atStart=>exact ⟨0,aki _,rfl,HQ9.out,aj.refl _ _⟩
     case round =>
      obtain ⟨i,hi,rfl,hq,hkq⟩:=hrel
      by_cases hlt:i<L
      ·obtain ⟨c,rfl,hc⟩:=WA.out i hlt
       obtain ⟨p1,p2,p3,p4⟩:=UW.out i hlt
       have hcc:=hc wr hkq
       have hqc:=hq.cell (sl.getD i 0) (abp (l:=sl.take i) (show sl.getD i 0<n+1 by omega))
       rw [p3] at hqc
       have hqf:=hq.free (sl.getD i 0)
       have XA:Hid (aF (wr.setCell ⟨Q,sl.getD i 0,none⟩ (.bool true)) Q (IL (n+1) (sl.take (i+1))) 4/\aj (only Q) W9 (wr.setCell ⟨Q,sl.getD i 0,none⟩ (.bool true))):=by
        refine ⟨?_,hkq.put _ _⟩
        rw [p4,<- afc]
        exact hq.set _ _
       have Y0:(i:Int)<(L:Int):=by omega
       have hi0:(0:Int)<=(i:Int):=by omega
       have ny:=ay hlt
       generalize sl.getD i 0=x at *
       have hx1:(1:Int)<=(x:Int):=by omega
       have hx0:(0:Int)<=(x:Int):=by omega
       have hx2:(x:Int)<(n:Int)+1:=by omega
       have hx3:decide ((x:Int)<1)=false:=gJ (by omega)
       have hx4:decide ((n:Int)+1<=(x:Int))=false:=gJ (by omega)
       clear hi hq hkq hc p1 p2 p3 p4 hlt
       go_wp2_with fail
       exact ⟨⟨i+1,ny.out,by go_num,XA.out.1,XA.out.2⟩,by have:=ny.out;simp [intOf];omega⟩
      ·obtain rfl:i=L:=by omega
       have Y0:¬ (i:Int)<(i:Int):=by omega
       have htk:sl.take i=sl:=List.take_of_length_le (by omega)
       rw [htk] at hq
       have HQF:Hid (∀ W,aj aB wr W->aF W Q (IL (n+1) sl) 4):=fun W k=>k.aH hq (fun f=>f)
       have HKQ:=ay hkq
       clear hi hq hkq hlt htk WA UW
       go_wp2_with fail
       generalize wr=Wo at *
       go_loopw [10] (fun iv wr=>∃ j:Nat,j<=i/\iv = ah j/\aj aB Wo wr) (fun iv _=>i - (intOf iv).toNat)
       case atStart=>exact ⟨0,aki _,rfl,aj.refl _ _⟩
       case round =>
        obtain ⟨j,hj,rfl,hk⟩:=hrel
        have HK:=ay hk
        by_cases hlt:j<i
        ·obtain ⟨c,rfl,hc⟩:=Ql.out j hlt
         have hcc:=hc wr (HKQ.out.trans (hk.mono (fun _ _ f=>f.elim)))
         obtain ⟨p1,p2,p3⟩:=HCV.out j hlt
         have hqc:=(HQF.out wr hk).cell (al.getD j 0) (abp (l:=sl) (show al.getD j 0<n+1 by omega))
         rw [p1] at hqc
         have ahE:(j:Int)<(i:Int):=by omega
         have hj0:(0:Int)<=(j:Int):=by omega
         have ny:=ay hlt
         generalize al.getD j 0=x at *
         have hx0:(0:Int)<=(x:Int):=by omega
         have hx2:(x:Int)<(n:Int)+1:=by omega
         clear hj hk hc p1 p2 p3 hlt
         go_wp2_with fail
         exact ⟨⟨j+1,ny.out,by go_num,HK.out⟩,by have:=ny.out;simp [intOf];omega⟩
        ·obtain rfl:j=i:=by omega
         have ahE:¬ (j:Int)<(j:Int):=by omega
         clear hj hk hlt
         go_wp2_with fail
         go_ret
         exact ⟨rfl,Zy.out _ (HKQ.out.trans (HK.out.mono (fun _ _ f=>f.elim)))⟩
end
end
section
attribute [local go_sem] Oper.semAt_some
open Go.RowKit
section
variable {w w' W W':World} {D:Nat->Nat} {H:HS}
theorem Qr (h:aI w D H) (hT:pI w):Calls aA 23 #[au (D 0)] w fun e w'=>∃ (a:Option Addr) (c:Nat),e = .returned (.slice a H.aQ.length c)/\gY .i64 w' a H.aQ.length (H.aQ.map fun x:Nat=>(x:Int))/\H.aQ.length<=1048577/\aj aB w w':=by
 refine (yT h hT).mono ?_
 rintro e w' ⟨v,rfl,ho,k⟩
 have e:aS H.aQ=(H.aQ.map fun x:Nat=>(x:Int)).map (Value.int .i64):=by simp [aS]
 rw [e] at ho
 obtain ⟨a,c,rfl,hi,_⟩:=gY.GN ho
 refine ⟨a,c,rfl,hi,?_,k⟩
 have h1:=FV H.bn H.sz
 have h2:=h.gU.zk
 unfold HS.aQ
 unfold HS.sz at h1 ⊢
 omega
end
end
end Go.Proofs.YtanfphjoebobaaaGreatDoor
