/- Parts of the walk. No conditions. -/
import Derived.Test.YtanfphjoebobaaaGreatDoorZzep
namespace Go.Proofs.YtanfphjoebobaaaGreatDoor
open _root_.Go.Proofs.Tryz hiding prog
open _root_.Go.Proofs.Tryz renaming prog->ay
set_option maxRecDepth 8000
set_option maxHeartbeats 8000000
section
attribute [local go_sem] Oper.semAt_some
open Go.RowKit
section
variable {w w':World} {R X cap:Nat} {c:aK} {K:List Nat}
theorem I5 (h:nO w R X cap c K) (B:Nat) (hk:K.getD B 0=0):Calls ay 102 #[aj R,ah (B:Int)] w fun e w'=>e = .returned (.tuple #[ah 0,.bool false])/\w=w':=by
 have hb:=h.blk
 obtain ⟨c0,c1,c2,c3,c4,c5,c6⟩:=c
 simp only [aK.cells,List.cons_append,List.nil_append] at hb
 have y7:=hb.cell 7 rfl
 have hs:=h.small
 have hcap:=h.cap
 have Iw:(0:Int)<=(B:Int):=by omega
 rcases Nat.lt_or_ge B K.length with hB|hB
 ·obtain ⟨cur,U5,hcv⟩:=h.cls
  have z:=U5.cell B (hcv _ _ (nK hB))
  rw [hk] at z
  have d1:decide ((K.length:Int)<=(B:Int))=false:=decide_eq_false (by omega)
  have hBI:(B:Int)<(K.length:Int):=by omega
  generalize K.length=L at *
  clear h hb hk hs hB
  go_enter func102,ntmps102
  go_wp2_with fail
  go_ret2
  exact ⟨rfl,rfl⟩
 ·have d1:decide ((K.length:Int)<=(B:Int))=true:=decide_eq_true (by omega)
  have hBI:(K.length:Int)<=(B:Int):=by omega
  generalize K.length=L at *
  clear h hb hk hs hB
  go_enter func102,ntmps102
  go_wp2_with fail
  go_ret2
  exact ⟨rfl,rfl⟩
theorem Vk (h:nO w R X cap c K) (B:Nat) (hk:K.getD B 0=0):Calls ay 63 #[aj R,ah (B:Int)] w fun e w'=>e = .returned (.slice none 0 0)/\w=w':=by
 have l9:=au (I5 h B hk)
 clear h hk
 go_enter func63,ntmps63
 go_wp2_with (go_at_call 102;refine l9.out.mono ?_;rintro e w1 ⟨rfl,rfl⟩)
 go_ret
 exact ⟨rfl,rfl⟩
end
theorem Vl {H:HS} {B:Nat} (h:H.K.getD B 0=0):H.slots B=[]:=by unfold HS.slots;rw [if_pos h]
section
variable {o o':Ow} {w w':World} {G:Geo} {q:CG} {s:Sh} {c:CS} {ev:Option Ev} {nv nv0:Value}
theorem aF.k4 {D:Nat->Nat} {H:HS} (h:aF w D H) {B:Nat} (hB:H.K.getD B 0≠0):B<H.K.length/\H.K.getD B 0<=4:=by
 have hBl:B<H.K.length:=by
  rcases Nat.lt_or_ge B H.K.length with g|g
  ·exact g
  ·rw [List.getD_eq_getElem?_getD,List.getElem?_eq_none g] at hB
   simp at hB
 refine ⟨hBl,?_⟩
 rw [List.getD_eq_getElem?_getD,List.getElem?_eq_getElem hBl]
 exact h.table.le _ (List.getElem_mem hBl)
theorem O5 (h:aP o w G q s c ev nv) {R X cap:Nat} (ht:nO w R X cap s.H.c s.H.K) (B:Nat):Calls ay 63 #[aj R,ah (B:Int)] w fun e w'=>∃ a cp,e = .returned (.slice a (s.H.slots B).length cp)/\bC o w' 3 (.slice a (s.H.slots B).length cp) (aG (s.H.slots B))/\Keep none_ w w':=by
 by_cases hk:s.H.K.getD B 0=0
 ·rw [Vl hk]
  refine (Vk ht B hk).mono ?_
  rintro e w' ⟨rfl,rfl⟩
  exact ⟨none,0,rfl,bC.nil _ _ _,Keep.refl _ _⟩
 ·obtain ⟨hBl,hk4⟩:=h.sh.heap.k4 hk
  have h1:=LV ht s.H.ww B (s.H.K.getD B 0 - 1) h.sh.heap.cw hBl (by omega) (by omega) h.sh.heap.tabs h.sh.heap.sizes
  rw [show s.H.K.getD B 0 - 1+1=s.H.K.getD B 0 by omega] at h1
  have e1:s.H.slots B=kH (s.H.ww/2^(s.H.K.getD B 0)) (2^(s.H.K.getD B 0)) (B*s.H.ww):=by unfold HS.slots;rw [if_neg hk]
  have hn:=lD h.sh.heap.table.ok h.sh.heap.table.len h.sh.heap.cw
  have hle:s.H.ww/2^(s.H.K.getD B 0)<=256:=Nat.le_trans (Nat.div_le_self _ _) hn.2.2.2.1
  refine h1.mono ?_
  rintro e w2 ⟨v,rfl,ho,k2⟩
  have el:(s.H.slots B).length=s.H.ww/2^(s.H.K.getD B 0):=by rw [e1,vN]
  have hr:bC o w2 3 v (aG (s.H.slots B)):=by
   rw [e1]
   exact bC.tV ho (by omega) (fun b hb=>h.sh.fC b hb)
  obtain ⟨a,cp,rfl,_⟩:=id hr
  have el2:(aG (s.H.slots B)).length=(s.H.slots B).length:=by simp [aG]
  rw [el2] at hr ⊢
  exact ⟨a,cp,rfl,hr,k2⟩
theorem abn (h:aP o w G q s c none nv0) (b:Nat) (hb:b<=4096) (b0 b1:Nat) (k0:aA w b0 [aB q.C] 30) (k1:aA w b1 [ah (b:Int)] 3) :
 Calls ay 285 #[aj b0,aj b1] w (bF o w G q nv0 (aC s c (.walk b))):=by
 have HC:Hid (∀ V,Keep none_ w V->V.cell? ⟨b0,0,none⟩=some (aj q.C)/\V.cell? ⟨b1,0,none⟩=some (ah (b:Int))/\V.cell? ⟨q.C,0,none⟩=some (aj G.S)/\V.cell? ⟨G.S,0,none⟩=some (aj (G.D 0))):=fun V hV =>
  ⟨(hV.blk k0 (fun f=>f)).cell 0 rfl,(hV.blk k1 (fun f=>f)).cell 0 rfl,(h.still hV).c0,(h.still hV).sh.sC.1⟩
 obtain ⟨y0,y1,y2,y3⟩:=HC.out w (Keep.refl _ _)
 have L8:Hid (∀ V,Keep none_ w V->Calls ay 62 #[aj (G.D 0)] V fun e w'=>∃ R X cap,e = .returned (aj R)/\nO w' R X cap s.H.c s.H.K/\Keep none_ w w'/\Keep none_ V w'):=fun V hV=>by
  refine (zB (h.still hV).sh.heap).mono ?_
  rintro e w' ⟨R,X,cap,rfl,g1,g2⟩
  exact ⟨R,X,cap,rfl,g1,hV.trans g2,g2⟩
 have AX:Hid (∀ V V' R X cap,nO V R X cap s.H.c s.H.K->Keep none_ V V'->nO V' R X cap s.H.c s.H.K):=fun V V' R X cap ht k=>by
  obtain ⟨g1,⟨cur,g2,g3⟩,g4,g5,g6⟩:=ht
  exact ⟨k.blk g1 (fun f=>f),⟨cur,k.blk g2 (fun f=>f),g3⟩,g4,g5,g6⟩
 have HSL:Hid (∀ V R X cap,Keep none_ w V->nO V R X cap s.H.c s.H.K->Calls ay 63 #[aj R,ah (b:Int)] V fun e w'=>∃ a cp,e = .returned (.slice a (s.H.slots b).length cp)/\bC o w' 3 (.slice a (s.H.slots b).length cp) (aG (s.H.slots b))/\Keep none_ w w'/\Keep none_ V w'):=fun V R X cap hV ht=>by
  refine (O5 (h.still hV) ht b).mono ?_
  rintro e w' ⟨a,cp,rfl,g1,g2⟩
  exact ⟨a,cp,rfl,g1,hV.trans g2,g2⟩
 have Y2:Hid (∀ V,Keep none_ w V->Calls ay 275 #[aj q.C,ah ((b:Int)+1)] V fun e w'=>∃ nv,e = .returned nv/\bg o w' q.C (c.eF (b+1)) nv/\Keep none_ w w'/\Keep none_ V w'):=fun V hV=>by
  have g:=IY (c:=c) (h.still hV).sh.fC q.C (b+1) ((h.still hV).cell 2 _ rfl)
  rw [show (((b+1:Nat)):Int)=(b:Int)+1 from by push_cast;rfl] at g
  refine g.mono ?_
  rintro e w' ⟨nv,rfl,g1,g2⟩
  exact ⟨nv,rfl,g1,hV.trans g2,g2⟩
 have HST:Hid (∀ V a cp nv,Keep none_ w V->bC o V 3 (.slice a (s.H.slots b).length cp) (aG (s.H.slots b))->bg o V q.C (c.eF (b+1)) nv->Calls ay 286 #[aj q.C,.slice a (s.H.slots b).length cp,nv] V fun e w'=>bF o w G q nv0 (aC s c (.walk b)) e w'/\Keep none_ w w'):=fun V a cp nv hV hr hc =>
  bF.made2 (r:=aC s c (.walk b)) hV (h.still hV) hV.aS (FU (h.still hV).sh.fC q.C hc hr)
 have HRS:Hid (∀ V V' v,bC o V 3 v (aG (s.H.slots b))->Keep none_ V V'->bC o V' 3 v (aG (s.H.slots b))):=fun V V' v h k=>h.still k
 have HCS:Hid (∀ V V' nv,bg o V q.C (c.eF (b+1)) nv->Keep none_ V V'->bg o V' q.C (c.eF (b+1)) nv):=fun V V' v h k=>h.still k
 have hwi:IntKind.i64.wrap ((b:Int)+1)=(b:Int)+1:=IntWalk.i64_in _ (by omega)
 have dN:Hid (Keep none_ w w.drew):=(Keep.refl none_ w).drew
 generalize aC s c (.walk b)=R at *
 generalize c.eF (b+1)=d at *
 generalize s.H.slots b=sl at *
 generalize s.H.c=cf at *
 generalize s.H.K=K at *
 clear h k0 k1
 go_enter func285,ntmps285
 go_wp2_with fail
 go_region_held3 (fun W'=>W'.cell? ⟨b0,0,none⟩=some (aj q.C)/\W'.cell? ⟨b1,0,none⟩=some (ah (b:Int))/\W'.cell? ⟨q.C,0,none⟩=some (aj G.S)/\W'.cell? ⟨G.S,0,none⟩=some (aj (G.D 0)))
  (first
   | exact ⟨y0,y1,y2,y3⟩
   | exact HC.out _ dN.out
   | fail "ji")
  (first
   | (go_at_call 62
      refine (L8.out _ dN.out).mono ?_
      rintro e w2 ⟨R1,X1,cap1,rfl,ht1,kw,kv⟩
      have HT1:=au ht1
      have dN:=au kw
      try have yO:=au (HCS.out _ _ _ yO.out kv)
      clear ht1 kw kv)
   | (go_at_call 63
      refine (HSL.out _ _ _ _ dN.out HT1.out).mono ?_
      rintro e w2 ⟨a1,cp1,rfl,hr1,kw,kv⟩
      have HR1:=au hr1
      have dN:=au kw
      try have yO:=au (HCS.out _ _ _ yO.out kv)
      clear hr1 kw kv)
   | (go_at_call 275
      refine (Y2.out _ dN.out).mono ?_
      rintro e w2 ⟨nv2,rfl,hc2,kw,kv⟩
      have yO:=au hc2
      have dN:=au kw
      try have HR1:=au (HRS.out _ _ _ HR1.out kv)
      try have HT1:=au (AX.out _ _ _ _ _ HT1.out kv)
      clear hc2 kw kv)
   | (go_at_call 286
      refine (HST.out _ _ _ _ dN.out HR1.out yO.out).mono ?_
      rintro e w3 ⟨⟨nv3,rfl,hf3,hp3⟩,k3⟩
      have dN:=au k3
      have HP:=au hp3
      have wV:=au hf3
      clear hp3 hf3 k3)
   | fail "jZ")
 all_goals
  have hfm:=wV.out
  rcases hfm with rfl|⟨fn2,first2,caps2,rfl⟩
  all_goals
   go_wp2_with fail
   go_ret
   exact ⟨_,rfl,by first|exact .inl rfl|exact .inr ⟨_,_,_,rfl⟩,HP.out⟩
end
section
variable {o o':Ow} {w w':World} {G:Geo} {q:CG} {s:Sh} {c:CS} {ev:Option Ev} {nv nv0:Value}
theorem abo (h:aP o w G q s c none nv0) (hl:c.stk.length<=c.room) (hr:c.room<=4096):Calls ay 208 #[aj q.C] w (bF o w G q nv0 (aC s c .work)):=by
 have y9:=h.FY
 have hmf:=jc
 cases hx:c.stk.getLast? with
 | none =>
   have e1:aC s c .work=⟨s,c,.box 0,none⟩:=by simp only [aC,hx]
   have qw:=au (L6 h hx)
   have HB:Hid (∀ V,aP o V G q s c none nv0->Keep none_ w V->Calls ay 243 #[aj q.C,ah 0] V (bF o w G q nv0 (aC s c .work))):=fun V hV hk=>by
    rw [e1]
    exact bF.made (r:=⟨s,c,.box 0,none⟩) hV hk.aS (Ep hV.sh.fC q.C 0)
   generalize aC s c .work=R at *
   clear h hx e1
   go_enter func208,ntmps208
   go_wp2_with fail
   refine qw.out.mono ?_
   rintro e w1 ⟨rfl,h1,k1⟩
   have HB1:=au (HB.out w1 h1 k1)
   clear h1 k1 HB qw y9
   go_wp2_with fail
   refine HB1.out.mono ?_
   rintro e w3 ⟨nv,rfl,hf,hp⟩
   have HP:=au hp
   clear hp HB1
   rcases hf with rfl|⟨fn2,first2,caps2,rfl⟩
   all_goals
    go_wp2_with fail
    go_ret
    exact ⟨_,rfl,by first|exact .inl rfl|exact .inr ⟨_,_,_,rfl⟩,HP.out⟩
 | some a =>
   have e1:aC s c .work=⟨s,c.pop,.object a .work,none⟩:=by simp only [aC,hx]
   have qw:=au (I4 h hl hr a hx)
   have HB:Hid (∀ V,aP o V G q s c.pop none nv0->Keep (In o [5]) w V->Calls ay 242 #[aj q.C,ah (a:Int),bnd 208 q.C] V (bF o w G q nv0 (aC s c .work))):=fun V hV hk=>by
    rw [e1]
    exact bF.made (r:=⟨s,c.pop,.object a .work,none⟩) hV (qX hk) (yC hV.sh.fC q.C a (t := .work) rfl)
   generalize aC s c .work=R at *
   generalize c.pop=c' at *
   clear h hx e1 hl hr
   go_enter func208,ntmps208
   go_wp2_with fail
   refine qw.out.mono ?_
   rintro e w1 ⟨rfl,h1,k1⟩
   have HB1:=au (HB.out w1 h1 k1)
   clear h1 k1 HB qw y9
   go_wp2_with fail
   refine HB1.out.mono ?_
   rintro e w3 ⟨nv,rfl,hf,hp⟩
   have HP:=au hp
   clear hp HB1
   rcases hf with rfl|⟨fn2,first2,caps2,rfl⟩
   all_goals
    go_wp2_with fail
    go_ret
    exact ⟨_,rfl,by first|exact .inl rfl|exact .inr ⟨_,_,_,rfl⟩,HP.out⟩
theorem abp (h:aP o w G q s c none nv0) (hk0:Keep (In o aY) w w') (h':aP o w' G q s { c with over:=false } none nv0):Calls ay 274 #[aj q.C] w' (bF o w G q nv0 (if c.phase=4 then ⟨s,{ c with over:=false },.drain,none⟩ else if c.fresh then ⟨s,{ c with over:=false,phase:=4 },.drain,none⟩ else ⟨s,{ c with over:=false },.marked,none⟩)):=by
 have y4:w'.cell? ⟨q.C,4,none⟩=some (ah (c.phase:Int)):=h'.cell 4 _ rfl
 have y8:w'.cell? ⟨q.C,8,none⟩=some (.bool c.fresh):=h'.cell 8 _ rfl
 have f4:=h'.free 4
 have hmf:=jc
 by_cases hp:c.phase=4
 ·rw [if_pos hp]
  have d0:((c.phase:Int)==4)=true:=by rw [hp];rfl
  have HP:Hid (eG o w G q nv0 ⟨s,{ c with over:=false },.drain,none⟩ (.returned (bnd 283 q.C)) w'):=eG.same (r:=⟨s,{ c with over:=false },.drain,none⟩) h' rfl hk0
  generalize (⟨s,{ c with over:=false },.drain,none⟩:kF)=R at *
  generalize c.phase=ph at *
  generalize c.fresh=fr at *
  clear h h' hk0 hp
  go_enter func274,ntmps274
  go_wp2_with fail
  go_ret
  exact ⟨_,rfl,.inr ⟨_,_,_,rfl⟩,HP.out⟩
 ·rw [if_neg hp]
  have d0:((c.phase:Int)==4)=false:=by simp;omega
  by_cases hfr:c.fresh=true
  ·rw [if_pos hfr]
   obtain ⟨h2,k2⟩:=h'.put 4 (ah 4) { c with over:=false,phase:=4 } none nv0 rfl ⟨rfl,rfl,rfl⟩
   have HP:Hid (eG o w G q nv0 ⟨s,{ c with over:=false,phase:=4 },.drain,none⟩ (.returned (bnd 283 q.C)) (w'.setCell ⟨q.C,4,none⟩ (ah 4))):=eG.same (r:=⟨s,{ c with over:=false,phase:=4 },.drain,none⟩) h2 rfl (hk0.trans (qX k2))
   rw [hfr] at y8
   generalize (⟨s,{ c with over:=false,phase:=4 },.drain,none⟩:kF)=R at *
   generalize c.phase=ph at *
   clear h h' hk0 hp h2 k2 hfr
   go_enter func274,ntmps274
   go_wp2_with fail
   go_ret
   exact ⟨_,rfl,.inr ⟨_,_,_,rfl⟩,HP.out⟩
  ·rw [if_neg hfr]
   have hfr2:c.fresh=false:=by simpa using hfr
   have HP:Hid (eG o w G q nv0 ⟨s,{ c with over:=false },.marked,none⟩ (.returned (bnd 284 q.C)) w'):=eG.same (r:=⟨s,{ c with over:=false },.marked,none⟩) h' rfl hk0
   rw [hfr2] at y8
   generalize (⟨s,{ c with over:=false },.marked,none⟩:kF)=R at *
   generalize c.phase=ph at *
   clear h h' hk0 hp hfr hfr2
   go_enter func274,ntmps274
   go_wp2_with fail
   go_ret
   exact ⟨_,rfl,.inr ⟨_,_,_,rfl⟩,HP.out⟩
theorem abq (h:aP o w G q s c none nv0) (hw:c.walks<=1000000000):Calls ay 260 #[aj q.C] w (bF o w G q nv0 (aC s c .over)):=by
 have y0:=h.c0
 have s3:=h.sh.sC.2.2.2
 have Fb:Hid (Calls ay 272 #[aj G.Fl] w fun e w'=>e = .returned (.bool s.flag)/\aP o w' G q { s with flag:=false } c none nv0/\Keep (In o aY) w w'):=by
  refine (OV G.Fl s.flag h.sh.flag).mono ?_
  rintro e w' ⟨rfl,g1,g2⟩
  obtain ⟨h1,k1⟩:=h.CJ g2 g1
  exact ⟨rfl,h1,k1⟩
 have HK:Hid (∀ W,aP o W G q { s with flag:=false } c none nv0->Keep (In o aY) w W->W.cell? ⟨q.C,9,none⟩=some (aj q.K)/\Calls ay 273 #[aj q.K] W fun e w'=>e = .returned (.bool c.over)/\aP o w' G q { s with flag:=false } { c with over:=false } none nv0/\Keep (In o aY) w w'):=fun W hW hk=>by
  refine ⟨hW.FY,(Vf hW).mono ?_⟩
  rintro e w' ⟨rfl,h1,k1⟩
  exact ⟨rfl,h1,hk.trans (qX k1)⟩
 cases hcl:(!s.flag && !c.over) with
 | true =>
   obtain ⟨hfl,hov⟩:s.flag=false/\c.over=false:=by simpa using hcl
   have es:({ s with flag:=false }:Sh)=s:=by rw [<- hfl]
   have ec:({ c with over:=false }:CS)=c:=by rw [<- hov]
   have e1:aC s c .over=(if c.phase=4 then ⟨s,{ c with over:=false },.drain,none⟩ else if c.fresh then ⟨s,{ c with over:=false,phase:=4 },.drain,none⟩ else ⟨s,{ c with over:=false },.marked,none⟩):=by
    simp only [aC,hcl,if_true]
    have ec2:({ c with over:=false,phase:=4 }:CS)={ c with phase:=4 }:=by rw [<- hov]
    rw [ec,ec2]
   rw [es,hfl] at Fb
   rw [es,hov] at HK
   have HR:Hid (∀ W,aP o W G q s { c with over:=false } none nv0->Keep (In o aY) w W->Calls ay 274 #[aj q.C] W (bF o w G q nv0 (aC s c .over))):=fun W hW hk=>by
    rw [e1]
    exact abp h hk hW
   generalize aC s c .over=R at *
   generalize ({ c with over:=false }:CS)=c' at *
   clear h hcl hfl hov es ec e1
   go_enter func260,ntmps260
   go_wp2_with fail
   refine Fb.out.mono ?_
   rintro e w1 ⟨rfl,h1,k1⟩
   obtain ⟨y9,hk9⟩:=HK.out w1 h1 k1
   have I7:=au hk9
   clear h1 k1 hk9 HK Fb y0 s3
   go_wp2_with fail
   refine I7.out.mono ?_
   rintro e w2 ⟨rfl,h2,k2⟩
   have HR2:=au (HR.out w2 h2 k2)
   clear h2 k2 HR I7 y9
   go_wp2_with fail
   refine HR2.out.mono ?_
   rintro e w3 ⟨nv,rfl,hf,hp⟩
   have HP:=au hp
   clear hp HR2
   rcases hf with rfl|⟨fn2,first2,caps2,rfl⟩
   all_goals
    go_wp2_with fail
    go_ret
    exact ⟨_,rfl,by first|exact .inl rfl|exact .inr ⟨_,_,_,rfl⟩,HP.out⟩
 | false =>
   have e1:aC s c .over=⟨{ s with flag:=false },{ c with over:=false,fresh:=true,walks:=c.walks+1 },c.eF 0,none⟩:=by simp only [aC,hcl];rfl
   have hcl2:s.flag=true\/(s.flag=false/\c.over=true):=by
    revert hcl
    cases s.flag<;>cases c.over<;>simp
   have HW:Hid (∀ W,aP o W G q { s with flag:=false } { c with over:=false } none nv0->Keep (In o aY) w W->∃ W1 W2,W1=W.setCell ⟨q.C,8,none⟩ (.bool true)/\W2=W1.setCell ⟨q.C,12,none⟩ (ah ((c.walks:Int)+1))/\W.cell? ⟨q.C,8,none⟩=some (.bool c.fresh)/\W.frozen? ⟨q.C,8,none⟩=false/\W1.cell? ⟨q.C,12,none⟩=some (ah (c.walks:Int))/\W1.frozen? ⟨q.C,12,none⟩=false /\
    Calls ay 275 #[aj q.C,ah 0] W2 (bF o w G q nv0 (aC s c .over))):=fun W hW hk=>by
    obtain ⟨h1,k1⟩:=hW.put 8 (.bool true) { c with over:=false,fresh:=true } none nv0 rfl ⟨rfl,rfl,rfl⟩
    obtain ⟨h2,k2⟩:=h1.put 12 (ah ((c.walks:Int)+1)) { c with over:=false,fresh:=true,walks:=c.walks+1 } none nv0 (by show _=jv G q _ _ _;unfold jv;push_cast;rfl) ⟨rfl,rfl,rfl⟩
    refine ⟨_,_,rfl,rfl,hW.cell 8 _ rfl,hW.free 8,h1.cell 12 _ rfl,h1.free 12,?_⟩
    rw [e1]
    exact bF.made (r:=⟨{ s with flag:=false },{ c with over:=false,fresh:=true,walks:=c.walks+1 },c.eF 0,none⟩) h2 (hk.trans (qX (k1.trans k2))) (IY (c:=c) h2.sh.fC q.C 0 (h2.cell 2 _ rfl))
   have hw1:IntKind.i64.wrap ((c.walks:Int)+1)=(c.walks:Int)+1:=IntWalk.i64_in _ (by omega)
   generalize aC s c .over=R at *
   generalize ({ c with over:=false }:CS)=c' at *
   generalize ({ s with flag:=false }:Sh)=s' at *
   generalize c.walks=wk at *
   generalize c.fresh=fr at *
   generalize s.flag=fl at *
   generalize c.over=ov at *
   clear h hcl e1 hw
   rcases hcl2 with rfl|⟨rfl,rfl⟩
   all_goals
    go_enter func260,ntmps260
    go_wp2_with fail
    refine Fb.out.mono ?_
    rintro e w1 ⟨rfl,h1,k1⟩
    obtain ⟨y9,hk9⟩:=HK.out w1 h1 k1
    have I7:=au hk9
    clear h1 k1 hk9 HK Fb y0 s3
    go_wp2_with fail
    refine I7.out.mono ?_
    rintro e w2 ⟨rfl,h2,k2⟩
    obtain ⟨W1,W2,hW1,hW2,z8,f8,z12,f12,hwk⟩:=HW.out w2 h2 k2
    have Y2:=au hwk
    rw [hW1] at z12 f12
    have HW1:=au hW1
    have HW2:=au hW2
    clear h2 k2 HW I7 y9 hwk hW1 hW2
    go_wp2_with fail
    rw [<- HW1.out,<- HW2.out]
    refine Y2.out.mono ?_
    rintro e w3 ⟨nv,rfl,hf,hp⟩
    have HP:=au hp
    clear hp Y2
    rcases hf with rfl|⟨fn2,first2,caps2,rfl⟩
    all_goals
     go_wp2_with fail
     go_ret
     exact ⟨_,rfl,by first|exact .inl rfl|exact .inr ⟨_,_,_,rfl⟩,HP.out⟩
end
section
variable {o o':Ow} {w w':World} {G:Geo} {q:CG} {s:Sh} {c:CS} {ev:Option Ev} {nv nv0:Value}
theorem Z5 (h:aP o w G q s c none nv0) (hq:s.Q.small):Calls ay 297 #[aj q.C] w (bF o w G q nv0 (aC s c .rests)):=by
 obtain ⟨W0,hW0⟩:∃ W',W'=w.alloc (.cells #[aB q.C] 30):=⟨_,rfl⟩
 have hk:Keep none_ w W0:=by rw [hW0];exact (Keep.refl _ _).alloc _
 have hb:aA W0 w.heap.size [aB q.C] 30:=by rw [hW0];exact aA.new w _ _
 have h0:=h.still hk
 have y0:=h0.c0
 have s2:=h0.sh.sC.2.2.1
 have z0:=hb.cell 0 (v := aj q.C) rfl
 have HR:=au (QT G.Q s.Q W0 h0.sh.queue hq)
 have hmf:=jc
 have o0:o w.heap.size=0:=h.sh.fC _ (Nat.le_refl _)
 have z1:=z0
 rw [hW0] at y0 s2 z0
 cases hr:s.Q.rests with
 | true =>
   rw [hr] at HR
   have HP:Hid (eG o w G q nv0 (aC s c .rests) (.returned (.func (.func 300) #[] #[aj w.heap.size])) W0):=by
    have e1:aC s c .rests=⟨s,c,.off,none⟩:=by simp only [aC,hr,if_true]
    rw [e1]
    exact eG.same (r:=⟨s,c,.off,none⟩) h0 ⟨[w.heap.size],rfl,_,_,rfl,o0,hb,rfl⟩ hk.aS
   have HW:=au hW0
   generalize aC s c .rests=R at *
   clear h hk hb h0 hW0 hr hq o0
   go_enter func297,ntmps297
   go_wp2_with fail
   rw [<- HW.out]
   refine HR.out.mono ?_
   rintro e w1 ⟨rfl,rfl⟩
   go_wp2_with fail
   go_ret
   exact ⟨_,rfl,.inr ⟨_,_,_,rfl⟩,HP.out⟩
 | false =>
   rw [hr] at HR
   have HP:Hid (eG o w G q nv0 (aC s c .rests) (.returned (bnd 292 q.C)) W0):=by
    have e1:aC s c .rests=⟨s,c,.sweep,none⟩:=by simp only [aC,hr];rfl
    rw [e1]
    exact eG.same (r:=⟨s,c,.sweep,none⟩) h0 rfl hk.aS
   have HW:=au hW0
   generalize aC s c .rests=R at *
   clear h hk hb h0 hW0 hr hq o0
   go_enter func297,ntmps297
   go_wp2_with fail
   rw [<- HW.out]
   refine HR.out.mono ?_
   rintro e w1 ⟨rfl,rfl⟩
   go_wp2_with fail
   go_ret
   exact ⟨_,rfl,.inr ⟨_,_,_,rfl⟩,HP.out⟩
theorem Vm (x:Qu):(x.any=none/\∀ k,k<4->x.rw k=[])\/∃ m y ys,m<4/\(∀ k,k<m->x.rw k=[])/\x.rw m=y::ys/\x.any=some (m,y.toNat):=by
 have f:∀ k,(match x.rw k with|[]=>(none:Option (Nat × Nat))|y::_=>some (k,y.toNat))=none↔x.rw k=[]:=fun k=>by cases x.rw k<;>simp
 have e:x.any=(List.range 4).findSome? fun k=>match x.rw k with|[]=>none|y::_=>some (k,y.toNat):=rfl
 have er:List.range 4=[0,1,2,3]:=rfl
 rw [er] at e
 cases h0:x.rw 0 with
 | cons y ys=>exact .inr ⟨0,y,ys,by decide,fun k hk=>absurd hk (Nat.not_lt_zero k),h0,by rw [e];simp [h0]⟩
 | nil =>
   cases h1:x.rw 1 with
   | cons y ys=>exact .inr ⟨1,y,ys,by decide,fun k hk=>(by have e:k=0:=(by omega);rw [e];exact h0),h1,by rw [e];simp [h0,h1]⟩
   | nil =>
     cases h2:x.rw 2 with
     | cons y ys=>exact .inr ⟨2,y,ys,by decide,fun k hk=>(by rcases (by omega:k=0\/k=1) with rfl|rfl<;>assumption),h2,by rw [e];simp [h0,h1,h2]⟩
     | nil =>
       cases h3:x.rw 3 with
       | cons y ys=>exact .inr ⟨3,y,ys,by decide,fun k hk=>(by rcases (by omega:k=0\/k=1\/k=2) with rfl|rfl|rfl<;>assumption),h3,by rw [e];simp [h0,h1,h2,h3]⟩
       | nil=>exact .inl ⟨by rw [e];simp [h0,h1,h2,h3],fun k hk=>by rcases (by omega:k=0\/k=1\/k=2\/k=3) with rfl|rfl|rfl|rfl<;>assumption⟩
theorem FZ {D0 col C:Nat} {sl:List Nat} {cv:Value} (hf:gX o w) (hc:iH o w D0 40 cv sl col):Calls ay 298 #[aj C,cv] w fun e w'=>∃ fn first caps,e = .returned (.func (.func fn) first caps)/\gJ o w' D0 C col (.block sl) (.func (.func fn) first caps)/\Keep none_ w w':=by
 have hn:=iq (o:=o) [([aB C],30),([cv],260)] w hf
 have HE:Hid (gJ o (bU w [([aB C],30),([cv],260)]) D0 C col (.block sl) (.func (.func 302) #[] #[aB (w.heap.size+1),aB w.heap.size])/\Keep none_ w (bU w [([aB C],30),([cv],260)])):=by
  obtain ⟨b0,b1,e,⟨o0,k0⟩,⟨o1,k1⟩⟩:=caps2 hn.1
  simp only [idxs,List.cons.injEq] at e
  obtain ⟨rfl,rfl,_⟩:=e
  exact ⟨⟨cv,hc.still hn.2,[w.heap.size+1,w.heap.size],rfl,_,_,rfl,o1,k1,_,_,rfl,o0,k0,rfl⟩,hn.2⟩
 have hmf:=jc
 have hcf:(cv = .pointer none)\/∃ C,cv=aB C:=by
  rcases hc with ⟨h,_⟩|⟨C,_,_,h,_⟩
  ·exact .inl h
  ·exact .inr ⟨C,h⟩
 clear hn hf hc
 rcases hcf with rfl|⟨C1,rfl⟩
 all_goals
  go_enter func298,ntmps298
  go_wp2_with fail
  go_ret
  exact ⟨_,_,_,rfl,HE.out.1,HE.out.2⟩
theorem Z7 (h:aP o w G q s c none nv0) (ho:s.Q.opn<=1000000000) (hq:l7 s) (jB:c.color<2):Calls ay 292 #[aj q.C] w (bF o w G q nv0 (aC s c .sweep)):=by
 have y0:=h.c0
 have s2:=h.sh.sC.2.2.1
 have hmf:=jc
 rcases Vm s.Q with ⟨ha,hn⟩|⟨m,x,xs,hm,hn,hx,ha⟩
 ·have e1:aC s c .sweep=⟨s,c,.rests,none⟩:=by simp only [aC,ha]
  have HA:=au (Uo G.Q s.Q w h.sh.queue hn)
  have HP:Hid (eG o w G q nv0 (aC s c .sweep) (.returned (bnd 297 q.C)) w):=by
   rw [e1]
   exact eG.same (r:=⟨s,c,.rests,none⟩) h rfl (Keep.refl _ _)
  generalize aC s c .sweep=R at *
  clear h e1 ha hn ho hq jB
  go_enter func292,ntmps292
  go_wp2_with fail
  refine HA.out.mono ?_
  rintro e w1 ⟨rfl,rfl⟩
  go_wp2_with fail
  go_ret
  exact ⟨_,rfl,.inr ⟨_,_,_,rfl⟩,HP.out⟩
 ·obtain ⟨hx0,hxK⟩:=hq m x (by rw [hx];exact List.mem_cons_self)
  obtain ⟨n,rfl⟩:∃ n:Nat,x=(n:Int):=⟨x.toNat,by omega⟩
  rw [Int.toNat_natCast] at hxK ha
  have e1:aC s c .sweep=⟨{ s with Q:=s.Q.take m },c,.block (s.H.slots n),none⟩:=by simp only [aC,ha]
  have HA:Hid (Calls ay 296 #[aj G.Q] w fun e w'=>e = .returned (.tuple #[ah (n:Int),ah (m:Int),ah 0])/\aP o w' G q { s with Q:=s.Q.take m } c none nv0/\Keep (In o aY) w w'):=by
   refine (Xi G.Q s.Q m (n:Int) xs w h.sh.queue hm hn hx ho).mono ?_
   rintro e w' ⟨rfl,g1,g2⟩
   obtain ⟨h1,k1⟩:=h.wM g2 g1
   exact ⟨rfl,h1,k1⟩
  have HN:Hid (∀ W,aP o W G q { s with Q:=s.Q.take m } c none nv0->Keep (In o aY) w W->(W.cell? ⟨q.C,0,none⟩=some (aj G.S)/\W.cell? ⟨q.C,5,none⟩=some (ah (c.color:Int))/\W.cell? ⟨G.S,0,none⟩=some (aj (G.D 0))) /\
   Calls ay 266 #[aj (G.D 0),ah (n:Int),ah (c.color:Int)] W.drew fun e w'=>∃ C,e = .returned (.tuple #[aj C,ah 0]) /\
    Hid (Calls ay 298 #[aj q.C,aj C] w' (bF o w G q nv0 (aC s c .sweep)))):=fun W hW hk=>by
   have kd:Keep none_ W W.drew:=(Keep.refl none_ W).drew
   refine ⟨⟨hW.c0,hW.cell 5 _ rfl,hW.sh.sC.1⟩,(XK (H:=s.H) (hW.still kd).sh.heap n c.color hxK jB).mono ?_⟩
   rintro e w2 ⟨V,gg,nn,cp,rfl,kV,hown,hnn,kV2,hb⟩
   have kWV:Keep none_ W V:=kd.trans kV
   have kW2:Keep none_ W w2:=kWV.trans kV2
   refine ⟨V.heap.size,rfl,?_⟩
   have hlt:V.heap.size<w2.heap.size:=hb.lt
   have hV0:=kWV.size
   have eo:aQ w o (o.put V.heap.size 40):=Ow.jU (.inl (by have:=hk.size;omega))
   have eoW:aQ W o (o.put V.heap.size 40):=Ow.jU (.inl (by omega))
   have eoV:aQ V o (o.put V.heap.size 40):=Ow.jU (.inl (Nat.le_refl _))
   have hf2:gX (o.put V.heap.size 40) w2:=Ow.nJ hW.sh.fC kW2.size hlt
   have hM2:=hW.xK kW2 eoW hf2
   have hrow:bC (o.put V.heap.size 40) w2 3 (.slice (some ⟨gg,0,none⟩) nn cp) (aG (s.H.slots n)):=((bC.tV hown (by omega) (fun b hb=>hW.sh.fC b (by have:=kd.size;omega))).ext eoV).still kV2
   have hcur:iH (o.put V.heap.size 40) w2 (G.D 0) 40 (aB V.heap.size) (s.H.slots n) c.color := .inr ⟨V.heap.size,n,_,rfl,Ow.lM _ _ _,hb,hrow⟩
   refine (FZ (C:=q.C) hf2 hcur).mono ?_
   rintro e w3 ⟨fn,first,caps,rfl,hcn,k3⟩
   refine ⟨_,rfl,.inr ⟨_,_,_,rfl⟩,o.put V.heap.size 40,_,rfl,eo,?_,?_,(hk.trans kW2.aS).trans k3.aS⟩
   ·rw [e1];exact hM2.still k3
   ·rw [e1];exact hcn
  clear e1
  generalize aC s c .sweep=R at *
  generalize c.color=col at *
  generalize ({ s with Q:=s.Q.take m }:Sh)=s' at *
  clear h ha hn hx hxK hx0 ho hq hm jB
  go_enter func292,ntmps292
  go_wp2_with fail
  refine HA.out.mono ?_
  rintro e w1 ⟨rfl,h1,k1⟩
  obtain ⟨⟨z0,z1,z2⟩,hnn⟩:=HN.out w1 h1 k1
  have Ah:=au hnn
  clear h1 k1 HN HA hnn y0 s2
  go_wp2_with fail
  refine aI 12 rfl (by kernel_rfl) (by kernel_rfl) (fun K hK=>?_)
  change wpStill _ _ (World.drew _) _ _ _
  simp only [List.take_succ_cons,List.take_zero,List.drop_succ_cons,List.drop_zero] at hK ⊢
  repeat still_step
  refine wpStill_nil ?_
  change ite _ (Oper.wp _ _ _ _ _ _) _
  go_simp
  refine Ah.out.mono ?_
  rintro e w2 ⟨C1,rfl,hb⟩
  refine hK _ _ ?_
  clear hK K
  have HB:=au hb.out
  clear hb Ah z0 z1 z2
  repeat still_step
  refine wpStill_nil ?_
  go_wp2_with fail
  refine HB.out.mono ?_
  rintro e w3 ⟨nv,rfl,hf,hp⟩
  have HP:=au hp
  clear hp HB
  rcases hf with rfl|⟨fn2,first2,caps2,rfl⟩
  all_goals
   go_wp2_with fail
   go_ret
   exact ⟨_,rfl,by first|exact .inl rfl|exact .inr ⟨_,_,_,rfl⟩,HP.out⟩
end
section
variable {o o':Ow} {w w':World} {G:Geo} {q:CG} {s:Sh} {c:CS} {ev:Option Ev} {nv nv0:Value}
theorem RZ {b:Nat} {xs:List Nat} (h:dS o w b 176 [] xs):Calls ay 259 #[aj b] w fun e w'=>e = .returned (.tuple #[ah (aW xs:Int),.bool (!xs.isEmpty)])/\dS o w' b 176 [] xs.tail/\Keep (only b) w w':=by
 have HT:Hid (Calls ay 246 #[aj b] w fun e w'=>e = .returned (.tuple #[ah (aW xs:Int),.bool (!xs.isEmpty)])/\dS o w' b 176 [] xs.tail/\Keep (only b) w w'):=by
  cases xs with
  | nil =>
    refine (FC h).mono ?_
    rintro e w' ⟨rfl,rfl⟩
    exact ⟨rfl,h,Keep.refl _ _⟩
  | cons x xs=>exact Dx x h
 generalize aW xs=hd at *
 generalize (!xs.isEmpty)=ok at *
 clear h
 go_enter func259,ntmps259
 go_wp2_with (go_at_call 246;refine HT.out.mono ?_;rintro e w1 ⟨rfl,h1,k1⟩;have HH:=au h1;have HK:=au k1;clear h1 k1)
 go_ret2
 exact ⟨rfl,HH.out,HK.out⟩
theorem Z8 {m:Nat} (hm:m<s.boxes.length):s.boxes[m]?=some (s.box m):=by
 unfold Sh.box
 rw [List.getD_eq_getElem?_getD,List.getElem?_eq_getElem hm]
 rfl
theorem ShAt.acL (h:ShAt o w G s) {m:Nat} (hm:m<s.boxes.length):∃ b off cp,w.cell? ⟨G.S,4,none⟩=some (.slice (some ⟨b,off,none⟩) s.boxes.length cp)/\w.cell? ⟨b,off+m,none⟩=some (aj (G.bx m)):=by
 obtain ⟨v,h1,h2⟩:=h.sh
 obtain ⟨a,cp,rfl,_,_,h3⟩:=h2.form
 simp only [List.length_map,List.length_range] at h1
 obtain ⟨b,off,rfl,h4⟩:=h3 m (aB (G.bx m)) (by simp [hm])
 exact ⟨b,off,cp,h1.cell 4 rfl,h4⟩
theorem acM (h:aP o w G q s c none nv0) (m:Nat) (hm:m<c.muts) (hmu:s.boxes.length=c.muts) (b0 b1:Nat) (o0:o b0=0) (o1:o b1=0) (k0:aA w b0 [aB q.C] 30) (k1:aA w b1 [ah (m:Int)] 3) :
 Calls ay 258 #[aj b0,aj b1] w (bF o w G q nv0 (aC s c (.box m))):=by
 have HC:Hid (∀ V,Keep (In o aY) w V->V.cell? ⟨b0,0,none⟩=some (aj q.C)/\V.cell? ⟨b1,0,none⟩=some (ah (m:Int))):=fun V hV =>
  ⟨(hV.blk k0 (bI o0 eY)).cell 0 rfl,(hV.blk k1 (bI o1 eY)).cell 0 rfl⟩
 have hkd:Keep none_ w w.drew:=(Keep.refl none_ w).drew
 have hd:=h.still hkd
 obtain ⟨y0,y1⟩:=HC.out w (Keep.refl _ _)
 have y3:=h.c0
 have hmb:m<s.boxes.length:=by omega
 obtain ⟨bb,off,cp,y4,y5⟩:=h.sh.acL hmb
 have hgb:=Z8 (s:=s) hmb
 have hbx:=(hd.sh.box m _ hgb).1
 have ny:Hid (Calls ay 259 #[aj (G.bx m)] w.drew fun e w'=>e = .returned (.tuple #[ah (aW (s.box m):Int),.bool (!(s.box m).isEmpty)])/\aP o w' G q { s with boxes:=s.boxes.set m (s.box m).tail } c none nv0/\Keep (In o aY) w w'):=by
  refine (RZ hbx).mono ?_
  rintro e w' ⟨rfl,g1,g2⟩
  obtain ⟨h1,k1⟩:=hd.LK hmb g2 g1
  exact ⟨rfl,h1,hkd.aS.trans k1⟩
 have hmf:=jc
 have adZ:(m:Int)<(s.boxes.length:Int):=by omega
 have Iw:(0:Int)<=(m:Int):=by omega
 have h8:=h.box8
 generalize hN:s.boxes.length=N at *
 cases hb:s.box m with
 | cons a l =>
   rw [hb] at ny
   have e1:aC s c (.box m)=⟨{ s with boxes:=s.boxes.set m l },c,cZ a (.box m),none⟩:=by simp only [aC,hb]
   simp only [aW,List.isEmpty_cons,Bool.not_false,List.tail_cons] at ny
   have sJ:Hid (∀ V,aP o V G q { s with boxes:=s.boxes.set m l } c none nv0/\Keep (In o aY) w V->Calls ay 243 #[aj q.C,ah (m:Int)] V fun e w'=>∃ nv,e = .returned nv/\bg o w' q.C (.box m) nv/\aP o w' G q { s with boxes:=s.boxes.set m l } c none nv0/\Keep (In o aY) w w'):=fun V hV=>by
    refine (Ep hV.1.sh.fC q.C m).mono ?_
    rintro e w' ⟨nv,rfl,g1,g2⟩
    exact ⟨nv,rfl,g1,hV.1.still g2,hV.2.trans g2.aS⟩
   have Fa:Hid (∀ V nv,bg o V q.C (.box m) nv/\aP o V G q { s with boxes:=s.boxes.set m l } c none nv0/\Keep (In o aY) w V->Calls ay 210 #[aj q.C,ah (a:Int),nv] V fun e w'=>bF o w G q nv0 (aC s c (.box m)) e w'/\Keep (In o aY) w w'):=fun V nv hV=>by
    rw [e1]
    exact bF.made2 hV.2.2 (r:=⟨{ s with boxes:=s.boxes.set m l },c,cZ a (.box m),none⟩) hV.2.1 hV.2.2 (AV hV.2.1.sh.fC q.C _ hV.1)
   have HDR:Hid (∀ V,aP o V G q { s with boxes:=s.boxes.set m l } c none nv0/\Keep (In o aY) w V->aP o V.drew G q { s with boxes:=s.boxes.set m l } c none nv0/\Keep (In o aY) w V.drew):=fun V hV=>⟨hV.1.still ((Keep.refl none_ V).drew),hV.2.trans ((Keep.refl _ V).drew)⟩
   clear e1
   generalize aC s c (.box m)=R at *
   generalize ({ s with boxes:=s.boxes.set m l }:Sh)=s' at *
   clear h hd hkd k0 k1 o0 o1 hbx hgb hb hm hmu hmb
   go_enter func258,ntmps258
   go_wp2_with fail
   refine aI 10 rfl (by kernel_rfl) (by kernel_rfl) (fun K hK=>?_)
   change wpStill _ _ (World.drew _) _ _ _
   simp only [List.take_succ_cons,List.take_zero,List.drop_succ_cons,List.drop_zero] at hK ⊢
   repeat still_step
   refine wpStill_nil ?_
   change ite _ (Oper.wp _ _ _ _ _ _) _
   go_simp
   refine ny.out.mono ?_
   rintro e w1 ⟨rfl,h1,k1⟩
   refine hK _ _ ?_
   clear hK K
   have aJ:=au (And.intro h1 k1)
   clear y0 y1 y3 y4 y5
   obtain ⟨y0,y1⟩:=HC.out w1 k1
   clear h1 k1 ny
   repeat still_step
   refine wpStill_nil ?_
   go_wp2_with fail
   go_region_held3 (fun W'=>W'.cell? ⟨b0,0,none⟩=some (aj q.C)/\W'.cell? ⟨b1,0,none⟩=some (ah (m:Int)))
    (first
     | exact ⟨y0,y1⟩
     | exact HC.out _ gy.out
     | exact HC.out _ HX.out.2.2
     | exact HC.out _ (HDR.out _ aJ.out).2
     | fail "ji")
    (first
     | (go_at_call 243
        refine (sJ.out _ (by first|exact HDR.out _ aJ.out|exact aJ.out)).mono ?_
        rintro e w2 ⟨nv,rfl,hx⟩
        have HX:=au hx
        clear hx)
     | (go_at_call 210
        refine (Fa.out _ _ HX.out).mono ?_
        rintro e w3 ⟨⟨nv3,rfl,hf3,hp3⟩,k3⟩
        have gy:=au k3
        have HP:=au hp3
        have wV:=au hf3
        clear hp3 hf3 k3)
     | fail "jZ")
   all_goals
    have hfm:=wV.out
    rcases hfm with rfl|⟨fn2,first2,caps2,rfl⟩
    all_goals
     go_wp2_with fail
     go_ret
     exact ⟨_,rfl,by first|exact .inl rfl|exact .inr ⟨_,_,_,rfl⟩,HP.out⟩
 | nil =>
   rw [hb] at ny
   have es:({ s with boxes:=s.boxes.set m [] }:Sh)=s:=by
    rw [hb] at hgb
    obtain ⟨hlt,he⟩:=List.getElem?_eq_some_iff.1 hgb
    have:s.boxes.set m []=s.boxes:=by rw [<- he];exact List.set_getElem_self hlt
    rw [this]
   simp only [aW,List.isEmpty_nil,Bool.not_true,List.tail_nil] at ny
   rw [es] at ny
   have hwi:IntKind.i64.wrap ((m:Int)+1)=(m:Int)+1:=IntWalk.i64_in _ (by omega)
   by_cases hlt:m+1<c.muts
   ·have e1:aC s c (.box m)=⟨s,c,.box (m+1),none⟩:=by simp only [aC,hb];rw [if_pos hlt]
    have d1:decide ((m:Int)+1<(c.muts:Int))=true:=decide_eq_true (by omega)
    have HA:Hid (∀ V,aP o V G q s c none nv0->Keep (In o aY) w V->V.cell? ⟨q.C,1,none⟩=some (ah (c.muts:Int))/\∀ n,Calls ay 243 #[aj q.C,ah ((m:Int)+1)] (V.drewN n) (bF o w G q nv0 (aC s c (.box m)))):=fun V hV hk=>by
     refine ⟨hV.cell 1 _ rfl,fun n=>?_⟩
     rw [e1]
     have kd:Keep none_ V (V.drewN n):=(Keep.refl none_ V).drewN n
     have g:=Ep (hV.still kd).sh.fC q.C (m+1)
     rw [show (((m+1:Nat)):Int)=(m:Int)+1 from by push_cast;rfl] at g
     exact bF.made (r:=⟨s,c,.box (m+1),none⟩) (hV.still kd) (hk.trans kd.aS) g
    clear e1
    generalize aC s c (.box m)=R at *
    generalize c.muts=mu at *
    clear h hd hkd k0 k1 o0 o1 hbx hgb hb hm hmu hmb hlt
    go_enter func258,ntmps258
    go_wp2_with fail
    refine aI 10 rfl (by kernel_rfl) (by kernel_rfl) (fun K hK=>?_)
    change wpStill _ _ (World.drew _) _ _ _
    simp only [List.take_succ_cons,List.take_zero,List.drop_succ_cons,List.drop_zero] at hK ⊢
    repeat still_step
    refine wpStill_nil ?_
    change ite _ (Oper.wp _ _ _ _ _ _) _
    go_simp
    refine ny.out.mono ?_
    rintro e w1 ⟨rfl,h1,k1⟩
    refine hK _ _ ?_
    clear hK K
    obtain ⟨y6,ha⟩:=HA.out w1 h1 k1
    have HA1:=au ha
    clear y0 y1 y3 y4 y5 ha HA
    obtain ⟨y0,y1⟩:=HC.out w1 k1
    clear h1 k1 ny
    repeat still_step
    refine wpStill_nil ?_
    go_wp2_with fail
    go_quiet (fail)
    go_wp2_with fail
    refine (HA1.out nq).mono ?_
    rintro e w3 ⟨nv,rfl,hf,hp⟩
    have HP:=au hp
    clear hp HA1
    rcases hf with rfl|⟨fn2,first2,caps2,rfl⟩
    all_goals
     go_wp2_with fail
     go_ret
     exact ⟨_,rfl,by first|exact .inl rfl|exact .inr ⟨_,_,_,rfl⟩,HP.out⟩
   ·have d1:decide ((m:Int)+1<(c.muts:Int))=false:=decide_eq_false (by omega)
    have HA:Hid (∀ V,aP o V G q s c none nv0->Keep (In o aY) w V->V.cell? ⟨q.C,1,none⟩=some (ah (c.muts:Int))/\∀ n,(V.drewN n).cell? ⟨q.C,9,none⟩=some (aj q.K)/\(V.drewN n).cell? ⟨b0,0,none⟩=some (aj q.C)/\Calls ay 255 #[aj q.K] (V.drewN n) fun e w'=>e = .returned (ah (c.stk.length:Int))/\w'.cell? ⟨b0,0,none⟩=some (aj q.C)/\eG o w G q nv0 (aC s c (.box m)) (.returned (if c.stk=[] then bnd 260 q.C else bnd 208 q.C)) w'):=fun V hV hk=>by
     refine ⟨hV.cell 1 _ rfl,fun n=>?_⟩
     have kd:Keep none_ V (V.drewN n):=(Keep.refl none_ V).drewN n
     have hk1:=hk.trans kd.aS
     have h1:=hV.still kd
     refine ⟨h1.FY,(HC.out _ hk1).1,(XZ h1).mono ?_⟩
     rintro e w' ⟨rfl,g1,g2⟩
     refine ⟨rfl,(HC.out _ (hk1.trans g2.aS)).1,?_⟩
     by_cases hs:c.stk=[]
     ·have e1:aC s c (.box m)=⟨s,c,.over,none⟩:=by simp only [aC,hb];rw [if_neg hlt,if_pos hs]
      rw [e1,if_pos hs]
      exact eG.same (r:=⟨s,c,.over,none⟩) g1 rfl (hk1.trans g2.aS)
     ·have e1:aC s c (.box m)=⟨s,c,.work,none⟩:=by simp only [aC,hb];rw [if_neg hlt,if_neg hs]
      rw [e1,if_neg hs]
      exact eG.same (r:=⟨s,c,.work,none⟩) g1 rfl (hk1.trans g2.aS)
    have d2:(c.stk=[]/\decide (0<c.stk.length)=false)\/(c.stk≠[]/\decide (0<c.stk.length)=true):=by
     by_cases hs:c.stk=[]
     ·exact .inl ⟨hs,by rw [hs];rfl⟩
     ·exact .inr ⟨hs,decide_eq_true (List.length_pos_iff.2 hs)⟩
    rcases d2 with ⟨hs,d2⟩|⟨hs,d2⟩
    ·rw [if_pos hs] at HA
     generalize c.stk.length=sl at *
     generalize aC s c (.box m)=R at *
     generalize c.muts=mu at *
     clear h hd hkd k0 k1 o0 o1 hbx hgb hb hm hmu hmb hlt hs
     go_enter func258,ntmps258
     go_wp2_with fail
     refine aI 10 rfl (by kernel_rfl) (by kernel_rfl) (fun K hK=>?_)
     change wpStill _ _ (World.drew _) _ _ _
     simp only [List.take_succ_cons,List.take_zero,List.drop_succ_cons,List.drop_zero] at hK ⊢
     repeat still_step
     refine wpStill_nil ?_
     change ite _ (Oper.wp _ _ _ _ _ _) _
     go_simp
     refine ny.out.mono ?_
     rintro e w1 ⟨rfl,h1,k1⟩
     refine hK _ _ ?_
     clear hK K
     obtain ⟨y6,ha⟩:=HA.out w1 h1 k1
     have HA1:=au ha
     clear y0 y1 y3 y4 y5 ha HA
     obtain ⟨y0,y1⟩:=HC.out w1 k1
     clear h1 k1 ny
     repeat still_step
     refine wpStill_nil ?_
     go_wp2_with fail
     go_quiet (fail)
     obtain ⟨z9,z0,hln⟩:=HA1.out nq
     have kP:=au hln
     clear hln HA1
     go_wp2_with fail
     refine kP.out.mono ?_
     rintro e w3 ⟨rfl,z1,hp⟩
     have HP:=au hp
     clear hp kP z9 z0 y0 y1 y6
     go_wp2_with fail
     go_ret
     exact ⟨_,rfl,.inr ⟨_,_,_,rfl⟩,HP.out⟩
    ·rw [if_neg hs] at HA
     generalize c.stk.length=sl at *
     generalize aC s c (.box m)=R at *
     generalize c.muts=mu at *
     clear h hd hkd k0 k1 o0 o1 hbx hgb hb hm hmu hmb hlt hs
     go_enter func258,ntmps258
     go_wp2_with fail
     refine aI 10 rfl (by kernel_rfl) (by kernel_rfl) (fun K hK=>?_)
     change wpStill _ _ (World.drew _) _ _ _
     simp only [List.take_succ_cons,List.take_zero,List.drop_succ_cons,List.drop_zero] at hK ⊢
     repeat still_step
     refine wpStill_nil ?_
     change ite _ (Oper.wp _ _ _ _ _ _) _
     go_simp
     refine ny.out.mono ?_
     rintro e w1 ⟨rfl,h1,k1⟩
     refine hK _ _ ?_
     clear hK K
     obtain ⟨y6,ha⟩:=HA.out w1 h1 k1
     have HA1:=au ha
     clear y0 y1 y3 y4 y5 ha HA
     obtain ⟨y0,y1⟩:=HC.out w1 k1
     clear h1 k1 ny
     repeat still_step
     refine wpStill_nil ?_
     go_wp2_with fail
     go_quiet (fail)
     obtain ⟨z9,z0,hln⟩:=HA1.out nq
     have kP:=au hln
     clear hln HA1
     go_wp2_with fail
     refine kP.out.mono ?_
     rintro e w3 ⟨rfl,z1,hp⟩
     have HP:=au hp
     clear hp kP z9 z0 y0 y1 y6
     go_wp2_with fail
     go_ret
     exact ⟨_,rfl,.inr ⟨_,_,_,rfl⟩,HP.out⟩
end
end
end Go.Proofs.YtanfphjoebobaaaGreatDoor
