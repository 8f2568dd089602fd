/- Parts of the walk. No conditions. -/
import Derived.Test.YtanfphjoebobaaaGreatDoorZzeaa
namespace Go.Proofs.YtanfphjoebobaaaGreatDoor
set_option maxHeartbeats 1000000
section
section
variable {p:CP} {x y:WS} {s s':Sh} {m m':MS} {i l l' ph sU hf:Nat} {H:HS}
theorem aap {s:Sh} {i:Nat} (h:s.boxes.length<=i):s.box i=[]:=by
 unfold Sh.box
 rw [List.getD_eq_getElem?_getD,List.getElem?_eq_none h];rfl
theorem MInv.marked (k:sS p hf) (h:MInv p x) (hd:x.coll.next = .marked):(∀ a,p.gZ a↔p.H.bn a=true/\x.s.H.co a=p.kb)/\(∀ i,i<p.mu->x.s.B.pend (i:Int)=false)/\x.coll.phase=5/\(∀ (i:Nat) (m:MS),x.muts[i]?=some m->m.buf=[]/\m.next = .nil)/\(∀ i,x.s.box i=[])/\x.coll.stk=[]/\x.s.flag=false/\x.coll.over=false:=by
 have hnw:∀ m u,x.coll.next ≠ .wait m u:=by rw [hd];intro m u e;cases e
 have hnb:=fun i hi=>h.nobody (i:=i) hnw hi
 have h5:x.coll.phase=5:=by have:=h.dD;rw [hd] at this;exact this
 have hbn:∀ (i:Nat) (m:MS),x.muts[i]?=some m->m.buf=[]/\m.next = .nil:=fun i m hm=>⟨(h.dK i m hm).buf5 h5 (hnb i (h.pG hm)),(h.dK i m hm).idle (hnb i (h.pG hm))⟩
 have hbx:∀ i,x.s.box i=[]:=fun i=>by
  rcases Nat.lt_or_ge i p.mu with g|g
  ·exact h.bx i (by rw [hd];exact g)
  ·exact aap (by rw [h.box];exact g)
 obtain ⟨m1,m2⟩:=h.mk0 hd
 have hst:=h.stk0 (by rw [hd];rfl)
 have hok:∀ v,p.gV x.s.H.co (lookOf x.coll.next) v->p.H.bn v=true->x.s.H.co v=p.kb:=fun v hv hb=>by
  rcases hv hb with g|g
  ·exact g
  ·rw [hd] at g
   have g':v=0:=g
   rw [g',k.bn0] at hb;cases hb
 have adI:∀ a,p.H.bn a=true->x.s.H.co a=p.kb->∀ j:Nat,j<(p.H.aV a).1->p.gV x.s.H.co (lookOf x.coll.next) (p.H.bY a (j:Int)):=by
  rcases h.clo with hw|hc
  ·rcases hw with hw|hw|⟨i,m,hm,hp⟩
   ·rw [m1] at hw;cases hw
   ·rw [m2] at hw;cases hw
   ·rw [(hbn i m hm).2] at hp;cases hp
  ·intro a ha hca
   rcases hc a ha hca with g|g|g
   ·rw [hst] at g;cases g
   ·rw [hd] at g;exact g.elim
   ·exact g
 refine ⟨fun a=>⟨fun hr=>?_,fun hr=>h.pK a hr.1 hr.2⟩,hnb,h5,hbn,hbx,hst,m1,m2⟩
 induction hr with
 | root hrt hb =>
   refine ⟨hb,?_⟩
   rcases hrt with ⟨j,hj,e⟩|⟨i,hi,hv⟩
   ·rw [e] at hb ⊢
    exact hok _ (h.iP (by omega) j (by rw [hd];exact hj)) hb
   ·obtain ⟨m,hm⟩:∃ m,x.muts[i]?=some m:=⟨x.muts[i]'(by rw [h.muts];exact hi),List.getElem?_eq_getElem _⟩
    have mi:=h.dK i m hm
    rcases mi.reg (by omega) (fun hh=>by omega) _ (by rw [mi.regs];exact hv) with g|g|g|g
    ·exact hok _ g hb
    ·rw [(hbn i m hm).1] at g;cases g
    ·rw [hbx i] at g;cases g
    ·rw [(hbn i m hm).2] at g;cases g
 | jg hra hj hb ih=>exact ⟨hb,hok _ (adI _ ih.1 ih.2 _ hj) hb⟩
theorem acR (H:HS) (a:Nat):(H.aV a).1<=15:=by
 unfold HS.aV
 split
 ·unfold HS.nf HS.hdr
  cases hh:yH (H.word a) with
  | none=>exact Nat.zero_le _
  | some cf =>
    obtain ⟨c,f⟩:=cf
    obtain ⟨⟨hc,hf⟩,_⟩:=zf hh
    show f<=15
    have:2^(c+1)<=2^4:=Nat.pow_le_pow_right (by decide) (by omega)
    omega
 ·exact Nat.zero_le _
theorem EG (H:HS) (B:Nat):(H.slots B).length<=H.ww/2:=by
 unfold HS.slots
 split
 ·exact Nat.zero_le _
 ·rename_i e
  have hl:∀ a b c:Nat,(kH a b c).length=a:=fun a b c=>by simp [kH]
  rw [hl]
  have h2:2<=2^H.K.getD B 0:=by
   have:2^1<=2^H.K.getD B 0:=Nat.pow_le_pow_right (by decide) (by omega)
   exact this
  exact Nat.div_le_div_left h2 (by decide)
theorem BP {B k a:Nat} (h:H.owner a=some (B,k)):B<H.b/\a∈H.slots B:=by
 obtain ⟨g1,g2,g3,g4,g5,g6⟩:=dV h
 have hw:0<H.ww:=by
  rcases Nat.eq_zero_or_pos H.ww with e|e
  ·rw [e] at g6;simp at g6
  ·exact e
 refine ⟨by rw [g3,Nat.div_lt_iff_lt_mul hw];omega,?_⟩
 unfold HS.slots
 rw [g4,if_neg (by omega)]
 unfold kH
 refine List.mem_map.2 ⟨(a - 1)%H.ww/2^(k+1),List.mem_range.2 g6,?_⟩
 have hm:=Nat.div_add_mod ((a - 1)%H.ww) (2^(k+1))
 rw [g5] at hm
 have hm2:=Nat.div_add_mod (a - 1) H.ww
 rw [<- g3] at hm2
 have c1:(a - 1)%H.ww/2^(k+1)*2^(k+1)=2^(k+1)*((a - 1)%H.ww/2^(k+1)):=Nat.mul_comm _ _
 have c2:B*H.ww=H.ww*B:=Nat.mul_comm _ _
 omega
theorem bZ.Gu (h:bZ p.H) (hb:p.bl=p.H.b):sS p (p.H.ww/2):=by
 refine ⟨fun a ha=>?_,fun a=>acR p.H a,fun a ha=>?_,fun B=>EG p.H B⟩
 ·obtain ⟨B,k,f,h1,_⟩:=h.born a ha
  obtain ⟨g1,g2,_⟩:=dV h1
  exact ⟨g1,by show a<p.H.b*p.H.ww+1;omega⟩
 ·obtain ⟨B,k,f,h1,_⟩:=h.born a ha
  obtain ⟨g1,g2⟩:=BP h1
  exact ⟨B,by rw [hb];exact g1,g2⟩
structure acS (H H':HS) (a:Nat):Prop where
 inv:bZ H'
 bn:∀ c,H'.bn c=if c=a then false else H.bn c
 co:H'.co=H.co
 K:H'.K=H.K
 b:H'.b=H.b
 ww:H'.ww=H.ww
 c:H'.c=H.c
 cells:H'.cells=H.cells
 jg:∀ d,H.bn d=true->d≠a->H'.aV d=H.aV d/\∀ j:Nat,H'.bY d (j:Int)=H.bY d (j:Int)
theorem bZ.free (h:bZ H) {a:Nat} (ha:H.bn a=true):acS H (H.fV a) a:=by
 obtain ⟨B,k,f,ho,hok,hw⟩:=h.born a ha
 have hin:H.inn a=false:=by
  rw [Bool.eq_false_iff]
  intro hi
  obtain ⟨q,hq,hm⟩:=h.inn.1 hi
  have:=(h.lW q hq a hm).1
  rw [ha] at this;cases this
 have hk4:k<4:=h.cls ho
 have hbk:(H.kill a).bn a=false:=by show upd H.bn a false a=false;unfold upd;rw [if_pos rfl]
 have e:H.fV a=(H.kill a).put a k:=by
  unfold HS.fV
  rw [if_pos ha]
  unfold HS.fK
  have ho':(H.kill a).owner a=some (B,k):=ho
  rw [ho']
  have hin':(H.kill a).inn a=false:=hin
  simp only
  rw [hbk,hin',if_neg (by decide)]
 have hinv:bZ ((H.kill a).put a k):=(h.kill a).put (B:=B) ho hbk hin
 rw [e]
 have hal:a<=H.A.length:=by rw [h.nI];exact (dV ho).2.1
 have hwd:∀ d,d≠a->((H.kill a).put a k).word d=H.word d:=fun d hd=>by
  show pY (H.A.set (a - 1) _) d=pY H.A d
  rw [zi (dV ho).1 hal,if_neg hd]
 have hbn:∀ c,((H.kill a).put a k).bn c=if c=a then false else H.bn c:=fun c=>rfl
 refine ⟨hinv,hbn,rfl,rfl,rfl,rfl,rfl,rfl,fun d hd hda=>?_⟩
 have hd':((H.kill a).put a k).bn d=true:=by rw [hbn,if_neg hda];exact hd
 have hd0:d≠0:=by
  obtain ⟨_,_,_,h1,_⟩:=h.born d hd
  have:=(dV h1).1
  omega
 have hO:H.lq d=0:=by
  unfold HS.lq HS.xB
  rw [if_neg hd0,hd,Bool.true_or,if_pos rfl]
 have hO':((H.kill a).put a k).lq d=0:=by
  unfold HS.lq HS.xB
  rw [if_neg hd0,hd',Bool.true_or,if_pos rfl]
 have hnf:((H.kill a).put a k).nf d=H.nf d:=by
  unfold HS.nf HS.hdr
  rw [hwd d hda]
 refine ⟨by unfold HS.aV;rw [if_pos hO,if_pos hO',hnf],fun j=>?_⟩
 have hle:((H.kill a).put a k).jk d (j:Int)=H.jk d (j:Int):=by
  unfold HS.jk
  rw [if_pos hO,if_pos hO',hnf]
 unfold HS.bY
 rw [hle]
 by_cases hz:H.jk d (j:Int)=0
 ·rw [if_pos hz,if_pos hz]
  refine hwd _ ?_
  have hj:j<H.nf d:=by
   unfold HS.jk at hz
   rw [if_pos hO] at hz
   split at hz
   ·cases hz
   ·omega
  have hio:H.xB d=true:=by unfold HS.xB;rw [hd,Bool.true_or]
  have:=(h.field hio hj).1
  intro e2
  rw [show d+1+(j:Int).toNat=d+1+j from rfl] at e2
  rw [e2,ho] at this
  cases this
 ·rw [if_neg hz,if_neg hz]
end
structure SM (p:CP) (s:Sh) (i:Nat) (m:MS):Prop where
 id:m.id=i
 prog:m.prog.length<=m.res.length
 regs:m.regs=p.regs i
 lg:1<=m.c.l.toNat
 want:m.want=p.κ
 color:m.color=p.κ
 buf:m.buf=[]
 nx:m.next = .nil\/(m.next = .once 7/\s.B.pend (i:Int)=true)
 kind:s.B.pend (i:Int)=true->s.B.kind=7
def CP.BQ (p:CP) (ph:Nat):CD->Prop
 | .enqueue b=>ph=6/\b<p.bl
 | .sweep=>ph=6
 | .block _=>ph=6
 | .rests=>ph=6
 | .off=>ph=6
 | .wait m t=>ph=7/\m<p.mu/\t = .idle
 | .idle=>ph=7
 | _=>False
def uG:CD->Bool
 | .block _=>true
 | _=>false
def CZ:CD->Bool
 | .rests=>true
 | .off=>true
 | .wait _ _=>true
 | .idle=>true
 | _=>false
def CP.TB (p:CP) (q:Qu) (d:CD) (a:Nat):Prop :=
 (∃ b B k,d = .enqueue b/\p.H.owner a=some (B,k)/\b<=B)\/(∃ B k j,p.H.owner a=some (B,k)/\j<4/\(B:Int)∈q.rw j)\/∃ sl,d = .block sl/\a∈sl
structure jW (p:CP) (x:WS) (dead:List Nat):Prop where
 k2:p.κ<2
 mu8:1<=p.mu/\p.mu<=8
 muts:x.muts.length=p.mu
 cmu:x.coll.muts=p.mu
 box:x.s.boxes.length=p.mu
 col:x.coll.color=p.κ
 mg:x.coll.blocks=p.bl
 nT:x.coll.cells=p.ce
 hbl:p.bl=p.H.b
 inv:bZ x.s.H
 bn:∀ a,x.s.H.bn a=true↔p.H.bn a=true/\a∉dead
 co:∀ a,p.H.bn a=true->(x.s.H.co a=p.kb↔p.gZ a)
 nd:dead.Nodup
 dd:∀ a∈dead,p.H.bn a=true/\¬ p.gZ a
 geo:x.s.H.K=p.H.K/\x.s.H.b=p.H.b/\x.s.H.ww=p.H.ww/\x.s.H.c=p.H.c/\x.s.H.cells=p.H.cells
 jg:∀ a,p.gZ a->x.s.H.aV a=p.H.aV a/\∀ j:Nat,x.s.H.bY a (j:Int)=p.H.bY a (j:Int)
 bd:BI p.mu x.s.B
 dK:∀ i m,x.muts[i]?=some m->SM p x.s i m
 wt:∀ i,i<p.mu->x.s.B.pend (i:Int)=true->∃ m t,x.coll.next = .wait m t/\m<=i
 nC:∀ i,x.s.box i=[]
 stk:x.coll.stk=[]
 fl:x.s.flag=false/\x.coll.over=false
 ql:x.s.Q.rows.length=4
 qn:∀ k,∀ b∈x.s.Q.rw k,∃ B:Nat,b=(B:Int)
 opn:x.s.Q.opn=if uG x.coll.next then 1 else 0
 qe:CZ x.coll.next=true->∀ k,x.s.Q.rw k=[]
 dD:p.BQ x.coll.phase x.coll.next
 rest:∀ a,x.s.H.bn a=true->¬ p.gZ a->p.TB x.s.Q x.coll.next a
section
variable {p:CP} {x y:WS} {s s':Sh} {m m':MS} {i l l' ph sU hf:Nat} {H:HS} {dead:List Nat}
theorem jW.congr (h:jW p x dead) (hs:y.s=x.s) (hm:y.muts=x.muts) (hc:y.coll=x.coll):jW p y dead:=by
 obtain ⟨a,b,c,d,e⟩:=x
 obtain ⟨a',b',c',d',e'⟩:=y
 cases hs;cases hm;cases hc
 exact ⟨h.k2,h.mu8,h.muts,h.cmu,h.box,h.col,h.mg,h.nT,h.hbl,h.inv,h.bn,h.co,h.nd,h.dd,h.geo,h.jg,h.bd,h.dK,h.wt,h.nC,h.stk,h.fl,h.ql,h.qn,h.opn,h.qe,h.dD,h.rest⟩
theorem jW.pG (h:jW p x dead) (hm:x.muts[i]?=some m):i<p.mu:=by rw [<- h.muts];exact (List.getElem?_eq_some_iff.1 hm).1
theorem yG (h:jW p x dead) (hm:x.muts[i]?=some m):∃ s' m',bG x.s m=(s',m',none)/\jW p { x with s:=s',muts:=x.muts.set i m' } dead/\s'.H=x.s.H/\s'.Q=x.s.Q/\s'.boxes=x.s.boxes/\m'.buf=[]/\s'.flag=x.s.flag/\(∀ j:Nat,j≠i->s'.B.pend (j:Int)=x.s.B.pend (j:Int)) /\
 (if x.s.B.pend (i:Int) then (m.next = .nil/\m'.next = .once 7/\s'.B.pend (i:Int)=true)\/(m.next = .once 7/\m'.next = .nil/\s'.B.pend (i:Int)=false) else m'.next = .nil/\m.next = .nil/\s'.B.pend (i:Int)=false):=by
 have sm:=h.dK i m hm
 have uQ:=h.pG hm
 have hlt:=(List.getElem?_eq_some_iff.1 hm).1
 have key:∀ (s':Sh) (m':MS),s'.H=x.s.H->s'.Q=x.s.Q->s'.boxes=x.s.boxes->s'.flag=x.s.flag->BI p.mu s'.B->(∀ j:Nat,j≠i->s'.B.pend (j:Int)=x.s.B.pend (j:Int))->(s'.B.pend (i:Int)=true->x.s.B.pend (i:Int)=true)->s'.B.kind=x.s.B.kind->SM p s' i m'->jW p { x with s:=s',muts:=x.muts.set i m' } dead:=fun s' m' e1 e2 e3 e4 hb hpo hpi hk hsm=>by
  have hbox:∀ j,s'.box j=x.s.box j:=fun j=>by unfold Sh.box;rw [e3]
  refine ⟨h.k2,h.mu8,by show (x.muts.set i m').length=_;rw [List.length_set];exact h.muts,h.cmu,by show s'.boxes.length=_;rw [e3];exact h.box,h.col,h.mg,h.nT,h.hbl,by show bZ s'.H;rw [e1];exact h.inv,fun a=>by show s'.H.bn a=true↔_;rw [e1];exact h.bn a,fun a ha=>by show s'.H.co a=_↔_;rw [e1];exact h.co a ha,h.nd,h.dd,by show s'.H.K=_/\s'.H.b=_/\s'.H.ww=_/\s'.H.c=_/\s'.H.cells=_;rw [e1];exact h.geo,
   fun a ha=>by show s'.H.aV a=_/\∀ j:Nat,s'.H.bY a (j:Int)=_;rw [e1];exact h.jg a ha,hb,fun j mj hj=>?_,fun j hj hp=>?_,fun j=>(hbox j).trans (h.nC j),h.stk,⟨e4.trans h.fl.1,h.fl.2⟩,by show s'.Q.rows.length=4;rw [e2];exact h.ql,fun k b hb=>h.qn k b (by rw [<- e2];exact hb),by show s'.Q.opn=_;rw [e2];exact h.opn,fun hr k=>by show s'.Q.rw k=[];rw [e2];exact h.qe hr k,h.dD,fun a ha hn=>by show p.TB s'.Q _ a;rw [e2];exact h.rest a (by rw [<- e1];exact ha) hn⟩
  ·have hj':(x.muts.set i m')[j]?=some mj:=hj
   by_cases e:j=i
   ·subst e
    rw [List.getElem?_set_self hlt] at hj'
    cases hj'
    exact hsm
   ·rw [List.getElem?_set_ne (fun e'=>e e'.symm)] at hj'
    have g:=h.dK j mj hj'
    exact ⟨g.id,g.prog,g.regs,g.lg,g.want,g.color,g.buf,g.nx.imp (fun h=>h) (fun hh=>⟨hh.1,by rw [hpo j e];exact hh.2⟩),fun hp=>by show s'.B.kind=7;rw [hk];exact g.kind (by rw [<- hpo j e];exact hp)⟩
  ·by_cases e:j=i
   ·subst e;exact h.wt j hj (hpi hp)
   ·exact h.wt j hj (by rw [<- hpo j e];exact hp)
 by_cases hn:isNil m.next=true
 ·have hnx:m.next = .nil:=by
   cases hd:m.next<;>rw [hd] at hn<;>first|rfl|cases hn
  have hpk:bG x.s m=(x.s,{ m with spent:=1,ans:=x.s.B.pend (m.id:Int),next:=dA x.s m },none):=by
   unfold bG
   rw [if_pos hn]
  by_cases hp:x.s.B.pend (i:Int)=true
  ·have hb:dA x.s m = .once 7:=by
    unfold dA
    rw [sm.id,hp,if_pos rfl,sm.kind hp,if_neg (by decide),if_neg (by decide)]
   rw [hb] at hpk
   refine ⟨_,_,hpk,key _ _ rfl rfl rfl rfl h.bd (fun _ _=>rfl) (fun h=>h) rfl ⟨sm.id,sm.prog,sm.regs,sm.lg,sm.want,sm.color,sm.buf,.inr ⟨rfl,hp⟩,sm.kind⟩,rfl,rfl,rfl,sm.buf,rfl,fun _ _=>rfl,?_⟩
   rw [if_pos hp];exact .inl ⟨hnx,rfl,hp⟩
  ·have hp0:x.s.B.pend (i:Int)=false:=by simpa using hp
   have hb:dA x.s m = .nil:=by
    unfold dA
    rw [sm.id,hp0,if_neg (by decide),List.getElem?_eq_none sm.prog]
   rw [hb] at hpk
   refine ⟨_,_,hpk,key _ _ rfl rfl rfl rfl h.bd (fun _ _=>rfl) (fun h=>h) rfl ⟨sm.id,sm.prog,sm.regs,sm.lg,sm.want,sm.color,sm.buf,.inl rfl,sm.kind⟩,rfl,rfl,rfl,sm.buf,rfl,fun _ _=>rfl,?_⟩
   rw [if_neg hp];exact ⟨rfl,hnx,hp0⟩
 ·rcases sm.nx with e|⟨e,hp⟩
  ·rw [e] at hn;exact absurd rfl hn
  ·obtain ⟨b1,b2,b3⟩:=h.bd.ans i
   obtain ⟨M,hM,hM2⟩:∃ M:MS,bG x.s m=({ x.s with B:=x.s.B.iT (m.id:Int) },M,none)/\(M.id=m.id/\M.prog=m.prog/\M.res=m.res/\M.regs=m.regs/\M.c=m.c/\M.want=m.want/\M.color=m.color/\M.buf=[]/\M.next = .nil):=by
    refine ⟨MS.most { m with buf:=[],mode:=0,spent:=m.spent+1,next := .nil },?_,?_⟩
    ·unfold bG
     rw [if_neg hn]
     have hst:∀ d,d=MD.once 7->(let r:=stepM x.s { m with spent:=m.spent+1 } d
      (r.s,if isNil r.next then { r.m with next := .nil }.most else { r.m with next:=r.next },r.ev))=(({ x.s with B:=x.s.B.iT (m.id:Int) }:Sh),MS.most { m with buf:=[],mode:=0,spent:=m.spent+1,next := .nil },(none:Option Ev)):=fun d e=>by
      rw [e];rfl
     exact hst m.next e
    ·unfold MS.most
     split<;>exact ⟨rfl,rfl,rfl,rfl,rfl,rfl,rfl,rfl,rfl⟩
   obtain ⟨e1,e2,e3,e4,e5,e6,e7,e8,e9⟩:=hM2
   have hpi:(x.s.B.iT (m.id:Int)).pend (i:Int)=false:=by rw [sm.id,b2 i,if_pos rfl]
   have hpo:∀ j:Nat,j≠i->(x.s.B.iT (m.id:Int)).pend (j:Int)=x.s.B.pend (j:Int):=fun j hj=>by rw [sm.id,b2 j,if_neg hj]
   refine ⟨_,_,hM,key _ _ rfl rfl rfl rfl (by rw [sm.id];exact b1) hpo (fun hh=>?_) (by show (x.s.B.iT (m.id:Int)).kind=_;rw [sm.id];exact b3) ⟨e1.trans sm.id,by rw [e2,e3];exact sm.prog,e4.trans sm.regs,by rw [e5];exact sm.lg,e6.trans sm.want,e7.trans sm.color,e8,.inl e9,fun hh=>?_⟩,rfl,rfl,rfl,e8,rfl,hpo,?_⟩
   ·have hh':(x.s.B.iT (m.id:Int)).pend (i:Int)=true:=hh
    rw [hpi] at hh';cases hh'
   ·have hh':(x.s.B.iT (m.id:Int)).pend (i:Int)=true:=hh
    rw [hpi] at hh';cases hh'
   ·rw [if_pos hp]
    exact .inr ⟨e,e9,hpi⟩
theorem MInv.toSweep (hI:bZ p.H) (hb:p.bl=p.H.b) (h:MInv p x) (hd:x.coll.next = .marked):jW p (stepW x .marked) []/\(aC x.s x.coll .marked).ev=some (x.coll.ev 3 x.coll.cycles):=by
 have k:=hI.Gu hb
 obtain ⟨m1,m2,m3,m4,m5,m6,m7,m8⟩:=h.marked k hd
 obtain ⟨f,hH⟩:=h.heap
 have hq:=h.q
 have DR:bZ x.s.H:=by
  rw [hH]
  exact ⟨hI.nI,hI.nle,hI.k4,hI.small,hI.lu,hI.chain,hI.nodup,hI.lW,hI.born,hI.slot,hI.cval,hI.zero⟩
 have hbn:∀ a,x.s.H.bn a=p.H.bn a:=fun a=>by rw [hH]
 refine ⟨?_,rfl⟩
 unfold stepW
 simp only [aC]
 have hnx:∀ d:CD,d=CS.iU { x.coll with phase:=6 } 0->uG d=false/\CZ d=false/\p.BQ 6 d/\(∀ a,p.H.bn a=true->∃ b B k,d = .enqueue b/\p.H.owner a=some (B,k)/\b<=B):=fun d e=>by
  rw [e]
  unfold CS.iU
  have hbl:=h.mg
  split
  ·rename_i e0
   have e0':0=x.coll.blocks:=e0
   refine ⟨rfl,rfl,rfl,fun a ha=>?_⟩
   obtain ⟨B,g1,_⟩:=k.ahead a ha
   omega
  ·rename_i e0
   have e0':¬ 0=x.coll.blocks:=e0
   refine ⟨rfl,rfl,⟨rfl,by omega⟩,fun a ha=>?_⟩
   obtain ⟨B,k',f',g1,_⟩:=hI.born a ha
   exact ⟨0,B,k',rfl,g1,Nat.zero_le _⟩
 obtain ⟨n1,n2,n3,n4⟩:=hnx _ rfl
 refine ⟨h.k2,h.mu8,h.muts,h.cmu,h.box,h.col,h.mg,h.nT,hb,DR,fun a=>?_,fun a ha=>?_,List.nodup_nil,(fun a ha=>by cases ha),(by rw [hH];exact ⟨rfl,rfl,rfl,rfl,rfl⟩),fun a _=>?_,h.bd,fun i m hm=>?_,fun i hi hp=>?_,m5,m6,⟨m7,m8⟩,hq.2.2,fun kk b hb=>?_,?_,fun hr=>?_,n3,fun a ha hn => .inl (n4 a (by rw [<- hbn a];exact ha))⟩
 ·show x.s.H.bn a=true↔_
  rw [hbn a];simp
 ·constructor
  ·intro hc;exact (m1 a).2 ⟨ha,hc⟩
  ·intro hr;exact ((m1 a).1 hr).2
 ·show x.s.H.aV a=_/\∀ j:Nat,x.s.H.bY a (j:Int)=_
  rw [hH];exact ⟨rfl,fun _=>rfl⟩
 ·have mi:=h.dK i m hm
  have hi:=h.pG hm
  have hp:=m2 i hi
  refine ⟨mi.id,mi.prog,mi.regs,mi.lg,mi.want.resolve_left (fun hh=>by rw [hp] at hh;cases hh.2),?_,(m4 i m hm).1,.inl (m4 i m hm).2,fun hh=>?_⟩
  ·have hc:=mi.color
   rw [m3,if_neg (by omega)] at hc
   exact hc
  ·have hh':x.s.B.pend (i:Int)=true:=hh
   rw [hp] at hh';cases hh'
 ·have hh':x.s.B.pend (i:Int)=true:=hp
  rw [m2 i hi] at hh';cases hh'
 ·have hb':b∈x.s.Q.rw kk:=hb
  rw [hq.1 kk] at hb';cases hb'
 ·have n1':uG (x.coll.iU 0)=false:=n1
  show x.s.Q.opn=if uG (x.coll.iU 0) then 1 else 0
  rw [n1'];exact hq.2.1
 ·have hr':CZ (x.coll.iU 0)=true:=hr
  have n2':CZ (x.coll.iU 0)=false:=n2
  rw [n2'] at hr';cases hr'
end
section
variable {p:CP} {x y:WS} {s s':Sh} {m m':MS} {i l l' ph sU hf:Nat} {H:HS} {dead:List Nat} {q:Qu}
theorem any_none (h:q.any=none):∀ k,k<4->q.rw k=[]:=fun k hk=>by
 unfold Qu.any at h
 have:=List.findSome?_eq_none_iff.1 h k (List.mem_range.2 hk)
 cases e:q.rw k with
 | nil=>rfl
 | cons a r=>rw [e] at this;cases this
theorem any_some {k b:Nat} (h:q.any=some (k,b)):k<4/\∃ a r,q.rw k=a::r/\b=a.toNat:=by
 unfold Qu.any at h
 obtain ⟨j,hj,e⟩:=List.exists_of_findSome?_eq_some h
 have hj4:=List.mem_range.1 hj
 cases e2:q.rw j with
 | nil=>rw [e2] at e;cases e
 | cons a r =>
   rw [e2] at e
   simp only [Option.some.injEq,Prod.mk.injEq] at e
   obtain ⟨rfl,rfl⟩:=e
   exact ⟨hj4,a,r,e2,rfl⟩
theorem abO (hl:q.rows.length=4) {k:Nat} (hk:4<=k):q.rw k=[]:=by
 unfold Qu.rw
 rw [List.getD_eq_getElem?_getD,List.getElem?_eq_none (by omega)];rfl
theorem BR (hl:q.rows.length=4) {k:Nat} (hk:k<4) (b:Int) (j:Nat):(q.put (k:Int) b).rw j=if j=k then q.rw k++[b] else q.rw j:=by
 unfold Qu.put Qu.rw Qu.row
 simp only [Int.toNat_natCast]
 rw [List.getD_eq_getElem?_getD]
 by_cases e:j=k
 ·subst e
  rw [List.getElem?_set_self (by omega),if_pos rfl];rfl
 ·rw [List.getElem?_set_ne (fun h=>e h.symm),if_neg e,<- List.getD_eq_getElem?_getD]
theorem take_at (hl:q.rows.length=4) {k:Nat} (hk:k<4) (j:Nat):(q.take (k:Int)).rw j=if j=k then (q.rw k).drop 1 else q.rw j:=by
 unfold Qu.take Qu.rw Qu.row
 simp only [Int.toNat_natCast]
 rw [List.getD_eq_getElem?_getD]
 by_cases e:j=k
 ·subst e
  rw [List.getElem?_set_self (by omega),if_pos rfl];rfl
 ·rw [List.getElem?_set_ne (fun h=>e h.symm),if_neg e,<- List.getD_eq_getElem?_getD]
theorem jW.nobody (h:jW p x dead) (hn:∀ m t,x.coll.next ≠ .wait m t) {i:Nat} (hi:i<p.mu):x.s.B.pend (i:Int)=false:=by
 cases hp:x.s.B.pend (i:Int)
 ·rfl
 ·obtain ⟨m,t,e,_⟩:=h.wt i hi hp
  exact absurd e (hn m t)
theorem jW.go (h:jW p x dead) (hn:∀ m t,x.coll.next ≠ .wait m t) {q':Qu} {d':CD} (ql:q'.rows.length=4) (qn:∀ k,∀ b∈q'.rw k,∃ B:Nat,b=(B:Int)) (opn:q'.opn=if uG d' then 1 else 0) (qe:CZ d'=true->∀ k,q'.rw k=[]) (dD:p.BQ x.coll.phase d')
 (rest:∀ a,x.s.H.bn a=true->¬ p.gZ a->p.TB q' d' a):jW p { x with s:={ x.s with Q:=q' },coll:={ x.coll with next:=d' } } dead :=
 ⟨h.k2,h.mu8,h.muts,h.cmu,h.box,h.col,h.mg,h.nT,h.hbl,h.inv,h.bn,h.co,h.nd,h.dd,h.geo,h.jg,h.bd,fun i m hm=>(by
  have g:=h.dK i m hm
  exact ⟨g.id,g.prog,g.regs,g.lg,g.want,g.color,g.buf,g.nx,g.kind⟩),fun i hi hp=>(by
  have hp':x.s.B.pend (i:Int)=true:=hp
  rw [h.nobody hn hi] at hp';cases hp'),h.nC,h.stk,h.fl,ql,qn,opn,qe,dD,rest⟩
theorem Pn (h:jW p x dead) (d:CD) (hd:x.coll.next=d) (hne:d ≠ .idle):∃ iW,jW p (stepW x d) iW /\
 (((aC x.s x.coll d).ev=none/\iW=dead)\/∃ a,(aC x.s x.coll d).ev=some (x.coll.ev 5 a)/\iW=dead++[a]/\(stepW x d).s.H.bn a=false):=by
 have hk2:=h.k2
 have hmu:=h.mu8
 have dD:=h.dD;have opn:=h.opn;have qe:=h.qe;have rest:=h.rest
 rw [hd] at dD opn qe rest
 have oh:=h.ql
 have hown:∀ a,x.s.H.owner a=p.H.owner a:=fun a=>by
  unfold HS.owner
  rw [h.geo.1,h.geo.2.1,h.geo.2.2.1]
 have jB:=h.col
 cases d with
 | enqueue b =>
   obtain ⟨h6,hb⟩:=dD
   have hnw:∀ m u,x.coll.next ≠ .wait m u:=by rw [hd];intro m u e;cases e
   have hnx:uG (x.coll.iU (b+1))=false/\CZ (x.coll.iU (b+1))=false/\p.BQ x.coll.phase (x.coll.iU (b+1))/\∀ B,b+1<=B->B<p.bl->∃ b',x.coll.iU (b+1) = .enqueue b'/\b'<=B:=by
    have hbl:=h.mg
    unfold CS.iU
    split
    ·refine ⟨rfl,rfl,h6,fun B h1 h2=>?_⟩
     omega
    ·exact ⟨rfl,rfl,⟨h6,by omega⟩,fun B h1 h2=>⟨b+1,rfl,h1⟩⟩
   obtain ⟨n1,n2,n3,n4⟩:=hnx
   have hlt:∀ a B k,p.H.owner a=some (B,k)->B<p.bl:=fun a B k ho=>by rw [h.hbl];exact (BP ho).1
   by_cases hK:x.s.H.K.getD b 0=0
   ·refine ⟨dead,?_,.inl ⟨rfl,rfl⟩⟩
    have e:stepW x (.enqueue b)={ x with s:={ x.s with Q:=x.s.Q },coll:={ x.coll with next:=x.coll.iU (b+1) } }:=by
     unfold stepW
     simp only [aC]
     rw [if_pos hK]
    rw [e]
    refine h.go hnw oh h.qn (by rw [n1];exact opn) (fun hr=>by rw [n2] at hr;cases hr) n3 (fun a ha hr=>?_)
    rcases rest a ha hr with ⟨b0,B,k,e1,e2,e3⟩|g|⟨sl,e1,_⟩
    ·cases e1
     have hbB:B≠b:=by
      intro e0
      have:=(dV e2).2.2.2.1
      rw [e0,<- h.geo.1,hK] at this;omega
     obtain ⟨b',g1,g2⟩:=n4 B (by omega) (hlt a B k e2)
     exact .inl ⟨b',B,k,g1,e2,g2⟩
    ·exact .inr (.inl g)
    ·cases e1
   ·have hk4:x.s.H.K.getD b 0<=4:=by
     rcases Nat.lt_or_ge b x.s.H.K.length with g|g
     ·rw [List.getD_eq_getElem?_getD,List.getElem?_eq_getElem g]
      exact h.inv.k4 _ (List.getElem_mem g)
     ·rw [List.getD_eq_getElem?_getD,List.getElem?_eq_none g];exact Nat.zero_le _
    obtain ⟨c,hc,hc4⟩:∃ c:Nat,x.s.H.K.getD b 0=c+1/\c<4:=⟨x.s.H.K.getD b 0 - 1,by omega,by omega⟩
    have hput:=BR oh hc4 (b:Int)
    refine ⟨dead,?_,.inl ⟨rfl,rfl⟩⟩
    have e:stepW x (.enqueue b)={ x with s:={ x.s with Q:=x.s.Q.put (c:Int) (b:Int) },coll:={ x.coll with next:=x.coll.iU (b+1) } }:=by
     unfold stepW
     simp only [aC]
     rw [if_neg hK,hc]
     have:((c+1:Nat):Int) - 1=(c:Int):=by omega
     rw [this]
    rw [e]
    refine h.go hnw (by show (x.s.Q.rows.set _ _).length=4;rw [List.length_set];exact oh) (fun k b' hb'=>?_) (by rw [n1];exact opn) (fun hr=>by rw [n2] at hr;cases hr) n3 (fun a ha hr=>?_)
    ·rw [hput k] at hb'
     split at hb'
     ·rcases List.mem_append.1 hb' with g|g
      ·exact h.qn c b' g
      ·exact ⟨b,List.mem_singleton.1 g⟩
     ·exact h.qn k b' hb'
    ·rcases rest a ha hr with ⟨b0,B,k,e1,e2,e3⟩|⟨B,k,j,e1,e2,e3⟩|⟨sl,e1,_⟩
     ·cases e1
      by_cases hbB:B=b
      ·refine .inr (.inl ⟨B,k,c,e2,hc4,?_⟩)
       rw [hput c,if_pos rfl,hbB]
       exact List.mem_append_right _ (List.mem_singleton.2 rfl)
      ·obtain ⟨b',g1,g2⟩:=n4 B (by omega) (hlt a B k e2)
       exact .inl ⟨b',B,k,g1,e2,g2⟩
     ·refine .inr (.inl ⟨B,k,j,e1,e2,?_⟩)
      rw [hput j]
      split
      ·rename_i e;rw [e] at e3;exact List.mem_append_left _ e3
      ·exact e3
     ·cases e1
 | sweep =>
   have h6:x.coll.phase=6:=dD
   have hnw:∀ m u,x.coll.next ≠ .wait m u:=by rw [hd];intro m u e;cases e
   cases hq:x.s.Q.any with
   | none =>
     have hno:=any_none hq
     refine ⟨dead,?_,.inl ⟨by simp only [aC];rw [hq],rfl⟩⟩
     have e:stepW x .sweep={ x with s:={ x.s with Q:=x.s.Q },coll:={ x.coll with next := .rests } }:=by
      unfold stepW
      simp only [aC]
      rw [hq]
     rw [e]
     refine h.go hnw oh h.qn opn (fun _ k=>?_) h6 (fun a ha hr=>?_)
     ·rcases Nat.lt_or_ge k 4 with g|g
      ·exact hno k g
      ·exact abO oh g
     ·rcases rest a ha hr with ⟨b0,B,k,e1,e2,e3⟩|⟨B,k,j,e1,e2,e3⟩|⟨sl,e1,_⟩
      ·cases e1
      ·rw [hno j e2] at e3;cases e3
      ·cases e1
   | some kb =>
     obtain ⟨kk,b⟩:=kb
     obtain ⟨hk4,z,r,hr1,hr2⟩:=any_some hq
     have htk:=take_at oh hk4
     obtain ⟨Bz,hBz⟩:=h.qn kk z (by rw [hr1];exact List.mem_cons_self)
     have hb:b=Bz:=by rw [hr2,hBz];exact Int.toNat_natCast Bz
     refine ⟨dead,?_,.inl ⟨by simp only [aC];rw [hq],rfl⟩⟩
     have e:stepW x .sweep={ x with s:={ x.s with Q:=x.s.Q.take (kk:Int) },coll:={ x.coll with next := .block (x.s.H.slots b) } }:=by
      unfold stepW
      simp only [aC]
      rw [hq]
     rw [e]
     refine h.go hnw (by show (x.s.Q.rows.set _ _).length=4;rw [List.length_set];exact oh) (fun k b' hb'=>?_) ?_ (fun hr=>by cases hr) h6 (fun a ha hr=>?_)
     ·rw [htk k] at hb'
      split at hb'
      ·exact h.qn kk b' (List.mem_of_mem_drop hb')
      ·exact h.qn k b' hb'
     ·show x.s.Q.opn+1=1
      have:x.s.Q.opn=0:=opn
      omega
     ·rcases rest a ha hr with ⟨b0,B,k,e1,e2,e3⟩|⟨B,k,j,e1,e2,e3⟩|⟨sl,e1,_⟩
      ·cases e1
      ·by_cases hbB:B=b
       ·refine .inr (.inr ⟨_,rfl,?_⟩)
        have ho:x.s.H.owner a=some (B,k):=by rw [hown];exact e1
        rw [<- hbB]
        exact (BP ho).2
       ·refine .inr (.inl ⟨B,k,j,e1,e2,?_⟩)
        rw [htk j]
        split
        ·rename_i ej
         rw [ej,hr1] at e3
         rw [hr1]
         rcases List.mem_cons.1 e3 with g|g
         ·exfalso;rw [hBz] at g;exact hbB (by omega)
         ·exact g
        ·exact e3
      ·cases e1
 | block sl =>
   have h6:x.coll.phase=6:=dD
   have hnw:∀ m u,x.coll.next ≠ .wait m u:=by rw [hd];intro m u e;cases e
   have hop:x.s.Q.opn=1:=opn
   cases sl with
   | nil =>
     refine ⟨dead,?_,.inl ⟨rfl,rfl⟩⟩
     show jW p { x with s:={ x.s with Q:=x.s.Q.qh },coll:={ x.coll with next := .sweep } } dead
     refine h.go hnw oh h.qn (by show x.s.Q.opn - 1=0;omega) (fun hr=>by cases hr) h6 (fun a ha hr=>?_)
     rcases rest a ha hr with ⟨b0,B,k,e1,e2,e3⟩|g|⟨sl,e1,e2⟩
     ·cases e1
     ·exact .inr (.inl g)
     ·cases e1;cases e2
   | cons a r =>
     have hce:x.s.H.bn a=true->p.H.bn a=true/\a∉dead:=(h.bn a).1
     have hcc:(x.s.H.dW a==x.coll.color)=true↔x.s.H.co a=p.kb:=by
      rw [jB]
      exact zM (p:={ p with H:=x.s.H }) hk2 (f:=x.s.H.co) a
     by_cases hc:(!x.s.H.bn a||x.s.H.dW a==x.coll.color)=true
     ·refine ⟨dead,?_,.inl ⟨by simp only [aC];rw [if_pos hc],rfl⟩⟩
      have e:stepW x (.block (a::r))={ x with s:={ x.s with Q:=x.s.Q },coll:={ x.coll with next := .block r } }:=by
       unfold stepW
       simp only [aC]
       rw [if_pos hc]
      rw [e]
      refine h.go hnw oh h.qn opn (fun hr=>by cases hr) h6 (fun a' ha hr=>?_)
      rcases rest a' ha hr with ⟨b0,B,k,e1,e2,e3⟩|g|⟨sl,e1,e2⟩
      ·cases e1
      ·exact .inr (.inl g)
      ·cases e1
       rcases List.mem_cons.1 e2 with g|g
       ·exfalso
        rw [g] at ha hr
        rw [ha,Bool.not_true,Bool.false_or] at hc
        exact hr ((h.co a (hce ha).1).1 (hcc.1 hc))
       ·exact .inr (.inr ⟨r,rfl,g⟩)
     ·have hc':x.s.H.bn a=true/\¬ x.s.H.co a=p.kb:=by
       simp only [Bool.or_eq_true,Bool.not_eq_true',not_or] at hc
       exact ⟨by simpa using hc.1,fun h2=>hc.2 (hcc.2 h2)⟩
      obtain ⟨hba,hna⟩:=hc'
      obtain ⟨hpa,hda⟩:=hce hba
      have hra:¬ p.gZ a:=fun hr=>hna ((h.co a hpa).2 hr)
      have fr:=h.inv.free hba
      refine ⟨dead++[a],?_,.inr ⟨a,by simp only [aC];rw [if_neg hc],rfl,?_⟩⟩
      ·have e:stepW x (.block (a::r))={ x with s:={ x.s with H:=x.s.H.fV a },coll:={ x.coll with next := .block r } }:=by
        unfold stepW
        simp only [aC]
        rw [if_neg hc]
       rw [e]
       refine ⟨h.k2,h.mu8,h.muts,h.cmu,h.box,h.col,h.mg,h.nT,h.hbl,fr.inv,fun c=>?_,fun c hcp=>?_,?_,fun c hcd=>?_,?_,fun c hcr=>?_,h.bd,fun i m hm=>?_,fun i hi hp=>?_,h.nC,h.stk,h.fl,oh,h.qn,opn,fun hr=>?_,h6,fun c hcb hcr=>?_⟩
       ·show (x.s.H.fV a).bn c=true↔_
        rw [fr.bn]
        by_cases e:c=a
        ·rw [if_pos e,e];simp
        ·rw [if_neg e,h.bn c];simp [e]
       ·show (x.s.H.fV a).co c=_↔_
        rw [fr.co];exact h.co c hcp
       ·rw [List.nodup_append]
        refine ⟨h.nd,by simp,fun u hu v hv=>?_⟩
        rw [List.mem_singleton.1 hv]
        intro e;rw [e] at hu;exact hda hu
       ·rcases List.mem_append.1 hcd with g|g
        ·exact h.dd c g
        ·rw [List.mem_singleton.1 g];exact ⟨hpa,hra⟩
       ·show (x.s.H.fV a).K=_/\(x.s.H.fV a).b=_/\(x.s.H.fV a).ww=_/\(x.s.H.fV a).c=_/\(x.s.H.fV a).cells=_
        rw [fr.K,fr.b,fr.ww,fr.c,fr.cells];exact h.geo
       ·have hcb:x.s.H.bn c=true:=(h.bn c).2 ⟨hcr.bn,fun hd=>(h.dd c hd).2 hcr⟩
        have hca:c≠a:=fun e=>hra (by rw [<- e];exact hcr)
        obtain ⟨f1,f2⟩:=fr.jg c hcb hca
        obtain ⟨f3,f4⟩:=h.jg c hcr
        exact ⟨f1.trans f3,fun j=>(f2 j).trans (f4 j)⟩
       ·have g:=h.dK i m hm
        exact ⟨g.id,g.prog,g.regs,g.lg,g.want,g.color,g.buf,g.nx,g.kind⟩
       ·have hp':x.s.B.pend (i:Int)=true:=hp
        rw [h.nobody hnw hi] at hp';cases hp'
       ·cases hr
       ·have hcb':(x.s.H.fV a).bn c=true:=hcb
        rw [fr.bn] at hcb'
        split at hcb'
        ·cases hcb'
        ·rename_i hca
         rcases rest c hcb' hcr with ⟨b0,B,k,e1,e2,e3⟩|g|⟨sl,e1,e2⟩
         ·cases e1
         ·exact .inr (.inl g)
         ·cases e1
          rcases List.mem_cons.1 e2 with g|g
          ·exact absurd g hca
          ·exact .inr (.inr ⟨r,rfl,g⟩)
      ·show (stepW x (.block (a::r))).s.H.bn a=false
       unfold stepW
       simp only [aC]
       rw [if_neg hc]
       show (x.s.H.fV a).bn a=false
       rw [fr.bn,if_pos rfl]
 | rests =>
   have h6:x.coll.phase=6:=dD
   have hnw:∀ m u,x.coll.next ≠ .wait m u:=by rw [hd];intro m u e;cases e
   have hop:x.s.Q.opn=0:=opn
   have hqe:∀ k,x.s.Q.rw k=[]:=qe rfl
   have hrs:x.s.Q.rests=true:=by
    unfold Qu.rests Qu.sum Qu.sum Qu.sum Qu.sum Qu.sum
    have h0:=hqe 0;have h1:=hqe 1;have h2:=hqe 2;have h3:=hqe 3
    unfold Qu.rw at h0 h1 h2 h3
    rw [h0,h1,h2,h3,hop];rfl
   refine ⟨dead,?_,.inl ⟨rfl,rfl⟩⟩
   have e:stepW x .rests={ x with s:={ x.s with Q:=x.s.Q },coll:={ x.coll with next := .off } }:=by
    unfold stepW
    simp only [aC]
    rw [hrs];rfl
   rw [e]
   refine h.go hnw oh h.qn opn (fun _=>hqe) h6 (fun a ha hr=>?_)
   rcases rest a ha hr with ⟨b0,B,k,e1,e2,e3⟩|⟨B,k,j,e1,e2,e3⟩|⟨sl,e1,e2⟩
   ·cases e1
   ·rw [hqe j] at e3;cases e3
   ·cases e1
 | off =>
   have h6:x.coll.phase=6:=dD
   have hnw:∀ m u,x.coll.next ≠ .wait m u:=by rw [hd];intro m u e;cases e
   have hop:x.s.Q.opn=0:=opn
   have hqe:∀ k,x.s.Q.rw k=[]:=qe rfl
   obtain ⟨b1,b2,b3⟩:=h.bd.ask (fun i hi=>h.nobody hnw hi) 7
   refine ⟨dead,?_,.inl ⟨rfl,rfl⟩⟩
   show jW p { x with s:=x.s.ask 7,coll:={ x.coll with phase:=7,next := .wait 0 .idle } } dead
   refine ⟨h.k2,h.mu8,h.muts,h.cmu,h.box,h.col,h.mg,h.nT,h.hbl,h.inv,h.bn,h.co,h.nd,h.dd,h.geo,h.jg,b1,fun i m hm=>?_,fun i hi hp=>⟨0,.idle,rfl,Nat.zero_le _⟩,h.nC,h.stk,h.fl,oh,h.qn,hop,fun _=>hqe,⟨rfl,by omega,rfl⟩,fun a ha hr=>?_⟩
   ·have g:=h.dK i m hm
    have hi:=h.pG hm
    refine ⟨g.id,g.prog,g.regs,g.lg,g.want,g.color,g.buf,.inl (g.nx.resolve_right (fun hh=>?_)),fun _=>b3⟩
    rw [h.nobody hnw hi] at hh;cases hh.2
   ·rcases rest a ha hr with ⟨b0,B,k,e1,e2,e3⟩|⟨B,k,j,e1,e2,e3⟩|⟨sl,e1,e2⟩
    ·cases e1
    ·rw [hqe j] at e3;cases e3
    ·cases e1
 | wait mm t =>
   obtain ⟨h7,hm,rfl⟩:=dD
   have hop:x.s.Q.opn=0:=opn
   have hqe:∀ k,x.s.Q.rw k=[]:=qe rfl
   have wY:=yV h.bd hm
   have hno:∀ a,x.s.H.bn a=true->¬ p.gZ a->False:=fun a ha hr=>by
    rcases rest a ha hr with ⟨b0,B,k,e1,e2,e3⟩|⟨B,k,j,e1,e2,e3⟩|⟨sl,e1,e2⟩
    ·cases e1
    ·rw [hqe j] at e3;cases e3
    ·cases e1
   have key:∀ d':CD,(∀ i,i<p.mu->x.s.B.pend (i:Int)=true->∃ m t,d' = .wait m t/\m<=i)->p.BQ x.coll.phase d'->uG d'=false->jW p { x with coll:={ x.coll with next:=d' } } dead:=fun d' g1 g2 g3 =>
    ⟨h.k2,h.mu8,h.muts,h.cmu,h.box,h.col,h.mg,h.nT,h.hbl,h.inv,h.bn,h.co,h.nd,h.dd,h.geo,h.jg,h.bd,h.dK,g1,h.nC,h.stk,h.fl,oh,h.qn,by show x.s.Q.opn=if uG d' then 1 else 0;rw [g3];exact hop,fun _=>hqe,g2,fun a ha hr=>(hno a ha hr).elim⟩
   have hwt:∀ i,i<p.mu->x.s.B.pend (i:Int)=true->mm<=i:=fun i hi hp=>by
    obtain ⟨m',t',e,hle⟩:=h.wt i hi hp
    rw [hd] at e;cases e;exact hle
   have hcm:=h.cmu
   refine ⟨dead,?_,.inl ⟨rfl,rfl⟩⟩
   unfold stepW
   simp only [aC]
   by_cases hp:x.s.B.pend (mm:Int)=true
   ·rw [wY,hp,if_pos (by decide)]
    exact key (.wait mm .idle) (fun i hi hp=>⟨mm,.idle,rfl,hwt i hi hp⟩) ⟨h7,hm,rfl⟩ rfl
   ·have hp0:x.s.B.pend (mm:Int)=false:=by simpa using hp
    rw [wY,hp0,if_neg (by decide)]
    have hwt2:∀ i,i<p.mu->x.s.B.pend (i:Int)=true->mm+1<=i:=fun i hi hq=>by
     have:=hwt i hi hq
     rcases Nat.lt_or_ge mm i with g|g
     ·exact g
     ·have:i=mm:=by omega
      subst this
      rw [hp0] at hq;cases hq
    by_cases hl:mm+1<x.coll.muts
    ·rw [if_pos hl]
     exact key (.wait (mm+1) .idle) (fun i hi hp=>⟨mm+1,.idle,rfl,hwt2 i hi hp⟩) ⟨h7,by omega,rfl⟩ rfl
    ·rw [if_neg hl]
     refine key .idle (fun i hi hp=>?_) h7 rfl
     have:=hwt2 i hi hp;omega
 | idle=>exact absurd rfl hne
 | _=>exact dD.elim
end
structure IM (κ:Nat) (i:Nat) (m:MS):Prop where
 id:m.id=i
 prog:m.prog.length<=m.res.length
 lg:1<=m.c.l.toNat
 color:m.color=κ
 buf:m.buf=[]
 nx:m.next = .nil
structure oN (mu bl ce κ:Nat) (x:WS):Prop where
 k2:κ<2
 mu8:1<=mu/\mu<=8
 muts:x.muts.length=mu
 cmu:x.coll.muts=mu
 box:x.s.boxes.length=mu
 col:x.coll.color=κ
 mg:x.coll.blocks=bl
 nT:x.coll.cells=ce
 hb:bl=x.s.H.b
 inv:bZ x.s.H
 all:∀ a,x.s.H.bn a=true->x.s.H.co a=(κ==1)
 bd:BI mu x.s.B
 Zg:∀ i,i<mu->x.s.B.pend (i:Int)=false
 dK:∀ i m,x.muts[i]?=some m->IM κ i m
 nC:∀ i,x.s.box i=[]
 stk:x.coll.stk=[]
 fl:x.s.flag=false/\x.coll.over=false
 q:(∀ k,x.s.Q.rw k=[])/\x.s.Q.opn=0/\x.s.Q.rows.length=4
 ph:x.coll.phase=0
 nx:x.coll.next = .nil
def dR (mu bl ce κ:Nat) (x:WS):CP:=⟨x.s.H,1 - κ,mu,bl,ce,0,fun i=>((x.muts[i]?).map MS.regs).getD []⟩
def jy (x:WS):WS:={ x with s:=(gY x.s x.coll).s,coll:={ (gY x.s x.coll).c with next:=(gY x.s x.coll).next } }
section
variable {p:CP} {x y:WS} {s s':Sh} {m m':MS} {i l l' ph sU hf mu bl ce κ:Nat} {H:HS} {dead:List Nat} {q:Qu}
theorem oN.congr (h:oN mu bl ce κ x) (hs:y.s=x.s) (hm:y.muts=x.muts) (hc:y.coll.muts=x.coll.muts/\y.coll.color=x.coll.color/\y.coll.blocks=x.coll.blocks/\y.coll.cells=x.coll.cells/\y.coll.stk=x.coll.stk/\y.coll.over=x.coll.over/\y.coll.phase=x.coll.phase/\y.coll.next=x.coll.next):oN mu bl ce κ y:=by
 obtain ⟨e1,e2,e3,e4,e5,e6,e7,e8⟩:=hc
 exact ⟨h.k2,h.mu8,by rw [hm];exact h.muts,e1.trans h.cmu,by rw [hs];exact h.box,e2.trans h.col,e3.trans h.mg,e4.trans h.nT,by rw [hs];exact h.hb,by rw [hs];exact h.inv,by rw [hs];exact h.all,by rw [hs];exact h.bd,by rw [hs];exact h.Zg,by rw [hm];exact h.dK,by rw [hs];exact h.nC,e5.trans h.stk,by rw [hs,e6];exact h.fl,by rw [hs];exact h.q,e7.trans h.ph,e8.trans h.nx⟩
theorem oN.start (h:oN mu bl ce κ x):MInv (dR mu bl ce κ x) (jy x)/\(dR mu bl ce κ x).ru (jy x).coll.next/\(gY x.s x.coll).ev=some (x.coll.ev 2 (x.coll.cycles+1))/\bZ (dR mu bl ce κ x).H/\(dR mu bl ce κ x).bl=(dR mu bl ce κ x).H.b:=by
 obtain ⟨b1,b2,b3⟩:=h.bd.ask h.Zg 1
 have hk2:=h.k2
 have hmu:=h.mu8
 have hnp:∀ a,x.s.H.bn a=true->¬ x.s.H.co a=(1 - κ==1):=fun a ha hc=>by
  rw [h.all a ha] at hc
  rcases (by omega:κ=0\/κ=1) with e|e<;>rw [e] at hc<;>cases hc
 refine ⟨⟨by show 1 - κ<2;omega,h.mu8,⟨x.s.H.co,rfl⟩,h.muts,h.cmu,h.box,by show 1 - x.coll.color=1 - κ;rw [h.col],h.mg,h.nT,b1,fun i m hm=>?_,fun i hi hp=>⟨0,.arm,rfl,Nat.zero_le _⟩,⟨Nat.le_refl 1,by show 1<=5;omega⟩,⟨by show 0<mu;omega,.inl ⟨rfl,rfl⟩⟩,trivial,fun a ha=>?_,fun i v hv=>?_,fun a ha hc=>absurd hc (hnp a ha),trivial,(fun h4=>by exact absurd h4 (by show ¬ 4<=1;omega)),.inr fun a ha hc=>absurd hc (hnp a ha),fun j hj=>absurd hj (Nat.not_lt_zero _),(fun hh=>by cases hh),(fun hh=>by cases hh),h.q⟩,trivial,rfl,h.inv,h.hb⟩
 ·have g:=h.dK i m hm
  have hi:i<mu:=by rw [<- h.muts];exact (List.getElem?_eq_some_iff.1 hm).1
  have hp:(jy x).s.B.pend (i:Int)=true:=(b2 i).trans (decide_eq_true hi)
  refine ⟨g.id,g.prog,?_,g.lg,.inl ⟨rfl,hp⟩,?_,fun _=>g.nx,fun _=>b3,fun hn=>absurd g.nx hn,by rw [g.nx];trivial,by rw [g.nx];trivial,fun v hv=>?_,(fun h3=>by exact absurd h3 (by show ¬ 3<=1;omega)),(fun h5=>by cases h5)⟩
  ·have hm':x.muts[i]?=some m:=hm
   show m.regs=((x.muts[i]?).map MS.regs).getD []
   rw [hm'];rfl
  ·rw [if_pos (.inl (by show 1<3;omega))]
   show m.color=1 - (1 - κ)
   rw [g.color];omega
  ·rw [g.buf] at hv;cases hv
 ·have ha':a∈x.coll.stk:=ha
  rw [h.stk] at ha';cases ha'
 ·have hv':v∈x.s.box i:=hv
  rw [h.nC] at hv';cases hv'
theorem jW.toIdle (h:jW p x dead) (hd:x.coll.next = .idle):oN p.mu p.bl p.ce p.κ (stepW x .idle)/\(aC x.s x.coll .idle).ev=some (x.coll.ev 4 x.coll.cycles)/\(∀ a,x.s.H.bn a=true↔p.gZ a):=by
 have hnw:∀ m u,x.coll.next ≠ .wait m u:=by rw [hd];intro m u e;cases e
 have opn:=h.opn;have qe:=h.qe;have rest:=h.rest
 rw [hd] at opn qe rest
 have hqe:∀ k,x.s.Q.rw k=[]:=qe rfl
 have hall:∀ a,x.s.H.bn a=true->p.gZ a:=fun a ha=>Classical.byContradiction fun hr=>by
  rcases rest a ha hr with ⟨b0,B,k,e1,e2,e3⟩|⟨B,k,j,e1,e2,e3⟩|⟨sl,e1,e2⟩
  ·cases e1
  ·rw [hqe j] at e3;cases e3
  ·cases e1
 refine ⟨⟨h.k2,h.mu8,h.muts,h.cmu,h.box,h.col,h.mg,h.nT,?_,h.inv,fun a ha=>?_,h.bd,fun i hi=>h.nobody hnw hi,fun i m hm=>?_,h.nC,h.stk,h.fl,⟨hqe,opn,h.ql⟩,rfl,rfl⟩,rfl,fun a=>⟨hall a,fun hr=>(h.bn a).2 ⟨hr.bn,fun hdd=>(h.dd a hdd).2 hr⟩⟩⟩
 ·show p.bl=x.s.H.b
  rw [h.geo.2.1];exact h.hbl
 ·have ha':x.s.H.bn a=true:=ha
  exact (h.co a ((h.bn a).1 ha').1).2 (hall a ha')
 ·have g:=h.dK i m hm
  refine ⟨g.id,g.prog,g.lg,g.color,g.buf,g.nx.resolve_right (fun hh=>?_)⟩
  rw [h.nobody hnw (h.pG hm)] at hh;cases hh.2
theorem oN.H9 (h:oN mu bl ce κ x) (hm:x.muts[i]?=some m):bG x.s m=(x.s,{ m with spent:=1,ans:=false },none)/\oN mu bl ce κ { x with muts:=x.muts.set i { m with spent:=1,ans:=false } }:=by
 have g:=h.dK i m hm
 have hlt:=(List.getElem?_eq_some_iff.1 hm).1
 have hi:i<mu:=by rw [<- h.muts];exact hlt
 have hp:=h.Zg i hi
 have hb:dA x.s m = .nil:=by
  unfold dA
  rw [g.id,hp,if_neg (by decide),List.getElem?_eq_none g.prog]
 have e:bG x.s m=(x.s,{ m with spent:=1,ans:=false },none):=by
  unfold bG
  rw [if_pos (by rw [g.nx];rfl),hb,g.id,hp,<- g.nx]
 refine ⟨e,h.k2,h.mu8,by show (x.muts.set i _).length=mu;rw [List.length_set];exact h.muts,h.cmu,h.box,h.col,h.mg,h.nT,h.hb,h.inv,h.all,h.bd,h.Zg,fun j mj hj=>?_,h.nC,h.stk,h.fl,h.q,h.ph,h.nx⟩
 have hj':(x.muts.set i { m with spent:=1,ans:=false })[j]?=some mj:=hj
 by_cases ej:j=i
 ·subst ej
  rw [List.getElem?_set_self hlt] at hj'
  cases hj'
  exact ⟨g.id,g.prog,g.lg,g.color,g.buf,g.nx⟩
 ·rw [List.getElem?_set_ne (fun e'=>ej e'.symm)] at hj'
  exact h.dK j mj hj'
inductive jD (p:CP):WS->List Nat->Prop
 | mark {x:WS}:MInv p x->p.ru x.coll.next->jD p x []
 | sweep {x:WS} {dead:List Nat}:jW p x dead->jD p x dead
theorem rC (x:WS) {i:Nat} {m:MS} (hm:x.muts[i]?=some m):(bP x i).s=(bG x.s m).1/\(bP x i).muts=x.muts.set i (bG x.s m).2.1/\(bP x i).coll=x.coll:=by
 unfold bP
 rw [hm]
 cases h:(bG x.s m).2.2<;>exact ⟨by simp only [h,WS.tell],by simp only [h,WS.tell],by simp only [h,WS.tell]⟩
theorem jD.congr (h:jD p x dead) (hs:y.s=x.s) (hm:y.muts=x.muts) (hc:y.coll=x.coll):jD p y dead:=by
 cases h with
 | mark h1 h2=>exact .mark (h1.congr hs hm hc) (by rw [hc];exact h2)
 | sweep h1=>exact .sweep (h1.congr hs hm hc)
theorem jD.H9 (hI:bZ p.H) (hb:p.bl=p.H.b) (h:jD p x dead) (hm:x.muts[i]?=some m):jD p (bP x i) dead/\(bG x.s m).2.2=none:=by
 obtain ⟨e1,e2,e3⟩:=rC x hm
 cases h with
 | mark h1 h2 =>
   obtain ⟨u,_,g⟩:=EF (hI.Gu hb) h1 hm
   refine ⟨?_,g⟩
   have:=h1.mu hm u
   exact .mark (this.congr e1 e2 e3) (by rw [e3];exact h2)
 | sweep h1 =>
   obtain ⟨s',m',g1,g2,_⟩:=yG h1 hm
   rw [g1] at e1 e2 ⊢
   exact ⟨.sweep (g2.congr e1 e2 e3),rfl⟩
inductive zS (p:CP) (x:WS) (dead:List Nat) (x':WS) (iW:List Nat) (ev:Option Ev):Prop
 | none:ev=none->iW=dead->jD p x' iW->zS p x dead x' iW ev
 | marked:ev=some (x.coll.ev 3 x.coll.cycles)->iW=[]->dead=[]->jD p x' iW->x.coll.next = .marked->x'.coll.phase=6->x'.coll.stk=[]->(∀ a,p.gZ a↔p.H.bn a=true/\x'.s.H.co a=p.kb)->x'.s.H.bn=p.H.bn->zS p x dead x' iW ev
 | freed {a:Nat}:ev=some (x.coll.ev 5 a)->iW=dead++[a]->jD p x' iW->jW p x dead->x'.s.H.bn a=false->zS p x dead x' iW ev
 | V4:ev=some (x.coll.ev 4 x.coll.cycles)->iW=dead->oN p.mu p.bl p.ce p.κ x'->jW p x dead->x.coll.next = .idle->x'=stepW x .idle->(∀ a,x'.s.H.bn a=true↔p.gZ a)->zS p x dead x' iW ev
theorem jD.step (hI:bZ p.H) (hb:p.bl=p.H.b) (h:jD p x dead) (d:CD) (hd:x.coll.next=d):∃ iW,zS p x dead (stepW x d) iW (aC x.s x.coll d).ev:=by
 cases h with
 | mark h1 h2 =>
   by_cases e:d = .marked
   ·subst e
    obtain ⟨g1,g2⟩:=h1.toSweep hI hb hd
    obtain ⟨m1,_,_,_,_,m6,_⟩:=h1.marked (hI.Gu hb) hd
    obtain ⟨f,hH⟩:=h1.heap
    exact ⟨[],.marked g2 rfl rfl (.sweep g1) hd rfl m6 m1 (by show x.s.H.bn=_;rw [hH])⟩
   ·obtain ⟨g1,g2,g3⟩:=vY (hI.Gu hb) h1 h2 d hd e
    exact ⟨[],.none g3 rfl (.mark g1 g2)⟩
 | sweep h1 =>
   by_cases e:d = .idle
   ·subst e
    obtain ⟨g1,g2,g3⟩:=h1.toIdle hd
    exact ⟨dead,.V4 g2 rfl g1 h1 hd rfl g3⟩
   ·obtain ⟨iW,g1,g2⟩:=Pn h1 d hd e
    rcases g2 with ⟨g2,rfl⟩|⟨a,g2,rfl,g3⟩
    ·exact ⟨_,.none g2 rfl (.sweep g1)⟩
    ·exact ⟨_,.freed g2 rfl (.sweep g1) h1 g3⟩
theorem jD.busy (h:jD p x dead):oJ x.coll.next=false:=by
 cases h with
 | mark h1 h2 =>
   have:=h1.dD
   cases e:x.coll.next with
   | nil=>rw [e] at this;exact this.elim
   | _=>rfl
 | sweep h1 =>
   have:=h1.dD
   cases e:x.coll.next with
   | nil=>rw [e] at this;exact this.elim
   | _=>rfl
theorem jD.Yo (hI:bZ p.H) (hb:p.bl=p.H.b) (h:jD p x dead):∃ iW,zS p x dead { x with s:=(bM x.s x.coll).s,coll:=(bM x.s x.coll).c } iW (bM x.s x.coll).ev:=by
 obtain ⟨iW,g⟩:=h.step hI hb x.coll.next rfl
 refine ⟨iW,?_⟩
 have e:bM x.s x.coll=⟨(aC x.s x.coll x.coll.next).s,{ (aC x.s x.coll x.coll.next).c with next:=(aC x.s x.coll x.coll.next).next },(aC x.s x.coll x.coll.next).next,(aC x.s x.coll x.coll.next).ev⟩:=by
  unfold bM
  rw [h.busy];rfl
 rw [e]
 exact g
end
def oW (f:Nat->Nat):Nat->Nat
 | 0=>0
 | n+1=>oW f n+f n
theorem zT {f g:Nat->Nat}:∀ {n:Nat},(∀ i,i<n->f i=g i)->oW f n=oW g n
 | 0,_=>rfl
 | n+1,h=>by show oW f n+f n=oW g n+g n;rw [zT (fun i hi=>h i (by omega)),h n (by omega)]
theorem Ia {f g:Nat->Nat}:∀ {n:Nat} (c:Nat),(∀ i,i<n->f i<=g i+c)->oW f n<=oW g n+n*c
 | 0,_,_=>by simp [oW]
 | n+1,c,h=>by
   have h1:=Ia (n:=n) c (fun i hi=>h i (by omega))
   have h2:=h n (by omega)
   show oW f n+f n<=oW g n+g n+(n+1)*c
   rw [Nat.add_mul,Nat.one_mul];omega
theorem EH {f g:Nat->Nat} {i:Nat}:∀ {n:Nat},i<n->(∀ j,j≠i->f j=g j)->oW g n+f i=oW f n+g i
 | 0,h,_=>absurd h (Nat.not_lt_zero _)
 | n+1,hi,h=>by
   show oW g n+g n+f i=oW f n+f n+g i
   by_cases e:i=n
   ·subst e
    rw [zT (f:=f) (g:=g) (fun j hj=>h j (by omega))];omega
   ·have:=EH (n:=n) (by omega) h
    rw [h n (fun e'=>e e'.symm)];omega
def CP.ak (p:CP) (R:Nat):Nat:=p.mu*(8*R+6)
def CP.rM (p:CP) (hf R:Nat):Nat:=1+p.bl*(hf+4)+(p.ak R+5)
def CP.dr (p:CP) (R:Nat):Nat:=p.ak R+p.mu+4
def CP.rW (p:CP) (hf R:Nat):Nat:=p.mu+3+p.rM hf R
def CP.wk (p:CP) (hf R:Nat):Nat:=p.dr R+p.bl*(34*hf+1)+p.mu+4
def CP.big (p:CP) (hf R:Nat):Nat:=34+p.wk hf R+p.dr R+p.mu+2
def CP.rT (p:CP) (hf R:Nat):Nat:=1+p.dr R+2*p.ce+p.rW hf R
def CP.rk (p:CP) (hf R:Nat):CD->Nat
 | .nil=>0
 | .idle=>1
 | .off=>p.ak R+3
 | .rests=>p.ak R+4
 | .sweep=>p.ak R+5
 | .enqueue b=>(p.bl - b)*(hf+4)+(p.ak R+5)
 | .block sl=>sl.length+1+(p.ak R+5)
 | .marked=>p.rM hf R
 | .drain=>1+p.rM hf R
 | .over=>2+p.rM hf R
 | .box m=>(p.mu - m)+2+p.rM hf R
 | .work=>p.rW hf R
 | .cell i=>2*(p.ce - i)+p.rW hf R
 | .trace=>p.rT hf R
 | .scan=>1+p.ak R+p.rT hf R
 | .arm=>2+p.ak R+p.ak R+p.rT hf R
 | .wait m t=>(p.mu - m)+CP.rk p hf R t
 | .look _ t=>1+CP.rk p hf R t
 | .object _ t=>32+CP.rk p hf R t
 | .field _ i n t=>2*(n - i)+1+CP.rk p hf R t
 | .walk b=>(p.bl - b)*(34*hf+1)+p.rW hf R
 | .slots l t=>34*l.length+CP.rk p hf R t
 | .empty t=>1+CP.rk p hf R t
def iY:CD->Bool
 | .box _=>true
 | .look _ t=>iY t
 | _=>false
def oZ (x:WS) (i:Nat):Nat:=match x.muts[i]? with
 | some m=>dO x.s i m+2*(x.s.box i).length
 | none=>0
def CP.T (p:CP) (x:WS):Nat:=oW (oZ x) p.mu
def qx (x:WS):Bool:=x.s.flag||x.coll.over||x.muts.any (fun m=>iL m.next)
def dB (x:WS):Bool:=x.coll.fresh||x.coll.phase==4
def nD (x:WS):Bool:=iY x.coll.next && !x.coll.stk.isEmpty
def Qu.qs (q:Qu):Nat:=(q.rw 0).length+(q.rw 1).length+(q.rw 2).length+(q.rw 3).length
def CP.phi (p:CP) (hf R:Nat) (x:WS):Nat :=
 p.T x+p.rk hf R x.coll.next+33*x.coll.stk.length+(if nD x then p.mu+1 else 0)+p.U x.s.H.co*p.big hf R+(if qx x then p.wk hf R else 0)+(if dB x then p.dr R else 0)+x.s.Q.qs*(hf+3)
section
variable {p:CP} {x y:WS} {s s':Sh} {m m':MS} {i l l' ph sU hf R mu bl ce κ:Nat} {H:HS} {dead:List Nat} {q:Qu}
theorem xX (hs:y.s=x.s) (hm:y.muts=x.muts) (hc:y.coll=x.coll):p.phi hf R y=p.phi hf R x:=by
 obtain ⟨a,b,c,d,e⟩:=x
 obtain ⟨a',b',c',d',e'⟩:=y
 cases hs;cases hm;cases hc
 rfl
theorem aaq (hB:s'.B=s.B):dO s' i m=dO s i m:=by
 unfold dO dA
 rw [hB]
theorem abP {H:HS} {Q:Qu} {fl:Bool} {c:CS}:p.T { x with s:={ x.s with H:=H,Q:=Q,flag:=fl },coll:=c }=p.T x:=by
 unfold CP.T
 refine zT fun i _=>?_
 unfold oZ
 show (match x.muts[i]? with|some m=>_|none=>0)=(match x.muts[i]? with|some m=>_|none=>0)
 cases x.muts[i]? with
 | none=>rfl
 | some m=>exact congrArg (· + 2*(x.s.box i).length) (aaq rfl)
theorem Jv {b c:Bool} {n:Nat} (h:b=true->c=true):(if b then n else 0)<=if c then n else 0:=by
 cases b with
 | false=>exact Nat.zero_le _
 | true=>rw [h rfl];exact Nat.le_refl _
theorem aar (hI:bZ p.H) (hb:p.bl=p.H.b) (h:jD p x dead) (hm:x.muts[i]?=some m):p.phi hf R (bP x i)+(if x.s.B.pend (i:Int) then 1 else 0)<=p.phi hf R x:=by
 obtain ⟨e1,e2,e3⟩:=rC x hm
 have hlt:=(List.getElem?_eq_some_iff.1 hm).1
 have uQ:i<p.mu:=by cases h with
  | mark h1 _=>exact h1.pG hm
  | sweep h1=>exact h1.pG hm
 have key:∀ (s':Sh) (m':MS),(∀ j,j≠i->s'.box j=x.s.box j)->(∀ j:Nat,j≠i->s'.B.pend (j:Int)=x.s.B.pend (j:Int))->s'.B.kind=x.s.B.kind->(∀ (j:Nat) (mj:MS),x.muts[j]?=some mj->mj.id=j)->s'.Q=x.s.Q ->
  dO s' i m'+2*(s'.box i).length+(if x.s.B.pend (i:Int) then 1 else 0)<=dO x.s i m+2*(x.s.box i).length ->
  (p.U s'.H.co+1<=p.U x.s.H.co\/(p.U s'.H.co=p.U x.s.H.co/\(iL m'.next=true\/s'.flag=true->iL m.next=true\/x.s.flag=true))) ->
  p.phi hf R { x with s:=s',muts:=x.muts.set i m' }+(if x.s.B.pend (i:Int) then 1 else 0)<=p.phi hf R x:=fun s' m' sH hpo hk hid hQ hc hu=>by
  have hT:p.T { x with s:=s',muts:=x.muts.set i m' }+(if x.s.B.pend (i:Int) then 1 else 0)<=p.T x:=by
   have hup:=EH (f:=oZ x) (g:=oZ { x with s:=s',muts:=x.muts.set i m' }) uQ (fun j hj=>by
    unfold oZ
    show _=(match (x.muts.set i m')[j]? with|some m=>_|none=>0)
    rw [List.getElem?_set_ne (fun e=>hj e.symm)]
    cases hmj:x.muts[j]? with
    | none=>rfl
    | some mj =>
      have e1:dO s' j mj=dO x.s j mj:=by
       have hj':=hid j mj hmj
       unfold dO dA
       rw [hj',hpo j hj,hk]
      show dO x.s j mj+2*(x.s.box j).length=dO s' j mj+2*(s'.box j).length
      rw [e1,sH j hj])
   have g1:oZ x i=dO x.s i m+2*(x.s.box i).length:=by unfold oZ;rw [hm]
   have g2:oZ { x with s:=s',muts:=x.muts.set i m' } i=dO s' i m'+2*(s'.box i).length:=by
    unfold oZ
    show (match (x.muts.set i m')[i]? with|some m=>_|none=>0)=_
    rw [List.getElem?_set_self hlt]
   unfold CP.T
   rw [g1,g2] at hup
   omega
  unfold CP.phi
  have hQ2:({ x with s:=s',muts:=x.muts.set i m' }:WS).s.Q=x.s.Q:=hQ
  rw [hQ2]
  have hwb:p.wk hf R<=p.big hf R:=by unfold CP.big;omega
  rcases hu with hu|⟨hu,hpr⟩
  ·have h1:(p.U s'.H.co+1)*p.big hf R<=p.U x.s.H.co*p.big hf R:=Nat.mul_le_mul_right _ hu
   rw [Nat.add_mul,Nat.one_mul] at h1
   have h2:(if qx { x with s:=s',muts:=x.muts.set i m' }=true then p.wk hf R else 0)<=p.wk hf R:=by split<;>omega
   show p.T _+p.rk hf R x.coll.next+33*x.coll.stk.length+(if nD x=true then p.mu+1 else 0)+p.U s'.H.co*p.big hf R+_+(if dB x=true then p.dr R else 0)+x.s.Q.qs*(hf+3)+_<=_
   omega
  ·have h2:(if qx { x with s:=s',muts:=x.muts.set i m' }=true then p.wk hf R else 0)<=(if qx x=true then p.wk hf R else 0):=Jv fun hp=>by
    unfold qx at hp ⊢
    simp only [Bool.or_eq_true,List.any_eq_true] at hp ⊢
    have hmm:m∈x.muts:=List.mem_iff_getElem?.2 ⟨i,hm⟩
    have fin:iL m.next=true\/x.s.flag=true->(x.s.flag=true\/x.coll.over=true)\/∃ m,m∈x.muts/\iL m.next=true:=fun hh=>by
     rcases hh with hh|hh
     ·exact .inr ⟨m,hmm,hh⟩
     ·exact .inl (.inl hh)
    rcases hp with (hp|hp)|⟨mj,hj,hp⟩
    ·exact fin (hpr (.inr hp))
    ·exact .inl (.inr hp)
    ·obtain ⟨j,hj⟩:=List.mem_iff_getElem?.1 hj
     by_cases ej:j=i
     ·subst ej
      rw [List.getElem?_set_self hlt] at hj
      cases hj
      exact fin (hpr (.inl hp))
     ·rw [List.getElem?_set_ne (fun e=>ej e.symm)] at hj
      exact .inr ⟨mj,List.mem_iff_getElem?.2 ⟨j,hj⟩,hp⟩
   show p.T _+p.rk hf R x.coll.next+33*x.coll.stk.length+(if nD x=true then p.mu+1 else 0)+p.U s'.H.co*p.big hf R+_+(if dB x=true then p.dr R else 0)+x.s.Q.qs*(hf+3)+_<=_
   rw [hu]
   omega
 cases h with
 | mark h1 h2 =>
   obtain ⟨u,c,_⟩:=EF (hI.Gu hb) h1 hm
   have:=key (bG x.s m).1 (bG x.s m).2.1 u.Gq u.pend u.kind (fun j mj hj=>(h1.dK j mj hj).id) u.q c.less c.pK
   rw [xX (y:=bP x i) (x:={ x with s:=(bG x.s m).1,muts:=x.muts.set i (bG x.s m).2.1 }) e1 e2 e3]
   exact this
 | sweep h1 =>
   obtain ⟨s',m',g1,g2,g3,g4,g5,g6,g7,g8,g9⟩:=yG h1 hm
   rw [g1] at e1 e2
   have sm:=h1.dK i m hm
   have hbox:∀ j,s'.box j=x.s.box j:=fun j=>by unfold Sh.box;rw [g5]
   rw [xX (y:=bP x i) (x:={ x with s:=s',muts:=x.muts.set i m' }) e1 e2 e3]
   have hbd:∀ (s:Sh) (m:MS),s.B.pend (m.id:Int)=true->s.B.kind=7->dA s m = .once 7:=fun s m h1 h2=>by
    unfold dA
    rw [h1,if_pos rfl,h2,if_neg (by decide),if_neg (by decide)]
   have hkk:s'.B.kind=x.s.B.kind:=by
    have:=congrArg (fun z:Sh × MS × Option Ev=>z.1.B.kind) g1
    rw [<- this]
    obtain ⟨b1,b2,b3⟩:=h1.bd.ans i
    rcases sm.nx with e|⟨e,_⟩
    ·unfold bG
     rw [e];rfl
    ·have hst:∀ d,d=MD.once 7->(stepM x.s { m with spent:=m.spent+1 } d).s.B.kind=x.s.B.kind:=fun d e=>by
      rw [e]
      show (x.s.B.iT (m.id:Int)).kind=_
      rw [sm.id,b3]
     have hn:¬ isNil m.next=true:=by rw [e];decide
     show (bG x.s m).1.B.kind=_
     unfold bG
     rw [if_neg hn]
     exact hst _ e
   refine key s' m' (fun j hj=>hbox j) g8 hkk (fun j mj hj=>(h1.dK j mj hj).id) g4 ?_ (.inr ⟨by rw [g3],fun hp=>?_⟩)
   ·rw [hbox i]
    have DR:SM p s' i m':=by
     have:=g2.dK i m' (by show (x.muts.set i m')[i]?=some m';rw [List.getElem?_set_self hlt])
     exact this
    by_cases hp:x.s.B.pend (i:Int)=true
    ·rw [if_pos hp] at g9 ⊢
     rcases g9 with ⟨a1,a2,a3⟩|⟨a1,a2,a3⟩
     ·unfold dO
      rw [g6,sm.buf,hp,a3,a2,a1,hbd x.s m (by rw [sm.id];exact hp) (sm.kind hp)]
      show 0+1+_+1<=0+(1+1)+_
      omega
     ·unfold dO
      rw [g6,sm.buf,hp,a3,a2,a1]
      show 0+0+_+1<=0+1+_
      omega
    ·rw [if_neg hp] at g9 ⊢
     obtain ⟨a1,a2,a3⟩:=g9
     have hp0:x.s.B.pend (i:Int)=false:=by simpa using hp
     unfold dO
     rw [g6,sm.buf,hp0,a3]
     exact Nat.le_refl _
   ·rw [g7] at hp
    rcases hp with hp|hp
    ·by_cases hq:x.s.B.pend (i:Int)=true
     ·rw [if_pos hq] at g9
      rcases g9 with ⟨a1,a2,a3⟩|⟨a1,a2,a3⟩
      ·rw [a2] at hp;cases hp
      ·rw [a2] at hp;cases hp
     ·rw [if_neg hq] at g9
      rw [g9.1] at hp;cases hp
    ·exact .inr hp
end
end
end Go.Proofs.YtanfphjoebobaaaGreatDoor
