/- Parts of the walk. No conditions. -/
import Derived.Test.YtanfphjoebobaaaGreatDoorZzey
namespace Go.Proofs.YtanfphjoebobaaaGreatDoor
open _root_.Go.Proofs.Tryz hiding prog
open _root_.Go.Proofs.Tryz renaming prog->ay
section
open Go.RowKit
section
variable {o o':Ow} {w w' W W':World} {G:Geo} {g:MG} {q:CG} {s s':Sh} {m:MS} {c:CS} {I:List Nat} {gs:List MG} {x y:WS} {N:Nat}
theorem CW.setH (h:CW w W o G gs q x) (k:Keep (HF G.D) W W') {H:HS} (hH:aF W' G.D H) (hc:H.c=x.s.H.c):CW w W' o G gs q { x with s:={ x.s with H:=H } }/\Keep (In o [1]) W W':=by
 obtain ⟨hs,k1⟩:=h.coll.sh.qp k hH h.coll.box8
 refine ⟨⟨h.coll.lS k1 rfl rfl rfl (aQ.refl _ _) hs rfl,h.len,fun i g m h1 h2=>?_,h.low,h.keep.Nk k1 rfl rfl h.low⟩,k1⟩
 obtain ⟨g1,g2⟩:=h.dK i g m h1 h2
 exact ⟨g1.lS k1 rfl (by simp<;>omega) (by simp<;>omega) (aQ.refl _ _) hs rfl hc,g2⟩
theorem CW.abL (h:CW w W o G gs q x) (k:Keep none_ W W') (e:aQ W o o') (hm:kU o' W' G g x.s m) (hid:m.id=x.muts.length):CW w W' o' G (gs++[g]) q { x with muts:=x.muts++[m] }:=by
 have k0:Keep (In o []) W W':=k.aS
 refine ⟨h.coll.lS k0 rfl rfl rfl e hm.sh rfl,by simp [h.len],fun i g' m' h1 h2=>?_,fun b hb=>by rw [e b (Nat.lt_of_lt_of_le hb h.keep.size)];exact h.low b hb,h.keep.trans k⟩
 have h2':(x.muts++[m])[i]?=some m':=h2
 by_cases hi:i<x.muts.length
 ·rw [List.getElem?_append_left hi] at h2'
  rw [List.getElem?_append_left (by rw [h.len];exact hi)] at h1
  obtain ⟨g1,g2⟩:=h.dK i g' m' h1 h2'
  exact ⟨g1.lS k0 rfl rfl rfl e hm.sh rfl rfl,g2⟩
 ·have hl:=(List.getElem?_eq_some_iff.1 h2').1
  simp at hl
  obtain rfl:i=x.muts.length:=by omega
  rw [List.getElem?_append_right (Nat.le_refl _),Nat.sub_self] at h2'
  rw [List.getElem?_append_right (by rw [h.len];exact Nat.le_refl _),h.len,Nat.sub_self] at h1
  cases h1
  cases h2'
  exact ⟨hm,hid⟩
theorem CK.first {s:Sh} {c:aK} {n:Nat} (hok:c.ok=true) (hn:c.m=(n:Int)) (hl:s.boxes.length=n) (hq:l7 s) (ho:s.Q.opn=0) (hr:∀ k,s.Q.rw k=[]) (hb:s.B.count=0):Iq 0 s (CS.new c n):=by
 have h:=fQ hok
 refine ⟨⟨hl,⟨by show 1<=n;omega,by show n<=8;omega⟩,?_,?_,⟨?_,?_⟩,Nat.zero_le _,by show 0<2;decide,Nat.le_refl _,Nat.le_refl _,Nat.le_refl _,by omega,hq,fun k=>by rw [hr k];exact Nat.le_refl _,⟨by omega,by omega⟩,Nat.zero_le _⟩,trivial⟩
 ·show c.b.toNat<=4096;omega
 ·show c.c.toNat<=64;omega
 ·show 1<=c.s.toNat;omega
 ·show c.s.toNat<=4096;omega
theorem uX.acQ {M:Nat} (h:uX N s m) (hM:N<=M):uX M s m:=⟨h.color,h.want,Nat.le_trans h.opn hM,Nat.le_trans h.res hM,h.q,Nat.le_trans h.sp hM,h.rl,h.nx⟩
theorem oq.more {M:Nat} (h:oq N x) (hM:N<=M):oq M x :=
 ⟨h.len,fun i m hi=>⟨(h.dK i m hi).1,(h.dK i m hi).2.acQ hM⟩,⟨h.coll.k.more hM,h.coll.nx⟩,Nat.le_trans h.picks hM,Nat.le_trans h.evs hM⟩
end
end
section
attribute [local go_sem ↓] jT
attribute [local go_sem] Oper.semAt_some
open Go.RowKit
theorem Tryz.infoPMut:(ay.info? 56).map (fun i=>(i.zero,i.size,i.bytes))=some (some (.pointer none),1,8):=by kernel_rfl
theorem Tryz.infoOp:(ay.info? 83).map (fun i=>(i.zero,i.size,i.bytes))=some (some (.agg #[ah 0,ah 0,ah 0,ah 0]),4,32):=by kernel_rfl
structure qI where
 c:aK
 sz:List Nat
 fl:List Nat
 ce:List Nat
 rg:List Nat
def lX (r:Int) (rg:List Nat) (j:Nat):List fE:=(List.range j).map fun k:Nat=>⟨4,(k:Int)%r,((rg.getD k 0%4:Nat):Int),0⟩
def nR (r:Int) (rg:List Nat) (i:Nat):List fE:=if i=0 then lX r rg rg.length else []
def gK (c:aK) (x:qI) (i:Nat):WS :=
 ⟨{ Sh.new c c.b.toNat c.w.toNat c.c.toNat c.m.toNat with H:=qO (HS.new c c.b.toNat c.w.toNat c.c.toNat) x.sz x.fl x.ce },(List.range i).map (fun j=>MS.new c j (nR c.r x.rg j)),CS.new c c.m.toNat,[],0⟩
def ng:Nat->WS->WS
 | 0,x=>x
 | f+1,x=>match x.muts with
   | []=>x
   | m::_=>if iI m then x else ng f (bP x 0)
def fA (x:qI):WS:=ng 300 (gK x.c.little x x.c.little.m.toNat)
theorem vU (c:aK):c.little.ok=true:=by
 obtain ⟨b,w,m,r,cc,l,s⟩:=c
 have e:∀ (p q:Prop) [Decidable p] [Decidable q],p->q->(decide p&&decide q)=true:=fun p q _ _ hp hq=>by rw [decide_eq_true hp,decide_eq_true hq];rfl
 have e2:∀ (x:Bool) (q:Prop) [Decidable q],x=true->q->(x&&decide q)=true:=fun x q _ hp hq=>by rw [hp,decide_eq_true hq];rfl
 unfold aK.ok aK.little
 simp only
 exact e2 _ _ (e2 _ _ (e2 _ _ (e2 _ _ (e2 _ _ (e _ _ (by omega) (by omega)) (by omega)) (by omega)) (by omega)) (by omega)) (by omega)
theorem Tj (r:Int) (rg:List Nat) (j:Nat):lX r rg (j+1)=lX r rg j++[⟨4,(j:Int)%r,((rg.getD j 0%4:Nat):Int),0⟩]:=by
 unfold lX
 rw [List.range_succ,List.map_append]
 rfl
theorem BD (r:Int) (rg:List Nat) (j:Nat):(lX r rg j).length=j:=by simp [lX]
theorem Tm (c:aK) (x:qI) (i:Nat):gK c x (i+1)={ gK c x i with muts:=(gK c x i).muts++[MS.new c i (nR c.r x.rg i)] }:=by
 unfold gK
 rw [List.range_succ,List.map_append]
 rfl
theorem Nz (all ce:List Nat) (H:HS):∀ i,(qH all ce H i).c=H.c
 | 0=>rfl
 | i+1=>((Vw _ _).2).trans (Nz all ce H i)
theorem Hw (all fl:List Nat) (a:Nat) (p:HS × Nat):∀ f,(dG all fl a p f).1.c=p.1.c
 | 0=>rfl
 | f+1=>by
   show (if (dG all fl a p f).2<fl.length then _ else dG all fl a p f).1.c=_
   split
   ·exact ((zJ _ _ _).2).trans (Hw all fl a p f)
   ·exact Hw all fl a p f
theorem Qo (all fl:List Nat) (p:HS × Nat):∀ i,(jH all fl p i).1.c=p.1.c
 | 0=>rfl
 | i+1=>(Hw _ _ _ _ _).trans (Qo all fl p i)
theorem NC (H:HS) (a:Nat):∀ i,(H.kJ a i).c=H.c
 | 0=>rfl
 | i+1=>((zJ _ _ _).2).trans (NC H a i)
theorem V3:∀ (l:List Nat) (H:HS),(H.ig l).c=H.c
 | [],_=>rfl
 | a::l,H=>(V3 l (H.fK a)).trans (MO a).2
theorem aam (H:HS) (f c:Nat):(H.nH f c).2.c=H.c:=by
 have hs:∀ k,(H.dQ k).2.2.c=H.c:=fun k=>by
  unfold HS.dQ
  split
  ·exact (Hq k).2
  ·split
   ·exact (V3 _ _).trans (Jf k).2
   ·rfl
 unfold HS.nH
 split
 ·exact ((Ql _ _).2).trans ((NC _ _ _).trans (((MP _ _).2).trans (hs _)))
 ·exact hs _
theorem aan (sz:List Nat):∀ (H:HS),(dI H sz).c=H.c:=by
 induction sz with
 | nil=>intro H;rfl
 | cons z l ih=>intro H;exact (ih _).trans (aam _ _ _)
theorem Qp (H:HS) (sz fl ce:List Nat):(qO H sz fl ce).c=H.c:=(Nz _ _ _ _).trans ((Qo _ _ _ _).trans (aan _ _))
theorem ShAt.adD {o:Ow} {W:World} {G:Geo} {s:Sh} {N:Nat} (h:ShAt o W G s) (hlow:∀ b,b<N->o b=0\/o b=49) {b:Nat} (hb:b<N):¬ HF G.D b:=by
 rintro ⟨i,hi,e⟩
 have:=h.oD i hi
 rw [<- e] at this
 rcases hlow b hb with h9|h9<;>rw [h9] at this<;>cases this
structure Laid (w:World):Prop where
 t:Tabs w
 s:Sizes w
 b:lT w
 g:3<w.heap.size/\4<w.heap.size/\2<w.heap.size
theorem Laid.still {w w':World} (h:Laid w) (k:Keep none_ w w'):Laid w':=⟨h.t.keep k,h.s.keep k,h.b.still k,⟨Nat.lt_of_lt_of_le h.g.1 k.size,Nat.lt_of_lt_of_le h.g.2.1 k.size,Nat.lt_of_lt_of_le h.g.2.2 k.size⟩⟩
def iJ (o:Ow) (w:World) (v:Value) (gs:List MG):Prop:=w.ownsRow 0 56 1 v gs.length (gs.map fun g=>aB g.M)/\∀ b,v.ownBlock=some b->o b=97
section
variable {o o':Ow} {w w' W W':World} {G:Geo} {gs:List MG} {q:CG} {x:WS} {v:Value} {a1 a2 a3 a4:Option Addr} {n1 n2 n3 n4 p1 p2 p3 p4:Nat}
theorem iJ.keep {I:List Nat} (h:iJ o W v gs) (k:Keep (In o I) W W') (h97:I.contains 97=false) (e:aQ W o o'):iJ o' W' v gs:=by
 refine ⟨dY h.1 k (fun b hb=>bI (h.2 b hb) h97),fun b hb=>?_⟩
 obtain ⟨cur,hc⟩:=jI h.1 hb
 exact (e b (lt_of_block hc)).trans (h.2 b hb)
theorem iJ.form (h:iJ o W v gs):∃ a c,v = .slice a gs.length c/\∀ (i:Nat) g,gs[i]?=some g->∃ b,a=some ⟨b,0,none⟩/\W.cell? ⟨b,i,none⟩=some (aj g.M):=by
 obtain ⟨a,c,rfl,_,_,_,hc⟩:=dP h.1
 refine ⟨a,c,rfl,fun i g hg=>?_⟩
 obtain ⟨b,e,hb,_⟩:=hc i (aB g.M) (by rw [List.getElem?_map,hg];rfl)
 exact ⟨b,e,hb⟩
theorem iJ.grow {g:MG} {gs2:List MG} (h:iJ o W v gs) (hc:CW w W o G gs2 q x) {N:Nat} (hN:W.cell? ⟨N,0,none⟩=some (aB g.M)) (hl:gs.length<=100):∃ b cap W5,(app9 #[31,31] 31 #[v,.slice (some ⟨N,0,none⟩) 1 1]).run ay W = .ok (.slice (some ⟨b,0,none⟩) (gs.length+1) cap) W5 /\
 ∃ o',aQ W o o'/\CW w W5 o' G gs2 q x/\iJ o' W5 (.slice (some ⟨b,0,none⟩) (gs.length+1) cap) (gs++[g])/\Keep (In o [97]) W W5:=by
 obtain ⟨b,cap,W5,hrun,hown,hgr,hq⟩:=nY (P:=ay) W 31 31 56 (by kernel_rfl) Tryz.infoPMut rfl h.1 (N:=N) (u:=aB g.M) hN rfl (by decide) (by omega)
 have k:Keep (In o [97]) W W5:=⟨hgr.os,hgr.tape,hgr.output,hgr.size,fun y hy hn=>hgr.block y hy (fun e=>hn (by
  have e':v.ownBlock=some y:=by first|exact e|exact e.symm
  unfold In
  rw [h.2 y e']
  simp))⟩
 have e:aQ W o (o.put b 97):=by
  rcases hq with hq|hq
  ·exact Ow.jU (.inr (h.2 b hq))
  ·exact Ow.jU (.inl hq)
 have hlt:b<W5.heap.size:=by
  rcases hown.2 with ⟨e1,_⟩|⟨g',cap',cur,e1,_,hg',_⟩
  ·cases e1
  ·cases e1;exact lt_of_block hg'
 have hf:gX (o.put b 97) W5:=Ow.nJ hc.coll.sh.fC k.size hlt
 refine ⟨b,cap,W5,hrun,o.put b 97,e,hc.xK k rfl e hf,⟨?_,fun b' hb'=>?_⟩,k⟩
 ·rw [List.map_append,List.length_append]
  exact hown
 ·simp [Value.ownBlock] at hb'
  rw [<- hb']
  exact Ow.lM _ _ _
end
end
section
structure CP where
 H:HS
 κ:Nat
 mu:Nat
 bl:Nat
 ce:Nat
 lg:Nat
 regs:Nat->List Nat
def CP.rt (p:CP) (v:Nat):Prop:=(∃ j:Nat,j<p.ce/\v=p.H.cellP (j:Int))\/∃ i,i<p.mu/\v∈p.regs i
inductive CP.gZ (p:CP):Nat->Prop
 | root {v:Nat}:p.rt v->p.H.bn v=true->CP.gZ p v
 | jg {a j:Nat}:CP.gZ p a->j<(p.H.aV a).1->p.H.bn (p.H.bY a (j:Int))=true->CP.gZ p (p.H.bY a (j:Int))
theorem CP.gZ.bn {p:CP} {a:Nat} (h:p.gZ a):p.H.bn a=true:=by cases h<;>assumption
def CP.good (p:CP) (v:Nat):Prop:=p.H.bn v=true->p.gZ v
def CP.kb (p:CP):Bool:=p.κ==1
def CP.gV (p:CP) (co:Nat->Bool) (l v:Nat):Prop:=p.H.bn v=true->co v=p.kb\/v=l
def lookOf:CD->Nat
 | .look v _=>v
 | _=>0
def BF:CD->Prop
 | .work=>True
 | .walk _=>True
 | .slots _ t=>BF t
 | _=>False
def Qq:CD->Prop
 | .work=>True
 | .empty t=>BF t
 | _=>False
def Ze:CD->Prop
 | .cell _=>True
 | .work=>True
 | .box _=>True
 | .field _ _ _ t=>Qq t
 | .empty t=>BF t
 | _=>False
def uF (ph:Nat):Prop:=ph=4\/ph=5
def CP.dD (p:CP) (ph:Nat):CD->Prop
 | .wait m t=>m<p.mu/\((ph=1/\t = .arm)\/(ph=2/\t = .scan)\/(ph=3/\t = .trace)\/(ph=5/\t = .work))
 | .arm=>ph=1
 | .scan=>ph=2
 | .trace=>ph=3
 | .cell i=>ph=4/\i<p.ce
 | .look _ t=>uF ph/\Ze t/\(∀ i,t = .cell i->ph=4/\i<p.ce)/\∀ m,t = .box m->m<p.mu
 | .work=>uF ph
 | .over=>uF ph
 | .drain=>ph=4
 | .box m=>uF ph/\m<p.mu
 | .marked=>ph=5
 | .object _ t=>uF ph/\Qq t
 | .field _ _ _ t=>uF ph/\Qq t
 | .walk b=>uF ph/\b<p.bl
 | .slots l t=>uF ph/\l≠[]/\BF t
 | .empty t=>uF ph/\BF t
 | _=>False
def CP.ahead (p:CP) (a:Nat):CD->Prop
 | .look _ t=>CP.ahead p a t
 | .object b t=>a=b\/CP.ahead p a t
 | .field b _ _ t=>a=b\/CP.ahead p a t
 | .slots l t=>a∈l\/CP.ahead p a t
 | .walk b=>∃ B,b<=B/\B<p.bl/\a∈p.H.slots B
 | .empty t=>CP.ahead p a t
 | _=>False
def CP.jR (p:CP) (ok:Nat->Prop):CD->Prop
 | .look _ t=>CP.jR p ok t
 | .field a i n t=>(n=(p.H.aV a).1/\i<n/\∀ j:Nat,j<i->ok (p.H.bY a (j:Int)))/\CP.jR p ok t
 | .object _ t=>CP.jR p ok t
 | .slots _ t=>CP.jR p ok t
 | .empty t=>CP.jR p ok t
 | _=>True
def CP.lY (p:CP):CD->Prop
 | .look v t=>p.good v/\CP.lY p t
 | .object a t=>p.gZ a/\CP.lY p t
 | .field a _ _ t=>p.gZ a/\CP.lY p t
 | .slots _ t=>CP.lY p t
 | .empty t=>CP.lY p t
 | _=>True
def CP.jw (p:CP):CD->Nat
 | .cell i=>i
 | .look _ t=>CP.jw p t
 | _=>p.ce
def CP.mQ (p:CP):CD->Nat
 | .box m=>m
 | .look _ t=>CP.mQ p t
 | .over=>p.mu
 | .marked=>p.mu
 | _=>0
def lZ:CD->Bool
 | .over=>true
 | .marked=>true
 | _=>false
def uh:MD->Prop
 | .once k=>k=3
 | .note _ _ t=>uh t
 | _=>False
def xU:MD->Prop
 | .add _ t=>uh t
 | .once _=>True
 | _=>False
def Hy (buf:List Nat):MD->Prop
 | .nil=>True
 | .once k=>k=5->buf=[]
 | .note _ _ t=>uh t
 | .add _ t=>buf=[]/\uh t
 | .pour _ t=>xU t
 | .eu _ _ t=>xU t
 | .raise t=>buf=[]/\xU t
 | _=>False
def tH:MD->Int
 | .once k=>k
 | .note _ _ t=>tH t
 | .add _ t=>tH t
 | .pour _ t=>tH t
 | .eu _ _ t=>tH t
 | .raise t=>tH t
 | _=>0
def nS:MD->List Nat
 | .note v _ t=>v::nS t
 | .add v t=>v::nS t
 | .pour _ t=>nS t
 | .eu _ _ t=>nS t
 | .raise t=>nS t
 | _=>[]
def iL:MD->Bool
 | .eu _ f _=>f
 | .raise _=>true
 | _=>false
def CP.rZ (p:CP):MD->Prop
 | .note v c t=>p.good v/\c=p.κ/\CP.rZ p t
 | .add v t=>p.good v/\CP.rZ p t
 | .pour c t=>c=p.κ/\CP.rZ p t
 | .eu c _ t=>c=p.κ/\CP.rZ p t
 | .raise t=>CP.rZ p t
 | _=>True
structure BI (mu:Nat) (b:Bd):Prop where
 muts:b.muts=(mu:Int)
 len:b.os.length=8
 le:mu<=8
 out:∀ i,mu<=i->b.os.getD i false=false
structure MI (p:CP) (s:Sh) (l ph:Nat) (i:Nat) (m:MS):Prop where
 id:m.id=i
 prog:m.prog.length<=m.res.length
 regs:m.regs=p.regs i
 lg:1<=m.c.l.toNat
 want:(ph=1/\s.B.pend i=true)\/m.want=p.κ
 color:m.color=if ph<3\/(ph=3/\s.B.pend i=true) then 1 - p.κ else p.κ
 idle:s.B.pend i=false->m.next = .nil
 kind:s.B.pend i=true->s.B.kind=(ph:Int)
 ND:m.next ≠ .nil->tH m.next=(ph:Int)
 dD:Hy m.buf m.next
 gd:p.rZ m.next
 buf:∀ v∈m.buf,p.good v
 reg:3<=ph->¬ (ph=3/\s.B.pend i=true/\m.next = .nil)->∀ v∈m.regs,p.gV s.H.co l v\/v∈m.buf\/v∈s.box i\/v∈nS m.next
 buf5:ph=5->s.B.pend i=false->m.buf=[]
def pwW (x:WS):Prop:=x.s.flag=true\/x.coll.over=true\/∃ (i:Nat) (m:MS),x.muts[i]?=some m/\iL m.next=true
structure MInv (p:CP) (x:WS):Prop where
 k2:p.κ<2
 mu8:1<=p.mu/\p.mu<=8
 heap:∃ f,x.s.H={ p.H with co:=f }
 muts:x.muts.length=p.mu
 cmu:x.coll.muts=p.mu
 box:x.s.boxes.length=p.mu
 col:x.coll.color=p.κ
 mg:x.coll.blocks=p.bl
 nT:x.coll.cells=p.ce
 bd:BI p.mu x.s.B
 dK:∀ i m,x.muts[i]?=some m->MI p x.s (lookOf x.coll.next) x.coll.phase i m
 wt:∀ i,i<p.mu->x.s.B.pend i=true->∃ m t,x.coll.next = .wait m t/\m<=i
 ph:1<=x.coll.phase/\x.coll.phase<=5
 dD:p.dD x.coll.phase x.coll.next
 src:p.lY x.coll.next
 stk:∀ a∈x.coll.stk,p.gZ a
 nC:∀ i,∀ v∈x.s.box i,p.good v
 pK:∀ a,p.H.bn a=true->x.s.H.co a=p.kb->p.gZ a
 jg:p.jR (p.gV x.s.H.co (lookOf x.coll.next)) x.coll.next
 iP:4<=x.coll.phase->∀ j:Nat,j<p.jw x.coll.next->p.gV x.s.H.co (lookOf x.coll.next) (p.H.cellP (j:Int))
 clo:pwW x\/∀ a,p.H.bn a=true->x.s.H.co a=p.kb->a∈x.coll.stk\/p.ahead a x.coll.next\/∀ j:Nat,j<(p.H.aV a).1->p.gV x.s.H.co (lookOf x.coll.next) (p.H.bY a (j:Int))
 bx:∀ j,j<p.mQ x.coll.next->x.s.box j=[]
 stk0:lZ x.coll.next=true->x.coll.stk=[]
 mk0:x.coll.next = .marked->x.s.flag=false/\x.coll.over=false
 q:(∀ k,x.s.Q.rw k=[])/\x.s.Q.opn=0/\x.s.Q.rows.length=4
theorem BI.pend {mu:Nat} {b:Bd} (h:BI mu b) (i:Nat):b.pend (i:Int)=b.os.getD i false:=by
 unfold Bd.pend Bd.is Bd.isOpen
 rw [h.muts,Int.toNat_natCast]
 by_cases hi:i<mu
 ·rw [decide_eq_true (by omega),decide_eq_true (by omega),Bool.true_and,Bool.true_and]
 ·rw [h.out i (by omega)];simp
theorem BI.aao {mu:Nat} {b:Bd} (h:BI mu b) {i:Nat} (hp:b.pend (i:Int)=true):i<mu:=by
 rw [h.pend] at hp
 rcases Nat.lt_or_ge i mu with h1|h1
 ·exact h1
 ·rw [h.out i h1] at hp;cases hp
theorem BI.ans {mu:Nat} {b:Bd} (h:BI mu b) (i:Nat):BI mu (b.iT (i:Int))/\(∀ j:Nat,(b.iT (i:Int)).pend (j:Int)=if j=i then false else b.pend (j:Int))/\(b.iT (i:Int)).kind=b.kind:=by
 unfold Bd.iT
 by_cases hp:b.pend (i:Int)=true
 ·rw [if_pos hp]
  have hi:=h.aao hp
  have hb:BI mu (b.close (i:Int)):=by
   refine ⟨h.muts,?_,h.le,fun j hj=>?_⟩
   ·show (b.os.set _ false).length=8
    rw [List.length_set];exact h.len
   ·show (b.os.set (i:Int).toNat false).getD j false=false
    rw [Int.toNat_natCast,List.getD_eq_getElem?_getD,List.getElem?_set_ne (by omega),<- List.getD_eq_getElem?_getD]
    exact h.out j hj
  refine ⟨hb,fun j=>?_,rfl⟩
  rw [hb.pend,h.pend]
  show (b.os.set (i:Int).toNat false).getD j false=_
  rw [Int.toNat_natCast,List.getD_eq_getElem?_getD]
  by_cases e:j=i
  ·subst e
   have:=h.len;have:=h.le
   rw [if_pos rfl,List.getElem?_set_self (by omega)];rfl
  ·rw [if_neg e,List.getElem?_set_ne (fun e'=>e e'.symm),<- List.getD_eq_getElem?_getD]
 ·rw [if_neg hp]
  refine ⟨h,fun j=>?_,rfl⟩
  by_cases e:j=i
  ·subst e
   rw [if_pos rfl];simpa using hp
  ·rw [if_neg e]
theorem J7 {l:List Bool} (h:∀ i,l.getD i false=false):oO l=false:=by
 have key:∀ l:List Bool,(∀ b∈l,b=false)->oO l=false:=fun l hl=>by
  rw [Bool.eq_false_iff]
  intro hh
  first
   | (unfold oO at hh
      rw [List.any_eq_true] at hh
      obtain ⟨b,hb,hb2⟩:=hh
      rw [hl b hb] at hb2;cases hb2)
 refine key l (fun b hb=>?_)
 obtain ⟨i,hi,rfl⟩:=List.mem_iff_getElem.1 hb
 have:=h i
 rw [List.getD_eq_getElem?_getD,List.getElem?_eq_getElem hi] at this
 exact this
theorem vV:∀ (k:Nat) (l:List Bool) (j:Nat),k<=l.length->(qg k l).length=l.length/\(qg k l).getD j false=if j<k then true else l.getD j false
 | 0,l,j,_=>⟨rfl,by rw [if_neg (by omega)];rfl⟩
 | k+1,l,j,hk=>by
   obtain ⟨h1,h2⟩:=vV k l j (by omega)
   refine ⟨by show ((qg k l).set k true).length=_;rw [List.length_set];exact h1,?_⟩
   show ((qg k l).set k true).getD j false=_
   rw [List.getD_eq_getElem?_getD]
   by_cases e:k=j
   ·subst e
    rw [List.getElem?_set_self (by omega),if_pos (by omega)];rfl
   ·rw [List.getElem?_set_ne e,<- List.getD_eq_getElem?_getD,h2]
    by_cases h3:j<k
    ·rw [if_pos h3,if_pos (by omega)]
    ·rw [if_neg h3,if_neg (by omega)]
theorem BI.ask {mu:Nat} {b:Bd} (h:BI mu b) (h0:∀ i,i<mu->b.pend (i:Int)=false) (k:Nat):BI mu (b.oU (k:Int))/\(∀ j:Nat,(b.oU (k:Int)).pend (j:Int)=decide (j<mu))/\(b.oU (k:Int)).kind=(k:Int):=by
 have ha:b.all=true:=by
  unfold Bd.all
  rw [J7 (fun i=>?_)];rfl
  rcases Nat.lt_or_ge i mu with h1|h1
  ·rw [<- h.pend];exact h0 i h1
  ·exact h.out i h1
 have hle:=h.le;have hlen:=h.len
 have hm:b.muts.toNat=mu:=by rw [h.muts,Int.toNat_natCast]
 unfold Bd.oU
 rw [if_pos ha,hm]
 have hb:BI mu (b.asked (k:Int) mu):=by
  refine ⟨h.muts,?_,h.le,fun j hj=>?_⟩
  ·exact (vV mu b.os 0 (by omega)).1.trans hlen
  ·exact (vV mu b.os j (by omega)).2.trans (by rw [if_neg (by omega)];exact h.out j hj)
 refine ⟨hb,fun j=>?_,rfl⟩
 rw [hb.pend]
 refine (vV mu b.os j (by omega)).2.trans ?_
 by_cases h1:j<mu
 ·rw [if_pos h1,decide_eq_true h1]
 ·rw [if_neg h1,decide_eq_false h1];exact h.out j (by omega)
section
variable {p:CP} {x y:WS} {s s':Sh} {m m':MS} {i l l' ph:Nat}
theorem CP.EC {co co':Nat->Bool} (hm:∀ a,p.H.bn a=true->co a=p.kb->co' a=p.kb) {v:Nat} (h:p.gV co l v):p.gV co' l v:=fun hb=>(h hb).imp (hm v hb) (fun h=>h)
theorem CP.NG (h0:p.H.bn 0=false) {co:Nat->Bool}:p.gV co l 0:=fun hb=>by rw [h0] at hb;cases hb
theorem zL (hk:p.κ<2) {f:Nat->Bool} (v a:Nat):(HS.bQ { p.H with co:=f } v p.κ).co a=if a=v/\p.H.bn v=true then p.kb else f a:=by
 unfold HS.bQ HS.dX
 have hkk:decide (p.κ<2)=true:=decide_eq_true hk
 show HS.co (if (p.H.bn v&&decide (p.κ<2)&&(f v != (p.κ==1)))=true then _ else _) a=_
 rw [hkk,Bool.and_true]
 unfold CP.kb
 by_cases hb:p.H.bn v=true
 ·rw [hb,Bool.true_and]
  by_cases hc:f v=(p.κ==1)
  ·rw [hc]
   simp only [bne_self_eq_false,Bool.false_eq_true,if_false]
   by_cases ha:a=v
   ·subst ha;rw [if_pos ⟨rfl,trivial⟩];exact hc
   ·rw [if_neg (fun h=>ha h.1)]
  ·have:(f v != (p.κ==1))=true:=by simpa [bne] using hc
   rw [this,if_pos rfl]
   show upd f v (p.κ==1) a=_
   unfold upd
   by_cases ha:a=v
   ·rw [if_pos ha,if_pos ⟨ha,rfl⟩]
   ·rw [if_neg ha,if_neg (fun h=>ha h.1)]
 ·have hb':p.H.bn v=false:=by simpa using hb
  rw [if_neg (fun h:a=v/\p.H.bn v=true=>hb h.2),hb',Bool.false_and,if_neg (by decide)]
theorem Gp {f:Nat->Bool} (v c:Nat):∃ f',HS.bQ { p.H with co:=f } v c={ p.H with co:=f' }:=by
 unfold HS.bQ
 split
 ·exact ⟨_,rfl⟩
 ·exact ⟨f,rfl⟩
theorem vW (hk:p.κ<2) {f:Nat->Bool} (v:Nat):HS.dX { p.H with co:=f } v p.κ=true↔p.H.bn v=true/\f v≠p.kb:=by
 unfold HS.dX CP.kb
 rw [decide_eq_true hk]
 simp [bne]
theorem zM (hk:p.κ<2) {f:Nat->Bool} (v:Nat):(HS.dW { p.H with co:=f } v==p.κ)=true↔f v=p.kb:=by
 unfold HS.dW CP.kb
 show ((if f v=true then 1 else 0)==p.κ)=true↔_
 rcases (by omega:p.κ=0\/p.κ=1) with e|e<;>rw [e]<;>cases f v<;>decide
theorem MInv.congr (h:MInv p x) (hs:y.s=x.s) (hm:y.muts=x.muts) (hc:y.coll=x.coll):MInv p y:=by
 obtain ⟨a,b,c,d,e⟩:=x
 obtain ⟨a',b',c',d',e'⟩:=y
 cases hs;cases hm;cases hc
 exact ⟨h.k2,h.mu8,h.heap,h.muts,h.cmu,h.box,h.col,h.mg,h.nT,h.bd,h.dK,h.wt,h.ph,h.dD,h.src,h.stk,h.nC,h.pK,h.jg,h.iP,h.clo,h.bx,h.stk0,h.mk0,h.q⟩
theorem CP.jl {ok ok':Nat->Prop} (hm:∀ v,ok v->ok' v):∀ d:CD,p.jR ok d->p.jR ok' d
 | .look _ t,h=>CP.jl hm t h
 | .field _ _ _ t,h=>⟨⟨h.1.1,h.1.2.1,fun j hj=>hm _ (h.1.2.2 j hj)⟩,CP.jl hm t h.2⟩
 | .object _ t,h=>CP.jl hm t h
 | .slots _ t,h=>CP.jl hm t h
 | .empty t,h=>CP.jl hm t h
 | .nil,_=>trivial
 | .wait _ _,_=>trivial
 | .arm,_=>trivial
 | .scan,_=>trivial
 | .trace,_=>trivial
 | .work,_=>trivial
 | .over,_=>trivial
 | .drain,_=>trivial
 | .marked,_=>trivial
 | .sweep,_=>trivial
 | .rests,_=>trivial
 | .off,_=>trivial
 | .idle,_=>trivial
 | .cell _,_=>trivial
 | .box _,_=>trivial
 | .walk _,_=>trivial
 | .enqueue _,_=>trivial
 | .block _,_=>trivial
theorem MI.others (h:MI p s l ph i m) (hp:s'.B.pend (i:Int)=s.B.pend (i:Int)) (hk:s'.B.kind=s.B.kind) (hb:s'.box i=s.box i) (hm:∀ a,p.H.bn a=true->s.H.co a=p.kb->s'.H.co a=p.kb):MI p s' l ph i m :=
 ⟨h.id,h.prog,h.regs,h.lg,by rw [hp];exact h.want,by rw [hp];exact h.color,by rw [hp];exact h.idle,by rw [hp,hk];exact h.kind,h.ND,h.dD,h.gd,h.buf,
  by rw [hp,hb];exact fun a b v hv=>(h.reg a b v hv).imp (CP.EC hm) (fun h=>h),by rw [hp];exact h.buf5⟩
structure MU (p:CP) (s:Sh) (m:MS) (l ph i:Nat) (s':Sh) (m':MS):Prop where
 heap:∃ f,s'.H={ p.H with co:=f }
 mono:∀ a,p.H.bn a=true->s.H.co a=p.kb->s'.H.co a=p.kb
 pK:∀ a,p.H.bn a=true->s'.H.co a=p.kb->p.gZ a
 len:s'.boxes.length=s.boxes.length
 Gq:∀ j,j≠i->s'.box j=s.box j
 bx:∀ v∈s'.box i,p.good v
 bxw:s'.box i=s.box i\/s.B.pend (i:Int)=true
 bd:BI p.mu s'.B
 kind:s'.B.kind=s.B.kind
 pend:∀ j:Nat,j≠i->s'.B.pend (j:Int)=s.B.pend (j:Int)
 Tn:s'.B.pend (i:Int)=true->s.B.pend (i:Int)=true
 q:s'.Q=s.Q
 mi:MI p s' l ph i m'
 flag:s.flag=true->s'.flag=true
 flag2:s'.flag=true->s.flag=true\/s.B.pend (i:Int)=true
 pr:iL m.next=true->iL m'.next=true\/s'.flag=true
 new:∀ a,p.H.bn a=true->s'.H.co a=p.kb->s.H.co a=p.kb\/iL m'.next=true\/s'.flag=true
theorem MInv.mu (h:MInv p x) (hm:x.muts[i]?=some m) (u:MU p x.s m (lookOf x.coll.next) x.coll.phase i s' m'):MInv p { x with s:=s',muts:=x.muts.set i m' }:=by
 have hlt:=(List.getElem?_eq_some_iff.1 hm).1
 have uQ:i<p.mu:=by rw [<- h.muts];exact hlt
 have ni:∀ v,p.gV x.s.H.co (lookOf x.coll.next) v->p.gV s'.H.co (lookOf x.coll.next) v:=fun v=>CP.EC u.mono
 have hpw:pwW x->pwW { x with s:=s',muts:=x.muts.set i m' }:=by
  rintro (hf|ho|⟨j,mj,hj,hpr⟩)
  ·exact .inl (u.flag hf)
  ·exact .inr (.inl ho)
  ·by_cases e:j=i
   ·subst e
    rw [hm] at hj;cases hj
    rcases u.pr hpr with h1|h1
    ·exact .inr (.inr ⟨j,m',by show (x.muts.set j m')[j]?=_;rw [List.getElem?_set_self hlt],h1⟩)
    ·exact .inl h1
   ·exact .inr (.inr ⟨j,mj,by show (x.muts.set i m')[j]?=_;rw [List.getElem?_set_ne (fun e'=>e e'.symm)];exact hj,hpr⟩)
 refine ⟨h.k2,h.mu8,u.heap,by show (x.muts.set i m').length=_;rw [List.length_set];exact h.muts,h.cmu,u.len.trans h.box,h.col,h.mg,h.nT,u.bd,fun j mj hj=>?_,fun j hj hp=>?_,h.ph,h.dD,h.src,h.stk,fun j v hv=>?_,u.pK,
  CP.jl ni _ h.jg,fun h4 j hj=>ni _ (h.iP h4 j hj),?_,fun j hj=>?_,h.stk0,fun hmk=>?_,by rw [show ({ x with s:=s',muts:=x.muts.set i m' }:WS).s.Q=x.s.Q from u.q];exact h.q⟩
 ·have hj':(x.muts.set i m')[j]?=some mj:=hj
  by_cases e:j=i
  ·subst e
   rw [List.getElem?_set_self hlt] at hj'
   cases hj'
   exact u.mi
  ·rw [List.getElem?_set_ne (fun e'=>e e'.symm)] at hj'
   exact (h.dK j mj hj').others (u.pend j e) u.kind (u.Gq j e) u.mono
 ·by_cases e:j=i
  ·subst e;exact h.wt j hj (u.Tn hp)
  ·exact h.wt j hj (by rw [<- u.pend j e];exact hp)
 ·by_cases e:j=i
  ·subst e;exact u.bx v hv
  ·exact h.nC j v (by rw [<- u.Gq j e];exact hv)
 ·rcases h.clo with h1|h1
  ·exact .inl (hpw h1)
  ·by_cases hw:iL m'.next=true\/s'.flag=true
   ·refine .inl ?_
    rcases hw with h2|h2
    ·exact .inr (.inr ⟨i,m',by show (x.muts.set i m')[i]?=_;rw [List.getElem?_set_self hlt],h2⟩)
    ·exact .inl h2
   ·refine .inr fun a ha hc=>?_
    rcases u.new a ha hc with h2|h2
    ·rcases h1 a ha h2 with h3|h3|h3
     ·exact .inl h3
     ·exact .inr (.inl h3)
     ·exact .inr (.inr fun j hj=>ni _ (h3 j hj))
    ·exact absurd h2 hw
 ·by_cases e:j=i
  ·subst e
   rcases u.bxw with h1|h1
   ·show s'.box j=[];rw [h1];exact h.bx j hj
   ·obtain ⟨k,t,ht,_⟩:=h.wt j uQ h1
    exfalso
    have hj':j<p.mQ x.coll.next:=hj
    rw [ht] at hj'
    exact Nat.not_lt_zero _ hj'
  ·exact (u.Gq j e).trans (h.bx j hj)
 ·obtain ⟨h1,h2⟩:=h.mk0 hmk
  refine ⟨?_,h2⟩
  by_cases hf:s'.flag=true
  ·rcases u.flag2 hf with h3|h3
   ·rw [h1] at h3;cases h3
   ·obtain ⟨k,t,ht,_⟩:=h.wt i uQ h3
    have hmk':x.coll.next = .marked:=hmk
    rw [hmk'] at ht;cases ht
  ·show s'.flag=false
   simpa using hf
end
def cntF (f:Nat->Bool) (n:Nat):Nat:=((List.range n).filter f).length
theorem Ju (f:Nat->Bool) (n:Nat):cntF f (n+1)=cntF f n+(if f n then 1 else 0):=by
 unfold cntF
 rw [List.range_succ,List.filter_append,List.length_append,List.filter_cons]
 split<;>simp
theorem Tq {f g:Nat->Bool} {n:Nat} (h:∀ k,k<n->f k=g k):cntF f n=cntF g n:=by
 unfold cntF
 rw [List.filter_congr (fun x hx=>h x (List.mem_range.1 hx))]
theorem NH {f g:Nat->Bool} {v:Nat} (hf:f v=true) (hg:g v=false) (h:∀ k,k≠v->f k=g k):∀ n,v<n->cntF g n+1=cntF f n
 | 0,hv=>absurd hv (Nat.not_lt_zero _)
 | n+1,hv=>by
   rw [Ju,Ju]
   by_cases e:v=n
   ·subst e
    rw [hf,hg,Tq (f:=f) (g:=g) (fun k hk=>h k (by omega))]
    simp
   ·have:=NH hf hg h n (by omega)
    rw [h n (fun e'=>e e'.symm)]
    omega
structure sS (p:CP) (hf:Nat):Prop where
 bn:∀ a,p.H.bn a=true->1<=a/\a<p.H.sz
 nf:∀ a,(p.H.aV a).1<=15
 ahead:∀ a,p.H.bn a=true->∃ B,B<p.bl/\a∈p.H.slots B
 slen:∀ B,(p.H.slots B).length<=hf
theorem sS.bn0 {p:CP} {hf:Nat} (k:sS p hf):p.H.bn 0=false:=by
 rw [Bool.eq_false_iff]
 intro h
 have:=(k.bn 0 h).1
 omega
def CP.U (p:CP) (co:Nat->Bool):Nat:=cntF (fun a=>p.H.bn a&&(co a != p.kb)) p.H.sz
def left:MD->Nat
 | .once _=>1
 | .note _ _ t=>8+left t
 | .add _ t=>4+left t
 | .pour _ t=>3+left t
 | .eu _ _ t=>2+left t
 | .raise t=>1+left t
 | _=>0
def dO (s:Sh) (i:Nat) (m:MS):Nat:=3*m.buf.length+if s.B.pend (i:Int) then (if isNil m.next then 1+left (dA s m) else left m.next) else 0
section
variable {p:CP} {x y:WS} {s s':Sh} {m m':MS} {i l l' ph hf:Nat}
theorem CP.Qr (k:sS p hf) (hk:p.κ<2) {f:Nat->Bool} {v:Nat} (hp:HS.dX { p.H with co:=f } v p.κ=true):p.U (HS.bQ { p.H with co:=f } v p.κ).co+1=p.U f:=by
 obtain ⟨h1,h2⟩:=(vW hk v).1 hp
 refine NH (v:=v) ?_ ?_ (fun a ha=>?_) _ (k.bn v h1).2
 ·rw [h1];simpa [bne] using h2
 ·rw [zL hk,if_pos ⟨rfl,h1⟩,h1];simp
 ·rw [zL hk,if_neg (fun h=>ha h.1)]
structure MC (p:CP) (s:Sh) (m:MS) (i:Nat) (s':Sh) (m':MS):Prop where
 less:dO s' i m'+2*(s'.box i).length+1<=dO s i m+2*(s.box i).length
 pK:p.U s'.H.co+1<=p.U s.H.co\/(p.U s'.H.co=p.U s.H.co/\(iL m'.next=true\/s'.flag=true->iL m.next=true\/s.flag=true))
theorem MI.of {m1 m2:MS} (h:MI p s l ph i m1) (e:m2.id=m1.id/\m2.prog=m1.prog/\m2.res=m1.res/\m2.regs=m1.regs/\m2.c=m1.c/\m2.want=m1.want/\m2.color=m1.color/\m2.buf=m1.buf/\m2.next=m1.next):MI p s l ph i m2:=by
 obtain ⟨e1,e2,e3,e4,e5,e6,e7,e8,e9⟩:=e
 exact ⟨by rw [e1];exact h.id,by rw [e2,e3];exact h.prog,by rw [e4];exact h.regs,by rw [e5];exact h.lg,by rw [e6];exact h.want,by rw [e7];exact h.color,by rw [e9];exact h.idle,h.kind,by rw [e9];exact h.ND,by rw [e8,e9];exact h.dD,by rw [e9];exact h.gd,by rw [e8];exact h.buf,by rw [e4,e8,e9];exact h.reg,by rw [e8];exact h.buf5⟩
theorem MI.step (h:MI p s l ph i m) (hp:s.B.pend (i:Int)=true) {b:List Nat} {t:MD} (hh:s'.H.co=s.H.co\/∀ a,p.H.bn a=true->s.H.co a=p.kb->s'.H.co a=p.kb) (hB:s'.B=s.B) (hn:t ≠ .nil) (he:tH t=tH m.next) (hm:m.next ≠ .nil) (hs:Hy b t) (hg:p.rZ t) (hb:∀ v∈b,p.good v)
 (hr:∀ v,p.gV s.H.co l v\/v∈m.buf\/v∈s.box i\/v∈nS m.next->p.gV s'.H.co l v\/v∈b\/v∈s'.box i\/v∈nS t):MI p s' l ph i { m with buf:=b,next:=t }:=by
 refine ⟨h.id,h.prog,h.regs,h.lg,by rw [hB];exact h.want,by rw [hB];exact h.color,fun hf=>?_,by rw [hB];exact h.kind,fun _=>he.trans (h.ND hm),hs,hg,hb,fun h3 hx v hv=>?_,fun _ hf=>?_⟩
 ·rw [hB,hp] at hf;cases hf
 ·exact hr v (h.reg h3 (fun hh=>hm hh.2.2) v hv)
 ·rw [hB,hp] at hf;cases hf
theorem MInv.Qs (h:MInv p x) {i:Nat} (hi:i<p.mu) (hp:x.s.B.pend (i:Int)=true):x.coll.phase=1\/x.coll.phase=2\/x.coll.phase=3\/x.coll.phase=5:=by
 obtain ⟨k,t,ht,_⟩:=h.wt i hi hp
 have hs:=h.dD
 rw [ht] at hs
 obtain ⟨_,hs⟩:=hs
 omega
theorem MU.same (h:MInv p x) (hm:x.muts[i]?=some m) (DR:MI p x.s (lookOf x.coll.next) x.coll.phase i m') (hpr:iL m.next=true->iL m'.next=true):MU p x.s m (lookOf x.coll.next) x.coll.phase i x.s m' :=
 ⟨h.heap,fun _ _ h=>h,h.pK,rfl,fun _ _=>rfl,h.nC i,.inl rfl,h.bd,rfl,fun _ _=>rfl,fun h=>h,rfl,DR,fun h=>h,.inl,fun hp => .inl (hpr hp),fun _ _ h => .inl h⟩
theorem zN {t:MD} (h:uh t):t ≠ .nil:=by
 intro e;rw [e] at h;exact h
theorem ED {t:MD} (h:xU t):t ≠ .nil:=by
 intro e;rw [e] at h;exact h
theorem xW {t:MD} {b:List Nat} (h:uh t):Hy b t:=by
 cases t with
 | once k =>
   have h3:k=3:=h
   intro h5
   rw [h3] at h5;cases h5
 | note _ _ _=>exact h
 | _=>exact h.elim
theorem BG {t:MD} (h:xU t):Hy [] t:=by
 cases t with
 | once k=>exact fun _=>rfl
 | add _ _=>exact ⟨rfl,h⟩
 | _=>exact h.elim
theorem zO {t:MD} (h:uh t):iL t=false:=by
 cases t with
 | once k=>rfl
 | note _ _ _=>rfl
 | _=>exact h.elim
theorem NI {t:MD} (h:xU t):iL t=false:=by
 cases t with
 | once k=>rfl
 | add _ _=>rfl
 | _=>exact h.elim
theorem NJ {d:MD} (h:isNil d=false):d ≠ .nil:=by intro e;rw [e] at h;cases h
theorem qQ {d:MD} (h:d ≠ .nil):isNil d=false:=by cases d<;>first|rfl|exact absurd rfl h
theorem Ym (k:sS p hf) (h:MInv p x) (hm:x.muts[i]?=some m) (hn:isNil m.next=false) (d:MD) (hd:m.next=d) :
 MU p x.s m (lookOf x.coll.next) x.coll.phase i (stepM x.s { m with spent:=m.spent+1 } d).s { (stepM x.s { m with spent:=m.spent+1 } d).m with next:=(stepM x.s { m with spent:=m.spent+1 } d).next } /\
 MC p x.s m i (stepM x.s { m with spent:=m.spent+1 } d).s { (stepM x.s { m with spent:=m.spent+1 } d).m with next:=(stepM x.s { m with spent:=m.spent+1 } d).next } /\
 (stepM x.s { m with spent:=m.spent+1 } d).ev=none:=by
 have mi:=h.dK i m hm
 have hlt:=(List.getElem?_eq_some_iff.1 hm).1
 have uQ:i<p.mu:=by rw [<- h.muts];exact hlt
 have hne:=NJ hn
 have hp:x.s.B.pend (i:Int)=true:=by
  cases hb:x.s.B.pend (i:Int)
  ·exact absurd (mi.idle hb) hne
  ·rfl
 have mV:=h.Qs uQ hp
 have hk2:=h.k2
 obtain ⟨f,hH⟩:=h.heap
 have hco:x.s.H.co=f:=by rw [hH]
 have hbn:x.s.H.bn=p.H.bn:=by rw [hH]
 have htd:dO x.s i m=3*m.buf.length+left m.next:=by
  unfold dO
  rw [hp,if_pos rfl,hn];rfl
 have td2:∀ (s':Sh) (m':MS),s'.B=x.s.B->isNil m'.next=false->dO s' i m'=3*m'.buf.length+left m'.next:=fun s' m' e1 e2=>by
  unfold dO
  rw [e1,hp,if_pos rfl,e2];rfl
 have su:=mi.dD
 have hgd:=mi.gd
 have hend:=mi.ND hne
 cases d with
 | once kk =>
   rw [hd] at hend su htd
   have hkk:kk=(x.coll.phase:Int):=hend
   obtain ⟨b1,b2,b3⟩:=h.bd.ans i
   have Gs:m.id=i:=mi.id
   have hp':(x.s.B.iT (m.id:Int)).pend (i:Int)=false:=by rw [Gs,b2 i,if_pos rfl]
   have hst:(stepM x.s { m with spent:=m.spent+1 } (.once kk)).s={ x.s with B:=x.s.B.iT (m.id:Int) }:=rfl
   have hmm:(stepM x.s { m with spent:=m.spent+1 } (.once kk)).m=gB { m with spent:=m.spent+1 } kk:=rfl
   have hnx:(stepM x.s { m with spent:=m.spent+1 } (.once kk)).next = .nil:=rfl
   rw [hst,hmm,hnx]
   have Hz:=mi.reg
   rw [hd] at Hz
   have hO:(gB { m with spent:=m.spent+1 } kk).id=m.id/\(gB { m with spent:=m.spent+1 } kk).prog=m.prog/\(gB { m with spent:=m.spent+1 } kk).res=m.res/\(gB { m with spent:=m.spent+1 } kk).regs=m.regs/\(gB { m with spent:=m.spent+1 } kk).c=m.c /\
    (gB { m with spent:=m.spent+1 } kk).want=p.κ/\(gB { m with spent:=m.spent+1 } kk).color=(if x.coll.phase<3 then 1 - p.κ else p.κ)/\((gB { m with spent:=m.spent+1 } kk).buf=m.buf\/(x.coll.phase=1/\(gB { m with spent:=m.spent+1 } kk).buf=[])):=by
    have hw:=mi.want
    have hc:=mi.color
    rcases mV with e|e|e|e<;>rw [e] at hkk hw hc ⊢ <;> subst hkk
    ·rw [if_pos (by omega)] at hc
     exact ⟨rfl,rfl,rfl,rfl,rfl,by show 1 - m.color=_;rw [hc];omega,hc,.inr ⟨rfl,rfl⟩⟩
    ·rw [if_pos (by omega)] at hc
     exact ⟨rfl,rfl,rfl,rfl,rfl,hw.resolve_left (fun h=>by omega),hc,.inl rfl⟩
    ·exact ⟨rfl,rfl,rfl,rfl,rfl,hw.resolve_left (fun h=>by omega),hw.resolve_left (fun h=>by omega),.inl rfl⟩
    ·rw [if_neg (by omega)] at hc
     exact ⟨rfl,rfl,rfl,rfl,rfl,hw.resolve_left (fun h=>by omega),hc,.inl rfl⟩
   generalize gB { m with spent:=m.spent+1 } kk=M at *
   obtain ⟨e1,e2,e3,e4,e5,e6,e7,e8⟩:=hO
   have hbl:M.buf.length<=m.buf.length:=by
    rcases e8 with e|⟨_,e⟩<;>rw [e]
    ·exact Nat.le_refl _
    ·exact Nat.zero_le _
   refine ⟨⟨h.heap,fun _ _ h=>h,h.pK,rfl,fun _ _=>rfl,h.nC i,.inl rfl,by rw [Gs];exact b1,by rw [Gs];exact b3,fun j hj=>by show (x.s.B.iT (m.id:Int)).pend _=_;rw [Gs,b2 j,if_neg hj],fun _=>hp,rfl,?_,fun h=>h,.inl,fun hq=>?_,fun _ _ h => .inl h⟩,⟨?_,.inr ⟨rfl,fun hq=>?_⟩⟩,rfl⟩
   ·refine ⟨e1.trans Gs,by show M.prog.length<=M.res.length;rw [e2,e3];exact mi.prog,e4.trans mi.regs,by show 1<=M.c.l.toNat;rw [e5];exact mi.lg,.inr e6,?_,fun _=>rfl,fun hf=>?_,fun hf=>absurd rfl hf,trivial,trivial,fun v hv=>?_,fun h3 _ v hv=>?_,fun h5 _=>?_⟩
    ·show M.color=_
     rw [e7]
     have hp2:({ x.s with B:=x.s.B.iT (m.id:Int) }:Sh).B.pend (i:Int)=false:=hp'
     rw [hp2]
     by_cases h3:x.coll.phase<3
     ·rw [if_pos h3,if_pos (.inl h3)]
     ·rw [if_neg h3,if_neg (by simp;omega)]
    ·have hp2:({ x.s with B:=x.s.B.iT (m.id:Int) }:Sh).B.pend (i:Int)=false:=hp'
     rw [hp2] at hf;cases hf
    ·rcases e8 with e|⟨_,e⟩
     ·exact mi.buf v (by have hv':v∈M.buf:=hv;rwa [e] at hv')
     ·have hv':v∈M.buf:=hv
      rw [e] at hv';cases hv'
    ·have hv':v∈m.regs:=by have hv':v∈M.regs:=hv;rwa [e4] at hv'
     have:=Hz h3 (fun hh=>by cases hh.2.2) v hv'
     rcases e8 with e|⟨e9,_⟩
     ·rcases this with g|g|g|g
      ·exact .inl g
      ·exact .inr (.inl (by show v∈M.buf;rw [e];exact g))
      ·exact .inr (.inr (.inl g))
      ·cases g
     ·omega
    ·show M.buf=[]
     have hb0:m.buf=[]:=su (by rw [hkk,h5];rfl)
     rcases e8 with e|⟨_,e⟩
     ·rw [e,hb0]
     ·exact e
   ·rw [hd] at hq;cases hq
   ·show dO _ i _+2*(x.s.box i).length+1<=_
    rw [htd]
    unfold dO
    have hp2:({ x.s with B:=x.s.B.iT (m.id:Int) }:Sh).B.pend (i:Int)=false:=hp'
    rw [hp2]
    show 3*M.buf.length+0+2*(x.s.box i).length+1<=3*m.buf.length+1+2*(x.s.box i).length
    omega
   ·rcases hq with hq|hq
    ·cases hq
    ·exact .inr hq
 | note v c t =>
   rw [hd] at hend su hgd htd
   obtain ⟨g1,rfl,g3⟩:=hgd
   have hst:uh t:=su
   have Hz:=mi.step (s':=x.s) hp (t:=t) (b:=m.buf) (.inl rfl) rfl (zN hst) (by rw [hd];rfl) hne (xW hst) g3 mi.buf
   have hnt:=zN hst
   simp only [stepM]
   by_cases h1:(!x.s.H.bn v||x.s.H.dW v==p.κ)=true
   ·rw [if_pos h1]
    have hok:p.gV x.s.H.co (lookOf x.coll.next) v:=fun hb=>by
     rw [hbn,hb,Bool.not_true,Bool.false_or,hH] at h1
     rw [hco]
     exact .inl ((zM hk2 v).1 h1)
    refine ⟨MU.same h hm ((Hz fun u hu=>?_).of ⟨rfl,rfl,rfl,rfl,rfl,rfl,rfl,rfl,rfl⟩) (fun hq=>by rw [hd] at hq;cases hq),⟨?_,.inr ⟨rfl,fun hq=>?_⟩⟩,rfl⟩
    ·rw [hd] at hu
     rcases hu with g|g|g|g
     ·exact .inl g
     ·exact .inr (.inl g)
     ·exact .inr (.inr (.inl g))
     ·rcases List.mem_cons.1 g with rfl|g
      ·exact .inl hok
      ·exact .inr (.inr (.inr g))
    ·rw [htd,td2 x.s _ rfl (qQ hnt)]
     show 3*m.buf.length+left t+2*(x.s.box i).length+1<=3*m.buf.length+(8+left t)+2*(x.s.box i).length
     omega
    ·have hq':iL t=true\/x.s.flag=true:=hq
     rw [zO hst] at hq'
     exact .inr (hq'.resolve_left (by decide))
   ·rw [if_neg h1]
    by_cases h2:m.buf.length=m.c.l.toNat
    ·rw [if_pos h2]
     have hlg:=mi.lg
     have hne2:m.buf≠[]:=by
      intro e;rw [e] at h2;simp at h2;omega
     have Zf:MS.kE { m with spent:=m.spent+1 } p.κ (.add v t) = .pour p.κ (.add v t):=by
      unfold MS.kE
      rw [if_neg hne2]
     rw [Zf]
     refine ⟨MU.same h hm ((mi.step (s':=x.s) hp (t := .pour p.κ (.add v t)) (b:=m.buf) (.inl rfl) rfl (fun e=>by cases e) (by rw [hd];rfl) hne hst ⟨rfl,g1,g3⟩ mi.buf (fun u hu=>?_)).of ⟨rfl,rfl,rfl,rfl,rfl,rfl,rfl,rfl,rfl⟩) (fun hq=>by rw [hd] at hq;cases hq),⟨?_,.inr ⟨rfl,fun hq=>?_⟩⟩,rfl⟩
     ·rw [hd] at hu;exact hu
     ·rw [htd,td2 x.s _ rfl rfl]
      show 3*m.buf.length+(3+(4+left t))+2*(x.s.box i).length+1<=3*m.buf.length+(8+left t)+2*(x.s.box i).length
      omega
     ·exact .inr (hq.resolve_left (fun e=>by cases e))
    ·rw [if_neg h2]
     refine ⟨MU.same h hm ((mi.step (s':=x.s) hp (t:=t) (b:=m.buf++[v]) (.inl rfl) rfl hnt (by rw [hd];rfl) hne (xW hst) g3 (fun u hu=>?_) (fun u hu=>?_)).of ⟨rfl,rfl,rfl,rfl,rfl,rfl,rfl,rfl,rfl⟩) (fun hq=>by rw [hd] at hq;cases hq),⟨?_,.inr ⟨rfl,fun hq=>?_⟩⟩,rfl⟩
     ·rcases List.mem_append.1 hu with hu|hu
      ·exact mi.buf u hu
      ·rw [List.mem_singleton.1 hu];exact g1
     ·rw [hd] at hu
      rcases hu with g|g|g|g
      ·exact .inl g
      ·exact .inr (.inl (List.mem_append_left _ g))
      ·exact .inr (.inr (.inl g))
      ·rcases List.mem_cons.1 g with rfl|g
       ·exact .inr (.inl (List.mem_append_right _ (List.mem_singleton.2 rfl)))
       ·exact .inr (.inr (.inr g))
     ·rw [htd,td2 x.s _ rfl (qQ hnt)]
      show 3*(m.buf++[v]).length+left t+2*(x.s.box i).length+1<=3*m.buf.length+(8+left t)+2*(x.s.box i).length
      rw [List.length_append]
      show 3*(m.buf.length+1)+left t+2*(x.s.box i).length+1<=_
      omega
     ·have hq':iL t=true\/x.s.flag=true:=hq
      rw [zO hst] at hq'
      exact .inr (hq'.resolve_left (by decide))
 | add v t =>
   rw [hd] at hend su hgd htd
   obtain ⟨g1,g3⟩:=hgd
   obtain ⟨hb0,hst⟩:=su
   have hnt:=zN hst
   have hlg:=mi.lg
   simp only [stepM]
   rw [if_neg (by rw [hb0];simp;omega)]
   refine ⟨MU.same h hm ((mi.step (s':=x.s) hp (t:=t) (b:=m.buf++[v]) (.inl rfl) rfl hnt (by rw [hd];rfl) hne (xW hst) g3 (fun u hu=>?_) (fun u hu=>?_)).of ⟨rfl,rfl,rfl,rfl,rfl,rfl,rfl,rfl,rfl⟩) (fun hq=>by rw [hd] at hq;cases hq),⟨?_,.inr ⟨rfl,fun hq=>?_⟩⟩,rfl⟩
   ·rcases List.mem_append.1 hu with hu|hu
    ·exact mi.buf u hu
    ·rw [List.mem_singleton.1 hu];exact g1
   ·rw [hd] at hu
    rcases hu with g|g|g|g
    ·exact .inl g
    ·exact .inr (.inl (List.mem_append_left _ g))
    ·exact .inr (.inr (.inl g))
    ·rcases List.mem_cons.1 g with rfl|g
     ·exact .inr (.inl (List.mem_append_right _ (List.mem_singleton.2 rfl)))
     ·exact .inr (.inr (.inr g))
   ·rw [htd,td2 x.s _ rfl (qQ hnt)]
    show 3*(m.buf++[v]).length+left t+2*(x.s.box i).length+1<=3*m.buf.length+(4+left t)+2*(x.s.box i).length
    rw [List.length_append]
    show 3*(m.buf.length+1)+left t+2*(x.s.box i).length+1<=_
    omega
   ·have hq':iL t=true\/x.s.flag=true:=hq
    rw [zO hst] at hq'
    exact .inr (hq'.resolve_left (by decide))
 | pour c t =>
   rw [hd] at hend su hgd htd
   obtain ⟨rfl,g3⟩:=hgd
   have htl:xU t:=su
   have hnt:=ED htl
   have Gs:m.id=i:=mi.id
   have hib:i<x.s.boxes.length:=by rw [h.box];exact uQ
   simp only [stepM]
   rw [Gs]
   by_cases h1:x.s.box i=[]
   ·rw [if_pos h1]
    have hbi:({ x.s with boxes:=x.s.boxes.set i m.buf }:Sh).box i=m.buf:=by
     show (x.s.boxes.set i m.buf).getD i []=_
     rw [List.getD_eq_getElem?_getD,List.getElem?_set_self hib];rfl
    have sH:∀ j,j≠i->({ x.s with boxes:=x.s.boxes.set i m.buf }:Sh).box j=x.s.box j:=fun j hj=>by
     show (x.s.boxes.set i m.buf).getD j []=x.s.boxes.getD j []
     rw [List.getD_eq_getElem?_getD,List.getElem?_set_ne (fun e=>hj e.symm),<- List.getD_eq_getElem?_getD]
    refine ⟨⟨h.heap,fun _ _ h=>h,h.pK,by show (x.s.boxes.set i m.buf).length=_;rw [List.length_set],sH,fun v hv=>mi.buf v (by rwa [hbi] at hv),.inr hp,h.bd,rfl,fun _ _=>rfl,fun _=>hp,rfl,
     (mi.step (s':={ x.s with boxes:=x.s.boxes.set i m.buf }) hp (t:=t) (b:=[]) (.inl rfl) rfl hnt (by rw [hd];rfl) hne (BG htl) g3 (fun u hu=>by cases hu) (fun u hu=>?_)).of ⟨Gs.symm,rfl,rfl,rfl,rfl,rfl,rfl,rfl,rfl⟩,fun h=>h,.inl,fun hq=>(by rw [hd] at hq;cases hq),fun _ _ h => .inl h⟩,⟨?_,.inr ⟨rfl,fun hq=>?_⟩⟩,rfl⟩
    ·rw [hd] at hu
     rcases hu with g|g|g|g
     ·exact .inl g
     ·exact .inr (.inr (.inl (by rw [hbi];exact g)))
     ·rw [h1] at g;cases g
     ·exact .inr (.inr (.inr g))
    ·rw [htd,td2 _ _ (by rfl) (qQ hnt),hbi,h1]
     show 3*0+left t+2*m.buf.length+1<=3*m.buf.length+(3+left t)+2*0
     omega
    ·have hq':iL t=true\/x.s.flag=true:=hq
     rw [NI htl] at hq'
     exact .inr (hq'.resolve_left (by decide))
   ·rw [if_neg h1]
    refine ⟨MU.same h hm ((mi.step (s':=x.s) hp (t := .eu p.κ false t) (b:=m.buf) (.inl rfl) rfl (fun e=>by cases e) (by rw [hd];rfl) hne htl ⟨rfl,g3⟩ mi.buf (fun u hu=>?_)).of ⟨Gs.symm,rfl,rfl,rfl,rfl,rfl,rfl,rfl,rfl⟩) (fun hq=>by rw [hd] at hq;cases hq),⟨?_,.inr ⟨rfl,fun hq=>?_⟩⟩,rfl⟩
    ·rw [hd] at hu;exact hu
    ·rw [htd,td2 x.s _ rfl rfl]
     show 3*m.buf.length+(2+left t)+2*(x.s.box i).length+1<=3*m.buf.length+(3+left t)+2*(x.s.box i).length
     omega
    ·exact .inr (hq.resolve_left (fun e=>by cases e))
 | eu c fr t =>
   rw [hd] at hend su hgd htd
   obtain ⟨rfl,g3⟩:=hgd
   have htl:xU t:=su
   have hnt:=ED htl
   simp only [stepM]
   have NK:=Gp (p:=p) (f:=f) (aW m.buf) p.κ
   have hat:=fun a=>zL (p:=p) hk2 (f:=f) (aW m.buf) a
   have hU:=CP.Qr k hk2 (f:=f) (v:=aW m.buf)
   have hUn:HS.dX { p.H with co:=f } (aW m.buf) p.κ=false->HS.bQ { p.H with co:=f } (aW m.buf) p.κ={ p.H with co:=f }:=fun e=>by
    unfold HS.bQ
    rw [e,if_neg (by decide)]
   have hpi:=vW (p:=p) hk2 (f:=f) (aW m.buf)
   have hHH:x.s.H.bQ (aW m.buf) p.κ=HS.bQ { p.H with co:=f } (aW m.buf) p.κ:=by rw [hH]
   have hHp:x.s.H.dX (aW m.buf) p.κ=HS.dX { p.H with co:=f } (aW m.buf) p.κ:=by rw [hH]
   rw [hHH,hHp]
   have hmono:∀ a,p.H.bn a=true->x.s.H.co a=p.kb->(HS.bQ { p.H with co:=f } (aW m.buf) p.κ).co a=p.kb:=fun a ha hc=>by
    rw [hat a]
    split
    ·rfl
    ·rw [<- hco];exact hc
   have hgh:p.H.bn (aW m.buf)=true->p.gZ (aW m.buf):=fun hb=>by
    cases hbb:m.buf with
    | nil=>rw [hbb] at hb;rw [show aW ([]:List Nat)=0 from rfl,k.bn0] at hb;cases hb
    | cons a r=>exact mi.buf (aW (a::r)) (by rw [hbb];exact List.mem_cons_self) (by rw [hbb] at hb;exact hb)
   have hpn:∀ a,p.H.bn a=true->(HS.bQ { p.H with co:=f } (aW m.buf) p.κ).co a=p.kb->p.gZ a:=fun a ha hc=>by
    rw [hat a] at hc
    split at hc
    ·rename_i e;rw [e.1];exact hgh e.2
    ·exact h.pK a ha (by rw [hco];exact hc)
   have hnew:∀ a,p.H.bn a=true->(HS.bQ { p.H with co:=f } (aW m.buf) p.κ).co a=p.kb->x.s.H.co a=p.kb\/HS.dX { p.H with co:=f } (aW m.buf) p.κ=true:=fun a ha hc=>by
    rw [hat a] at hc
    rw [hco]
    split at hc
    ·rename_i e
     by_cases e2:f a=p.kb
     ·exact .inl e2
     ·exact .inr (hpi.2 ⟨e.2,by rw [<- e.1];exact e2⟩)
    ·exact .inl hc
   have hbt:∀ v,v∈m.buf->v∈m.buf.tail\/p.gV (HS.bQ { p.H with co:=f } (aW m.buf) p.κ).co (lookOf x.coll.next) v:=fun v hv=>by
    cases hbb:m.buf with
    | nil=>rw [hbb] at hv;cases hv
    | cons a r =>
      rw [hbb] at hv
      rcases List.mem_cons.1 hv with rfl|hv
      ·refine .inr fun hb => .inl ?_
       rw [hbb] at hat
       show (HS.bQ { p.H with co:=f } v p.κ).co v=_
       rw [show (HS.bQ { p.H with co:=f } v p.κ).co v=_ from hat v]
       show (if v=v/\p.H.bn v=true then p.kb else f v)=p.kb
       rw [if_pos ⟨rfl,hb⟩]
      ·exact .inl hv
   generalize hH':HS.bQ { p.H with co:=f } (aW m.buf) p.κ=H' at *
   generalize hpp:HS.dX { p.H with co:=f } (aW m.buf) p.κ=pp at *
   have hX:∃ nx,nx=(if m.buf.tail≠[] then MD.eu p.κ (fr||pp) t else if (fr||pp)=true then .raise t else t):=⟨_,rfl⟩
   obtain ⟨nx,hnx⟩:=hX
   rw [<- hnx]
   have adE:nx ≠ .nil/\tH nx=tH t/\Hy m.buf.tail nx/\p.rZ nx/\nS nx=nS t/\left nx<=2+left t/\iL nx=(fr||pp):=by
    rw [hnx]
    by_cases e1:m.buf.tail≠[]
    ·rw [if_pos e1]
     exact ⟨(fun e=>by cases e),rfl,htl,⟨rfl,g3⟩,rfl,Nat.le_refl _,rfl⟩
    ·rw [if_neg e1]
     have e1':m.buf.tail=[]:=Classical.byContradiction e1
     rw [e1']
     by_cases e2:(fr||pp)=true
     ·rw [if_pos e2]
      exact ⟨(fun e=>by cases e),rfl,⟨rfl,htl⟩,g3,rfl,by show 1+left t<=_;omega,by rw [e2];rfl⟩
     ·rw [if_neg e2]
      exact ⟨hnt,rfl,BG htl,g3,rfl,by omega,by rw [NI htl];simpa using e2⟩
   obtain ⟨n1,n2,n3,n4,n5,n6,n7⟩:=adE
   have hlt2:m.buf.tail.length<=m.buf.length:=by simp
   refine ⟨⟨NK,hmono,hpn,rfl,fun _ _=>rfl,h.nC i,.inl rfl,h.bd,rfl,fun _ _=>rfl,fun _=>hp,rfl,
    (mi.step (s':={ x.s with H:=H' }) hp (t:=nx) (b:=m.buf.tail) (.inr hmono) rfl n1 (by rw [n2,hd];rfl) hne n3 n4 (fun u hu=>mi.buf u (List.mem_of_mem_tail hu)) (fun u hu=>?_)).of ⟨rfl,rfl,rfl,rfl,rfl,rfl,rfl,rfl,rfl⟩,fun h=>h,.inl,fun hq=>?_,fun a ha hc=>?_⟩,⟨?_,?_⟩,trivial⟩
   ·rw [hd] at hu
    rw [n5]
    rcases hu with g|g|g|g
    ·exact .inl (CP.EC hmono g)
    ·rcases hbt u g with g|g
     ·exact .inr (.inl g)
     ·exact .inl g
    ·exact .inr (.inr (.inl g))
    ·exact .inr (.inr (.inr g))
   ·rw [hd] at hq
    have hq':fr=true:=hq
    exact .inl (by show iL nx=true;rw [n7,hq'];rfl)
   ·rcases hnew a ha hc with g|g
    ·exact .inl g
    ·exact .inr (.inl (by show iL nx=true;rw [n7,g];simp))
   ·rw [htd,td2 _ _ (by rfl) (qQ n1)]
    show 3*m.buf.tail.length+left nx+2*(x.s.box i).length+1<=3*m.buf.length+(2+left t)+2*(x.s.box i).length
    cases hbb:m.buf with
    | nil =>
      have:nx=(if (fr||pp)=true then .raise t else t):=by rw [hnx,hbb];rfl
      have:left nx<=1+left t:=by
       rw [this];split
       ·exact Nat.le_refl _
       ·omega
      simp;omega
    | cons a r=>simp;omega
   ·cases pp with
    | true =>
      refine .inl ?_
      show p.U H'.co+1<=p.U x.s.H.co
      rw [hco,hU rfl];exact Nat.le_refl _
    | false =>
      refine .inr ⟨?_,fun hq=>?_⟩
      ·show p.U H'.co=p.U x.s.H.co
       rw [hUn rfl,hco]
      ·rcases hq with hq|hq
       ·have hq':iL nx=true:=hq
        rw [n7,Bool.or_false] at hq'
        rw [hd];exact .inl hq'
       ·exact .inr hq
 | raise t =>
   rw [hd] at hend su hgd htd
   obtain ⟨hb0,htl⟩:=su
   have hnt:=ED htl
   simp only [stepM]
   refine ⟨⟨h.heap,fun _ _ h=>h,h.pK,rfl,fun _ _=>rfl,h.nC i,.inl rfl,h.bd,rfl,fun _ _=>rfl,fun h=>h,rfl,
    (mi.step (s':={ x.s with flag:=true }) hp (t:=t) (b:=m.buf) (.inl rfl) rfl hnt (by rw [hd];rfl) hne (by rw [hb0];exact BG htl) hgd mi.buf (fun u hu=>?_)).of ⟨rfl,rfl,rfl,rfl,rfl,rfl,rfl,rfl,rfl⟩,fun _=>rfl,fun _ => .inr hp,fun _ => .inr rfl,fun _ _ h => .inl h⟩,⟨?_,.inr ⟨rfl,fun _ => .inl (by rw [hd];rfl)⟩⟩,trivial⟩
   ·rw [hd] at hu;exact hu
   ·rw [htd,td2 _ _ (by rfl) (qQ hnt)]
    show 3*m.buf.length+left t+2*(x.s.box i).length+1<=3*m.buf.length+(1+left t)+2*(x.s.box i).length
    omega
 | nil=>exact absurd hd hne
 | _=>rw [hd] at su;exact su.elim
end
end
end Go.Proofs.YtanfphjoebobaaaGreatDoor
