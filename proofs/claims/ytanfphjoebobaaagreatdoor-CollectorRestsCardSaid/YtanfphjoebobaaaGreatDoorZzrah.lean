/- Parts of a walk, put together and made shorter by a small program of mine. No conditions but those that each theorem names. -/
import Derived.Test.YtanfphjoebobaaaGreatDoorZzrag
import Derived.BigRegion
import Derived.Test.YtanfphjoebobaaaGreatDoorZzrg
import Derived.Test.YtanfphjoebobaaaGreatDoorZzrs
namespace Go.Proofs.YtanfphjoebobaaaGreatDoor
section
open Go.RowKit
attribute [local go_sem] Oper.semAt_some
attribute [local go_sem ↓] app9_of
theorem Tryz.infoPMut:(Tryz.prog.info? 56).map (fun i=>(i.zero,i.size,i.bytes))=some (some (.pointer none),1,8):=by kernel_rfl
theorem Tryz.infoOp:(Tryz.prog.info? 83).map (fun i=>(i.zero,i.size,i.bytes))=some (some (.agg #[.int .i64 0,.int .i64 0,.int .i64 0,.int .i64 0]),4,32):=by kernel_rfl
structure StP where
 c:Conf
 sz:List Nat
 fl:List Nat
 ce:List Nat
 rg:List Nat
def progR (r:Int) (rg:List Nat) (j:Nat):List OpR:=(List.range j).map fun k:Nat=>⟨4,(k:Int)%r,((rg.getD k 0%4:Nat):Int),0⟩
def progOf (r:Int) (rg:List Nat) (i:Nat):List OpR:=if i=0 then progR r rg rg.length else []
def madeK (c:Conf) (x:StP) (i:Nat):WS :=
 ⟨{ Sh.new c c.b.toNat c.w.toNat c.c.toNat c.m.toNat with H:=laidP (HS.new c c.b.toNat c.w.toNat c.c.toNat) x.sz x.fl x.ce },(List.range i).map (fun j=>MS.new c j (progOf c.r x.rg j)),CS.new c c.m.toNat,[],0⟩
def runD:Nat→WS→WS
 | 0,x=>x
 | f+1,x=>match x.muts with
   | []=>x
   | m::_=>if doneM m then x else runD f (pickW x 0)
def madeP (x:StP):WS:=runD 300 (madeK x.c.little x x.c.little.m.toNat)
theorem little_okC (c:Conf):c.little.ok=true:=by
 obtain ⟨b,w,m,r,cc,l,s⟩:=c
 have e:∀ (p q:Prop) [Decidable p] [Decidable q],p→q→(decide p&&decide q)=true:=fun p q _ _ hp hq=>by rw [decide_eq_true hp,decide_eq_true hq];rfl
 have e2:∀ (x:Bool) (q:Prop) [Decidable q],x=true→q→(x&&decide q)=true:=fun x q _ hp hq=>by rw [hp,decide_eq_true hq];rfl
 unfold Conf.ok Conf.little
 simp only
 exact e2 _ _ (e2 _ _ (e2 _ _ (e2 _ _ (e2 _ _ (e _ _ (by omega) (by omega)) (by omega)) (by omega)) (by omega)) (by omega)) (by omega)
theorem progR_succ (r:Int) (rg:List Nat) (j:Nat):progR r rg (j+1)=progR r rg j++[⟨4,(j:Int)%r,((rg.getD j 0%4:Nat):Int),0⟩]:=by
 unfold progR
 rw [List.range_succ,List.map_append]
 rfl
theorem progR_len (r:Int) (rg:List Nat) (j:Nat):(progR r rg j).length=j:=by simp [progR]
theorem madeK_succ (c:Conf) (x:StP) (i:Nat):madeK c x (i+1)={ madeK c x i with muts:=(madeK c x i).muts++[MS.new c i (progOf c.r x.rg i)] }:=by
 unfold madeK
 rw [List.range_succ,List.map_append]
 rfl
theorem setAll_c (all ce:List Nat) (H:HS):∀ i,(setAll all ce H i).c=H.c
 | 0=>rfl
 | i+1=>((setP_w _ _).2).trans (setAll_c all ce H i)
theorem fillO_c (all fl:List Nat) (a:Nat) (p:HS × Nat):∀ f,(fillO all fl a p f).1.c=p.1.c
 | 0=>rfl
 | f+1=>by
   show (if (fillO all fl a p f).2<fl.length then _ else fillO all fl a p f).1.c=_
   split
   ·exact ((storeP_w _ _ _).2).trans (fillO_c all fl a p f)
   ·exact fillO_c all fl a p f
theorem fillA_c (all fl:List Nat) (p:HS × Nat):∀ i,(fillA all fl p i).1.c=p.1.c
 | 0=>rfl
 | i+1=>(fillO_c _ _ _ _ _).trans (fillA_c all fl p i)
theorem storeL_c (H:HS) (a:Nat):∀ i,(H.storeL a i).c=H.c
 | 0=>rfl
 | i+1=>((storeP_w _ _ _).2).trans (storeL_c H a i)
theorem putL_c:∀ (l:List Nat) (H:HS),(H.putL l).c=H.c
 | [],_=>rfl
 | a::l,H=>(putL_c l (H.putP a)).trans (putP_w a).2
theorem makeP_c (H:HS) (f c:Nat):(H.makeP f c).2.c=H.c:=by
 have hs:∀ k,(H.slotP k).2.2.c=H.c:=fun k=>by
  unfold HS.slotP
  split
  ·exact (takeP_w k).2
  ·split
   ·exact (putL_c _ _).trans (assignP_w k).2
   ·rfl
 unfold HS.makeP
 split
 ·exact ((bearP_w _ _).2).trans ((storeL_c _ _ _).trans (((beginP_w _ _).2).trans (hs _)))
 ·exact hs _
theorem mkAll_c (sz:List Nat):∀ (H:HS),(mkAll H sz).c=H.c:=by
 induction sz with
 | nil=>intro H;rfl
 | cons z l ih=>intro H;exact (ih _).trans (makeP_c _ _ _)
theorem laidP_c (H:HS) (sz fl ce:List Nat):(laidP H sz fl ce).c=H.c:=(setAll_c _ _ _ _).trans ((fillA_c _ _ _ _).trans (mkAll_c _ _))
theorem ShAt.notD {o:Ow} {W:World} {G:Geo} {s:Sh} {N:Nat} (h:ShAt o W G s) (hlow:∀ b,b<N→o b=0) {b:Nat} (hb:b<N):¬ HF G.D b:=by
 rintro ⟨i,hi,e⟩
 have:=h.oD i hi
 rw [← e,hlow b hb] at this
 cases this
end
section
open Go.RowKit
attribute [local go_sem] Oper.semAt_some
attribute [local go_sem ↓] app9_of
structure Laid (w:World):Prop where
 t:Tabs w
 s:Sizes w
 b:TabB w
 g:3<w.heap.size∧4<w.heap.size∧2<w.heap.size
theorem Laid.still {w w':World} (h:Laid w) (k:Keep none_ w w'):Laid w':=⟨h.t.keep k,h.s.keep k,h.b.still k,⟨Nat.lt_of_lt_of_le h.g.1 k.size,Nat.lt_of_lt_of_le h.g.2.1 k.size,Nat.lt_of_lt_of_le h.g.2.2 k.size⟩⟩
def MutsV (o:Ow) (w:World) (v:Value) (gs:List MG):Prop:=w.ownsRow 0 56 1 v gs.length (gs.map fun g=>ptrV g.M)∧∀ b,v.ownBlock=some b→o b=97
section
variable {o o':Ow} {w w' W W':World} {G:Geo} {gs:List MG} {q:CG} {x:WS} {v:Value} {a1 a2 a3 a4:Option Addr} {n1 n2 n3 n4 p1 p2 p3 p4:Nat}
theorem MutsV.keep {I:List Nat} (h:MutsV o W v gs) (k:Keep (In o I) W W') (h97:I.contains 97=false) (e:OExt W o o'):MutsV o' W' v gs:=by
 refine ⟨own_keep h.1 k (fun b hb=>not_in' (h.2 b hb) h97),fun b hb=>?_⟩
 obtain ⟨cur,hc⟩:=own_cells h.1 hb
 exact (e b (lt_of_block hc)).trans (h.2 b hb)
theorem MutsV.form (h:MutsV o W v gs):∃ a c,v = .slice a gs.length c∧∀ (i:Nat) g,gs[i]?=some g→∃ b,a=some ⟨b,0,none⟩∧W.cell? ⟨b,i,none⟩=some (.pointer (some ⟨g.M,0,none⟩)):=by
 obtain ⟨a,c,rfl,_,_,_,hc⟩:=own_form h.1
 refine ⟨a,c,rfl,fun i g hg=>?_⟩
 obtain ⟨b,e,hb,_⟩:=hc i (ptrV g.M) (by rw [List.getElem?_map,hg];rfl)
 exact ⟨b,e,hb⟩
theorem MutsV.grow {g:MG} {gs2:List MG} (h:MutsV o W v gs) (hc:CW w W o G gs2 q x) {N:Nat} (hN:W.cell? ⟨N,0,none⟩=some (ptrV g.M)) (hl:gs.length≤100):∃ b cap W5,(app9 #[31,31] 31 #[v,.slice (some ⟨N,0,none⟩) 1 1]).run Tryz.prog W = .ok (.slice (some ⟨b,0,none⟩) (gs.length+1) cap) W5 ∧
 ∃ o',OExt W o o'∧CW w W5 o' G gs2 q x∧MutsV o' W5 (.slice (some ⟨b,0,none⟩) (gs.length+1) cap) (gs++[g])∧Keep (In o [97]) W W5:=by
 obtain ⟨b,cap,W5,hrun,hown,hgr,hq⟩:=app_where (P:=Tryz.prog) W 31 31 56 (by kernel_rfl) Tryz.infoPMut rfl h.1 (N:=N) (u:=ptrV g.M) hN rfl (by decide) (by omega)
 have k:Keep (In o [97]) W W5:=⟨hgr.os,hgr.tape,hgr.output,hgr.size,fun y hy hn=>hgr.block y hy (fun e=>hn (by
  have e':v.ownBlock=some y:=by first|exact e|exact e.symm
  unfold In
  rw [h.2 y e']
  simp))⟩
 have e:OExt W o (o.put b 97):=by
  rcases hq with hq|hq
  ·exact Ow.put_ext (.inr (h.2 b hq))
  ·exact Ow.put_ext (.inl hq)
 have hlt:b<W5.heap.size:=by
  rcases hown.2 with ⟨e1,_⟩|⟨g',cap',cur,e1,_,hg',_⟩
  ·cases e1
  ·cases e1;exact lt_of_block hg'
 have hf:Fut (o.put b 97) W5:=Ow.put_fut hc.coll.sh.fut k.size hlt
 refine ⟨b,cap,W5,hrun,o.put b 97,e,hc.moveE k rfl e hf,⟨?_,fun b' hb'=>?_⟩,k⟩
 ·rw [List.map_append,List.length_append]
  exact hown
 ·simp [Value.ownBlock] at hb'
  rw [← hb']
  exact Ow.put_same _ _ _
end
end
section
structure CP where
 H:HS
 κ:Nat
 mu:Nat
 bl:Nat
 ce:Nat
 lg:Nat
 regs:Nat→List Nat
def CP.rt (p:CP) (v:Nat):Prop:=(∃ j:Nat,j<p.ce∧v=p.H.cellP (j:Int))∨∃ i,i<p.mu∧v∈p.regs i
inductive CP.Rch (p:CP):Nat→Prop
 | root {v:Nat}:p.rt v→p.H.bn v=true→CP.Rch p v
 | fld {a j:Nat}:CP.Rch p a→j<(p.H.fieldsP a).1→p.H.bn (p.H.loadP a (j:Int))=true→CP.Rch p (p.H.loadP a (j:Int))
def CP.good (p:CP) (v:Nat):Prop:=p.H.bn v=true→p.Rch v
def CP.kb (p:CP):Bool:=p.κ==1
def CP.okv (p:CP) (co:Nat→Bool) (l v:Nat):Prop:=p.H.bn v=true→co v=p.kb∨v=l
def lookOf:CD→Nat
 | .look v _=>v
 | _=>0
def wkT:CD→Prop
 | .work=>True
 | .walk _=>True
 | .slots _ t=>wkT t
 | _=>False
def obT:CD→Prop
 | .work=>True
 | .empty t=>wkT t
 | _=>False
def lkT:CD→Prop
 | .cell _=>True
 | .work=>True
 | .box _=>True
 | .field _ _ _ t=>obT t
 | .empty t=>wkT t
 | _=>False
def mkP (ph:Nat):Prop:=ph=4∨ph=5
def CP.shp (p:CP) (ph:Nat):CD→Prop
 | .wait m t=>m<p.mu∧((ph=1∧t = .arm)∨(ph=2∧t = .scan)∨(ph=3∧t = .trace)∨(ph=5∧t = .work))
 | .arm=>ph=1
 | .scan=>ph=2
 | .trace=>ph=3
 | .cell i=>ph=4∧i<p.ce
 | .look _ t=>mkP ph∧lkT t∧(∀ i,t = .cell i→ph=4∧i<p.ce)∧∀ m,t = .box m→m<p.mu
 | .work=>mkP ph
 | .over=>mkP ph
 | .drain=>ph=4
 | .box m=>mkP ph∧m<p.mu
 | .marked=>ph=5
 | .object _ t=>mkP ph∧obT t
 | .field _ _ _ t=>mkP ph∧obT t
 | .walk b=>mkP ph∧b<p.bl
 | .slots l t=>mkP ph∧l≠[]∧wkT t
 | .empty t=>mkP ph∧wkT t
 | _=>False
def CP.ahead (p:CP) (a:Nat):CD→Prop
 | .look _ t=>CP.ahead p a t
 | .object b t=>a=b∨CP.ahead p a t
 | .field b _ _ t=>a=b∨CP.ahead p a t
 | .slots l t=>a∈l∨CP.ahead p a t
 | .walk b=>∃ B,b≤B∧B<p.bl∧a∈p.H.slots B
 | .empty t=>CP.ahead p a t
 | _=>False
def CP.fldOk (p:CP) (ok:Nat→Prop):CD→Prop
 | .look _ t=>CP.fldOk p ok t
 | .field a i n t=>(n=(p.H.fieldsP a).1∧i<n∧∀ j:Nat,j<i→ok (p.H.loadP a (j:Int)))∧CP.fldOk p ok t
 | .object _ t=>CP.fldOk p ok t
 | .slots _ t=>CP.fldOk p ok t
 | .empty t=>CP.fldOk p ok t
 | _=>True
def CP.srcOk (p:CP):CD→Prop
 | .look v t=>p.good v∧CP.srcOk p t
 | .object a t=>p.Rch a∧CP.srcOk p t
 | .field a _ _ t=>p.Rch a∧CP.srcOk p t
 | .slots _ t=>CP.srcOk p t
 | .empty t=>CP.srcOk p t
 | _=>True
def CP.cellIx (p:CP):CD→Nat
 | .cell i=>i
 | .look _ t=>CP.cellIx p t
 | _=>p.ce
def CP.boxIx (p:CP):CD→Nat
 | .box m=>m
 | .look _ t=>CP.boxIx p t
 | .over=>p.mu
 | .marked=>p.mu
 | _=>0
def lastC:CD→Bool
 | .over=>true
 | .marked=>true
 | _=>false
def scanT:MD→Prop
 | .once k=>k=3
 | .note _ _ t=>scanT t
 | _=>False
def tailT:MD→Prop
 | .add _ t=>scanT t
 | .once _=>True
 | _=>False
def shpM (buf:List Nat):MD→Prop
 | .nil=>True
 | .once k=>k=5→buf=[]
 | .note _ _ t=>scanT t
 | .add _ t=>buf=[]∧scanT t
 | .pour _ t=>tailT t
 | .paint _ _ t=>tailT t
 | .raise t=>buf=[]∧tailT t
 | _=>False
def endK:MD→Int
 | .once k=>k
 | .note _ _ t=>endK t
 | .add _ t=>endK t
 | .pour _ t=>endK t
 | .paint _ _ t=>endK t
 | .raise t=>endK t
 | _=>0
def notesM:MD→List Nat
 | .note v _ t=>v::notesM t
 | .add v t=>v::notesM t
 | .pour _ t=>notesM t
 | .paint _ _ t=>notesM t
 | .raise t=>notesM t
 | _=>[]
def prM:MD→Bool
 | .paint _ f _=>f
 | .raise _=>true
 | _=>false
def CP.goodM (p:CP):MD→Prop
 | .note v c t=>p.good v∧c=p.κ∧CP.goodM p t
 | .add v t=>p.good v∧CP.goodM p t
 | .pour c t=>c=p.κ∧CP.goodM p t
 | .paint c _ t=>c=p.κ∧CP.goodM p t
 | .raise t=>CP.goodM p t
 | _=>True
structure BI (mu:Nat) (b:Bd):Prop where
 muts:b.muts=(mu:Int)
 len:b.os.length=8
 le:mu≤8
 out:∀ i,mu≤i→b.os.getD i false=false
structure MI (p:CP) (s:Sh) (l ph:Nat) (i:Nat) (m:MS):Prop where
 id:m.id=i
 prog:m.prog.length≤m.res.length
 regs:m.regs=p.regs i
 lg:1≤m.c.l.toNat
 want:(ph=1∧s.B.pend i=true)∨m.want=p.κ
 color:m.color=if ph<3∨(ph=3∧s.B.pend i=true) then 1 - p.κ else p.κ
 idle:s.B.pend i=false→m.next = .nil
 kind:s.B.pend i=true→s.B.kind=(ph:Int)
 endk:m.next ≠ .nil→endK m.next=(ph:Int)
 shp:shpM m.buf m.next
 gd:p.goodM m.next
 buf:∀ v∈m.buf,p.good v
 reg:3≤ph→¬ (ph=3∧s.B.pend i=true∧m.next = .nil)→∀ v∈m.regs,p.okv s.H.co l v∨v∈m.buf∨v∈s.box i∨v∈notesM m.next
 buf5:ph=5→s.B.pend i=false→m.buf=[]
def pwW (x:WS):Prop:=x.s.flag=true∨x.coll.over=true∨∃ (i:Nat) (m:MS),x.muts[i]?=some m∧prM m.next=true
structure MInv (p:CP) (x:WS):Prop where
 k2:p.κ<2
 mu8:1≤p.mu∧p.mu≤8
 heap:∃ f,x.s.H={ p.H with co:=f }
 muts:x.muts.length=p.mu
 cmu:x.coll.muts=p.mu
 box:x.s.boxes.length=p.mu
 col:x.coll.color=p.κ
 cbl:x.coll.blocks=p.bl
 cce:x.coll.cells=p.ce
 bd:BI p.mu x.s.B
 mut_:∀ i m,x.muts[i]?=some m→MI p x.s (lookOf x.coll.next) x.coll.phase i m
 wt:∀ i,i<p.mu→x.s.B.pend i=true→∃ m t,x.coll.next = .wait m t∧m≤i
 ph:1≤x.coll.phase∧x.coll.phase≤5
 shp:p.shp x.coll.phase x.coll.next
 src:p.srcOk x.coll.next
 stk:∀ a∈x.coll.stk,p.Rch a
 bxs:∀ i,∀ v∈x.s.box i,p.good v
 pnt:∀ a,p.H.bn a=true→x.s.H.co a=p.kb→p.Rch a
 fld:p.fldOk (p.okv x.s.H.co (lookOf x.coll.next)) x.coll.next
 cel:4≤x.coll.phase→∀ j:Nat,j<p.cellIx x.coll.next→p.okv x.s.H.co (lookOf x.coll.next) (p.H.cellP (j:Int))
 clo:pwW x∨∀ a,p.H.bn a=true→x.s.H.co a=p.kb→a∈x.coll.stk∨p.ahead a x.coll.next∨∀ j:Nat,j<(p.H.fieldsP a).1→p.okv x.s.H.co (lookOf x.coll.next) (p.H.loadP a (j:Int))
 bx:∀ j,j<p.boxIx x.coll.next→x.s.box j=[]
 stk0:lastC x.coll.next=true→x.coll.stk=[]
 mk0:x.coll.next = .marked→x.s.flag=false∧x.coll.over=false
 q:(∀ k,x.s.Q.rw k=[])∧x.s.Q.opn=0∧x.s.Q.rows.length=4
end
section
section
variable {p:CP} {x y:WS} {s s':Sh} {m m':MS} {i l l' ph:Nat}
structure MU (p:CP) (s:Sh) (m:MS) (l ph i:Nat) (s':Sh) (m':MS):Prop where
 heap:∃ f,s'.H={ p.H with co:=f }
 mono:∀ a,p.H.bn a=true→s.H.co a=p.kb→s'.H.co a=p.kb
 pnt:∀ a,p.H.bn a=true→s'.H.co a=p.kb→p.Rch a
 len:s'.boxes.length=s.boxes.length
 oth:∀ j,j≠i→s'.box j=s.box j
 bx:∀ v∈s'.box i,p.good v
 bxw:s'.box i=s.box i∨s.B.pend (i:Int)=true
 bd:BI p.mu s'.B
 kind:s'.B.kind=s.B.kind
 pend:∀ j:Nat,j≠i→s'.B.pend (j:Int)=s.B.pend (j:Int)
 pendi:s'.B.pend (i:Int)=true→s.B.pend (i:Int)=true
 q:s'.Q=s.Q
 mi:MI p s' l ph i m'
 flag:s.flag=true→s'.flag=true
 flag2:s'.flag=true→s.flag=true∨s.B.pend (i:Int)=true
 pr:prM m.next=true→prM m'.next=true∨s'.flag=true
 new:∀ a,p.H.bn a=true→s'.H.co a=p.kb→s.H.co a=p.kb∨prM m'.next=true∨s'.flag=true
end
end
section
def cntF (f:Nat→Bool) (n:Nat):Nat:=((List.range n).filter f).length
structure CPk (p:CP) (hf:Nat):Prop where
 bn:∀ a,p.H.bn a=true→1≤a∧a<p.H.sz
 nf:∀ a,(p.H.fieldsP a).1≤15
 ahead:∀ a,p.H.bn a=true→∃ B,B<p.bl∧a∈p.H.slots B
 slen:∀ B,(p.H.slots B).length≤hf
def CP.U (p:CP) (co:Nat→Bool):Nat:=cntF (fun a=>p.H.bn a&&(co a != p.kb)) p.H.sz
def left:MD→Nat
 | .once _=>1
 | .note _ _ t=>8+left t
 | .add _ t=>4+left t
 | .pour _ t=>3+left t
 | .paint _ _ t=>2+left t
 | .raise t=>1+left t
 | _=>0
def todoA (s:Sh) (i:Nat) (m:MS):Nat:=3*m.buf.length+if s.B.pend (i:Int) then (if isNil m.next then 1+left (beginD s m) else left m.next) else 0
section
variable {p:CP} {x y:WS} {s s':Sh} {m m':MS} {i l l' ph hf:Nat}
structure MC (p:CP) (s:Sh) (m:MS) (i:Nat) (s':Sh) (m':MS):Prop where
 less:todoA s' i m'+2*(s'.box i).length+1≤todoA s i m+2*(s.box i).length
 pnt:p.U s'.H.co+1≤p.U s.H.co∨(p.U s'.H.co=p.U s.H.co∧(prM m'.next=true∨s'.flag=true→prM m.next=true∨s.flag=true))
end
end
section
section
variable {p:CP} {x y:WS} {s s':Sh} {m m':MS} {i l l' ph hf:Nat}
structure PC (p:CP) (s:Sh) (m:MS) (i:Nat) (s':Sh) (m':MS):Prop where
 less:todoA s' i m'+2*(s'.box i).length+(if s.B.pend (i:Int) then 1 else 0)≤todoA s i m+2*(s.box i).length
 pnt:p.U s'.H.co+1≤p.U s.H.co∨(p.U s'.H.co=p.U s.H.co∧(prM m'.next=true∨s'.flag=true→prM m.next=true∨s.flag=true))
end
end
section
def stepW (x:WS) (d:CD):WS:={ x with s:=(stepC x.s x.coll d).s,coll:={ (stepC x.s x.coll d).c with next:=(stepC x.s x.coll d).next } }
section
variable {p:CP} {x y:WS} {s s':Sh} {m m':MS} {i l l' ph ph' hf:Nat} {c':CS}
end
end
section
section
variable {p:CP} {x y:WS} {s s':Sh} {m m':MS} {i l l' ph ph' hf:Nat} {c':CS}
def CP.wkS (p:CP):CD→Prop
 | .walk b=>b<p.bl
 | .slots l t=>l≠[]∧CP.wkS p t
 | .empty t=>CP.wkS p t
 | .object _ t=>CP.wkS p t
 | .field _ _ _ t=>CP.wkS p t
 | .look _ t=>CP.wkS p t
 | _=>True
end
end
section
section
variable {p:CP} {x y:WS} {s s':Sh} {m m':MS} {i l l' ph ph' hf:Nat} {H:HS}
theorem slots_le (H:HS) (B:Nat):(H.slots B).length≤H.ww/2:=by
 unfold HS.slots
 split
 ·exact Nat.zero_le _
 ·rename_i e
  have hl:∀ a b c:Nat,(slotsL a b c).length=a:=fun a b c=>by simp [slotsL]
  rw [hl]
  have h2:2≤2^H.K.getD B 0:=by
   have:2^1≤2^H.K.getD B 0:=Nat.pow_le_pow_right (by decide) (by omega)
   exact this
  exact Nat.div_le_div_left h2 (by decide)
structure Freed (H H':HS) (a:Nat):Prop where
 inv:HInv H'
 bn:∀ c,H'.bn c=if c=a then false else H.bn c
 co:H'.co=H.co
 K:H'.K=H.K
 b:H'.b=H.b
 ww:H'.ww=H.ww
 c:H'.c=H.c
 cells:H'.cells=H.cells
 fld:∀ d,H.bn d=true→d≠a→H'.fieldsP d=H.fieldsP d∧∀ j:Nat,H'.loadP d (j:Int)=H.loadP d (j:Int)
end
end
section
structure SM (p:CP) (s:Sh) (i:Nat) (m:MS):Prop where
 id:m.id=i
 prog:m.prog.length≤m.res.length
 regs:m.regs=p.regs i
 lg:1≤m.c.l.toNat
 want:m.want=p.κ
 color:m.color=p.κ
 buf:m.buf=[]
 nx:m.next = .nil∨(m.next = .once 7∧s.B.pend (i:Int)=true)
 kind:s.B.pend (i:Int)=true→s.B.kind=7
def CP.shpS (p:CP) (ph:Nat):CD→Prop
 | .enqueue b=>ph=6∧b<p.bl
 | .sweep=>ph=6
 | .block _=>ph=6
 | .rests=>ph=6
 | .off=>ph=6
 | .wait m t=>ph=7∧m<p.mu∧t = .idle
 | .idle=>ph=7
 | _=>False
def blockC:CD→Bool
 | .block _=>true
 | _=>false
def restC:CD→Bool
 | .rests=>true
 | .off=>true
 | .wait _ _=>true
 | .idle=>true
 | _=>false
def CP.todoS (p:CP) (q:Qu) (d:CD) (a:Nat):Prop :=
 (∃ b B k,d = .enqueue b∧p.H.owner a=some (B,k)∧b≤B)∨(∃ B k j,p.H.owner a=some (B,k)∧j<4∧(B:Int)∈q.rw j)∨∃ sl,d = .block sl∧a∈sl
structure SInv (p:CP) (x:WS) (dead:List Nat):Prop where
 k2:p.κ<2
 mu8:1≤p.mu∧p.mu≤8
 muts:x.muts.length=p.mu
 cmu:x.coll.muts=p.mu
 box:x.s.boxes.length=p.mu
 col:x.coll.color=p.κ
 cbl:x.coll.blocks=p.bl
 cce:x.coll.cells=p.ce
 hbl:p.bl=p.H.b
 inv:HInv x.s.H
 bn:∀ a,x.s.H.bn a=true↔p.H.bn a=true∧a∉dead
 co:∀ a,p.H.bn a=true→(x.s.H.co a=p.kb↔p.Rch a)
 nd:dead.Nodup
 dd:∀ a∈dead,p.H.bn a=true∧¬ p.Rch a
 geo:x.s.H.K=p.H.K∧x.s.H.b=p.H.b∧x.s.H.ww=p.H.ww∧x.s.H.c=p.H.c∧x.s.H.cells=p.H.cells
 fld:∀ a,p.Rch a→x.s.H.fieldsP a=p.H.fieldsP a∧∀ j:Nat,x.s.H.loadP a (j:Int)=p.H.loadP a (j:Int)
 bd:BI p.mu x.s.B
 mut_:∀ i m,x.muts[i]?=some m→SM p x.s i m
 wt:∀ i,i<p.mu→x.s.B.pend (i:Int)=true→∃ m t,x.coll.next = .wait m t∧m≤i
 bxs:∀ i,x.s.box i=[]
 stk:x.coll.stk=[]
 fl:x.s.flag=false∧x.coll.over=false
 ql:x.s.Q.rows.length=4
 qn:∀ k,∀ b∈x.s.Q.rw k,∃ B:Nat,b=(B:Int)
 opn:x.s.Q.opn=if blockC x.coll.next then 1 else 0
 qe:restC x.coll.next=true→∀ k,x.s.Q.rw k=[]
 shp:p.shpS x.coll.phase x.coll.next
 rest:∀ a,x.s.H.bn a=true→¬ p.Rch a→p.todoS x.s.Q x.coll.next a
section
variable {p:CP} {x y:WS} {s s':Sh} {m m':MS} {i l l' ph ph' hf:Nat} {H:HS} {dead:List Nat}
end
end
section
structure IM (κ:Nat) (i:Nat) (m:MS):Prop where
 id:m.id=i
 prog:m.prog.length≤m.res.length
 lg:1≤m.c.l.toNat
 color:m.color=κ
 buf:m.buf=[]
 nx:m.next = .nil
structure Idl (mu bl ce κ:Nat) (x:WS):Prop where
 k2:κ<2
 mu8:1≤mu∧mu≤8
 muts:x.muts.length=mu
 cmu:x.coll.muts=mu
 box:x.s.boxes.length=mu
 col:x.coll.color=κ
 cbl:x.coll.blocks=bl
 cce:x.coll.cells=ce
 hb:bl=x.s.H.b
 inv:HInv x.s.H
 all:∀ a,x.s.H.bn a=true→x.s.H.co a=(κ==1)
 bd:BI mu x.s.B
 nop:∀ i,i<mu→x.s.B.pend (i:Int)=false
 mut_:∀ i m,x.muts[i]?=some m→IM κ i m
 bxs:∀ i,x.s.box i=[]
 stk:x.coll.stk=[]
 fl:x.s.flag=false∧x.coll.over=false
 q:(∀ k,x.s.Q.rw k=[])∧x.s.Q.opn=0∧x.s.Q.rows.length=4
 ph:x.coll.phase=0
 nx:x.coll.next = .nil
def cpOf (mu bl ce κ:Nat) (x:WS):CP:=⟨x.s.H,1 - κ,mu,bl,ce,0,fun i=>((x.muts[i]?).map MS.regs).getD []⟩
def startW (x:WS):WS:={ x with s:=(startC x.s x.coll).s,coll:={ (startC x.s x.coll).c with next:=(startC x.s x.coll).next } }
section
variable {p:CP} {x y:WS} {s s':Sh} {m m':MS} {i l l' ph ph' hf mu bl ce κ:Nat} {H:HS} {dead:List Nat} {q:Qu}
inductive Cyc (p:CP):WS→List Nat→Prop
 | mark {x:WS}:MInv p x→p.wkS x.coll.next→Cyc p x []
 | sweep {x:WS} {dead:List Nat}:SInv p x dead→Cyc p x dead
theorem pickW_mut (x:WS) {i:Nat} {m:MS} (hm:x.muts[i]?=some m):(pickW x i).s=(pickM x.s m).1∧(pickW x i).muts=x.muts.set i (pickM x.s m).2.1∧(pickW x i).coll=x.coll:=by
 unfold pickW
 rw [hm]
 cases h:(pickM x.s m).2.2<;>exact ⟨by simp only [h,WS.tell],by simp only [h,WS.tell],by simp only [h,WS.tell]⟩
inductive Tells (p:CP) (x:WS) (dead:List Nat) (x':WS) (dead':List Nat) (ev:Option Ev):Prop
 | none:ev=none→dead'=dead→Cyc p x' dead'→Tells p x dead x' dead' ev
 | marked:ev=some (x.coll.ev 3 x.coll.cycles)→dead'=[]→dead=[]→Cyc p x' dead'→x.coll.next = .marked→x'.coll.phase=6→x'.coll.stk=[]→(∀ a,p.Rch a↔p.H.bn a=true∧x'.s.H.co a=p.kb)→x'.s.H.bn=p.H.bn→Tells p x dead x' dead' ev
 | freed {a:Nat}:ev=some (x.coll.ev 5 a)→dead'=dead++[a]→Cyc p x' dead'→SInv p x dead→x'.s.H.bn a=false→Tells p x dead x' dead' ev
 | rested:ev=some (x.coll.ev 4 x.coll.cycles)→dead'=dead→Idl p.mu p.bl p.ce p.κ x'→SInv p x dead→x.coll.next = .idle→x'=stepW x .idle→(∀ a,x'.s.H.bn a=true↔p.Rch a)→Tells p x dead x' dead' ev
end
end
section
def sumN (f:Nat→Nat):Nat→Nat
 | 0=>0
 | n+1=>sumN f n+f n
def CP.ak (p:CP) (R:Nat):Nat:=p.mu*(8*R+6)
def CP.rM (p:CP) (hf R:Nat):Nat:=1+p.bl*(hf+4)+(p.ak R+5)
def CP.dr (p:CP) (R:Nat):Nat:=p.ak R+p.mu+4
def CP.rW (p:CP) (hf R:Nat):Nat:=p.mu+3+p.rM hf R
def CP.wk (p:CP) (hf R:Nat):Nat:=p.dr R+p.bl*(34*hf+1)+p.mu+4
def CP.big (p:CP) (hf R:Nat):Nat:=34+p.wk hf R+p.dr R+p.mu+2
def CP.rT (p:CP) (hf R:Nat):Nat:=1+p.dr R+2*p.ce+p.rW hf R
def CP.rk (p:CP) (hf R:Nat):CD→Nat
 | .nil=>0
 | .idle=>1
 | .off=>p.ak R+3
 | .rests=>p.ak R+4
 | .sweep=>p.ak R+5
 | .enqueue b=>(p.bl - b)*(hf+4)+(p.ak R+5)
 | .block sl=>sl.length+1+(p.ak R+5)
 | .marked=>p.rM hf R
 | .drain=>1+p.rM hf R
 | .over=>2+p.rM hf R
 | .box m=>(p.mu - m)+2+p.rM hf R
 | .work=>p.rW hf R
 | .cell i=>2*(p.ce - i)+p.rW hf R
 | .trace=>p.rT hf R
 | .scan=>1+p.ak R+p.rT hf R
 | .arm=>2+p.ak R+p.ak R+p.rT hf R
 | .wait m t=>(p.mu - m)+CP.rk p hf R t
 | .look _ t=>1+CP.rk p hf R t
 | .object _ t=>32+CP.rk p hf R t
 | .field _ i n t=>2*(n - i)+1+CP.rk p hf R t
 | .walk b=>(p.bl - b)*(34*hf+1)+p.rW hf R
 | .slots l t=>34*l.length+CP.rk p hf R t
 | .empty t=>1+CP.rk p hf R t
def boxy:CD→Bool
 | .box _=>true
 | .look _ t=>boxy t
 | _=>false
def oneT (x:WS) (i:Nat):Nat:=match x.muts[i]? with
 | some m=>todoA x.s i m+2*(x.s.box i).length
 | none=>0
def CP.T (p:CP) (x:WS):Nat:=sumN (oneT x) p.mu
def pwB (x:WS):Bool:=x.s.flag||x.coll.over||x.muts.any (fun m=>prM m.next)
def dB (x:WS):Bool:=x.coll.fresh||x.coll.phase==4
def exB (x:WS):Bool:=boxy x.coll.next && !x.coll.stk.isEmpty
def Qu.qs (q:Qu):Nat:=(q.rw 0).length+(q.rw 1).length+(q.rw 2).length+(q.rw 3).length
def CP.phi (p:CP) (hf R:Nat) (x:WS):Nat :=
 p.T x+p.rk hf R x.coll.next+33*x.coll.stk.length+(if exB x then p.mu+1 else 0)+p.U x.s.H.co*p.big hf R+(if pwB x then p.wk hf R else 0)+(if dB x then p.dr R else 0)+x.s.Q.qs*(hf+3)
section
variable {p:CP} {x y:WS} {s s':Sh} {m m':MS} {i l l' ph ph' hf R mu bl ce κ:Nat} {H:HS} {dead:List Nat} {q:Qu}
end
end
section
open Go.RowKit
attribute [local go_sem] Oper.semAt_some
def fewD:MD→Prop
 | .nil=>True
 | .once _=>True
 | .note _ _ t=>fewD t
 | .add _ t=>fewD t
 | .pour _ t=>fewD t
 | .paint _ _ t=>fewD t
 | .raise t=>fewD t
 | .get _=>True
 | .start o=>o.k=4
 | _=>False
def fewP (m:MS):Prop:=fewD m.next∧∀ o∈m.prog,o.k=4
section
variable {o:Ow} {w w':World} {G:Geo} {g:MG} {s:Sh} {m:MS} {nv:Value} {ev:Option Ev} {N:Nat}
theorem mStart_few (h:MAt o w G g s m none nv) (op:OpR) (hk:op.k=4) (hres:m.res.length≤1000000000):Calls Tryz.prog 93 #[.pointer (some ⟨g.M,0,none⟩),.agg op.cells.toArray] w (StepPost o w G g nv m.id (startR s m op)):=by
 by_cases he:chk m.c op=0
 case neg =>
  have e1:startR s m op=didR s m (chk m.c op) 0:=by unfold startR;rw [if_pos he]
  rw [e1]
  exact mStart_err h op he hres
 have e0:startR s m op=⟨s,m,.get op,none⟩:=by
  unfold startR
  rw [if_neg (by simpa using he),if_neg (by omega),if_neg (by omega),if_neg (by omega),if_pos hk]
 rw [e0]
 exact mStart_go h op he 187 (by rw [hk];rfl) (fun args w=>by simp [callFunc,Tryz.func187,go_sem];rfl) _ (fun W k=>by
  have h9:=mGet_post (h.still k) op
  exact h9)
theorem stepH_few (d:MD) (hf:fewD d):StepH d:=by
 intro o w G g s m nv N h ok hN hd v hv hnil
 have hres:m.res.length≤1000000000:=Nat.le_trans ok.res hN
 cases d with
 | nil=>cases hnil
 | add x t =>
   obtain ⟨tv,ht,bs,e,hc⟩:=hv
   obtain ⟨b0,b1,b2,rfl,⟨o0,k0⟩,⟨o1,k1⟩,⟨o2,k2⟩⟩:=caps3 hc
   refine ⟨_,_,e,cf_Noter_Note_1,(stAdd_any h x t tv ht b0 b1 b2 o0 o1 o2 k0 k1 k2).mono ?_⟩
   rintro e w' ⟨rfl,h1,h2,h3⟩
   have ee:(stepM s m (.add x t)).next=t∧(stepM s m (.add x t)).ev=none:=by
    simp only [stepM]
    split<;>exact ⟨rfl,rfl⟩
   refine StepPost.same (by rw [ee.2];exact h1) (by rw [ee.1];exact h2) h3
 | start o =>
   obtain ⟨bs,e,hc⟩:=stStart_of h o v hv (mStart_few h o hf hres)
   exact ⟨_,bs,e,cf_Mut_begin_1,hc⟩
 | once k =>
   obtain ⟨bs,e,hc⟩:=stOnce_any h k v hv ok.color
   exact ⟨_,bs,e,cf_note_Once_1,hc⟩
 | note x c t =>
   obtain ⟨bs,e,hc⟩:=stNote_any h x c t v hv
   exact ⟨_,bs,e,cf_Noter_Note_2,hc⟩
 | pour c t =>
   obtain ⟨bs,e,hc⟩:=stPour_any h c t v hv
   exact ⟨_,bs,e,cf_Noter_Pour_1,hc⟩
 | paint c f t =>
   obtain ⟨bs,e,hc⟩:=stPaint_any h c f t v hv
   exact ⟨_,bs,e,cf_Noter_paint_1,hc⟩
 | raise t =>
   obtain ⟨bs,e,hc⟩:=stRaise_any h t v hv
   exact ⟨_,bs,e,cf_Noter_paint_1_1,hc⟩
 | get o =>
   obtain ⟨bs,e,hc⟩:=stGet_any h o v hv hd.1 hd.2 hres
   exact ⟨_,bs,e,cf_Mut_get_1,hc⟩
 | _=>exact hf.elim
end
theorem fewD_note {v c:Nat} {t:MD} (h:fewD t):fewD (noteD v c t):=by
 unfold noteD
 split<;>exact h
theorem fewD_pour {m:MS} {c:Nat} {t:MD} (h:fewD t):fewD (m.pourD c t):=by
 unfold MS.pourD
 split<;>exact h
theorem fewD_scan (w:Nat):∀ l:List Nat,fewD (scanD w l)
 | []=>trivial
 | v::l=>fewD_note (fewD_scan w l)
theorem fewD_begin (s:Sh) {m:MS} (h:∀ o∈m.prog,o.k=4):fewD (beginD s m):=by
 unfold beginD
 split
 ·split
  ·exact fewD_scan _ _
  ·split
   ·exact fewD_pour trivial
   ·trivial
 ·split
  ·rename_i o ho
   exact h o (List.mem_of_getElem? ho)
  ·trivial
theorem fewD_step (s:Sh) (m:MS) (d:MD) (h:fewD d):fewD (stepM s m d).next∧(stepM s m d).m.prog=m.prog:=by
 cases d with
 | nil=>exact ⟨trivial,rfl⟩
 | once k =>
   refine ⟨trivial,?_⟩
   show (onceM m k).prog=m.prog
   unfold onceM
   repeat' split
   all_goals rfl
 | note v c t =>
   simp only [stepM]
   split
   ·exact ⟨h,rfl⟩
   ·split
    ·exact ⟨fewD_pour h,rfl⟩
    ·exact ⟨h,rfl⟩
 | add v t =>
   simp only [stepM]
   split<;>exact ⟨h,rfl⟩
 | pour c t =>
   simp only [stepM]
   split<;>exact ⟨h,rfl⟩
 | paint c f t =>
   simp only [stepM]
   refine ⟨?_,trivial⟩
   split
   ·exact h
   ·split<;>exact h
 | raise t=>exact ⟨h,rfl⟩
 | get o=>exact ⟨trivial,rfl⟩
 | start o =>
   have hk:o.k=4:=h
   have e:startR s m o=didR s m (chk m.c o) 0∨startR s m o=⟨s,m,.get o,none⟩:=by
    unfold startR
    by_cases hc:chk m.c o≠0
    ·rw [if_pos hc];exact .inl rfl
    ·rw [if_neg hc,if_neg (by omega),if_neg (by omega),if_neg (by omega),if_pos hk]
     exact .inr rfl
   show fewD (startR s m o).next∧(startR s m o).m.prog=m.prog
   rcases e with e|e<;>rw [e]<;>exact ⟨True.intro,rfl⟩
 | _=>exact h.elim
theorem few_pick (s:Sh) {m:MS} (h:fewP m):fewP (pickM s m).2.1:=by
 unfold pickM
 split
 ·exact ⟨fewD_begin s h.2,h.2⟩
 ·obtain ⟨h1,h2⟩:=fewD_step s { m with spent:=m.spent+1 } m.next h.1
  generalize stepM s { m with spent:=m.spent+1 } m.next=r at *
  simp only
  split
  ·have e:∀ M:MS,M.most.next=M.next∧M.most.prog=M.prog:=fun M=>by
    unfold MS.most
    split<;>exact ⟨rfl,rfl⟩
   refine ⟨by rw [(e _).1];trivial,by rw [(e _).2];intro o ho;exact h.2 o (by rw [← h2];exact ho)⟩
  ·exact ⟨h1,fun o ho=>h.2 o (by rw [← h2];exact ho)⟩
def fewW (x:WS):Prop:=∀ m∈x.muts,fewP m
theorem few_pickW {x:WS} (h:fewW x) (i:Nat):fewW (pickW x i):=by
 have tl:∀ (y:WS) ev,(y.tell ev).muts=y.muts:=fun y ev=>by cases ev<;>rfl
 intro m hm
 unfold pickW at hm
 cases hi:x.muts[i]? with
 | some m0 =>
   rw [hi] at hm
   simp only [tl] at hm
   rcases List.mem_or_eq_of_mem_set hm with g|g
   ·exact h m g
   ·rw [g];exact few_pick _ (h m0 (List.mem_of_getElem? hi))
 | none =>
   rw [hi] at hm
   simp only at hm
   split at hm
   ·rw [tl] at hm;exact h m hm
   ·rw [tl] at hm;exact h m hm
end
end Go.Proofs.YtanfphjoebobaaaGreatDoor
