/- Parts of a walk, put together and made shorter by a program of mine. No conditions. -/
import Derived.Test.YtanfphjoebobaaaGreatDoorZzcam
import Derived.Test.YtanfphjoebobaaaGreatDoorZzcal
namespace Go.Proofs.YtanfphjoebobaaaGreatDoor
set_option maxHeartbeats 1000000
section
structure MkR (H H':HS):Prop where
 b:H'.b=H.b
 ww:H'.ww=H.ww
 c:H'.c=H.c
 cells:H'.cells=H.cells
 co:(∀ a,H.co a=false)→∀ a,H'.co a=false
theorem MkR.refl (H:HS):MkR H H:=⟨rfl,rfl,rfl,rfl,fun h=>h⟩
theorem MkR.trans {H H' H'':HS} (h:MkR H H') (k:MkR H' H''):MkR H H'':=⟨k.b.trans h.b,k.ww.trans h.ww,k.c.trans h.c,k.cells.trans h.cells,fun g=>k.co (h.co g)⟩
section
variable {H:HS}
theorem MkR.put (a:Nat):MkR H (H.dU a):=by
 unfold HS.dU
 split
 ·exact MkR.refl H
 ·split
  ·exact MkR.refl H
  ·exact ⟨rfl,rfl,rfl,rfl,fun h=>h⟩
theorem MkR.fE:∀ (l:List Nat) (H:HS),MkR H (H.fE l)
 | [],H=>MkR.refl H
 | a::l,H=>(MkR.put a).trans (MkR.fE l (H.dU a))
theorem MkR.store (a:Nat) (f:Int) (v:Nat):MkR H (H.dY a f v):=by
 unfold HS.dY
 split
 ·exact ⟨rfl,rfl,rfl,rfl,fun h=>h⟩
 ·exact MkR.refl H
theorem MkR.iW (a:Nat):∀ i,MkR H (H.iW a i)
 | 0=>MkR.refl H
 | i+1=>(MkR.iW a i).trans (MkR.store _ _ _)
theorem MkR.slot (k:Nat):MkR H (H.cu k).2.2:=by
 unfold HS.cu
 split
 ·unfold HS.dL
  split
  ·exact MkR.refl H
  ·exact ⟨rfl,rfl,rfl,rfl,fun h=>h⟩
 ·split
  ·refine MkR.trans ?_ (MkR.fE _ _)
   unfold HS.bJ
   split
   ·exact MkR.refl H
   ·exact ⟨rfl,rfl,rfl,rfl,fun h=>h⟩
  ·exact MkR.refl H
theorem MkR.begin (a:Nat) (f:Int):MkR H (H.fJ a f):=by
 unfold HS.fJ
 split
 ·exact MkR.refl H
 ·split
  ·exact ⟨rfl,rfl,rfl,rfl,fun h=>h⟩
  ·exact MkR.refl H
theorem MkR.bear (a:Nat):MkR H (H.iH a 0):=by
 unfold HS.iH
 split
 ·refine ⟨rfl,rfl,rfl,rfl,fun h x=>?_⟩
  show upd H.co a (0==1) x=false
  unfold upd
  split
  ·rfl
  ·exact h x
 ·exact MkR.refl H
theorem MkR.make (f:Nat):MkR H (H.jX f 0).2:=by
 unfold HS.jX
 split
 ·exact ((MkR.slot _).trans (MkR.begin _ _)).trans ((MkR.iW _ _).trans (MkR.bear _))
 ·exact MkR.slot _
end
theorem IQ:∀ (sz:List Nat) (H:HS),MkR H (bP H sz)
 | [],H=>MkR.refl H
 | z::l,H=>(MkR.make (z%4)).trans (IQ l (H.jX (z%4) 0).2)
structure LyR (H H':HS):Prop where
 b:H'.b=H.b
 ww:H'.ww=H.ww
 c:H'.c=H.c
 cl:H'.cells.length=H.cells.length
 co:H'.co=H.co
 bn:H'.bn=H.bn
 K:H'.K=H.K
theorem LyR.refl (H:HS):LyR H H:=⟨rfl,rfl,rfl,rfl,rfl,rfl,rfl⟩
theorem LyR.trans {H H' H'':HS} (h:LyR H H') (k:LyR H' H''):LyR H H'':=⟨k.b.trans h.b,k.ww.trans h.ww,k.c.trans h.c,k.cl.trans h.cl,k.co.trans h.co,k.bn.trans h.bn,k.K.trans h.K⟩
section
variable {H:HS}
theorem LyR.store (a:Nat) (f:Int) (v:Nat):LyR H (H.dY a f v):=by
 unfold HS.dY
 split
 ·exact ⟨rfl,rfl,rfl,rfl,rfl,rfl,rfl⟩
 ·exact LyR.refl H
theorem LyR.set (i:Int) (v:Nat):LyR H (H.kN i v):=by
 unfold HS.kN
 split
 ·exact ⟨rfl,rfl,rfl,by show (H.cells.set _ _).length=_;rw [List.length_set],rfl,rfl,rfl⟩
 ·exact LyR.refl H
end
theorem AZ (all fl:List Nat) (a:Nat) (p:HS × Nat):∀ f,LyR p.1 (bK all fl a p f).1
 | 0=>LyR.refl _
 | f+1=>by
   show LyR p.1 (if (bK all fl a p f).2<fl.length then _ else bK all fl a p f).1
   split
   ·exact (AZ all fl a p f).trans (LyR.store _ _ _)
   ·exact AZ all fl a p f
theorem IU (all fl:List Nat) (p:HS × Nat):∀ i,LyR p.1 (iE all fl p i).1
 | 0=>LyR.refl _
 | i+1=>(IU all fl p i).trans (AZ _ _ _ _ _)
theorem Gf (all ce:List Nat) (H:HS):∀ i,LyR H (l9 all ce H i)
 | 0=>LyR.refl _
 | i+1=>(Gf all ce H i).trans (LyR.set _ _)
theorem Sr (H:HS) (sz fl ce:List Nat):LyR (bP H sz) (mJ H sz fl ce) :=
 (IU (bP H sz).objs fl (bP H sz,0) (bP H sz).objs.length).trans (Gf _ _ _ _)
structure qN (c:aB) (H:HS) (n:Nat) (P:List OpR) (x:WS):Prop where
 s:x.s={ Sh.new c c.b.toNat c.w.toNat c.c.toNat n with H:=H }
 coll:x.coll=CS.new c n
 len:x.muts.length=n
 oth:∀ i m,x.muts[i]?=some m→1≤i→m=MS.new c i []
 one:∀ m,x.muts[0]?=some m→m.id=0∧m.c=c∧m.prog=P∧m.res.length≤P.length∧m.color=0∧m.buf=[]∧m.mode=0∧m.ans=false∧m.regs.length=c.r.toNat∧(m.next = .nil∨(∃ o,(m.next = .start o∨m.next = .get o)∧o.k=4∧m.res.length<P.length))
def gK (m:MS):Nat:=3*(m.prog.length - m.res.length) - (match m.next with
 | .start _=>1
 | .get _=>2
 | _=>0)
section
variable {c:aB} {H:HS} {n:Nat} {P:List OpR} {x:WS} {m:MS}
theorem Gg (c:aB) (b w cc n:Nat) (H:HS) (i:Nat):({ Sh.new c b w cc n with H:=H }:Sh).B.pend (i:Int)=false:=by
 show (Bd.new (n:Int)).pend (i:Int)=false
 unfold Bd.pend Bd.isOpen Bd.new
 have:(List.replicate 8 false).getD (i:Int).toNat false=false:=by
  rw [List.getD_eq_getElem?_getD]
  rcases Nat.lt_or_ge (i:Int).toNat 8 with g|g
  ·rw [List.getElem?_eq_getElem (by simpa using g),List.getElem_replicate];rfl
  ·rw [List.getElem?_eq_none (by simpa using g)];rfl
 rw [this,Bool.and_false]
theorem qN.pick (h:qN c H n P x) (hP:∀ o∈P,o.k=4) (hm:x.muts[0]?=some m) (hd:fU m=false):qN c H n P (bC x 0)∧∃ m',(bC x 0).muts[0]?=some m'∧gK m'+1≤gK m:=by
 obtain ⟨o1,o2,o3,o4,o5,o6,o7,o9,o10,o8⟩:=h.one m hm
 obtain ⟨e1,e2,e3⟩:=mW x hm
 have hlt:=(List.getElem?_eq_some_iff.1 hm).1
 have key:∀ s' m',aQ x.s m=(s',m')→s'=x.s→∀ ev,m'=(m'.1,ev)→(m'.1.id=0∧m'.1.c=c∧m'.1.prog=P∧m'.1.res.length≤P.length∧m'.1.color=0∧m'.1.buf=[]∧m'.1.mode=0∧m'.1.ans=false∧m'.1.regs.length=c.r.toNat∧(m'.1.next = .nil∨(∃ o,(m'.1.next = .start o∨m'.1.next = .get o)∧o.k=4∧m'.1.res.length<P.length)))→gK m'.1+1≤gK m →
  qN c H n P (bC x 0)∧∃ m',(bC x 0).muts[0]?=some m'∧gK m'+1≤gK m:=fun s' m' hp hs ev _ ho ht=>by
  rw [hp] at e1 e2
  have hm2:(bC x 0).muts[0]?=some m'.1:=by rw [e2];exact List.getElem?_set_self hlt
  refine ⟨⟨e1.trans (hs.trans h.s),e3.trans h.coll,by rw [e2,List.length_set];exact h.len,fun i mi hi h1=>?_,fun mi hi=>?_⟩,m'.1,hm2,ht⟩
  ·rw [e2,List.getElem?_set_ne (by omega)] at hi
   exact h.oth i mi hi h1
  ·rw [hm2] at hi
   cases hi
   exact ho
 have hpd:x.s.B.pend (m.id:Int)=false:=by rw [h.s,o1];exact Gg c _ _ _ n H 0
 rcases o8 with e|⟨o,e,hk,hl⟩
 ·have hl:m.res.length<P.length:=by
   unfold fU at hd
   rw [e] at hd
   have:decide (m.res.length=m.prog.length)=false:=by simpa [isNil] using hd
   have:=of_decide_eq_false this
   rw [o3] at this
   omega
  have hb:bI x.s m = .start (P[m.res.length]'hl):=by
   unfold bI
   rw [hpd,if_neg (by decide),o3,List.getElem?_eq_getElem hl]
  have hp:aQ x.s m=(x.s,{ m with spent:=1,ans:=x.s.B.pend (m.id:Int),next:=bI x.s m },none):=by
   unfold aQ
   rw [if_pos (by rw [e];rfl)]
  rw [hb] at hp
  refine key _ _ hp rfl none rfl ⟨o1,o2,o3,o4,o5,o6,o7,hpd,o10,.inr ⟨_,.inl rfl,hP _ (List.getElem_mem hl),hl⟩⟩ ?_
  show 3*(m.prog.length - m.res.length) - 1+1≤gK m
  unfold gK
  rw [e,o3]
  show _≤3*(P.length - m.res.length) - 0
  omega
 ·have hM:∀ M:MS,M.most.id=M.id∧M.most.c=M.c∧M.most.prog=M.prog∧M.most.res=M.res∧M.most.color=M.color∧M.most.buf=M.buf∧M.most.mode=M.mode∧M.most.ans=M.ans∧M.most.regs=M.regs∧M.most.next=M.next:=fun M=>by
   unfold MS.most
   split<;>exact ⟨rfl,rfl,rfl,rfl,rfl,rfl,rfl,rfl,rfl,rfl⟩
  have hgen:∀ (r:lT),stepM x.s { m with spent:=m.spent+1 } m.next=r→isNil m.next=false→r.s=x.s →
   (r.next = .nil→r.m.id=0∧r.m.c=c∧r.m.prog=P∧r.m.res.length=m.res.length+1∧r.m.color=0∧r.m.buf=[]∧r.m.mode=0∧r.m.ans=false∧r.m.regs.length=c.r.toNat)→(r.next ≠ .nil→r.m={ m with spent:=m.spent+1 }∧m.next = .start o∧r.next = .get o) →
   qN c H n P (bC x 0)∧∃ m',(bC x 0).muts[0]?=some m'∧gK m'+1≤gK m:=fun r hr hnn hs h1 h2=>by
   have hp:aQ x.s m=(r.s,(if isNil r.next then { r.m with next := .nil }.most else { r.m with next:=r.next }),r.ev):=by
    unfold aQ
    rw [if_neg (by rw [hnn];decide),← hr]
   by_cases hrn:isNil r.next=true
   ·have Qw:r.next = .nil:=by
     cases hd:r.next<;>rw [hd] at hrn<;>first|rfl|cases hrn
    rw [if_pos hrn] at hp
    obtain ⟨g1,g2,g3,g4,g5,g6,g7,g9,g10⟩:=h1 Qw
    obtain ⟨q1,q2,q3,q4,q5,q6,q7,q9,q10,q8⟩:=hM { r.m with next := .nil }
    generalize MS.most { r.m with next := .nil }=M at *
    refine key _ _ hp hs r.ev rfl ⟨q1.trans g1,q2.trans g2,q3.trans g3,by show M.res.length≤_;rw [q4];show r.m.res.length≤_;omega,q5.trans g5,q6.trans g6,q7.trans g7,q9.trans g9,by show M.regs.length=_;rw [q10];exact g10,.inl q8⟩ ?_
    show gK M+1≤gK m
    have e1:M.prog=P:=q3.trans g3
    have e2:M.res.length=m.res.length+1:=by rw [q4];exact g4
    have e3:M.next = .nil:=q8
    unfold gK
    rw [e1,e2,e3,o3]
    show 3*(P.length - (m.res.length+1)) - 0+1≤_
    rcases e with e|e<;>rw [e]
    ·show _≤3*(P.length - m.res.length) - 1;omega
    ·show _≤3*(P.length - m.res.length) - 2;omega
   ·rw [if_neg hrn] at hp
    have Qw:r.next ≠ .nil:=by intro e;rw [e] at hrn;exact hrn rfl
    obtain ⟨g1,g2,g3⟩:=h2 Qw
    rw [g1,g3] at hp
    refine key _ _ hp hs r.ev rfl ⟨o1,o2,o3,o4,o5,o6,o7,o9,o10,.inr ⟨o,.inr rfl,hk,hl⟩⟩ ?_
    show 3*(m.prog.length - m.res.length) - 2+1≤gK m
    unfold gK
    rw [g2,o3]
    show _≤3*(P.length - m.res.length) - 1
    omega
  rcases e with e|e
  ·have hst:∀ d,d=MD.start o→stepM x.s { m with spent:=m.spent+1 } d=fK x.s { m with spent:=m.spent+1 } o:=fun d e=>by rw [e];rfl
   have hR:(fK x.s { m with spent:=m.spent+1 } o).s=x.s∧((fK x.s { m with spent:=m.spent+1 } o).next = .nil∧(fK x.s { m with spent:=m.spent+1 } o).m=({ m with spent:=m.spent+1 }:MS).did (chk m.c o) 0∨(fK x.s { m with spent:=m.spent+1 } o).next = .get o∧(fK x.s { m with spent:=m.spent+1 } o).m={ m with spent:=m.spent+1 }):=by
    unfold fK
    rw [hk]
    split
    ·exact ⟨rfl,.inl ⟨rfl,rfl⟩⟩
    ·rw [if_neg (by decide),if_neg (by decide),if_neg (by decide),if_pos (by decide)]
     exact ⟨rfl,.inr ⟨rfl,rfl⟩⟩
   refine hgen _ (hst _ e) (by rw [e];rfl) hR.1 (fun hnil=>?_) (fun hne=>?_)
   ·rcases hR.2 with ⟨_,g⟩|⟨g,_⟩
    ·rw [g]
     exact ⟨o1,o2,o3,by show (m.res++[_]).length=_;simp,o5,o6,o7,o9,o10⟩
    ·rw [g] at hnil;cases hnil
   ·rcases hR.2 with ⟨g,_⟩|⟨g1,g2⟩
    ·exact absurd g hne
    ·exact ⟨g2,e,g1⟩
  ·have hst:∀ d,d=MD.get o→stepM x.s { m with spent:=m.spent+1 } d=lW x.s { m with spent:=m.spent+1 } o.a (x.s.H.cellP o.b):=fun d e=>by rw [e];rfl
   refine hgen _ (hst _ e) (by rw [e];rfl) rfl (fun hnil=>?_) (fun hne=>absurd rfl hne)
   exact ⟨o1,o2,o3,by show (m.res++[_]).length=_;simp,o5,o6,o7,o9,by show (m.regs.set _ _).length=_;rw [List.length_set];exact o10⟩
end
theorem qN.run {c:aB} {H:HS} {n:Nat} {P:List OpR} (hP:∀ o∈P,o.k=4) (hn:1≤n):∀ (f:Nat) (x:WS),qN c H n P x→(∀ m,x.muts[0]?=some m→gK m≤f)→qN c H n P (jV f x)∧∀ m,(jV f x).muts[0]?=some m→fU m=true
 | 0,x,h,ht=>by
   refine ⟨h,fun m hm=>?_⟩
   have h0:=ht m hm
   cases hd:fU m with
   | true=>rfl
   | false =>
     obtain ⟨_,m',_,h2⟩:=h.pick hP hm hd
     omega
 | f+1,x,h,ht=>by
   obtain ⟨m,hm⟩:∃ m,x.muts[0]?=some m:=⟨x.muts[0]'(by rw [h.len];omega),List.getElem?_eq_getElem _⟩
   cases hd:fU m with
   | true =>
     rw [wB hm hd]
     exact ⟨h,fun m' hm'=>by rw [hm] at hm';cases hm';exact hd⟩
   | false =>
     rw [CY hm hd]
     obtain ⟨h1,m',h2,h3⟩:=h.pick hP hm hd
     exact qN.run hP hn f _ h1 (fun m2 hm2=>by rw [h2] at hm2;cases hm2;have:=ht m hm;omega)
theorem Oh (x:StP):qN x.c.little (mJ (HS.new x.c.little x.c.little.b.toNat x.c.little.w.toNat x.c.little.c.toNat) x.sz x.fl x.ce) x.c.little.m.toNat (jH x.c.little.r x.rg x.rg.length) (eH x.c.little x x.c.little.m.toNat)∧∀ m,(eH x.c.little x x.c.little.m.toNat).muts[0]?=some m→gK m≤3*x.rg.length:=by
 have hok:=dW (pV x.c)
 generalize x.c.little=c at *
 have hat:∀ i m,(eH c x c.m.toNat).muts[i]?=some m→m=MS.new c i (kG c.r x.rg i):=fun i m hm=>by
  have hm':((List.range c.m.toNat).map (fun j=>MS.new c j (kG c.r x.rg j)))[i]?=some m:=hm
  rw [List.getElem?_map] at hm'
  have hlt:i<c.m.toNat:=by
   rcases Nat.lt_or_ge i c.m.toNat with g|g
   ·exact g
   ·rw [List.getElem?_eq_none (by simpa using g)] at hm';cases hm'
  rw [List.getElem?_eq_getElem (by simpa using hlt)] at hm'
  simp at hm'
  exact hm'.symm
 refine ⟨⟨rfl,rfl,by show ((List.range c.m.toNat).map _).length=_;simp,fun i m hm hi=>?_,fun m hm=>?_⟩,fun m hm=>?_⟩
 ·rw [hat i m hm]
  unfold kG
  rw [if_neg (by omega)]
 ·rw [hat 0 m hm]
  exact ⟨rfl,rfl,rfl,Nat.zero_le _,rfl,rfl,rfl,rfl,by show (List.replicate c.r.toNat 0).length=_;simp,.inl rfl⟩
 ·rw [hat 0 m hm]
  unfold gK
  show 3*((jH c.r x.rg x.rg.length).length - 0) - 0≤_
  rw [vO];omega
theorem Oi (r:Int) (rg:List Nat) (n:Nat):∀ o∈jH r rg n,o.k=4:=fun o ho=>by
 unfold jH at ho
 obtain ⟨k,_,rfl⟩:=List.mem_map.1 ho
 rfl
theorem CZ (x:StP) (hr:x.rg.length≤20):qN x.c.little (mJ (HS.new x.c.little x.c.little.b.toNat x.c.little.w.toNat x.c.little.c.toNat) x.sz x.fl x.ce) x.c.little.m.toNat (jH x.c.little.r x.rg x.rg.length) (dN x)∧∀ m,(dN x).muts[0]?=some m→fU m=true:=by
 have hok:=dW (pV x.c)
 obtain ⟨h0,h1⟩:=Oh x
 exact h0.run (Oi _ _ _) (by omega) 300 _ (fun m hm=>Nat.le_trans (h1 m hm) (by omega))
section
variable {p:CP} {x y:WS} {s s':Sh} {m m':MS} {i j l l' ph ph' hf R mu bl ce κ:Nat} {H:HS} {dead:List Nat} {q:Qu}
theorem Oj (hf:Nat) (hhf:hf=p.H.ww/2) (h:jl p x dead) (d:CD) (hd:x.coll.next=d) (hx:∀ m t,d = .wait m t→x.s.B.pend (m:Int)=false):p.phi hf R (stepW x d)+1≤p.phi hf R x:=by
 have hmu:=h.mu8
 have shp:=h.shp
 rw [hd] at shp
 have hql:=h.ql
 have hcbl:=h.cbl
 have hst:=h.stk
 have hsl:∀ B,(x.s.H.slots B).length≤hf:=fun B=>by
  rw [hhf,← h.geo.2.2.1];exact yE x.s.H B
 cases d with
 | enqueue b =>
   obtain ⟨h6,hb⟩:=shp
   obtain ⟨g1,g2⟩:=IJ (p:=p) (hf:=hf) (R:=R) (c:=x.coll) hcbl (b:=b+1) (by omega)
   have hmp:=mul_pred (c:=hf+4) hb
   by_cases hK:x.s.H.K.getD b 0=0
   ·have e:stepW x (.enqueue b)={ x with s:={ x.s with Q:=x.s.Q },coll:={ x.coll with next:=x.coll.gy (b+1) } }:=by
     unfold stepW
     simp only [aj]
     rw [if_pos hK]
    rw [e]
    refine eU hd (fun hb=>by rw [g2] at hb;cases hb) ?_
    rw [g1]
    show _≤(p.bl - b)*(hf+4)+(p.ak R+5)
    omega
   ·have hk4:x.s.H.K.getD b 0≤4:=by
     rcases Nat.lt_or_ge b x.s.H.K.length with g|g
     ·rw [List.getD_eq_getElem?_getD,List.getElem?_eq_getElem g]
      exact h.inv.k4 _ (List.getElem_mem g)
     ·rw [List.getD_eq_getElem?_getD,List.getElem?_eq_none g];exact Nat.zero_le _
    obtain ⟨c,hc,hc4⟩:∃ c:Nat,x.s.H.K.getD b 0=c+1∧c<4:=⟨x.s.H.K.getD b 0 - 1,by omega,by omega⟩
    have hqs:=Ur hql hc4 (b:Int)
    have e:stepW x (.enqueue b)={ x with s:={ x.s with Q:=x.s.Q.put (c:Int) (b:Int) },coll:={ x.coll with stk:=x.coll.stk,next:=x.coll.gy (b+1) } }:=by
     unfold stepW
     simp only [aj]
     rw [if_neg hK,hc]
     have:((c+1:Nat):Int) - 1=(c:Int):=by omega
     rw [this]
    rw [e]
    refine oJ (x:=x) (Q:=x.s.Q.put (c:Int) (b:Int)) (st:=x.coll.stk) (d':=x.coll.gy (b+1)) hd ?_
    rw [g1,g2,hqs,Nat.add_mul,Nat.one_mul]
    show _+_+0+_+1≤(p.bl - b)*(hf+4)+(p.ak R+5)+33*x.coll.stk.length+0+x.s.Q.qs*(hf+3)
    omega
 | sweep =>
   unfold stepW
   simp only [aj]
   cases hq:x.s.Q.any with
   | none =>
     refine eU hd (fun hb=>by cases hb) ?_
     show p.ak R+4+1≤p.ak R+5
     omega
   | some kb =>
     obtain ⟨kk,b⟩:=kb
     obtain ⟨hk4,z,r,hr1,hr2⟩:=any_some hq
     have hqs:=Sl hql hk4 hr1
     refine oJ (x:=x) (Q:=x.s.Q.take (kk:Int)) (st:=x.coll.stk) (d' := .block (x.s.H.slots b)) hd ?_
     have:=hsl b
     rw [← hqs,Nat.add_mul,Nat.one_mul]
     show (x.s.H.slots b).length+1+(p.ak R+5)+_+0+_+1≤p.ak R+5+33*x.coll.stk.length+0+_
     omega
 | block sl =>
   cases sl with
   | nil =>
     show p.phi hf R { x with s:={ x.s with Q:=x.s.Q.lQ },coll:={ x.coll with stk:=x.coll.stk,next := .sweep } }+1≤_
     refine oJ (x:=x) (Q:=x.s.Q.lQ) (st:=x.coll.stk) (d' := .sweep) hd ?_
     show p.ak R+5+_+0+x.s.Q.qs*(hf+3)+1≤0+1+(p.ak R+5)+33*x.coll.stk.length+0+x.s.Q.qs*(hf+3)
     omega
   | cons a r =>
     have hco:∀ H':HS,H'.co=x.s.H.co→p.phi hf R { x with s:={ x.s with H:=H' },coll:={ x.coll with next := .block r } }+1≤p.phi hf R x:=fun H' e=>by
      refine lJ (x:=x) (H:=H') (Q:=x.s.Q) (fl:=x.s.flag) (c:={ x.coll with next := .block r }) ?_
      rw [e,hd]
      have e1:exB x=false:=by unfold exB;rw [hd];rfl
      rw [e1]
      have key:r.length+1+(p.ak R+5)+33*x.coll.stk.length+0+p.U x.s.H.co*p.big hf R+(if (x.s.flag||x.coll.over||x.muts.any (fun m=>prM m.next))=true then p.wk hf R else 0)+(if (x.coll.fresh||x.coll.phase==4)=true then p.dr R else 0)+x.s.Q.qs*(hf+3)+1 ≤
       (a::r).length+1+(p.ak R+5)+33*x.coll.stk.length+0+p.U x.s.H.co*p.big hf R+(if (x.s.flag||x.coll.over||x.muts.any (fun m=>prM m.next))=true then p.wk hf R else 0)+(if (x.coll.fresh||x.coll.phase==4)=true then p.dr R else 0)+x.s.Q.qs*(hf+3):=by
       rw [List.length_cons];omega
      exact key
     unfold stepW
     simp only [aj]
     by_cases hc:(!x.s.H.bn a||x.s.H.dA a==x.coll.color)=true
     ·rw [if_pos hc]
      exact hco x.s.H rfl
     ·rw [if_neg hc]
      have hba:x.s.H.bn a=true:=by
       cases hb:x.s.H.bn a
       ·rw [hb] at hc;exact absurd rfl hc
       ·rfl
      exact hco (x.s.H.dX a) (h.inv.free hba).co
 | rests =>
   have hop:x.s.Q.opn=0:=by have:=h.opn;rw [hd] at this;exact this
   have hqe:∀ k,x.s.Q.rw k=[]:=by have:=h.qe;rw [hd] at this;exact this rfl
   have hrs:x.s.Q.rests=true:=by
    unfold Qu.rests Qu.sum Qu.sum Qu.sum Qu.sum Qu.sum
    have h0:=hqe 0;have h1:=hqe 1;have h2:=hqe 2;have h3:=hqe 3
    unfold Qu.rw at h0 h1 h2 h3
    rw [h0,h1,h2,h3,hop];rfl
   unfold stepW
   simp only [aj]
   rw [hrs]
   refine eU (d' := .off) hd (fun hb=>by cases hb) ?_
   show p.ak R+3+1≤p.ak R+4
   omega
 | off =>
   have h6:x.coll.phase=6:=shp
   have hnw:∀ m u,x.coll.next ≠ .wait m u:=by rw [hd];intro m u e;cases e
   obtain ⟨b1,b2,b3⟩:=h.bd.ask (fun i hi=>h.nobody hnw hi) 7
   refine wR (x:=x) (k:=7) (t := .idle) (c:=x.coll) (fun i m hm=>?_) rfl ⟨rfl,rfl⟩ ?_
   ·have g:=h.bV i m hm
    have hi:=h.lF hm
    have hnx:m.next = .nil:=g.nx.resolve_right (fun hh=>by rw [h.nobody hnw hi] at hh;cases hh.2)
    have hp:(x.s.ask 7).B.pend (i:Int)=true:=(b2 i).trans (decide_eq_true hi)
    have hk7:(x.s.ask 7).B.kind=7:=b3
    have hb:bI (x.s.ask 7) m = .once 7:=by
     unfold bI
     rw [g.id,hp,if_pos rfl,hk7,if_neg (by decide),if_neg (by decide)]
    unfold bZ
    rw [hp,hnx,hb]
    show 3*m.buf.length+(1+1)≤_
    omega
   ·rw [hd]
    have e2:dB x=x.coll.fresh:=by unfold dB;rw [h6];simp
    have e3:(x.coll.fresh||(7:Nat)==4)=x.coll.fresh:=by simp
    rw [e2,e3]
    have ha:p.ak R=p.mu*(8*R+5)+p.mu:=by unfold CP.ak;rw [show 8*R+6=(8*R+5)+1 by omega,Nat.mul_add,Nat.mul_one]
    show p.mu+1+_+_+1≤p.ak R+3+_
    omega
 | wait mm t =>
   obtain ⟨h7,hm,rfl⟩:=shp
   have hp0:=hx mm .idle rfl
   have qL:=sJ h.bd hm
   unfold stepW
   simp only [aj]
   rw [qL,hp0,if_neg (by decide)]
   split
   ·refine eU hd (fun hb=>by cases hb) ?_
    show p.mu - (mm+1)+1+1≤p.mu - mm+1
    omega
   ·refine eU hd (fun hb=>by cases hb) ?_
    show 1+1≤p.mu - mm+1
    omega
 | idle =>
   have h7:x.coll.phase=7:=shp
   refine lJ (x:=x) (H:=x.s.H) (Q:=x.s.Q) (fl:=x.s.flag) (c:={ x.coll with phase:=0,next := .nil }) ?_
   rw [hd]
   have e1:exB x=false:=by unfold exB;rw [hd];rfl
   have e2:dB x=x.coll.fresh:=by unfold dB;rw [h7];simp
   have e3:(x.coll.fresh||(0:Nat)==4)=x.coll.fresh:=by simp
   rw [e1,e2]
   have key:0+33*x.coll.stk.length+0+p.U x.s.H.co*p.big hf R+(if (x.s.flag||x.coll.over||x.muts.any (fun m=>prM m.next))=true then p.wk hf R else 0)+(if (x.coll.fresh||(0:Nat)==4)=true then p.dr R else 0)+x.s.Q.qs*(hf+3)+1 ≤
    1+33*x.coll.stk.length+0+p.U x.s.H.co*p.big hf R+(if (x.s.flag||x.coll.over||x.muts.any (fun m=>prM m.next))=true then p.wk hf R else 0)+(if x.coll.fresh=true then p.dr R else 0)+x.s.Q.qs*(hf+3):=by
    rw [e3];omega
   exact key
 | _=>exact shp.elim
structure CG0 (p:CP) (R:Nat):Prop where
 inv:bF p.H
 bl:p.bl=p.H.b
 regs:∀ i,(p.regs i).length≤R
abbrev CP.rest (p:CP) (R:Nat) (x:WS):Nat:=p.phi (p.H.ww/2) R x
theorem Cyc.less (g:CG0 p R) (h:Cyc p x dead) (hx:∀ m t,x.coll.next = .wait m t→x.s.B.pend (m:Int)=false):p.rest R (stepW x x.coll.next)+1≤p.rest R x:=by
 cases h with
 | mark h1 h2=>exact Qo (g.inv.cpk g.bl) g.regs h1 h2 _ rfl hx
 | sweep h1=>exact Oj _ rfl h1 _ rfl hx
theorem Cyc.bd (h:Cyc p x dead):BI p.mu x.s.B∧x.muts.length=p.mu∧x.coll.muts=p.mu∧x.coll.color=p.κ∧(∀ m t,x.coll.next = .wait m t→m<p.mu):=by
 cases h with
 | mark h1 h2=>exact ⟨h1.bd,h1.muts,h1.cmu,h1.col,fun m t e=>by have:=h1.shp;rw [e] at this;exact this.1⟩
 | sweep h1=>exact ⟨h1.bd,h1.muts,h1.cmu,h1.col,fun m t e=>by have:=h1.shp;rw [e] at this;exact this.2.1⟩
theorem Ol (h:Cyc p x dead) {mm:Nat} {t:CD} (hd:x.coll.next = .wait mm t) (hp:x.s.B.pend (mm:Int)=true):stepW x x.coll.next=x∧(aj x.s x.coll x.coll.next).ev=none:=by
 obtain ⟨b1,_,_,_,b5⟩:=h.bd
 have qL:=sJ b1 (b5 mm t hd)
 have e:∀ d,d=CD.wait mm t→stepW x d={ x with coll:={ x.coll with next:=d } }∧(aj x.s x.coll d).ev=none:=fun d e=>by
  rw [e]
  unfold stepW
  simp only [aj]
  rw [qL,hp,if_pos (by decide)]
  exact ⟨rfl,trivial⟩
 exact e _ hd
theorem Cyc.le (g:CG0 p R) (h:Cyc p x dead):p.rest R (stepW x x.coll.next)≤p.rest R x:=by
 by_cases hw:∃ m t,x.coll.next = .wait m t∧x.s.B.pend (m:Int)=true
 ·obtain ⟨m,t,e,hp⟩:=hw
  rw [(Ol h e hp).1]
  exact Nat.le_refl _
 ·have:=h.less g (fun m t e=>by
   cases hp:x.s.B.pend (m:Int)
   ·rfl
   ·exact absurd ⟨m,t,e,hp⟩ hw)
  omega
theorem KY (h:Cyc p x dead):{ x with s:=(aW x.s x.coll).s,coll:=(aW x.s x.coll).c }=stepW x x.coll.next∧(aW x.s x.coll).ev=(aj x.s x.coll x.coll.next).ev:=by
 have e:aW x.s x.coll=⟨(aj x.s x.coll x.coll.next).s,{ (aj x.s x.coll x.coll.next).c with next:=(aj x.s x.coll x.coll.next).next },(aj x.s x.coll x.coll.next).next,(aj x.s x.coll x.coll.next).ev⟩:=by
  unfold aW
  rw [h.busy];rfl
 rw [e]
 exact ⟨rfl,rfl⟩
theorem Cyc.pend (g:CG0 p R) (h:Cyc p x dead) (hm:x.muts[i]?=some m):(∀ j:Nat,j≠i→(bC x i).s.B.pend (j:Int)=x.s.B.pend (j:Int))∧((bC x i).s.B.pend (i:Int)=true→x.s.B.pend (i:Int)=true):=by
 obtain ⟨e1,_,_⟩:=mW x hm
 rw [e1]
 cases h with
 | mark h1 h2 =>
   obtain ⟨u,_,_⟩:=yD (g.inv.cpk g.bl) h1 hm
   exact ⟨u.pend,u.KH⟩
 | sweep h1 =>
   obtain ⟨s',m',g1,g2,g3,g4,g5,g6,g7,g8,g9⟩:=rX h1 hm
   rw [g1]
   refine ⟨g8,fun hp=>?_⟩
   cases hq:x.s.B.pend (i:Int)
   ·rw [hq] at g9
    have hp':s'.B.pend (i:Int)=true:=hp
    rw [g9.2.2] at hp';cases hp'
   ·rfl
def aN:Nat→WS→WS
 | 0,x=>x
 | j+1,x=>bC (aN j x) j
structure MR (p:CP) (R:Nat) (dead:List Nat) (x y:WS) (j:Nat):Prop where
 cyc:Cyc p y dead
 coll:y.coll=x.coll
 pend:∀ i:Nat,y.s.B.pend (i:Int)=true→x.s.B.pend (i:Int)=true
 le:p.rest R y≤p.rest R x
 lt:(∃ i:Nat,i<j∧x.s.B.pend (i:Int)=true)→p.rest R y+1≤p.rest R x
 same:∀ i:Nat,j≤i→y.s.B.pend (i:Int)=x.s.B.pend (i:Int)
theorem MR.next (g:CG0 p R) (h:MR p R dead x y j) (hj:j<p.mu):MR p R dead x (bC y j) (j+1)∧∃ m,y.muts[j]?=some m∧(aQ y.s m).2.2=none:=by
 obtain ⟨_,hl,_⟩:=h.cyc.bd
 obtain ⟨m,hm⟩:∃ m,y.muts[j]?=some m:=⟨y.muts[j]'(by omega),List.getElem?_eq_getElem _⟩
 obtain ⟨h1,h2⟩:=h.cyc.AX g.inv g.bl hm
 obtain ⟨h3,h4⟩:=h.cyc.pend g hm
 have h5:=Sj (hf:=p.H.ww/2) (R:=R) g.inv g.bl h.cyc hm
 have hle:=h.le
 refine ⟨⟨h1,(mW y hm).2.2.trans h.coll,fun i hi=>?_,by show p.phi _ R _≤p.phi _ R _;have:p.phi (p.H.ww/2) R y≤p.phi (p.H.ww/2) R x:=hle;omega,fun ⟨i,hi,hp⟩=>?_,fun i hi=>?_⟩,m,hm,h2⟩
 ·by_cases e:i=j
  ·subst e;exact h.pend i (h4 hi)
  ·exact h.pend i (by rw [← h3 i e];exact hi)
 ·by_cases e:i=j
  ·subst e
   rw [h.same i (Nat.le_refl _),if_pos hp] at h5
   show p.phi _ R _+1≤p.phi _ R _
   have:p.phi (p.H.ww/2) R y≤p.phi (p.H.ww/2) R x:=hle
   omega
  ·have:=h.lt ⟨i,by omega,hp⟩
   show p.phi _ R _+1≤p.phi _ R _
   have:p.phi (p.H.ww/2) R y+1≤p.phi (p.H.ww/2) R x:=this
   omega
 ·rw [h3 i (by omega)]
  exact h.same i (by omega)
theorem MR.first (h:Cyc p x dead):MR p R dead x x 0:=⟨h,rfl,fun _ h=>h,Nat.le_refl _,(fun ⟨_,h,_⟩=>absurd h (Nat.not_lt_zero _)),fun _ _=>rfl⟩
theorem MR.round (g:CG0 p R) (h:MR p R dead x y p.mu):∃ eP,uF p y dead { y with s:=(aW y.s y.coll).s,coll:=(aW y.s y.coll).c } eP (aW y.s y.coll).ev∧p.rest R { y with s:=(aW y.s y.coll).s,coll:=(aW y.s y.coll).c }+1≤p.rest R x:=by
 obtain ⟨eP,ht⟩:=h.cyc.Qn g.inv g.bl
 refine ⟨eP,ht,?_⟩
 rw [(KY h.cyc).1]
 obtain ⟨_,_,_,_,b5⟩:=h.cyc.bd
 by_cases hw:∃ m t,y.coll.next = .wait m t∧y.s.B.pend (m:Int)=true
 ·obtain ⟨m,t,e,hp⟩:=hw
  have h1:=h.lt ⟨m,b5 m t e,h.pend m hp⟩
  have h2:=h.cyc.le g
  omega
 ·have h1:=h.cyc.less g (fun m t e=>by
   cases hp:y.s.B.pend (m:Int)
   ·rfl
   ·exact absurd ⟨m,t,e,hp⟩ hw)
  have h2:=h.le
  omega
end
def oZ (a b:Nat):Bool:=(a==b)||[(0,1),(1,2),(2,3),(3,4),(4,5),(5,4),(5,6),(6,7),(7,0)].contains (a,b)
def jF (c:CS):Prop:=c.cycles≤c.drains+if c.phase=0∨5≤c.phase then 0 else 1
theorem C9:∀ {l l':List Nat},l.Nodup→(∀ a∈l,a∈l')→l.length≤l'.length
 | [],_,_,_=>Nat.zero_le _
 | a::l,l',hn,hs=>by
   obtain ⟨s,t,e⟩:=List.append_of_mem (hs a List.mem_cons_self)
   obtain ⟨h1,h2⟩:=List.nodup_cons.1 hn
   have h3:=C9 (l:=l) (l':=s++t) h2 (fun b hb=>by
    have:=hs b (List.mem_cons_of_mem _ hb)
    rw [e] at this
    rcases List.mem_append.1 this with g|g
    ·exact List.mem_append_left _ g
    ·rcases List.mem_cons.1 g with g|g
     ·exact absurd (by rw [← g];exact hb) h1
     ·exact List.mem_append_right _ g)
   rw [e]
   simp at h3 ⊢
   omega
section
variable {p:CP} {x y:WS} {s s':Sh} {m m':MS} {i j l l' ph ph' hf R mu bl ce κ:Nat} {H:HS} {dead:List Nat} {q:Qu} {c:CS}
theorem Om (s:Sh) (c:CS) (d:CD):(aj s c d).c.wish=c.wish∧(aj s c d).c.cycles=c.cycles∧(aj s c d).c.color=c.color∧(aj s c d).c.muts=c.muts∧c.drains≤(aj s c d).c.drains:=by
 cases d with
 | look v t =>
   simp only [aj]
   split
   ·unfold CS.push
    simp only
    split<;>exact ⟨rfl,rfl,rfl,rfl,Nat.le_refl _⟩
   ·exact ⟨rfl,rfl,rfl,rfl,Nat.le_refl _⟩
 | work =>
   simp only [aj]
   split<;>exact ⟨rfl,rfl,rfl,rfl,Nat.le_refl _⟩
 | box m =>
   simp only [aj]
   split<;>exact ⟨rfl,rfl,rfl,rfl,Nat.le_refl _⟩
 | over =>
   simp only [aj]
   repeat' split
   all_goals exact ⟨rfl,rfl,rfl,rfl,Nat.le_refl _⟩
 | sweep =>
   simp only [aj]
   split<;>exact ⟨rfl,rfl,rfl,rfl,Nat.le_refl _⟩
 | block sl =>
   cases sl with
   | nil=>exact ⟨rfl,rfl,rfl,rfl,Nat.le_refl _⟩
   | cons a r =>
     simp only [aj]
     split<;>exact ⟨rfl,rfl,rfl,rfl,Nat.le_refl _⟩
 | empty t =>
   simp only [aj]
   split<;>exact ⟨rfl,rfl,rfl,rfl,Nat.le_refl _⟩
 | drain=>exact ⟨rfl,rfl,rfl,rfl,Nat.le_succ _⟩
 | _=>exact ⟨rfl,rfl,rfl,rfl,Nat.le_refl _⟩
theorem Oo (a:Nat):oZ a a=true:=by unfold oZ;simp
theorem Hw (h:Cyc p x dead) (d:CD) (hd:x.coll.next=d):oZ x.coll.phase (aj x.s x.coll d).c.phase=true∧(jF x.coll→jF (aj x.s x.coll d).c):=by
 have keep:∀ c':CS,c'.phase=x.coll.phase→c'.cycles=x.coll.cycles→x.coll.drains≤c'.drains→oZ x.coll.phase c'.phase=true∧(jF x.coll→jF c'):=fun c' e1 e2 e3=>by
  refine ⟨by rw [e1];exact Oo _,fun hh=>?_⟩
  unfold jF at hh ⊢
  rw [e1,e2];omega
 have chg:∀ (c':CS) (a b:Nat),x.coll.phase=a→c'.phase=b→oZ a b=true→c'.cycles=x.coll.cycles→x.coll.drains≤c'.drains→((a=0∨5≤a)∨¬ (b=0∨5≤b)∨x.coll.drains+1≤c'.drains)→oZ x.coll.phase c'.phase=true∧(jF x.coll→jF c'):=fun c' a b e1 e2 e3 e4 e5 e6=>by
  refine ⟨by rw [e1,e2];exact e3,fun hh=>?_⟩
  unfold jF at hh ⊢
  rw [e1] at hh
  rw [e2,e4]
  rcases e6 with g|g|g
  ·rw [if_pos g] at hh;omega
  ·rw [if_neg g];split at hh<;>omega
  ·split at hh<;>omega
 have hsh:p.shp x.coll.phase x.coll.next∨p.AV x.coll.phase x.coll.next:=by
  cases h with
  | mark h1 _=>exact .inl h1.shp
  | sweep h1=>exact .inr h1.shp
 rw [hd] at hsh
 cases d with
 | arm=>exact chg _ 1 2 (hsh.resolve_right (fun h=>h)) rfl rfl rfl (Nat.le_refl _) (.inr (.inl (by omega)))
 | scan=>exact chg _ 2 3 (hsh.resolve_right (fun h=>h)) rfl rfl rfl (Nat.le_refl _) (.inr (.inl (by omega)))
 | trace=>exact chg _ 3 4 (hsh.resolve_right (fun h=>h)) rfl rfl rfl (Nat.le_refl _) (.inr (.inl (by omega)))
 | drain=>exact chg _ 4 5 (hsh.resolve_right (fun h=>h)) rfl rfl rfl (Nat.le_succ _) (.inr (.inr (Nat.le_refl _)))
 | marked=>exact chg _ 5 6 (hsh.resolve_right (fun h=>h)) rfl rfl rfl (Nat.le_refl _) (.inl (by omega))
 | off=>exact chg _ 6 7 (hsh.resolve_left (fun h=>h)) rfl rfl rfl (Nat.le_refl _) (.inl (by omega))
 | idle=>exact chg _ 7 0 (hsh.resolve_left (fun h=>h)) rfl rfl rfl (Nat.le_refl _) (.inl (by omega))
 | over =>
   have hm:mkP x.coll.phase:=hsh.resolve_right (fun h=>h)
   simp only [aj]
   split
   ·split
    ·exact keep _ rfl rfl (Nat.le_refl _)
    ·rename_i h4
     split
     ·exact chg _ 5 4 (hm.resolve_left h4) rfl rfl rfl (Nat.le_refl _) (.inl (by omega))
     ·exact keep _ rfl rfl (Nat.le_refl _)
   ·exact keep _ rfl rfl (Nat.le_refl _)
 | look v t =>
   simp only [aj]
   split
   ·unfold CS.push
    simp only
    split<;>exact keep _ rfl rfl (Nat.le_refl _)
   ·exact keep _ rfl rfl (Nat.le_refl _)
 | work =>
   simp only [aj]
   split<;>exact keep _ rfl rfl (Nat.le_refl _)
 | box m =>
   simp only [aj]
   split<;>exact keep _ rfl rfl (Nat.le_refl _)
 | sweep =>
   simp only [aj]
   split<;>exact keep _ rfl rfl (Nat.le_refl _)
 | block sl =>
   cases sl with
   | nil=>exact keep _ rfl rfl (Nat.le_refl _)
   | cons a r =>
     simp only [aj]
     split<;>exact keep _ rfl rfl (Nat.le_refl _)
 | empty t =>
   simp only [aj]
   split<;>exact keep _ rfl rfl (Nat.le_refl _)
 | _=>exact keep _ rfl rfl (Nat.le_refl _)
theorem CP.VO (hI:bF p.H) (hb:p.bl=p.H.b) (co:Nat→Bool):p.U co≤p.bl*(p.H.ww/2):=by
 have k:=hI.cpk hb
 have hl:∀ n,((List.range n).flatMap p.H.slots).length≤n*(p.H.ww/2):=fun n=>by
  induction n with
  | zero=>simp
  | succ n ih =>
    rw [List.range_succ,List.flatMap_append,List.length_append,Nat.add_mul,Nat.one_mul,List.flatMap_cons,List.flatMap_nil,List.append_nil]
    have:=k.slen n
    omega
 refine Nat.le_trans ?_ (hl p.bl)
 unfold CP.U cntF
 refine C9 ?_ (fun a ha=>?_)
 ·exact (List.filter_sublist).nodup List.nodup_range
 ·obtain ⟨h1,h2⟩:=List.mem_filter.1 ha
  rw [Bool.and_eq_true] at h2
  obtain ⟨B,g1,g2⟩:=k.ahead a h2.1
  exact List.mem_flatMap.2 ⟨B,List.mem_range.2 g1,g2⟩
def sK (mu bl ce R hf:Nat):Nat :=
 let p:CP:=⟨⟨⟨0,0,0,0,0,0,0⟩,0,0,[],[],[],fun _=>false,fun _=>false,[]⟩,0,mu,bl,ce,0,fun _=>[]⟩
 mu*(8*R+5)+(mu+(2+p.ak R+p.ak R+p.rT hf R))+bl*hf*p.big hf R+p.dr R
theorem Idl.bound (h:Idl mu bl ce κ x) (hR:∀ (i:Nat) (m:MS),x.muts[i]?=some m→m.regs.length≤R):CG0 (gW mu bl ce κ x) R∧(gW mu bl ce κ x).rest R (gX x)≤sK mu bl ce R (x.s.H.ww/2):=by
 obtain ⟨h1,h2,h3,h4,h5⟩:=h.start
 have hg:CG0 (gW mu bl ce κ x) R:=by
  refine ⟨h4,h5,fun i=>?_⟩
  show (((x.muts[i]?).map MS.regs).getD []).length≤R
  cases hm:x.muts[i]? with
  | none=>exact Nat.zero_le _
  | some m=>exact hR i m hm
 refine ⟨hg,?_⟩
 have hT:(gW mu bl ce κ x).T (gX x)≤mu*(8*R+5):=by
  have:(gW mu bl ce κ x).T (gX x)≤kY (fun _=>0) mu+mu*(8*R+5):=by
   refine AY _ fun i hi=>?_
   unfold kZ
   show (match x.muts[i]? with|some m=>_|none=>0)≤_
   cases hm:x.muts[i]? with
   | none=>exact Nat.zero_le _
   | some m =>
     have g:=h.bV i m hm
     have h6:=FU (h4.cpk h5) h1 (i:=i) (m:=m) hm g.nx
     have h7:=hR i m hm
     have hbx:(gX x).s.box i=[]:=h.bxs i
     show bZ (gX x).s i m+2*((gX x).s.box i).length≤0+_
     rw [hbx]
     rw [g.buf] at h6
     simp at h6 ⊢
     omega
  have h0:∀ n,kY (fun _=>0) n=0:=fun n=>by
   induction n with
   | zero=>rfl
   | succ n ih=>show kY _ n+0=0;rw [ih]
  rw [h0] at this
  omega
 have hU:=CP.VO h4 h5 (gX x).s.H.co
 have hUb:(gW mu bl ce κ x).U (gX x).s.H.co*(gW mu bl ce κ x).big (x.s.H.ww/2) R≤bl*(x.s.H.ww/2)*(gW mu bl ce κ x).big (x.s.H.ww/2) R:=Nat.mul_le_mul_right _ hU
 have hd:(if dB (gX x)=true then (gW mu bl ce κ x).dr R else 0)≤(gW mu bl ce κ x).dr R:=by split<;>omega
 have hpw:pwB (gX x)=false:=by
  unfold pwB
  have e1:(gX x).s.flag=false:=h.fl.1
  have e2:(gX x).coll.over=false:=h.fl.2
  rw [e1,e2,Bool.false_or,Bool.false_or,Bool.eq_false_iff]
  intro hh
  rw [List.any_eq_true] at hh
  obtain ⟨m,hm,hp⟩:=hh
  obtain ⟨i,hi⟩:=List.mem_iff_getElem?.1 hm
  rw [(h.bV i m hi).nx] at hp;cases hp
 have hq:(gX x).s.Q.qs=0:=by
  have:=h.q.1
  show x.s.Q.qs=0
  unfold Qu.qs
  rw [this 0,this 1,this 2,this 3];rfl
 have hst:(gX x).coll.stk=[]:=h.stk
 have hex:exB (gX x)=false:=rfl
 show (gW mu bl ce κ x).phi (x.s.H.ww/2) R (gX x)≤_
 unfold CP.phi
 rw [hpw,hq,hst,hex]
 show _+(mu - 0+(2+(gW mu bl ce κ x).ak R+(gW mu bl ce κ x).ak R+(gW mu bl ce κ x).rT (x.s.H.ww/2) R))+33*0+(if false=true then _ else 0)+_+(if false=true then _ else 0)+_+0*_≤_
 rw [if_neg (by decide),if_neg (by decide)]
 show _≤mu*(8*R+5)+(mu+(2+(gW mu bl ce κ x).ak R+(gW mu bl ce κ x).ak R+(gW mu bl ce κ x).rT (x.s.H.ww/2) R))+bl*(x.s.H.ww/2)*(gW mu bl ce κ x).big (x.s.H.ww/2) R+(gW mu bl ce κ x).dr R
 omega
end
def wU (bl w mu R ce l:Nat):Nat :=
 (2*(bl*(w/2))+6)*(40*(bl*(w/2))+2*mu*(l+4)+2*ce+(64+4*l+w)+(16+R*(l+8)+4*l)+40)+(2*bl*(w+8)+3*(64+4*l+w)+2*(16+R*(l+8)+4*l)+4*mu+60)
theorem Qx {n a mu bl ml ce l w rl bw:Nat} (h1:1≤bl∧bl≤4) (h2:16≤w∧w≤35) (h3:1≤mu∧mu≤4) (h5:ce≤3) (h6:1≤l∧l≤4) (hn:8≤n∧n≤68) (ha:a≤20) (VP:9≤rl) (VQ:rl≤60) (hml1:10≤ml) (hml2:ml≤64) (hbw:bw≤344) {S M B:Nat}
 (hM:M=(2*n+6)*(40*n+ml+2*ce+(64+4*l+w)+(16+rl+4*l)+40)) (hB:B=n*(34+(8*a+6*mu+mu+4+(34*n+bl)+mu+4)+(8*a+6*mu+mu+4)+mu+2)) (hS:S≤48*a+39*mu+50+4*bl+2*ce+n+B) :
 S+2≤M+(bw+3*(64+4*l+w)+2*(16+rl+4*l)+4*mu+60)∧S≤200000∧M+(bw+3*(64+4*l+w)+2*(16+rl+4*l)+4*mu+60)≤1000000:=by
 have hX:40*n+163≤40*n+ml+2*ce+(64+4*l+w)+(16+rl+4*l)+40:=by omega
 have hX2:40*n+ml+2*ce+(64+4*l+w)+(16+rl+4*l)+40≤3100:=by omega
 have hM1:=Nat.mul_le_mul_left (2*n+6) hX
 have hM2:(2*n+6)*(40*n+ml+2*ce+(64+4*l+w)+(16+rl+4*l)+40)≤142*3100:=Nat.mul_le_mul (by omega) hX2
 rw [← hM] at hM1 hM2
 have hMe:(2*n+6)*(40*n+163)=80*(n*n)+566*n+978:=by
  rw [Nat.add_mul,Nat.mul_add,Nat.mul_mul_mul_comm,Nat.mul_add]
  omega
 have hY:34+(8*a+6*mu+mu+4+(34*n+bl)+mu+4)+(8*a+6*mu+mu+4)+mu+2≤34*n+436:=by omega
 have hB1:=Nat.mul_le_mul_left n hY
 rw [← hB] at hB1
 have hBe:n*(34*n+436)=34*(n*n)+436*n:=by
  rw [Nat.mul_add,Nat.mul_left_comm,Nat.mul_comm n 436]
 have hnn:8*8≤n*n:=Nat.mul_le_mul hn.1 hn.1
 have hnn2:n*n≤68*68:=Nat.mul_le_mul hn.2 hn.2
 rw [hMe] at hM1
 rw [hBe] at hB1
 clear hM hB hX hX2 hY hMe hBe
 generalize n*n=nn at *
 refine ⟨?_,?_,?_⟩
 ·omega
 ·omega
 ·omega
theorem KZ {bl w mu R ce l:Nat} (h1:1≤bl∧bl≤4) (h2:16≤w∧w≤35) (h3:1≤mu∧mu≤4) (h4:1≤R∧R≤5) (h5:ce≤3) (h6:1≤l∧l≤4):sK mu bl ce R (w/2)+2≤wU bl w mu R ce l∧sK mu bl ce R (w/2)≤200000∧wU bl w mu R ce l≤1000000:=by
 have hw:8≤w/2∧w/2≤17:=by omega
 have hn1:1*8≤bl*(w/2):=Nat.mul_le_mul h1.1 hw.1
 have hn2:bl*(w/2)≤4*17:=Nat.mul_le_mul h1.2 hw.2
 have ha:mu*R≤4*5:=Nat.mul_le_mul h3.2 h4.2
 have VP:1*9≤R*(l+8):=Nat.mul_le_mul h4.1 (by omega)
 have VQ:R*(l+8)≤5*12:=Nat.mul_le_mul h4.2 (by omega)
 have hml1:2*1*5≤2*mu*(l+4):=Nat.mul_le_mul (Nat.mul_le_mul_left 2 h3.1) (by omega)
 have hml2:2*mu*(l+4)≤2*4*8:=Nat.mul_le_mul (Nat.mul_le_mul_left 2 h3.2) (by omega)
 have hbw:2*bl*(w+8)≤2*4*43:=Nat.mul_le_mul (Nat.mul_le_mul_left 2 h1.2) (by omega)
 have e1:mu*(8*R+6)=8*(mu*R)+6*mu:=by rw [Nat.mul_add,Nat.mul_left_comm,Nat.mul_comm mu 6]
 have e2:mu*(8*R+5)=8*(mu*R)+5*mu:=by rw [Nat.mul_add,Nat.mul_left_comm,Nat.mul_comm mu 5]
 have e3:bl*(w/2+4)=bl*(w/2)+4*bl:=by rw [Nat.mul_add,Nat.mul_comm bl 4]
 have e4:bl*(34*(w/2)+1)=34*(bl*(w/2))+bl:=by rw [Nat.mul_add,Nat.mul_left_comm,Nat.mul_one]
 refine Qx (n:=bl*(w/2)) (a:=mu*R) (rl:=R*(l+8)) (ml:=2*mu*(l+4)) (bw:=2*bl*(w+8)) h1 h2 h3 h5 h6 ⟨by omega,by omega⟩ (by omega) (by omega) (by omega) (by omega) (by omega) (by omega) rfl rfl ?_
 unfold sK
 simp only [CP.big,CP.wk,CP.rT,CP.rW,CP.rM,CP.dr,CP.ak]
 rw [e1,e2,e3,e4]
 generalize bl*(w/2)*_=B
 generalize mu*R=a at *
 generalize bl*(w/2)=n at *
 omega
abbrev QK (x:StP):HS:=mJ (HS.new x.c.little x.c.little.b.toNat x.c.little.w.toNat x.c.little.c.toNat) x.sz x.fl x.ce
abbrev wV (x:StP):List Nat:=(bP (HS.new x.c.little x.c.little.b.toNat x.c.little.w.toNat x.c.little.c.toNat) x.sz).objs
structure La (x:StP):Prop where
 idl:Idl x.c.little.m.toNat x.c.little.b.toNat x.c.little.c.toNat 0 (dN x)
 H:(dN x).s.H=QK x
 coll:(dN x).coll=CS.new x.c.little x.c.little.m.toNat
 regs:∀ (i:Nat) (m:MS),(dN x).muts[i]?=some m→m.regs.length≤x.c.little.r.toNat
 objs:(dN x).s.H.objs=wV x
 ww:(dN x).s.H.ww=x.c.little.w.toNat
 conf:(dN x).s.H.c=x.c.little
 dr:jF (dN x).coll
 cells:(dN x).s.H.cells.length=x.c.little.c.toNat
theorem Oq (x:StP) (hr:x.rg.length≤20) (hinv:bF (dN x).s.H):La x:=by
 have hb:=dW (pV x.c)
 obtain ⟨g,hd⟩:=CZ x hr
 have hH:(dN x).s.H=QK x:=by rw [g.s]
 have hR:=Sr (HS.new x.c.little x.c.little.b.toNat x.c.little.w.toNat x.c.little.c.toNat) x.sz x.fl x.ce
 have hM:=IQ x.sz (HS.new x.c.little x.c.little.b.toNat x.c.little.w.toNat x.c.little.c.toNat)
 have hHb:(dN x).s.H.b=x.c.little.b.toNat:=by rw [hH];exact hR.b.trans hM.b
 have hHw:(dN x).s.H.ww=x.c.little.w.toNat:=by rw [hH];exact hR.ww.trans hM.ww
 have hHn:(dN x).s.H.bn=(bP (HS.new x.c.little x.c.little.b.toNat x.c.little.w.toNat x.c.little.c.toNat) x.sz).bn:=by rw [hH];exact hR.bn
 have hHc:∀ a,(dN x).s.H.co a=false:=fun a=>by
  rw [hH,hR.co]
  exact hM.co (fun _=>rfl) a
 have U8:∀ (i:Nat) (m:MS),(dN x).muts[i]?=some m→m.regs.length=x.c.little.r.toNat:=fun i m hm=>by
  by_cases hi:1≤i
  ·rw [g.oth i m hm hi]
   show (List.replicate x.c.little.r.toNat 0).length=_
   simp
  ·have:i=0:=by omega
   subst this
   exact (g.one m hm).2.2.2.2.2.2.2.2.1
 have hB:BI x.c.little.m.toNat (dN x).s.B:=by
  rw [g.s]
  refine ⟨rfl,rfl,by omega,fun i hi=>?_⟩
  show (List.replicate 8 false).getD i false=false
  rw [List.getD_eq_getElem?_getD]
  rcases Nat.lt_or_ge i 8 with g|g
  ·rw [List.getElem?_eq_getElem (by simpa using g),List.getElem_replicate];rfl
  ·rw [List.getElem?_eq_none (by simpa using g)];rfl
 have hI:Idl x.c.little.m.toNat x.c.little.b.toNat x.c.little.c.toNat 0 (dN x):=by
  refine ⟨by decide,by omega,g.len,by rw [g.coll];rfl,?_,by rw [g.coll];rfl,by rw [g.coll];rfl,by rw [g.coll];rfl,hHb.symm,hinv,fun a _=>hHc a,hB,fun i hi=>?_,fun i m hm=>?_,fun i=>?_,by rw [g.coll];rfl,⟨by rw [g.s];rfl,by rw [g.coll];rfl⟩,?_,by rw [g.coll];rfl,by rw [g.coll];rfl⟩
  ·rw [g.s]
   show (List.replicate _ []).length=_
   simp
  ·rw [g.s];exact Gg _ _ _ _ _ _ i
  ·by_cases hi:1≤i
   ·rw [g.oth i m hm hi]
    exact ⟨rfl,Nat.le_refl _,by show 1≤x.c.little.l.toNat;omega,rfl,rfl,rfl⟩
   ·have:i=0:=by omega
    subst this
    obtain ⟨o1,o2,o3,o4,o5,o6,o7,o9,o10,o8⟩:=g.one m hm
    have hdn:=hd m hm
    unfold fU at hdn
    rw [Bool.and_eq_true] at hdn
    refine ⟨o1,by have:=of_decide_eq_true hdn.2;omega,by rw [o2];omega,o5,o6,Fb hdn.1⟩
  ·rw [g.s]
   show (List.replicate _ []).getD i []=[]
   rw [List.getD_eq_getElem?_getD]
   rcases Nat.lt_or_ge i x.c.little.m.toNat with g|g
   ·rw [List.getElem?_eq_getElem (by simpa using g),List.getElem_replicate];rfl
   ·rw [List.getElem?_eq_none (by simpa using g)];rfl
  ·rw [g.s]
   refine ⟨fun k=>?_,rfl,rfl⟩
   show ([[],[],[],[]]:List (List Int)).getD k []=[]
   match k with
   | 0=>rfl
   | 1=>rfl
   | 2=>rfl
   | 3=>rfl
   | k+4=>rfl
 refine ⟨hI,hH,g.coll,fun i m hm=>Nat.le_of_eq (U8 i m hm),?_,hHw,?_,?_,?_⟩
 ·unfold HS.objs
  rw [hHn]
  congr 1
  unfold HS.sz
  rw [hHb,hHw,hM.b,hM.ww];rfl
 ·rw [hH,hR.c,hM.c];rfl
 ·rw [g.coll]
  show 0≤_
  exact Nat.zero_le _
 ·rw [hH,hR.cl,hM.cells]
  show (List.replicate _ 0).length=_
  simp
end
end Go.Proofs.YtanfphjoebobaaaGreatDoor
