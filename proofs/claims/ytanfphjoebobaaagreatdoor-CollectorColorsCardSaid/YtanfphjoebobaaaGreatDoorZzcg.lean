/- Parts of a walk, put together and made shorter by a program of mine. No conditions. -/
import Derived.Test.YtanfphjoebobaaaGreatDoorZzce
import Derived.Test.YtanfphjoebobaaaGreatDoorZzcf
namespace Go.Proofs.YtanfphjoebobaaaGreatDoor
section
structure Ev where
 who:Nat
 kind:Nat
 op:Nat
 code:Int
 value:Nat
deriving DecidableEq
structure Sh where
 H:HS
 B:Bd
 Q:Qu
 flag:Bool
 boxes:List (List Nat)
inductive RD where
 | field (base:Nat) (f:Int) (v:Nat)
 | cell (i:Int) (v:Nat)
inductive MD where
 | nil
 | start (o:OpR)
 | once (k:Int)
 | note (v c:Nat) (t:MD)
 | add (v:Nat) (t:MD)
 | pour (c:Nat) (t:MD)
 | dG (c:Nat) (fresh:Bool) (t:MD)
 | raise (t:MD)
 | field (base:Nat) (f:Int) (t:MD)
 | load (o:OpR) (base:Nat)
 | get (o:OpR)
 | lay (v:Nat) (rd:RD)
 | last (rd:RD)
 | alloc (o:OpR) (k:Nat)
 | assign (o:OpR) (k:Nat)
 | lS (o:OpR) (all:List Nat)
 | claim (o:OpR) (k:Nat)
 | again (o:OpR) (k:Nat)
 | sweep (sl:List Nat) (c:Nat) (t:MD)
 | fill (o:OpR) (a:Nat)
 | zero (o:OpR) (a i:Nat)
structure MS where
 id:Nat
 c:aB
 regs:List Nat
 buf:List Nat
 mode:Nat
 color:Nat
 want:Nat
 prog:List OpR
 res:List (Int × Nat)
 next:MD
 held:Nat
 spent:Nat
 most0:Nat
 most1:Nat
 ans:Bool
structure lT where
 s:Sh
 m:MS
 next:MD
 ev:Option Ev
def Sh.box (s:Sh) (i:Nat):List Nat:=s.boxes.getD i []
def iP (v c:Nat) (t:MD):MD:=if v=0 then t else .note v c t
def MS.iQ (m:MS) (c:Nat) (t:MD):MD:=if m.buf=[] then t else .pour c t
def MS.Jd (m:MS) (v:Nat) (rd:RD):MD:=if m.mode=0 then .last rd else .lay v rd
def MS.did (m:MS) (code:Int) (v:Nat):MS:={ m with held:=0,res:=m.res++[(code,v)] }
def MS.ev (m:MS) (code:Int) (v:Nat):Ev:=⟨m.id,1,m.res.length,code,v⟩
def jS (s:Sh) (m:MS) (code:Int) (v:Nat):lT:=⟨s,m.did code v,.nil,some (m.ev code v)⟩
def lW (s:Sh) (m:MS) (r:Int) (v:Nat):lT:=jS s { m with regs:=m.regs.set r.toNat v } 0 v
def uX (s:Sh) (m:MS) (base:Nat) (f:Int) (t:MD):lT:=if base=0 then jS s m 6 0 else ⟨s,m,.field base f t,none⟩
def MS.reg (m:MS) (r:Int):Nat:=m.regs.getD r.toNat 0
def yR (o:OpR) (all:List Nat):MD:=if all.length=1 then .fill o (all.getD 0 0) else .lS o all
def fK (s:Sh) (m:MS) (o:OpR):lT :=
 if chk m.c o≠0 then jS s m (chk m.c o) 0
 else if o.k=1 then ⟨s,m,.alloc o (ofK o.b),none⟩
 else if o.k=2 then uX s m (m.reg o.b) o.c (.load o (m.reg o.b))
 else if o.k=3 then uX s m (m.reg o.a) o.b (m.Jd (m.reg o.c) (.field (m.reg o.a) o.b (m.reg o.c)))
 else if o.k=4 then ⟨s,m,.get o,none⟩
 else if o.k=5 then ⟨s,m,m.Jd (m.reg o.b) (.cell o.a (m.reg o.b)),none⟩
 else if o.k=6 then jS s { m with regs:=m.regs.set o.a.toNat 0 } 0 0
 else if o.k=7 then lW s m o.a (m.reg o.b)
 else jS s m 0 0
def dZ (m:MS) (k:Int):MS :=
 if k=1 then { m with buf:=[],mode:=2,want:=1 - m.color }
 else if k=2 then m
 else if k=3 then { m with color:=m.want }
 else if k=5 then { m with mode:=1 }
 else { m with buf:=[],mode:=0 }
def RD.read (H:HS):RD→Nat
 | .field base f _=>H.bQ base f
 | .cell i _=>H.cellP i
def RD.write (H:HS):RD→HS
 | .field base f v=>H.dY base f v
 | .cell i v=>H.kN i v
def aJ (l:List Nat):Nat:=l.headD 0
def stepM (s:Sh) (m:MS):MD→lT
 | .nil=>⟨s,m,.nil,none⟩
 | .start o=>fK s m o
 | .once k=>⟨{ s with B:=s.B.gu m.id },dZ m k,.nil,none⟩
 | .note v c t =>
   if !s.H.bn v||s.H.dA v==c then ⟨s,m,t,none⟩
   else if m.buf.length=m.c.l.toNat then ⟨s,m,m.iQ c (.add v t),none⟩
   else ⟨s,{ m with buf:=m.buf++[v] },t,none⟩
 | .add v t=>if m.buf.length=m.c.l.toNat then ⟨s,m,t,none⟩ else ⟨s,{ m with buf:=m.buf++[v] },t,none⟩
 | .pour c t=>if s.box m.id=[] then ⟨{ s with boxes:=s.boxes.set m.id m.buf },{ m with buf:=[] },t,none⟩ else ⟨s,m,.dG c false t,none⟩
 | .dG c fresh t =>
   ⟨{ s with H:=s.H.aY (aJ m.buf) c },{ m with buf:=m.buf.tail },
    if m.buf.tail≠[] then .dG c (fresh||s.H.dw (aJ m.buf) c) t else if (fresh||s.H.dw (aJ m.buf) c)=true then .raise t else t,none⟩
 | .raise t=>⟨{ s with flag:=true },m,t,none⟩
 | .field base f t=>if f<0∨((s.H.aT base).1:Int)≤f then jS s m 7 0 else ⟨s,m,t,none⟩
 | .load o base=>lW s m o.a (s.H.bQ base o.c)
 | .get o=>lW s m o.a (s.H.cellP o.b)
 | .lay v rd=>⟨s,{ m with held:=rd.read s.H },iP (rd.read s.H) m.want (if m.mode=2 then iP v m.want (.last rd) else .last rd),none⟩
 | .last rd=>jS { s with H:=rd.write s.H } m 0 0
 | .alloc o k=>if (s.H.dL k).2.1=0 then ⟨{ s with H:=(s.H.dL k).2.2 },m,.fill o (s.H.dL k).1,none⟩ else ⟨s,m,.assign o k,none⟩
 | .assign o k=>if (s.H.bJ k).2.1=0 then ⟨{ s with H:=(s.H.bJ k).2.2 },m,yR o (s.H.bJ k).1,none⟩ else ⟨s,m,.claim o k,none⟩
 | .lS o all=>⟨{ s with H:=s.H.dU (all.getD (all.length - 1) 0) },m,yR o (all.take (all.length - 1)),none⟩
 | .claim o k =>
   match s.Q.rw k with
   | []=>⟨s,m,.again o k,none⟩
   | x::_=>⟨{ s with Q:=s.Q.take k },m,.sweep (s.H.slots x.toNat) m.color (.again o k),none⟩
 | .again o k=>if (s.H.dL k).2.1=0 then ⟨{ s with H:=(s.H.dL k).2.2 },m,.fill o (s.H.dL k).1,none⟩ else jS s m 10 0
 | .sweep sl c t =>
   match sl with
   | []=>⟨{ s with Q:=if s.Q.opn=0 then s.Q else s.Q.lQ },m,t,none⟩
   | a::r=>if !s.H.bn a||s.H.dA a==c then ⟨s,m,.sweep r c t,none⟩ else ⟨{ s with H:=s.H.dX a },m,.sweep r c t,some ⟨m.id,5,0,0,a⟩⟩
 | .fill o a=>⟨{ s with H:=s.H.fJ a o.b },m,.zero o a 0,none⟩
 | .zero o a i=>if (i:Int)=o.b then lW { s with H:=s.H.iH a m.color } m o.a a else ⟨{ s with H:=s.H.dY a i 0 },m,.zero o a (i+1),none⟩
def iJ (want:Nat):List Nat→MD
 | [] => .once 3
 | v::l=>iP v want (iJ want l)
def bI (s:Sh) (m:MS):MD :=
 if s.B.pend m.id then
  if s.B.kind=3 then iJ m.want m.regs
  else if s.B.kind=5 then m.iQ m.want (.once 5)
  else .once s.B.kind
 else match m.prog[m.res.length]? with
  | some o => .start o
  | none => .nil
def MS.most (m:MS):MS:=if m.ans then { m with most1:=max m.most1 m.spent } else { m with most0:=max m.most0 m.spent }
def isNil:MD→Bool
 | .nil=>true
 | _=>false
def aQ (s:Sh) (m:MS):Sh × MS × Option Ev :=
 if isNil m.next then (s,{ m with spent:=1,ans:=s.B.pend m.id,next:=bI s m },none)
 else
  let r:=stepM s { m with spent:=m.spent+1 } m.next
  (r.s,if isNil r.next then { r.m with next := .nil }.most else { r.m with next:=r.next },r.ev)
inductive CD where
 | nil
 | wait (m:Nat) (t:CD)
 | arm
 | scan
 | trace
 | work
 | over
 | drain
 | marked
 | sweep
 | rests
 | off
 | idle
 | look (v:Nat) (t:CD)
 | cell (i:Nat)
 | object (a:Nat) (t:CD)
 | field (a i n:Nat) (t:CD)
 | box (m:Nat)
 | walk (b:Nat)
 | slots (l:List Nat) (t:CD)
 | empty (t:CD)
 | enqueue (b:Nat)
 | block (l:List Nat)
structure CS where
 muts:Nat
 blocks:Nat
 cells:Nat
 room:Nat
 phase:Nat
 color:Nat
 cycles:Nat
 wish:Bool
 fresh:Bool
 stk:List Nat
 over:Bool
 next:CD
 drains:Nat
 walks:Nat
structure iT where
 s:Sh
 c:CS
 next:CD
 ev:Option Ev
def Sh.ask (s:Sh) (k:Nat):Sh:={ s with B:=s.B.kX (k:Int) }
def oU (s:Sh) (c:CS) (p:Nat) (t:CD) (ev:Option Ev):iT:=⟨s.ask p,{ c with phase:=p },.wait 0 t,ev⟩
def bG (v:Nat) (t:CD):CD:=if v=0 then t else .look v t
def CS.dF (c:CS) (i:Nat):CD:=if i=c.cells then .work else .cell i
def bD (a i n:Nat) (t:CD):CD:=if i=n then t else .field a i n t
def CS.dH (c:CS) (b:Nat):CD:=if b=c.blocks then .work else .walk b
def bU (l:List Nat) (t:CD):CD:=if l=[] then t else .slots l t
def CS.gy (c:CS) (b:Nat):CD:=if b=c.blocks then .sweep else .enqueue b
def CS.push (c:CS) (a:Nat):CS:=if c.stk.length=c.room then { c with over:=true } else { c with stk:=c.stk++[a] }
def CS.pop (c:CS):CS:={ c with stk:=c.stk.dropLast }
def CS.ev (c:CS) (kind value:Nat):Ev:=⟨c.muts,kind,0,0,value⟩
def Bd.did (b:Bd) (m:Nat):Bool:=b.is m && !b.isOpen m
def Qu.any (q:Qu):Option (Nat × Nat):=(List.range 4).findSome? fun k=>match q.rw k with
 | []=>none
 | x::_=>some (k,x.toNat)
def aj (s:Sh) (c:CS):CD→iT
 | .nil=>⟨s,c,.nil,none⟩
 | .wait m t=>⟨s,c,if !s.B.did m then .wait m t else if m+1<c.muts then .wait (m+1) t else t,none⟩
 | .arm=>oU s c 2 .scan none
 | .scan=>oU s c 3 .trace none
 | .trace=>⟨s,{ c with phase:=4 },c.dF 0,none⟩
 | .cell i=>⟨s,c,bG (s.H.cellP i) (c.dF (i+1)),none⟩
 | .look v t=>if s.H.dw v c.color then ⟨{ s with H:=s.H.aY v c.color },{ c with fresh:=true }.push v,t,none⟩ else ⟨s,c,t,none⟩
 | .work=>match c.stk.getLast? with
   | some a=>⟨s,c.pop,.object a .work,none⟩
   | none=>⟨s,c,.box 0,none⟩
 | .object a t=>⟨s,c,bD a 0 (s.H.aT a).1 t,none⟩
 | .field a i n t=>⟨s,c,bG (s.H.bQ a i) (bD a (i+1) n t),none⟩
 | .box m=>match s.box m with
   | a::l=>⟨{ s with boxes:=s.boxes.set m l },c,bG a (.box m),none⟩
   | []=>⟨s,c,if m+1<c.muts then .box (m+1) else if c.stk=[] then .over else .work,none⟩
 | .over =>
   if !s.flag && !c.over then
    (if c.phase=4 then ⟨s,c,.drain,none⟩ else if c.fresh then ⟨s,{ c with phase:=4 },.drain,none⟩ else ⟨s,c,.marked,none⟩)
   else ⟨{ s with flag:=false },{ c with over:=false,fresh:=true,walks:=c.walks+1 },c.dH 0,none⟩
 | .drain=>oU s { c with fresh:=false,drains:=c.drains+1 } 5 .work none
 | .marked=>⟨s,{ c with phase:=6 },c.gy 0,some (c.ev 3 c.cycles)⟩
 | .enqueue b=>⟨if s.H.K.getD b 0=0 then s else { s with Q:=s.Q.put ((s.H.K.getD b 0:Int) - 1) b },c,c.gy (b+1),none⟩
 | .sweep=>match s.Q.any with
   | none=>⟨s,c,.rests,none⟩
   | some (k,b)=>⟨{ s with Q:=s.Q.take k },c,.block (s.H.slots b),none⟩
 | .block sl=>match sl with
   | []=>⟨{ s with Q:=s.Q.lQ },c,.sweep,none⟩
   | a::r=>if !s.H.bn a||s.H.dA a==c.color then ⟨s,c,.block r,none⟩ else ⟨{ s with H:=s.H.dX a },c,.block r,some (c.ev 5 a)⟩
 | .rests=>⟨s,c,if s.Q.rests then .off else .sweep,none⟩
 | .off=>oU s c 7 .idle none
 | .idle=>⟨s,{ c with phase:=0 },.nil,some (c.ev 4 c.cycles)⟩
 | .walk b=>⟨s,c,bU (s.H.slots b) (c.dH (b+1)),none⟩
 | .slots l t=>⟨s,c,if !s.H.bn (aJ l)||s.H.dA (aJ l) != c.color then bU l.tail t else .object (aJ l) (.empty (bU l.tail t)),none⟩
 | .empty t=>match c.stk.getLast? with
   | some a=>⟨s,c.pop,.object a (.empty t),none⟩
   | none=>⟨s,c,t,none⟩
def kR:CD→Bool
 | .nil=>true
 | _=>false
def gI (s:Sh) (c:CS):iT:=oU s { c with wish:=false,cycles:=c.cycles+1,color:=1 - c.color } 1 .arm (some (c.ev 2 (c.cycles+1)))
def aW (s:Sh) (c:CS):iT :=
 let r:=if !kR c.next then aj s c c.next else if c.wish then gI s c else ⟨s,c,.nil,none⟩
 ⟨r.s,{ r.c with next:=r.next },r.next,r.ev⟩
structure WS where
 s:Sh
 muts:List MS
 coll:CS
 evs:List (Nat × Ev)
 picks:Nat
def WS.tell (x:WS) (ev:Option Ev):WS:=match ev with
 | none=>{ x with picks:=x.picks+1 }
 | some e=>{ x with evs:=x.evs++[(x.picks,e)],picks:=x.picks+1 }
def bC (x:WS) (who:Nat):WS :=
 match x.muts[who]? with
 | some m=>let r:=aQ x.s m;({ x with s:=r.1,muts:=x.muts.set who r.2.1 }:WS).tell r.2.2
 | none =>
   if who=x.muts.length then let r:=aW x.s x.coll;({ x with s:=r.s,coll:=r.c }:WS).tell r.ev
   else ({ x with coll:={ x.coll with wish:=true } }:WS).tell none
end
section
open Go.RowKit
def rdn (R:List (List Int)) (i j:Nat):Int:=(R.getD i []).getD j 0
def wrn (R:List (List Int)) (i j:Nat) (x:Int):List (List Int):=R.set i ((R.getD i []).set j x)
def gdo (m:Nat) (R:List (List Int)) (k:Nat) (o:OpR):List (List Int) × Int × Int :=
 if o.k=1 then (wrn (R++[List.replicate o.b.toNat 0]) k o.a.toNat ((R.length - m:Nat):Int),((R.length - m:Nat):Int),0)
 else if o.k=2 then
  if rdn R k o.b.toNat=0 then (R,0,6)
  else if o.c<0∨((R.getD (m+(rdn R k o.b.toNat).toNat) []).length:Int)≤o.c then (R,0,7)
  else (wrn R k o.a.toNat (rdn R (m+(rdn R k o.b.toNat).toNat) o.c.toNat),rdn R (m+(rdn R k o.b.toNat).toNat) o.c.toNat,0)
 else if o.k=3 then
  if rdn R k o.a.toNat=0 then (R,0,6)
  else if o.b<0∨((R.getD (m+(rdn R k o.a.toNat).toNat) []).length:Int)≤o.b then (R,0,7)
  else (wrn R (m+(rdn R k o.a.toNat).toNat) o.b.toNat (rdn R k o.c.toNat),0,0)
 else if o.k=4 then (wrn R k o.a.toNat (rdn R m o.b.toNat),rdn R m o.b.toNat,0)
 else if o.k=5 then (wrn R m o.a.toNat (rdn R k o.b.toNat),0,0)
 else if o.k=6 then (wrn R k o.a.toNat 0,0,0)
 else if o.k=7 then (wrn R k o.a.toNat (rdn R k o.b.toNat),rdn R k o.b.toNat,0)
 else (R,0,0)
def V8 (c:aB) (m:Nat) (R:List (List Int)) (mi:Int) (o:OpR):List (List Int) × Int × Int :=
 if mi<0∨(m:Int)≤mi then (R,0,4) else if chk c o≠0 then (R,0,chk c o) else gdo m R mi.toNat o
structure Good (c:aB) (m:Nat) (R:List (List Int)):Prop where
 lt:m<R.length
 reg:∀ i:Nat,i<m→∀ zs:List Int,R[i]?=some zs→(zs.length:Int)=c.r
 cell:∀ zs:List Int,R[m]?=some zs→(zs.length:Int)=c.c
 val:∀ (i:Nat) (zs:List Int) (j:Nat),R[i]?=some zs→j<zs.length→∃ q:Nat,zs.getD j 0=q∧q≤R.length - (m+1)
 sz:∀ (i:Nat) (zs:List Int),R[i]?=some zs→zs.length≤100
theorem gB {cur n below e:Int} (he:e≠0) (h:dS cur n below e=0):cur=0∧0≤n∧n<below:=by
 unfold dS at h
 split at h
 ·exact absurd h he
 ·rename_i h1
  subst h
  simp at h1
  omega
theorem OO {c:aB} {o:OpR} (h:chk c o=0):isKind o.k=true∧lV c o (jK o.k).length=0:=by
 unfold chk at h
 split at h
 ·rename_i h1
  simp at h1
  exact ⟨h1.2,h⟩
 ·simp at h
theorem Bg {c:aB} {o:OpR} (h:chk c o=0) :
 (o.k=1∧(0≤o.a∧o.a<c.r)∧(0≤o.b∧o.b<16))∨(o.k=2∧(0≤o.a∧o.a<c.r)∧(0≤o.b∧o.b<c.r))∨(o.k=3∧(0≤o.a∧o.a<c.r)∧(0≤o.c∧o.c<c.r)) ∨
 (o.k=4∧(0≤o.a∧o.a<c.r)∧(0≤o.b∧o.b<c.c))∨(o.k=5∧(0≤o.a∧o.a<c.c)∧(0≤o.b∧o.b<c.r))∨(o.k=6∧(0≤o.a∧o.a<c.r))∨(o.k=7∧(0≤o.a∧o.a<c.r)∧(0≤o.b∧o.b<c.r))∨o.k=8:=by
 obtain ⟨h1,h2⟩:=OO h
 obtain ⟨k,a,b,d⟩:=o
 simp only at *
 simp [isKind] at h1
 have e:k=1∨k=2∨k=3∨k=4∨k=5∨k=6∨k=7∨k=8:=by omega
 rcases e with rfl|rfl|rfl|rfl|rfl|rfl|rfl|rfl
 ·have e:jK 1=[114,115]:=rfl
  simp only [e,List.length_cons,List.length_nil,lV,dQ,numOf] at h2
  simp at h2
  obtain ⟨h3,h4⟩:=gB (by decide) h2
  have h5:=(gB (by decide) h3).2
  exact .inl ⟨rfl,h5,h4⟩
 ·have e:jK 2=[114,114,102]:=rfl
  simp only [e,List.length_cons,List.length_nil,lV,dQ,numOf] at h2
  simp at h2
  obtain ⟨h3,h4⟩:=gB (by decide) h2
  have h5:=(gB (by decide) h3).2
  exact .inr (.inl ⟨rfl,h5,h4⟩)
 ·have e:jK 3=[114,102,114]:=rfl
  simp only [e,List.length_cons,List.length_nil,lV,dQ,numOf] at h2
  simp at h2
  obtain ⟨h3,h4⟩:=gB (by decide) h2
  have h5:=(gB (by decide) h3).2
  exact .inr (.inr (.inl ⟨rfl,h5,h4⟩))
 ·have e:jK 4=[114,99]:=rfl
  simp only [e,List.length_cons,List.length_nil,lV,dQ,numOf] at h2
  simp at h2
  obtain ⟨h3,h4⟩:=gB (by decide) h2
  have h5:=(gB (by decide) h3).2
  exact .inr (.inr (.inr (.inl ⟨rfl,h5,h4⟩)))
 ·have e:jK 5=[99,114]:=rfl
  simp only [e,List.length_cons,List.length_nil,lV,dQ,numOf] at h2
  simp at h2
  obtain ⟨h3,h4⟩:=gB (by decide) h2
  have h5:=(gB (by decide) h3).2
  exact .inr (.inr (.inr (.inr (.inl ⟨rfl,h5,h4⟩))))
 ·have e:jK 6=[114]:=rfl
  simp only [e,List.length_cons,List.length_nil,lV,dQ,numOf] at h2
  simp at h2
  have h5:=(gB (by decide) h2).2
  exact .inr (.inr (.inr (.inr (.inr (.inl ⟨rfl,h5⟩)))))
 ·have e:jK 7=[114,114]:=rfl
  simp only [e,List.length_cons,List.length_nil,lV,dQ,numOf] at h2
  simp at h2
  obtain ⟨h3,h4⟩:=gB (by decide) h2
  have h5:=(gB (by decide) h3).2
  exact .inr (.inr (.inr (.inr (.inr (.inr (.inl ⟨rfl,h5,h4⟩))))))
 ·exact .inr (.inr (.inr (.inr (.inr (.inr (.inr rfl))))))
end
section
def Je (R:Nat) (o:OpR):Prop:=0≤o.a∧o.a<R
def sZ (R:Nat) (o:OpR):Prop:=Je R o∧0≤o.b∧o.b≤15
def jT (R:Nat):MD→Prop
 | .nil=>True
 | .start _=>True
 | .once _=>True
 | .note _ _ t=>jT R t
 | .add _ t=>jT R t
 | .pour _ t=>jT R t
 | .dG _ _ t=>jT R t
 | .raise t=>jT R t
 | .field _ _ t=>jT R t
 | .load o _=>Je R o
 | .get o=>Je R o
 | .lay _ _=>True
 | .last _=>True
 | .alloc o k=>sZ R o∧k<4
 | .assign o k=>sZ R o∧k<4
 | .lS o _=>sZ R o
 | .claim o k=>sZ R o∧k<4
 | .again o k=>sZ R o∧k<4
 | .sweep _ _ t=>jT R t
 | .fill o _=>sZ R o
 | .zero o _ i=>sZ R o∧(i:Int)≤o.b
def QOk (s:Sh):Prop:=∀ k:Nat,∀ x∈s.Q.rw k,0≤x∧s.H.K.getD x.toNat 0≠0
theorem QOk.heap {s:Sh} {H:HS} (h:QOk s) (hK:∀ x,s.H.K.getD x 0≠0→H.K.getD x 0≠0):QOk { s with H:=H }:=fun k x hx=>⟨(h k x hx).1,hK _ (h k x hx).2⟩
section
variable {H:HS}
theorem Ih (k:Nat):(H.dL k).2.2.K=H.K:=by unfold HS.dL;split<;>rfl
theorem LW (a:Nat):(H.dU a).K=H.K:=by
 unfold HS.dU
 split
 ·rfl
 ·split<;>rfl
theorem OQ (a:Nat) (f:Int):(H.fJ a f).K=H.K:=by
 unfold HS.fJ
 split
 ·rfl
 ·split<;>rfl
theorem Q5 (a c:Nat):(H.iH a c).K=H.K:=by unfold HS.iH;split<;>rfl
theorem Ii (a:Nat):(H.dX a).K=H.K:=by
 unfold HS.dX
 split
 ·rw [LW];rfl
 ·rfl
theorem Ee (a:Nat) (f:Int) (v:Nat):(H.dY a f v).K=H.K:=by unfold HS.dY;split<;>rfl
theorem SX (i:Int) (v:Nat):(H.kN i v).K=H.K:=by unfold HS.kN;split<;>rfl
theorem Ef (a c:Nat):(H.aY a c).K=H.K:=by unfold HS.aY;split<;>rfl
theorem LX (k x:Nat) (h:H.K.getD x 0≠0):(H.bJ k).2.2.K.getD x 0≠0:=by
 unfold HS.bJ
 split
 ·exact h
 ·rename_i B hB
  show (H.K.set B (k+1)).getD x 0≠0
  by_cases e:B=x
  ·subst e
   have hlt:B<H.K.length:=by
    rcases Nat.lt_or_ge B H.K.length with h1|h1
    ·exact h1
    ·rw [List.getD_eq_getElem?_getD,List.getElem?_eq_none h1] at h;exact absurd rfl h
   rw [uS hlt];omega
  ·rw [rY e];exact h
theorem UN (rd:RD):(rd.write H).K=H.K:=by
 cases rd with
 | field b f v=>exact Ee b f v
 | cell i v=>exact SX i v
end
theorem QOk.same {s:Sh} {H:HS} (h:QOk s) (hK:H.K=s.H.K):QOk { s with H:=H }:=h.heap (fun x hx=>by rw [hK];exact hx)
theorem Eh {l:List (List Int)} {i j:Nat} {r:List Int} {x:Int} (hr:∀ y∈r,y∈l.getD i []) (h:x∈(l.set i r).getD j []):∃ k,x∈l.getD k []:=by
 rw [List.getD_eq_getElem?_getD] at h
 by_cases e:i=j
 ·subst e
  by_cases hlt:i<l.length
  ·rw [List.getElem?_set_self hlt] at h
   exact ⟨i,hr _ h⟩
  ·rw [List.set_eq_of_length_le (by omega),← List.getD_eq_getElem?_getD] at h
   exact ⟨i,h⟩
 ·rw [List.getElem?_set_ne e,← List.getD_eq_getElem?_getD] at h
  exact ⟨j,h⟩
theorem QOk.take {s:Sh} (h:QOk s) (k:Nat):QOk { s with Q:=s.Q.take k }:=fun j x hx=>by
 obtain ⟨i,hi⟩:=Eh (l:=s.Q.rows) (i:=(k:Int).toNat) (j:=j) (r:=(s.Q.row k).drop 1) (fun y hy=>List.mem_of_mem_drop hy) hx
 exact h i x hi
theorem QOk.done {s:Sh} (h:QOk s):QOk { s with Q:=s.Q.lQ }:=fun k x hx=>h k x hx
structure Pok (N:Nat) (s:Sh) (m:MS):Prop where
 color:m.color<2
 want:m.want<2
 opn:s.Q.opn≤N
 res:m.res.length≤N
 q:QOk s
 sp:m.spent≤N
 rl:(m.regs.length:Int)=m.c.r
 nx:jT m.regs.length m.next
structure SK (N:Nat) (m:MS) (r:lT):Prop where
 color:r.m.color<2
 want:r.m.want<2
 opn:r.s.Q.opn≤N+1
 res:r.m.res.length≤N+1
 q:QOk r.s
 nx:jT r.m.regs.length r.next
 c:r.m.c=m.c
 id:r.m.id=m.id
 prog:r.m.prog=m.prog
 rlen:r.m.regs.length=m.regs.length
 spent:r.m.spent=m.spent
section
variable {N:Nat} {s:Sh} {m:MS}
structure Sok (N:Nat) (s:Sh) (m:MS):Prop where
 color:m.color<2
 want:m.want<2
 opn:s.Q.opn≤N
 res:m.res.length≤N
 q:QOk s
 rl:(m.regs.length:Int)=m.c.r
theorem Sok.jS (h:Sok N s m) {s':Sh} (code:Int) (v:Nat) (ho:s'.Q.opn≤N+1) (hq:QOk s'):SK N m (jS s' m code v) :=
 ⟨h.color,h.want,ho,by have:=h.res;show (m.res++[(code,v)]).length≤N+1;simp;omega,hq,trivial,rfl,rfl,rfl,rfl,rfl⟩
theorem Sok.lW (h:Sok N s m) {s':Sh} (r:Int) (v:Nat) (ho:s'.Q.opn≤N+1) (hq:QOk s'):SK N m (lW s' m r v) :=
 ⟨h.color,h.want,ho,by have:=h.res;show (m.res++[((0:Int),v)]).length≤N+1;simp;omega,hq,trivial,rfl,rfl,rfl,by show (m.regs.set r.toNat v).length=_;simp,rfl⟩
theorem Sok.next (h:Sok N s m) {s':Sh} {d:MD} {ev:Option Ev} (ho:s'.Q.opn≤N+1) (hq:QOk s') (hd:jT m.regs.length d):SK N m ⟨s',m,d,ev⟩ :=
 ⟨h.color,h.want,ho,by have:=h.res;show m.res.length≤N+1;omega,hq,hd,rfl,rfl,rfl,rfl,rfl⟩
theorem Sok.opn1 (h:Sok N s m):s.Q.opn≤N+1:=by have:=h.opn;omega
theorem SY (f:Int):ofK f<4:=by unfold ofK;(repeat' split)<;>omega
theorem Ei {R:Nat} {c:Nat} {t:MD} (h:jT R t):jT R (m.iQ c t):=by
 unfold MS.iQ
 split<;>exact h
theorem xO {R:Nat} {v c:Nat} {t:MD} (h:jT R t):jT R (iP v c t):=by
 unfold iP
 split<;>exact h
theorem Ij {R:Nat} {v:Nat} {rd:RD}:jT R (m.Jd v rd):=by
 unfold MS.Jd
 split<;>trivial
theorem Bh {R:Nat} {o:OpR} {all:List Nat} (h:sZ R o):jT R (yR o all):=by
 unfold yR
 split<;>exact h
theorem OT (h:Sok N s m) (o:OpR):SK N m (fK s m o):=by
 have d:=fun code v=>h.jS (s':=s) code v h.opn1 h.q
 unfold fK
 split
 ·exact d _ _
 rename_i hc
 have hc':chk m.c o=0:=by simpa using hc
 have ha:o.k=1→sZ m.regs.length o:=fun e=>by
  rcases Bg hc' with ⟨hk,ha,hb⟩|⟨hk,ha,hb⟩|⟨hk,ha,hb⟩|⟨hk,ha,hb⟩|⟨hk,ha,hb⟩|⟨hk,ha⟩|⟨hk,ha,hb⟩|hk
  ·exact ⟨⟨ha.1,by rw [h.rl];exact ha.2⟩,hb.1,by omega⟩
  all_goals omega
 have hr:o.k=2∨o.k=4→Je m.regs.length o:=fun e=>by
  rcases Bg hc' with ⟨hk,ha,hb⟩|⟨hk,ha,hb⟩|⟨hk,ha,hb⟩|⟨hk,ha,hb⟩|⟨hk,ha,hb⟩|⟨hk,ha⟩|⟨hk,ha,hb⟩|hk
  ·omega
  ·exact ⟨ha.1,by rw [h.rl];exact ha.2⟩
  ·omega
  ·exact ⟨ha.1,by rw [h.rl];exact ha.2⟩
  all_goals omega
 have fd:∀ base f t,jT m.regs.length t→SK N m (uX s m base f t):=fun base f t ht=>by
  unfold uX
  split
  ·exact d _ _
  ·exact h.next h.opn1 h.q ht
 split
 ·rename_i e;exact h.next h.opn1 h.q ⟨ha e,SY _⟩
 split
 ·rename_i e;exact fd _ _ _ (hr (.inl e))
 split
 ·exact fd _ _ _ Ij
 split
 ·rename_i e;exact h.next h.opn1 h.q (hr (.inr e))
 split
 ·exact h.next h.opn1 h.q Ij
 split
 ·exact ⟨h.color,h.want,h.opn1,by have:=h.res;show (m.res++[((0:Int),0)]).length≤N+1;simp;omega,h.q,trivial,rfl,rfl,rfl,by show (m.regs.set _ _).length=_;simp,rfl⟩
 split
 ·exact h.lW _ _ h.opn1 h.q
 ·exact d _ _
theorem step_ok (h:Sok N s m) (d:MD) (hd:jT m.regs.length d):SK N m (stepM s m d):=by
 have q:=h.q
 have o1:=h.opn1
 cases d with
 | nil=>exact h.next o1 q trivial
 | start o=>exact OT h o
 | once k =>
   have hw:=h.want
   have hc:=h.color
   have hr:=h.res
   have hb:QOk { s with B:=s.B.gu m.id }:=fun k x hx=>q k x hx
   simp only [stepM,dZ]
   repeat' split
   all_goals exact ⟨by simp only<;>omega,by simp only<;>omega,o1,by simp only<;>omega,hb,trivial,rfl,rfl,rfl,rfl,rfl⟩
 | note v c t =>
   simp only [stepM]
   repeat' split
   ·exact h.next o1 q hd
   ·exact h.next o1 q (Ei hd)
   ·exact ⟨h.color,h.want,o1,by have:=h.res;simp only;omega,q,hd,rfl,rfl,rfl,rfl,rfl⟩
 | add v t =>
   simp only [stepM]
   split
   ·exact h.next o1 q hd
   ·exact ⟨h.color,h.want,o1,by have:=h.res;simp only;omega,q,hd,rfl,rfl,rfl,rfl,rfl⟩
 | pour c t =>
   simp only [stepM]
   split
   ·exact ⟨h.color,h.want,o1,by have:=h.res;simp only;omega,fun k x hx=>q k x hx,hd,rfl,rfl,rfl,rfl,rfl⟩
   ·exact h.next o1 q hd
 | dG c f t =>
   simp only [stepM]
   refine ⟨h.color,h.want,o1,by have:=h.res;simp only;omega,q.same (Ef _ _),?_,rfl,rfl,rfl,rfl,rfl⟩
   repeat' split
   all_goals exact hd
 | raise t=>exact h.next o1 (fun k x hx=>q k x hx) hd
 | field base f t =>
   simp only [stepM]
   split
   ·exact h.jS _ _ o1 q
   ·exact h.next o1 q hd
 | load o base=>exact h.lW _ _ o1 q
 | get o=>exact h.lW _ _ o1 q
 | lay v rd =>
   simp only [stepM]
   refine ⟨h.color,h.want,o1,by have:=h.res;simp only;omega,q,?_,rfl,rfl,rfl,rfl,rfl⟩
   refine xO ?_
   split
   ·exact xO trivial
   ·trivial
 | last rd=>exact h.jS _ _ o1 (q.same (UN rd))
 | alloc o k =>
   simp only [stepM]
   split
   ·exact h.next o1 (q.same (Ih k)) hd.1
   ·exact h.next o1 q hd
 | assign o k =>
   simp only [stepM]
   split
   ·exact h.next o1 (q.heap (fun x hx=>LX k x hx)) (Bh hd.1)
   ·exact h.next o1 q hd
 | lS o all=>exact h.next o1 (q.same (LW _)) (Bh hd)
 | claim o k =>
   simp only [stepM]
   split
   ·exact h.next o1 q hd
   ·exact h.next (by have:=h.opn;show s.Q.opn+1≤N+1;omega) (q.take k) hd
 | again o k =>
   simp only [stepM]
   split
   ·exact h.next o1 (q.same (Ih k)) hd.1
   ·exact h.jS _ _ o1 q
 | sweep sl c t =>
   cases sl with
   | nil =>
     simp only [stepM]
     refine h.next ?_ ?_ hd
     ·show (if s.Q.opn=0 then s.Q else s.Q.lQ).opn≤N+1
      split
      ·exact o1
      ·show s.Q.opn - 1≤N+1;omega
     ·show QOk { s with Q:=if s.Q.opn=0 then s.Q else s.Q.lQ }
      split
      ·exact q
      ·exact q.done
   | cons a r =>
     simp only [stepM]
     split
     ·exact h.next o1 q hd
     ·exact h.next o1 (q.same (Ii a)) hd
 | fill o a=>exact h.next o1 (q.same (OQ _ _)) ⟨hd,hd.2.1⟩
 | zero o a i =>
   obtain ⟨hd1,hd2⟩:=hd
   simp only [stepM]
   split
   ·exact h.lW _ _ o1 (q.same (Q5 _ _))
   ·refine h.next o1 (q.same (Ee _ _ _)) ⟨hd1,?_⟩
    push_cast;omega
theorem scan_ok {R c:Nat}:∀ l:List Nat,jT R (iJ c l)
 | []=>trivial
 | _::l=>xO (scan_ok l)
theorem OU {R:Nat}:jT R (bI s m):=by
 unfold bI
 split
 ·split
  ·exact scan_ok _
  ·split
   ·exact Ei trivial
   ·trivial
 ·split<;>trivial
theorem Ik (h:Pok N s m):Pok (N+1) (aQ s m).1 (aQ s m).2.1∧(aQ s m).2.1.c=m.c∧(aQ s m).2.1.id=m.id∧(aQ s m).2.1.prog=m.prog∧(aQ s m).2.1.regs.length=m.regs.length:=by
 unfold aQ
 split
 ·exact ⟨⟨h.color,h.want,by have:=h.opn;simp only;omega,by have:=h.res;simp only;omega,h.q,by simp only;omega,h.rl,OU⟩,rfl,rfl,rfl,rfl⟩
 ·have hs:Sok N s { m with spent:=m.spent+1 }:=⟨h.color,h.want,h.opn,h.res,h.q,h.rl⟩
  have r:=step_ok hs m.next h.nx
  have sp:(stepM s { m with spent:=m.spent+1 } m.next).m.spent≤N+1:=by rw [r.spent];have:=h.sp;simp only;omega
  have rl:((stepM s { m with spent:=m.spent+1 } m.next).m.regs.length:Int)=(stepM s { m with spent:=m.spent+1 } m.next).m.c.r:=by rw [r.rlen,r.c];exact h.rl
  generalize stepM s { m with spent:=m.spent+1 } m.next=R at *
  have rn:=r.nx
  simp only
  split
  ·unfold MS.most
   split
   ·exact ⟨⟨r.color,r.want,r.opn,r.res,r.q,sp,rl,trivial⟩,r.c,r.id,r.prog,r.rlen⟩
   ·exact ⟨⟨r.color,r.want,r.opn,r.res,r.q,sp,rl,trivial⟩,r.c,r.id,r.prog,r.rlen⟩
  ·exact ⟨⟨r.color,r.want,r.opn,r.res,r.q,sp,rl,rn⟩,r.c,r.id,r.prog,r.rlen⟩
end
def jC (mu bl ce:Nat):CD→Prop
 | .wait m t=>m<mu∧jC mu bl ce t
 | .look _ t=>jC mu bl ce t
 | .cell i=>i<ce
 | .object _ t=>jC mu bl ce t
 | .field _ i n t=>i<n∧n≤100∧jC mu bl ce t
 | .box m=>m<mu
 | .walk b=>b<bl
 | .slots l t=>l≠[]∧l.length≤1000∧jC mu bl ce t
 | .empty t=>jC mu bl ce t
 | .enqueue b=>b<bl
 | _=>True
def HBd (H:HS):Prop:=(∀ a,(H.aT a).1≤100)∧∀ b,(H.slots b).length≤1000
structure CK (N:Nat) (s:Sh) (c:CS):Prop where
 mu:s.boxes.length=c.muts
 mu1:1≤c.muts∧c.muts≤8
 bl:c.blocks≤4096
 ce:c.cells≤64
 rm:1≤c.room∧c.room≤4096
 stk:c.stk.length≤c.room
 color:c.color<2
 cyc:c.cycles≤N
 dr:c.drains≤N
 wa:c.walks≤N
 opn:s.Q.opn≤N
 q:QOk s
 ql:∀ k,(s.Q.rw k).length≤N
 cnt:0≤s.B.count∧s.B.count≤N
 ph:c.phase≤7
structure CKR (N:Nat) (c:CS) (r:iT):Prop where
 k:CK N r.s r.c
 nx:jC r.c.muts r.c.blocks r.c.cells r.next
 mu:r.c.muts=c.muts
 bl:r.c.blocks=c.blocks
 ce:r.c.cells=c.cells
section
variable {N:Nat} {s:Sh} {c:CS}
theorem CK.more {M:Nat} (h:CK N s c) (hM:N≤M):CK M s c :=
 ⟨h.mu,h.mu1,h.bl,h.ce,h.rm,h.stk,h.color,Nat.le_trans h.cyc hM,Nat.le_trans h.dr hM,Nat.le_trans h.wa hM,Nat.le_trans h.opn hM,h.q,fun k=>Nat.le_trans (h.ql k) hM,⟨h.cnt.1,by have:=h.cnt.2;omega⟩,h.ph⟩
theorem CK.next (h:CK N s c) {d:CD} {ev:Option Ev} (hd:jC c.muts c.blocks c.cells d):CKR (N+1) c ⟨s,c,d,ev⟩:=⟨h.more (Nat.le_succ N),hd,rfl,rfl,rfl⟩
theorem CK.heap (h:CK N s c) {H:HS} (hK:H.K=s.H.K):CK N { s with H:=H } c :=
 ⟨h.mu,h.mu1,h.bl,h.ce,h.rm,h.stk,h.color,h.cyc,h.dr,h.wa,h.opn,h.q.same hK,h.ql,h.cnt,h.ph⟩
theorem Jf (b:Bd) (k:Int):(b.kX k).count=b.count∨(b.kX k).count=b.count+1:=by
 unfold Bd.kX
 split
 ·exact .inr rfl
 ·exact .inl rfl
theorem CK.ask (h:CK N s c) (p:Nat) {c':CS} {t:CD} {ev:Option Ev} (hp:p≤7) (e:c'.muts=c.muts∧c'.blocks=c.blocks∧c'.cells=c.cells∧c'.room=c.room∧c'.stk=c.stk) (hc:c'.color<2) (h1:c'.cycles≤N+1) (h2:c'.drains≤N+1) (h3:c'.walks≤N+1)
 (ht:jC c.muts c.blocks c.cells t):CKR (N+1) c (oU s c' p t ev):=by
 obtain ⟨e1,e2,e3,e4,e5⟩:=e
 have hcn:=h.cnt
 have ha:0≤(s.B.kX (p:Int)).count∧(s.B.kX (p:Int)).count≤((N+1:Nat):Int):=by
  rcases Jf s.B (p:Int) with e|e<;>rw [e]<;>omega
 refine ⟨⟨by show s.boxes.length=c'.muts;rw [e1];exact h.mu,by show 1≤c'.muts∧c'.muts≤8;rw [e1];exact h.mu1,by show c'.blocks≤_;rw [e2];exact h.bl,by show c'.cells≤_;rw [e3];exact h.ce,by show 1≤c'.room∧c'.room≤_;rw [e4];exact h.rm,
  by show c'.stk.length≤c'.room;rw [e4,e5];exact h.stk,hc,h1,h2,h3,Nat.le_succ_of_le h.opn,fun k x hx=>h.q k x hx,fun k=>Nat.le_succ_of_le (h.ql k),ha,hp⟩,?_,e1,e2,e3⟩
 show jC c'.muts c'.blocks c'.cells (.wait 0 t)
 rw [e1,e2,e3]
 exact ⟨by have:=h.mu1;omega,ht⟩
theorem xP {mu bl ce v:Nat} {t:CD} (h:jC mu bl ce t):jC mu bl ce (bG v t):=by unfold bG;split<;>exact h
theorem Ej (h:CK N s c) (i:Nat) (hi:i≤c.cells):jC c.muts c.blocks c.cells (c.dF i):=by
 unfold CS.dF
 split
 ·trivial
 ·show i<c.cells;omega
theorem Bj {mu bl ce a i n:Nat} {t:CD} (hi:i≤n) (hn:n≤100) (h:jC mu bl ce t):jC mu bl ce (bD a i n t):=by
 unfold bD
 split
 ·exact h
 ·exact ⟨by omega,hn,h⟩
theorem Em (i:Nat) (hi:i≤c.blocks):jC c.muts c.blocks c.cells (c.dH i):=by
 unfold CS.dH
 split
 ·trivial
 ·show i<c.blocks;omega
theorem zY (i:Nat) (hi:i≤c.blocks):jC c.muts c.blocks c.cells (c.gy i):=by
 unfold CS.gy
 split
 ·trivial
 ·show i<c.blocks;omega
theorem uY {mu bl ce:Nat} {l:List Nat} {t:CD} (hl:l.length≤1000) (h:jC mu bl ce t):jC mu bl ce (bU l t):=by
 unfold bU
 split
 ·exact h
 ·rename_i e;exact ⟨e,hl,h⟩
theorem S9 (q:Qu) (k:Int) (b:Int) (j:Nat):((q.put k b).rw j).length≤(q.rw j).length+1:=by
 unfold Qu.put Qu.rw Qu.row
 simp only
 rw [List.getD_eq_getElem?_getD]
 by_cases e:k.toNat=j
 ·subst e
  by_cases hl:k.toNat<q.rows.length
  ·rw [List.getElem?_set_self hl];simp
  ·rw [List.set_eq_of_length_le (by omega),← List.getD_eq_getElem?_getD];omega
 ·rw [List.getElem?_set_ne e,← List.getD_eq_getElem?_getD];omega
theorem Il (q:Qu) (k:Int) (j:Nat):((q.take k).rw j).length≤(q.rw j).length:=by
 unfold Qu.take Qu.rw Qu.row
 simp only
 rw [List.getD_eq_getElem?_getD]
 by_cases e:k.toNat=j
 ·subst e
  by_cases hl:k.toNat<q.rows.length
  ·rw [List.getElem?_set_self hl];simp
  ·rw [List.set_eq_of_length_le (by omega),← List.getD_eq_getElem?_getD];omega
 ·rw [List.getElem?_set_ne e,← List.getD_eq_getElem?_getD];omega
theorem QOk.put {b:Nat} (h:QOk s) (k:Int) (hb:s.H.K.getD b 0≠0):QOk { s with Q:=s.Q.put k (b:Int) }:=fun j x hx=>by
 unfold Qu.put Qu.rw at hx
 simp only at hx
 rw [List.getD_eq_getElem?_getD] at hx
 by_cases e:k.toNat=j
 ·subst e
  by_cases hl:k.toNat<s.Q.rows.length
  ·rw [List.getElem?_set_self hl] at hx
   simp only [Option.getD_some,List.mem_append,List.mem_singleton] at hx
   rcases hx with hx|rfl
   ·exact h _ x hx
   ·exact ⟨by omega,by simpa using hb⟩
  ·rw [List.set_eq_of_length_le (by omega),← List.getD_eq_getElem?_getD] at hx
   exact h _ x hx
 ·rw [List.getElem?_set_ne e,← List.getD_eq_getElem?_getD] at hx
  exact h _ x hx
theorem OV (h:CK N s c) (hb:HBd s.H) (d:CD) (hd:jC c.muts c.blocks c.cells d):CKR (N+1) c (aj s c d):=by
 have h1:=h.more (Nat.le_succ N)
 have hmu:=h.mu1
 cases d with
 | nil=>exact h.next trivial
 | wait m t =>
   simp only [aj]
   refine h.next ?_
   split
   ·exact hd
   ·split
    ·exact ⟨by omega,hd.2⟩
    ·exact hd.2
 | arm=>exact h.ask 2 (by decide) ⟨rfl,rfl,rfl,rfl,rfl⟩ h.color h1.cyc h1.dr h1.wa trivial
 | scan=>exact h.ask 3 (by decide) ⟨rfl,rfl,rfl,rfl,rfl⟩ h.color h1.cyc h1.dr h1.wa trivial
 | trace=>exact ⟨⟨h.mu,h.mu1,h.bl,h.ce,h.rm,h.stk,h.color,h1.cyc,h1.dr,h1.wa,h1.opn,h.q,h1.ql,h1.cnt,by show 4≤7;decide⟩,Ej h 0 (Nat.zero_le _),rfl,rfl,rfl⟩
 | cell i =>
   have hi:i<c.cells:=hd
   exact h.next (xP (Ej h (i+1) (by omega)))
 | look v t =>
   simp only [aj]
   split
   ·have g:=(h1.heap (H:=s.H.aY v c.color) (Ef _ _))
    have hs:=h.stk
    unfold CS.push
    simp only
    split
    ·exact ⟨⟨g.mu,g.mu1,g.bl,g.ce,g.rm,g.stk,g.color,g.cyc,g.dr,g.wa,g.opn,g.q,g.ql,g.cnt,g.ph⟩,hd,rfl,rfl,rfl⟩
    ·exact ⟨⟨g.mu,g.mu1,g.bl,g.ce,g.rm,by simp;omega,g.color,g.cyc,g.dr,g.wa,g.opn,g.q,g.ql,g.cnt,g.ph⟩,hd,rfl,rfl,rfl⟩
   ·exact h.next hd
 | work =>
   simp only [aj]
   split
   ·exact ⟨⟨h1.mu,h1.mu1,h1.bl,h1.ce,h1.rm,by show c.stk.dropLast.length≤c.room;have:=h.stk;simp;omega,h1.color,h1.cyc,h1.dr,h1.wa,h1.opn,h1.q,h1.ql,h1.cnt,h1.ph⟩,trivial,rfl,rfl,rfl⟩
   ·exact h.next (show 0<c.muts by omega)
 | object a t=>exact h.next (Bj (Nat.zero_le _) (hb.1 a) hd)
 | field a i n t =>
   obtain ⟨g1,g2,g3⟩:=hd
   exact h.next (xP (Bj g1 g2 g3))
 | box m =>
   have hm:m<c.muts:=hd
   simp only [aj]
   split
   ·rename_i a l hl
    refine ⟨⟨by show (s.boxes.set m l).length=_;simpa using h.mu,h1.mu1,h1.bl,h1.ce,h1.rm,h1.stk,h1.color,h1.cyc,h1.dr,h1.wa,h1.opn,fun k x hx=>h.q k x hx,h1.ql,h1.cnt,h1.ph⟩,xP hm,rfl,rfl,rfl⟩
   ·refine h.next ?_
    split
    ·assumption
    ·split<;>trivial
 | over =>
   simp only [aj]
   split
   ·split
    ·exact h.next trivial
    ·split
     ·exact ⟨⟨h1.mu,h1.mu1,h1.bl,h1.ce,h1.rm,h1.stk,h1.color,h1.cyc,h1.dr,h1.wa,h1.opn,h1.q,h1.ql,h1.cnt,by show 4≤7;decide⟩,trivial,rfl,rfl,rfl⟩
     ·exact h.next trivial
   ·exact ⟨⟨h1.mu,h1.mu1,h1.bl,h1.ce,h1.rm,h1.stk,h1.color,h1.cyc,h1.dr,by show c.walks+1≤N+1;have:=h.wa;omega,h1.opn,fun k x hx=>h.q k x hx,h1.ql,h1.cnt,h1.ph⟩,Em (c:=c) 0 (Nat.zero_le _),rfl,rfl,rfl⟩
 | drain=>exact h.ask 5 (by decide) ⟨rfl,rfl,rfl,rfl,rfl⟩ h.color h1.cyc (by show c.drains+1≤N+1;have:=h.dr;omega) h1.wa trivial
 | marked=>exact ⟨⟨h1.mu,h1.mu1,h1.bl,h1.ce,h1.rm,h1.stk,h1.color,h1.cyc,h1.dr,h1.wa,h1.opn,h1.q,h1.ql,h1.cnt,by show 6≤7;decide⟩,zY (c:=c) 0 (Nat.zero_le _),rfl,rfl,rfl⟩
 | enqueue b =>
   have hbb:b<c.blocks:=hd
   simp only [aj]
   split
   ·exact h.next (zY (b+1) hbb)
   ·rename_i hk
    exact ⟨⟨h1.mu,h1.mu1,h1.bl,h1.ce,h1.rm,h1.stk,h1.color,h1.cyc,h1.dr,h1.wa,h1.opn,h.q.put _ hk,fun j=>Nat.le_trans (S9 _ _ _ j) (Nat.succ_le_succ (h.ql j)),h1.cnt,h1.ph⟩,zY (b+1) hbb,rfl,rfl,rfl⟩
 | sweep =>
   simp only [aj]
   split
   ·exact h.next trivial
   ·exact ⟨⟨h1.mu,h1.mu1,h1.bl,h1.ce,h1.rm,h1.stk,h1.color,h1.cyc,h1.dr,h1.wa,by show s.Q.opn+1≤N+1;have:=h.opn;omega,h.q.take _,fun j=>Nat.le_trans (Il _ _ j) (Nat.le_succ_of_le (h.ql j)),h1.cnt,h1.ph⟩,trivial,rfl,rfl,rfl⟩
 | block sl =>
   cases sl with
   | nil=>exact ⟨⟨h1.mu,h1.mu1,h1.bl,h1.ce,h1.rm,h1.stk,h1.color,h1.cyc,h1.dr,h1.wa,by show s.Q.opn - 1≤N+1;have:=h.opn;omega,h.q.done,h1.ql,h1.cnt,h1.ph⟩,trivial,rfl,rfl,rfl⟩
   | cons a r =>
     simp only [aj]
     split
     ·exact h.next trivial
     ·have g:=h1.heap (H:=s.H.dX a) (Ii a)
      exact ⟨g,trivial,rfl,rfl,rfl⟩
 | rests =>
   simp only [aj]
   refine h.next ?_
   split<;>trivial
 | off=>exact h.ask 7 (by decide) ⟨rfl,rfl,rfl,rfl,rfl⟩ h.color h1.cyc h1.dr h1.wa trivial
 | idle=>exact ⟨⟨h1.mu,h1.mu1,h1.bl,h1.ce,h1.rm,h1.stk,h1.color,h1.cyc,h1.dr,h1.wa,h1.opn,h1.q,h1.ql,h1.cnt,Nat.zero_le _⟩,trivial,rfl,rfl,rfl⟩
 | walk b =>
   have hbb:b<c.blocks:=hd
   exact h.next (uY (hb.2 b) (Em (b+1) hbb))
 | slots l t =>
   obtain ⟨g1,g2,g3⟩:=hd
   have hl:l.tail.length≤1000:=by simp;omega
   simp only [aj]
   refine h.next ?_
   split
   ·exact uY hl g3
   ·exact uY hl g3
 | empty t =>
   simp only [aj]
   split
   ·exact ⟨⟨h1.mu,h1.mu1,h1.bl,h1.ce,h1.rm,by show c.stk.dropLast.length≤c.room;have:=h.stk;simp;omega,h1.color,h1.cyc,h1.dr,h1.wa,h1.opn,h1.q,h1.ql,h1.cnt,h1.ph⟩,hd,rfl,rfl,rfl⟩
   ·exact h.next hd
theorem LY (h:CK N s c):CKR (N+1) c (gI s c):=by
 have h1:=h.more (Nat.le_succ N)
 exact h.ask 1 (by decide) ⟨rfl,rfl,rfl,rfl,rfl⟩ (by show 1 - c.color<2;omega) (by show c.cycles+1≤N+1;have:=h.cyc;omega) h1.dr h1.wa trivial
structure Cok (N:Nat) (s:Sh) (c:CS):Prop where
 k:CK N s c
 nx:jC c.muts c.blocks c.cells c.next
theorem OW (h:Cok N s c) (hb:HBd s.H):Cok (N+1) (aW s c).s (aW s c).c∧(aW s c).c.muts=c.muts∧(aW s c).c.blocks=c.blocks∧(aW s c).c.cells=c.cells:=by
 have key:∀ r:iT,CKR (N+1) c r→Cok (N+1) r.s { r.c with next:=r.next }∧r.c.muts=c.muts∧r.c.blocks=c.blocks∧r.c.cells=c.cells:=fun r hr=>by
  have g:=hr.k
  exact ⟨⟨⟨g.mu,g.mu1,g.bl,g.ce,g.rm,g.stk,g.color,g.cyc,g.dr,g.wa,g.opn,g.q,g.ql,g.cnt,g.ph⟩,hr.nx⟩,hr.mu,hr.bl,hr.ce⟩
 unfold aW
 split
 ·exact key (aj s c c.next) (OV h.k hb c.next h.nx)
 ·split
  ·exact key (gI s c) (LY h.k)
  ·exact key ⟨s,c,.nil,none⟩ (h.k.next trivial)
end
end
end Go.Proofs.YtanfphjoebobaaaGreatDoor
