/- Parts of the walk. No conditions. -/
import Derived.Test.YtanfphjoebobaaaGreatDoorZzed
import Derived.Laws.EntriesVeiled
namespace Go.Proofs.YtanfphjoebobaaaGreatDoor
open _root_.Go.Proofs.Tryz hiding prog
open _root_.Go.Proofs.Tryz renaming prog->ay
set_option maxRecDepth 4000
set_option maxHeartbeats 4000000
section
open Go.RowKit Go.Sort
def numOf (o:fE) (j:Nat):Int:=if j=0 then o.a else if j=1 then o.b else o.c
def qA (c:aK) (o:fE):Nat->Int
 | 0=>0
 | j+1=>fG c (qA c o j) ((mF o.k).getD j 0) (numOf o j)
def chk (c:aK) (o:fE):Int:=if c.ok&&isKind o.k then qA c o (mF o.k).length else 1
structure Ik (c:aK) (o:fE) (C B O V:Nat) (j:Nat) (W:World):Prop where
 hc:aA W C c.cells 23
 hb:aA W B o.cells 83
 ho:aA W O [ah (qA c o j)] 35
 hv:aA W V [.func (.func 180) #[] #[aj O]] 218
theorem Ik.later {c:aK} {o:fE} {C B O V j:Nat} {W W':World} (h:Ik c o C B O V j W) (k:Keep none_ W W'):Ik c o C B O V j W' :=
 ⟨k.blk h.hc (fun f=>f),k.blk h.hb (fun f=>f),k.blk h.ho (fun f=>f),k.blk h.hv (fun f=>f)⟩
theorem Ik.step {c:aK} {o:fE} {C B O V j:Nat} {W:World} {l:UInt8} (h:Ik c o C B O V j W) (hl:(mF o.k)[j]?=some l) (hC:C≠O) (hB:B≠O) (hV:V≠O) :
 Calls ay 182 (#[.int .u8 l.toNat,.pointer (some ⟨B,j+1,none⟩)]++#[aj V,aj C]) W fun x W'=>x = .returned (.tuple #[])/\Ik c o C B O V (j+1) W'/\Keep (only O) W W':=by
 have hj3:j<3:=Nat.lt_of_lt_of_le (List.getElem?_eq_some_iff.1 hl).1 (KP o.k)
 have hn:W.cell? ⟨B,j+1,none⟩=some (ah (numOf o j)):=by
  refine h.hb.cell (j+1) ?_
  rcases (by omega:j=0\/j=1\/j=2) with rfl|rfl|rfl<;>rfl
 refine (QU c l (numOf o j) (qA c o j) B (j+1) O V C W h.ho h.hv h.hc hn).mono ?_
 rintro x W' ⟨rfl,hb,hk⟩
 have e:qA c o (j+1)=fG c (qA c o j) l (numOf o j):=by
  rw [qA,List.getD_eq_getElem?_getD,hl];rfl
 exact ⟨rfl,⟨hk.blk h.hc hC,hk.blk h.hb hB,by rw [e];exact hb,hk.blk h.hv hV⟩,hk⟩
theorem check_any (c:aK) (o:fE) (w:World) (hT:Tabs w):Calls ay 139 #[.agg c.cells.toArray,.agg o.cells.toArray] w fun e w'=>e = .returned (ah (chk c o))/\Keep none_ w w':=by
 obtain ⟨W0,hW0⟩:∃ W',W'=(w.alloc (.cells c.cells.toArray 23)).alloc (.cells o.cells.toArray 83):=⟨_,rfl⟩
 have wF:Hid (aA W0 w.heap.size c.cells 23):=by rw [hW0];exact (aA.new w _ _).alloc _
 have Ut:Hid (aA W0 (w.heap.size+1) o.cells 83):=by rw [hW0];have h:=aA.new (w.alloc (.cells c.cells.toArray 23)) o.cells 83;simp only [World.size_alloc] at h;exact h
 have dN:Hid (Keep none_ w W0):=by rw [hW0];exact ((Keep.refl _ _).alloc _).alloc _
 have HT:=au (hT.keep dN.out)
 have HR:=au (xw c W0 HT.out)
 have HIS:=au (Ur o.k)
 clear hT
 have k0:W0.cell? ⟨w.heap.size,0,none⟩=some (ah c.b):=wF.out.cell 0 rfl
 have k1:W0.cell? ⟨w.heap.size,1,none⟩=some (ah c.w):=wF.out.cell 1 rfl
 have k2:W0.cell? ⟨w.heap.size,2,none⟩=some (ah c.m):=wF.out.cell 2 rfl
 have k3:W0.cell? ⟨w.heap.size,3,none⟩=some (ah c.r):=wF.out.cell 3 rfl
 have k4:W0.cell? ⟨w.heap.size,4,none⟩=some (ah c.c):=wF.out.cell 4 rfl
 have k5:W0.cell? ⟨w.heap.size,5,none⟩=some (ah c.l):=wF.out.cell 5 rfl
 have k6:W0.cell? ⟨w.heap.size,6,none⟩=some (ah c.s):=wF.out.cell 6 rfl
 have hcc:c.cells.toArray=#[ah c.b,ah c.w,ah c.m,ah c.r,ah c.c,ah c.l,ah c.s]:=rfl
 have hoc:o.cells.toArray=#[ah o.k,ah o.a,ah o.b,ah o.c]:=rfl
 rw [hcc,hoc] at hW0 ⊢
 rw [hcc] at HR
 clear hcc hoc
 go_enter func139,ntmps139
 go_wp2_with fail
 rw [<- hW0]
 clear hW0 k0 k1 k2 k3 k4 k5 k6
 refine HR.out.mono ?_
 rintro e w1 ⟨rfl,hk1⟩
 have qW:=au (hk1.blk wF.out (fun f=>f))
 have nV:=au (hk1.blk Ut.out (fun f=>f))
 have aJ:=au (dN.out.trans hk1)
 have HT1:=au (HT.out.keep hk1)
 have uV:Hid (w.heap.size+2<=w1.heap.size):=by have h:=nV.out.lt;unfold Hid;omega
 clear hk1 wF Ut dN HT HR
 cases hok:c.ok with
 | false =>
   have HE:Hid (chk c o=1):=by simp [Hid,chk,hok]
   clear hok
   go_wp2_with fail
   go_ret
   exact ⟨by rw [HE.out];rfl,aJ.out⟩
 | true =>
   cases hik:isKind o.k with
   | false =>
     have HE:Hid (chk c o=1):=by simp [Hid,chk,hik]
     have d0:w1.cell? ⟨w.heap.size+1,0,none⟩=some (ah o.k):=nV.out.cell 0 rfl
     rw [hik] at HIS
     clear hok hik
     go_wp2_with (go_at_call 179;refine (HIS.out _).mono ?_;rintro e w1 ⟨rfl,rfl⟩)
     go_ret
     exact ⟨by rw [HE.out];rfl,aJ.out⟩
   | true =>
     have HE:Hid (chk c o=qA c o (mF o.k).length):=by simp [Hid,chk,hok,hik]
     have d0:w1.cell? ⟨w.heap.size+1,0,none⟩=some (ah o.k):=nV.out.cell 0 rfl
     rw [hik] at HIS
     clear hok hik
     have hmf:∀ (fn:Fn) (first cap:Array Value) (w:World),(Instr.makeFunc fn first cap).run ay w = .ok (.func fn first cap) w:=fun _ _ _ _=>rfl
     obtain ⟨W2,hW2⟩:∃ W',W'=(w1.alloc (.cells #[ah 0] 35)).alloc (.cells #[.func (.func 180) #[] #[aj w1.heap.size]] 218):=⟨_,rfl⟩
     have hk2:Keep none_ w1 W2:=by rw [hW2];exact ((Keep.refl _ _).alloc _).alloc _
     have hO2:aA W2 w1.heap.size [ah 0] 35:=by rw [hW2];exact (aA.new w1 _ _).alloc _
     have hV2:aA W2 (w1.heap.size+1) [.func (.func 180) #[] #[aj w1.heap.size]] 218:=by rw [hW2];have h:=aA.new (w1.alloc (.cells #[ah 0] 35)) [.func (.func 180) #[] #[aj w1.heap.size]] 218;simp only [World.size_alloc] at h;exact h
     have hI:Ik c o w.heap.size (w.heap.size+1) w1.heap.size (w1.heap.size+1) 0 W2:=⟨hk2.blk qW.out (fun f=>f),hk2.blk nV.out (fun f=>f),hO2,hV2⟩
     have hsz:=uV.out
     have acD:=au (Xk 182 #[aj (w1.heap.size+1),aj w.heap.size] (only w1.heap.size) (Ik c o w.heap.size (w.heap.size+1) w1.heap.size (w1.heap.size+1)) (w.heap.size+1) o.k W2 (HT1.out.keep hk2) (hk2.still d0) hI
      (fun args w=>by simp [callFunc,func182,go_sem];rfl) (fun j W W' h k=>h.later k) (fun i hi=>by unfold only at hi;have:=hV2.lt;omega)
      (fun j l W hl h k=>h.step hl (by omega) (by omega) (by omega)))
     have bJ:=au (aJ.out.trans hk2)
     clear hk2 hO2 hV2 hI hsz
     go_wp2_with (go_at_call 179;refine (HIS.out _).mono ?_;rintro e w1 ⟨rfl,rfl⟩)
     rw [<- hW2]
     clear hW2
     refine acD.out.mono ?_
     rintro e w3 ⟨rfl,YO,hk3⟩
     have c3:=YO.ho.cell 0 rfl
     have hK:=bJ.out.trans' hk3 (fun i hi h=>absurd hi (by unfold only at h;have:=uV.out;omega))
     clear YO hk3
     go_wp2_with fail
     go_ret
     exact ⟨by rw [HE.out];rfl,hK⟩
end
section
structure Ev where
 who:Nat
 kind:Nat
 op:Nat
 code:Int
 value:Nat
deriving DecidableEq
structure Sh where
 H:HS
 B:Bd
 Q:Qu
 flag:Bool
 boxes:List (List Nat)
inductive RD where
 | field (base:Nat) (f:Int) (v:Nat)
 | cell (i:Int) (v:Nat)
inductive MD where
 | nil
 | start (o:fE)
 | once (k:Int)
 | note (v c:Nat) (t:MD)
 | add (v:Nat) (t:MD)
 | pour (c:Nat) (t:MD)
 | eu (c:Nat) (fresh:Bool) (t:MD)
 | raise (t:MD)
 | field (base:Nat) (f:Int) (t:MD)
 | load (o:fE) (base:Nat)
 | get (o:fE)
 | lay (v:Nat) (rd:RD)
 | last (rd:RD)
 | alloc (o:fE) (k:Nat)
 | assign (o:fE) (k:Nat)
 | qj (o:fE) (all:List Nat)
 | claim (o:fE) (k:Nat)
 | again (o:fE) (k:Nat)
 | sweep (sl:List Nat) (c:Nat) (t:MD)
 | fill (o:fE) (a:Nat)
 | zero (o:fE) (a i:Nat)
structure MS where
 id:Nat
 c:aK
 regs:List Nat
 buf:List Nat
 mode:Nat
 color:Nat
 want:Nat
 prog:List fE
 res:List (Int × Nat)
 next:MD
 held:Nat
 spent:Nat
 most0:Nat
 most1:Nat
 ans:Bool
structure qo where
 s:Sh
 m:MS
 next:MD
 ev:Option Ev
def Sh.box (s:Sh) (i:Nat):List Nat:=s.boxes.getD i []
def kD (v c:Nat) (t:MD):MD:=if v=0 then t else .note v c t
def MS.kE (m:MS) (c:Nat) (t:MD):MD:=if m.buf=[] then t else .pour c t
def MS.QX (m:MS) (v:Nat) (rd:RD):MD:=if m.mode=0 then .last rd else .lay v rd
def MS.did (m:MS) (code:Int) (v:Nat):MS:={ m with held:=0,res:=m.res++[(code,v)] }
def MS.ev (m:MS) (code:Int) (v:Nat):Ev:=⟨m.id,1,m.res.length,code,v⟩
def mY (s:Sh) (m:MS) (code:Int) (v:Nat):qo:=⟨s,m.did code v,.nil,some (m.ev code v)⟩
def qB (s:Sh) (m:MS) (r:Int) (v:Nat):qo:=mY s { m with regs:=m.regs.set r.toNat v } 0 v
def AB (s:Sh) (m:MS) (base:Nat) (f:Int) (t:MD):qo:=if base=0 then mY s m 6 0 else ⟨s,m,.field base f t,none⟩
def MS.reg (m:MS) (r:Int):Nat:=m.regs.getD r.toNat 0
def EZ (o:fE) (all:List Nat):MD:=if all.length=1 then .fill o (all.getD 0 0) else .qj o all
def iC (s:Sh) (m:MS) (o:fE):qo :=
 if chk m.c o≠0 then mY s m (chk m.c o) 0
 else if o.k=1 then ⟨s,m,.alloc o (jF o.b),none⟩
 else if o.k=2 then AB s m (m.reg o.b) o.c (.load o (m.reg o.b))
 else if o.k=3 then AB s m (m.reg o.a) o.b (m.QX (m.reg o.c) (.field (m.reg o.a) o.b (m.reg o.c)))
 else if o.k=4 then ⟨s,m,.get o,none⟩
 else if o.k=5 then ⟨s,m,m.QX (m.reg o.b) (.cell o.a (m.reg o.b)),none⟩
 else if o.k=6 then mY s { m with regs:=m.regs.set o.a.toNat 0 } 0 0
 else if o.k=7 then qB s m o.a (m.reg o.b)
 else mY s m 0 0
def gB (m:MS) (k:Int):MS :=
 if k=1 then { m with buf:=[],mode:=2,want:=1 - m.color }
 else if k=2 then m
 else if k=3 then { m with color:=m.want }
 else if k=5 then { m with mode:=1 }
 else { m with buf:=[],mode:=0 }
def RD.read (H:HS):RD->Nat
 | .field base f _=>H.bY base f
 | .cell i _=>H.cellP i
def RD.write (H:HS):RD->HS
 | .field base f v=>H.gu base f v
 | .cell i v=>H.oG i v
def aW (l:List Nat):Nat:=l.headD 0
def stepM (s:Sh) (m:MS):MD->qo
 | .nil=>⟨s,m,.nil,none⟩
 | .start o=>iC s m o
 | .once k=>⟨{ s with B:=s.B.iT m.id },gB m k,.nil,none⟩
 | .note v c t =>
   if !s.H.bn v||s.H.dW v==c then ⟨s,m,t,none⟩
   else if m.buf.length=m.c.l.toNat then ⟨s,m,m.kE c (.add v t),none⟩
   else ⟨s,{ m with buf:=m.buf++[v] },t,none⟩
 | .add v t=>if m.buf.length=m.c.l.toNat then ⟨s,m,t,none⟩ else ⟨s,{ m with buf:=m.buf++[v] },t,none⟩
 | .pour c t=>if s.box m.id=[] then ⟨{ s with boxes:=s.boxes.set m.id m.buf },{ m with buf:=[] },t,none⟩ else ⟨s,m,.eu c false t,none⟩
 | .eu c fresh t =>
   ⟨{ s with H:=s.H.bQ (aW m.buf) c },{ m with buf:=m.buf.tail },
    if m.buf.tail≠[] then .eu c (fresh||s.H.dX (aW m.buf) c) t else if (fresh||s.H.dX (aW m.buf) c)=true then .raise t else t,none⟩
 | .raise t=>⟨{ s with flag:=true },m,t,none⟩
 | .field base f t=>if f<0\/((s.H.aV base).1:Int)<=f then mY s m 7 0 else ⟨s,m,t,none⟩
 | .load o base=>qB s m o.a (s.H.bY base o.c)
 | .get o=>qB s m o.a (s.H.cellP o.b)
 | .lay v rd=>⟨s,{ m with held:=rd.read s.H },kD (rd.read s.H) m.want (if m.mode=2 then kD v m.want (.last rd) else .last rd),none⟩
 | .last rd=>mY { s with H:=rd.write s.H } m 0 0
 | .alloc o k=>if (s.H.eX k).2.1=0 then ⟨{ s with H:=(s.H.eX k).2.2 },m,.fill o (s.H.eX k).1,none⟩ else ⟨s,m,.assign o k,none⟩
 | .assign o k=>if (s.H.dF k).2.1=0 then ⟨{ s with H:=(s.H.dF k).2.2 },m,EZ o (s.H.dF k).1,none⟩ else ⟨s,m,.claim o k,none⟩
 | .qj o all=>⟨{ s with H:=s.H.fK (all.getD (all.length - 1) 0) },m,EZ o (all.take (all.length - 1)),none⟩
 | .claim o k =>
   match s.Q.rw k with
   | []=>⟨s,m,.again o k,none⟩
   | x::_=>⟨{ s with Q:=s.Q.take k },m,.sweep (s.H.slots x.toNat) m.color (.again o k),none⟩
 | .again o k=>if (s.H.eX k).2.1=0 then ⟨{ s with H:=(s.H.eX k).2.2 },m,.fill o (s.H.eX k).1,none⟩ else mY s m 10 0
 | .sweep sl c t =>
   match sl with
   | []=>⟨{ s with Q:=if s.Q.opn=0 then s.Q else s.Q.qh },m,t,none⟩
   | a::r=>if !s.H.bn a||s.H.dW a==c then ⟨s,m,.sweep r c t,none⟩ else ⟨{ s with H:=s.H.fV a },m,.sweep r c t,some ⟨m.id,5,0,0,a⟩⟩
 | .fill o a=>⟨{ s with H:=s.H.iy a o.b },m,.zero o a 0,none⟩
 | .zero o a i=>if (i:Int)=o.b then qB { s with H:=s.H.jO a m.color } m o.a a else ⟨{ s with H:=s.H.gu a i 0 },m,.zero o a (i+1),none⟩
def jQ (want:Nat):List Nat->MD
 | [] => .once 3
 | v::l=>kD v want (jQ want l)
def dA (s:Sh) (m:MS):MD :=
 if s.B.pend m.id then
  if s.B.kind=3 then jQ m.want m.regs
  else if s.B.kind=5 then m.kE m.want (.once 5)
  else .once s.B.kind
 else match m.prog[m.res.length]? with
  | some o => .start o
  | none => .nil
def MS.most (m:MS):MS:=if m.ans then { m with most1:=max m.most1 m.spent } else { m with most0:=max m.most0 m.spent }
def isNil:MD->Bool
 | .nil=>true
 | _=>false
def bG (s:Sh) (m:MS):Sh × MS × Option Ev :=
 if isNil m.next then (s,{ m with spent:=1,ans:=s.B.pend m.id,next:=dA s m },none)
 else
  let r:=stepM s { m with spent:=m.spent+1 } m.next
  (r.s,if isNil r.next then { r.m with next := .nil }.most else { r.m with next:=r.next },r.ev)
inductive CD where
 | nil
 | wait (m:Nat) (t:CD)
 | arm
 | scan
 | trace
 | work
 | over
 | drain
 | marked
 | sweep
 | rests
 | off
 | idle
 | look (v:Nat) (t:CD)
 | cell (i:Nat)
 | object (a:Nat) (t:CD)
 | field (a i n:Nat) (t:CD)
 | box (m:Nat)
 | walk (b:Nat)
 | slots (l:List Nat) (t:CD)
 | empty (t:CD)
 | enqueue (b:Nat)
 | block (l:List Nat)
structure CS where
 muts:Nat
 blocks:Nat
 cells:Nat
 room:Nat
 phase:Nat
 color:Nat
 cycles:Nat
 wish:Bool
 fresh:Bool
 stk:List Nat
 over:Bool
 next:CD
 drains:Nat
 walks:Nat
structure kF where
 s:Sh
 c:CS
 next:CD
 ev:Option Ev
def Sh.ask (s:Sh) (k:Nat):Sh:={ s with B:=s.B.oU (k:Int) }
def uP (s:Sh) (c:CS) (p:Nat) (t:CD) (ev:Option Ev):kF:=⟨s.ask p,{ c with phase:=p },.wait 0 t,ev⟩
def cZ (v:Nat) (t:CD):CD:=if v=0 then t else .look v t
def CS.dZ (c:CS) (i:Nat):CD:=if i=c.cells then .work else .cell i
def cu (a i n:Nat) (t:CD):CD:=if i=n then t else .field a i n t
def CS.eF (c:CS) (b:Nat):CD:=if b=c.blocks then .work else .walk b
def dL (l:List Nat) (t:CD):CD:=if l=[] then t else .slots l t
def CS.iU (c:CS) (b:Nat):CD:=if b=c.blocks then .sweep else .enqueue b
def CS.push (c:CS) (a:Nat):CS:=if c.stk.length=c.room then { c with over:=true } else { c with stk:=c.stk++[a] }
def CS.pop (c:CS):CS:={ c with stk:=c.stk.dropLast }
def CS.ev (c:CS) (kind value:Nat):Ev:=⟨c.muts,kind,0,0,value⟩
def Bd.did (b:Bd) (m:Nat):Bool:=b.is m && !b.isOpen m
def Qu.any (q:Qu):Option (Nat × Nat):=(List.range 4).findSome? fun k=>match q.rw k with
 | []=>none
 | x::_=>some (k,x.toNat)
def aC (s:Sh) (c:CS):CD->kF
 | .nil=>⟨s,c,.nil,none⟩
 | .wait m t=>⟨s,c,if !s.B.did m then .wait m t else if m+1<c.muts then .wait (m+1) t else t,none⟩
 | .arm=>uP s c 2 .scan none
 | .scan=>uP s c 3 .trace none
 | .trace=>⟨s,{ c with phase:=4 },c.dZ 0,none⟩
 | .cell i=>⟨s,c,cZ (s.H.cellP i) (c.dZ (i+1)),none⟩
 | .look v t=>if s.H.dX v c.color then ⟨{ s with H:=s.H.bQ v c.color },{ c with fresh:=true }.push v,t,none⟩ else ⟨s,c,t,none⟩
 | .work=>match c.stk.getLast? with
   | some a=>⟨s,c.pop,.object a .work,none⟩
   | none=>⟨s,c,.box 0,none⟩
 | .object a t=>⟨s,c,cu a 0 (s.H.aV a).1 t,none⟩
 | .field a i n t=>⟨s,c,cZ (s.H.bY a i) (cu a (i+1) n t),none⟩
 | .box m=>match s.box m with
   | a::l=>⟨{ s with boxes:=s.boxes.set m l },c,cZ a (.box m),none⟩
   | []=>⟨s,c,if m+1<c.muts then .box (m+1) else if c.stk=[] then .over else .work,none⟩
 | .over =>
   if !s.flag && !c.over then
    (if c.phase=4 then ⟨s,c,.drain,none⟩ else if c.fresh then ⟨s,{ c with phase:=4 },.drain,none⟩ else ⟨s,c,.marked,none⟩)
   else ⟨{ s with flag:=false },{ c with over:=false,fresh:=true,walks:=c.walks+1 },c.eF 0,none⟩
 | .drain=>uP s { c with fresh:=false,drains:=c.drains+1 } 5 .work none
 | .marked=>⟨s,{ c with phase:=6 },c.iU 0,some (c.ev 3 c.cycles)⟩
 | .enqueue b=>⟨if s.H.K.getD b 0=0 then s else { s with Q:=s.Q.put ((s.H.K.getD b 0:Int) - 1) b },c,c.iU (b+1),none⟩
 | .sweep=>match s.Q.any with
   | none=>⟨s,c,.rests,none⟩
   | some (k,b)=>⟨{ s with Q:=s.Q.take k },c,.block (s.H.slots b),none⟩
 | .block sl=>match sl with
   | []=>⟨{ s with Q:=s.Q.qh },c,.sweep,none⟩
   | a::r=>if !s.H.bn a||s.H.dW a==c.color then ⟨s,c,.block r,none⟩ else ⟨{ s with H:=s.H.fV a },c,.block r,some (c.ev 5 a)⟩
 | .rests=>⟨s,c,if s.Q.rests then .off else .sweep,none⟩
 | .off=>uP s c 7 .idle none
 | .idle=>⟨s,{ c with phase:=0 },.nil,some (c.ev 4 c.cycles)⟩
 | .walk b=>⟨s,c,dL (s.H.slots b) (c.eF (b+1)),none⟩
 | .slots l t=>⟨s,c,if !s.H.bn (aW l)||s.H.dW (aW l) != c.color then dL l.tail t else .object (aW l) (.empty (dL l.tail t)),none⟩
 | .empty t=>match c.stk.getLast? with
   | some a=>⟨s,c.pop,.object a (.empty t),none⟩
   | none=>⟨s,c,t,none⟩
def oJ:CD->Bool
 | .nil=>true
 | _=>false
def gY (s:Sh) (c:CS):kF:=uP s { c with wish:=false,cycles:=c.cycles+1,color:=1 - c.color } 1 .arm (some (c.ev 2 (c.cycles+1)))
def bM (s:Sh) (c:CS):kF :=
 let r:=if !oJ c.next then aC s c c.next else if c.wish then gY s c else ⟨s,c,.nil,none⟩
 ⟨r.s,{ r.c with next:=r.next },r.next,r.ev⟩
structure WS where
 s:Sh
 muts:List MS
 coll:CS
 evs:List (Nat × Ev)
 picks:Nat
def WS.tell (x:WS) (ev:Option Ev):WS:=match ev with
 | none=>{ x with picks:=x.picks+1 }
 | some e=>{ x with evs:=x.evs++[(x.picks,e)],picks:=x.picks+1 }
def bP (x:WS) (who:Nat):WS :=
 match x.muts[who]? with
 | some m=>let r:=bG x.s m;({ x with s:=r.1,muts:=x.muts.set who r.2.1 }:WS).tell r.2.2
 | none =>
   if who=x.muts.length then let r:=bM x.s x.coll;({ x with s:=r.s,coll:=r.c }:WS).tell r.ev
   else ({ x with coll:={ x.coll with wish:=true } }:WS).tell none
end
section
open Go.RowKit
def wG (R:List (List Int)) (i j:Nat):Int:=(R.getD i []).getD j 0
def KQ (R:List (List Int)) (i j:Nat) (x:Int):List (List Int):=R.set i ((R.getD i []).set j x)
def gdo (m:Nat) (R:List (List Int)) (k:Nat) (o:fE):List (List Int) × Int × Int :=
 if o.k=1 then (KQ (R++[List.replicate o.b.toNat 0]) k o.a.toNat ((R.length - m:Nat):Int),((R.length - m:Nat):Int),0)
 else if o.k=2 then
  if wG R k o.b.toNat=0 then (R,0,6)
  else if o.c<0\/((R.getD (m+(wG R k o.b.toNat).toNat) []).length:Int)<=o.c then (R,0,7)
  else (KQ R k o.a.toNat (wG R (m+(wG R k o.b.toNat).toNat) o.c.toNat),wG R (m+(wG R k o.b.toNat).toNat) o.c.toNat,0)
 else if o.k=3 then
  if wG R k o.a.toNat=0 then (R,0,6)
  else if o.b<0\/((R.getD (m+(wG R k o.a.toNat).toNat) []).length:Int)<=o.b then (R,0,7)
  else (KQ R (m+(wG R k o.a.toNat).toNat) o.b.toNat (wG R k o.c.toNat),0,0)
 else if o.k=4 then (KQ R k o.a.toNat (wG R m o.b.toNat),wG R m o.b.toNat,0)
 else if o.k=5 then (KQ R m o.a.toNat (wG R k o.b.toNat),0,0)
 else if o.k=6 then (KQ R k o.a.toNat 0,0,0)
 else if o.k=7 then (KQ R k o.a.toNat (wG R k o.b.toNat),wG R k o.b.toNat,0)
 else (R,0,0)
def aee (c:aK) (m:Nat) (R:List (List Int)) (mi:Int) (o:fE):List (List Int) × Int × Int :=
 if mi<0\/(m:Int)<=mi then (R,0,4) else if chk c o≠0 then (R,0,chk c o) else gdo m R mi.toNat o
structure Good (c:aK) (m:Nat) (R:List (List Int)):Prop where
 lt:m<R.length
 reg:∀ i:Nat,i<m->∀ zs:List Int,R[i]?=some zs->(zs.length:Int)=c.r
 cell:∀ zs:List Int,R[m]?=some zs->(zs.length:Int)=c.c
 val:∀ (i:Nat) (zs:List Int) (j:Nat),R[i]?=some zs->j<zs.length->∃ q:Nat,zs.getD j 0=q/\q<=R.length - (m+1)
 sz:∀ (i:Nat) (zs:List Int),R[i]?=some zs->zs.length<=100
theorem iV {cur n below e:Int} (he:e≠0) (h:fJ cur n below e=0):cur=0/\0<=n/\n<below:=by
 unfold fJ at h
 split at h
 ·exact absurd h he
 ·rename_i h1
  subst h
  simp at h1
  omega
theorem Xl {c:aK} {o:fE} (h:chk c o=0):isKind o.k=true/\qA c o (mF o.k).length=0:=by
 unfold chk at h
 split at h
 ·rename_i h1
  simp at h1
  exact ⟨h1.2,h⟩
 ·simp at h
theorem Il {c:aK} {o:fE} (h:chk c o=0) :
 (o.k=1/\(0<=o.a/\o.a<c.r)/\(0<=o.b/\o.b<16))\/(o.k=2/\(0<=o.a/\o.a<c.r)/\(0<=o.b/\o.b<c.r))\/(o.k=3/\(0<=o.a/\o.a<c.r)/\(0<=o.c/\o.c<c.r)) \/
 (o.k=4/\(0<=o.a/\o.a<c.r)/\(0<=o.b/\o.b<c.c))\/(o.k=5/\(0<=o.a/\o.a<c.c)/\(0<=o.b/\o.b<c.r))\/(o.k=6/\(0<=o.a/\o.a<c.r))\/(o.k=7/\(0<=o.a/\o.a<c.r)/\(0<=o.b/\o.b<c.r))\/o.k=8:=by
 obtain ⟨h1,h2⟩:=Xl h
 obtain ⟨k,a,b,d⟩:=o
 simp only at *
 simp [isKind] at h1
 have e:k=1\/k=2\/k=3\/k=4\/k=5\/k=6\/k=7\/k=8:=by omega
 rcases e with rfl|rfl|rfl|rfl|rfl|rfl|rfl|rfl
 ·have e:mF 1=[114,115]:=rfl
  simp only [e,List.length_cons,List.length_nil,qA,fG,numOf] at h2
  simp at h2
  obtain ⟨h3,h4⟩:=iV (by decide) h2
  have h5:=(iV (by decide) h3).2
  exact .inl ⟨rfl,h5,h4⟩
 ·have e:mF 2=[114,114,102]:=rfl
  simp only [e,List.length_cons,List.length_nil,qA,fG,numOf] at h2
  simp at h2
  obtain ⟨h3,h4⟩:=iV (by decide) h2
  have h5:=(iV (by decide) h3).2
  exact .inr (.inl ⟨rfl,h5,h4⟩)
 ·have e:mF 3=[114,102,114]:=rfl
  simp only [e,List.length_cons,List.length_nil,qA,fG,numOf] at h2
  simp at h2
  obtain ⟨h3,h4⟩:=iV (by decide) h2
  have h5:=(iV (by decide) h3).2
  exact .inr (.inr (.inl ⟨rfl,h5,h4⟩))
 ·have e:mF 4=[114,99]:=rfl
  simp only [e,List.length_cons,List.length_nil,qA,fG,numOf] at h2
  simp at h2
  obtain ⟨h3,h4⟩:=iV (by decide) h2
  have h5:=(iV (by decide) h3).2
  exact .inr (.inr (.inr (.inl ⟨rfl,h5,h4⟩)))
 ·have e:mF 5=[99,114]:=rfl
  simp only [e,List.length_cons,List.length_nil,qA,fG,numOf] at h2
  simp at h2
  obtain ⟨h3,h4⟩:=iV (by decide) h2
  have h5:=(iV (by decide) h3).2
  exact .inr (.inr (.inr (.inr (.inl ⟨rfl,h5,h4⟩))))
 ·have e:mF 6=[114]:=rfl
  simp only [e,List.length_cons,List.length_nil,qA,fG,numOf] at h2
  simp at h2
  have h5:=(iV (by decide) h2).2
  exact .inr (.inr (.inr (.inr (.inr (.inl ⟨rfl,h5⟩)))))
 ·have e:mF 7=[114,114]:=rfl
  simp only [e,List.length_cons,List.length_nil,qA,fG,numOf] at h2
  simp at h2
  obtain ⟨h3,h4⟩:=iV (by decide) h2
  have h5:=(iV (by decide) h3).2
  exact .inr (.inr (.inr (.inr (.inr (.inr (.inl ⟨rfl,h5,h4⟩))))))
 ·exact .inr (.inr (.inr (.inr (.inr (.inr (.inr rfl))))))
end
section
def QY (R:Nat) (o:fE):Prop:=0<=o.a/\o.a<R
def zo (R:Nat) (o:fE):Prop:=QY R o/\0<=o.b/\o.b<=15
def mZ (R:Nat):MD->Prop
 | .nil=>True
 | .start _=>True
 | .once _=>True
 | .note _ _ t=>mZ R t
 | .add _ t=>mZ R t
 | .pour _ t=>mZ R t
 | .eu _ _ t=>mZ R t
 | .raise t=>mZ R t
 | .field _ _ t=>mZ R t
 | .load o _=>QY R o
 | .get o=>QY R o
 | .lay _ _=>True
 | .last _=>True
 | .alloc o k=>zo R o/\k<4
 | .assign o k=>zo R o/\k<4
 | .qj o _=>zo R o
 | .claim o k=>zo R o/\k<4
 | .again o k=>zo R o/\k<4
 | .sweep _ _ t=>mZ R t
 | .fill o _=>zo R o
 | .zero o _ i=>zo R o/\(i:Int)<=o.b
def l7 (s:Sh):Prop:=∀ k:Nat,∀ x∈s.Q.rw k,0<=x/\s.H.K.getD x.toNat 0≠0
theorem l7.heap {s:Sh} {H:HS} (h:l7 s) (hK:∀ x,s.H.K.getD x 0≠0->H.K.getD x 0≠0):l7 { s with H:=H }:=fun k x hx=>⟨(h k x hx).1,hK _ (h k x hx).2⟩
section
variable {H:HS}
theorem PV (k:Nat):(H.eX k).2.2.K=H.K:=by unfold HS.eX;split<;>rfl
theorem Uu (a:Nat):(H.fK a).K=H.K:=by
 unfold HS.fK
 split
 ·rfl
 ·split<;>rfl
theorem Xm (a:Nat) (f:Int):(H.iy a f).K=H.K:=by
 unfold HS.iy
 split
 ·rfl
 ·split<;>rfl
theorem ZL (a c:Nat):(H.jO a c).K=H.K:=by unfold HS.jO;split<;>rfl
theorem PW (a:Nat):(H.fV a).K=H.K:=by
 unfold HS.fV
 split
 ·rw [Uu];rfl
 ·rfl
theorem KR (a:Nat) (f:Int) (v:Nat):(H.gu a f v).K=H.K:=by unfold HS.gu;split<;>rfl
theorem aaP (i:Int) (v:Nat):(H.oG i v).K=H.K:=by unfold HS.oG;split<;>rfl
theorem KT (a c:Nat):(H.bQ a c).K=H.K:=by unfold HS.bQ;split<;>rfl
theorem Uw (k x:Nat) (h:H.K.getD x 0≠0):(H.dF k).2.2.K.getD x 0≠0:=by
 unfold HS.dF
 split
 ·exact h
 ·rename_i B hB
  show (H.K.set B (k+1)).getD x 0≠0
  by_cases e:B=x
  ·subst e
   have hlt:B<H.K.length:=by
    rcases Nat.lt_or_ge B H.K.length with h1|h1
    ·exact h1
    ·rw [List.getD_eq_getElem?_getD,List.getElem?_eq_none h1] at h;exact absurd rfl h
   rw [Ar hlt];omega
  ·rw [yI e];exact h
theorem acE (rd:RD):(rd.write H).K=H.K:=by
 cases rd with
 | field b f v=>exact KR b f v
 | cell i v=>exact aaP i v
end
theorem l7.same {s:Sh} {H:HS} (h:l7 s) (hK:H.K=s.H.K):l7 { s with H:=H }:=h.heap (fun x hx=>by rw [hK];exact hx)
theorem KU {l:List (List Int)} {i j:Nat} {r:List Int} {x:Int} (hr:∀ y∈r,y∈l.getD i []) (h:x∈(l.set i r).getD j []):∃ k,x∈l.getD k []:=by
 rw [List.getD_eq_getElem?_getD] at h
 by_cases e:i=j
 ·subst e
  by_cases hlt:i<l.length
  ·rw [List.getElem?_set_self hlt] at h
   exact ⟨i,hr _ h⟩
  ·rw [List.set_eq_of_length_le (by omega),<- List.getD_eq_getElem?_getD] at h
   exact ⟨i,h⟩
 ·rw [List.getElem?_set_ne e,<- List.getD_eq_getElem?_getD] at h
  exact ⟨j,h⟩
theorem l7.take {s:Sh} (h:l7 s) (k:Nat):l7 { s with Q:=s.Q.take k }:=fun j x hx=>by
 obtain ⟨i,hi⟩:=KU (l:=s.Q.rows) (i:=(k:Int).toNat) (j:=j) (r:=(s.Q.row k).drop 1) (fun y hy=>List.mem_of_mem_drop hy) hx
 exact h i x hi
theorem l7.done {s:Sh} (h:l7 s):l7 { s with Q:=s.Q.qh }:=fun k x hx=>h k x hx
structure uX (N:Nat) (s:Sh) (m:MS):Prop where
 color:m.color<2
 want:m.want<2
 opn:s.Q.opn<=N
 res:m.res.length<=N
 q:l7 s
 sp:m.spent<=N
 rl:(m.regs.length:Int)=m.c.r
 nx:mZ m.regs.length m.next
structure SK (N:Nat) (m:MS) (r:qo):Prop where
 color:r.m.color<2
 want:r.m.want<2
 opn:r.s.Q.opn<=N+1
 res:r.m.res.length<=N+1
 q:l7 r.s
 nx:mZ r.m.regs.length r.next
 c:r.m.c=m.c
 id:r.m.id=m.id
 prog:r.m.prog=m.prog
 rlen:r.m.regs.length=m.regs.length
 spent:r.m.spent=m.spent
section
variable {N:Nat} {s:Sh} {m:MS}
structure xC (N:Nat) (s:Sh) (m:MS):Prop where
 color:m.color<2
 want:m.want<2
 opn:s.Q.opn<=N
 res:m.res.length<=N
 q:l7 s
 rl:(m.regs.length:Int)=m.c.r
theorem xC.mY (h:xC N s m) {s':Sh} (code:Int) (v:Nat) (ho:s'.Q.opn<=N+1) (hq:l7 s'):SK N m (mY s' m code v) :=
 ⟨h.color,h.want,ho,by have:=h.res;show (m.res++[(code,v)]).length<=N+1;simp;omega,hq,trivial,rfl,rfl,rfl,rfl,rfl⟩
theorem xC.qB (h:xC N s m) {s':Sh} (r:Int) (v:Nat) (ho:s'.Q.opn<=N+1) (hq:l7 s'):SK N m (qB s' m r v) :=
 ⟨h.color,h.want,ho,by have:=h.res;show (m.res++[((0:Int),v)]).length<=N+1;simp;omega,hq,trivial,rfl,rfl,rfl,by show (m.regs.set r.toNat v).length=_;simp,rfl⟩
theorem xC.next (h:xC N s m) {s':Sh} {d:MD} {ev:Option Ev} (ho:s'.Q.opn<=N+1) (hq:l7 s') (hd:mZ m.regs.length d):SK N m ⟨s',m,d,ev⟩ :=
 ⟨h.color,h.want,ho,by have:=h.res;show m.res.length<=N+1;omega,hq,hd,rfl,rfl,rfl,rfl,rfl⟩
theorem xC.opn1 (h:xC N s m):s.Q.opn<=N+1:=by have:=h.opn;omega
theorem aaQ (f:Int):jF f<4:=by unfold jF;(repeat' split)<;>omega
theorem KW {R:Nat} {c:Nat} {t:MD} (h:mZ R t):mZ R (m.kE c t):=by
 unfold MS.kE
 split<;>exact h
theorem Ec {R:Nat} {v c:Nat} {t:MD} (h:mZ R t):mZ R (kD v c t):=by
 unfold kD
 split<;>exact h
theorem PX {R:Nat} {v:Nat} {rd:RD}:mZ R (m.QX v rd):=by
 unfold MS.QX
 split<;>trivial
theorem Io {R:Nat} {o:fE} {all:List Nat} (h:zo R o):mZ R (EZ o all):=by
 unfold EZ
 split<;>exact h
theorem Xn (h:xC N s m) (o:fE):SK N m (iC s m o):=by
 have d:=fun code v=>h.mY (s':=s) code v h.opn1 h.q
 unfold iC
 split
 ·exact d _ _
 rename_i hc
 have hc':chk m.c o=0:=by simpa using hc
 have ha:o.k=1->zo m.regs.length o:=fun e=>by
  rcases Il hc' with ⟨hk,ha,hb⟩|⟨hk,ha,hb⟩|⟨hk,ha,hb⟩|⟨hk,ha,hb⟩|⟨hk,ha,hb⟩|⟨hk,ha⟩|⟨hk,ha,hb⟩|hk
  ·exact ⟨⟨ha.1,by rw [h.rl];exact ha.2⟩,hb.1,by omega⟩
  all_goals omega
 have hr:o.k=2\/o.k=4->QY m.regs.length o:=fun e=>by
  rcases Il hc' with ⟨hk,ha,hb⟩|⟨hk,ha,hb⟩|⟨hk,ha,hb⟩|⟨hk,ha,hb⟩|⟨hk,ha,hb⟩|⟨hk,ha⟩|⟨hk,ha,hb⟩|hk
  ·omega
  ·exact ⟨ha.1,by rw [h.rl];exact ha.2⟩
  ·omega
  ·exact ⟨ha.1,by rw [h.rl];exact ha.2⟩
  all_goals omega
 have fd:∀ base f t,mZ m.regs.length t->SK N m (AB s m base f t):=fun base f t ht=>by
  unfold AB
  split
  ·exact d _ _
  ·exact h.next h.opn1 h.q ht
 split
 ·rename_i e;exact h.next h.opn1 h.q ⟨ha e,aaQ _⟩
 split
 ·rename_i e;exact fd _ _ _ (hr (.inl e))
 split
 ·exact fd _ _ _ PX
 split
 ·rename_i e;exact h.next h.opn1 h.q (hr (.inr e))
 split
 ·exact h.next h.opn1 h.q PX
 split
 ·exact ⟨h.color,h.want,h.opn1,by have:=h.res;show (m.res++[((0:Int),0)]).length<=N+1;simp;omega,h.q,trivial,rfl,rfl,rfl,by show (m.regs.set _ _).length=_;simp,rfl⟩
 split
 ·exact h.qB _ _ h.opn1 h.q
 ·exact d _ _
theorem step_ok (h:xC N s m) (d:MD) (hd:mZ m.regs.length d):SK N m (stepM s m d):=by
 have q:=h.q
 have o1:=h.opn1
 cases d with
 | nil=>exact h.next o1 q trivial
 | start o=>exact Xn h o
 | once k =>
   have hw:=h.want
   have hc:=h.color
   have hr:=h.res
   have hb:l7 { s with B:=s.B.iT m.id }:=fun k x hx=>q k x hx
   simp only [stepM,gB]
   repeat' split
   all_goals exact ⟨by simp only<;>omega,by simp only<;>omega,o1,by simp only<;>omega,hb,trivial,rfl,rfl,rfl,rfl,rfl⟩
 | note v c t =>
   simp only [stepM]
   repeat' split
   ·exact h.next o1 q hd
   ·exact h.next o1 q (KW hd)
   ·exact ⟨h.color,h.want,o1,by have:=h.res;simp only;omega,q,hd,rfl,rfl,rfl,rfl,rfl⟩
 | add v t =>
   simp only [stepM]
   split
   ·exact h.next o1 q hd
   ·exact ⟨h.color,h.want,o1,by have:=h.res;simp only;omega,q,hd,rfl,rfl,rfl,rfl,rfl⟩
 | pour c t =>
   simp only [stepM]
   split
   ·exact ⟨h.color,h.want,o1,by have:=h.res;simp only;omega,fun k x hx=>q k x hx,hd,rfl,rfl,rfl,rfl,rfl⟩
   ·exact h.next o1 q hd
 | eu c f t =>
   simp only [stepM]
   refine ⟨h.color,h.want,o1,by have:=h.res;simp only;omega,q.same (KT _ _),?_,rfl,rfl,rfl,rfl,rfl⟩
   repeat' split
   all_goals exact hd
 | raise t=>exact h.next o1 (fun k x hx=>q k x hx) hd
 | field base f t =>
   simp only [stepM]
   split
   ·exact h.mY _ _ o1 q
   ·exact h.next o1 q hd
 | load o base=>exact h.qB _ _ o1 q
 | get o=>exact h.qB _ _ o1 q
 | lay v rd =>
   simp only [stepM]
   refine ⟨h.color,h.want,o1,by have:=h.res;simp only;omega,q,?_,rfl,rfl,rfl,rfl,rfl⟩
   refine Ec ?_
   split
   ·exact Ec trivial
   ·trivial
 | last rd=>exact h.mY _ _ o1 (q.same (acE rd))
 | alloc o k =>
   simp only [stepM]
   split
   ·exact h.next o1 (q.same (PV k)) hd.1
   ·exact h.next o1 q hd
 | assign o k =>
   simp only [stepM]
   split
   ·exact h.next o1 (q.heap (fun x hx=>Uw k x hx)) (Io hd.1)
   ·exact h.next o1 q hd
 | qj o all=>exact h.next o1 (q.same (Uu _)) (Io hd)
 | claim o k =>
   simp only [stepM]
   split
   ·exact h.next o1 q hd
   ·exact h.next (by have:=h.opn;show s.Q.opn+1<=N+1;omega) (q.take k) hd
 | again o k =>
   simp only [stepM]
   split
   ·exact h.next o1 (q.same (PV k)) hd.1
   ·exact h.mY _ _ o1 q
 | sweep sl c t =>
   cases sl with
   | nil =>
     simp only [stepM]
     refine h.next ?_ ?_ hd
     ·show (if s.Q.opn=0 then s.Q else s.Q.qh).opn<=N+1
      split
      ·exact o1
      ·show s.Q.opn - 1<=N+1;omega
     ·show l7 { s with Q:=if s.Q.opn=0 then s.Q else s.Q.qh }
      split
      ·exact q
      ·exact q.done
   | cons a r =>
     simp only [stepM]
     split
     ·exact h.next o1 q hd
     ·exact h.next o1 (q.same (PW a)) hd
 | fill o a=>exact h.next o1 (q.same (Xm _ _)) ⟨hd,hd.2.1⟩
 | zero o a i =>
   obtain ⟨hd1,hd2⟩:=hd
   simp only [stepM]
   split
   ·exact h.qB _ _ o1 (q.same (ZL _ _))
   ·refine h.next o1 (q.same (KR _ _ _)) ⟨hd1,?_⟩
    push_cast;omega
theorem scan_ok {R c:Nat}:∀ l:List Nat,mZ R (jQ c l)
 | []=>trivial
 | _::l=>Ec (scan_ok l)
theorem Xo {R:Nat}:mZ R (dA s m):=by
 unfold dA
 split
 ·split
  ·exact scan_ok _
  ·split
   ·exact KW trivial
   ·trivial
 ·split<;>trivial
theorem PY (h:uX N s m):uX (N+1) (bG s m).1 (bG s m).2.1/\(bG s m).2.1.c=m.c/\(bG s m).2.1.id=m.id/\(bG s m).2.1.prog=m.prog/\(bG s m).2.1.regs.length=m.regs.length:=by
 unfold bG
 split
 ·exact ⟨⟨h.color,h.want,by have:=h.opn;simp only;omega,by have:=h.res;simp only;omega,h.q,by simp only;omega,h.rl,Xo⟩,rfl,rfl,rfl,rfl⟩
 ·have hs:xC N s { m with spent:=m.spent+1 }:=⟨h.color,h.want,h.opn,h.res,h.q,h.rl⟩
  have r:=step_ok hs m.next h.nx
  have sp:(stepM s { m with spent:=m.spent+1 } m.next).m.spent<=N+1:=by rw [r.spent];have:=h.sp;simp only;omega
  have rl:((stepM s { m with spent:=m.spent+1 } m.next).m.regs.length:Int)=(stepM s { m with spent:=m.spent+1 } m.next).m.c.r:=by rw [r.rlen,r.c];exact h.rl
  generalize stepM s { m with spent:=m.spent+1 } m.next=R at *
  have rn:=r.nx
  simp only
  split
  ·unfold MS.most
   split
   ·exact ⟨⟨r.color,r.want,r.opn,r.res,r.q,sp,rl,trivial⟩,r.c,r.id,r.prog,r.rlen⟩
   ·exact ⟨⟨r.color,r.want,r.opn,r.res,r.q,sp,rl,trivial⟩,r.c,r.id,r.prog,r.rlen⟩
  ·exact ⟨⟨r.color,r.want,r.opn,r.res,r.q,sp,rl,rn⟩,r.c,r.id,r.prog,r.rlen⟩
end
def lN (mu bl ce:Nat):CD->Prop
 | .wait m t=>m<mu/\lN mu bl ce t
 | .look _ t=>lN mu bl ce t
 | .cell i=>i<ce
 | .object _ t=>lN mu bl ce t
 | .field _ i n t=>i<n/\n<=100/\lN mu bl ce t
 | .box m=>m<mu
 | .walk b=>b<bl
 | .slots l t=>l≠[]/\l.length<=1000/\lN mu bl ce t
 | .empty t=>lN mu bl ce t
 | .enqueue b=>b<bl
 | _=>True
def YP (H:HS):Prop:=(∀ a,(H.aV a).1<=100)/\∀ b,(H.slots b).length<=1000
structure CK (N:Nat) (s:Sh) (c:CS):Prop where
 mu:s.boxes.length=c.muts
 mu1:1<=c.muts/\c.muts<=8
 bl:c.blocks<=4096
 ce:c.cells<=64
 rm:1<=c.room/\c.room<=4096
 stk:c.stk.length<=c.room
 color:c.color<2
 jd:c.cycles<=N
 dr:c.drains<=N
 wa:c.walks<=N
 opn:s.Q.opn<=N
 q:l7 s
 ql:∀ k,(s.Q.rw k).length<=N
 cnt:0<=s.B.count/\s.B.count<=N
 ph:c.phase<=7
structure Ux (N:Nat) (c:CS) (r:kF):Prop where
 k:CK N r.s r.c
 nx:lN r.c.muts r.c.blocks r.c.cells r.next
 mu:r.c.muts=c.muts
 bl:r.c.blocks=c.blocks
 ce:r.c.cells=c.cells
section
variable {N:Nat} {s:Sh} {c:CS}
theorem CK.more {M:Nat} (h:CK N s c) (hM:N<=M):CK M s c :=
 ⟨h.mu,h.mu1,h.bl,h.ce,h.rm,h.stk,h.color,Nat.le_trans h.jd hM,Nat.le_trans h.dr hM,Nat.le_trans h.wa hM,Nat.le_trans h.opn hM,h.q,fun k=>Nat.le_trans (h.ql k) hM,⟨h.cnt.1,by have:=h.cnt.2;omega⟩,h.ph⟩
theorem CK.next (h:CK N s c) {d:CD} {ev:Option Ev} (hd:lN c.muts c.blocks c.cells d):Ux (N+1) c ⟨s,c,d,ev⟩:=⟨h.more (Nat.le_succ N),hd,rfl,rfl,rfl⟩
theorem CK.heap (h:CK N s c) {H:HS} (hK:H.K=s.H.K):CK N { s with H:=H } c :=
 ⟨h.mu,h.mu1,h.bl,h.ce,h.rm,h.stk,h.color,h.jd,h.dr,h.wa,h.opn,h.q.same hK,h.ql,h.cnt,h.ph⟩
theorem QZ (b:Bd) (k:Int):(b.oU k).count=b.count\/(b.oU k).count=b.count+1:=by
 unfold Bd.oU
 split
 ·exact .inr rfl
 ·exact .inl rfl
theorem CK.ask (h:CK N s c) (p:Nat) {c':CS} {t:CD} {ev:Option Ev} (hp:p<=7) (e:c'.muts=c.muts/\c'.blocks=c.blocks/\c'.cells=c.cells/\c'.room=c.room/\c'.stk=c.stk) (hc:c'.color<2) (h1:c'.cycles<=N+1) (h2:c'.drains<=N+1) (h3:c'.walks<=N+1)
 (ht:lN c.muts c.blocks c.cells t):Ux (N+1) c (uP s c' p t ev):=by
 obtain ⟨e1,e2,e3,e4,e5⟩:=e
 have hcn:=h.cnt
 have ha:0<=(s.B.oU (p:Int)).count/\(s.B.oU (p:Int)).count<=((N+1:Nat):Int):=by
  rcases QZ s.B (p:Int) with e|e<;>rw [e]<;>omega
 refine ⟨⟨by show s.boxes.length=c'.muts;rw [e1];exact h.mu,by show 1<=c'.muts/\c'.muts<=8;rw [e1];exact h.mu1,by show c'.blocks<=_;rw [e2];exact h.bl,by show c'.cells<=_;rw [e3];exact h.ce,by show 1<=c'.room/\c'.room<=_;rw [e4];exact h.rm,
  by show c'.stk.length<=c'.room;rw [e4,e5];exact h.stk,hc,h1,h2,h3,Nat.le_succ_of_le h.opn,fun k x hx=>h.q k x hx,fun k=>Nat.le_succ_of_le (h.ql k),ha,hp⟩,?_,e1,e2,e3⟩
 show lN c'.muts c'.blocks c'.cells (.wait 0 t)
 rw [e1,e2,e3]
 exact ⟨by have:=h.mu1;omega,ht⟩
theorem Ed {mu bl ce v:Nat} {t:CD} (h:lN mu bl ce t):lN mu bl ce (cZ v t):=by unfold cZ;split<;>exact h
theorem KY (h:CK N s c) (i:Nat) (hi:i<=c.cells):lN c.muts c.blocks c.cells (c.dZ i):=by
 unfold CS.dZ
 split
 ·trivial
 ·show i<c.cells;omega
theorem Ip {mu bl ce a i n:Nat} {t:CD} (hi:i<=n) (hn:n<=100) (h:lN mu bl ce t):lN mu bl ce (cu a i n t):=by
 unfold cu
 split
 ·exact h
 ·exact ⟨by omega,hn,h⟩
theorem KZ (i:Nat) (hi:i<=c.blocks):lN c.muts c.blocks c.cells (c.eF i):=by
 unfold CS.eF
 split
 ·trivial
 ·show i<c.blocks;omega
theorem GR (i:Nat) (hi:i<=c.blocks):lN c.muts c.blocks c.cells (c.iU i):=by
 unfold CS.iU
 split
 ·trivial
 ·show i<c.blocks;omega
theorem AL {mu bl ce:Nat} {l:List Nat} {t:CD} (hl:l.length<=1000) (h:lN mu bl ce t):lN mu bl ce (dL l t):=by
 unfold dL
 split
 ·exact h
 ·rename_i e;exact ⟨e,hl,h⟩
theorem aaR (q:Qu) (k:Int) (b:Int) (j:Nat):((q.put k b).rw j).length<=(q.rw j).length+1:=by
 unfold Qu.put Qu.rw Qu.row
 simp only
 rw [List.getD_eq_getElem?_getD]
 by_cases e:k.toNat=j
 ·subst e
  by_cases hl:k.toNat<q.rows.length
  ·rw [List.getElem?_set_self hl];simp
  ·rw [List.set_eq_of_length_le (by omega),<- List.getD_eq_getElem?_getD];omega
 ·rw [List.getElem?_set_ne e,<- List.getD_eq_getElem?_getD];omega
theorem PZ (q:Qu) (k:Int) (j:Nat):((q.take k).rw j).length<=(q.rw j).length:=by
 unfold Qu.take Qu.rw Qu.row
 simp only
 rw [List.getD_eq_getElem?_getD]
 by_cases e:k.toNat=j
 ·subst e
  by_cases hl:k.toNat<q.rows.length
  ·rw [List.getElem?_set_self hl];simp
  ·rw [List.set_eq_of_length_le (by omega),<- List.getD_eq_getElem?_getD];omega
 ·rw [List.getElem?_set_ne e,<- List.getD_eq_getElem?_getD];omega
theorem l7.put {b:Nat} (h:l7 s) (k:Int) (hb:s.H.K.getD b 0≠0):l7 { s with Q:=s.Q.put k (b:Int) }:=fun j x hx=>by
 unfold Qu.put Qu.rw at hx
 simp only at hx
 rw [List.getD_eq_getElem?_getD] at hx
 by_cases e:k.toNat=j
 ·subst e
  by_cases hl:k.toNat<s.Q.rows.length
  ·rw [List.getElem?_set_self hl] at hx
   simp only [Option.getD_some,List.mem_append,List.mem_singleton] at hx
   rcases hx with hx|rfl
   ·exact h _ x hx
   ·exact ⟨by omega,by simpa using hb⟩
  ·rw [List.set_eq_of_length_le (by omega),<- List.getD_eq_getElem?_getD] at hx
   exact h _ x hx
 ·rw [List.getElem?_set_ne e,<- List.getD_eq_getElem?_getD] at hx
  exact h _ x hx
theorem Xp (h:CK N s c) (hb:YP s.H) (d:CD) (hd:lN c.muts c.blocks c.cells d):Ux (N+1) c (aC s c d):=by
 have h1:=h.more (Nat.le_succ N)
 have hmu:=h.mu1
 cases d with
 | nil=>exact h.next trivial
 | wait m t =>
   simp only [aC]
   refine h.next ?_
   split
   ·exact hd
   ·split
    ·exact ⟨by omega,hd.2⟩
    ·exact hd.2
 | arm=>exact h.ask 2 (by decide) ⟨rfl,rfl,rfl,rfl,rfl⟩ h.color h1.jd h1.dr h1.wa trivial
 | scan=>exact h.ask 3 (by decide) ⟨rfl,rfl,rfl,rfl,rfl⟩ h.color h1.jd h1.dr h1.wa trivial
 | trace=>exact ⟨⟨h.mu,h.mu1,h.bl,h.ce,h.rm,h.stk,h.color,h1.jd,h1.dr,h1.wa,h1.opn,h.q,h1.ql,h1.cnt,by show 4<=7;decide⟩,KY h 0 (Nat.zero_le _),rfl,rfl,rfl⟩
 | cell i =>
   have hi:i<c.cells:=hd
   exact h.next (Ed (KY h (i+1) (by omega)))
 | look v t =>
   simp only [aC]
   split
   ·have g:=(h1.heap (H:=s.H.bQ v c.color) (KT _ _))
    have hs:=h.stk
    unfold CS.push
    simp only
    split
    ·exact ⟨⟨g.mu,g.mu1,g.bl,g.ce,g.rm,g.stk,g.color,g.jd,g.dr,g.wa,g.opn,g.q,g.ql,g.cnt,g.ph⟩,hd,rfl,rfl,rfl⟩
    ·exact ⟨⟨g.mu,g.mu1,g.bl,g.ce,g.rm,by simp;omega,g.color,g.jd,g.dr,g.wa,g.opn,g.q,g.ql,g.cnt,g.ph⟩,hd,rfl,rfl,rfl⟩
   ·exact h.next hd
 | work =>
   simp only [aC]
   split
   ·exact ⟨⟨h1.mu,h1.mu1,h1.bl,h1.ce,h1.rm,by show c.stk.dropLast.length<=c.room;have:=h.stk;simp;omega,h1.color,h1.jd,h1.dr,h1.wa,h1.opn,h1.q,h1.ql,h1.cnt,h1.ph⟩,trivial,rfl,rfl,rfl⟩
   ·exact h.next (show 0<c.muts by omega)
 | object a t=>exact h.next (Ip (Nat.zero_le _) (hb.1 a) hd)
 | field a i n t =>
   obtain ⟨g1,g2,g3⟩:=hd
   exact h.next (Ed (Ip g1 g2 g3))
 | box m =>
   have hm:m<c.muts:=hd
   simp only [aC]
   split
   ·rename_i a l hl
    refine ⟨⟨by show (s.boxes.set m l).length=_;simpa using h.mu,h1.mu1,h1.bl,h1.ce,h1.rm,h1.stk,h1.color,h1.jd,h1.dr,h1.wa,h1.opn,fun k x hx=>h.q k x hx,h1.ql,h1.cnt,h1.ph⟩,Ed hm,rfl,rfl,rfl⟩
   ·refine h.next ?_
    split
    ·assumption
    ·split<;>trivial
 | over =>
   simp only [aC]
   split
   ·split
    ·exact h.next trivial
    ·split
     ·exact ⟨⟨h1.mu,h1.mu1,h1.bl,h1.ce,h1.rm,h1.stk,h1.color,h1.jd,h1.dr,h1.wa,h1.opn,h1.q,h1.ql,h1.cnt,by show 4<=7;decide⟩,trivial,rfl,rfl,rfl⟩
     ·exact h.next trivial
   ·exact ⟨⟨h1.mu,h1.mu1,h1.bl,h1.ce,h1.rm,h1.stk,h1.color,h1.jd,h1.dr,by show c.walks+1<=N+1;have:=h.wa;omega,h1.opn,fun k x hx=>h.q k x hx,h1.ql,h1.cnt,h1.ph⟩,KZ (c:=c) 0 (Nat.zero_le _),rfl,rfl,rfl⟩
 | drain=>exact h.ask 5 (by decide) ⟨rfl,rfl,rfl,rfl,rfl⟩ h.color h1.jd (by show c.drains+1<=N+1;have:=h.dr;omega) h1.wa trivial
 | marked=>exact ⟨⟨h1.mu,h1.mu1,h1.bl,h1.ce,h1.rm,h1.stk,h1.color,h1.jd,h1.dr,h1.wa,h1.opn,h1.q,h1.ql,h1.cnt,by show 6<=7;decide⟩,GR (c:=c) 0 (Nat.zero_le _),rfl,rfl,rfl⟩
 | enqueue b =>
   have hbb:b<c.blocks:=hd
   simp only [aC]
   split
   ·exact h.next (GR (b+1) hbb)
   ·rename_i hk
    exact ⟨⟨h1.mu,h1.mu1,h1.bl,h1.ce,h1.rm,h1.stk,h1.color,h1.jd,h1.dr,h1.wa,h1.opn,h.q.put _ hk,fun j=>Nat.le_trans (aaR _ _ _ j) (Nat.succ_le_succ (h.ql j)),h1.cnt,h1.ph⟩,GR (b+1) hbb,rfl,rfl,rfl⟩
 | sweep =>
   simp only [aC]
   split
   ·exact h.next trivial
   ·exact ⟨⟨h1.mu,h1.mu1,h1.bl,h1.ce,h1.rm,h1.stk,h1.color,h1.jd,h1.dr,h1.wa,by show s.Q.opn+1<=N+1;have:=h.opn;omega,h.q.take _,fun j=>Nat.le_trans (PZ _ _ j) (Nat.le_succ_of_le (h.ql j)),h1.cnt,h1.ph⟩,trivial,rfl,rfl,rfl⟩
 | block sl =>
   cases sl with
   | nil=>exact ⟨⟨h1.mu,h1.mu1,h1.bl,h1.ce,h1.rm,h1.stk,h1.color,h1.jd,h1.dr,h1.wa,by show s.Q.opn - 1<=N+1;have:=h.opn;omega,h.q.done,h1.ql,h1.cnt,h1.ph⟩,trivial,rfl,rfl,rfl⟩
   | cons a r =>
     simp only [aC]
     split
     ·exact h.next trivial
     ·have g:=h1.heap (H:=s.H.fV a) (PW a)
      exact ⟨g,trivial,rfl,rfl,rfl⟩
 | rests =>
   simp only [aC]
   refine h.next ?_
   split<;>trivial
 | off=>exact h.ask 7 (by decide) ⟨rfl,rfl,rfl,rfl,rfl⟩ h.color h1.jd h1.dr h1.wa trivial
 | idle=>exact ⟨⟨h1.mu,h1.mu1,h1.bl,h1.ce,h1.rm,h1.stk,h1.color,h1.jd,h1.dr,h1.wa,h1.opn,h1.q,h1.ql,h1.cnt,Nat.zero_le _⟩,trivial,rfl,rfl,rfl⟩
 | walk b =>
   have hbb:b<c.blocks:=hd
   exact h.next (AL (hb.2 b) (KZ (b+1) hbb))
 | slots l t =>
   obtain ⟨g1,g2,g3⟩:=hd
   have hl:l.tail.length<=1000:=by simp;omega
   simp only [aC]
   refine h.next ?_
   split
   ·exact AL hl g3
   ·exact AL hl g3
 | empty t =>
   simp only [aC]
   split
   ·exact ⟨⟨h1.mu,h1.mu1,h1.bl,h1.ce,h1.rm,by show c.stk.dropLast.length<=c.room;have:=h.stk;simp;omega,h1.color,h1.jd,h1.dr,h1.wa,h1.opn,h1.q,h1.ql,h1.cnt,h1.ph⟩,hd,rfl,rfl,rfl⟩
   ·exact h.next hd
theorem Uy (h:CK N s c):Ux (N+1) c (gY s c):=by
 have h1:=h.more (Nat.le_succ N)
 exact h.ask 1 (by decide) ⟨rfl,rfl,rfl,rfl,rfl⟩ (by show 1 - c.color<2;omega) (by show c.cycles+1<=N+1;have:=h.jd;omega) h1.dr h1.wa trivial
structure Iq (N:Nat) (s:Sh) (c:CS):Prop where
 k:CK N s c
 nx:lN c.muts c.blocks c.cells c.next
theorem Xq (h:Iq N s c) (hb:YP s.H):Iq (N+1) (bM s c).s (bM s c).c/\(bM s c).c.muts=c.muts/\(bM s c).c.blocks=c.blocks/\(bM s c).c.cells=c.cells:=by
 have key:∀ r:kF,Ux (N+1) c r->Iq (N+1) r.s { r.c with next:=r.next }/\r.c.muts=c.muts/\r.c.blocks=c.blocks/\r.c.cells=c.cells:=fun r hr=>by
  have g:=hr.k
  exact ⟨⟨⟨g.mu,g.mu1,g.bl,g.ce,g.rm,g.stk,g.color,g.jd,g.dr,g.wa,g.opn,g.q,g.ql,g.cnt,g.ph⟩,hr.nx⟩,hr.mu,hr.bl,hr.ce⟩
 unfold bM
 split
 ·exact key (aC s c c.next) (Xp h.k hb c.next h.nx)
 ·split
  ·exact key (gY s c) (Uy h.k)
  ·exact key ⟨s,c,.nil,none⟩ (h.k.next trivial)
end
end
end Go.Proofs.YtanfphjoebobaaaGreatDoor
