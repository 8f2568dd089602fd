/- Parts of the fP. No conditions. -/
import Derived.Test.YtoamcpbapedofaaGreatDoorZzwa
import Derived.Deep.OwnRows
import Derived.Deep.DeepAppendRoom
import Derived.RangeFuncNested
import Derived.LoopNIn
import Derived.LoopIn
import Derived.Laws.CopyOwn
import Derived.Laws.EntriesVeiled
namespace Go.Proofs.YtoamcpbapedofaaGreatDoor
open _root_.List renaming getD_eq_getElem?_getD->Ie,getElem?_eq_some_iff->Ik,getElem?_set_ne->Ih,getElem?_set_self->Ig,replicate->Ht
open _root_.Nat renaming le_refl->Ho,le_trans->Ii,mul_le_mul->Ij,zero_le->Il
open _root_.Go.Proofs.Tryz hiding prog
open _root_.Go.Proofs.Tryz renaming prog->ay
set_option maxHeartbeats 400000
section
open Go.RowKit
def rF (c f:Nat):Nat:=72057594037927936+c*256+f
def vw (a:Nat):Nat:=144115188075855872+a
def mG (c f:Nat):Prop:=c<4/\f+1<=2^(c+1)
instance (c f:Nat):Decidable (mG c f):=inferInstanceAs (Decidable (_/\_))
def zD (x:Nat):Option (Nat × Nat):=if mG (x/256%256) (x%256)/\rF (x/256%256) (x%256)=x then some (x/256%256,x%256) else none
theorem yF {x c f:Nat} (h:zD x=some (c,f)):mG c f/\x=rF c f:=by
 unfold zD at h
 split at h
 ·rename_i h1
  simp only [Option.some.injEq,Prod.mk.injEq] at h
  obtain ⟨rfl,rfl⟩:=h
  exact ⟨h1.1,h1.2.symm⟩
 ·cases h
end
section
theorem wS {W:List Nat} {i:Nat} (h:i<W.length) (x:Nat):(W.set i x).getD i 0=x:=by
 rw [Ie,Ig h];rfl
theorem Ag {W:List Nat} {i j:Nat} (h:i≠j) (x:Nat):(W.set i x).getD j 0=W.getD j 0:=by
 rw [Ie,Ih h,<- Ie]
structure HS where
 c:aI
 b:Nat
 ww:Nat
 A:List Nat
 K:List Nat
 fr:List (List Nat)
 bn:Nat->Bool
 co:Nat->Bool
 cells:List Nat
def HS.n (H:HS):Nat:=H.b*H.ww
def HS.sz (H:HS):Nat:=H.b*H.ww+1
def HS.row (H:HS) (k:Nat):List Nat:=H.fr.getD k []
def HS.AX (H:HS) (a:Nat):Bool:=H.fr.any fun l=>l.contains a
def HS.F (H:HS):List Nat:=H.fr.map fun l=>l.headD 0
def AY (b ww:Nat) (K:List Nat) (a:Nat):Option (Nat × Nat) :=
 if 1<=a/\a<=b*ww/\K.getD ((a - 1)/ww) 0≠0/\(a - 1)%ww%2^K.getD ((a - 1)/ww) 0=0/\(a - 1)%ww/2^K.getD ((a - 1)/ww) 0<ww/2^K.getD ((a - 1)/ww) 0
 then some ((a - 1)/ww,K.getD ((a - 1)/ww) 0 - 1) else none
def HS.mJ (H:HS) (a:Nat):Option (Nat × Nat):=AY H.b H.ww H.K a
def zF (A:List Nat) (a:Nat):Nat:=if 1<=a then A.getD (a - 1) 0 else 0
def HS.jE (H:HS) (a:Nat):Nat:=zF H.A a
def HS.zG (H:HS) (a:Nat):Option Nat:=(zD (H.jE a)).map (·.2)
def HS.yG (H:HS) (a:Nat):Bool:=(H.mJ a).isSome && !H.bn a && !H.AX a
def HS.Fg (H:HS) (a:Nat):Bool:=H.bn a||(H.yG a&&(H.zG a).isSome)
def HS.nf (H:HS) (a:Nat):Nat:=(H.zG a).getD 0
def HS.vC (H:HS) (a:Nat):Nat:=if a=0 then 6 else if H.Fg a then 0 else 1
def qp (s:Nat->Bool) (a:Nat) (v:Bool):Nat->Bool:=fun x=>if x=a then v else s x
def wU (wd:Nat->Nat):List Nat->Prop
 | []=>True
 | a::l=>wd a=vw (l.headD 0)/\wU wd l
def Ah:Nat:=216172782113783808
structure AZ (H:HS):Prop where
 Gy:H.A.length=H.b*H.ww
 nle:H.b*H.ww<=1048576
 k4:∀ x∈H.K,x<=4
 small:∀ x∈H.A,x<Ah
 A8:H.fr.length=4
 chain:∀ k,k<4->wU H.jE (H.row k)
 nodup:∀ k,k<4->(H.row k).Nodup
 Gw:∀ k,k<4->∀ a∈H.row k,H.bn a=false/\∃ B,H.mJ a=some (B,k)
 yH:∀ a,H.bn a=true->∃ B k f,H.mJ a=some (B,k)/\mG k f/\H.jE a=rF k f
 slot:∀ a B k,H.mJ a=some (B,k)->H.jE a=0\/(∃ x,x<=1048576/\H.jE a=vw x)\/∃ f,mG k f/\H.jE a=rF k f
 cval:∀ x∈H.cells,x<=H.b*H.ww
 zero:∀ a,1<=a->a<=H.b*H.ww->H.K.getD ((a - 1)/H.ww) 0=0->H.jE a=0
section
variable {H:HS}
def HS.put (H:HS) (a k:Nat):HS:={ H with A:=H.A.set (a - 1) (vw ((H.row k).headD 0)),fr:=H.fr.set k (a::H.row k) }
def HS.take (H:HS) (k:Nat):HS:={ H with fr:=H.fr.set k (H.row k).tail }
def HS.assign (H:HS) (B k:Nat):HS:={ H with K:=H.K.set B (k+1) }
def HS.begin (H:HS) (a k f:Nat):HS:={ H with A:=H.A.set (a - 1) (rF k f) }
def HS.EK (H:HS) (a:Nat) (c:Bool):HS:={ H with bn:=qp H.bn a true,co:=qp H.co a c }
def HS.Ba (H:HS) (a:Nat):HS:={ H with bn:=qp H.bn a false }
def HS.lD (H:HS) (x v:Nat):HS:={ H with A:=H.A.set (x - 1) v }
def HS.iH (H:HS) (a:Nat) (c:Bool):HS:={ H with co:=qp H.co a c }
def HS.setCell (H:HS) (i v:Nat):HS:={ H with cells:=H.cells.set i v }
end
end
section
open Go.RowKit Go.Deep
theorem aj.kR {S:Nat->Prop} {w0 w w':World} {row:Option Nat} (h:aj S w0 w) (g:w.grownBy w' row) (hr:∀ k,row=some k->k<w0.heap.size->S k):aj S w0 w' :=
 h.gW (T:=fun i=>row=some i) ⟨g.os,g.tape,g.output,g.size,fun k hk n=>g.block k hk (fun e=>n e.symm)⟩ (fun i hi e=>hr i e hi)
theorem aC.kR {w w':World} {B:Nat} {cs:List Value} {T:TypeId} {row:Option Nat} (h:aC w B cs T) (g:w.grownBy w' row) (hne:row≠some B):aC w' B cs T:=by
 have hlt:=h.lt
 unfold aC at *
 rw [g.block B hlt (fun e=>hne e.symm)];exact h
theorem iI {w:World} {B:Nat} {cs:List Value} {T e:TypeId} {base n size:Nat} {v:Value} {xs:List Value} (hb:aC w B cs T) (h:w.ownsRow base e size v n xs) (hne:e≠T):v.ownBlock≠some B:=by
 rcases h.2 with ⟨rfl,_⟩|⟨g,cap,cur,rfl,_,hg,_⟩
 ·simp [Value.ownBlock]
 ·intro hx
  simp [Value.ownBlock] at hx
  subst hx
  unfold aC at hb
  rw [hg] at hb
  simp at hb
  exact hne hb.2
theorem iP {w w':World} {S:Nat->Prop} {e:TypeId} {base n size:Nat} {v:Value} {xs:List Value} (h:w.ownsRow base e size v n xs) (k:aj S w w') (hne:∀ B,v.ownBlock=some B->¬ S B):w'.ownsRow base e size v n xs:=by
 refine ⟨h.1,?_⟩
 rcases h.2 with hn|⟨g,cap,cur,rfl,hb,hg,rest⟩
 ·exact .inl hn
 ·refine .inr ⟨g,cap,cur,rfl,hb,?_,rest⟩
  rw [k.block g (Array.getElem?_eq_some_iff.1 hg).1 (hne g rfl)]
  exact hg
theorem iQ {w:World} {base base' n size:Nat} {e:TypeId} {v:Value} {xs:List Value} (h:w.ownsRow base e size v n xs) (hb:base'<=base):w.ownsRow base' e size v n xs:=by
 refine ⟨h.1,?_⟩
 rcases h.2 with hn|⟨g,cap,cur,rfl,hg,rest⟩
 ·exact .inl hn
 ·exact .inr ⟨g,cap,cur,rfl,Ii hb hg,rest⟩
theorem lK {w w':World} {base n size:Nat} {e:TypeId} {v:Value} {xs:List Value} (h:w.ownsRow base e size v n xs) (k:aj ak w w'):w'.ownsRow base e size v n xs:=iP h k (fun _ _ f=>f)
section
variable {P:Program} {w:World}
def bf (z:Value) (n:Nat):List Value:=Ht n z
theorem vF (z:Value) (n:Nat):madeCells #[z] n=(bf z n).toArray:=by
 apply Array.ext
 ·simp [madeCells,bf]
 ·intro i h1 h2
  simp [madeCells,bf,Nat.mod_one]
theorem kE {T e:TypeId} {z:Value} {bytes:Nat} (ht:P.underlying T=some (.slice e)) (hi:(P.info? e).map (fun i=>(i.zero,i.size,i.bytes))=some (some z,1,bytes)) (hz:z.cells=#[z]) (hb:bytes<=1000)
 (n:Nat) (hn:n<=100000000000) (L:Int) (hL:L=n) (w:World) :
 (Instr.makeSlice T (ah L) (ah L)).run P w = .ok (.slice (some ⟨w.heap.size,0,none⟩) n n) (w.alloc (.cells (bf z n).toArray e)):=by
 subst hL
 rw [<- vF]
 exact run_make_row' T e z bytes ht hi hz .i64 .i64 n (Ii (Ij hb hn) (by decide)) (by omega) w
end
end
section
open Go.RowKit
def zH (w:World) (a:Option Addr) (n:Nat) (xs:List Value):Prop :=
 xs.length=n/\(0<n->∃ b off,a=some ⟨b,off,none⟩/\∀ j v,xs[j]?=some v->w.cell? ⟨b,off+j,none⟩=some v)
def app9 (ats:Array TypeId) (ty:TypeId) (args:Array Value):Sem Value:=Builtin.append_ ats ty args
theorem jB (ats:Array TypeId) (ty:TypeId) (args:Array Value):Builtin.append_ ats ty args=app9 ats ty args:=rfl
theorem Tryz.infoInt:(ay.info? 3).map (fun i=>(i.zero,i.size,i.bytes))=some (some (ah 0),1,8):=by kernel_rfl
theorem rG {w:World} {e:TypeId} {v:Value} {n:Nat} {xs:List Value} (h:w.ownsRow 0 e 1 v n xs):∃ a cap,v = .slice a n cap/\xs.length=n/\n<=cap/\(a=none->cap=0) /\
 ∀ j u,xs[j]?=some u->∃ g,a=some ⟨g,0,none⟩/\w.cell? ⟨g,j,none⟩=some u/\w.frozen? ⟨g,j,none⟩=false:=by
 obtain ⟨hl,hf⟩:=h
 have hl':xs.length=n:=by simpa using hl
 rcases hf with ⟨rfl,rfl⟩|⟨g,cap,cur,rfl,_,hg,hn,_,hs,hc⟩
 ·have:xs=[]:=List.eq_nil_of_length_eq_zero hl'
  subst this
  exact ⟨none,0,rfl,rfl,Ho _,fun _=>rfl,fun j u h=>by simp at h⟩
 ·refine ⟨_,cap,rfl,hl',hn,fun h=>(by cases h),fun j u hj=>⟨g,rfl,?_,?_⟩⟩
  ·have hj2:=(Ik.1 hj).1
   rw [<- hc] at hj
   rw [List.getElem?_take_of_lt (by omega)] at hj
   simp [World.cell?,hg]
   simpa using hj
  ·simp [World.frozen?,hg]
theorem wV {w:World} {e:TypeId} {v:Value} {n:Nat} {xs:List Value} (h:w.ownsRow 0 e 1 v n xs) {a:Addr} (ha:∀ k,v.ownBlock=some k->k≠a.block) (u:Value):(w.setCell a u).ownsRow 0 e 1 v n xs :=
 ownsRow_setCell_other h (fun e=>ha _ e rfl) u
theorem qw {P:Program} (w:World) (t ty e:TypeId) (ht:P.underlying t=some (.slice e)) {z:Value} {bytes:Nat} (hi:(P.info? e).map (fun i=>(i.zero,i.size,i.bytes))=some (some z,1,bytes)) (hzs:z.cells.size=1)
 {v:Value} {n:Nat} {xs:List Value} (hown:w.ownsRow 0 e 1 v n xs) {N:Nat} {u:Value} (hN:w.cell? ⟨N,0,none⟩=some u) (hu:u.oneCell'=true) (hb:bytes<=1000) (hn:n<=100000000000) :
 ∃ g cap w',(Builtin.append_ #[t,t] ty #[v,.slice (some ⟨N,0,none⟩) 1 1]).run P w = .ok (.slice (some ⟨g,0,none⟩) (n+1) cap) w'/\w'.ownsRow 0 e 1 (.slice (some ⟨g,0,none⟩) (n+1) cap) (n+1) (xs++[u]) /\
  w.grownBy w' v.ownBlock/\(v.ownBlock=some g\/w.heap.size<=g):=by
 obtain ⟨i,hi1,hi2,hi3,hi4⟩:=info_parts hi
 have hbytes:(n+1)*bytes<=140737488355328:=Ii (Ij (show n+1<=100000000001 by omega) hb) (by decide)
 have hnews:∀ j x,[u][j]?=some x->w.cell? ((⟨N,0,none⟩:Addr).add j)=some x:=by
  intro j x hj
  cases j with
  | zero=>simp at hj;subst hj;simpa [Addr.add] using hN
  | succ j=>simp at hj
 have h1:∀ x∈[u],x.oneCell'=true:=by simpa using hu
 have shape:∀ {v':Value} {W:World} {B:Nat},W.ownsRow B e 1 v' (n+1) (xs++[u])->∃ g cap,v' = .slice (some ⟨g,0,none⟩) (n+1) cap/\B<=g:=by
  intro v' W B h
  rcases h.2 with ⟨_,h0⟩|⟨g,cap,cur,rfl,hB,_⟩
  ·omega
  ·exact ⟨g,cap,rfl,hB⟩
 rcases hown.2 with ⟨rfl,rfl⟩|⟨g,cap,cur,rfl,hbg,hg,hnc,hcm,hcs,htake⟩
 ·have hown':w.ownsRow w.heap.size e 1 (.slice none 0 0) 0 xs:=⟨hown.1,.inl ⟨rfl,rfl⟩⟩
  obtain ⟨v',w',hr,h2,h3,_⟩:=run_append_own (P:=P) w w.heap.size t ty e i z 1 bytes ht hi1 hi2 hi3 hi4 hzs (by decide) _ 0 xs hown' ⟨N,0,none⟩ 1 1 [u] rfl hnews h1 (by unfold maxLen;omega) hbytes (Ho _)
  obtain ⟨g,cap,rfl,hB⟩:=shape h2
  exact ⟨g,cap,w',hr,iQ h2 (Il _),h3,.inr hB⟩
 ·by_cases hroom:n+1<=cap
  ·obtain ⟨w',hr,h2,h3⟩:=run_append_own_spare (P:=P) w 0 t ty e i 1 ht hi1 hi3 g n cap xs hown ⟨N,0,none⟩ 1 1 [u] rfl hnews h1 hroom
   exact ⟨g,cap,w',hr,h2,h3,.inl rfl⟩
  ·have holds:∀ j x,xs[j]?=some x->w.cell? ((⟨g,0,none⟩:Addr).add j)=some x:=hown.cells (g:=g) rfl
   obtain ⟨v',w',hr,h2,h3⟩:=run_append_arg_grows (P:=P) w t ty e i z 1 bytes ht hi1 hi2 hi3 hi4 hzs (by decide) ⟨g,0,none⟩ n cap xs hown.1 holds ⟨N,0,none⟩ 1 1 [u] rfl hnews (by omega) (by unfold maxLen;omega) hbytes
   obtain ⟨g',cap',rfl,hB⟩:=shape h2
   exact ⟨g',cap',w',hr,iQ h2 (Il _),⟨h3.os,h3.tape,h3.output,h3.size,fun k hk _=>h3.block k hk (by simp)⟩,.inr hB⟩
end
section
attribute [local go_sem ↓] jB
attribute [local go_sem] Oper.semAt_some
open Go.RowKit
section
variable {c:aI} {b ww:Nat} (hok:c.ok=true) (hb:c.b=b) (hw:c.w=ww)
include hok hb hw
end
def rH (per z base:Nat):List Nat:=(List.range per).map fun i=>base+i*z+1
theorem qx {w:World} {e:TypeId} {v:Value} {n q:Nat} {xs:List Value} (h:w.ownsRow 0 e 1 v n xs) (hq:v.ownBlock=some q):∃ cur:Array Value,w.heap[q]?=some (.cells cur e (0,0)):=by
 rcases h.2 with ⟨rfl,_⟩|⟨g2,cap2,cur2,rfl,_,hg,_⟩
 ·simp [Value.ownBlock] at hq
 ·simp [Value.ownBlock] at hq
  subst hq
  exact ⟨_,hg⟩
theorem Bc {w:World} {e:TypeId} {base g n cap:Nat} {xs:List Value} (h:w.ownsRow 0 e 1 (.slice (some ⟨g,0,none⟩) n cap) n xs) (hg:base<=g):w.ownsRow base e 1 (.slice (some ⟨g,0,none⟩) n cap) n xs:=by
 refine ⟨h.1,?_⟩
 rcases h.2 with ⟨h,_⟩|⟨g',cap',cur,hv,_,rest⟩
 ·cases h
 ·cases hv
  exact .inr ⟨g,cap,cur,rfl,hg,rest⟩
end
section
def HS.iJ (H:HS) (k:Nat):Nat × Nat × HS:=match H.row k with
 | []=>(0,12,H)
 | a::_=>(a,0,H.take k)
def Bg (f:Int):Nat:=if f<0 then 0 else if f<=1 then 0 else if f<=3 then 1 else if f<=7 then 2 else if f<=15 then 3 else 0
def HS.fA (H:HS) (B:Nat):List Nat:=if H.K.getD B 0=0 then [] else rH (H.ww/2^H.K.getD B 0) (2^H.K.getD B 0) (B*H.ww)
def HS.iE (H:HS) (k:Nat):List Nat × Nat × HS:=match H.K.findIdx? (fun x=>x==0) with
 | none=>([],10,H)
 | some B=>((H.assign B k).fA B,0,H.assign B k)
def HS.nN (H:HS) (a:Nat):HS:=match H.mJ a with
 | none=>H
 | some (_,k)=>if H.bn a||H.AX a then H else H.put a k
def HS.kF (H:HS) (a:Nat) (f:Int):HS:=match H.mJ a with
 | none=>H
 | some (_,k)=>if H.yG a&&decide (0<=f)&&decide (mG k f.toNat) then H.begin a k f.toNat else H
def HS.mM (H:HS) (a c:Nat):HS:=if H.yG a&&decide (c<2)&&(H.zG a).isSome then H.EK a (c==1) else H
def HS.jS (H:HS) (a:Nat):HS:=if H.bn a then (H.Ba a).nN a else H
def HS.kG (H:HS) (a:Nat):Nat × Nat:=if H.vC a=0 then (H.nf a,0) else (0,H.vC a)
def HS.vG (H:HS) (a:Nat) (f:Int):Nat:=if H.vC a=0 then (if f<0\/(H.nf a:Int)<=f then 7 else 0) else H.vC a
def HS.vH (H:HS) (a:Nat) (f:Int):Nat:=if H.vG a f=0 then H.jE (a+1+f.toNat) else 0
def HS.Bh (H:HS) (a:Nat) (f:Int) (v:Nat):Nat:=if H.vG a f=0 then (if v<=H.n then 0 else 4) else H.vG a f
def HS.jF (H:HS) (a:Nat) (f:Int) (v:Nat):HS:=if H.Bh a f v=0 then H.lD (a+1+f.toNat) v else H
def HS.oz (H:HS) (a:Nat):Nat:=if H.co a then 1 else 0
def HS.oG (H:HS) (a c:Nat):Bool:=H.bn a&&decide (c<2)&&(H.co a != (c==1))
def HS.jg (H:HS) (a c:Nat):HS:=if H.oG a c then H.iH a (c==1) else H
def HS.zI (H:HS) (i:Int):Nat:=if i<0\/(H.cells.length:Int)<=i then 9 else 0
def HS.vI (H:HS) (i:Int):Nat:=if H.zI i=0 then H.cells.getD i.toNat 0 else 0
def HS.EL (H:HS) (i:Int) (v:Nat):Nat:=if H.zI i=0 then (if v<=H.n then 0 else 4) else 9
def HS.qc (H:HS) (i:Int) (v:Nat):HS:=if H.EL i v=0 then H.setCell i.toNat v else H
end
section
open Go.RowKit
structure Bd where
 aJ:Int
 bM:Int
 count:Int
 os:List Bool
def Bd.cells (b:Bd):List Value := ah b.aJ :: ah b.bM :: ah b.count::b.os.map Value.bool
structure dZ (w:World) (B:Nat) (b:Bd):Prop where
 aO:aC w B b.cells 205
 len:b.os.length=8
 lo:1<=b.aJ
 hi:b.aJ<=8
theorem dZ.aB {S w w' B b} (h:dZ w B b) (k:aj S w w') (hs:¬ S B):dZ w' B b:=⟨k.aO h.aO hs,h.len,h.lo,h.hi⟩
def Bd.is (b:Bd) (m:Int):Bool:=decide (0<=m)&&decide (m<b.aJ)
def Bd.wW (b:Bd) (m:Int):Bool:=b.os.getD m.toNat false
def Bd.yI (b:Bd) (m:Int):Bool:=b.is m&&b.wW m
def fG:List Bool->Int->Int
 | [],_ => -1
 | x::l,i=>if x then i else fG l (i+1)
def iT (l:List Bool):Bool:=l.any id
theorem oH (l:List Bool) (i:Int) (hi:0<=i):decide (0<=fG l i)=iT l:=by
 induction l generalizing i with
 | nil=>simp [fG,iT]
 | cons x l ih =>
   cases x
   ·simpa [fG,iT] using ih (i+1) (by omega)
   ·simp [fG,iT,hi]
theorem mY (x:Bool) (w:World) :
 Calls ay 349 #[.bool x] w fun e w'=>e = .returned (.bool x)/\w=w':=by
 go_enter func349,ntmps349
 go_wp2
 go_ret
 exact ⟨rfl,rfl⟩
theorem ug (B off:Nat) (l:List Bool) (w:World) (hc:∀ i,(h:i<l.length)->w.cell? ⟨B,off+i,none⟩=some (.bool l[i])) (hl:l.length<=1000) :
 Calls ay 353 #[.slice (some ⟨B,off,none⟩) l.length l.length,.func (.func 349) #[] #[]] w fun e w'=>e = .returned (ah (fG l 0))/\w=w':=by
 go_enter func353,ntmps353
 go_wp2
 go_outline
 go_loop [8] (fun i=>∃ k:Nat,k<=l.length/\i = ah k/\fG l 0=fG (l.drop k) k) (fun i=>l.length - (intOf i).toNat)
 case atStart=>exact ⟨0,Il _,rfl,rfl⟩
 case round =>
  obtain ⟨k,hk,rfl,hr⟩:=hrel
  have HR:=aA hr;clear hr
  by_cases hlt:k<l.length
  ·have hk1:=hc k hlt
   have e1:l.drop k=l[k]::l.drop (k+1):=by simp
   cases hx:l[k] with
   | true =>
     rw [hx] at hk1
     rw [hx] at e1
     have HE:=aA e1;clear e1 hx hc
     go_wp2_with (go_at_call 349;refine (mY _ _).mono ?_;rintro e w' ⟨rfl,rfl⟩)
     go_ret
     refine ⟨?_,rfl⟩
     rw [HR.out,HE.out];rfl
   | false =>
     rw [hx] at hk1
     rw [hx] at e1
     have HE:=aA e1;clear e1 hx hc
     go_wp2_with (go_at_call 349;refine (mY _ _).mono ?_;rintro e w' ⟨rfl,rfl⟩)
     go_round
     case rel=>exact ⟨k+1,by omega,by go_num,by rw [HR.out,HE.out];rfl⟩
     case measure=>simp [intOf];omega
  ·have:l.drop k=[]:=List.drop_of_length_le (by omega)
   have HE:=aA this;clear this hc
   go_wp2
   go_ret
   refine ⟨?_,rfl⟩
   rw [HR.out,HE.out];rfl
theorem dZ.wX {w B b} (hb:dZ w B b) (i:Nat) (h:i<b.os.length):w.cell? ⟨B,3+i,none⟩=some (.bool b.os[i]):=by
 refine hb.aO.cell _ ?_
 rw [Nat.add_comm]
 simp [Bd.cells,h]
theorem rJ (B off:Nat) (l:List Bool) (w:World) (hc:∀ i,(h:i<l.length)->w.cell? ⟨B,off+i,none⟩=some (.bool l[i])) (hl:l.length<=1000) :
 Calls ay 348 #[.slice (some ⟨B,off,none⟩) l.length l.length,.func (.func 349) #[] #[]] w fun e w'=>e = .returned (.bool (iT l))/\w=w':=by
 have hge:=oH l 0 (by omega)
 have HC:=aA hc;have HG:=aA hge;clear hc hge
 go_enter func348,ntmps348
 go_wp2_with (go_at_call 353;refine (ug _ _ _ _ HC.out hl).mono ?_;rintro e w' ⟨rfl,rfl⟩)
 go_ret
 exact ⟨by rw [<- HG.out];rfl,rfl⟩
def Bd.all (b:Bd):Bool := !iT b.os
theorem oI (B:Nat) (b:Bd) (w:World) (hb:dZ w B b) :
 Calls ay 344 #[au B] w fun e w'=>e = .returned (.bool b.all)/\w=w':=by
 have hc:=hb.wX
 have hl:=hb.len
 have HC:=aA hc;have HL:=aA hl;clear hc hl hb
 have key:∀ w0,w0=w->Calls ay 348 #[.slice (some ⟨B,3,none⟩) 8 8,.func (.func 349) #[] #[]] w0 fun e w'=>e = .returned (.bool (iT b.os))/\w0=w':=by
  intro w0 h0
  subst h0
  have:=rJ B 3 b.os w0 HC.out (by rw [HL.out];omega)
  rw [HL.out] at this;exact this
 have KEY:=aA key;clear key
 go_enter func344,ntmps344
 go_wp2_with (go_at_call 348;refine (KEY.out _ rfl).mono ?_;rintro e w' ⟨rfl,rfl⟩)
 go_ret
 exact ⟨rfl,rfl⟩
def Bd.close (b:Bd) (m:Int):Bd:={ b with os:=b.os.set m.toNat false }
def Bd.rM (b:Bd) (m:Int):Bd:=if b.yI m then b.close m else b
def Bd.aS (m:Int):Bd:=⟨m,0,0,Ht 8 false⟩
theorem vJ (m:Int) (w:World) (h:1<=m) (h8:m<=8) :
 Calls ay 74 #[ah m] w fun e w'=>e = .returned (.tuple #[au w.heap.size,ah 0])/\dZ w' w.heap.size (Bd.aS m)/\aj ak w w':=by
 have HN:∀ w:World,Hid (dZ (w.alloc (.cells (Bd.aS m).cells.toArray 205)) w.heap.size (Bd.aS m)):=fun w=>⟨aC.aS w (Bd.aS m).cells 205,rfl,h,h8⟩
 go_enter func74,ntmps74
 go_wp2
 go_ret2
 exact ⟨rfl,(HN w).out,(aj.refl _ _).alloc _⟩
def kH:Nat->List Bool->List Bool
 | 0,l=>l
 | k+1,l=>(kH k l).set k true
def Bd.jd (b:Bd) (bM:Int) (k:Nat):Bd:=⟨b.aJ,bM,b.count+1,kH k b.os⟩
def Bd.rO (b:Bd):Int:=if b.all then 0 else 11
def Bd.iU (b:Bd) (bM:Int):Bd:=if b.all then b.jd bM b.aJ.toNat else b
theorem dZ.asked0 {w B b} (hb:dZ w B b) (bM:Int):dZ ((w.setCell ⟨B,1,none⟩ (ah bM)).setCell ⟨B,2,none⟩ (ah (b.count+1))) B (b.jd bM 0) :=
 ⟨by simpa [Bd.cells,Bd.jd,kH] using (hb.aO.set 1 (ah bM)).set 2 (ah (b.count+1)),hb.len,hb.lo,hb.hi⟩
theorem dZ.Bj {w B b bM k} (hb:dZ w B (Bd.jd b bM k)):dZ (w.setCell ⟨B,3+k,none⟩ (.bool true)) B (b.jd bM (k+1)):=by
 refine ⟨?_,by have:=hb.len;simp [Bd.jd,kH] at *;exact this,hb.lo,hb.hi⟩
 have:=hb.aO.set (3+k) (.bool true)
 rw [Nat.add_comm] at this ⊢
 simpa [Bd.cells,Bd.jd,kH,List.map_set] using this
theorem vK (B:Nat) (b:Bd) (bM:Int) (w:World) (hb:dZ w B b) (hk0:0<=b.count) (hk1:b.count<=1000000000) :
 Calls ay 341 #[au B,ah bM] w fun e w'=>e = .returned (ah b.rO)/\dZ w' B (b.iU bM)/\aj (only B) w w':=by
 cases h:b.all with
 | false =>
   have HE:Hid (b.rO=11/\b.iU bM=b):=by simp [Hid,Bd.rO,Bd.iU,h]
   have key:Calls ay 344 #[au B] w fun e w'=>e = .returned (.bool false)/\w=w':=by
    rw [<- h];exact oI B b w hb
   have KEY:=aA key;clear key
   go_enter func341,ntmps341
   go_wp2_with (go_at_call 344;refine KEY.out.mono ?_;rintro e w' ⟨rfl,rfl⟩)
   go_ret
   rw [HE.out.1,HE.out.2]
   exact ⟨rfl,hb,aj.refl _ _⟩
 | true =>
   have HE:Hid (b.rO=0/\b.iU bM=b.jd bM b.aJ.toNat):=by simp [Hid,Bd.rO,Bd.iU,h]
   have key:Calls ay 344 #[au B] w fun e w'=>e = .returned (.bool true)/\w=w':=by
    rw [<- h];exact oI B b w hb
   have KEY:=aA key;clear key
   have hc0:=hb.aO.cell 0 (v := ah b.aJ) rfl
   have hc1:=hb.aO.cell 1 (v := ah b.bM) rfl
   have hc2:=hb.aO.cell 2 (v := ah b.count) rfl
   have hf1:=hb.aO.free 1
   have hf2:=hb.aO.free 2
   have hmu:=hb.hi
   have hml:=hb.lo
   have H0:=aA (hb.asked0 bM)
   go_enter func341,ntmps341
   go_wp2_with (go_at_call 344;refine KEY.out.mono ?_;rintro e w' ⟨rfl,rfl⟩)
   go_loopw [24] (fun i wr=>∃ k:Nat,k<=b.aJ.toNat/\i = ah k/\dZ wr B (b.jd bM k)/\aj (only B) w wr) (fun i _=>b.aJ.toNat - (intOf i).toNat)
   case atStart=>exact ⟨0,Il _,rfl,H0.out,((aj.refl (only B) _).put _ _).put _ _⟩
   case round =>
    obtain ⟨k,hk,rfl,hbk,hkeep⟩:=hrel
    by_cases hlt:(k:Int)<b.aJ
    ·have hfz:=hbk.aO.free (3+k)
     have hcl:wr.cell? ⟨B,3+k,none⟩=some (.bool (b.jd bM k).os[k]!):=by
      have hl:=hbk.len
      rw [hbk.wX k (by omega)]
      rw [getElem!_pos _ _ (by omega)]
     have HB:=aA hbk.Bj
     go_wp2
     go_roundw
     case rel=>exact ⟨k+1,by omega,by go_num,HB.out,hkeep.put _ _⟩
     case measure=>simp [intOf];omega
    ·have e1:k=b.aJ.toNat:=by omega
     have HK:=aA e1;clear e1
     go_wp2
     go_ret
     rw [HE.out.1,HE.out.2,<- HK.out]
     exact ⟨rfl,hbk,hkeep⟩
def Ow:Type:=Nat->Nat
def In (o:Ow) (I:List Nat):Nat->Prop:=fun b=>o b∈I
def fV (o:Ow) (w:World):Prop:=∀ b,w.heap.size<=b->o b=0
def aG (w:World) (o o':Ow):Prop:=∀ b,b<w.heap.size->o' b=o b
theorem aG.refl (w:World) (o:Ow):aG w o o:=fun _ _=>rfl
theorem aG.trans {w w':World} {o o' o'':Ow} (h:aG w o o') (hs:w.heap.size<=w'.heap.size) (h':aG w' o' o''):aG w o o'':=fun b hb=>(h' b (Nat.lt_of_lt_of_le hb hs)).trans (h b hb)
theorem fV.later {o:Ow} {w w':World} (h:fV o w) (hs:w.heap.size<=w'.heap.size):fV o w':=fun b hb=>h b (Ii hs hb)
theorem fV.aB {S:Nat->Prop} {o:Ow} {w w':World} (h:fV o w) (k:aj S w w'):fV o w':=h.later k.size
theorem Bl {o:Ow} {I:List Nat} {b i:Nat} (h:o b=i) (hi:i∉I):¬ In o I b:=fun e=>by unfold In at e;rw [h] at e;exact hi e
theorem bP {o:Ow} {I:List Nat} {b i:Nat} (h:o b=i) (hi:I.contains i=false):¬ In o I b:=Bl h (by simpa using hi)
theorem aj.bZ {o:Ow} {I:List Nat} {w w':World} (k:aj ak w w'):aj (In o I) w w':=k.mono (fun _ _ f=>f.elim)
theorem aj.jA {o:Ow} {I:List Nat} {w w':World} {B i:Nat} (k:aj (only B) w w') (h:o B=i) (hi:I.contains i=true):aj (In o I) w w':=k.mono (fun b _ e=>by unfold only at e;subst e;unfold In;rw [h];simpa using hi)
theorem aj.qQ {o:Ow} {I J:List Nat} {w w':World} (k:aj (In o I) w w') (h:I.all (fun i=>J.contains i)=true):aj (In o J) w w':=k.mono (fun b _ e=>by
 unfold In at *
 have:=List.all_eq_true.1 h _ e
 simpa using this)
theorem aj.nO {o o':Ow} {I:List Nat} {w w':World} (k:aj (In o I) w w') (h:aG w o o'):aj (In o' I) w w':=k.mono (fun b hb e=>by unfold In at *;rw [h b hb];exact e)
theorem aj.wY {o o':Ow} {I:List Nat} {a b c:World} (h:aj (In o I) a b) (k:aj (In o' I) b c) (e:aG a o o'):aj (In o I) a c:=h.gW k (fun i hi hin=>by unfold In at *;rw [<- e i hi];exact hin)
def Ow.put (o:Ow) (g i:Nat):Ow:=fun b=>if b=g then i else o b
theorem Ow.gI {o:Ow} {w:World} {g i:Nat} (h:w.heap.size<=g\/o g=i):aG w o (o.put g i):=fun b hb=>by
 unfold Ow.put
 split
 ·rename_i e;subst e
  rcases h with h|h
  ·omega
  ·exact h.symm
 ·rfl
theorem Ow.iV {o:Ow} {w w':World} {g i:Nat} (h:fV o w) (hs:w.heap.size<=w'.heap.size) (hg:g<w'.heap.size):fV (o.put g i) w':=fun b hb=>by
 unfold Ow.put
 rw [bT (by omega)]
 exact h b (by omega)
theorem Ow.iy (o:Ow) (g i:Nat):(o.put g i) g=i:=by unfold Ow.put;rw [jh rfl]
def dK (o:Ow) (w:World) (T:TypeId) (v:Value) (xs:List Value):Prop :=
 ∃ a c,v = .slice a xs.length c/\xs.length<=c/\xs.length<=4000000000000/\(0<xs.length->∃ b off cs,a=some ⟨b,off,none⟩/\o b=0/\aC w b cs T/\∀ j,j<xs.length->cs[off+j]?=xs[j]?)
section
variable {o o':Ow} {w w':World} {T:TypeId} {v:Value} {xs:List Value}
theorem dK.nil (o:Ow) (w:World) (T:TypeId):dK o w T (.slice none 0 0) []:=⟨none,0,rfl,Ho _,by simp,fun h=>absurd h (Nat.lt_irrefl 0)⟩
theorem dK.aB {S:Nat->Prop} (h:dK o w T v xs) (k:aj S w w') (hs:∀ b,o b=0->¬ S b):dK o w' T v xs:=by
 obtain ⟨a,c,rfl,hl,hm,hc⟩:=h
 refine ⟨a,c,rfl,hl,hm,fun h0=>?_⟩
 obtain ⟨b,off,cs,e,h0,hb,hj⟩:=hc h0
 exact ⟨b,off,cs,e,h0,k.aO hb (hs b h0),hj⟩
theorem dK.aK {I:List Nat} (h:dK o w T v xs) (k:aj (In o I) w w') (hI:I.contains 0=false):dK o w' T v xs:=h.aB k (fun _ hb=>bP hb hI)
theorem dK.ext (h:dK o w T v xs) (e:aG w o o'):dK o' w T v xs:=by
 obtain ⟨a,c,rfl,hl,hm,hc⟩:=h
 refine ⟨a,c,rfl,hl,hm,fun h0=>?_⟩
 obtain ⟨b,off,cs,e1,h0,hb,hj⟩:=hc h0
 exact ⟨b,off,cs,e1,(e b hb.lt).trans h0,hb,hj⟩
theorem dK.form (h:dK o w T v xs):∃ a c,v = .slice a xs.length c/\xs.length<=c/\xs.length<=4000000000000/\∀ j u,xs[j]?=some u->∃ b off,a=some ⟨b,off,none⟩/\w.cell? ⟨b,off+j,none⟩=some u:=by
 obtain ⟨a,c,rfl,hl,hm,hc⟩:=h
 refine ⟨a,c,rfl,hl,hm,fun j u hj=>?_⟩
 have hlt:=(Ik.1 hj).1
 obtain ⟨b,off,cs,e1,_,hb,hj2⟩:=hc (by omega)
 exact ⟨b,off,e1,hb.cell _ ((hj2 j hlt).trans hj)⟩
end
theorem aC.aK {o:Ow} {I:List Nat} {w w':World} {B i:Nat} {cs:List Value} {T:TypeId} (h:aC w B cs T) (k:aj (In o I) w w') (hB:o B=i) (hI:I.contains i=false):aC w' B cs T:=k.aO h (bP hB hI)
structure Qu where
 rows:List (List Int)
 bg:Nat
structure jG (o:Ow) (w:World) (B:Nat) (q:Qu):Prop where
 own:o B≠0
 len:q.rows.length=4
 aO:∃ vs:List Value,vs.length=4/\aC w B (vs++[ah q.bg]) 208/\∀ (i:Nat) (v:Value) (zs:List Int),vs[i]?=some v->q.rows[i]?=some zs->dK o w 3 v (zs.map (Value.int .i64))
def wZ (k:Int):Bool:=decide (0<=k)&&decide (k<4)
def Qu.row (q:Qu) (k:Int):List Int:=q.rows.getD k.toNat []
def Qu.Bo (q:Qu) (n:Nat):Qu:={ q with bg:=n }
def Qu.mO (q:Qu):Qu:=q.Bo (q.bg - 1)
def Qu.put (q:Qu) (k b:Int):Qu:={ q with rows:=q.rows.set k.toNat (q.row k++[b]) }
def Qu.take (q:Qu) (k:Int):Qu:={ rows:=q.rows.set k.toNat ((q.row k).drop 1),bg:=q.bg+1 }
def Qu.sum (q:Qu):Nat->Nat
 | 0=>q.bg
 | k+1=>q.sum k+(q.rows.getD k []).length
def Qu.mP (q:Qu):Bool:=q.sum 4==0
def Qu.rw (q:Qu) (k:Nat):List Int:=q.rows.getD k []
end
section
open Go.RowKit Go.Sort
structure bI where
 k:Int
 a:Int
 b:Int
 c:Int
deriving DecidableEq
def bI.cells (o:bI):List Value:=[ah o.k,ah o.a,ah o.b,ah o.c]
def oJ (k:Int):Bool:=decide (1<=k)&&decide (k<9)
def ku (k:Int):List UInt8:=if oJ k then Du.getD (2*k.toNat+1) [] else []
def ji (cur n below e:Int):Int:=if cur=0/\(n<0\/below<=n) then e else cur
def eG (c:aI) (cur:Int) (l:UInt8) (n:Int):Int:=if l=114 then ji cur n c.r 5 else if l=99 then ji cur n c.c 9 else if l=115 then ji cur n 16 8 else cur
def jT (o:bI) (j:Nat):Int:=if j=0 then o.a else if j=1 then o.b else o.c
def kD (c:aI) (o:bI):Nat->Int
 | 0=>0
 | j+1=>eG c (kD c o j) ((ku o.k).getD j 0) (jT o j)
def uI (c:aI) (o:bI):Int:=if c.ok&&oJ o.k then kD c o (ku o.k).length else 1
end
section
structure Ev where
 iK:Nat
 bM:Nat
 op:Nat
 gy:Int
 value:Nat
deriving DecidableEq
structure Sh where
 H:HS
 B:Bd
 Q:Qu
 jH:Bool
 aP:List (List Nat)
inductive RD where
 | bU (base:Nat) (f:Int) (v:Nat)
 | cell (i:Int) (v:Nat)
inductive MD where
 | nil
 | jU (o:bI)
 | once (k:Int)
 | lM (v c:Nat) (t:MD)
 | add (v:Nat) (t:MD)
 | lN (c:Nat) (t:MD)
 | iH (c:Nat) (ig:Bool) (t:MD)
 | jV (t:MD)
 | bU (base:Nat) (f:Int) (t:MD)
 | load (o:bI) (base:Nat)
 | get (o:bI)
 | lD (v:Nat) (rd:RD)
 | last (rd:RD)
 | alloc (o:bI) (k:Nat)
 | assign (o:bI) (k:Nat)
 | jW (o:bI) (all:List Nat)
 | jX (o:bI) (k:Nat)
 | iq (o:bI) (k:Nat)
 | dR (sl:List Nat) (c:Nat) (t:MD)
 | fill (o:bI) (a:Nat)
 | zero (o:bI) (a i:Nat)
structure MS where
 id:Nat
 c:aI
 dL:List Nat
 gB:List Nat
 qg:Nat
 aH:Nat
 dw:Nat
 prog:List bI
 dQ:List (Int × Nat)
 next:MD
 held:Nat
 dN:Nat
 most0:Nat
 most1:Nat
 Bq:Bool
structure mQ where
 s:Sh
 m:MS
 next:MD
 ev:Option Ev
def Sh.box (s:Sh) (i:Nat):List Nat:=s.aP.getD i []
def oL (v c:Nat) (t:MD):MD:=if v=0 then t else .lM v c t
def MS.qR (m:MS) (c:Nat) (t:MD):MD:=if m.gB=[] then t else .lN c t
def MS.vM (m:MS) (v:Nat) (rd:RD):MD:=if m.qg=0 then .last rd else .lD v rd
def MS.did (m:MS) (gy:Int) (v:Nat):MS:={ m with held:=0,dQ:=m.dQ++[(gy,v)] }
def MS.ev (m:MS) (gy:Int) (v:Nat):Ev:=⟨m.id,1,m.dQ.length,gy,v⟩
def iC (s:Sh) (m:MS) (gy:Int) (v:Nat):mQ:=⟨s,m.did gy v,.nil,some (m.ev gy v)⟩
def jI (s:Sh) (m:MS) (r:Int) (v:Nat):mQ:=iC s { m with dL:=m.dL.set r.toNat v } 0 v
def lQ (s:Sh) (m:MS) (base:Nat) (f:Int) (t:MD):mQ:=if base=0 then iC s m 6 0 else ⟨s,m,.bU base f t,none⟩
def MS.oN (m:MS) (r:Int):Nat:=m.dL.getD r.toNat 0
def oO (o:bI) (all:List Nat):MD:=if all.length=1 then .fill o (all.getD 0 0) else .jW o all
def kJ (s:Sh) (m:MS) (o:bI):mQ :=
 if uI m.c o≠0 then iC s m (uI m.c o) 0
 else if o.k=1 then ⟨s,m,.alloc o (Bg o.b),none⟩
 else if o.k=2 then lQ s m (m.oN o.b) o.c (.load o (m.oN o.b))
 else if o.k=3 then lQ s m (m.oN o.a) o.b (m.vM (m.oN o.c) (.bU (m.oN o.a) o.b (m.oN o.c)))
 else if o.k=4 then ⟨s,m,.get o,none⟩
 else if o.k=5 then ⟨s,m,m.vM (m.oN o.b) (.cell o.a (m.oN o.b)),none⟩
 else if o.k=6 then iC s { m with dL:=m.dL.set o.a.toNat 0 } 0 0
 else if o.k=7 then jI s m o.a (m.oN o.b)
 else iC s m 0 0
def zJ (m:MS) (k:Int):MS :=
 if k=1 then { m with gB:=[],qg:=2,dw:=1 - m.aH }
 else if k=2 then m
 else if k=3 then { m with aH:=m.dw }
 else if k=5 then { m with qg:=1 }
 else { m with gB:=[],qg:=0 }
def RD.read (H:HS):RD->Nat
 | .bU base f _=>H.vH base f
 | .cell i _=>H.vI i
def RD.qU (H:HS):RD->HS
 | .bU base f v=>H.jF base f v
 | .cell i v=>H.qc i v
def mV (l:List Nat):Nat:=l.headD 0
def stepM (s:Sh) (m:MS):MD->mQ
 | .nil=>⟨s,m,.nil,none⟩
 | .jU o=>kJ s m o
 | .once k=>⟨{ s with B:=s.B.rM m.id },zJ m k,.nil,none⟩
 | .lM v c t =>
   if !s.H.bn v||s.H.oz v==c then ⟨s,m,t,none⟩
   else if m.gB.length=m.c.l.toNat then ⟨s,m,m.qR c (.add v t),none⟩
   else ⟨s,{ m with gB:=m.gB++[v] },t,none⟩
 | .add v t=>if m.gB.length=m.c.l.toNat then ⟨s,m,t,none⟩ else ⟨s,{ m with gB:=m.gB++[v] },t,none⟩
 | .lN c t=>if s.box m.id=[] then ⟨{ s with aP:=s.aP.set m.id m.gB },{ m with gB:=[] },t,none⟩ else ⟨s,m,.iH c false t,none⟩
 | .iH c ig t =>
   ⟨{ s with H:=s.H.jg (mV m.gB) c },{ m with gB:=m.gB.tail },
    if m.gB.tail≠[] then .iH c (ig||s.H.oG (mV m.gB) c) t else if (ig||s.H.oG (mV m.gB) c)=true then .jV t else t,none⟩
 | .jV t=>⟨{ s with jH:=true },m,t,none⟩
 | .bU base f t=>if f<0\/((s.H.kG base).1:Int)<=f then iC s m 7 0 else ⟨s,m,t,none⟩
 | .load o base=>jI s m o.a (s.H.vH base o.c)
 | .get o=>jI s m o.a (s.H.vI o.b)
 | .lD v rd=>⟨s,{ m with held:=rd.read s.H },oL (rd.read s.H) m.dw (if m.qg=2 then oL v m.dw (.last rd) else .last rd),none⟩
 | .last rd=>iC { s with H:=rd.qU s.H } m 0 0
 | .alloc o k=>if (s.H.iJ k).2.1=0 then ⟨{ s with H:=(s.H.iJ k).2.2 },m,.fill o (s.H.iJ k).1,none⟩ else ⟨s,m,.assign o k,none⟩
 | .assign o k=>if (s.H.iE k).2.1=0 then ⟨{ s with H:=(s.H.iE k).2.2 },m,oO o (s.H.iE k).1,none⟩ else ⟨s,m,.jX o k,none⟩
 | .jW o all=>⟨{ s with H:=s.H.nN (all.getD (all.length - 1) 0) },m,oO o (all.take (all.length - 1)),none⟩
 | .jX o k =>
   match s.Q.rw k with
   | []=>⟨s,m,.iq o k,none⟩
   | x::_=>⟨{ s with Q:=s.Q.take k },m,.dR (s.H.fA x.toNat) m.aH (.iq o k),none⟩
 | .iq o k=>if (s.H.iJ k).2.1=0 then ⟨{ s with H:=(s.H.iJ k).2.2 },m,.fill o (s.H.iJ k).1,none⟩ else iC s m 10 0
 | .dR sl c t =>
   match sl with
   | []=>⟨{ s with Q:=if s.Q.bg=0 then s.Q else s.Q.mO },m,t,none⟩
   | a::r=>if !s.H.bn a||s.H.oz a==c then ⟨s,m,.dR r c t,none⟩ else ⟨{ s with H:=s.H.jS a },m,.dR r c t,some ⟨m.id,5,0,0,a⟩⟩
 | .fill o a=>⟨{ s with H:=s.H.kF a o.b },m,.zero o a 0,none⟩
 | .zero o a i=>if (i:Int)=o.b then jI { s with H:=s.H.mM a m.aH } m o.a a else ⟨{ s with H:=s.H.jF a i 0 },m,.zero o a (i+1),none⟩
def vN (dw:Nat):List Nat->MD
 | [] => .once 3
 | v::l=>oL v dw (vN dw l)
def rP (s:Sh) (m:MS):MD :=
 if s.B.yI m.id then
  if s.B.bM=3 then vN m.dw m.dL
  else if s.B.bM=5 then m.qR m.dw (.once 5)
  else .once s.B.bM
 else match m.prog[m.dQ.length]? with
  | some o => .jU o
  | none => .nil
def MS.most (m:MS):MS:=if m.Bq then { m with most1:=max m.most1 m.dN } else { m with most0:=max m.most0 m.dN }
def zK:MD->Bool
 | .nil=>true
 | _=>false
def iw (s:Sh) (m:MS):Sh × MS × Option Ev :=
 if zK m.next then (s,{ m with dN:=1,Bq:=s.B.yI m.id,next:=rP s m },none)
 else
  let r:=stepM s { m with dN:=m.dN+1 } m.next
  (r.s,if zK r.next then { r.m with next := .nil }.most else { r.m with next:=r.next },r.ev)
inductive CD where
 | nil
 | iW (m:Nat) (t:CD)
 | lS
 | rQ
 | trace
 | work
 | over
 | mW
 | oP
 | dR
 | mP
 | off
 | vO
 | kS (v:Nat) (t:CD)
 | cell (i:Nat)
 | gX (a:Nat) (t:CD)
 | bU (a i n:Nat) (t:CD)
 | box (m:Nat)
 | fP (b:Nat)
 | fA (l:List Nat) (t:CD)
 | je (t:CD)
 | gJ (b:Nat)
 | block (l:List Nat)
structure CS where
 aJ:Nat
 bG:Nat
 cells:Nat
 dA:Nat
 phase:Nat
 aH:Nat
 aW:Nat
 eF:Bool
 ig:Bool
 bY:List Nat
 over:Bool
 next:CD
 jJ:Nat
 kT:Nat
structure fB where
 s:Sh
 c:CS
 next:CD
 ev:Option Ev
def Sh.oU (s:Sh) (k:Nat):Sh:={ s with B:=s.B.iU (k:Int) }
def jr (s:Sh) (c:CS) (p:Nat) (t:CD) (ev:Option Ev):fB:=⟨s.oU p,{ c with phase:=p },.iW 0 t,ev⟩
def oV (v:Nat) (t:CD):CD:=if v=0 then t else .kS v t
def CS.qV (c:CS) (i:Nat):CD:=if i=c.cells then .work else .cell i
def oW (a i n:Nat) (t:CD):CD:=if i=n then t else .bU a i n t
def CS.qW (c:CS) (b:Nat):CD:=if b=c.bG then .work else .fP b
def lT (l:List Nat) (t:CD):CD:=if l=[] then t else .fA l t
def CS.vP (c:CS) (b:Nat):CD:=if b=c.bG then .dR else .gJ b
def CS.push (c:CS) (a:Nat):CS:=if c.bY.length=c.dA then { c with over:=true } else { c with bY:=c.bY++[a] }
def CS.DF (c:CS):CS:={ c with bY:=c.bY.dropLast }
def CS.ev (c:CS) (bM value:Nat):Ev:=⟨c.aJ,bM,0,0,value⟩
def Bd.did (b:Bd) (m:Nat):Bool:=b.is m && !b.wW m
def Qu.any (q:Qu):Option (Nat × Nat):=(List.range 4).findSome? fun k=>match q.rw k with
 | []=>none
 | x::_=>some (k,x.toNat)
def dM (s:Sh) (c:CS):CD->fB
 | .nil=>⟨s,c,.nil,none⟩
 | .iW m t=>⟨s,c,if !s.B.did m then .iW m t else if m+1<c.aJ then .iW (m+1) t else t,none⟩
 | .lS=>jr s c 2 .rQ none
 | .rQ=>jr s c 3 .trace none
 | .trace=>⟨s,{ c with phase:=4 },c.qV 0,none⟩
 | .cell i=>⟨s,c,oV (s.H.vI i) (c.qV (i+1)),none⟩
 | .kS v t=>if s.H.oG v c.aH then ⟨{ s with H:=s.H.jg v c.aH },{ c with ig:=true }.push v,t,none⟩ else ⟨s,c,t,none⟩
 | .work=>match c.bY.getLast? with
   | some a=>⟨s,c.DF,.gX a .work,none⟩
   | none=>⟨s,c,.box 0,none⟩
 | .gX a t=>⟨s,c,oW a 0 (s.H.kG a).1 t,none⟩
 | .bU a i n t=>⟨s,c,oV (s.H.vH a i) (oW a (i+1) n t),none⟩
 | .box m=>match s.box m with
   | a::l=>⟨{ s with aP:=s.aP.set m l },c,oV a (.box m),none⟩
   | []=>⟨s,c,if m+1<c.aJ then .box (m+1) else if c.bY=[] then .over else .work,none⟩
 | .over =>
   if !s.jH && !c.over then
    (if c.phase=4 then ⟨s,c,.mW,none⟩ else if c.ig then ⟨s,{ c with phase:=4 },.mW,none⟩ else ⟨s,c,.oP,none⟩)
   else ⟨{ s with jH:=false },{ c with over:=false,ig:=true,kT:=c.kT+1 },c.qW 0,none⟩
 | .mW=>jr s { c with ig:=false,jJ:=c.jJ+1 } 5 .work none
 | .oP=>⟨s,{ c with phase:=6 },c.vP 0,some (c.ev 3 c.aW)⟩
 | .gJ b=>⟨if s.H.K.getD b 0=0 then s else { s with Q:=s.Q.put ((s.H.K.getD b 0:Int) - 1) b },c,c.vP (b+1),none⟩
 | .dR=>match s.Q.any with
   | none=>⟨s,c,.mP,none⟩
   | some (k,b)=>⟨{ s with Q:=s.Q.take k },c,.block (s.H.fA b),none⟩
 | .block sl=>match sl with
   | []=>⟨{ s with Q:=s.Q.mO },c,.dR,none⟩
   | a::r=>if !s.H.bn a||s.H.oz a==c.aH then ⟨s,c,.block r,none⟩ else ⟨{ s with H:=s.H.jS a },c,.block r,some (c.ev 5 a)⟩
 | .mP=>⟨s,c,if s.Q.mP then .off else .dR,none⟩
 | .off=>jr s c 7 .vO none
 | .vO=>⟨s,{ c with phase:=0 },.nil,some (c.ev 4 c.aW)⟩
 | .fP b=>⟨s,c,lT (s.H.fA b) (c.qW (b+1)),none⟩
 | .fA l t=>⟨s,c,if !s.H.bn (mV l)||s.H.oz (mV l) != c.aH then lT l.tail t else .gX (mV l) (.je (lT l.tail t)),none⟩
 | .je t=>match c.bY.getLast? with
   | some a=>⟨s,c.DF,.gX a (.je t),none⟩
   | none=>⟨s,c,t,none⟩
def jk:CD->Bool
 | .nil=>true
 | _=>false
def fD (s:Sh) (c:CS):fB:=jr s { c with eF:=false,aW:=c.aW+1,aH:=1 - c.aH } 1 .lS (some (c.ev 2 (c.aW+1)))
def bJ (s:Sh) (c:CS):fB :=
 let r:=if !jk c.next then dM s c c.next else if c.eF then fD s c else ⟨s,c,.nil,none⟩
 ⟨r.s,{ r.c with next:=r.next },r.next,r.ev⟩
structure WS where
 s:Sh
 aJ:List MS
 aT:CS
 aU:List (Nat × Ev)
 aN:Nat
def WS.dn (x:WS) (ev:Option Ev):WS:=match ev with
 | none=>{ x with aN:=x.aN+1 }
 | some e=>{ x with aU:=x.aU++[(x.aN,e)],aN:=x.aN+1 }
def dJ (x:WS) (iK:Nat):WS :=
 match x.aJ[iK]? with
 | some m=>let r:=iw x.s m;({ x with s:=r.1,aJ:=x.aJ.set iK r.2.1 }:WS).dn r.2.2
 | none =>
   if iK=x.aJ.length then let r:=bJ x.s x.aT;({ x with s:=r.s,aT:=r.c }:WS).dn r.ev
   else ({ x with aT:={ x.aT with eF:=true } }:WS).dn none
end
section
open Go.RowKit
theorem cO {cur n below e:Int} (he:e≠0) (h:ji cur n below e=0):cur=0/\0<=n/\n<below:=by
 unfold ji at h
 split at h
 ·exact absurd h he
 ·rename_i h1
  subst h
  simp at h1
  omega
theorem yJ {c:aI} {o:bI} (h:uI c o=0):oJ o.k=true/\kD c o (ku o.k).length=0:=by
 unfold uI at h
 split at h
 ·rename_i h1
  simp at h1
  exact ⟨h1.2,h⟩
 ·simp at h
theorem qy {c:aI} {o:bI} (h:uI c o=0) :
 (o.k=1/\(0<=o.a/\o.a<c.r)/\(0<=o.b/\o.b<16))\/(o.k=2/\(0<=o.a/\o.a<c.r)/\(0<=o.b/\o.b<c.r))\/(o.k=3/\(0<=o.a/\o.a<c.r)/\(0<=o.c/\o.c<c.r)) \/
 (o.k=4/\(0<=o.a/\o.a<c.r)/\(0<=o.b/\o.b<c.c))\/(o.k=5/\(0<=o.a/\o.a<c.c)/\(0<=o.b/\o.b<c.r))\/(o.k=6/\(0<=o.a/\o.a<c.r))\/(o.k=7/\(0<=o.a/\o.a<c.r)/\(0<=o.b/\o.b<c.r))\/o.k=8:=by
 obtain ⟨h1,h2⟩:=yJ h
 obtain ⟨k,a,b,d⟩:=o
 simp only at *
 simp [oJ] at h1
 have e:k=1\/k=2\/k=3\/k=4\/k=5\/k=6\/k=7\/k=8:=by omega
 rcases e with rfl|rfl|rfl|rfl|rfl|rfl|rfl|rfl
 ·have e:ku 1=[114,115]:=rfl
  simp only [e,List.length_cons,List.length_nil,kD,eG,jT] at h2
  simp at h2
  obtain ⟨h3,h4⟩:=cO (by decide) h2
  have h5:=(cO (by decide) h3).2
  exact .inl ⟨rfl,h5,h4⟩
 ·have e:ku 2=[114,114,102]:=rfl
  simp only [e,List.length_cons,List.length_nil,kD,eG,jT] at h2
  simp at h2
  obtain ⟨h3,h4⟩:=cO (by decide) h2
  have h5:=(cO (by decide) h3).2
  exact .inr (.inl ⟨rfl,h5,h4⟩)
 ·have e:ku 3=[114,102,114]:=rfl
  simp only [e,List.length_cons,List.length_nil,kD,eG,jT] at h2
  simp at h2
  obtain ⟨h3,h4⟩:=cO (by decide) h2
  have h5:=(cO (by decide) h3).2
  exact .inr (.inr (.inl ⟨rfl,h5,h4⟩))
 ·have e:ku 4=[114,99]:=rfl
  simp only [e,List.length_cons,List.length_nil,kD,eG,jT] at h2
  simp at h2
  obtain ⟨h3,h4⟩:=cO (by decide) h2
  have h5:=(cO (by decide) h3).2
  exact .inr (.inr (.inr (.inl ⟨rfl,h5,h4⟩)))
 ·have e:ku 5=[99,114]:=rfl
  simp only [e,List.length_cons,List.length_nil,kD,eG,jT] at h2
  simp at h2
  obtain ⟨h3,h4⟩:=cO (by decide) h2
  have h5:=(cO (by decide) h3).2
  exact .inr (.inr (.inr (.inr (.inl ⟨rfl,h5,h4⟩))))
 ·have e:ku 6=[114]:=rfl
  simp only [e,List.length_cons,List.length_nil,kD,eG,jT] at h2
  simp at h2
  have h5:=(cO (by decide) h2).2
  exact .inr (.inr (.inr (.inr (.inr (.inl ⟨rfl,h5⟩)))))
 ·have e:ku 7=[114,114]:=rfl
  simp only [e,List.length_cons,List.length_nil,kD,eG,jT] at h2
  simp at h2
  obtain ⟨h3,h4⟩:=cO (by decide) h2
  have h5:=(cO (by decide) h3).2
  exact .inr (.inr (.inr (.inr (.inr (.inr (.inl ⟨rfl,h5,h4⟩))))))
 ·exact .inr (.inr (.inr (.inr (.inr (.inr (.inr rfl))))))
end
section
def vS (R:Nat) (o:bI):Prop:=0<=o.a/\o.a<R
def kU (R:Nat) (o:bI):Prop:=vS R o/\0<=o.b/\o.b<=15
def fE (R:Nat):MD->Prop
 | .nil=>True
 | .jU _=>True
 | .once _=>True
 | .lM _ _ t=>fE R t
 | .add _ t=>fE R t
 | .lN _ t=>fE R t
 | .iH _ _ t=>fE R t
 | .jV t=>fE R t
 | .bU _ _ t=>fE R t
 | .load o _=>vS R o
 | .get o=>vS R o
 | .lD _ _=>True
 | .last _=>True
 | .alloc o k=>kU R o/\k<4
 | .assign o k=>kU R o/\k<4
 | .jW o _=>kU R o
 | .jX o k=>kU R o/\k<4
 | .iq o k=>kU R o/\k<4
 | .dR _ _ t=>fE R t
 | .fill o _=>kU R o
 | .zero o _ i=>kU R o/\(i:Int)<=o.b
def eH (s:Sh):Prop:=∀ k:Nat,∀ x∈s.Q.rw k,0<=x/\s.H.K.getD x.toNat 0≠0
theorem eH.heap {s:Sh} {H:HS} (h:eH s) (hK:∀ x,s.H.K.getD x 0≠0->H.K.getD x 0≠0):eH { s with H:=H }:=fun k x hx=>⟨(h k x hx).1,hK _ (h k x hx).2⟩
section
variable {H:HS}
theorem uJ (k:Nat):(H.iJ k).2.2.K=H.K:=by unfold HS.iJ;split<;>rfl
theorem xg (a:Nat):(H.nN a).K=H.K:=by
 unfold HS.nN
 split
 ·rfl
 ·split<;>rfl
theorem yK (a:Nat) (f:Int):(H.kF a f).K=H.K:=by
 unfold HS.kF
 split
 ·rfl
 ·split<;>rfl
theorem Ai (a c:Nat):(H.mM a c).K=H.K:=by unfold HS.mM;split<;>rfl
theorem uK (a:Nat):(H.jS a).K=H.K:=by
 unfold HS.jS
 split
 ·rw [xg];rfl
 ·rfl
theorem rU (a:Nat) (f:Int) (v:Nat):(H.jF a f v).K=H.K:=by unfold HS.jF;split<;>rfl
theorem Bv (i:Int) (v:Nat):(H.qc i v).K=H.K:=by unfold HS.qc;split<;>rfl
theorem rV (a c:Nat):(H.jg a c).K=H.K:=by unfold HS.jg;split<;>rfl
theorem xk (k x:Nat) (h:H.K.getD x 0≠0):(H.iE k).2.2.K.getD x 0≠0:=by
 unfold HS.iE
 split
 ·exact h
 ·rename_i B hB
  show (H.K.set B (k+1)).getD x 0≠0
  by_cases e:B=x
  ·subst e
   have hlt:B<H.K.length:=by
    rcases Nat.lt_or_ge B H.K.length with h1|h1
    ·exact h1
    ·rw [Ie,List.getElem?_eq_none h1] at h;exact absurd rfl h
   rw [wS hlt];omega
  ·rw [Ag e];exact h
theorem Dv (rd:RD):(rd.qU H).K=H.K:=by
 cases rd with
 | bU b f v=>exact rU b f v
 | cell i v=>exact Bv i v
end
theorem eH.same {s:Sh} {H:HS} (h:eH s) (hK:H.K=s.H.K):eH { s with H:=H }:=h.heap (fun x hx=>by rw [hK];exact hx)
theorem rW {l:List (List Int)} {i j:Nat} {r:List Int} {x:Int} (hr:∀ y∈r,y∈l.getD i []) (h:x∈(l.set i r).getD j []):∃ k,x∈l.getD k []:=by
 rw [Ie] at h
 by_cases e:i=j
 ·subst e
  by_cases hlt:i<l.length
  ·rw [Ig hlt] at h
   exact ⟨i,hr _ h⟩
  ·rw [List.set_eq_of_length_le (by omega),<- Ie] at h
   exact ⟨i,h⟩
 ·rw [Ih e,<- Ie] at h
  exact ⟨j,h⟩
theorem eH.take {s:Sh} (h:eH s) (k:Nat):eH { s with Q:=s.Q.take k }:=fun j x hx=>by
 obtain ⟨i,hi⟩:=rW (l:=s.Q.rows) (i:=(k:Int).toNat) (j:=j) (r:=(s.Q.row k).drop 1) (fun y hy=>List.mem_of_mem_drop hy) hx
 exact h i x hi
theorem eH.done {s:Sh} (h:eH s):eH { s with Q:=s.Q.mO }:=fun k x hx=>h k x hx
structure mZ (N:Nat) (s:Sh) (m:MS):Prop where
 aH:m.aH<2
 dw:m.dw<2
 bg:s.Q.bg<=N
 dQ:m.dQ.length<=N
 q:eH s
 sp:m.dN<=N
 rl:(m.dL.length:Int)=m.c.r
 nx:fE m.dL.length m.next
structure SK (N:Nat) (m:MS) (r:mQ):Prop where
 aH:r.m.aH<2
 dw:r.m.dw<2
 bg:r.s.Q.bg<=N+1
 dQ:r.m.dQ.length<=N+1
 q:eH r.s
 nx:fE r.m.dL.length r.next
 c:r.m.c=m.c
 id:r.m.id=m.id
 prog:r.m.prog=m.prog
 nP:r.m.dL.length=m.dL.length
 dN:r.m.dN=m.dN
section
variable {N:Nat} {s:Sh} {m:MS}
structure lU (N:Nat) (s:Sh) (m:MS):Prop where
 aH:m.aH<2
 dw:m.dw<2
 bg:s.Q.bg<=N
 dQ:m.dQ.length<=N
 q:eH s
 rl:(m.dL.length:Int)=m.c.r
theorem lU.iC (h:lU N s m) {s':Sh} (gy:Int) (v:Nat) (ho:s'.Q.bg<=N+1) (hq:eH s'):SK N m (iC s' m gy v) :=
 ⟨h.aH,h.dw,ho,by have:=h.dQ;show (m.dQ++[(gy,v)]).length<=N+1;simp;omega,hq,trivial,rfl,rfl,rfl,rfl,rfl⟩
theorem lU.jI (h:lU N s m) {s':Sh} (r:Int) (v:Nat) (ho:s'.Q.bg<=N+1) (hq:eH s'):SK N m (jI s' m r v) :=
 ⟨h.aH,h.dw,ho,by have:=h.dQ;show (m.dQ++[((0:Int),v)]).length<=N+1;simp;omega,hq,trivial,rfl,rfl,rfl,by show (m.dL.set r.toNat v).length=_;simp,rfl⟩
theorem lU.next (h:lU N s m) {s':Sh} {d:MD} {ev:Option Ev} (ho:s'.Q.bg<=N+1) (hq:eH s') (hd:fE m.dL.length d):SK N m ⟨s',m,d,ev⟩ :=
 ⟨h.aH,h.dw,ho,by have:=h.dQ;show m.dQ.length<=N+1;omega,hq,hd,rfl,rfl,rfl,rfl,rfl⟩
theorem lU.opn1 (h:lU N s m):s.Q.bg<=N+1:=by have:=h.bg;omega
theorem Bz (f:Int):Bg f<4:=by unfold Bg;(repeat' split)<;>omega
theorem rX {R:Nat} {c:Nat} {t:MD} (h:fE R t):fE R (m.qR c t):=by
 unfold MS.qR
 split<;>exact h
theorem nR {R:Nat} {v c:Nat} {t:MD} (h:fE R t):fE R (oL v c t):=by
 unfold oL
 split<;>exact h
theorem uM {R:Nat} {v:Nat} {rd:RD}:fE R (m.vM v rd):=by
 unfold MS.vM
 split<;>trivial
theorem qA {R:Nat} {o:bI} {all:List Nat} (h:kU R o):fE R (oO o all):=by
 unfold oO
 split<;>exact h
theorem yL (h:lU N s m) (o:bI):SK N m (kJ s m o):=by
 have d:=fun gy v=>h.iC (s':=s) gy v h.opn1 h.q
 unfold kJ
 split
 ·exact d _ _
 rename_i hc
 have hc':uI m.c o=0:=by simpa using hc
 have ha:o.k=1->kU m.dL.length o:=fun e=>by
  rcases qy hc' with ⟨hk,ha,hb⟩|⟨hk,ha,hb⟩|⟨hk,ha,hb⟩|⟨hk,ha,hb⟩|⟨hk,ha,hb⟩|⟨hk,ha⟩|⟨hk,ha,hb⟩|hk
  ·exact ⟨⟨ha.1,by rw [h.rl];exact ha.2⟩,hb.1,by omega⟩
  all_goals omega
 have hr:o.k=2\/o.k=4->vS m.dL.length o:=fun e=>by
  rcases qy hc' with ⟨hk,ha,hb⟩|⟨hk,ha,hb⟩|⟨hk,ha,hb⟩|⟨hk,ha,hb⟩|⟨hk,ha,hb⟩|⟨hk,ha⟩|⟨hk,ha,hb⟩|hk
  ·omega
  ·exact ⟨ha.1,by rw [h.rl];exact ha.2⟩
  ·omega
  ·exact ⟨ha.1,by rw [h.rl];exact ha.2⟩
  all_goals omega
 have fd:∀ base f t,fE m.dL.length t->SK N m (lQ s m base f t):=fun base f t ht=>by
  unfold lQ
  split
  ·exact d _ _
  ·exact h.next h.opn1 h.q ht
 split
 ·rename_i e;exact h.next h.opn1 h.q ⟨ha e,Bz _⟩
 split
 ·rename_i e;exact fd _ _ _ (hr (.inl e))
 split
 ·exact fd _ _ _ uM
 split
 ·rename_i e;exact h.next h.opn1 h.q (hr (.inr e))
 split
 ·exact h.next h.opn1 h.q uM
 split
 ·exact ⟨h.aH,h.dw,h.opn1,by have:=h.dQ;show (m.dQ++[((0:Int),0)]).length<=N+1;simp;omega,h.q,trivial,rfl,rfl,rfl,by show (m.dL.set _ _).length=_;simp,rfl⟩
 split
 ·exact h.jI _ _ h.opn1 h.q
 ·exact d _ _
theorem Aj (h:lU N s m) (d:MD) (hd:fE m.dL.length d):SK N m (stepM s m d):=by
 have q:=h.q
 have o1:=h.opn1
 cases d with
 | nil=>exact h.next o1 q trivial
 | jU o=>exact yL h o
 | once k =>
   have hw:=h.dw
   have hc:=h.aH
   have hr:=h.dQ
   have hb:eH { s with B:=s.B.rM m.id }:=fun k x hx=>q k x hx
   simp only [stepM,zJ]
   repeat' split
   all_goals exact ⟨by simp only<;>omega,by simp only<;>omega,o1,by simp only<;>omega,hb,trivial,rfl,rfl,rfl,rfl,rfl⟩
 | lM v c t =>
   simp only [stepM]
   repeat' split
   ·exact h.next o1 q hd
   ·exact h.next o1 q (rX hd)
   ·exact ⟨h.aH,h.dw,o1,by have:=h.dQ;simp only;omega,q,hd,rfl,rfl,rfl,rfl,rfl⟩
 | add v t =>
   simp only [stepM]
   split
   ·exact h.next o1 q hd
   ·exact ⟨h.aH,h.dw,o1,by have:=h.dQ;simp only;omega,q,hd,rfl,rfl,rfl,rfl,rfl⟩
 | lN c t =>
   simp only [stepM]
   split
   ·exact ⟨h.aH,h.dw,o1,by have:=h.dQ;simp only;omega,fun k x hx=>q k x hx,hd,rfl,rfl,rfl,rfl,rfl⟩
   ·exact h.next o1 q hd
 | iH c f t =>
   simp only [stepM]
   refine ⟨h.aH,h.dw,o1,by have:=h.dQ;simp only;omega,q.same (rV _ _),?_,rfl,rfl,rfl,rfl,rfl⟩
   repeat' split
   all_goals exact hd
 | jV t=>exact h.next o1 (fun k x hx=>q k x hx) hd
 | bU base f t =>
   simp only [stepM]
   split
   ·exact h.iC _ _ o1 q
   ·exact h.next o1 q hd
 | load o base=>exact h.jI _ _ o1 q
 | get o=>exact h.jI _ _ o1 q
 | lD v rd =>
   simp only [stepM]
   refine ⟨h.aH,h.dw,o1,by have:=h.dQ;simp only;omega,q,?_,rfl,rfl,rfl,rfl,rfl⟩
   refine nR ?_
   split
   ·exact nR trivial
   ·trivial
 | last rd=>exact h.iC _ _ o1 (q.same (Dv rd))
 | alloc o k =>
   simp only [stepM]
   split
   ·exact h.next o1 (q.same (uJ k)) hd.1
   ·exact h.next o1 q hd
 | assign o k =>
   simp only [stepM]
   split
   ·exact h.next o1 (q.heap (fun x hx=>xk k x hx)) (qA hd.1)
   ·exact h.next o1 q hd
 | jW o all=>exact h.next o1 (q.same (xg _)) (qA hd)
 | jX o k =>
   simp only [stepM]
   split
   ·exact h.next o1 q hd
   ·exact h.next (by have:=h.bg;show s.Q.bg+1<=N+1;omega) (q.take k) hd
 | iq o k =>
   simp only [stepM]
   split
   ·exact h.next o1 (q.same (uJ k)) hd.1
   ·exact h.iC _ _ o1 q
 | dR sl c t =>
   cases sl with
   | nil =>
     simp only [stepM]
     refine h.next ?_ ?_ hd
     ·show (if s.Q.bg=0 then s.Q else s.Q.mO).bg<=N+1
      split
      ·exact o1
      ·show s.Q.bg - 1<=N+1;omega
     ·show eH { s with Q:=if s.Q.bg=0 then s.Q else s.Q.mO }
      split
      ·exact q
      ·exact q.done
   | cons a r =>
     simp only [stepM]
     split
     ·exact h.next o1 q hd
     ·exact h.next o1 (q.same (uK a)) hd
 | fill o a=>exact h.next o1 (q.same (yK _ _)) ⟨hd,hd.2.1⟩
 | zero o a i =>
   obtain ⟨hd1,hd2⟩:=hd
   simp only [stepM]
   split
   ·exact h.jI _ _ o1 (q.same (Ai _ _))
   ·refine h.next o1 (q.same (rU _ _ _)) ⟨hd1,?_⟩
    push_cast;omega
theorem uN {R c:Nat}:∀ l:List Nat,fE R (vN c l)
 | []=>trivial
 | _::l=>nR (uN l)
theorem yM {R:Nat}:fE R (rP s m):=by
 unfold rP
 split
 ·split
  ·exact uN _
  ·split
   ·exact rX trivial
   ·trivial
 ·split<;>trivial
theorem Ak (h:mZ N s m):mZ (N+1) (iw s m).1 (iw s m).2.1/\(iw s m).2.1.c=m.c/\(iw s m).2.1.id=m.id/\(iw s m).2.1.prog=m.prog/\(iw s m).2.1.dL.length=m.dL.length:=by
 unfold iw
 split
 ·exact ⟨⟨h.aH,h.dw,by have:=h.bg;simp only;omega,by have:=h.dQ;simp only;omega,h.q,by simp only;omega,h.rl,yM⟩,rfl,rfl,rfl,rfl⟩
 ·have hs:lU N s { m with dN:=m.dN+1 }:=⟨h.aH,h.dw,h.bg,h.dQ,h.q,h.rl⟩
  have r:=Aj hs m.next h.nx
  have sp:(stepM s { m with dN:=m.dN+1 } m.next).m.dN<=N+1:=by rw [r.dN];have:=h.sp;simp only;omega
  have rl:((stepM s { m with dN:=m.dN+1 } m.next).m.dL.length:Int)=(stepM s { m with dN:=m.dN+1 } m.next).m.c.r:=by rw [r.nP,r.c];exact h.rl
  generalize stepM s { m with dN:=m.dN+1 } m.next=R at *
  have rn:=r.nx
  simp only
  split
  ·unfold MS.most
   split
   ·exact ⟨⟨r.aH,r.dw,r.bg,r.dQ,r.q,sp,rl,trivial⟩,r.c,r.id,r.prog,r.nP⟩
   ·exact ⟨⟨r.aH,r.dw,r.bg,r.dQ,r.q,sp,rl,trivial⟩,r.c,r.id,r.prog,r.nP⟩
  ·exact ⟨⟨r.aH,r.dw,r.bg,r.dQ,r.q,sp,rl,rn⟩,r.c,r.id,r.prog,r.nP⟩
end
end
end Go.Proofs.YtoamcpbapedofaaGreatDoor
