/- Parts of the walk. No conditions. -/
import Derived.Test.YtobfpmijbfgmeabGreatDoorZzgv
import Derived.Deep.DeepCutAuto
namespace Go.Proofs.YtobfpmijbfgmeabGreatDoor
open _root_.Go.IntWalk renaming i64_in->abD
open _root_.List renaming append_nil->adw,filter_cons_of_pos->adt,find?_append->ads,find?_eq_none->adi,getElem?_eq_getElem->abr,getElem?_eq_some_iff->abl,length_append->adu,length_filter_le->adv,mem_singleton->adr
open _root_.Go.Proofs.Tryz hiding prog
open _root_.Go.Proofs.Tryz renaming prog->ay
set_option maxRecDepth 4000
set_option maxHeartbeats 8000000
section
open Go.RowKit
theorem XR {cs:List Value} (h:iy [.int .i64,.int .i64,.int .i64,.int .i64] cs):∃ o:bQ,cs=o.cells/\((Lit.int .i64 o.k).wf=true/\(Lit.int .i64 o.a).wf=true/\(Lit.int .i64 o.b).wf=true/\(Lit.int .i64 o.c).wf=true):=by
 obtain ⟨hl,hv⟩:=h
 match cs,hl with
 | [a,b,c,d],_ =>
   obtain ⟨va,e0,ka,rfl,w0⟩:=hv 0 (.int .i64) rfl
   obtain ⟨vb,e1,kb,rfl,w1⟩:=hv 1 (.int .i64) rfl
   obtain ⟨vc,e2,kc,rfl,w2⟩:=hv 2 (.int .i64) rfl
   obtain ⟨vd,e3,kd,rfl,w3⟩:=hv 3 (.int .i64) rfl
   simp at e0 e1 e2 e3
   subst e0 e1 e2 e3
   exact ⟨⟨ka,kb,kc,kd⟩,rfl,w0,w1,w2,w3⟩
theorem LW:∀ z:List (List Value),(∀ r∈z,iy [.int .i64,.int .i64,.int .i64,.int .i64] r)->∃ prog:List bQ,z=prog.map bQ.cells/\∀ o∈prog,(Lit.int .i64 o.k).wf=true/\(Lit.int .i64 o.a).wf=true/\(Lit.int .i64 o.b).wf=true/\(Lit.int .i64 o.c).wf=true
 | [],_=>⟨[],rfl,fun o h=>(by cases h)⟩
 | r::z,h=>by
   obtain ⟨o,e,hw⟩:=XR (h r (by simp))
   obtain ⟨p,e2,hp⟩:=LW z (fun r hr=>h r (by simp [hr]))
   refine ⟨o::p,by rw [e,e2];rfl,fun x hx=>?_⟩
   rcases List.mem_cons.1 hx with rfl|hx
   ·exact hw
   ·exact hp x hx
end
section
attribute [local go_sem] Oper.semAt_some
open Go.RowKit
theorem XT (z:List (List Value)) (h:∀ r∈z,iy [.int .i64,.int .i64,.int .i64,.int .i64] r):∃ prog,z=gX prog:=by
 obtain ⟨p,e,_⟩:=LW z h
 exact ⟨p,e⟩
theorem V8 {rest : List (String × DataW Unit)} {w : World} (h : laidMet ay (("math/bits.deBruijn64tab", Rows.laid_math_bits_deBruijn64tab) :: rest) w) : nD w := by
 obtain ⟨ps,⟨g,t,cs,fuel,p,q,hg,ht,hvar,hd,_,_⟩,_⟩:=h
 obtain rfl : 0 = g := Option.some.inj ((show ay.globalNamed "math/bits.deBruijn64tab" = some 0 by kernel_rfl).symm.trans hg)
 obtain rfl:201=t:=Option.some.inj ((show (ay.globals[0]?).map (·.type)=some 201 by kernel_rfl).symm.trans ht)
 obtain ⟨cs,rfl⟩:∃ l:List Value,cs=l.toArray:=⟨cs.toList,by simp⟩
 have e:cs=(Lib.deBruijn64tab.map fun x:Nat=>(x:Int)).map (Value.int .u8):=Lib.cells_of_tab (zs:=Lib.deBruijn64tab.map fun x:Nat=>(x:Int)) (show ay.underlying 201=some (.array 64 5) by kernel_rfl) (show ay.underlying 5=some (.int .u8) by kernel_rfl) (by kernel_rfl) (by kernel_rfl) hd
 intro j hj
 rw [World.var?_cell (P:=ay) hg hvar j,e]
 rw [List.getD_eq_getElem?_getD,abr hj]
 simp [hj]
section
variable {w W W':World} {Z:List (Nat × List Value × TypeId)} {G:eH} {g:MG} {s:Sh} {m:MS}
theorem KG {base n:Nat} {T:TypeId} {v:Value} {xs:List Value} (h:W.ownsRow base T 1 v n xs):∃ Zr:List (Nat × List Value × TypeId),(∀ z∈Zr,base<=z.1/\aB W z.1 z.2.1 z.2.2)/\∀ V,(∀ z∈Zr,aB V z.1 z.2.1 z.2.2)->V.ownsRow base T 1 v n xs:=by
 obtain ⟨hl,h2⟩:=h
 rcases h2 with ⟨h3,h4⟩|⟨g,aJ,cur,rfl,hg0,hg,hr⟩
 ·exact ⟨[],fun z hz=>(by cases hz),fun V _=>⟨hl,.inl ⟨h3,h4⟩⟩⟩
 ·refine ⟨[(g,cur.toList,T)],fun z hz=>?_,fun V hV=>⟨hl,.inr ⟨g,aJ,cur,rfl,hg0,?_,hr⟩⟩⟩
  ·rw [adr] at hz
   subst hz
   exact ⟨hg0,by unfold aB;simpa using hg⟩
  ·have h9:=hV _ (adr.2 rfl)
   unfold aB at h9
   simpa using h9
def wG (Z:List (Nat × List Value × TypeId)) (v:Value) (l:List Nat):Prop:=∀ V,(∀ z∈Z,aB V z.1 z.2.1 z.2.2)->∃ a c,v = .slice a l.length c/\gB .i64 V a l.length (l.map fun x:Nat=>(x:Int))
theorem wG.of {base:Nat} {v:Value} {l:List Nat} {Zr:List (Nat × List Value × TypeId)} (h:∀ V,(∀ z∈Zr,aB V z.1 z.2.1 z.2.2)->V.ownsRow base 3 1 v l.length (bg l)):wG Zr v l:=fun V hV=>by
 have h1:=h V hV
 obtain ⟨a,c,rfl,_⟩:=kE (dF h1 (Nat.zero_le _))
 exact ⟨a,c,rfl,IU h1⟩
theorem wG.more {v:Value} {l:List Nat} {Z':List (Nat × List Value × TypeId)} (h:wG Z v l) (hs:∀ z∈Z,z∈Z'):wG Z' v l:=fun V hV=>h V (fun z hz=>hV z (hs z hz))
theorem rM.Y2 (h:rM w W Z G g s m) {v:Value} {l:List Nat} (hr:wG Z v l):∃ a c,v = .slice a l.length c/\gB .i64 W a l.length (l.map fun x:Nat=>(x:Int)):=hr W (fun _ hz=>h.aC hz)
end
theorem V9 (c:aS) (h:0<=c.l/\c.l<=256/\0<=c.w/\c.w<=256) (w:World):Calls ay 9 #[.agg c.cells.toArray] w fun e w'=>e = .returned (ah (64+4*c.l+c.w))/\aj aA w w':=by
 obtain ⟨W0,hW0⟩:∃ W',W'=w.alloc (.cells c.cells.toArray 23):=⟨_,rfl⟩
 have HK:Hid (aj aA w W0):=by rw [hW0];exact (aj.refl _ _).alloc _
 have hb:aB W0 w.heap.size c.cells 23:=by rw [hW0];exact aB.aW w _ _
 obtain ⟨c0,c1,c2,c3,c4,c5,c6⟩:=c
 simp only [aS.cells] at *
 have y1:=hb.cell 1 rfl
 have y5:=hb.cell 5 rfl
 have hw1:IntKind.i64.wrap (4*c5)=4*c5:=abD _ (by omega)
 have hw2:IntKind.i64.wrap (64+4*c5)=64+4*c5:=abD _ (by omega)
 have hw3:IntKind.i64.wrap (64+4*c5+c1)=64+4*c5+c1:=abD _ (by omega)
 have HW:=au hW0
 clear hb hW0 h
 go_enter func9,ntmps9
 go_wp2_with fail
 rw [<- HW.out]
 go_wp2_with fail
 go_ret
 exact ⟨rfl,HK.out⟩
section
variable {o:Ow} {w w':World} {G:eH} {g:MG} {s:Sh} {m:MS} {nv:Value} {ev:Option Ev}
theorem QV (h:aQ o w G g s m ev nv):Calls ay 27 #[ak g.M] w fun e w'=>e = .returned (.tuple #[ah (m.most0:Int),ah (m.most1:Int)])/\w'=w.drew:=by
 have c0:w.cell? ⟨g.M,20,none⟩=some (ah (m.most0:Int)):=h.cell 20 _ (fun _ _=>rfl)
 have c1:w.cell? ⟨g.M,21,none⟩=some (ah (m.most1:Int)):=h.cell 21 _ (fun _ _=>rfl)
 generalize m.most0=a at *
 generalize m.most1=b at *
 clear h
 go_enter func27,ntmps27
 go_wp2_with fail
 go_region
 go_wp2_with fail
 go_ret2
 exact ⟨rfl,rfl⟩
end
end
section
theorem TT {cur n below e:Int} (h:cur≠10) (he:e≠10):bY cur n below e≠10:=by
 unfold bY
 split<;>assumption
theorem QW {c:aS} {cur n:Int} {l:UInt8} (h:cur≠10):eu c cur l n≠10:=by
 unfold eu
 repeat' split
 all_goals first|exact TT h (by decide)|exact h
theorem LX {c:aS} {o:bQ}:∀ j,oN c o j≠10
 | 0=>by simp [oN]
 | j+1=>QW (LX j)
theorem XU {c:aS} {o:bQ}:dG c o≠10:=by
 unfold dG
 split
 ·exact LX _
 ·decide
structure bF where
 k:Int
 m:Int
 n:Int
 h:Int
def bF.cells (p:bF):List Value:=[ah p.k,ah p.m,ah p.n,ah p.h]
def bF.is (p:bF) (k m n:Int):Bool:=p.k==k&&p.m==m&&p.n==n
theorem bF.I4 {p:bF} {k m n:Int}:p.is k m n=true↔p.k=k/\p.m=m/\p.n=n:=by
 simp [bF.is,and_assoc]
def dw (L:List bF) (k m n:Int):Int:=match L.find? (fun p=>p.is k m n) with
 | some p=>p.h
 | none=>0
def fJ (L:List bF) (k m n h:Int):List bF:=L.filter (fun p => !p.is k m n)++(if h=0 then [] else [⟨k,m,n,h⟩])
theorem I5 (L:List bF) (k m n h:Int):dw (fJ L k m n h) k m n=h:=by
 unfold dw fJ
 rw [ads]
 have e:(L.filter (fun p => !p.is k m n)).find? (fun p=>p.is k m n)=none:=by
  rw [adi]
  intro p hp
  have:=(List.mem_filter.1 hp).2
  simpa using this
 rw [e]
 by_cases hh:h=0
 ·simp [hh]
 ·simp [hh,bF.is]
theorem zY (L:List bF) {k m n k' m' n':Int} (hne:¬ (k'=k/\m'=m/\n'=n)):(L.filter (fun p => !p.is k m n)).find? (fun p=>p.is k' m' n')=L.find? (fun p=>p.is k' m' n'):=by
 induction L with
 | nil=>rfl
 | cons p L ih =>
   by_cases hp:p.is k' m' n'=true
   ·have h2:p.is k m n=false:=by
     rw [Bool.eq_false_iff]
     intro h
     have h1:=bF.I4.1 h
     have h3:=bF.I4.1 hp
     exact hne ⟨by omega,by omega,by omega⟩
    rw [adt (by simp [h2])]
    simp [hp]
   ·have hp2:p.is k' m' n'=false:=by simpa using hp
    by_cases hq:p.is k m n=true
    ·rw [List.filter_cons_of_neg (by simp [hq])]
     simp only [List.find?_cons,hp2]
     exact ih
    ·rw [adt (by simp [hq])]
     simp only [List.find?_cons,hp2]
     exact ih
theorem F5 (L:List bF) {k m n k' m' n':Int} (h:Int) (hne:¬ (k'=k/\m'=m/\n'=n)):dw (fJ L k m n h) k' m' n'=dw L k' m' n':=by
 unfold dw fJ
 rw [ads,zY L hne]
 have e:(if h=0 then ([]:List bF) else [⟨k,m,n,h⟩]).find? (fun p=>p.is k' m' n')=none:=by
  rw [adi]
  intro p hp
  split at hp
  ·cases hp
  ·simp at hp
   subst hp
   intro h2
   have h3:=bF.I4.1 h2
   simp only at h3
   exact hne ⟨by omega,by omega,by omega⟩
 rw [e,Option.or_none]
theorem TU (L:List bF) (k m n h:Int):(fJ L k m n h).length<=L.length+1:=by
 unfold fJ
 rw [adu]
 have h1:=adv (fun p:bF => !p.is k m n) L
 split
 ·simp;omega
 ·simp;omega
def fH (c:aS) (S:List Int) (L:List bF) (mi:Int) (o:bQ):List Int × List bF × Int × Int :=
 if mi<0\/c.m<=mi then (S,L,0,4) else if dG c o≠0 then (S,L,0,dG c o)
 else if o.k=1 then (S++[o.b],fJ L 1 mi o.a ((S.length:Int)+1),(S.length:Int)+1,0)
 else if o.k=2 then
  if dw L 1 mi o.b=0 then (S,L,0,6)
  else if o.c<0\/S.getD (dw L 1 mi o.b - 1).toNat 0<=o.c then (S,L,0,7)
  else (S,fJ L 1 mi o.a (dw L 3 (dw L 1 mi o.b) o.c),dw L 3 (dw L 1 mi o.b) o.c,0)
 else if o.k=3 then
  if dw L 1 mi o.a=0 then (S,L,0,6)
  else if o.b<0\/S.getD (dw L 1 mi o.a - 1).toNat 0<=o.b then (S,L,0,7)
  else (S,fJ L 3 (dw L 1 mi o.a) o.b (dw L 1 mi o.c),0,0)
 else if o.k=4 then (S,fJ L 1 mi o.a (dw L 2 0 o.b),dw L 2 0 o.b,0)
 else if o.k=5 then (S,fJ L 2 0 o.a (dw L 1 mi o.b),0,0)
 else if o.k=6 then (S,fJ L 1 mi o.a 0,0,0)
 else if o.k=7 then (S,fJ L 1 mi o.a (dw L 1 mi o.b),dw L 1 mi o.b,0)
 else (S,L,0,0)
theorem Wh (c:aS) (S:List Int) (L:List bF) (mi:Int) (o:bQ):(fH c S L mi o).1.length<=S.length+1/\(fH c S L mi o).2.1.length<=L.length+1:=by
 have key:∀ k m n h,(fJ L k m n h).length<=L.length+1:=TU L
 unfold fH
 repeat' split
 all_goals first|exact ⟨by simp,key _ _ _ _⟩|exact ⟨by simp,by simp⟩|exact ⟨Nat.le_succ _,key _ _ _ _⟩
section
variable {c:aS} {S:List Int} {L:List bF} {mi k a b t:Int} (h1:¬ (mi<0\/c.m<=mi))
include h1
theorem LY (o:bQ) (h2:dG c o≠0):fH c S L mi o=(S,L,0,dG c o):=by unfold fH;rw [aO h1,aV h2]
theorem rdo1 (h2:dG c ⟨1,a,b,t⟩=0):fH c S L mi ⟨1,a,b,t⟩=(S++[b],fJ L 1 mi a ((S.length:Int)+1),(S.length:Int)+1,0):=by unfold fH;rw [aO h1,aO (not_not_intro h2)];rfl
theorem U6 (h2:dG c ⟨2,a,b,t⟩=0) (h3:dw L 1 mi b=0):fH c S L mi ⟨2,a,b,t⟩=(S,L,0,6):=by
 unfold fH;rw [aO h1,aO (not_not_intro h2)];simp only [Int.reduceEq,reduceIte];rw [aV h3]
theorem U7 (h2:dG c ⟨2,a,b,t⟩=0) (h3:dw L 1 mi b≠0) (h4:t<0\/S.getD (dw L 1 mi b - 1).toNat 0<=t):fH c S L mi ⟨2,a,b,t⟩=(S,L,0,7):=by
 unfold fH;rw [aO h1,aO (not_not_intro h2)];simp only [Int.reduceEq,reduceIte];rw [aO h3,aV h4]
theorem rdo2 (h2:dG c ⟨2,a,b,t⟩=0) (h3:dw L 1 mi b≠0) (h4:¬ (t<0\/S.getD (dw L 1 mi b - 1).toNat 0<=t)):fH c S L mi ⟨2,a,b,t⟩=(S,fJ L 1 mi a (dw L 3 (dw L 1 mi b) t),dw L 3 (dw L 1 mi b) t,0):=by
 unfold fH;rw [aO h1,aO (not_not_intro h2)];simp only [Int.reduceEq,reduceIte];rw [aO h3,aO h4]
theorem U8 (h2:dG c ⟨3,a,b,t⟩=0) (h3:dw L 1 mi a=0):fH c S L mi ⟨3,a,b,t⟩=(S,L,0,6):=by
 unfold fH;rw [aO h1,aO (not_not_intro h2)];simp only [Int.reduceEq,reduceIte];rw [aV h3]
theorem U9 (h2:dG c ⟨3,a,b,t⟩=0) (h3:dw L 1 mi a≠0) (h4:b<0\/S.getD (dw L 1 mi a - 1).toNat 0<=b):fH c S L mi ⟨3,a,b,t⟩=(S,L,0,7):=by
 unfold fH;rw [aO h1,aO (not_not_intro h2)];simp only [Int.reduceEq,reduceIte];rw [aO h3,aV h4]
theorem rdo3 (h2:dG c ⟨3,a,b,t⟩=0) (h3:dw L 1 mi a≠0) (h4:¬ (b<0\/S.getD (dw L 1 mi a - 1).toNat 0<=b)):fH c S L mi ⟨3,a,b,t⟩=(S,fJ L 3 (dw L 1 mi a) b (dw L 1 mi t),0,0):=by
 unfold fH;rw [aO h1,aO (not_not_intro h2)];simp only [Int.reduceEq,reduceIte];rw [aO h3,aO h4]
theorem rdo4 (h2:dG c ⟨4,a,b,t⟩=0):fH c S L mi ⟨4,a,b,t⟩=(S,fJ L 1 mi a (dw L 2 0 b),dw L 2 0 b,0):=by unfold fH;rw [aO h1,aO (not_not_intro h2)];rfl
theorem rdo5 (h2:dG c ⟨5,a,b,t⟩=0):fH c S L mi ⟨5,a,b,t⟩=(S,fJ L 2 0 a (dw L 1 mi b),0,0):=by unfold fH;rw [aO h1,aO (not_not_intro h2)];rfl
theorem rdo6 (h2:dG c ⟨6,a,b,t⟩=0):fH c S L mi ⟨6,a,b,t⟩=(S,fJ L 1 mi a 0,0,0):=by unfold fH;rw [aO h1,aO (not_not_intro h2)];rfl
theorem rdo7 (h2:dG c ⟨7,a,b,t⟩=0):fH c S L mi ⟨7,a,b,t⟩=(S,fJ L 1 mi a (dw L 1 mi b),dw L 1 mi b,0):=by unfold fH;rw [aO h1,aO (not_not_intro h2)];rfl
theorem rdo8 (h2:dG c ⟨8,a,b,t⟩=0):fH c S L mi ⟨8,a,b,t⟩=(S,L,0,0):=by unfold fH;rw [aO h1,aO (not_not_intro h2)];rfl
end
end
section
open Go.RowKit Go.Sort
theorem Tryz.infoPlace:(ay.info? 115).map (fun i=>(i.zero,i.size,i.bytes))=some (some (.agg #[ah 0,ah 0,ah 0,ah 0]),4,32):=by kernel_rfl
def AB (L:List bF):List Value:=(L.map bF.cells).flatten
theorem BH (L:List bF):∀ r∈L.map bF.cells,r.length=4:=by
 intro r hr
 obtain ⟨p,_,rfl⟩:=List.mem_map.1 hr
 rfl
structure jP (F:Nat->Prop) (B:Nat) (c:aS) (S:List Int) (L:List bF) (vs vl:Value) (w:World):Prop where
 aC:aB w B [ah c.b,ah c.w,ah c.m,ah c.r,ah c.c,ah c.l,ah c.s,vs,vl] 38
 qC:w.ownsRow 0 3 1 vs S.length (S.map (Value.int .i64))
 I7:w.ownsRow 0 115 4 vl L.length (AB L)
 fB:F B
 fs:∀ k,vs.ownBlock=some k->F k
 fl:∀ k,vl.ownBlock=some k->F k
section
variable {F F':Nat->Prop} {B:Nat} {c:aS} {S:List Int} {L:List bF} {vs vl:Value} {w w':World}
theorem jP.aH {T:Nat->Prop} (h:jP F B c S L vs vl w) (k:aj T w w') (hs:∀ i,F i->¬ T i):jP F B c S L vs vl w' :=
 ⟨k.aC h.aC (hs B h.fB),fQ h.qC k (fun b hb=>hs b (h.fs b hb)),fQ h.I7 k (fun b hb=>hs b (h.fl b hb)),h.fB,h.fs,h.fl⟩
theorem jP.still (h:jP F B c S L vs vl w) (k:aj aA w w'):jP F B c S L vs vl w':=h.aH k (fun _ _ f=>f)
theorem jP.mono (h:jP F B c S L vs vl w) (hF:∀ k,F k->F' k):jP F' B c S L vs vl w:=⟨h.aC,h.qC,h.I7,hF _ h.fB,fun k hk=>hF k (h.fs k hk),fun k hk=>hF k (h.fl k hk)⟩
theorem jP.there (h:jP F B c S L vs vl w):jP (fun k=>F k/\k<w.heap.size) B c S L vs vl w :=
 ⟨h.aC,h.qC,h.I7,⟨h.fB,h.aC.lt⟩,fun k hk=>⟨h.fs k hk,(World.ownsRow.lt h.qC k hk).2⟩,fun k hk=>⟨h.fl k hk,(World.ownsRow.lt h.I7 k hk).2⟩⟩
theorem jP.list (h:jP F B c S L vs vl w):∃ a aJ,vl = .slice a L.length aJ/\iL w a L.length 4 (L.map bF.cells)/\L.length<=aJ :=
 iL.qc h.I7 (BH L) (by simp)
theorem jP.sizes (h:jP F B c S L vs vl w):∃ a aJ,vs = .slice a S.length aJ/\gB .i64 w a S.length S/\S.length<=aJ:=by
 obtain ⟨a,aJ,h1,h2,h3⟩:=gB.WE h.qC
 exact ⟨a,aJ,h1,h2,h3⟩
end
theorem Dz {w:World} {a:Option Addr} {L:List bF} (h:iL w a L.length 4 (L.map bF.cells)) (i:Nat) (hi:i<L.length):∃ b off,a=some ⟨b,off,none⟩/\∃ p:bF,L[i]?=some p/\w.cell? ⟨b,off+i*4,none⟩=some (ah p.k)/\w.cell? ⟨b,off+i*4+1,none⟩=some (ah p.m)/\w.cell? ⟨b,off+i*4+2,none⟩=some (ah p.n)/\w.cell? ⟨b,off+i*4+3,none⟩=some (ah p.h):=by
 obtain ⟨b,off,e,hc⟩:=h.jR (by omega)
 have h1:L[i]?=some L[i]:=abr hi
 have h2:=hc i L[i].cells (by simp [h1])
 exact ⟨b,off,e,_,h1,h2 0 _ rfl,h2 1 _ rfl,h2 2 _ rfl,h2 3 _ rfl⟩
theorem Wj {L:List bF} {k m n:Int} {j:Nat} {p:bF} (hj:L[j]?=some p) (hp:p.is k m n=true) (hno:∀ (i:Nat) (q:bF),i<j->L[i]?=some q->q.is k m n=false):dw L k m n=p.h:=by
 unfold dw
 have hjl:=(abl.1 hj).1
 have e:L.find? (fun p=>p.is k m n)=some p:=by
  rw [List.find?_eq_some_iff_getElem]
  refine ⟨hp,j,hjl,(abl.1 hj).2,fun i hi=>?_⟩
  have:=hno i L[i] hi (abr (by omega))
  simp [this]
 rw [e]
theorem QX {L:List bF} {k m n:Int} (hno:∀ (i:Nat) (q:bF),i<L.length->L[i]?=some q->q.is k m n=false):dw L k m n=0:=by
 unfold dw
 have e:L.find? (fun p=>p.is k m n)=none:=by
  rw [adi]
  intro p hp
  obtain ⟨i,hi⟩:=List.mem_iff_getElem?.1 hp
  have:=hno i p (abl.1 hi).1 hi
  simp [this]
 rw [e]
theorem I8 (p:bF) (k m n:Int):(p.is k m n=false/\(((p.k==k)=false/\(p.k != k)=true)\/(((p.k==k)=true/\(p.k != k)=false)/\((p.m==m)=false/\(p.m != m)=true))\/(((p.k==k)=true/\(p.k != k)=false)/\((p.m==m)=true/\(p.m != m)=false)/\((p.n==n)=false/\(p.n != n)=true)))) \/
 (p.is k m n=true/\((p.k==k)=true/\(p.k != k)=false)/\((p.m==m)=true/\(p.m != m)=false)/\((p.n==n)=true/\(p.n != n)=false)):=by
 unfold bF.is bne
 cases h1:p.k==k<;>cases h2:p.m==m<;>cases h3:p.n==n<;>simp
section
variable {F:Nat->Prop} {B:Nat} {c:aS} {S:List Int} {L:List bF} {vs vl:Value} {w:World}
theorem LZ (h:jP F B c S L vs vl w) (hl:L.length<=100000) (k m n:Int):Calls ay 24 #[ak B,ah k,ah m,ah n] w fun e w'=>e = .returned (ah (dw L k m n))/\w'=w:=by
 obtain ⟨a,aJ,rfl,hr,hcp⟩:=h.list
 have HR:=au hr
 have y8:=h.aC.cell 8 rfl
 obtain ⟨x,hx⟩:∃ x,x=dw L k m n:=⟨_,rfl⟩
 rw [<- hx]
 have HX:=au hx
 clear h hr hx hcp
 obtain ⟨N,hN⟩:∃ N,N=L.length:=⟨_,rfl⟩
 have HN:=au hN
 rw [<- hN] at y8 hl
 clear hN
 go_enter func24,ntmps24
 go_wp2_with fail
 go_loopg [9] N (fun g i wr=>∃ j:Nat,g+j=N/\i = ah j/\Hid (∀ (i:Nat) (q:bF),i<j->L[i]?=some q->q.is k m n=false)/\w=wr)
 case atStart=>exact ⟨0,rfl,rfl,(fun i q hi=>absurd hi (by omega)),rfl⟩
 case round =>
  obtain ⟨j,hg,rfl,XV,rfl⟩:=hrel
  by_cases hlt:j<N
  ·have hjN:j<L.length:=by rw [<- HN.out];exact hlt
   obtain ⟨b,off,rfl,p,hp,c0,c1,c2,c3⟩:=Dz HR.out j hjN
   have oz:(j:Int)<(N:Int):=by omega
   have hj0:(0:Int)<=(j:Int):=by omega
   have HP:=au hp
   clear hp
   have hic:=I8 p k m n
   have HIS:=au hic
   obtain ⟨pk,pm,pn,ph⟩:=p
   simp only at c0 c1 c2 c3 hic
   rcases hic with ⟨hi,hic⟩|⟨hi,⟨t1,t2⟩,⟨t3,t4⟩,t5,t6⟩
   ·have HI:=au hi
    clear hi hjN
    rcases hic with ⟨t1,t2⟩|⟨⟨t1,t2⟩,t3,t4⟩|⟨⟨t1,t2⟩,⟨t3,t4⟩,t5,t6⟩
    all_goals
     go_wp2_with fail
     go_roundg (gk - 1)
     case measure=>omega
     case rel=>exact ⟨j+1,by omega,by go_num,(fun i q hi hq=>by
      rcases Nat.lt_or_ge i j with h|h
      ·exact XV.out i q h hq
      ·obtain rfl:i=j:=by omega
       have e:=HP.out
       rw [hq] at e
       cases e
       exact HI.out),rfl⟩
   ·have HI:=au hi
    clear hi hjN
    have HE:=Wj HP.out HI.out XV.out
    have HE2:Hid (x=ph):=by rw [Hid,HX.out,HE]
    clear HE
    go_wp2_with fail
    go_ret
    exact ⟨by rw [HE2.out];rfl,rfl⟩
  ·obtain rfl:j=N:=by omega
   have HE2:Hid (x=0):=by rw [Hid,HX.out];exact QX (by rw [<- HN.out];exact XV.out)
   go_wp2_with fail
   go_ret
   exact ⟨by rw [HE2.out];rfl,rfl⟩
end
theorem I9 (O:List bF) (p:bF):AB (O++[p])=AB O++p.cells:=by simp [AB]
theorem KH {L:List bF} {j:Nat} {p:bF} (hp:L[j]?=some p) (k m n:Int):(L.take (j+1)).filter (fun p => !p.is k m n)=(L.take j).filter (fun p => !p.is k m n)++(if p.is k m n=true then [] else [p]):=by
 have hj:=(abl.1 hp).1
 have he:=(abl.1 hp).2
 rw [List.take_succ_eq_append_getElem hj,he,List.filter_append]
 cases h:p.is k m n<;>simp [h]
section
variable {F:Nat->Prop} {B:Nat} {c:aS} {S:List Int} {L:List bF} {vs vl:Value} {w:World}
theorem Ja (h:jP F B c S L vs vl w) (hF:∀ k,w.heap.size<=k->F k) (hl:L.length<=100000) (k m n x:Int):Calls ay 48 #[ak B,ah k,ah m,ah n,ah x] w fun e w' =>
 e = .returned (.tuple #[])/\(∃ zF,jP F B c S (fJ L k m n x) vs zF w')/\aj (only B) w w':=by
 obtain ⟨a,aJ,rfl,hr,hcp⟩:=h.list
 have HR:=au hr
 have y8:=h.aC.cell 8 rfl
 have HH:=au h
 have HF:=au hF
 have L6:Hid (B<w.heap.size):=h.aC.lt
 clear h hr hcp hF
 obtain ⟨N,hN⟩:∃ N,N=L.length:=⟨_,rfl⟩
 have HN:=au hN
 rw [<- hN] at y8 hl
 clear hN
 have Y3:Hid (∀ j,((L.take j).filter (fun p => !p.is k m n)).length<=100000):=fun j=>by
  have h1:=adv (fun p:bF => !p.is k m n) (L.take j)
  have h2:(L.take j).length<=L.length:=by rw [List.length_take];exact Nat.min_le_right _ _
  have:=HN.out
  omega
 have H0:Hid (w.ownsRow w.heap.size 115 4 (.slice none 0 0) ([]:List bF).length (AB [])):=⟨rfl,.inl ⟨rfl,rfl⟩⟩
 have jZ:Hid (aj aA w w):=aj.refl _ _
 go_enter func48,ntmps48
 go_wp2_with fail
 go_loopg [10,11] N (fun g s10 i wr=>∃ (j:Nat) (O:List bF) (v:Value),g+j=N/\i = ah j/\v=s10/\Hid (O=(L.take j).filter (fun p => !p.is k m n))/\Hid (wr.ownsRow w.heap.size 115 4 v O.length (AB O))/\Hid (aj aA w wr))
 case atStart=>exact ⟨0,[],_,rfl,rfl,rfl,rfl,H0,jZ⟩
 case round =>
  clear H0 jZ
  obtain ⟨j,O,v,hg,rfl,hv,HO,HW,HK⟩:=hrel
  subst hv
  have y8':wr.cell? ⟨B,8,none⟩=some (.slice a N aJ):=HK.out.still y8
  have wP:Hid (O.length<=100000000000):=by have:=Y3.out j;rw [<- HO.out] at this;unfold Hid;omega
  have HB:Hid (w.heap.size<=wr.heap.size):=HK.out.size
  by_cases hlt:j<N
  ·have hjN:j<L.length:=by rw [<- HN.out];exact hlt
   obtain ⟨b,off,rfl,p,hp,c0,c1,c2,c3⟩:=Dz (HR.out.below HK.out) j hjN
   have oz:(j:Int)<(N:Int):=by omega
   have hj0:(0:Int)<=(j:Int):=by omega
   have HFS:=au (KH hp k m n)
   have hic:=I8 p k m n
   have AA:=au (I9 O p)
   obtain ⟨pk,pm,pn,ph⟩:=p
   simp only at c0 c1 c2 c3 hic
   rcases hic with ⟨hi,hic⟩|⟨hi,⟨t1,t2⟩,⟨t3,t4⟩,t5,t6⟩
   ·have HI:=au hi
    have HU:Hid (∀ u∈[Value.int .i64 pk,ah pm,ah pn,ah ph],u.oneCell'=true):=fun u hu=>by
     simp at hu
     rcases hu with rfl|rfl|rfl|rfl<;>rfl
    have oP:Hid (O++[(⟨pk,pm,pn,ph⟩:bF)]=(L.take (j+1)).filter (fun p => !p.is k m n)):=by
     rw [Hid,HFS.out,aO (by rw [HI.out];decide),<- HO.out]
    clear hi hjN hp
    rcases hic with ⟨t1,t2⟩|⟨⟨t1,t2⟩,t3,t4⟩|⟨⟨t1,t2⟩,⟨t3,t4⟩,t5,t6⟩
    all_goals
     go_wp2_with (at_builtin;refine LD rfl (.tmp 55) (.tmp 63) 36 rfl Tryz.underlying36 Tryz.infoPlace rfl (by decide) rfl HW.out (us:=[ah pk,ah pm,ah pn,ah ph]) rfl rfl rfl HU.out (by decide) wP.out HB.out ?_;intro v1 w1 hown1 hgrow1)
     have aZ:=au (HK.out.RS HW.out (Nat.le_refl _) hgrow1)
     have HW1:Hid (w1.ownsRow w.heap.size 115 4 v1 (O++[(⟨pk,pm,pn,ph⟩:bF)]).length (AB (O++[⟨pk,pm,pn,ph⟩]))):=by
      rw [AA.out,adu]
      exact hown1
     clear hown1 hgrow1
     go_wp2_with fail
     go_roundg (gk - 1)
     case measure=>omega
     case rel=>exact ⟨j+1,_,v1,by omega,by go_num,rfl,oP,HW1,aZ⟩
   ·have oP:Hid (O=(L.take (j+1)).filter (fun p => !p.is k m n)):=by
     rw [Hid,HFS.out,aV hi,adw,<- HO.out]
    clear hi hjN hp
    go_wp2_with fail
    go_roundg (gk - 1)
    case measure=>omega
    case rel=>exact ⟨j+1,_,_,by omega,by go_num,rfl,oP,HW,HK⟩
  ·obtain rfl:j=N:=by omega
   have GZ:Hid (O=L.filter (fun p => !p.is k m n)):=by
    rw [Hid,HO.out,HN.out,List.take_length]
   have z8:wr.frozen? ⟨B,8,none⟩=false:=(HK.out.aC HH.out.aC (fun f=>f)).free 8
   have fin:∀ (W:World) (v':Value),W.ownsRow w.heap.size 115 4 v' (fJ L k m n x).length (AB (fJ L k m n x))->aj aA w W ->
    (∃ zF,jP F B c S (fJ L k m n x) vs zF (W.setCell ⟨B,8,none⟩ v'))/\aj (only B) w (W.setCell ⟨B,8,none⟩ v'):=fun W v' ho hk=>by
    have hh:=HH.out.still hk
    have hBL:=L6.out
    have hlt:=World.ownsRow.lt ho
    refine ⟨⟨v',hh.aC.set 8 v',?_,?_,hh.fB,hh.fs,fun q hq=>HF.out q (hlt q hq).1⟩,(hk.mono (fun _ _ f=>f.elim)).put 8 v'⟩
    ·refine ownsRow_setCell_other hh.qC (fun e=>?_) v'
     exact jY hh.aC hh.qC (by decide) e
    ·refine ownsRow_setCell_other (dF ho (Nat.zero_le _)) (fun e=>?_) v'
     have:=(hlt _ e).1
     simp only at this
     omega
   have rD:=au fin
   clear fin
   by_cases hx:x=0
   ·have hx1:(x != 0)=false:=by simp [hx]
    have Va:Hid (fJ L k m n x=O):=by rw [Hid,fJ,aV hx,adw,<- GZ.out]
    obtain ⟨a1,c1,rfl,-,-⟩:=iL.qc HW.out (BH O) (by simp)
    clear hx
    go_wp2_with fail
    go_end0
    rw [Va.out] at rD
    rw [Va.out]
    exact ⟨rfl,rD.out _ _ HW.out HK.out⟩
   ·have hx1:(x != 0)=true:=by simpa using hx
    have Va:Hid (fJ L k m n x=O++[⟨k,m,n,x⟩]):=by rw [Hid,fJ,aO hx,<- GZ.out]
    have AA:=au (I9 O ⟨k,m,n,x⟩)
    have HU:Hid (∀ u∈[Value.int .i64 k,ah m,ah n,ah x],u.oneCell'=true):=fun u hu=>by
     simp at hu
     rcases hu with rfl|rfl|rfl|rfl<;>rfl
    clear hx
    go_wp2_with (at_builtin;refine LD rfl (.tmp 67) (.tmp 73) 36 rfl Tryz.underlying36 Tryz.infoPlace rfl (by decide) rfl HW.out (us:=[ah k,ah m,ah n,ah x]) rfl rfl rfl HU.out (by decide) wP.out HB.out ?_;intro v1 w1 hown1 hgrow1;have aZ:=au (HK.out.RS HW.out (Nat.le_refl _) hgrow1);have HW1:Hid (w1.ownsRow w.heap.size 115 4 v1 (fJ L k m n x).length (AB (fJ L k m n x))):=(by rw [Va.out,AA.out,adu];exact hown1);have aaZ:w1.cell? ⟨B,8,none⟩=some (.slice a j aJ):=aZ.out.still y8;have abb:w1.frozen? ⟨B,8,none⟩=false:=(aZ.out.aC HH.out.aC (fun f=>f)).free 8;clear hown1 hgrow1;obtain ⟨a1,c1,rfl,-,-⟩:=iL.qc HW1.out (BH _) (by simp))
    go_end0
    exact ⟨rfl,rD.out _ _ HW1.out aZ.out⟩
end
end
section
open Go.RowKit
theorem OD (c:aS) (w:World):Calls ay 41 #[.agg c.cells.toArray] w fun e w'=>e = .returned (.bool c.ok)/\aj aA w w':=by
 obtain ⟨b,ww,m,r,cc,l,s⟩:=c
 obtain ⟨b0,h0⟩:∃ x,x=decide (1<=b/\b<=4096):=⟨_,rfl⟩
 obtain ⟨b1,h1⟩:∃ x,x=decide (16<=ww/\ww<=256):=⟨_,rfl⟩
 obtain ⟨b2,h2⟩:∃ x,x=decide (1<=m/\m<=8):=⟨_,rfl⟩
 obtain ⟨b3,h3⟩:∃ x,x=decide (1<=r/\r<=64):=⟨_,rfl⟩
 obtain ⟨b4,h4⟩:∃ x,x=decide (0<=cc/\cc<=64):=⟨_,rfl⟩
 obtain ⟨b5,h5⟩:∃ x,x=decide (1<=l/\l<=256):=⟨_,rfl⟩
 obtain ⟨b6,h6⟩:∃ x,x=decide (1<=s/\s<=4096):=⟨_,rfl⟩
 have e:aS.ok ⟨b,ww,m,r,cc,l,s⟩=(b0&&b1&&b2&&b3&&b4&&b5&&b6):=by rw [h0,h1,h2,h3,h4,h5,h6];rfl
 have HW:Hid (∀ x lo hi y W,y=decide (lo<=x/\x<=hi)->Calls ay 71 #[ah x,ah lo,ah hi] W fun e w'=>e = .returned (.bool y)/\W=w'):=fun x lo hi y W hy=>by
  rw [hy,Bool.decide_and];exact (O4 x lo hi W).mono (fun _ _ h=>⟨h.1,h.2.symm⟩)
 have H:=au (And.intro h0 (And.intro h1 (And.intro h2 (And.intro h3 (And.intro h4 (And.intro h5 h6))))))
 clear h0 h1 h2 h3 h4 h5 h6
 rw [e]
 clear e
 simp only [aS.cells]
 obtain ⟨W0,hW0⟩:∃ W',W'=w.alloc (.cells #[ah b,ah ww,ah m,ah r,ah cc,ah l,ah s] 23):=⟨_,rfl⟩
 have HK:Hid (aj aA w W0):=by rw [hW0];exact (aj.refl _ _).alloc _
 have HA:Hid (aB W0 w.heap.size [ah b,ah ww,ah m,ah r,ah cc,ah l,ah s] 23):=by rw [hW0];exact aB.aW w _ _
 have d0:=HA.out.cell 0 rfl;have d1:=HA.out.cell 1 rfl;have d2:=HA.out.cell 2 rfl;have d3:=HA.out.cell 3 rfl;have d4:=HA.out.cell 4 rfl;have d5:=HA.out.cell 5 rfl;have d6:=HA.out.cell 6 rfl
 have mO:Hid (Calls ay 71 #[ah b,ah 1,ah 4096] W0 fun e w'=>e = .returned (.bool b0)/\W0=w'):=HW.out _ _ _ _ _ H.out.1
 have nH:Hid (Calls ay 71 #[ah ww,ah 16,ah 256] W0 fun e w'=>e = .returned (.bool b1)/\W0=w'):=HW.out _ _ _ _ _ H.out.2.1
 have HC2:Hid (Calls ay 71 #[ah m,ah 1,ah 8] W0 fun e w'=>e = .returned (.bool b2)/\W0=w'):=HW.out _ _ _ _ _ H.out.2.2.1
 have HC3:Hid (Calls ay 71 #[ah r,ah 1,ah 64] W0 fun e w'=>e = .returned (.bool b3)/\W0=w'):=HW.out _ _ _ _ _ H.out.2.2.2.1
 have UN:Hid (Calls ay 71 #[ah cc,ah 0,ah 64] W0 fun e w'=>e = .returned (.bool b4)/\W0=w'):=HW.out _ _ _ _ _ H.out.2.2.2.2.1
 have HC5:Hid (Calls ay 71 #[ah l,ah 1,ah 256] W0 fun e w'=>e = .returned (.bool b5)/\W0=w'):=HW.out _ _ _ _ _ H.out.2.2.2.2.2.1
 have PX:Hid (Calls ay 71 #[ah s,ah 1,ah 4096] W0 fun e w'=>e = .returned (.bool b6)/\W0=w'):=HW.out _ _ _ _ _ H.out.2.2.2.2.2.2
 clear HW H HA
 have HW0:=au hW0
 clear hW0
 go_enter func41,ntmps41
 go_wp2_with fail
 rw [<- HW0.out]
 refine mO.out.mono ?_
 rintro e w1 ⟨rfl,rfl⟩
 cases b0 with
 | false =>
   go_wp2_with fail
   go_ret
   exact ⟨rfl,HK.out⟩
 | true =>
 go_wp2_with fail
 refine nH.out.mono ?_
 rintro e w1 ⟨rfl,rfl⟩
 cases b1 with
 | false =>
   go_wp2_with fail
   go_ret
   exact ⟨rfl,HK.out⟩
 | true =>
 go_wp2_with fail
 refine HC2.out.mono ?_
 rintro e w1 ⟨rfl,rfl⟩
 cases b2 with
 | false =>
   go_wp2_with fail
   go_ret
   exact ⟨rfl,HK.out⟩
 | true =>
 go_wp2_with fail
 refine HC3.out.mono ?_
 rintro e w1 ⟨rfl,rfl⟩
 cases b3 with
 | false =>
   go_wp2_with fail
   go_ret
   exact ⟨rfl,HK.out⟩
 | true =>
 go_wp2_with fail
 refine UN.out.mono ?_
 rintro e w1 ⟨rfl,rfl⟩
 cases b4 with
 | false =>
   go_wp2_with fail
   go_ret
   exact ⟨rfl,HK.out⟩
 | true =>
 go_wp2_with fail
 refine HC5.out.mono ?_
 rintro e w1 ⟨rfl,rfl⟩
 cases b5 with
 | false =>
   go_wp2_with fail
   go_ret
   exact ⟨rfl,HK.out⟩
 | true =>
 go_wp2_with fail
 refine PX.out.mono ?_
 rintro e w1 ⟨rfl,rfl⟩
 go_wp2_with fail
 go_ret
 exact ⟨by simp,HK.out⟩
end
section
open Go.RowKit Go.Sort
theorem yc {k:Int} (h:kD k=true):k=1\/k=2\/k=3\/k=4\/k=5\/k=6\/k=7\/k=8:=by
 simp [kD] at h
 omega
theorem TV {k:Int} (h:kD k=false):(k==1)=false/\(k==2)=false/\(k==3)=false/\(k==4)=false/\(k==5)=false/\(k==6)=false/\(k==7)=false/\(k==8)=false:=by
 simp [kD] at h
 simp
 omega
theorem QY (k:Int) (w:World):Calls ay 42 #[ah k] w fun e w'=>e = .returned (.string ⟨(xJ k).toArray⟩)/\w=w':=by
 cases h:kD k with
 | false =>
   have HE:Hid (xJ k=[]):=by simp [Hid,xJ,h]
   obtain ⟨h1,h2,h3,h4,h5,h6,h7,h8⟩:=TV h
   rw [HE.out]
   clear h
   go_enter func42,ntmps42
   go_wp2_with fail
   go_ret
   exact ⟨rfl,rfl⟩
 | true =>
   rcases yc h with rfl|rfl|rfl|rfl|rfl|rfl|rfl|rfl
   all_goals
    go_enter func42,ntmps42
    go_wp2_with fail
    go_ret
    exact ⟨rfl,rfl⟩
def dU (n below:Int):Bool:=decide (n<0)||decide (below<=n)
theorem o9 (cur n below e:Int):bY cur n below e=if cur=0/\dU n below=true then e else cur:=by
 unfold bY dU
 simp
theorem rO (n below e:Int):bY 0 n below e=if dU n below=true then e else 0:=by
 rw [o9]
 simp
section
variable {c:aS} (hok:c.ok=true) (a b t:Int)
include hok
theorem chk1:dG c ⟨1,a,b,t⟩=if dU a c.r=true then 5 else if dU b 16=true then 8 else 0:=by
 have e:dG c ⟨1,a,b,t⟩=bY (bY 0 a c.r 5) b 16 8:=by
  unfold dG
  rw [hok]
  rfl
 rw [e,rO,o9]
 cases dU a c.r<;>simp
theorem chk2 (k:Int) (hk:k=2\/k=7):dG c ⟨k,a,b,t⟩=if dU a c.r=true then 5 else if dU b c.r=true then 5 else 0:=by
 rcases hk with rfl|rfl
 ·have e:dG c ⟨2,a,b,t⟩=bY (bY 0 a c.r 5) b c.r 5:=by
   unfold dG
   rw [hok]
   rfl
  rw [e,rO,o9]
  cases dU a c.r<;>simp
 ·have e:dG c ⟨7,a,b,t⟩=bY (bY 0 a c.r 5) b c.r 5:=by
   unfold dG
   rw [hok]
   rfl
  rw [e,rO,o9]
  cases dU a c.r<;>simp
theorem chk3:dG c ⟨3,a,b,t⟩=if dU a c.r=true then 5 else if dU t c.r=true then 5 else 0:=by
 have e:dG c ⟨3,a,b,t⟩=bY (bY 0 a c.r 5) t c.r 5:=by
  unfold dG
  rw [hok]
  rfl
 rw [e,rO,o9]
 cases dU a c.r<;>simp
theorem chk4:dG c ⟨4,a,b,t⟩=if dU a c.r=true then 5 else if dU b c.c=true then 9 else 0:=by
 have e:dG c ⟨4,a,b,t⟩=bY (bY 0 a c.r 5) b c.c 9:=by
  unfold dG
  rw [hok]
  rfl
 rw [e,rO,o9]
 cases dU a c.r<;>simp
theorem chk5:dG c ⟨5,a,b,t⟩=if dU a c.c=true then 9 else if dU b c.r=true then 5 else 0:=by
 have e:dG c ⟨5,a,b,t⟩=bY (bY 0 a c.c 9) b c.r 5:=by
  unfold dG
  rw [hok]
  rfl
 rw [e,rO,o9]
 cases dU a c.c<;>simp
theorem chk6:dG c ⟨6,a,b,t⟩=if dU a c.r=true then 5 else 0:=by
 have e:dG c ⟨6,a,b,t⟩=bY 0 a c.r 5:=by
  unfold dG
  rw [hok]
  rfl
 rw [e,rO]
theorem chk8:dG c ⟨8,a,b,t⟩=0:=by
 unfold dG
 rw [hok]
 rfl
end
theorem DC (c:aS) (o:bQ) (w:World):Calls ay 12 #[.agg c.cells.toArray,.agg o.cells.toArray] w fun e w'=>e = .returned (ah (dG c o))/\aj aA w w':=by
 have HR:=au (fun W=>OD c W)
 obtain ⟨W0,hW0⟩:∃ W',W'=(w.alloc (.cells c.cells.toArray 23)).alloc (.cells o.cells.toArray 45):=⟨_,rfl⟩
 have jZ:Hid (aj aA w W0):=by rw [hW0];exact ((aj.refl _ _).alloc _).alloc _
 have mO:Hid (aB W0 w.heap.size c.cells 23):=by rw [hW0];exact (aB.aW w _ _).alloc _
 have Cb:Hid (aB W0 (w.heap.size+1) o.cells 45):=by rw [hW0];have h:=aB.aW (w.alloc (.cells c.cells.toArray 23)) o.cells 45;simp only [World.size_alloc] at h;exact h
 have HW:=au (fun W=>QY o.k W)
 obtain ⟨z,hz⟩:∃ z,z=dG c o:=⟨_,rfl⟩
 rw [<- hz]
 have HZ:=au hz
 clear hz
 obtain ⟨c0,c1,c2,c3,c4,c5,c6⟩:=c
 obtain ⟨k,a,b,t⟩:=o
 simp only [aS.cells,bQ.cells] at mO Cb hW0 HR HW ⊢
 have y0:=mO.out.cell 0 rfl;have y1:=mO.out.cell 1 rfl;have y2:=mO.out.cell 2 rfl;have y3:=mO.out.cell 3 rfl;have y4:=mO.out.cell 4 rfl;have y5:=mO.out.cell 5 rfl;have y6:=mO.out.cell 6 rfl
 go_enter func12,ntmps12
 go_wp2_with fail
 rw [<- hW0]
 clear hW0
 refine (HR.out W0).mono ?_
 rintro e W1 ⟨rfl,hk1⟩
 have aZ:=au (jZ.out.trans hk1)
 have nH:=au (hk1.aC mO.out (fun f=>f))
 have lD:=au (hk1.aC Cb.out (fun f=>f))
 clear hk1 jZ mO Cb HR y0 y1 y2 y3 y4 y5 y6
 generalize w.heap.size=C at *
 cases hok:aS.ok ⟨c0,c1,c2,c3,c4,c5,c6⟩ with
 | false =>
   have HE:Hid (z=1):=by rw [Hid,HZ.out];simp [dG,hok]
   clear hok
   go_wp2_with fail
   go_ret
   exact ⟨by rw [HE.out];rfl,aZ.out⟩
 | true =>
   have x0:=lD.out.cell 0 rfl
   cases hik:kD k with
   | false =>
     have HE:Hid (z=1):=by rw [Hid,HZ.out];simp [dG,hik]
     have hwl:xJ k=[]:=by simp [xJ,hik]
     have QZ:=au (HW.out W1)
     rw [hwl] at QZ
     clear hok hik hwl
     go_wp2_with (go_at_call 42;refine QZ.out.mono ?_;rintro e w2 ⟨rfl,rfl⟩)
     go_ret
     exact ⟨by rw [HE.out];rfl,aZ.out⟩
   | true =>
     have yB:=au hok
     have DF:=au hik
     have QZ:=au (HW.out W1)
     have hwn:((⟨(xJ k).toArray⟩:ByteArray).toList).isEmpty=false:=by
      rcases yc hik with rfl|rfl|rfl|rfl|rfl|rfl|rfl|rfl<;>kernel_rfl
     clear hok hik
     generalize (⟨(xJ k).toArray⟩:ByteArray)=wd at *
     go_wp2_with (go_at_call 42;refine QZ.out.mono ?_;rintro e w2 ⟨rfl,rfl⟩)
     clear QZ HW hwn x0
     go_cut [5,6,7] (fun s5 s6 s7 wx=>s5 = .bool (dU a c3)/\s6 = .bool (dU b c3)/\s7 = .bool (dU t c3)/\Hid (aj aA W1 wx))
     case first =>
      have x1:=lD.out.cell 1 rfl;have x2:=lD.out.cell 2 rfl;have x3:=lD.out.cell 3 rfl
      have y3:=nH.out.cell 3 rfl
      have key:∀ n:Int,(decide (n<0)=true/\Hid (dU n c3=true))\/(decide (n<0)=false/\Hid (dU n c3=decide (c3<=n))):=fun n=>by
       by_cases h:n<0
       ·exact .inl ⟨cZ h,by simp [Hid,dU,h]⟩
       ·exact .inr ⟨dD h,by simp [Hid,dU,h]⟩
      have KA:=au (key a)
      have KB:=au (key b)
      have KT:=au (key t)
      clear key
      rcases KA.out with ⟨ha,HA⟩|⟨ha,HA⟩<;>rcases KB.out with ⟨hb,HB⟩|⟨hb,HB⟩<;>rcases KT.out with ⟨ht,HT⟩|⟨ht,HT⟩
      all_goals
       go_quiet (fail)
       go_wp2_with fail
       go_meet
       case rel=>exact ⟨by rw [HA.out],by rw [HB.out],by rw [HT.out],(aj.refl _ _).drewN _⟩
     case rest =>
      obtain ⟨rfl,rfl,rfl,zG⟩:=hcut
      have mV:=au (aZ.out.trans zG.out)
      have lS:=au (zG.out.aC lD.out (fun f=>f))
      have sZ:=au (zG.out.aC nH.out (fun f=>f))
      have hA1:a<0\/¬ a<0:=by omega
      have hB1:b<0\/¬ b<0:=by omega
      clear aZ lD nH
      rcases yc DF.out with rfl|rfl|rfl|rfl|rfl|rfl|rfl|rfl
      ·have HE:Hid (z=_):=HZ.out.trans (chk1 yB.out a b t)
       have x0:=lS.out.cell 0 rfl;have x1:=lS.out.cell 1 rfl;have x2:=lS.out.cell 2 rfl;have y4:=sZ.out.cell 4 rfl
       clear zG lS sZ DF
       generalize hnA:dU a c3=A at *
       clear hnA
       generalize hnB:dU b c3=B at *
       clear hnB
       generalize uY:dU t c3=T at *
       clear uY
       cases A with
       | true =>
         go_wp2_with fail
         go_ret
         exact ⟨by rw [HE.out];rfl,mV.out⟩
       | false =>
         rcases hB1 with h|h
         ·have hs:dU b 16=true:=by simp [dU,h]
          have d1:decide (b<0)=true:=cZ h
          rw [hs] at HE
          go_wp2_with fail
          go_ret
          exact ⟨by rw [HE.out];rfl,mV.out⟩
         ·have d1:decide (b<0)=false:=dD h
          by_cases h2:16<=b
          ·have hs:dU b 16=true:=by simp [dU,h2]
           have d2:decide (15<b)=true:=cZ (by omega)
           rw [hs] at HE
           go_wp2_with fail
           go_ret
           exact ⟨by rw [HE.out];rfl,mV.out⟩
          ·have hs:dU b 16=false:=by simp [dU];omega
           have d2:decide (15<b)=false:=dD (by omega)
           rw [hs] at HE
           go_wp2_with fail
           go_ret
           exact ⟨by rw [HE.out];rfl,mV.out⟩
      ·have HE:Hid (z=_):=HZ.out.trans (chk2 yB.out a b t 2 (.inl rfl))
       have x0:=lS.out.cell 0 rfl;have x1:=lS.out.cell 1 rfl;have x2:=lS.out.cell 2 rfl;have y4:=sZ.out.cell 4 rfl
       clear zG lS sZ DF
       generalize hnA:dU a c3=A at *
       clear hnA
       generalize hnB:dU b c3=B at *
       clear hnB
       generalize uY:dU t c3=T at *
       clear uY
       cases A with
       | true =>
         go_wp2_with fail
         go_ret
         exact ⟨by rw [HE.out];rfl,mV.out⟩
       | false =>
         cases B with
         | true =>
           go_wp2_with fail
           go_ret
           exact ⟨by rw [HE.out];rfl,mV.out⟩
         | false =>
           go_wp2_with fail
           go_ret
           exact ⟨by rw [HE.out];rfl,mV.out⟩
      ·have HE:Hid (z=_):=HZ.out.trans (chk3 yB.out a b t)
       have x0:=lS.out.cell 0 rfl;have x1:=lS.out.cell 1 rfl;have x2:=lS.out.cell 2 rfl;have y4:=sZ.out.cell 4 rfl
       clear zG lS sZ DF
       generalize hnA:dU a c3=A at *
       clear hnA
       generalize hnB:dU b c3=B at *
       clear hnB
       generalize uY:dU t c3=T at *
       clear uY
       cases A with
       | true =>
         go_wp2_with fail
         go_ret
         exact ⟨by rw [HE.out];rfl,mV.out⟩
       | false =>
         cases T with
         | true =>
           go_wp2_with fail
           go_ret
           exact ⟨by rw [HE.out];rfl,mV.out⟩
         | false =>
           go_wp2_with fail
           go_ret
           exact ⟨by rw [HE.out];rfl,mV.out⟩
      ·have HE:Hid (z=_):=HZ.out.trans (chk4 yB.out a b t)
       have x0:=lS.out.cell 0 rfl;have x1:=lS.out.cell 1 rfl;have x2:=lS.out.cell 2 rfl;have y4:=sZ.out.cell 4 rfl
       clear zG lS sZ DF
       generalize hnA:dU a c3=A at *
       clear hnA
       generalize hnB:dU b c3=B at *
       clear hnB
       generalize uY:dU t c3=T at *
       clear uY
       cases A with
       | true =>
         go_wp2_with fail
         go_ret
         exact ⟨by rw [HE.out];rfl,mV.out⟩
       | false =>
         rcases hB1 with h|h
         ·have hs:dU b c4=true:=by simp [dU,h]
          have d1:decide (b<0)=true:=cZ h
          rw [hs] at HE
          go_wp2_with fail
          go_ret
          exact ⟨by rw [HE.out];rfl,mV.out⟩
         ·have d1:decide (b<0)=false:=dD h
          by_cases h2:c4<=b
          ·have hs:dU b c4=true:=by simp [dU,h2]
           have d2:decide (c4<=b)=true:=cZ (by omega)
           rw [hs] at HE
           go_wp2_with fail
           go_ret
           exact ⟨by rw [HE.out];rfl,mV.out⟩
          ·have hs:dU b c4=false:=by simp [dU];omega
           have d2:decide (c4<=b)=false:=dD (by omega)
           rw [hs] at HE
           go_wp2_with fail
           go_ret
           exact ⟨by rw [HE.out];rfl,mV.out⟩
      ·have HE:Hid (z=_):=HZ.out.trans (chk5 yB.out a b t)
       have x0:=lS.out.cell 0 rfl;have x1:=lS.out.cell 1 rfl;have x2:=lS.out.cell 2 rfl;have y4:=sZ.out.cell 4 rfl
       clear zG lS sZ DF
       generalize hnA:dU a c3=A at *
       clear hnA
       generalize hnB:dU b c3=B at *
       clear hnB
       generalize uY:dU t c3=T at *
       clear uY
       cases B with
       | true =>
         rcases hA1 with h|h
         ·have hs:dU a c4=true:=by simp [dU,h]
          have d1:decide (a<0)=true:=cZ h
          rw [hs] at HE
          go_wp2_with fail
          go_ret
          exact ⟨by rw [HE.out];rfl,mV.out⟩
         ·have d1:decide (a<0)=false:=dD h
          by_cases h2:c4<=a
          ·have hs:dU a c4=true:=by simp [dU,h2]
           have d2:decide (c4<=a)=true:=cZ (by omega)
           rw [hs] at HE
           go_wp2_with fail
           go_ret
           exact ⟨by rw [HE.out];rfl,mV.out⟩
          ·have hs:dU a c4=false:=by simp [dU];omega
           have d2:decide (c4<=a)=false:=dD (by omega)
           rw [hs] at HE
           go_wp2_with fail
           go_ret
           exact ⟨by rw [HE.out];rfl,mV.out⟩
       | false =>
         rcases hA1 with h|h
         ·have hs:dU a c4=true:=by simp [dU,h]
          have d1:decide (a<0)=true:=cZ h
          rw [hs] at HE
          go_wp2_with fail
          go_ret
          exact ⟨by rw [HE.out];rfl,mV.out⟩
         ·have d1:decide (a<0)=false:=dD h
          by_cases h2:c4<=a
          ·have hs:dU a c4=true:=by simp [dU,h2]
           have d2:decide (c4<=a)=true:=cZ (by omega)
           rw [hs] at HE
           go_wp2_with fail
           go_ret
           exact ⟨by rw [HE.out];rfl,mV.out⟩
          ·have hs:dU a c4=false:=by simp [dU];omega
           have d2:decide (c4<=a)=false:=dD (by omega)
           rw [hs] at HE
           go_wp2_with fail
           go_ret
           exact ⟨by rw [HE.out];rfl,mV.out⟩
      ·have HE:Hid (z=_):=HZ.out.trans (chk6 yB.out a b t)
       have x0:=lS.out.cell 0 rfl;have x1:=lS.out.cell 1 rfl;have x2:=lS.out.cell 2 rfl;have y4:=sZ.out.cell 4 rfl
       clear zG lS sZ DF
       generalize hnA:dU a c3=A at *
       clear hnA
       generalize hnB:dU b c3=B at *
       clear hnB
       generalize uY:dU t c3=T at *
       clear uY
       cases A with
       | true =>
         go_wp2_with fail
         go_ret
         exact ⟨by rw [HE.out];rfl,mV.out⟩
       | false =>
         go_wp2_with fail
         go_ret
         exact ⟨by rw [HE.out];rfl,mV.out⟩
      ·have HE:Hid (z=_):=HZ.out.trans (chk2 yB.out a b t 7 (.inr rfl))
       have x0:=lS.out.cell 0 rfl;have x1:=lS.out.cell 1 rfl;have x2:=lS.out.cell 2 rfl;have y4:=sZ.out.cell 4 rfl
       clear zG lS sZ DF
       generalize hnA:dU a c3=A at *
       clear hnA
       generalize hnB:dU b c3=B at *
       clear hnB
       generalize uY:dU t c3=T at *
       clear uY
       cases A with
       | true =>
         go_wp2_with fail
         go_ret
         exact ⟨by rw [HE.out];rfl,mV.out⟩
       | false =>
         cases B with
         | true =>
           go_wp2_with fail
           go_ret
           exact ⟨by rw [HE.out];rfl,mV.out⟩
         | false =>
           go_wp2_with fail
           go_ret
           exact ⟨by rw [HE.out];rfl,mV.out⟩
      ·have HE:Hid (z=_):=HZ.out.trans (chk8 yB.out a b t)
       have x0:=lS.out.cell 0 rfl;have x1:=lS.out.cell 1 rfl;have x2:=lS.out.cell 2 rfl;have y4:=sZ.out.cell 4 rfl
       clear zG lS sZ DF
       generalize hnA:dU a c3=A at *
       clear hnA
       generalize hnB:dU b c3=B at *
       clear hnB
       generalize uY:dU t c3=T at *
       clear uY
       go_wp2_with fail
       go_ret
       exact ⟨by rw [HE.out];rfl,mV.out⟩
end
section
attribute [local go_sem ↓] mD
open Go.RowKit Go.Sort
theorem TW {w:World} {s:Nat} {e:TypeId} {v:Value} {n:Nat} {xs:List Value} (h:w.ownsRow 0 e 1 v n xs) (hs:∀ k,v.ownBlock=some k->s<=k):w.ownsRow s e 1 v n xs:=by
 refine ⟨h.1,?_⟩
 rcases h.2 with h1|⟨g,aJ,cur,rfl,_,h1⟩
 ·exact .inl h1
 ·exact .inr ⟨g,aJ,cur,rfl,hs g rfl,h1⟩
end
end Go.Proofs.YtobfpmijbfgmeabGreatDoor
