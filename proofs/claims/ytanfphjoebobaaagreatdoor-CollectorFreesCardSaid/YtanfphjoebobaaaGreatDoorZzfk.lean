/- Parts of the iy. No conditions. -/
import Derived.Test.YtanfphjoebobaaaGreatDoorZzfj
namespace Go.Proofs.YtanfphjoebobaaaGreatDoor
open _root_.Go.World renaming drew->ajr
open _root_.List renaming drop_succ_cons->ajt,drop_zero->ajn,getElem?_eq_getElem->ajh,length_pos_iff->akM,take_zero->ajs
open _root_.Go.Proofs.Tryz hiding prog
open _root_.Go.Proofs.Tryz renaming prog->aA
set_option maxRecDepth 4000
set_option maxHeartbeats 4000000
section
open Go.RowKit
structure MG where
 M:Nat
 X:Nat
 Bf:Nat
 Nt:Nat
def EL:Option Ev->List Value
 | none=>[ah 0,ah 0,ah 0,ah 0,ah 0,ah 0,.bool false]
 | some e=>[ah 0,ah (e.qX:Int),ah (e.kind:Int),ah (e.op:Int),ah e.code,ah (e.value:Int),.bool true]
def sK (G:fU) (g:MG) (m:MS) (ev:Option Ev) (pv rv nv:Value):List Value :=
 aJ G.S::m.c.cells++[ah (m.id:Int),.slice (some ⟨g.X,0,none⟩) m.aW.length m.aW.length,aJ g.Bf,aJ g.Nt,ah (m.oq:Int),ah (m.aP:Int),ah (m.dQ:Int),pv,rv,nv,ah (m.held:Int),ah (m.aU:Int),ah (m.most0:Int),ah (m.most1:Int),.bool m.mg]++EL ev
def xw (o:Ow) (w:World) (v:Value) (prog:List jy):Prop :=
 ∃ a c,v = .slice a prog.length c/\prog.length<=1000/\(0<prog.length->∃ b off cs,a=some ⟨b,off,none⟩/\o b=0/\aF w b cs 83/\∀ i op,prog[i]?=some op->∀ j u,op.cells[j]?=some u->cs[off+i*4+j]?=some u)
def zH (dG:List (Int × Nat)):List Value:=(dG.map fun r=>[Value.int .i64 r.1,Value.int .i64 (r.2:Int)]).flatten
def Bl (o:Ow) (w:World) (i:Nat) (v:Value) (dG:List (Int × Nat)):Prop:=w.ownsRow 0 225 2 v dG.length (zH dG)/\∀ b,v.ownBlock=some b->o b=20+i
structure bM (o:Ow) (w:World) (G:fU) (g:MG) (s:Sh) (m:MS) (ev:Option Ev) (nv:Value):Prop where
 sh:fH o w G s
 aH:∃ pv rv,aF w g.M (sK G g m ev pv rv nv) 108/\xw o w pv m.prog/\Bl o w m.id rv m.dG
 oM:o g.M=20+m.id
 aW:aF w g.X (aS m.aW) 3
 oX:o g.X=20+m.id
 aY:iE o w g.Bf 179 [ah m.c.l] m.aY
 CU:o g.Bf=20+m.id
 nt:aF w g.Nt [aJ (G.D 0),aJ g.Bf,aJ (G.bx m.id),aJ G.Fl] 181
 zx:o g.Nt=0
 mF:m.id<s.aV.length
 box8:s.aV.length<=8
 qE:m.c=s.H.c
 uq:(m.aW.length:Int)=m.c.r
 CV:(m.aY.length:Int)<=m.c.l
section
variable {o:Ow} {w w':World} {G:fU} {g:MG} {s:Sh} {m:MS} {ev:Option Ev} {nv:Value}
theorem xw.bg {I:List Nat} {v:Value} {p:List jy} (h:xw o w v p) (k:aj (In o I) w w') (h0:I.contains 0=false):xw o w' v p:=by
 obtain ⟨a,c,e,h1,h2⟩:=h
 refine ⟨a,c,e,h1,fun hp=>?_⟩
 obtain ⟨b,off,cs,e1,e2,e3,e4⟩:=h2 hp
 exact ⟨b,off,cs,e1,e2,e3.bg k e2 h0,e4⟩
theorem xw.ext {o':Ow} {v:Value} {p:List jy} (h:xw o w v p) (e:bZ w o o'):xw o' w v p:=by
 obtain ⟨a,c,e0,h1,h2⟩:=h
 refine ⟨a,c,e0,h1,fun hp=>?_⟩
 obtain ⟨b,off,cs,e1,e2,e3,e4⟩:=h2 hp
 exact ⟨b,off,cs,e1,(e b e3.lt).trans e2,e3,e4⟩
theorem Bl.bg {I:List Nat} {i:Nat} {v:Value} {r:List (Int × Nat)} (h:Bl o w i v r) (k:aj (In o I) w w') (hI:I.contains (20+i)=false):Bl o w' i v r :=
 ⟨gK h.1 k (fun b hb=>dR (h.2 b hb) hI),h.2⟩
theorem Bl.ext {o':Ow} {i:Nat} {v:Value} {r:List (Int × Nat)} (h:Bl o w i v r) (e:bZ w o o'):Bl o' w i v r:=by
 refine ⟨h.1,fun b hb=>?_⟩
 obtain ⟨cur,hc⟩:∃ cur:Array Value,w.heap[b]?=some (.cells cur 225 (0,0)):=by
  rcases h.1.2 with ⟨e1,_⟩|⟨g,aO,cur,e1,_,hg,_⟩
  ·rw [e1] at hb;simp [Value.ownBlock] at hb
  ·rw [e1] at hb;simp [Value.ownBlock] at hb;subst hb;exact ⟨cur,hg⟩
 exact (e b (lt_of_block hc)).trans (h.2 b hb)
theorem bM.vJ {s':Sh} {I:List Nat} (h:bM o w G g s m ev nv) (k:aj (In o I) w w') (h0:I.contains 0=false) (hi:I.contains (20+m.id)=false) (hs:fH o w' G s') (hl:s'.aV.length=s.aV.length) (hc:s'.H.c=s.H.c):bM o w' G g s' m ev nv:=by
 obtain ⟨pv,rv,h1,h2,h3⟩:=h.aH
 exact ⟨hs,⟨pv,rv,h1.bg k h.oM hi,h2.bg k h0,h3.bg k hi⟩,h.oM,h.aW.bg k h.oX hi,h.oX,h.aY.bg k h0 h.CU hi,h.CU,h.nt.bg k h.zx h0,h.zx,by rw [hl];exact h.mF,by rw [hl];exact h.box8,h.qE.trans hc.symm,h.uq,h.CV⟩
theorem bM.still (h:bM o w G g s m ev nv) (k:aj aB w w'):bM o w' G g s m ev nv:=by
 have k0:aj (In o []) w w':=k.bV
 exact h.vJ k0 rfl rfl (h.sh.bg k0 rfl h.box8) rfl rfl
theorem bM.apart (h:bM o w G g s m ev nv):g.M≠g.X/\g.M≠g.Bf/\g.X≠g.Bf/\(∀ rv r b,Bl o w m.id rv r->rv.ownBlock=some b->b≠g.M/\b≠g.X/\b≠g.Bf):=by
 obtain ⟨pv,rv,h1,h2,h3⟩:=h.aH
 obtain ⟨_,v,h4,_⟩:=h.aY
 have h5:=h.aW
 refine ⟨fun e=>?_,fun e=>?_,fun e=>?_,fun rv r b hr hb=>?_⟩
 ·rw [e] at h1;exact absurd (h1.jL h5).2 (by decide)
 ·rw [e] at h1;exact absurd (h1.jL h4).2 (by decide)
 ·rw [e] at h5;exact absurd (h5.jL h4).2 (by decide)
 ·refine ⟨fun e=>?_,fun e=>?_,fun e=>?_⟩
  ·exact nC h1 hr.1 (by decide) (by rw [hb,e])
  ·exact nC h5 hr.1 (by decide) (by rw [hb,e])
  ·exact nC h4 hr.1 (by decide) (by rw [hb,e])
theorem bM.struct (h:bM o w G g s m ev nv) (kM:aj (only g.M) w w') (m':MS) (ev':Option Ev) (nY:Value) (hc:∀ pv rv,aF w g.M (sK G g m ev pv rv nv) 108->aF w' g.M (sK G g m' ev' pv rv nY) 108)
 (e:m'.id=m.id/\m'.c=m.c/\m'.aW=m.aW/\m'.aY=m.aY/\m'.prog=m.prog/\m'.dG=m.dG):bM o w' G g s m' ev' nY/\aj (In o [20+m.id]) w w':=by
 obtain ⟨pv,rv,h1,h2,h3⟩:=h.aH
 obtain ⟨e1,e2,e3,e4,e5,e6⟩:=e
 have ap:=h.apart
 have k:aj (In o [20+m.id]) w w':=kM.xI h.oM (by simp)
 refine ⟨⟨h.sh.bg k (by simp) h.box8,⟨pv,rv,hc pv rv h1,?_,?_⟩,by rw [e1];exact h.oM,by rw [e3];exact kM.aH h.aW (fun e=>ap.1 e.symm),by rw [e1];exact h.oX,?_,by rw [e1];exact h.CU,by rw [e1];exact h.nt.bg k h.zx (by simp;omega),h.zx,by rw [e1];exact h.mF,h.box8,by rw [e2];exact h.qE,by rw [e3,e2];exact h.uq,by rw [e4,e2];exact h.CV⟩,k⟩
 ·rw [e5];exact h2.bg k (by simp;omega)
 ·rw [e1,e6]
  exact ⟨gK h3.1 kM (fun b hb e=>(ap.2.2.2 rv _ b h3 hb).1 e),h3.2⟩
 ·rw [e2,e4]
  exact h.aY.aK kM (fun e=>ap.2.1 e.symm) (fun x hx e=>by unfold only at e;rw [e,h.oM] at hx;omega)
theorem bM.put (h:bM o w G g s m ev nv) (i:Nat) (u:Value) (m':MS) (ev':Option Ev) (nY:Value) (hc:∀ pv rv,(sK G g m ev pv rv nv).set i u=sK G g m' ev' pv rv nY)
 (e:m'.id=m.id/\m'.c=m.c/\m'.aW=m.aW/\m'.aY=m.aY/\m'.prog=m.prog/\m'.dG=m.dG):bM o (w.setCell ⟨g.M,i,none⟩ u) G g s m' ev' nY/\aj (In o [20+m.id]) w (w.setCell ⟨g.M,i,none⟩ u) :=
 h.struct ((aj.refl _ _).put i u) m' ev' nY (fun pv rv hb=>by
  have:=hb.set i u
  rwa [hc] at this) e
theorem bM.Lr (h:bM o w G g s m ev nv) {b:List Nat} (k:aj (only g.Bf) w w') (hb:iE o w' g.Bf 179 [ah m.c.l] b) (hl:(b.length:Int)<=m.c.l):bM o w' G g s { m with aY:=b } ev nv/\aj (In o [20+m.id]) w w':=by
 obtain ⟨pv,rv,h1,h2,h3⟩:=h.aH
 have ap:=h.apart
 have k1:aj (In o [20+m.id]) w w':=k.xI h.CU (by simp)
 exact ⟨⟨h.sh.bg k1 (by simp) h.box8,⟨pv,rv,k.aH h1 (fun e=>ap.2.1 e),h2.bg k1 (by simp;omega),⟨gK h3.1 k (fun b hb e=>(ap.2.2.2 rv _ b h3 hb).2.2 e),h3.2⟩⟩,h.oM,k.aH h.aW (fun e=>ap.2.2.1 e),h.oX,hb,h.CU,h.nt.bg k1 h.zx (by simp;omega),h.zx,h.mF,h.box8,h.qE,h.uq,hl⟩,k1⟩
theorem bM.afD (h:bM o w G g s m ev nv) (r v:Nat):bM o (w.setCell ⟨g.X,r,none⟩ (ah (v:Int))) G g s { m with aW:=m.aW.set r v } ev nv/\aj (In o [20+m.id]) w (w.setCell ⟨g.X,r,none⟩ (ah (v:Int))):=by
 obtain ⟨pv,rv,h1,h2,h3⟩:=h.aH
 have ap:=h.apart
 have k:aj (only g.X) w (w.setCell ⟨g.X,r,none⟩ (ah (v:Int))):=(aj.refl _ _).put r _
 have k1:aj (In o [20+m.id]) w (w.setCell ⟨g.X,r,none⟩ (ah (v:Int))):=k.xI h.oX (by simp)
 refine ⟨⟨h.sh.bg k1 (by simp) h.box8,⟨pv,rv,?_,h2.bg k1 (by simp;omega),⟨gK h3.1 k (fun b hb e=>(ap.2.2.2 rv _ b h3 hb).2.1 e),h3.2⟩⟩,h.oM,?_,h.oX,?_,h.CU,h.nt.bg k1 h.zx (by simp;omega),h.zx,h.mF,h.box8,h.qE,by simpa using h.uq,h.CV⟩,k1⟩
 ·have:=k.aH h1 (fun e=>ap.1 e)
  unfold sK at this ⊢
  simpa using this
 ·rw [Fq];exact h.aW.set r _
 ·exact h.aY.aK k (fun e=>ap.2.2.1 e.symm) (fun x hx e=>by unfold only at e;rw [e,h.oX] at hx;omega)
theorem bM.cell (h:bM o w G g s m ev nv) (i:Nat) (u:Value) (hu:∀ pv rv,(sK G g m ev pv rv nv)[i]?=some u):w.cell? ⟨g.M,i,none⟩=some u:=by
 obtain ⟨pv,rv,h1,_⟩:=h.aH
 exact h1.cell i (hu pv rv)
theorem bM.free (h:bM o w G g s m ev nv) (i:Nat):w.frozen? ⟨g.M,i,none⟩=false:=by
 obtain ⟨pv,rv,h1,_⟩:=h.aH
 exact h1.free i
end
end
section
attribute [local go_sem] Oper.semAt_some
open Go.RowKit
section
variable {o:Ow} {w w':World} {b:Nat} {room:Int} {xs:List Nat}
theorem iE.ahm (h:iE o w b 179 [ah room] xs):w.cell? ⟨b,1,none⟩=some (ah room):=by
 obtain ⟨_,v,h1,_⟩:=h
 exact h1.cell 1 rfl
theorem FD (h:iE o w b 179 [ah room] xs):Calls aA 174 #[au b] w fun e w'=>e = .returned (.bool ((xs.length:Int)==room))/\aj aB w w':=by
 have HC:Hid (∀ W,aj aB w W->Calls aA 212 #[au b] W fun e w'=>e = .returned (ah (xs.length:Int))/\W=w'):=fun W hW=>zQ (h.still hW)
 have c1:=h.ahm
 have hlen:(xs.length:Int)<=4000000000000:=by obtain ⟨a,c,_,_,_,_,hm,_⟩:=h.form;omega
 generalize xs.length=n at *
 clear h
 go_enter func174,ntmps174
 go_wp2_with fail
 go_quiet (first|(go_at_call 212;exact Calls.quiet_of_same (iQ (HC.out _ ((aj.refl aB w).drewN _)))))
 go_wp2_with fail
 go_ret
 exact ⟨rfl,(aj.refl _ _).drewN _⟩
theorem OU (h:iE o w b 179 [ah room] xs):Calls aA 175 #[au b] w fun e w'=>e = .returned (ah (xs.length:Int))/\w=w':=by
 have HC:=ay (zQ h)
 clear h
 go_enter func175,ntmps175
 go_wp2_with (go_at_call 212;refine HC.out.mono ?_;rintro e w1 ⟨rfl,rfl⟩)
 go_ret
 exact ⟨rfl,rfl⟩
theorem XQ (h:iE o w b 179 [ah room] xs) (x:Nat) (hf:((xs.length:Int)==room)=true):Calls aA 172 #[au b,ah (x:Int)] w fun e w'=>e = .returned (.bool false)/\aj aB w w':=by
 have HF:=ay (FD h)
 rw [hf] at HF
 clear h hf
 go_enter func172,ntmps172
 go_wp2_with (go_at_call 174;refine HF.out.mono ?_;rintro e w1 ⟨rfl,k1⟩;have HK:=ay k1;clear k1)
 go_ret
 exact ⟨rfl,HK.out⟩
theorem XR (h:iE o w b 179 [ah room] xs) (x:Nat) (hf:((xs.length:Int)==room)=false) (hf0:kJ o w) (hm:xs.length<=100000):Calls aA 172 #[au b,ah (x:Int)] w fun e w'=>e = .returned (.bool true)/\iE o w' b 179 [ah room] (xs++[x])/\aj (only b) w w':=by
 have HF:=ay (FD h)
 rw [hf] at HF
 have HA:Hid (∀ W,aj aB w W->Calls aA 211 #[au b,ah (x:Int)] W fun e w'=>e = .returned (.tuple #[])/\iE o w' b 179 [ah room] (xs++[x])/\aj (only b) W w'):=fun W hW=>ZQ (h.still hW) x (hf0.aK hW) hm
 clear h hf hf0 hm
 go_enter func172,ntmps172
 go_wp2_with (go_at_call 174;refine HF.out.mono ?_;rintro e w1 ⟨rfl,k1⟩;have HK:=ay k1;have HA1:=ay (HA.out _ k1);clear k1)
 go_wp2_with (go_at_call 211;refine HA1.out.mono ?_;rintro e w2 ⟨rfl,h2,k2⟩;have HH:=ay h2;have dF:=ay k2;clear h2 k2)
 go_ret
 exact ⟨rfl,HH.out,(HK.out.mono (fun _ _ f=>f.elim)).trans dF.out⟩
theorem XT (h:iE o w b 179 [ah room] xs):Calls aA 215 #[au b] w fun e w'=>e = .returned (.tuple #[ah (dA xs:Int),.bool (!xs.isEmpty)])/\iE o w' b 179 [ah room] xs.tail/\aj (only b) w w':=by
 have HT:Hid (Calls aA 246 #[au b] w fun e w'=>e = .returned (.tuple #[ah (dA xs:Int),.bool (!xs.isEmpty)])/\iE o w' b 179 [ah room] xs.tail/\aj (only b) w w'):=by
  cases xs with
  | nil =>
    refine (Lp h).mono ?_
    rintro e w' ⟨rfl,rfl⟩
    exact ⟨rfl,h,aj.refl _ _⟩
  | cons x xs=>exact Jo x h
 generalize dA xs=hd at *
 generalize (!xs.isEmpty)=ok at *
 clear h
 go_enter func215,ntmps215
 go_wp2_with (go_at_call 246;refine HT.out.mono ?_;rintro e w1 ⟨rfl,h1,k1⟩;have HH:=ay h1;have HK:=ay k1;clear h1 k1)
 go_ret2
 exact ⟨rfl,HH.out,HK.out⟩
theorem Ef (h:iE o w b 179 [ah room] xs):Calls aA 131 #[au b] w fun e w'=>e = .returned (.tuple #[])/\iE o w' b 179 [ah room] []/\aj (only b) w w':=by
 obtain ⟨a,c,hc,_,_,_,_,hf,_⟩:=h.form
 have HS:=ay (h.set (dH.nil o w 3) (ys:=[]) (fun _ _ e=>by cases e;rfl))
 clear h
 go_enter func131,ntmps131
 go_wp2_with fail
 go_end0
 exact ⟨rfl,HS.out,(aj.refl (only b) _).put _ _⟩
theorem acd (F:Nat) (f:Bool) (h:aF w F [.bool f] 121):Calls aA 281 #[au F] w fun e w'=>e = .returned (.bool f)/\w=w':=by
 have c0:=h.cell 0 rfl
 clear h
 cases f
 all_goals
  go_enter func281,ntmps281
  go_wp2_with fail
  go_ret
  exact ⟨rfl,rfl⟩
theorem Vk (F:Nat) (f:Bool) (h:aF w F [.bool f] 121):Calls aA 218 #[au F] w fun e w'=>e = .returned (.tuple #[])/\aF w' F [.bool true] 121/\aj (only F) w w':=by
 have c0:=h.cell 0 rfl
 have f0:=h.free 0
 have HS:=ay (h.set 0 (.bool true))
 clear h
 go_enter func218,ntmps218
 go_wp2_with fail
 go_end0
 exact ⟨rfl,HS.out,(aj.refl (only F) _).put _ _⟩
theorem Vl (F:Nat) (f:Bool) (h:aF w F [.bool f] 121):Calls aA 272 #[au F] w fun e w'=>e = .returned (.bool f)/\aF w' F [.bool false] 121/\aj (only F) w w':=by
 have c0:=h.cell 0 rfl
 have f0:=h.free 0
 have HS:=ay (h.set 0 (.bool false))
 have HU:=ay (acd F f h)
 have HH:=ay h
 clear h
 cases f
 ·go_enter func272,ntmps272
  go_wp2_with (go_at_call 281;refine HU.out.mono ?_;rintro e w1 ⟨rfl,rfl⟩)
  go_ret
  exact ⟨rfl,HH.out,aj.refl _ _⟩
 ·go_enter func272,ntmps272
  go_wp2_with (go_at_call 281;refine HU.out.mono ?_;rintro e w1 ⟨rfl,rfl⟩)
  go_ret
  exact ⟨rfl,HS.out,(aj.refl (only F) _).put _ _⟩
theorem ZT {B:Nat} {ys:List Nat} (_h:iE o w b 179 [ah room] xs) (hb:iE o w B 176 [] ys) (hy:ys≠[]):Calls aA 177 #[au B,au b] w fun e w'=>e = .returned (.bool false)/\w=w':=by
 have HC:=ay (zQ hb)
 have hpos:0<ys.length:=akM.2 hy
 have d0:decide ((0:Int)<(ys.length:Int))=true:=fK (by omega)
 have d1:decide (0<ys.length)=true:=fK hpos
 generalize ys.length=n at *
 clear _h hb hy
 go_enter func177,ntmps177
 go_wp2_with (go_at_call 212;refine HC.out.mono ?_;rintro e w1 ⟨rfl,rfl⟩)
 go_ret
 exact ⟨rfl,rfl⟩
theorem XU {B:Nat} (h:iE o w b 179 [ah room] xs) (hb:iE o w B 176 [] []) (hne:B≠b) (hf0:kJ o w):Calls aA 177 #[au B,au b] w fun e w'=>e = .returned (.bool true)/\iE o w' b 179 [ah room] []/\iE o w' B 176 [] xs/\aj (fun i=>i=B\/i=b) w w':=by
 have HC:=ay (zQ hb)
 have hlen:xs.length<=4000000000000:=by obtain ⟨a,c,_,_,_,_,hm,_⟩:=h.form;exact hm
 have HA:=ay (ZP h)
 have HH:=ay h
 have HB:=ay hb
 have HN:=ay hne
 have HF:=ay hf0
 have HL:=ay hlen
 clear h hb hne hf0 hlen
 go_enter func177,ntmps177
 go_wp2_with (go_at_call 212;refine HC.out.mono ?_;rintro e w1 ⟨rfl,rfl⟩)
 refine HA.out.mono ?_
 rintro e w1 ⟨v,rfl,ho,k1⟩
 obtain ⟨a',cap',rfl,_,_,hnl,_⟩:=gy (bQ ho (Nat.zero_le _))
 have HNL:=ay hnl
 have HO:=ay ho
 have bI:=ay k1
 obtain ⟨_,_,cB,_,_,_,_,fB,_⟩:=(HB.out.still k1).form
 clear ho k1 hnl
 go_wp2_with fail
 have hrow:dH o w1 3 (.slice a' xs.length cap') (aS xs):=dH.yG HO.out HL.out (fun x hx=>HF.out x hx)
 have hnil:XO (.slice a' xs.length cap'):=fun n c e=>by injection e with e1 e2 e3;rw [<- e3];exact HNL.out e1
 have hS2:=(HB.out.still bI.out).set hrow hnil
 have k2:aj (only B) w1 (w1.setCell ⟨B,0,none⟩ (.slice a' xs.length cap')):=(aj.refl _ _).put 0 _
 have hb2:iE o (w1.setCell ⟨B,0,none⟩ (.slice a' xs.length cap')) b 179 [ah room] xs:=(HH.out.still bI.out).aK k2 (fun e=>HN.out e.symm) (fun x hx e=>by unfold only at e;subst e;exact HB.out.1 hx)
 have HS2:=ay hS2
 have dF:=ay k2
 have uN:=ay (Ef hb2)
 clear hS2 k2 hb2 hrow hnil
 refine uN.out.mono ?_
 rintro e w3 ⟨rfl,h3,k3⟩
 have RX:=ay h3
 have jF:=ay k3
 clear h3 k3
 go_wp2_with fail
 go_ret
 refine ⟨rfl,RX.out,HS2.out.aK jF.out (fun e=>HN.out e) (fun x hx e=>by unfold only at e;subst e;exact HH.out.1 hx),?_⟩
 exact (bI.out.mono (fun _ _ f=>f.elim)).trans ((dF.out.mono (fun _ _ e=>Or.inl e)).trans (jF.out.mono (fun _ _ e=>Or.inr e)))
end
def eG (w:World):List (List Value × TypeId)->World
 | []=>w
 | (cs,T)::l=>eG (w.alloc (.cells cs.toArray T)) l
def vY (n:Nat):List (List Value × TypeId)->List Nat
 | []=>[]
 | _::l=>n::vY (n+1) l
theorem kQ {o:Ow}:∀ (l:List (List Value × TypeId)) (w:World),kJ o w->tq o (eG w l) l (vY w.heap.size l)/\aj aB w (eG w l)
 | [],w,_=>⟨rfl,aj.refl _ _⟩
 | (cs,T)::l,w,hf=>by
   have k:aj aB w (w.alloc (.cells cs.toArray T)):=(aj.refl _ _).alloc _
   obtain ⟨h1,h2⟩:=kQ l (w.alloc (.cells cs.toArray T)) (hf.aK k)
   rw [World.size_alloc] at h1
   exact ⟨⟨w.heap.size,_,rfl,hf _ (Nat.le_refl _),h2.aH (aF.bC w cs T) (fun f=>f),h1⟩,k.trans h2⟩
theorem zS.aK {o:Ow} {w w':World} {M:Nat} {S:Nat->Prop} {rd:RD} {v:Value} (h:zS o w M rd v) (k:aj S w w') (h0:∀ b,o b=0->¬ S b):zS o w' M rd v:=by
 cases rd with
 | field bP f x=>obtain ⟨op,e,h1⟩:=h;exact ⟨op,e,h1.aK k h0⟩
 | cell i x=>obtain ⟨op,e,h1⟩:=h;exact ⟨op,e,h1.aK k h0⟩
theorem zT.aK {o:Ow} {w w':World} {M:Nat} {S:Nat->Prop} {rd:RD} {v:Value} (h:zT o w M rd v) (k:aj S w w') (h0:∀ b,o b=0->¬ S b):zT o w' M rd v:=by
 cases rd with
 | field bP f x=>obtain ⟨op,e,h1⟩:=h;exact ⟨op,e,h1.aK k h0⟩
 | cell i x=>obtain ⟨op,e,h1⟩:=h;exact ⟨op,e,h1.aK k h0⟩
theorem qo.aK {o:Ow} {w w':World} {M:Nat} {S:Nat->Prop} {rd:RD} {v:Value} (h:qo o w M rd v) (k:aj S w w') (h0:∀ b,o b=0->¬ S b):qo o w' M rd v:=by
 obtain ⟨wv,h1,h2⟩:=h
 exact ⟨wv,h1.aK k h0,h2.aK k h0⟩
theorem zS.ext {o o':Ow} {w:World} {M:Nat} {rd:RD} {v:Value} (h:zS o w M rd v) (e:bZ w o o'):zS o' w M rd v:=by
 cases rd with
 | field bP f x=>obtain ⟨op,e1,h1⟩:=h;exact ⟨op,e1,h1.ext e⟩
 | cell i x=>obtain ⟨op,e1,h1⟩:=h;exact ⟨op,e1,h1.ext e⟩
theorem zT.ext {o o':Ow} {w:World} {M:Nat} {rd:RD} {v:Value} (h:zT o w M rd v) (e:bZ w o o'):zT o' w M rd v:=by
 cases rd with
 | field bP f x=>obtain ⟨op,e1,h1⟩:=h;exact ⟨op,e1,h1.ext e⟩
 | cell i x=>obtain ⟨op,e1,h1⟩:=h;exact ⟨op,e1,h1.ext e⟩
theorem qo.ext {o o':Ow} {w:World} {M:Nat} {rd:RD} {v:Value} (h:qo o w M rd v) (e:bZ w o o'):qo o' w M rd v:=by
 obtain ⟨wv,h1,h2⟩:=h
 exact ⟨wv,h1.ext e,h2.ext e⟩
theorem fE.aK {o:Ow} {w w':World} {Nt M:Nat} {S:Nat->Prop} (k:aj S w w') (h0:∀ b,o b=0->¬ S b):∀ {d:MD} {v:Value},fE o w Nt M d v->fE o w' Nt M d v:=by
 intro d
 induction d with
 | nil=>intro v h;exact h
 | kU op=>intro v h;exact dW.aK h k h0
 | once q =>
   intro v h
   obtain ⟨dv,h1,h2⟩:=h
   refine ⟨dv,h1.aK k h0,?_⟩
   revert h2
   split
   ·rintro ⟨lv,h2,h3⟩;exact ⟨lv,h2.aK k h0,h3.aK k h0⟩
   split
   ·rintro ⟨lv,h2,h3⟩;exact ⟨lv,h2.aK k h0,h3.aK k h0⟩
   split
   ·rintro ⟨lv,h2,h3⟩;exact ⟨lv,h2.aK k h0,h3.aK k h0⟩
   split
   ·rintro ⟨lv,h2,h3⟩;exact ⟨lv,h2.aK k h0,h3.aK k h0⟩
   ·rintro ⟨lv,h2,h3⟩;exact ⟨lv,h2.aK k h0,h3.aK k h0⟩
 | lH x c t ih =>
   intro v h
   obtain ⟨tv,av,h1,h2,h3⟩:=h
   exact ⟨tv,av,ih h1,h2.aK k h0,h3.aK k h0⟩
 | add x t ih=>intro v h;obtain ⟨tv,h1,h2⟩:=h;exact ⟨tv,ih h1,h2.aK k h0⟩
 | nT c t ih=>intro v h;obtain ⟨tv,h1,h2⟩:=h;exact ⟨tv,ih h1,h2.aK k h0⟩
 | iK c f t ih=>intro v h;obtain ⟨tv,h1,h2⟩:=h;exact ⟨tv,ih h1,h2.aK k h0⟩
 | kX t ih=>intro v h;obtain ⟨tv,h1,h2⟩:=h;exact ⟨tv,ih h1,h2.aK k h0⟩
 | field bP f t ih=>intro v h;obtain ⟨tv,h1,h2⟩:=h;exact ⟨tv,ih h1,h2.aK k h0⟩
 | load op bP=>intro v h;exact dW.aK h k h0
 | get op=>intro v h;exact dW.aK h k h0
 | uj x rd =>
   intro v h
   obtain ⟨rv,lv,h1,h2,h3⟩:=h
   exact ⟨rv,lv,h1.aK k h0,h2.aK k h0,h3.aK k h0⟩
 | last rd=>intro v h;exact qo.aK h k h0
 | alloc op q=>intro v h;exact dW.aK h k h0
 | assign op q=>intro v h;exact dW.aK h k h0
 | xJ op all =>
   intro v h
   obtain ⟨h1,av,h2,h3⟩:=h
   exact ⟨h1,av,h2.aK k h0,h3.aK k h0⟩
 | xK op q=>intro v h;exact dW.aK h k h0
 | wP op q=>intro v h;exact dW.aK h k h0
 | eX sl c t=>intro v h;exact h.elim
 | fill op a=>intro v h;exact dW.aK h k h0
 | zero op a i=>intro v h;exact dW.aK h k h0
theorem fE.ext {o o':Ow} {w:World} {Nt M:Nat} (e:bZ w o o'):∀ {d:MD} {v:Value},fE o w Nt M d v->fE o' w Nt M d v:=by
 intro d
 induction d with
 | nil=>intro v h;exact h
 | kU op=>intro v h;exact dW.ext h e
 | once q =>
   intro v h
   obtain ⟨dv,h1,h2⟩:=h
   refine ⟨dv,h1.ext e,?_⟩
   revert h2
   split
   ·rintro ⟨lv,h2,h3⟩;exact ⟨lv,h2.ext e,h3.ext e⟩
   split
   ·rintro ⟨lv,h2,h3⟩;exact ⟨lv,h2.ext e,h3.ext e⟩
   split
   ·rintro ⟨lv,h2,h3⟩;exact ⟨lv,h2.ext e,h3.ext e⟩
   split
   ·rintro ⟨lv,h2,h3⟩;exact ⟨lv,h2.ext e,h3.ext e⟩
   ·rintro ⟨lv,h2,h3⟩;exact ⟨lv,h2.ext e,h3.ext e⟩
 | lH x c t ih =>
   intro v h
   obtain ⟨tv,av,h1,h2,h3⟩:=h
   exact ⟨tv,av,ih h1,h2.ext e,h3.ext e⟩
 | add x t ih=>intro v h;obtain ⟨tv,h1,h2⟩:=h;exact ⟨tv,ih h1,h2.ext e⟩
 | nT c t ih=>intro v h;obtain ⟨tv,h1,h2⟩:=h;exact ⟨tv,ih h1,h2.ext e⟩
 | iK c f t ih=>intro v h;obtain ⟨tv,h1,h2⟩:=h;exact ⟨tv,ih h1,h2.ext e⟩
 | kX t ih=>intro v h;obtain ⟨tv,h1,h2⟩:=h;exact ⟨tv,ih h1,h2.ext e⟩
 | field bP f t ih=>intro v h;obtain ⟨tv,h1,h2⟩:=h;exact ⟨tv,ih h1,h2.ext e⟩
 | load op bP=>intro v h;exact dW.ext h e
 | get op=>intro v h;exact dW.ext h e
 | uj x rd =>
   intro v h
   obtain ⟨rv,lv,h1,h2,h3⟩:=h
   exact ⟨rv,lv,h1.ext e,h2.ext e,h3.ext e⟩
 | last rd=>intro v h;exact qo.ext h e
 | alloc op q=>intro v h;exact dW.ext h e
 | assign op q=>intro v h;exact dW.ext h e
 | xJ op all =>
   intro v h
   obtain ⟨h1,av,h2,h3⟩:=h
   exact ⟨h1,av,h2.ext e,h3.ext e⟩
 | xK op q=>intro v h;exact dW.ext h e
 | wP op q=>intro v h;exact dW.ext h e
 | eX sl c t=>intro v h;exact h.elim
 | fill op a=>intro v h;exact dW.ext h e
 | zero op a i=>intro v h;exact dW.ext h e
theorem dW.form {o:Ow} {w:World} {fn:Nat} {l:List (List Value × TypeId)} {v:Value} (h:dW o w fn l v):v = .nilFunc\/∃ (fn:Nat) (caps:Array Value),v = .func (.func fn) #[] caps:=by
 obtain ⟨bs,e,_⟩:=h
 exact .inr ⟨_,_,e⟩
theorem fE.form {o:Ow} {w:World} {Nt M:Nat} {d:MD} {v:Value} (h:fE o w Nt M d v):v = .nilFunc\/∃ (fn:Nat) (caps:Array Value),v = .func (.func fn) #[] caps:=by
 cases d with
 | nil=>exact .inl h
 | kU op=>exact dW.form h
 | once q=>obtain ⟨dv,h1,_⟩:=h;exact h1.form
 | lH x c t=>obtain ⟨tv,av,_,_,h3⟩:=h;exact h3.form
 | add x t=>obtain ⟨tv,_,h3⟩:=h;exact h3.form
 | nT c t=>obtain ⟨tv,_,h3⟩:=h;exact h3.form
 | iK c f t=>obtain ⟨tv,_,h3⟩:=h;exact h3.form
 | kX t=>obtain ⟨tv,_,h3⟩:=h;exact h3.form
 | field bP f t=>obtain ⟨tv,_,h3⟩:=h;exact h3.form
 | load op bP=>exact dW.form h
 | get op=>exact dW.form h
 | uj x rd=>obtain ⟨_,_,_,_,h3⟩:=h;exact h3.form
 | last rd=>obtain ⟨_,_,h3⟩:=h;exact h3.form
 | alloc op q=>exact dW.form h
 | assign op q=>exact dW.form h
 | xJ op all=>obtain ⟨_,_,_,h3⟩:=h;exact h3.form
 | xK op q=>exact dW.form h
 | wP op q=>exact dW.form h
 | eX sl c t=>exact h.elim
 | fill op a=>exact dW.form h
 | zero op a i=>exact dW.form h
theorem oz.form {o:Ow} {w:World} {D0:Nat} {g:Nat × Nat} {q:Nat} {d:MD} {v:Value} (h:oz o w D0 g q d v):v = .nilFunc\/∃ (fn:Nat) (caps:Array Value),v = .func (.func fn) #[] caps:=by
 cases d with
 | eX sl c t=>obtain ⟨_,_,_,_,h3⟩:=h;exact h3.form
 | _=>exact fE.form h
section
variable {o:Ow} {w w':World} {Nt M:Nat}
theorem fE.bg {I:List Nat} {d:MD} {v:Value} (h:fE o w Nt M d v) (k:aj (In o I) w w') (h0:I.contains 0=false):fE o w' Nt M d v:=h.aK k (fun _b hb=>dR hb h0)
theorem fE.still {d:MD} {v:Value} (h:fE o w Nt M d v) (k:aj aB w w'):fE o w' Nt M d v:=h.aK k (fun _ _ f=>f)
theorem XV (hf:kJ o w) (v c:Nat) (t:MD) (tv:Value) (ht:fE o w Nt M t tv):Calls aA 135 #[au Nt,ah (v:Int),ah (c:Int),tv] w fun e w'=>∃ nv,e = .returned nv/\fE o w' Nt M (pJ v c t) nv/\aj aB w w':=by
 by_cases h0:v=0
 ·subst h0
  have hc:=kQ (o:=o) [([aJ Nt],104),([ah 0],3),([ah (c:Int)],3),([tv],88)] w hf
  have HE:Hid (fE o (eG w [([aJ Nt],104),([ah 0],3),([ah (c:Int)],3),([tv],88)]) Nt M (pJ 0 c t) tv/\aj aB w (eG w [([aJ Nt],104),([ah 0],3),([ah (c:Int)],3),([tv],88)])):=⟨ht.still hc.2,hc.2⟩
  have hform:=ht.form
  clear hc ht hf
  rcases hform with rfl|⟨fn,caps,rfl⟩
  all_goals
   go_enter func135,ntmps135
   go_wp2_with fail
   go_ret
   exact ⟨_,rfl,HE.out.1,HE.out.2⟩
 ·have d0:((v:Int)==0)=false:=by simp;omega
  obtain ⟨n,hn⟩:∃ n,n=w.heap.size:=⟨_,rfl⟩
  obtain ⟨av,hav⟩:∃ av:Value,av = .func (.func 171) #[] #[aJ n,aJ (n+1),aJ (n+1+1+1)]:=⟨_,rfl⟩
  have hc:=kQ (o:=o) [([aJ Nt],104),([ah (v:Int)],3),([ah (c:Int)],3),([tv],88),([av],87)] w hf
  obtain ⟨W,hW⟩:∃ W,W=eG w [([aJ Nt],104),([ah (v:Int)],3),([ah (c:Int)],3),([tv],88),([av],87)]:=⟨_,rfl⟩
  rw [<- hW,<- hn] at hc
  have HE:Hid (fE o W Nt M (pJ v c t) (.func (.func 173) #[] #[aJ n,aJ (n+1),aJ (n+1+1),aJ (n+1+1+1),aJ (n+1+1+1+1)])/\aj aB w W):=by
   refine ⟨?_,hc.2⟩
   unfold pJ
   rw [aT h0]
   refine ⟨tv,av,ht.still hc.2,⟨[n,n+1,n+1+1+1],hav,?_⟩,⟨_,rfl,hc.1⟩⟩
   obtain ⟨b0,r0,e0,o0,k0,hc1⟩:=hc.1
   obtain ⟨b1,r1,e1,o1,k1,hc2⟩:=hc1
   obtain ⟨b2,r2,e2,o2,k2,hc3⟩:=hc2
   obtain ⟨b3,r3,e3,o3,k3,hc4⟩:=hc3
   simp only [vY,List.cons.injEq] at e0
   obtain ⟨rfl,rfl⟩:=e0
   simp only [List.cons.injEq] at e1
   obtain ⟨rfl,rfl⟩:=e1
   simp only [List.cons.injEq] at e2
   obtain ⟨rfl,rfl⟩:=e2
   simp only [List.cons.injEq] at e3
   obtain ⟨rfl,rfl⟩:=e3
   exact ⟨_,_,rfl,o0,k0,_,_,rfl,o1,k1,_,_,rfl,o3,k3,rfl⟩
  have ZU:W=((((w.alloc (.cells #[au Nt] 104)).alloc (.cells #[ah (v:Int)] 3)).alloc (.cells #[ah (c:Int)] 3)).alloc (.cells #[tv] 88)).alloc (.cells #[.func (.func 171) #[] #[au w.heap.size,au (w.heap.size+1),au (w.heap.size+1+1+1)]] 87):=by rw [hW,hav,hn];rfl
  have AQ:=ay ZU
  have HN:=ay hn
  have hmf:∀ (fn:Fn) (first aO:Array Value) (w:World),(Instr.makeFunc fn first aO).run aA w = .ok (.func fn first aO) w:=fun _ _ _ _=>rfl
  have hform:=ht.form
  clear hc ht hf h0 hW ZU hav hn
  rcases hform with rfl|⟨fn,caps,rfl⟩
  all_goals
   go_enter func135,ntmps135
   go_wp2_with fail
   go_ret
   rw [AQ.out,HN.out] at HE
   exact ⟨_,rfl,HE.out.1,HE.out.2⟩
theorem Jp (hf:kJ o w) (c:Nat) (f:Bool) (t:MD) (tv:Value) (ht:fE o w Nt M t tv):Calls aA 178 #[au Nt,ah (c:Int),.bool f,tv] w fun e w'=>∃ nv,e = .returned nv/\fE o w' Nt M (.iK c f t) nv/\aj aB w w':=by
 have hc:=kQ (o:=o) [([aJ Nt],104),([ah (c:Int)],3),([.bool f],4),([tv],88)] w hf
 have HE:Hid (fE o (eG w [([aJ Nt],104),([ah (c:Int)],3),([.bool f],4),([tv],88)]) Nt M (.iK c f t) (.func (.func 214) #[] #[aJ w.heap.size,aJ (w.heap.size+1),aJ (w.heap.size+1+1),aJ (w.heap.size+1+1+1)])/\aj aB w (eG w [([aJ Nt],104),([ah (c:Int)],3),([.bool f],4),([tv],88)])):=⟨⟨tv,ht.still hc.2,⟨_,rfl,hc.1⟩⟩,hc.2⟩
 have hmf:∀ (fn:Fn) (first aO:Array Value) (w:World),(Instr.makeFunc fn first aO).run aA w = .ok (.func fn first aO) w:=fun _ _ _ _=>rfl
 have hform:=ht.form
 clear hc ht hf
 rcases hform with rfl|⟨fn,caps,rfl⟩
 all_goals
  go_enter func178,ntmps178
  go_wp2_with fail
  go_ret
  exact ⟨_,rfl,HE.out.1,HE.out.2⟩
end
def eH (i:Nat):List Nat:=[1,2,3,4,10+i,20+i,30+i]
def bW (o:Ow) (w:World) (G:fU) (g:MG) (nv0:Value) (i:Nat) (r:xM) (e:Ending) (w':World):Prop :=
 ∃ o' nv,e = .returned nv/\bZ w o o'/\bM o' w' G g r.s r.m r.ev nv0/\oz o' w' (G.D 0) (g.Nt,g.M) (30+i) r.next nv/\aj (In o (eH i)) w w'
theorem qp (i:Nat):(eH i).contains 0=false:=by simp [eH];omega
section
variable {o:Ow} {w w':World} {G:fU} {g:MG} {s:Sh} {m:MS} {ev:Option Ev} {nv0:Value}
theorem bM.cl (h:bM o w G g s m ev nv0):1<=m.c.l/\m.c.l<=256:=by
 have h1:=(jC h.sh.heap.ji.ok).2.2.2.2.2.1
 rw [<- h.qE] at h1;exact h1
theorem bM.full (h:bM o w G g s m ev nv0):((m.aY.length:Int)==m.c.l)=decide (m.aY.length=m.c.l.toNat):=by
 have:=h.cl
 rw [Bool.eq_iff_iff]
 simp;omega
theorem bM.ahS (h:bM o w G g s m ev nv0):(m.aY.length:Int)<=m.c.l:=h.CV
theorem bM.adJ (h:bM o w G g s m ev nv0):iE o w (G.bx m.id) 176 [] (s.box m.id)/\o (G.bx m.id)=10+m.id:=by
 have:=h.sh.box m.id (s.aV[m.id]'h.mF) (ajh h.mF)
 unfold Sh.box
 rw [List.getD_eq_getElem?_getD,ajh h.mF]
 exact this
theorem bW.same {r:xM} {nv:Value} {w':World} {i:Nat} (h:bM o w' G g r.s r.m r.ev nv0) (hc:fE o w' g.Nt g.M r.next nv) (k:aj (In o (eH i)) w w'):bW o w G g nv0 i r (.returned nv) w':=⟨o,nv,rfl,bZ.refl _ _,h,oz.of (g:=(g.Nt,g.M)) hc,k⟩
theorem Sj (h:bM o w G g s m ev nv0) (k:aj (only g.Bf) w w'):aj (In o (eH m.id)) w w':=k.xI h.CU (by simp [eH])
theorem OV (h:bM o w G g s m ev nv0) (x:Nat) (t:MD) (tv:Value) (ht:fE o w g.Nt g.M t tv) (b0 b1 b2:Nat) (o0:o b0=0) (o1:o b1=0) (o2:o b2=0) (h0:aF w b0 [aJ g.Nt] 104) (h1:aF w b1 [ah (x:Int)] 3) (h2:aF w b2 [tv] 88) :
 Calls aA 171 #[au b0,au b1,au b2] w fun e w'=>e = .returned tv/\bM o w' G g (stepM s m (.add x t)).s (stepM s m (.add x t)).m ev nv0/\fE o w' g.Nt g.M t tv/\aj (In o (eH m.id)) w w':=by
 have c0:w.cell? ⟨b0,0,none⟩=some (au g.Nt):=h0.cell 0 rfl
 have c1:=h1.cell 0 rfl
 have n1:w.cell? ⟨g.Nt,1,none⟩=some (au g.Bf):=h.nt.cell 1 rfl
 have hcl:=h.cl
 have ahn:=h.CV
 have iH:Hid (Calls aA 172 #[au g.Bf,ah (x:Int)] w.drew fun e w'=>(∃ r,e = .returned (.bool r))/\bM o w' G g (stepM s m (.add x t)).s (stepM s m (.add x t)).m ev nv0/\fE o w' g.Nt g.M t tv/\aj (In o (eH m.id)) w w'/\aF w' b2 [tv] 88):=by
  have hd:=h.still (k:=(aj.refl aB w).drew)
  have htd:=ht.still (k:=(aj.refl aB w).drew)
  have hkd:aj aB w w.drew:=(aj.refl aB w).drew
  have XW:=h.full
  by_cases hf:m.aY.length=m.c.l.toNat
  ·rw [fK hf] at XW
   refine (XQ hd.aY x XW).mono ?_
   rintro e w' ⟨rfl,k⟩
   have e1:stepM s m (.add x t)=⟨s,m,t,none⟩:=by simp only [stepM,aZ hf]
   rw [e1]
   exact ⟨⟨_,rfl⟩,hd.still k,htd.still k,(hkd.trans k).bV,(hkd.trans k).aH h2 (fun f=>f)⟩
  ·rw [gJ hf] at XW
   refine (XR hd.aY x XW hd.sh.iV (by omega)).mono ?_
   rintro e w' ⟨rfl,hb,k⟩
   have e1:stepM s m (.add x t)=⟨s,{ m with aY:=m.aY++[x] },t,none⟩:=by simp only [stepM,aT hf]
   rw [e1]
   have kk:aj (In o (eH m.id)) w w':=(hkd.bV).trans (Sj hd k)
   have hlen:((m.aY++[x]).length:Int)<=m.c.l:=by
    have h9:=h.ahS
    simp only [List.length_append,List.length_cons,List.length_nil]
    omega
   exact ⟨⟨_,rfl⟩,(hd.Lr k hb hlen).1,ht.bg kk (qp _),kk,h2.bg kk o2 (qp _)⟩
 have _:=o0
 have _:=o1
 have hform:=ht.form
 generalize (stepM s m (.add x t)).s=s' at *
 generalize (stepM s m (.add x t)).m=m' at *
 clear h ht o0 o1 o2 h0 h1 h2 hcl ahn
 rcases hform with rfl|⟨fn,caps,rfl⟩
 all_goals
  go_enter func171,ntmps171
  go_wp2_with fail
  refine bG 5 rfl (by kernel_rfl) (by kernel_rfl) (fun K hK=>?_)
  change wpStill _ _ (ajr _) _ _ _
  simp only [List.take_succ_cons,ajs,ajt,ajn] at hK ⊢
  repeat still_step
  refine wpStill_nil ?_
  change ite _ (Oper.wp _ _ _ w.drew _ _) _
  go_simp
  refine iH.out.mono ?_
  rintro e w1 ⟨⟨r,rfl⟩,g1,g2,g3,g4⟩
  refine hK _ _ ?_
  clear hK K
  have HR:=ay (And.intro g1 (And.intro g2 g3))
  have c2:=g4.cell 0 rfl
  clear g1 g2 g3 g4 c0 c1 n1 iH
  refine wpStill_nil ?_
  go_wp2_with fail
  go_ret
  exact ⟨rfl,HR.out.1,HR.out.2.1,HR.out.2.2⟩
end
section
variable {o:Ow} {w w':World} {G:fU} {g:MG} {s:Sh} {m:MS} {ev:Option Ev} {nv0:Value}
theorem Ls (h:bM o w G g s m ev nv0) (c:Nat) (t:MD) (tv:Value) (ht:fE o w g.Nt g.M t tv):Calls aA 136 #[au g.Nt,ah (c:Int),tv] w fun e w'=>∃ nv,e = .returned nv/\fE o w' g.Nt g.M (m.pK c t) nv/\aj aB w w':=by
 have hc:=kQ (o:=o) [([aJ g.Nt],104),([ah (c:Int)],3),([tv],88)] w h.sh.iV
 obtain ⟨W,hW⟩:∃ W,W=eG w [([aJ g.Nt],104),([ah (c:Int)],3),([tv],88)]:=⟨_,rfl⟩
 rw [<- hW] at hc
 have HL:=ay (OU (h.still hc.2).aY)
 have n1:∀ a b c,(((w.alloc a).alloc b).alloc c).cell? ⟨g.Nt,1,none⟩=some (au g.Bf):=fun a b c=>(h.still ((((aj.refl aB w).alloc a).alloc b).alloc c)).nt.cell 1 rfl
 have ZU:W=((w.alloc (.cells #[au g.Nt] 104)).alloc (.cells #[ah (c:Int)] 3)).alloc (.cells #[tv] 88):=by rw [hW];rfl
 have AQ:=ay ZU
 clear ZU
 have hform:=ht.form
 obtain ⟨b0,r0,e0,o0,k0,hc1⟩:=hc.1
 obtain ⟨b1,r1,e1,o1,k1,hc2⟩:=hc1
 obtain ⟨b2,r2,e2,o2,k2,hc3⟩:=hc2
 simp only [vY,List.cons.injEq] at e0
 obtain ⟨rfl,rfl⟩:=e0
 simp only [List.cons.injEq] at e1
 obtain ⟨rfl,rfl⟩:=e1
 simp only [List.cons.injEq] at e2
 obtain ⟨rfl,rfl⟩:=e2
 have c0:W.cell? ⟨w.heap.size,0,none⟩=some (au g.Nt):=k0.cell 0 rfl
 have c2:=k2.cell 0 rfl
 have hmf:∀ (fn:Fn) (first aO:Array Value) (w:World),(Instr.makeFunc fn first aO).run aA w = .ok (.func fn first aO) w:=fun _ _ _ _=>rfl
 by_cases hb:m.aY=[]
 ·have HE:Hid (fE o W g.Nt g.M (m.pK c t) tv/\aj aB w W):=by
   refine ⟨?_,hc.2⟩
   unfold MS.pK
   rw [aZ hb]
   exact ht.still hc.2
  rw [hb] at HL
  clear h ht hc hW k0 k1 k2 o0 o1 o2 hb
  rcases hform with rfl|⟨fn,caps,rfl⟩
  all_goals
   go_enter func136,ntmps136
   go_wp2_with fail
   rw [<- AQ.out]
   refine HL.out.mono ?_
   rintro e w2 ⟨rfl,rfl⟩
   go_wp2_with fail
   go_ret
   exact ⟨_,rfl,HE.out.1,HE.out.2⟩
 ·have HE:Hid (fE o W g.Nt g.M (m.pK c t) (.func (.func 176) #[] #[aJ w.heap.size,aJ (w.heap.size+1+1),aJ (w.heap.size+1)])/\aj aB w W):=by
   refine ⟨?_,hc.2⟩
   unfold MS.pK
   rw [aT hb]
   exact ⟨tv,ht.still hc.2,⟨[w.heap.size,w.heap.size+1+1,w.heap.size+1],rfl,⟨_,_,rfl,o0,k0,_,_,rfl,o2,k2,_,_,rfl,o1,k1,rfl⟩⟩⟩
  have hpos:0<m.aY.length:=akM.2 hb
  have d0:((m.aY.length:Int)==0)=false:=by simp;omega
  generalize m.aY.length=n at *
  clear h ht hc hW k0 k1 k2 o0 o1 o2 hb
  rcases hform with rfl|⟨fn,caps,rfl⟩
  all_goals
   go_enter func136,ntmps136
   go_wp2_with fail
   rw [<- AQ.out]
   refine HL.out.mono ?_
   rintro e w2 ⟨rfl,rfl⟩
   go_wp2_with fail
   go_ret
   exact ⟨_,rfl,HE.out.1,HE.out.2⟩
theorem caps3 {l0 l1 l2:List Value × TypeId} {bs:List Nat} (h:tq o w [l0,l1,l2] bs):∃ b0 b1 b2,bs=[b0,b1,b2]/\(o b0=0/\aF w b0 l0.1 l0.2)/\(o b1=0/\aF w b1 l1.1 l1.2)/\(o b2=0/\aF w b2 l2.1 l2.2):=by
 obtain ⟨b0,r0,rfl,o0,k0,b1,r1,rfl,o1,k1,b2,r2,rfl,o2,k2,rfl⟩:=h
 exact ⟨b0,b1,b2,rfl,⟨o0,k0⟩,⟨o1,k1⟩,⟨o2,k2⟩⟩
theorem caps2 {l0 l1:List Value × TypeId} {bs:List Nat} (h:tq o w [l0,l1] bs):∃ b0 b1,bs=[b0,b1]/\(o b0=0/\aF w b0 l0.1 l0.2)/\(o b1=0/\aF w b1 l1.1 l1.2):=by
 obtain ⟨b0,r0,rfl,o0,k0,b1,r1,rfl,o1,k1,rfl⟩:=h
 exact ⟨b0,b1,rfl,⟨o0,k0⟩,⟨o1,k1⟩⟩
theorem caps1 {l0:List Value × TypeId} {bs:List Nat} (h:tq o w [l0] bs):∃ b0,bs=[b0]/\(o b0=0/\aF w b0 l0.1 l0.2):=by
 obtain ⟨b0,r0,rfl,o0,k0,rfl⟩:=h
 exact ⟨b0,rfl,⟨o0,k0⟩⟩
theorem caps4 {l0 l1 l2 l3:List Value × TypeId} {bs:List Nat} (h:tq o w [l0,l1,l2,l3] bs):∃ b0 b1 b2 b3,bs=[b0,b1,b2,b3]/\(o b0=0/\aF w b0 l0.1 l0.2)/\(o b1=0/\aF w b1 l1.1 l1.2)/\(o b2=0/\aF w b2 l2.1 l2.2)/\(o b3=0/\aF w b3 l3.1 l3.2):=by
 obtain ⟨b0,r0,rfl,o0,k0,b1,r1,rfl,o1,k1,b2,r2,rfl,o2,k2,b3,r3,rfl,o3,k3,rfl⟩:=h
 exact ⟨b0,b1,b2,b3,rfl,⟨o0,k0⟩,⟨o1,k1⟩,⟨o2,k2⟩,⟨o3,k3⟩⟩
theorem caps5 {l0 l1 l2 l3 l4:List Value × TypeId} {bs:List Nat} (h:tq o w [l0,l1,l2,l3,l4] bs):∃ b0 b1 b2 b3 b4,bs=[b0,b1,b2,b3,b4]/\(o b0=0/\aF w b0 l0.1 l0.2)/\(o b1=0/\aF w b1 l1.1 l1.2)/\(o b2=0/\aF w b2 l2.1 l2.2)/\(o b3=0/\aF w b3 l3.1 l3.2)/\(o b4=0/\aF w b4 l4.1 l4.2):=by
 obtain ⟨b0,r0,rfl,o0,k0,b1,r1,rfl,o1,k1,b2,r2,rfl,o2,k2,b3,r3,rfl,o3,k3,b4,r4,rfl,o4,k4,rfl⟩:=h
 exact ⟨b0,b1,b2,b3,b4,rfl,⟨o0,k0⟩,⟨o1,k1⟩,⟨o2,k2⟩,⟨o3,k3⟩,⟨o4,k4⟩⟩
theorem XY (h:bM o w G g s m none nv0) (x c:Nat) (t:MD) (v:Value) (hv:fE o w g.Nt g.M (.lH x c t) v):∃ bs:List Nat,v = .func (.func 173) #[] (bs.map aJ).toArray/\Calls aA 173 (bs.map aJ).toArray w (bW o w G g nv0 m.id (stepM s m (.lH x c t))):=by
 obtain ⟨tv,av,ht,ha,bs,hbs,hcap⟩:=hv
 refine ⟨bs,hbs,?_⟩
 obtain ⟨b0,b1,b2,b3,b4,rfl,⟨o0,k0⟩,⟨o1,k1⟩,⟨o2,k2⟩,⟨o3,k3⟩,⟨o4,k4⟩⟩:=caps5 hcap
 obtain ⟨al,rfl,hca⟩:=ha
 obtain ⟨a0,a1,a2,rfl,⟨p0,q0⟩,⟨p1,q1⟩,⟨p2,q2⟩⟩:=caps3 hca
 have c0:w.cell? ⟨b0,0,none⟩=some (au g.Nt):=k0.cell 0 rfl
 have c1:=k1.cell 0 rfl
 have c2:=k2.cell 0 rfl
 have c3:=k3.cell 0 rfl
 have n0:w.cell? ⟨g.Nt,0,none⟩=some (au (G.D 0)):=h.nt.cell 0 rfl
 have HC:Hid (∀ W,aj aB w W->Calls aA 28 #[au (G.D 0),ah (x:Int)] W fun e w'=>e = .returned (.tuple #[ah ((if s.H.bn x then s.H.iU x else 0:Nat):Int),ah (if s.H.bn x then 0 else 1)])/\W=w'):=fun W hW=>FB (h.sh.heap.still hW) x
 have hform:=ht.form
 show Calls aA 173 #[au b0,au b1,au b2,au b3,au b4] w _
 obtain ⟨n,hn⟩:∃ n,n=w:=⟨_,rfl⟩
 clear hn n
 cases hb:s.H.bn x with
 | false =>
   have HE:Hid (∀ W,aj aB w W->bW o w G g nv0 m.id (stepM s m (.lH x c t)) (.returned tv) W):=fun W hW=>by
    have e1:stepM s m (.lH x c t)=⟨s,m,t,none⟩:=by simp only [stepM,hb];rfl
    rw [e1]
    exact bW.same (h.still hW) (ht.still hW) hW.bV
   simp only [hb,Bool.false_eq_true,if_false] at HC
   clear h ht hcap hca k0 k1 k2 k3 k4 q0 q1 q2 o0 o1 o2 o3 o4 p0 p1 p2 hbs hb
   rcases hform with rfl|⟨fn,caps,rfl⟩
   all_goals
    go_enter func173,ntmps173
    go_wp2_with fail
    go_quiet (first|(go_at_call 28;exact Calls.quiet_of_same (iQ (HC.out _ ((aj.refl aB w).drewN _)))))
    have HK:Hid (aj aB w (w.drewN nq)):=(aj.refl _ _).drewN _
    go_wp2_with fail
    go_ret
    exact HE.out _ HK.out
 | true =>
   simp only [hb,if_true] at HC
   by_cases oG:s.H.iU x=c
   ·have HE:Hid (∀ W,aj aB w W->bW o w G g nv0 m.id (stepM s m (.lH x c t)) (.returned tv) W):=fun W hW=>by
     have e1:stepM s m (.lH x c t)=⟨s,m,t,none⟩:=by simp only [stepM,hb,oG];simp
     rw [e1]
     exact bW.same (h.still hW) (ht.still hW) hW.bV
    rw [oG] at HC
    clear h ht hcap hca k0 k1 k2 k3 k4 q0 q1 q2 o0 o1 o2 o3 o4 p0 p1 p2 hbs hb oG
    rcases hform with rfl|⟨fn,caps,rfl⟩
    all_goals
     go_enter func173,ntmps173
     go_wp2_with fail
     go_quiet (first|(go_at_call 28;exact Calls.quiet_of_same (iQ (HC.out _ ((aj.refl aB w).drewN _)))))
     have HK:Hid (aj aB w (w.drewN nq)):=(aj.refl _ _).drewN _
     go_wp2_with fail
     go_ret
     exact HE.out _ HK.out
   ·have d1:((s.H.iU x:Int)==(c:Int))=false:=int_ne oG
    have Jq:Hid (∀ W,aj aB w W->W.cell? ⟨g.Nt,1,none⟩=some (au g.Bf)):=fun W hW=>(h.still hW).nt.cell 1 rfl
    have HF:Hid (∀ W,aj aB w W->Calls aA 174 #[au g.Bf] W fun e w'=>e = .returned (.bool (decide (m.aY.length=m.c.l.toNat)))/\aj aB W w'):=fun W hW=>by
     have h9:=FD (h.still hW).aY
     rw [h.full] at h9;exact h9
    have ZV:Hid (∀ W,aj aB w W->W.cell? ⟨b4,0,none⟩=some (.func (.func 171) #[] #[au a0,au a1,au a2])):=fun W hW=>(hW.aH k4 (fun f=>f)).cell 0 rfl
    by_cases hf:m.aY.length=m.c.l.toNat
    ·have HP:Hid (∀ W,aj aB w W->Calls aA 136 #[au g.Nt,ah (c:Int),.func (.func 171) #[] #[au a0,au a1,au a2]] W (bW o w G g nv0 m.id (stepM s m (.lH x c t)))):=fun W hW=>by
      have hav:fE o W g.Nt g.M (.add x t) (.func (.func 171) #[] #[au a0,au a1,au a2]) :=
       fE.still (d := .add x t) ⟨tv,ht,⟨[a0,a1,a2],rfl,hca⟩⟩ hW
      refine (Ls (h.still hW) c (.add x t) _ hav).mono ?_
      rintro e w' ⟨nv,rfl,hm,hk⟩
      have e1:stepM s m (.lH x c t)=⟨s,m,m.pK c (.add x t),none⟩:=by
       simp only [stepM,hb]
       rw [aT (by simpa using oG),aZ hf]
      rw [e1]
      exact bW.same ((h.still hW).still hk) hm (hW.trans hk).bV
     rw [fK hf] at HF
     have H0:Hid (∀ W,aj aB w W->W.cell? ⟨b0,0,none⟩=some (au g.Nt)/\W.cell? ⟨b2,0,none⟩=some (ah (c:Int))):=fun W hW=>⟨(hW.aH k0 (fun f=>f)).cell 0 rfl,(hW.aH k2 (fun f=>f)).cell 0 rfl⟩
     generalize s.H.iU x=jw at *
     generalize stepM s m (.lH x c t)=R at *
     clear h ht hcap hca k0 k1 k2 k3 k4 q0 q1 q2 o0 o1 o2 o3 o4 p0 p1 p2 hbs hb oG hf hform
     go_enter func173,ntmps173
     go_wp2_with fail
     go_quiet (first|(go_at_call 28;exact Calls.quiet_of_same (iQ (HC.out _ ((aj.refl aB w).drewN _)))))
     obtain ⟨W1,hW1⟩:∃ W1,W1=w.drewN nq:=⟨_,rfl⟩
     rw [<- hW1]
     have bI:Hid (aj aB w W1):=by rw [hW1];exact (aj.refl _ _).drewN _
     clear hW1 c0 c1 c2 c3 n0
     have c0:=(H0.out _ bI.out).1
     have c2:=(H0.out _ bI.out).2
     have z1:=Jq.out _ bI.out
     have wU:=ay (HF.out _ bI.out)
     go_wp2_with fail
     refine wU.out.mono ?_
     rintro e w2 ⟨rfl,hk2⟩
     have dF:=ay (bI.out.trans hk2)
     clear hk2 c0 c2 z1
     have c0:=(H0.out _ dF.out).1
     have c2:=(H0.out _ dF.out).2
     have c4:=ZV.out _ dF.out
     go_wp2_with fail
     refine (HP.out _ dF.out).mono ?_
     rintro e w3 hp
     obtain ⟨o',nv,rfl,hp⟩:=hp
     have Ji:Hid (bW o w G g nv0 m.id R (.returned nv) w3):=⟨o',nv,rfl,hp⟩
     have hfm:=hp.2.2.1.form
     clear hp c0 c2 c4
     rcases hfm with rfl|⟨fn,caps,rfl⟩
     all_goals
      go_wp2_with fail
      go_ret
      exact Ji.out
    ·have HA:Hid (∀ W,aj aB w W->Calls aA 171 #[au a0,au a1,au a2] W fun e w'=>e = .returned tv/\bW o w G g nv0 m.id (stepM s m (.lH x c t)) (.returned tv) w'):=fun W hW=>by
      refine (OV (h.still hW) x t tv (ht.still hW) a0 a1 a2 p0 p1 p2 (hW.aH q0 (fun f=>f)) (hW.aH q1 (fun f=>f)) (hW.aH q2 (fun f=>f))).mono ?_
      rintro e w' ⟨rfl,g1,g2,g3⟩
      have e1:stepM s m (.lH x c t)=⟨s,{ m with aY:=m.aY++[x] },t,none⟩:=by
       simp only [stepM,hb]
       rw [aT (by simpa using oG),aT hf]
      have e2:stepM s m (.add x t)=⟨s,{ m with aY:=m.aY++[x] },t,none⟩:=by simp only [stepM,aT hf]
      rw [e2] at g1
      rw [e1]
      exact ⟨rfl,bW.same g1 g2 (hW.bV.trans g3)⟩
     rw [gJ hf] at HF
     have H0:Hid (∀ W,aj aB w W->W.cell? ⟨b0,0,none⟩=some (au g.Nt)/\W.cell? ⟨b2,0,none⟩=some (ah (c:Int))):=fun W hW=>⟨(hW.aH k0 (fun f=>f)).cell 0 rfl,(hW.aH k2 (fun f=>f)).cell 0 rfl⟩
     generalize s.H.iU x=jw at *
     generalize stepM s m (.lH x c t)=R at *
     clear h ht hcap hca k0 k1 k2 k3 k4 q0 q1 q2 o0 o1 o2 o3 o4 p0 p1 p2 hbs hb oG hf
     rcases hform with rfl|⟨fn,caps,rfl⟩
     all_goals
      go_enter func173,ntmps173
      go_wp2_with fail
      go_quiet (first|(go_at_call 28;exact Calls.quiet_of_same (iQ (HC.out _ ((aj.refl aB w).drewN _)))))
      obtain ⟨W1,hW1⟩:∃ W1,W1=w.drewN nq:=⟨_,rfl⟩
      rw [<- hW1]
      have bI:Hid (aj aB w W1):=by rw [hW1];exact (aj.refl _ _).drewN _
      clear hW1 c0 c1 c2 c3 n0
      have c0:=(H0.out _ bI.out).1
      have c2:=(H0.out _ bI.out).2
      have z1:=Jq.out _ bI.out
      have wU:=ay (HF.out _ bI.out)
      go_wp2_with fail
      refine wU.out.mono ?_
      rintro e w2 ⟨rfl,hk2⟩
      have dF:=ay (bI.out.trans hk2)
      clear hk2 c0 c2 z1
      have c4:=ZV.out _ dF.out
      go_wp2_with fail
      refine (HA.out _ dF.out).mono ?_
      rintro e w3 ⟨rfl,hp⟩
      have Ji:=ay hp
      clear hp c4
      go_wp2_with fail
      go_ret
      exact Ji.out
end
section
variable {o:Ow} {w w':World} {G:fU} {g:MG} {s:Sh} {m:MS} {nv0:Value}
theorem bM.wQ {H:HS} (h:bM o w G g s m none nv0) (k:aj (HF G.D) w w') (hH:aI w' G.D H) (hc:H.c=s.H.c):bM o w' G g { s with H:=H } m none nv0/\aj (In o (eH m.id)) w w':=by
 obtain ⟨h1,k1⟩:=h.sh.wQ k hH h.box8
 exact ⟨h.vJ k1 rfl (by simp;omega) h1 rfl hc,k1.oW (by simp [eH])⟩
theorem Vm (h:bM o w G g s m none nv0) (t:MD) (v:Value) (hv:fE o w g.Nt g.M (.kX t) v):∃ bs:List Nat,v = .func (.func 217) #[] (bs.map aJ).toArray/\Calls aA 217 (bs.map aJ).toArray w (bW o w G g nv0 m.id (stepM s m (.kX t))):=by
 obtain ⟨tv,ht,bs,hbs,hcap⟩:=hv
 refine ⟨bs,hbs,?_⟩
 obtain ⟨b0,b1,rfl,⟨o0,k0⟩,⟨o1,k1⟩⟩:=caps2 hcap
 have c0:w.cell? ⟨b0,0,none⟩=some (au g.Nt):=k0.cell 0 rfl
 have n3:w.cell? ⟨g.Nt,3,none⟩=some (au G.Fl):=h.nt.cell 3 rfl
 have hform:=ht.form
 have HR:Hid (Calls aA 218 #[au G.Fl] w fun e w'=>e = .returned (.tuple #[])/\bW o w G g nv0 m.id (stepM s m (.kX t)) (.returned tv) w'/\aF w' b1 [tv] 88):=by
  refine (Vk G.Fl s.dw h.sh.dw).mono ?_
  rintro e w' ⟨rfl,g1,g2⟩
  obtain ⟨h1,kk⟩:=h.sh.IX g2 g1
  have km:aj (In o (eH m.id)) w w':=kk.oW (by simp [eH])
  exact ⟨rfl,bW.same (r:=stepM s m (.kX t)) (h.vJ kk rfl (by simp;omega) h1 rfl rfl) (ht.bg kk rfl) km,k1.bg kk o1 rfl⟩
 show Calls aA 217 #[au b0,au b1] w _
 generalize stepM s m (.kX t)=R at *
 clear h ht hcap k0 k1 o0 o1 hbs
 rcases hform with rfl|⟨fn,caps,rfl⟩
 all_goals
  go_enter func217,ntmps217
  go_wp2_with fail
  refine HR.out.mono ?_
  rintro e w1 ⟨rfl,hp,hb⟩
  have HP:=ay hp
  have c1:=hb.cell 0 rfl
  clear hp hb c0 n3
  go_wp2_with fail
  go_ret
  exact HP.out
theorem XZ (h:bM o w G g s m none nv0) (c:Nat) (t:MD) (v:Value) (hv:fE o w g.Nt g.M (.nT c t) v):∃ bs:List Nat,v = .func (.func 176) #[] (bs.map aJ).toArray/\Calls aA 176 (bs.map aJ).toArray w (bW o w G g nv0 m.id (stepM s m (.nT c t))):=by
 obtain ⟨tv,ht,bs,hbs,hcap⟩:=hv
 refine ⟨bs,hbs,?_⟩
 obtain ⟨b0,b1,b2,rfl,⟨o0,k0⟩,⟨o1,k1⟩,⟨o2,k2⟩⟩:=caps3 hcap
 have c0:w.cell? ⟨b0,0,none⟩=some (au g.Nt):=k0.cell 0 rfl
 have n1:w.cell? ⟨g.Nt,1,none⟩=some (au g.Bf):=h.nt.cell 1 rfl
 have n2:w.cell? ⟨g.Nt,2,none⟩=some (au (G.bx m.id)):=h.nt.cell 2 rfl
 have hform:=ht.form
 have hkd:aj aB w w.drew:=(aj.refl aB w).drew
 have hd:=h.still hkd
 show Calls aA 176 #[au b0,au b1,au b2] w _
 by_cases hx:s.box m.id=[]
 ·have HR:Hid (Calls aA 177 #[au (G.bx m.id),au g.Bf] w.drew fun e w'=>e = .returned (.bool true)/\bW o w G g nv0 m.id (stepM s m (.nT c t)) (.returned tv) w'/\aF w' b1 [tv] 88):=by
   have hbx:=hd.adJ
   rw [hx] at hbx
   have hne:G.bx m.id≠g.Bf:=fun e=>by have h1:=hbx.2;rw [e,h.CU] at h1;omega
   refine (XU hd.aY hbx.1 hne hd.sh.iV).mono ?_
   rintro e w' ⟨rfl,g1,g2,g3⟩
   have kk:aj (In o [10+m.id,20+m.id]) w.drew w':=g3.mono (fun i _ e=>by
    unfold In
    rcases e with e|e
    ·rw [e,hbx.2];simp
    ·rw [e,h.CU];simp)
   have h0:([10+m.id,20+m.id]:List Nat).contains 0=false:=by simp;omega
   have km:aj (In o (eH m.id)) w w':=(hkd.bV).trans (kk.oW (by simp [eH]))
   have hs':fH o w' G { s with aV:=s.aV.set m.id m.aY }:=by
    refine hd.sh.iZ (s':={ s with aV:=s.aV.set m.id m.aY }) kk h0 (hd.sh.zU kk h0 (by simp;omega)) (hd.sh.rH.aK kk (dR hd.sh.oB (by simp;omega))) (hd.sh.sJ.bg kk h0 hd.sh.oQ (by simp;omega)) (hd.sh.dw.bg kk hd.sh.oF (by simp;omega)) (by simp) (fun i l hi=>?_)
    by_cases e:m.id=i
    ·rw [<- e,List.getElem?_set_self h.mF] at hi
     cases hi
     rw [<- e];exact g2
    ·rw [List.getElem?_set_ne e] at hi
     have hil:=(List.getElem?_eq_some_iff.1 hi).1
     have h8:=h.box8
     have afE:=h.mF
     exact (hd.sh.box i l hi).1.bg kk h0 (hd.sh.box i l hi).2 (by simp;omega)
   obtain ⟨pv,rv,p1,p2,p3⟩:=hd.aH
   have ap:=hd.apart
   have nM:¬ (g.M=G.bx m.id\/g.M=g.Bf):=by
    rintro (e|e)
    ·have h1:=hbx.2;rw [<- e,h.oM] at h1;omega
    ·exact ap.2.1 e
   have nX:¬ (g.X=G.bx m.id\/g.X=g.Bf):=by
    rintro (e|e)
    ·have h1:=hbx.2;rw [<- e,h.oX] at h1;omega
    ·exact ap.2.2.1 e
   have hm:bM o w' G g { s with aV:=s.aV.set m.id m.aY } { m with aY:=[] } none nv0:=by
    refine ⟨hs',⟨pv,rv,g3.aH p1 nM,p2.bg kk h0,⟨gK p3.1 g3 (fun b hb e=>?_),p3.2⟩⟩,h.oM,g3.aH hd.aW nX,h.oX,g1,h.CU,hd.nt.bg kk h.zx h0,h.zx,by simpa using h.mF,by simpa using h.box8,h.qE,h.uq,by have:=h.cl;simp;omega⟩
    rcases e with e|e
    ·have h1:=hbx.2;rw [<- e,p3.2 b hb] at h1;omega
    ·exact (ap.2.2.2 rv _ b p3 hb).2.2 e
   have e1:stepM s m (.nT c t)=⟨{ s with aV:=s.aV.set m.id m.aY },{ m with aY:=[] },t,none⟩:=by simp only [stepM,aZ hx]
   rw [e1]
   exact ⟨rfl,bW.same hm (ht.bg km (qp _)) km,k1.bg km o1 (qp _)⟩
  generalize stepM s m (.nT c t)=R at *
  clear h ht hcap k0 k1 k2 o0 o1 o2 hbs hkd hd hx
  rcases hform with rfl|⟨fn,caps,rfl⟩
  all_goals
   go_enter func176,ntmps176
   go_wp2_with fail
   refine bG 8 rfl (by kernel_rfl) (by kernel_rfl) (fun K hK=>?_)
   change wpStill _ _ (ajr _) _ _ _
   simp only [List.take_succ_cons,ajs,ajt,ajn] at hK ⊢
   repeat still_step
   refine wpStill_nil ?_
   change ite _ (Oper.wp _ _ _ w.drew _ _) _
   go_simp
   refine HR.out.mono ?_
   rintro e w1 ⟨rfl,hp,hb⟩
   refine hK _ _ ?_
   clear hK K
   have HP:=ay hp
   have c1:=hb.cell 0 rfl
   clear hp hb c0 n1 n2
   refine wpStill_nil ?_
   go_wp2_with fail
   go_ret
   exact HP.out
 ·have HR:Hid (Calls aA 177 #[au (G.bx m.id),au g.Bf] w.drew fun e w'=>e = .returned (.bool false)/\w.drew=w'):=ZT hd.aY hd.adJ.1 hx
  have d0:w.drew.cell? ⟨b0,0,none⟩=some (au g.Nt):=(hkd.aH k0 (fun f=>f)).cell 0 rfl
  have d1:=(hkd.aH k1 (fun f=>f)).cell 0 rfl
  have d2:=(hkd.aH k2 (fun f=>f)).cell 0 rfl
  have HP:Hid (Calls aA 178 #[au g.Nt,ah (c:Int),.bool false,tv] w.drew (bW o w G g nv0 m.id (stepM s m (.nT c t)))):=by
   refine (Jp (M:=g.M) hd.sh.iV c false t tv (ht.still hkd)).mono ?_
   rintro e w' ⟨nv,rfl,h1,h2⟩
   have e1:stepM s m (.nT c t)=⟨s,m,.iK c false t,none⟩:=by simp only [stepM,aT hx]
   rw [e1]
   exact bW.same (hd.still h2) h1 (hkd.trans h2).bV
  generalize stepM s m (.nT c t)=R at *
  clear h ht hcap k0 k1 k2 o0 o1 o2 hbs hkd hd hx
  rcases hform with rfl|⟨fn,caps,rfl⟩
  all_goals
   go_enter func176,ntmps176
   go_wp2_with fail
   refine bG 8 rfl (by kernel_rfl) (by kernel_rfl) (fun K hK=>?_)
   change wpStill _ _ (ajr _) _ _ _
   simp only [List.take_succ_cons,ajs,ajt,ajn] at hK ⊢
   repeat still_step
   refine wpStill_nil ?_
   change ite _ (Oper.wp _ _ _ w.drew _ _) _
   go_simp
   refine HR.out.mono ?_
   rintro e w1 ⟨rfl,rfl⟩
   refine hK _ _ ?_
   clear hK K c0 n1 n2 HR
   refine wpStill_nil ?_
   obtain ⟨W1,hW1⟩:∃ W1,W1=w.drew:=⟨_,rfl⟩
   rw [<- hW1] at d0 d1 d2 HP ⊢
   clear hW1
   go_wp2_with fail
   refine HP.out.mono ?_
   rintro e w2 ⟨o',nv,rfl,hp⟩
   have Ji:Hid (bW o w G g nv0 m.id R (.returned nv) w2):=⟨o',nv,rfl,hp⟩
   have hfm:=hp.2.2.1.form
   clear hp d0 d1 d2
   rcases hfm with rfl|⟨fn,caps,rfl⟩
   all_goals
    go_wp2_with fail
    go_ret
    exact Ji.out
end
end
end Go.Proofs.YtanfphjoebobaaaGreatDoor
