/- Parts of the iy. No conditions. -/
import Derived.Test.YtanfphjoebobaaaGreatDoorZzfz
namespace Go.Proofs.YtanfphjoebobaaaGreatDoor
open _root_.List renaming getD_eq_getElem?_getD->ajg,getElem?_eq_getElem->ajh,getElem?_eq_none->ajK,getElem?_map->aks,getElem_mem->aji,length_replicate->akw,length_set->aku,mem_map->akW,mem_of_getElem?->alh,range->akS,replicate->ajj
open _root_.Nat renaming le_refl->aje,le_trans->ajU,lt_of_lt_of_le->ajf,lt_or_ge->ajz,zero_le->aki
open _root_.Go.Proofs.Tryz hiding prog
open _root_.Go.Proofs.Tryz renaming prog->aA
set_option maxRecDepth 8000
set_option maxHeartbeats 8000000
section
attribute [local go_sem] Oper.semAt_some
open Go.RowKit
def wZ:MD->Prop
 | .nil=>True
 | .once _=>True
 | .lH _ _ t=>wZ t
 | .add _ t=>wZ t
 | .nT _ t=>wZ t
 | .iK _ _ t=>wZ t
 | .kX t=>wZ t
 | .get _=>True
 | .kU o=>o.k=4
 | _=>False
def acZ (m:MS):Prop:=wZ m.next/\∀ o∈m.prog,o.k=4
section
variable {o:Ow} {w w':World} {G:fU} {g:MG} {s:Sh} {m:MS} {nv:Value} {ev:Option Ev} {N:Nat}
theorem YH (h:bM o w G g s m none nv) (op:jy) (hk:op.k=4) (hres:m.dG.length<=1000000000):Calls aA 93 #[au g.M,.agg op.cells.toArray] w (bW o w G g nv m.id (kY s m op)):=by
 by_cases he:tN m.c op=0
 case neg =>
  have e1:kY s m op=sV s m (tN m.c op) 0:=by unfold kY;rw [aZ he]
  rw [e1]
  exact X6 h op he hres
 have e0:kY s m op=⟨s,m,.get op,none⟩:=by
  unfold kY
  rw [aT (by simpa using he),aT (by omega),aT (by omega),aT (by omega),aZ hk]
 rw [e0]
 exact Z9 h op he 187 (by rw [hk];rfl) (fun args w=>by simp [callFunc,func187,go_sem];rfl) _ (fun W k=>by
  have h9:=Z7 (h.still k) op
  exact h9)
theorem PX (d:MD) (hf:wZ d):IZ d:=by
 intro o w G g s m nv N h ok hN hd v hv hnil
 have hres:m.dG.length<=1000000000:=ajU ok.dG hN
 cases d with
 | nil=>cases hnil
 | add x t =>
   obtain ⟨tv,ht,bs,e,hc⟩:=hv
   obtain ⟨b0,b1,b2,rfl,⟨o0,k0⟩,⟨o1,k1⟩,⟨o2,k2⟩⟩:=caps3 hc
   refine ⟨_,_,e,LG,(OV h x t tv ht b0 b1 b2 o0 o1 o2 k0 k1 k2).mono ?_⟩
   rintro e w' ⟨rfl,h1,h2,h3⟩
   have ee:(stepM s m (.add x t)).next=t/\(stepM s m (.add x t)).ev=none:=by
    simp only [stepM]
    split<;>exact ⟨rfl,rfl⟩
   refine bW.same (by rw [ee.2];exact h1) (by rw [ee.1];exact h2) h3
 | kU o =>
   obtain ⟨bs,e,hc⟩:=X7 h o v hv (YH h o hf hres)
   exact ⟨_,bs,e,NP,hc⟩
 | once k =>
   obtain ⟨bs,e,hc⟩:=X8 h k v hv ok.aP
   exact ⟨_,bs,e,NQ,hc⟩
 | lH x c t =>
   obtain ⟨bs,e,hc⟩:=XY h x c t v hv
   exact ⟨_,bs,e,LH,hc⟩
 | nT c t =>
   obtain ⟨bs,e,hc⟩:=XZ h c t v hv
   exact ⟨_,bs,e,LJ,hc⟩
 | iK c f t =>
   obtain ⟨bs,e,hc⟩:=Vo h c f t v hv
   exact ⟨_,bs,e,JX,hc⟩
 | kX t =>
   obtain ⟨bs,e,hc⟩:=Vm h t v hv
   exact ⟨_,bs,e,G8,hc⟩
 | get o =>
   obtain ⟨bs,e,hc⟩:=Z5 h o v hv hd.1 hd.2 hres
   exact ⟨_,bs,e,Sr,hc⟩
 | _=>exact hf.elim
end
theorem aaN {v c:Nat} {t:MD} (h:wZ t):wZ (pJ v c t):=by
 unfold pJ
 split<;>exact h
theorem PY {m:MS} {c:Nat} {t:MD} (h:wZ t):wZ (m.pK c t):=by
 unfold MS.pK
 split<;>exact h
theorem PZ (w:Nat):∀ l:List Nat,wZ (oZ w l)
 | []=>trivial
 | v::l=>aaN (PZ w l)
theorem YI (s:Sh) {m:MS} (h:∀ o∈m.prog,o.k=4):wZ (fG s m):=by
 unfold fG
 split
 ·split
  ·exact PZ _ _
  ·split
   ·exact PY trivial
   ·trivial
 ·split
  ·rename_i o ho
   exact h o (alh ho)
  ·trivial
theorem aaO (s:Sh) (m:MS) (d:MD) (h:wZ d):wZ (stepM s m d).next/\(stepM s m d).m.prog=m.prog:=by
 cases d with
 | nil=>exact ⟨trivial,rfl⟩
 | once k =>
   refine ⟨trivial,?_⟩
   show (jP m k).prog=m.prog
   unfold jP
   repeat' split
   all_goals rfl
 | lH v c t =>
   simp only [stepM]
   split
   ·exact ⟨h,rfl⟩
   ·split
    ·exact ⟨PY h,rfl⟩
    ·exact ⟨h,rfl⟩
 | add v t =>
   simp only [stepM]
   split<;>exact ⟨h,rfl⟩
 | nT c t =>
   simp only [stepM]
   split<;>exact ⟨h,rfl⟩
 | iK c f t =>
   simp only [stepM]
   refine ⟨?_,trivial⟩
   split
   ·exact h
   ·split<;>exact h
 | kX t=>exact ⟨h,rfl⟩
 | get o=>exact ⟨trivial,rfl⟩
 | kU o =>
   have hk:o.k=4:=h
   have e:kY s m o=sV s m (tN m.c o) 0\/kY s m o=⟨s,m,.get o,none⟩:=by
    unfold kY
    by_cases hc:tN m.c o≠0
    ·rw [aZ hc];exact .inl rfl
    ·rw [aT hc,aT (by omega),aT (by omega),aT (by omega),aZ hk]
     exact .inr rfl
   show wZ (kY s m o).next/\(kY s m o).m.prog=m.prog
   rcases e with e|e<;>rw [e]<;>exact ⟨True.intro,rfl⟩
 | _=>exact h.elim
theorem ada (s:Sh) {m:MS} (h:acZ m):acZ (dV s m).2.1:=by
 unfold dV
 split
 ·exact ⟨YI s h.2,h.2⟩
 ·obtain ⟨h1,h2⟩:=aaO s { m with aU:=m.aU+1 } m.next h.1
  generalize stepM s { m with aU:=m.aU+1 } m.next=r at *
  simp only
  split
  ·have e:∀ M:MS,M.most.next=M.next/\M.most.prog=M.prog:=fun M=>by
    unfold MS.most
    split<;>exact ⟨rfl,rfl⟩
   refine ⟨by rw [(e _).1];trivial,by rw [(e _).2];intro o ho;exact h.2 o (by rw [<- h2];exact ho)⟩
  ·exact ⟨h1,fun o ho=>h.2 o (by rw [<- h2];exact ho)⟩
def yY (x:WS):Prop:=∀ m∈x.aG,acZ m
theorem Ai {x:WS} (h:yY x) (i:Nat):yY (eY x i):=by
 have tl:∀ (y:WS) ev,(y.qC ev).aG=y.aG:=fun y ev=>by cases ev<;>rfl
 intro m hm
 unfold eY at hm
 cases hi:x.aG[i]? with
 | some m0 =>
   rw [hi] at hm
   simp only [tl] at hm
   rcases List.mem_or_eq_of_mem_set hm with g|g
   ·exact h m g
   ·rw [g];exact ada _ (h m0 (alh hi))
 | none =>
   rw [hi] at hm
   simp only at hm
   split at hm
   ·rw [tl] at hm;exact h m hm
   ·rw [tl] at hm;exact h m hm
end
section
attribute [local go_sem ↓] nD
attribute [local go_sem] Oper.semAt_some
open Go.RowKit
section
variable {o o':Ow} {w w' W W':World} {G:fU} {gs:List MG} {q:CG} {x:xE} {v:Value} {a1 a2 a3 a4:Option Addr} {n1 n2 n3 n4 p1 p2 p3 p4:Nat}
theorem aeO {e:TypeId} {bP g n aO size:Nat} {xs:List Value} (h:w.ownsRow 0 e size (.slice (some ⟨g,0,none⟩) n aO) n xs) (hg:bP<=g):w.ownsRow bP e size (.slice (some ⟨g,0,none⟩) n aO) n xs:=by
 obtain ⟨h1,h2⟩:=h
 refine ⟨h1,?_⟩
 rcases h2 with ⟨e1,_⟩|⟨g',cap',cur,e1,_,eP⟩
 ·cases e1
 ·cases e1
  exact .inr ⟨g,aO,cur,rfl,hg,eP⟩
structure Ir (w:World) (x:xE) (a1 a2 a3 a4:Option Addr) (n1 n2 n3 n4:Nat):Prop where
 s:yt w a1 n1 x.sz
 f:yt w a2 n2 x.fl
 c:yt w a3 n3 x.ce
 r:yt w a4 n4 x.rg
theorem Ir.still (h:Ir w x a1 a2 a3 a4 n1 n2 n3 n4) (k:aj aB w w'):Ir w' x a1 a2 a3 a4 n1 n2 n3 n4:=⟨h.s.still k,h.f.still k,h.c.still k,h.r.still k⟩
abbrev Aj (c:bK) (a1 a2 a3 a4:Option Addr) (n1 n2 n3 n4 p1 p2 p3 p4:Nat):Value := .agg #[ah c.b,ah c.w,ah c.m,ah c.r,ah c.c,ah c.l,ah c.s,.slice a1 n1 p1,.slice a2 n2 p2,.slice a3 n3 p3,.slice a4 n4 p4]
theorem Iu {fn:Func} {t u v z:Tmp} (h:fn.results=#[.tmp t,.tmp u,.tmp v,.tmp z]) (tmps:Array Value) (P:Program) (w:World) :
 (results fn tmps).run P w = .ok (.tuple #[tmps.getD t undef,tmps.getD u undef,tmps.getD v undef,tmps.getD z undef]) w:=by
 simp [results,h]
theorem P5 (c:bK) (x:xE) (n:Nat):yY (jY c x n):=by
 intro m hm
 have hm':m∈(akS n).map (fun j=>MS.bC c j (uD c.r x.rg j)):=hm
 obtain ⟨j,_,rfl⟩:=akW.1 hm'
 refine ⟨trivial,fun o ho=>?_⟩
 have ho':o∈uD c.r x.rg j:=ho
 unfold uD at ho'
 split at ho'
 ·unfold rO at ho'
  obtain ⟨k,_,rfl⟩:=akW.1 ho'
  rfl
 ·cases ho'
def I9 (w:World) (x:xE) (e:Ending) (w':World):Prop :=
 ∃ (o:Ow) (G:fU) (q:CG) (gs:List MG) (mv:Value) (a:Option Addr) (c:Nat),e = .returned (.tuple #[au G.S,au q.C,mv,.slice a (gG (HS.bC x.c.bJ x.c.bJ.b.toNat x.c.bJ.w.toNat x.c.bJ.c.toNat) x.sz).aQ.length c]) /\
  CW w w' o G gs q (iY x)/\uQ 300 (iY x)/\lG o w' mv gs /\
  dH o w' 3 (.slice a (gG (HS.bC x.c.bJ x.c.bJ.b.toNat x.c.bJ.w.toNat x.c.bJ.c.toNat) x.sz).aQ.length c) (aS (gG (HS.bC x.c.bJ x.c.bJ.b.toNat x.c.bJ.w.toNat x.c.bJ.c.toNat) x.sz).aQ)
theorem aI.qV {D:Nat->Nat} {H:HS} (h:aI w D H):HBd H:=by
 have hn:=h.ZK
 refine ⟨DT H,fun b=>ajU (Kr H b) ?_⟩
 have:H.ww/2<=H.ww:=Nat.div_le_self _ _
 omega
theorem CW.bP {y:WS} (h:CW W' W o G gs q y) (k:aj aB w W'):CW w W o G gs q y:=⟨h.aC,h.len,h.gW,fun b hb=>h.yI b (ajf hb k.size),k.trans h.aK⟩
structure ug (o0:Ow) (w W:World) (o:Ow) (G:fU) (gs:List MG) (q:CG) (x:WS):Prop extends CW w W o G gs q x where
 ex:∀ b,b<w.heap.size->o b=o0 b
section
variable {y:WS} {o0:Ow}
theorem ug.of {gs':List MG} {y':WS} (h:ug o0 w W o G gs q y) (h':CW w W' o' G gs' q y') (e:bZ W o o'):ug o0 w W' o' G gs' q y':=⟨h',fun b hb=>(e b (ajf hb h.aK.size)).trans (h.ex b hb)⟩
theorem ug.yR (h:ug o0 w W o G gs q y) (k:aj aB W W'):ug o0 w W' o G gs q y:=⟨h.toCW.yR k,h.ex⟩
theorem ug.bP (h:ug o0 W' W o G gs q y) (k:aj aB w W'):ug o0 w W o G gs q y:=⟨h.toCW.bP k,fun b hb=>h.ex b (ajf hb k.size)⟩
theorem ug.pick {N:Nat} (h:ug o0 w W o G gs q y) (ok:uQ N y) (hN:N<=1000000000) {g:MG} {i:Nat} {m:MS} (hg:gs[i]?=some g) (hm:y.aG[i]?=some m) (hst:IZ m.next):Calls aA 24 #[au g.M] W fun e W'=>e = .returned (.tuple #[vK (dV y.s m).2.2,sO (dV y.s m).2.2])/\∃ o',bZ W o o'/\ug o0 w W' o' G gs q (eY y i)/\aj (In o (eH i)) W W':=by
 refine (h.toCW.pick ok hN hg hm hst).mono ?_
 rintro e W' ⟨h1,o',h2,h3,h4⟩
 exact ⟨h1,o',h2,h.of h3 h2,h4⟩
theorem lG.ahA {g:MG} {gs2:List MG} (h:lG o W v gs) (hc:ug o0 w W o G gs2 q y) {N:Nat} (hN:W.cell? ⟨N,0,none⟩=some (aJ g.M)) (hl:gs.length<=100):∃ b aO W5,(app9 #[31,31] 31 #[v,.slice (some ⟨N,0,none⟩) 1 1]).run aA W = .ok (.slice (some ⟨b,0,none⟩) (gs.length+1) aO) W5 /\
 ∃ o',bZ W o o'/\ug o0 w W5 o' G gs2 q y/\lG o' W5 (.slice (some ⟨b,0,none⟩) (gs.length+1) aO) (gs++[g])/\aj (In o [97]) W W5:=by
 obtain ⟨b,aO,W5,hrun,o',h1,h2,h3,h4⟩:=h.grow hc.toCW hN hl
 exact ⟨b,aO,W5,hrun,o',h1,hc.of h2 h1,h3,h4⟩
end
theorem Iw {y:WS} {m:MS} (hm:y.aG[0]?=some m) (hd:mZ m=true):∀ f,tC f y=y
 | 0=>rfl
 | f+1=>by
   unfold tC
   cases hl:y.aG with
   | nil=>rfl
   | cons m' r =>
     rw [hl] at hm
     cases hm
     simp only [hd,if_true]
theorem P6 {y:WS} {m:MS} (hm:y.aG[0]?=some m) (hd:mZ m=false) (f:Nat):tC (f+1) y=tC f (eY y 0):=by
 show (match y.aG with|[]=>y|m::_=>if mZ m then y else tC f (eY y 0))=_
 cases hl:y.aG with
 | nil=>rw [hl] at hm;cases hm
 | cons m' r =>
   rw [hl] at hm
   cases hm
   simp only [hd,Bool.false_eq_true,if_false]
theorem adb {c:bK} {x:xE} {n:Nat} (hok:c.ok=true) (hn:c.m=(n:Int)):uQ 0 (jY c x n):=by
 have hb:=jC hok
 have hq:∀ k,(jY c x n).s.Q.rw k=[]:=fun k=>by
  show ([[],[],[],[]]:List (List Int)).getD k []=[]
  match k with
  | 0=>rfl
  | 1=>rfl
  | 2=>rfl
  | 3=>rfl
  | k+4=>rfl
 have hqo:rV (jY c x n).s:=fun k b hx=>by rw [hq k] at hx;cases hx
 have hl:(jY c x n).s.aV.length=n:=by
  show (ajj c.m.toNat []).length=n
  rw [akw];omega
 refine ⟨by show ((akS n).map _).length=c.m.toNat;simp;omega,fun i m hm=>?_,?_,aje _,aje _⟩
 ·have hm':((akS n).map (fun j=>MS.bC c j (uD c.r x.rg j)))[i]?=some m:=hm
  rw [aks] at hm'
  have hlt:i<n:=by
   rcases ajz i n with g|g
   ·exact g
   ·rw [ajK (by simpa using g)] at hm';cases hm'
  rw [ajh (by simpa using hlt)] at hm'
  simp at hm'
  subst hm'
  exact ⟨rfl,AL.first i _ hqo rfl (by omega)⟩
 ·have:CS.bC c c.m.toNat=CS.bC c n:=by rw [show c.m.toNat=n by omega]
  show OC 0 (jY c x n).s (CS.bC c c.m.toNat)
  rw [this]
  exact CK.first hok hn hl hqo rfl hq rfl
def Gg (o0:Ow) (w:World) (x:xE) (e:Ending) (w':World):Prop :=
 ∃ (o:Ow) (G:fU) (q:CG) (gs:List MG) (mv:Value) (a:Option Addr) (c:Nat),e = .returned (.tuple #[au G.S,au q.C,mv,.slice a (gG (HS.bC x.c.bJ x.c.bJ.b.toNat x.c.bJ.w.toNat x.c.bJ.c.toNat) x.sz).aQ.length c]) /\
  ug o0 w w' o G gs q (iY x)/\uQ 300 (iY x)/\lG o w' mv gs /\
  dH o w' 3 (.slice a (gG (HS.bC x.c.bJ x.c.bJ.b.toNat x.c.bJ.w.toNat x.c.bJ.c.toNat) x.sz).aQ.length c) (aS (gG (HS.bC x.c.bJ x.c.bJ.b.toNat x.c.bJ.w.toNat x.c.bJ.c.toNat) x.sz).aQ)
theorem Gg.r {o0:Ow} {e:Ending} (h:Gg o0 w x e w'):I9 w x e w':=by
 obtain ⟨o,G,q,gs,mv,a,c,h1,h2,h3,h4,h5⟩:=h
 exact ⟨o,G,q,gs,mv,a,c,h1,h2.toCW,h3,h4,h5⟩
theorem ade (o0:Ow) (hz:∀ b,o0 b=0\/o0 b=49) (hz0:o0 3=0/\o0 4=0/\o0 2=0) (hL:Laid w) (h:Ir w x a1 a2 a3 a4 n1 n2 n3 n4) (m1:n1<=30) (m2:n2<=100) (m3:n3<=20) (m4:n4<=20):Calls aA 11 #[Aj x.c a1 a2 a3 a4 n1 n2 n3 n4 p1 p2 p3 p4] w (Gg o0 w x):=by
 obtain ⟨W0,hW0⟩:∃ W',W'=w.alloc (.cells #[ah x.c.b,ah x.c.w,ah x.c.m,ah x.c.r,ah x.c.c,ah x.c.l,ah x.c.s,.slice a1 n1 p1,.slice a2 n2 p2,.slice a3 n3 p3,.slice a4 n4 p4] 26):=⟨_,rfl⟩
 have k0:aj aB w W0:=by rw [hW0];exact (aj.refl _ _).alloc _
 have hbx:aF W0 w.heap.size [ah x.c.b,ah x.c.w,ah x.c.m,ah x.c.r,ah x.c.c,ah x.c.l,ah x.c.s,.slice a1 n1 p1,.slice a2 n2 p2,.slice a3 n3 p3,.slice a4 n4 p4] 26:=by rw [hW0];exact aF.bC w _ _
 have y0:=hbx.cell 0 rfl;have y1:=hbx.cell 1 rfl;have y2:=hbx.cell 2 rfl;have y3:=hbx.cell 3 rfl;have y4:=hbx.cell 4 rfl;have y5:=hbx.cell 5 rfl;have y6:=hbx.cell 6 rfl
 have P7:Hid (Calls aA 38 #[.agg #[ah x.c.b,ah x.c.w,ah x.c.m,ah x.c.r,ah x.c.c,ah x.c.l,ah x.c.s]] W0 fun e w'=>e = .returned (.agg x.c.bJ.cells.toArray)/\aj aB W0 w'):=Xg x.c W0
 obtain ⟨qc,hqc⟩:∃ qc,qc=x.c.bJ:=⟨_,rfl⟩
 rw [<- hqc] at P7
 have YJ:qc.ok=true:=by rw [hqc];exact Bv x.c
 have ZY:=jC YJ
 obtain ⟨b,hb⟩:∃ b:Nat,qc.b=b:=⟨qc.b.toNat,by omega⟩
 obtain ⟨ww,hw⟩:∃ b:Nat,qc.w=b:=⟨qc.w.toNat,by omega⟩
 obtain ⟨nc,hc⟩:∃ b:Nat,qc.c=b:=⟨qc.c.toNat,by omega⟩
 obtain ⟨n,hn⟩:∃ b:Nat,qc.m=b:=⟨qc.m.toNat,by omega⟩
 obtain ⟨r,hr⟩:∃ b:Nat,qc.r=b:=⟨qc.r.toNat,by omega⟩
 have Px:Hid (∀ W,aj aB w W->Calls aA 39 #[.agg qc.cells.toArray] W fun e w'=>∃ (o:Ow) (G:fU),e = .returned (.tuple #[au G.S,ah 0])/\fH o w' G (Sh.bC qc b ww nc n)/\(∀ x,x<W.heap.size->o x=o0 x)/\aj aB W w'):=fun W hW=>by
  have hl:=hL.still hW
  refine (aar o0 hz0 qc b ww nc n YJ hb hw hc hn W hl.t hl.s hl.g).mono ?_
  rintro e w' ⟨o,G,rfl,g1,g2,_,g4⟩
  exact ⟨o,G,rfl,g1,g2,g4⟩
 have EK:Hid (∀ (W2 W:World) (o:Ow) G,aj aB w W2->fH o W G (Sh.bC qc b ww nc n)->(∀ x,x<W2.heap.size->o x=o0 x)->aj aB W2 W->Calls aA 13 #[au G.S] W fun e w'=>∃ (o':Ow) (q:CG),e = .returned (.tuple #[au q.C,ah 0])/\ug o0 W2 w' o' G [] q ⟨Sh.bC qc b ww nc n,[],CS.bC qc n,[],0⟩/\aj aB W w'):=fun W2 W o G hk hsh hlow hk2=>by
  have hl8:(Sh.bC qc b ww nc n).aV.length=n:=by simp [Sh.bC]
  refine (Yo hsh (by rw [hl8];omega)).mono ?_
  rintro e w' ⟨o',q,rfl,e1,hc',_,k⟩
  rw [hl8] at hc'
  exact ⟨o',q,rfl,⟨⟨hc',rfl,fun i g m hg _=>by simp at hg,fun b hb=>by rw [e1 b (ajf hb hk2.size),hlow b hb];exact hz b,hk2.trans k⟩,fun b hb=>(e1 b (ajf hb hk2.size)).trans (hlow b hb)⟩,k⟩
 have Dx:Hid (∀ (W2 W:World) (o:Ow) G q,aj aB w W2->ug o0 W2 W o G [] q ⟨Sh.bC qc b ww nc n,[],CS.bC qc n,[],0⟩->Calls aA 40 #[au (G.D 0),Aj x.c a1 a2 a3 a4 n1 n2 n3 n4 p1 p2 p3 p4] W fun e w'=>∃ a c,e = .returned (.slice a (gG (HS.bC qc b ww nc) x.sz).aQ.length c)/\dH o w' 3 (.slice a (gG (HS.bC qc b ww nc) x.sz).aQ.length c) (aS (gG (HS.bC qc b ww nc) x.sz).aQ)/\ug o0 W2 w' o G [] q (jY qc x 0)):=fun W2 W o G q hk hcw=>by
  have hkw:aj aB w W:=hk.trans hcw.aK
  have hlow:∀ b,b<w.heap.size->o b=0\/o b=49:=fun b hb=>hcw.yI b (ajf hb hk.size)
  have hnd:∀ W',aj (HF G.D) W W'->aj aB w W':=fun W' k=>hkw.kF k (fun i hi hin=>absurd hin (hcw.aC.sh.aii hlow hi))
  have hb0:qc.b.toNat=b:=by omega
  have hw0:qc.w.toNat=ww:=by omega
  have hc0:qc.c.toNat=nc:=by omega
  have hm0:qc.m.toNat=n:=by omega
  refine (acT (p4:=p4) hcw.aC.sh.heap (fun W' k=>hL.b.still (hnd W' k)) x.c.b x.c.w x.c.m x.c.r x.c.c x.c.l x.c.s x.sz x.fl x.ce (fun W' k=>h.s.still (hnd W' k)) (fun W' k=>h.f.still (hnd W' k)) (fun W' k=>h.c.still (hnd W' k)) m1 m2 m3).mono ?_
  rintro e w' ⟨v,rfl,g1,g2,g3,g4⟩
  obtain ⟨a,c,rfl,_⟩:=gy (bQ g1 (aki _))
  have h9:=hcw.of (hcw.Yy g3 g2 (WC _ _ _ _)).1 (bZ.refl _ _)
  refine ⟨a,c,rfl,dH.yG g1 (by omega) (fun b hb=>hcw.aC.sh.iV b hb),?_⟩
  unfold jY
  rw [hb0,hw0,hc0,hm0]
  exact h9
 have hce:qc.cells=[ah (b:Int),ah (ww:Int),ah (n:Int),ah (r:Int),ah (nc:Int),ah qc.l,ah qc.s]:=by unfold bK.cells;rw [hb,hw,hn,hr,hc]
 rw [hce] at P7 Px
 have Ur:Hid (∀ W e,(∃ (o:Ow) (G:fU) (q:CG) (gs:List MG) (mv:Value) (a:Option Addr) (c:Nat),e = .returned (.tuple #[au G.S,au q.C,mv,.slice a (gG (HS.bC qc b ww nc) x.sz).aQ.length c])/\ug o0 w W o G gs q (tC 300 (jY qc x n))/\uQ 300 (tC 300 (jY qc x n))/\lG o W mv gs/\dH o W 3 (.slice a (gG (HS.bC qc b ww nc) x.sz).aQ.length c) (aS (gG (HS.bC qc b ww nc) x.sz).aQ))->Gg o0 w x e W):=fun W e hh=>by
  unfold Gg iY
  rw [<- hqc]
  have hb0:qc.b.toNat=b:=by omega
  have hw0:qc.w.toNat=ww:=by omega
  have hc0:qc.c.toNat=nc:=by omega
  have hm0:qc.m.toNat=n:=by omega
  rw [hb0,hw0,hc0,hm0]
  exact hh
 have hn8:n<=8/\1<=n:=by omega
 have hr64:1<=r/\r<=64:=by omega
 have HMN:Hid (qc.m.toNat=n):=by show _=_;omega
 have aip:Hid (uQ 0 (jY qc x n)):=adb YJ hn
 have HRR:Hid (qc.r=(r:Int)):=hr
 have gQ:=ay k0
 have agt:=ay hbx
 have HW0:=ay hW0
 have HST:=ay h
 rw [hW0] at y0 y1 y2 y3 y4 y5 y6
 generalize Gg o0 w x=PO at *
 generalize (gG (HS.bC qc b ww nc) x.sz).aQ=aQ at *
 clear YJ ZY hb hw hc hn hr hce hqc k0 hbx hW0 hL h
 go_enter func11,ntmps11
 go_wp2_with fail
 rw [<- HW0.out]
 refine P7.out.mono ?_
 rintro e w1 ⟨rfl,k1⟩
 obtain ⟨W2,hW2⟩:∃ W2,W2=w1.alloc (.cells #[ah (b:Int),ah (ww:Int),ah (n:Int),ah (r:Int),ah (nc:Int),ah qc.l,ah qc.s] 23):=⟨_,rfl⟩
 have k2:aj aB W0 W2:=by rw [hW2];exact k1.alloc _
 have hcb:aF W2 w1.heap.size [ah (b:Int),ah (ww:Int),ah (n:Int),ah (r:Int),ah (nc:Int),ah qc.l,ah qc.s] 23:=by rw [hW2];exact aF.bC w1 _ _
 have z0:=hcb.cell 0 rfl;have z1:=hcb.cell 1 rfl;have z2:=hcb.cell 2 rfl;have z3:=hcb.cell 3 rfl;have z4:=hcb.cell 4 rfl;have z5:=hcb.cell 5 rfl;have z6:=hcb.cell 6 rfl
 have dF:Hid (aj aB w W2):=gQ.out.trans k2
 have agu:Hid (aF W2 w.heap.size [ah x.c.b,ah x.c.w,ah x.c.m,ah x.c.r,ah x.c.c,ah x.c.l,ah x.c.s,.slice a1 n1 p1,.slice a2 n2 p2,.slice a3 n3 p3,.slice a4 n4 p4] 26):=k2.aH agt.out (fun f=>f)
 have ET:=ay hcb
 have HW2:=ay hW2
 rw [hW2] at z0 z1 z2 z3 z4 z5 z6
 clear y0 y1 y2 y3 y4 y5 y6 k1 k2 hcb hW2 P7 gQ agt HW0
 go_wp2_with fail
 rw [<- HW2.out]
 clear z0 z1 z2 z3 z4 z5 z6
 refine (Px.out W2 dF.out).mono ?_
 rintro e w3 ⟨o3,G,rfl,hsh3,hlow3,k3⟩
 have CJ:=ay (EK.out W2 w3 o3 G dF.out hsh3 hlow3 k3)
 clear hsh3 hlow3 k3 Px EK
 go_wp2_with fail
 refine CJ.out.mono ?_
 rintro e w4 ⟨o4,q,rfl,hcw4,k4⟩
 have hG4:=hcw4.aC.sh.yQ.1
 have kw4:=hcw4.aK
 have hbx4:=kw4.aH agu.out (fun f=>f)
 have agv:ug o0 W2 w4.drew o4 G [] q ⟨Sh.bC qc b ww nc n,[],CS.bC qc n,[],0⟩:=hcw4.yR (aj.refl aB w4).drew
 have agw:=ay (Dx.out W2 w4.drew o4 G q dF.out agv)
 have y0:=hbx4.cell 0 rfl;have y1:=hbx4.cell 1 rfl;have y2:=hbx4.cell 2 rfl;have y3:=hbx4.cell 3 rfl;have y4:=hbx4.cell 4 rfl;have y5:=hbx4.cell 5 rfl;have y6:=hbx4.cell 6 rfl;have y7:=hbx4.cell 7 rfl;have y8:=hbx4.cell 8 rfl;have y9:=hbx4.cell 9 rfl;have y10:=hbx4.cell 10 rfl
 clear hcw4 k4 Dx CJ kw4 hbx4 agv
 go_wp2_with fail
 refine bG 5 rfl (by kernel_rfl) (by kernel_rfl) (fun K hK=>?_)
 change wpStill _ _ (World.drew _) _ _ _
 simp only [List.take_succ_cons,List.take_zero,List.drop_succ_cons,List.drop_zero] at hK ⊢
 repeat still_step
 refine wpStill_nil ?_
 change ite _ (Oper.wp _ _ _ _ _ _) _
 go_simp
 refine agw.out.mono ?_
 rintro e w5 ⟨a,c,rfl,hrow5,hcw5⟩
 refine hK _ _ ?_
 clear hK K
 have agx:=ay hcw5
 have adP:=ay hrow5
 clear hcw5 hrow5 agw hG4 y0 y1 y2 y3 y4 y5 y6 y7 y8 y9 y10
 repeat still_step
 refine wpStill_nil ?_
 go_wp2_with fail
 have HI0:Hid (∃ (o:Ow) (gs:List MG),ug o0 W2 w5 o G gs q (jY qc x 0)/\lG o w5 (.slice none 0 0) gs/\gs.length=0/\dH o w5 3 (.slice a aQ.length c) (aS aQ)):=⟨o4,[],agx.out,⟨⟨rfl,.inl ⟨rfl,rfl⟩⟩,fun b hb=>by cases hb⟩,rfl,adP.out⟩
 clear agx adP
 go_loopw [12,13,14,15,16,17] (fun mv iv _ _ _ _ wr=>∃ (i:Nat) (o:Ow) (gs:List MG) (ma:Option Addr) (mc:Nat),i<=n/\iv = ah i/\mv = .slice ma i mc/\ug o0 W2 wr o G gs q (jY qc x i)/\lG o wr (.slice ma i mc) gs/\gs.length=i/\dH o wr 3 (.slice a aQ.length c) (aS aQ)) (fun _ iv _ _ _ _ _=>n - (intOf iv).toNat)
 case atStart =>
  obtain ⟨o,gs,h1,h2,h3,h4⟩:=HI0.out
  exact ⟨0,o,gs,none,0,aki _,rfl,rfl,h1,h2,h3,h4⟩
 case round =>
  obtain ⟨i,o,gs,ma,mc,hi,rfl,rfl,hcw,hmv,hgl,hrow⟩:=hrel
  have adf:=hcw.aK.aH agu.out (fun f=>f)
  have YK:=hcw.aK.aH ET.out (fun f=>f)
  have z2:=YK.cell 2 (v := ah (n:Int)) rfl
  by_cases hlt:i<n
  ·have lJ:(i:Int)<(n:Int):=by omega
   have hi8:(i:Int)<=8:=by omega
   have Wv:=ay hcw
   have HMV:=ay hmv
   have HRO:=ay hrow
   have agy:=ay adf
   have agz:=ay YK
   have yL:Hid (wr.ownsRow wr.heap.size 83 4 (.slice none 0 0) 0 (lD (rO r x.rg 0)).flatten/\aj aB wr wr):=⟨⟨rfl,.inl ⟨rfl,rfl⟩⟩,aj.refl _ _⟩
   clear hcw hmv hrow adf YK
   go_wp2_with fail
   clear z2
   generalize wr=Wo at *
   go_loopw [14,15] (fun pv kv wr=>∃ (j:Nat) (pa:Option Addr) (pc:Nat),(i≠0->j=0)/\j<=n4/\kv = ah j/\pv = .slice pa j pc/\wr.ownsRow Wo.heap.size 83 4 (.slice pa j pc) j (lD (rO r x.rg j)).flatten/\aj aB Wo wr) (fun _ kv _=>n4 - (intOf kv).toNat)
   case atStart=>exact ⟨0,none,0,fun _=>rfl,aki _,rfl,rfl,yL.out⟩
   case round =>
    obtain ⟨j,pa,pc,hj0,hj,rfl,rfl,hown,hk⟩:=hrel
    have y10:=(hk.aH agy.out (fun f=>f)).cell 10 (v := .slice a4 n4 p4) rfl
    by_cases hcond:j<n4/\i=0
    ·obtain ⟨hjn,rfl⟩:=hcond
     have ZM:(j:Int)<(n4:Int):=by omega
     have aiP:(0:Int)<=(j:Int):=by omega
     have hst:=HST.out.still ((dF.out.trans Wv.out.aK).trans hk)
     obtain ⟨b2,off2,rfl,hz,hz2⟩:=hst.r.cell hjn
     have y3:=(hk.aH agz.out (fun f=>f)).cell 3 (v := ah (r:Int)) rfl
     obtain ⟨jr,hj1,hj2⟩:∃ jr:Nat,(j:Int).tmod (r:Int)=(jr:Int)/\(j:Int)%(r:Int)=(jr:Int):=⟨j%r,by rw [Int.tmod_eq_emod_of_nonneg (by omega)];simp,by simp⟩
     have hprog:lD (rO r x.rg (j+1))=lD (rO r x.rg j)++[[ah 4,ah (jr:Int),ah ((x.rg.getD j 0%4:Nat):Int),ah 0]]:=by
      rw [Yz,hj2]
      unfold lD
      rw [List.map_append]
      rfl
     obtain ⟨zr,hr1,hr2,hr3,hr4⟩:=TQ (z:=x.rg.getD j 0)
     rw [<- hr3] at hprog
     have HPG:=ay hprog
     generalize x.rg.getD j 0=z at *
     obtain ⟨V1,hV1⟩:∃ V1,V1=(wr.alloc (.cells #[ah 4,ah (jr:Int),ah (zr:Int),ah 0] 83)).drew:=⟨_,rfl⟩
     have kv:aj aB wr V1:=by rw [hV1];exact ((aj.refl _ _).alloc _).drew
     have hNew:aF V1 wr.heap.size [ah 4,ah (jr:Int),ah (zr:Int),ah 0] 83:=by rw [hV1];exact (aF.bC wr _ _).drew
     have ho1:=bY hown kv
     obtain ⟨g,aO,w7,hrun,hown7,hgr,hge⟩:=Lu (P:=aA) V1 81 81 83 (by kernel_rfl) Tryz.infoOp rfl (by decide) (bQ ho1 (aki _)) (N:=wr.heap.size) (us:=[ah 4,ah (jr:Int),ah (zr:Int),ah 0]) (fun j x hj=>hNew.cell j hj) rfl (by simp [Value.oneCell']) (by decide) (by omega)
     have hrun9:(app9 #[81,81] 81 #[.slice pa j pc,.slice (some ⟨wr.heap.size,0,none⟩) 1 1]).run aA (wr.alloc (.cells #[ah 4,ah (jr:Int),ah (zr:Int),ah 0] 83)).drew = .ok (.slice (some ⟨g,0,none⟩) (j+1) aO) w7:=by rw [<- hV1];exact hrun
     have HI7:Hid (w7.ownsRow Wo.heap.size 83 4 (.slice (some ⟨g,0,none⟩) (j+1) aO) (j+1) (lD (rO r x.rg (j+1))).flatten/\aj aB Wo w7):=by
      rw [HPG.out,List.flatten_append]
      have hge2:Wo.heap.size<=g:=by
       rcases hge with h9|h9
       ·exact (World.ownsRow.lt ho1 g h9).1
       ·have:=(hk.trans kv).size;omega
      exact ⟨aeO (by simpa using hown7) hge2,(hk.trans kv).afj ho1 (aje _) hgr⟩
     have ca:=fun u=>(aF.alloc (hk.aH agy.out (fun f=>f)) u).cell 10 (v := .slice (some ⟨b2,off2,none⟩) n4 p4) rfl
     have cb:=fun u=>(aF.alloc (hk.aH agz.out (fun f=>f)) u).cell 3 (v := ah (r:Int)) rfl
     have cz:∀ u,(wr.alloc u).cell? ⟨b2,off2+j,none⟩=some (.int .u8 (z:Int)):=fun u=>((aj.refl aB wr).alloc u).still hz
     have hr0:¬ (r:Int)=0:=by omega
     clear hown hk hst hprog HPG hV1 kv hNew ho1 hrun hown7 hgr hge hr3
     go_wp2_with fail
     go_region
     go_wp2_with fail
     go_roundw
     case rel=>exact ⟨j+1,_,_,fun h=>absurd rfl h,by omega,by go_num,rfl,HI7.out⟩
     case measure=>simp [intOf]<;>omega
    ·have hjx:rO r x.rg j=uD r x.rg i:=by
      unfold uD
      by_cases hi0:i=0
      ·rw [aZ hi0,show j=x.rg.length by have h9:=HST.out.r.len;have:¬ j<n4:=fun h=>hcond ⟨h,hi0⟩;omega]
      ·rw [aT hi0,hj0 hi0];rfl
     obtain ⟨_,_,e7,hra,hca⟩:=vI.yG hown Em (by unfold lD;rw [List.length_map,Ic])
     cases e7
     have hnil:pa=none->pc=0:=fun e=>by
      rcases hown.2 with ⟨e1,_⟩|⟨g',cap',cur,e1,_⟩
      ·cases e1;rfl
      ·cases e1;cases e
     rw [hjx] at hra
     have hcw2:=Wv.out.yR hk
     have hmv2:lG o wr (.slice ma i mc) gs:=HMV.out.aK (I:=[]) hk.bV rfl (bZ.refl _ _)
     have hro2:dH o wr 3 (.slice a aQ.length c) (aS aQ):=HRO.out.still hk
     have hlen9:(uD r x.rg i).length=j:=by rw [<- hjx,Ic]
     have hml:(jY qc x i).aG.length=i:=by simp [jY]
     have uz:(jY qc x i).s.aV.length=n:=by
      show (ajj qc.m.toNat []).length=n
      rw [akw]
      exact HMN.out
     have YL:Hid (Calls aA 41 #[au G.S,ah (i:Int),.slice pa j pc] wr fun e w'=>∃ (o':Ow) (g:MG),e = .returned (.tuple #[au g.M,ah 0])/\ug o0 W2 w' o' G (gs++[g]) q (jY qc x (i+1))/\lG o' w' (.slice ma i mc) gs/\dH o' w' 3 (.slice a aQ.length c) (aS aQ)):=by
      refine (aax hcw2.aC.sh hcw2.aC.box8 i (by rw [uz];exact hlt) (uD r x.rg i) j hlen9.symm (by omega) pa pc hra hnil).mono ?_
      rintro e w' ⟨o',g,rfl,e1,g1,_,g3⟩
      have hcc:(jY qc x i).s.H.c=qc:=WC _ _ _ _
      rw [hcc] at g1
      refine ⟨o',g,rfl,?_,hmv2.aK (I:=[]) g3.bV rfl e1,(hro2.ext e1).still g3⟩
      rw [YA]
      rw [HRR.out]
      exact hcw2.of (hcw2.agj g3 e1 g1 (by rw [hml];rfl)) e1
     have hc2:¬ j<n4\/(j<n4/\i≠0):=by
      by_cases h9:j<n4
      ·exact .inr ⟨h9,fun h8=>hcond ⟨h9,h8⟩⟩
      ·exact .inl h9
     have HAP:Hid (∀ (w6:World) (o6:Ow) (g:MG),ug o0 W2 w6 o6 G (gs++[g]) q (jY qc x (i+1))->lG o6 w6 (.slice ma i mc) gs->dH o6 w6 3 (.slice a aQ.length c) (aS aQ)->∃ b aO W8,(app9 #[31,31] 31 #[.slice ma i mc,.slice (some ⟨w6.heap.size,0,none⟩) 1 1]).run aA (w6.alloc (.cells #[au g.M] 56)) = .ok (.slice (some ⟨b,0,none⟩) (i+1) aO) W8 /\
      ∃ o8,ug o0 W2 W8 o8 G (gs++[g]) q (jY qc x (i+1))/\lG o8 W8 (.slice (some ⟨b,0,none⟩) (i+1) aO) (gs++[g])/\dH o8 W8 3 (.slice a aQ.length c) (aS aQ)):=fun w6 o6 g hcw6 hmv6 hro6=>by
      have k7:aj aB w6 (w6.alloc (.cells #[au g.M] 56)):=(aj.refl _ _).alloc _
      obtain ⟨b,aO,W8,hrun,o8,e8,hcw8,hmv8,k8⟩:=(hmv6.aK (I:=[]) k7.bV rfl (bZ.refl _ _)).ahA (hcw6.yR k7) (N:=w6.heap.size) ((aF.bC w6 [aJ g.M] 56).cell 0 rfl) (by omega)
      rw [hgl] at hrun hmv8
      exact ⟨b,aO,W8,hrun,o8,hcw8,hmv8,((hro6.still k7).ext e8).bg (k8.yF e8) rfl⟩
     clear hown hk hcw2 hmv2 hro2 hra hca hjx hcond
     rcases hc2 with hnl|⟨hl9,hi0⟩
     ·have aiQ:¬ (j:Int)<(n4:Int):=by omega
      go_wp2_with fail
      refine YL.out.mono ?_
      rintro e w6 ⟨o6,g,rfl,hcw6,hmv6,hro6⟩
      obtain ⟨b8,cap8,W8,hrun8,o8,hcw8,hmv8,hro8⟩:=HAP.out w6 o6 g hcw6 hmv6 hro6
      have qN:=ay (And.intro hcw8 (And.intro hmv8 hro8))
      clear hcw6 hmv6 hro6 hcw8 hmv8 hro8 YL HAP
      go_wp2_with fail
      exact ⟨⟨i+1,o8,gs++[g],_,_,by omega,by go_num,rfl,qN.out.1,qN.out.2.1,by simp [hgl],qN.out.2.2⟩,by simp [intOf];omega⟩
     ·obtain rfl:j=0:=hj0 hi0
      clear hj0
      have hlI:(0:Int)<(n4:Int):=by omega
      have aiR:((i:Int)==0)=false:=by simp;omega
      have aiS:decide (i=0)=false:=gJ hi0
      go_wp2_with fail
      refine YL.out.mono ?_
      rintro e w6 ⟨o6,g,rfl,hcw6,hmv6,hro6⟩
      obtain ⟨b8,cap8,W8,hrun8,o8,hcw8,hmv8,hro8⟩:=HAP.out w6 o6 g hcw6 hmv6 hro6
      have qN:=ay (And.intro hcw8 (And.intro hmv8 hro8))
      clear hcw6 hmv6 hro6 hcw8 hmv8 hro8 YL HAP
      go_wp2_with fail
      exact ⟨⟨i+1,o8,gs++[g],_,_,by omega,by go_num,rfl,qN.out.1,qN.out.2.1,by simp [hgl],qN.out.2.2⟩,by simp [intOf];omega⟩
  ·obtain rfl:i=n:=by omega
   have lJ:¬ (i:Int)<(i:Int):=by omega
   have qV:=hcw.aC.sh.heap.qV
   have MZ:Hid (∃ (t:Nat) (y:WS) (o:Ow),t=0/\ug o0 W2 wr o G gs q y/\uQ t y/\yY y/\lG o wr (.slice ma i mc) gs/\dH o wr 3 (.slice a aQ.length c) (aS aQ)/\tC (300 - t) y=tC 300 (jY qc x i)):=⟨0,_,o,rfl,hcw,aip.out,P5 qc x i,hmv,hrow,rfl⟩
   clear hcw hmv hrow adf YK qV
   go_wp2_with fail
   clear z2
   obtain ⟨g0,hg0⟩:∃ g0,gs[0]?=some g0:=⟨gs[0]'(by omega),ajh _⟩
   have Gv:=ay hg0
   have AO:=ay hgl
   clear hg0 hgl
   go_loopw [18] (fun iv wr=>∃ (t:Nat) (y:WS) (o:Ow),t<=300/\iv = ah t/\ug o0 W2 wr o G gs q y/\uQ t y/\yY y/\lG o wr (.slice ma i mc) gs/\dH o wr 3 (.slice a aQ.length c) (aS aQ)/\tC (300 - t) y=tC 300 (jY qc x i)) (fun iv _=>300 - (intOf iv).toNat)
   case atStart =>
    obtain ⟨t,y,o,h0,h1,h2,h3,h4,h5,h6⟩:=MZ.out
    subst h0
    exact ⟨0,y,o,aki _,rfl,h1,h2,h3,h4,h5,h6⟩
   case round =>
    obtain ⟨t,y,o',ht,rfl,hcw,hok,hfew,hmv,hrow,hrun⟩:=hrel
    obtain ⟨a',c',e1,hform⟩:=hmv.form
    rw [AO.out] at e1
    cases e1
    obtain ⟨bA,e2,hcA⟩:=hform 0 g0 Gv.out
    have hyl:y.aG.length=i:=by rw [<- hcw.len];exact AO.out
    obtain ⟨m0,hm0⟩:∃ m0,y.aG[0]?=some m0:=⟨y.aG[0]'(by omega),ajh _⟩
    have EO:Hid (Calls aA 42 #[au g0.M] wr fun e w'=>e = .returned (.bool (mZ m0))/\aj aB wr w'):=aaw (hcw.gW 0 g0 m0 Gv.out hm0).1
    have HFN:Hid (∀ W,aj aB wr W->t=300\/mZ m0=true->PO (.returned (.tuple #[au G.S,au q.C,.slice ma i mc,.slice a aQ.length c])) W):=fun W k hh=>by
     refine Ur.out W _ ⟨o',G,q,gs,.slice ma i mc,a,c,rfl,?_,?_,hmv.aK (I:=[]) k.bV rfl (bZ.refl _ _),hrow.still k⟩
     ·rw [<- hrun]
      have e9:tC (300 - t) y=y:=by
       rcases hh with e|e
       ·rw [e];rfl
       ·exact Iw hm0 e _
      rw [e9]
      exact (hcw.yR k).bP dF.out
     ·rw [<- hrun]
      have e9:tC (300 - t) y=y:=by
       rcases hh with e|e
       ·rw [e];rfl
       ·exact Iw hm0 e _
      rw [e9]
      exact hok.more ht
    have Us:Hid (∀ W,aj aB wr W->t<300->mZ m0=false->Calls aA 24 #[au g0.M] W fun e w'=>(∃ v1 v2,e = .returned (.tuple #[v1,v2]))/\∃ o2,ug o0 W2 w' o2 G gs q (eY y 0)/\uQ (t+1) (eY y 0)/\yY (eY y 0)/\lG o2 w' (.slice ma i mc) gs/\dH o2 w' 3 (.slice a aQ.length c) (aS aQ)/\tC (300 - (t+1)) (eY y 0)=tC 300 (jY qc x i)):=fun W k h3 hd=>by
     have hcw2:=hcw.yR k
     refine (hcw2.pick hok (by omega) Gv.out hm0 (PX _ (hfew m0 (alh hm0)).1)).mono ?_
     rintro e w' ⟨rfl,o2,eo,hc2,kk⟩
     refine ⟨⟨_,_,rfl⟩,o2,hc2,FU hok hcw2.aC.sh.heap.qV 0,Ai hfew 0,(hmv.aK (I:=[]) k.bV rfl (bZ.refl _ _)).aK kk rfl eo,((hrow.still k).ext eo).bg (kk.yF eo) (qp 0),?_⟩
     rw [<- hrun,show 300 - t=(300 - (t+1))+1 by omega,P6 hm0 hd]
    have htI:(t:Int)<=300:=by omega
    cases e2
    clear hcw hok hmv hrow hrun hform hyl hm0 hfew
    by_cases h3:t<300
    ·have h3I:(t:Int)<300:=by omega
     cases hd:mZ m0 with
     | true =>
       rw [hd] at EO
       go_wp2_with fail
       refine EO.out.mono ?_
       rintro e w5 ⟨rfl,k5⟩
       have HE:=ay (HFN.out w5 k5 (.inr hd))
       clear HFN Us EO
       go_wp2_with fail
       refine bodyPost_ret (Iu rfl _ _ _) rfl ?_
       exact HE.out
     | false =>
       rw [hd] at EO
       have hcB:∀ W,aj aB wr W->W.cell? ⟨bA,0,none⟩=some (au g0.M):=fun W k=>k.still hcA
       have ET:=ay hcB
       clear hcB
       go_wp2_with fail
       refine EO.out.mono ?_
       rintro e w5 ⟨rfl,k5⟩
       have HP:=ay (Us.out w5 k5 h3 hd)
       have aiq:=ET.out w5 k5
       clear HFN Us EO ET hcA
       go_wp2_with fail
       refine HP.out.mono ?_
       rintro e w6 ⟨⟨v1,v2,rfl⟩,o2,q1,q2,q3,q4,q5,q6⟩
       have MO:=ay (And.intro q1 (And.intro q2 (And.intro q3 (And.intro q4 (And.intro q5 q6)))))
       clear q1 q2 q3 q4 q5 q6 HP aiq
       go_wp2_with fail
       exact ⟨⟨t+1,eY y 0,o2,by omega,by go_num,MO.out⟩,by simp [intOf];omega⟩
    ·have h3I:¬ (t:Int)<300:=by omega
     have HE:=ay (HFN.out wr (aj.refl _ _) (.inl (by omega)))
     clear HFN Us EO
     go_wp2_with fail
     refine bodyPost_ret (Iu rfl _ _ _) rfl ?_
     exact HE.out
theorem Ut (hL:Laid w) (h:Ir w x a1 a2 a3 a4 n1 n2 n3 n4) (m1:n1<=30) (m2:n2<=100) (m3:n3<=20) (m4:n4<=20):Calls aA 11 #[Aj x.c a1 a2 a3 a4 n1 n2 n3 n4 p1 p2 p3 p4] w (I9 w x) :=
 (ade (fun _=>0) (fun _ => .inl rfl) ⟨rfl,rfl,rfl⟩ hL h m1 m2 m3 m4).mono (fun _ _=>Gg.r)
end
end
section
structure lN (H H':HS):Prop where
 b:H'.b=H.b
 ww:H'.ww=H.ww
 c:H'.c=H.c
 cells:H'.cells=H.cells
 co:(∀ a,H.co a=false)->∀ a,H'.co a=false
theorem lN.refl (H:HS):lN H H:=⟨rfl,rfl,rfl,rfl,fun h=>h⟩
theorem lN.trans {H H' H'':HS} (h:lN H H') (k:lN H' H''):lN H H'':=⟨k.b.trans h.b,k.ww.trans h.ww,k.c.trans h.c,k.cells.trans h.cells,fun g=>k.co (h.co g)⟩
section
variable {H:HS}
theorem lN.put (a:Nat):lN H (H.jA a):=by
 unfold HS.jA
 split
 ·exact lN.refl H
 ·split
  ·exact lN.refl H
  ·exact ⟨rfl,rfl,rfl,rfl,fun h=>h⟩
theorem lN.kP:∀ (l:List Nat) (H:HS),lN H (H.kP l)
 | [],H=>lN.refl H
 | a::l,H=>(lN.put a).trans (lN.kP l (H.jA a))
theorem lN.store (a:Nat) (f:Int) (v:Nat):lN H (H.jJ a f v):=by
 unfold HS.jJ
 split
 ·exact ⟨rfl,rfl,rfl,rfl,fun h=>h⟩
 ·exact lN.refl H
theorem lN.pV (a:Nat):∀ i,lN H (H.pV a i)
 | 0=>lN.refl H
 | i+1=>(lN.pV a i).trans (lN.store _ _ _)
theorem lN.yB (k:Nat):lN H (H.iw k).2.2:=by
 unfold HS.iw
 split
 ·unfold HS.iT
  split
  ·exact lN.refl H
  ·exact ⟨rfl,rfl,rfl,rfl,fun h=>h⟩
 ·split
  ·refine lN.trans ?_ (lN.kP _ _)
   unfold HS.gq
   split
   ·exact lN.refl H
   ·exact ⟨rfl,rfl,rfl,rfl,fun h=>h⟩
  ·exact lN.refl H
theorem lN.wK (a:Nat) (f:Int):lN H (H.kR a f):=by
 unfold HS.kR
 split
 ·exact lN.refl H
 ·split
  ·exact ⟨rfl,rfl,rfl,rfl,fun h=>h⟩
  ·exact lN.refl H
theorem lN.Aq (a:Nat):lN H (H.oV a 0):=by
 unfold HS.oV
 split
 ·refine ⟨rfl,rfl,rfl,rfl,fun h x=>?_⟩
  show iZ H.co a (0==1) x=false
  unfold iZ
  split
  ·rfl
  ·exact h x
 ·exact lN.refl H
theorem lN.make (f:Nat):lN H (H.vN f 0).2:=by
 unfold HS.vN
 split
 ·exact ((lN.yB _).trans (lN.wK _ _)).trans ((lN.pV _ _).trans (lN.Aq _))
 ·exact lN.yB _
end
theorem WT:∀ (sz:List Nat) (H:HS),lN H (gG H sz)
 | [],H=>lN.refl H
 | z::l,H=>(lN.make (z%4)).trans (WT l (H.vN (z%4) 0).2)
structure wW (H H':HS):Prop where
 b:H'.b=H.b
 ww:H'.ww=H.ww
 c:H'.c=H.c
 cl:H'.cells.length=H.cells.length
 co:H'.co=H.co
 bn:H'.bn=H.bn
 K:H'.K=H.K
theorem wW.refl (H:HS):wW H H:=⟨rfl,rfl,rfl,rfl,rfl,rfl,rfl⟩
theorem wW.trans {H H' H'':HS} (h:wW H H') (k:wW H' H''):wW H H'':=⟨k.b.trans h.b,k.ww.trans h.ww,k.c.trans h.c,k.cl.trans h.cl,k.co.trans h.co,k.bn.trans h.bn,k.K.trans h.K⟩
section
variable {H:HS}
theorem wW.store (a:Nat) (f:Int) (v:Nat):wW H (H.jJ a f v):=by
 unfold HS.jJ
 split
 ·exact ⟨rfl,rfl,rfl,rfl,rfl,rfl,rfl⟩
 ·exact wW.refl H
theorem wW.set (i:Int) (v:Nat):wW H (H.vU i v):=by
 unfold HS.vU
 split
 ·exact ⟨rfl,rfl,rfl,by show (H.cells.set _ _).length=_;rw [aku],rfl,rfl,rfl⟩
 ·exact wW.refl H
end
theorem Ol (all fl:List Nat) (a:Nat) (p:HS × Nat):∀ f,wW p.1 (gu all fl a p f).1
 | 0=>wW.refl _
 | f+1=>by
   show wW p.1 (if (gu all fl a p f).2<fl.length then _ else gu all fl a p f).1
   split
   ·exact (Ol all fl a p f).trans (wW.store _ _ _)
   ·exact Ol all fl a p f
theorem WU (all fl:List Nat) (p:HS × Nat):∀ i,wW p.1 (oI all fl p i).1
 | 0=>wW.refl _
 | i+1=>(WU all fl p i).trans (Ol _ _ _ _ _)
theorem Uu (all ce:List Nat) (H:HS):∀ i,wW H (xC all ce H i)
 | 0=>wW.refl _
 | i+1=>(Uu all ce H i).trans (wW.set _ _)
theorem aeP (H:HS) (sz fl ce:List Nat):wW (gG H sz) (xQ H sz fl ce) :=
 (WU (gG H sz).aQ fl (gG H sz,0) (gG H sz).aQ.length).trans (Uu _ _ _ _)
structure Dk (c:bK) (H:HS) (n:Nat) (P:List jy) (x:WS):Prop where
 s:x.s={ Sh.bC c c.b.toNat c.w.toNat c.c.toNat n with H:=H }
 aC:x.aC=CS.bC c n
 len:x.aG.length=n
 MQ:∀ i m,x.aG[i]?=some m->1<=i->m=MS.bC c i []
 one:∀ m,x.aG[0]?=some m->m.id=0/\m.c=c/\m.prog=P/\m.dG.length<=P.length/\m.aP=0/\m.aY=[]/\m.oq=0/\m.mg=false/\m.aW.length=c.r.toNat/\(m.next = .nil\/(∃ o,(m.next = .kU o\/m.next = .get o)/\o.k=4/\m.dG.length<P.length))
def mO (m:MS):Nat:=3*(m.prog.length - m.dG.length) - (match m.next with
 | .kU _=>1
 | .get _=>2
 | _=>0)
section
variable {c:bK} {H:HS} {n:Nat} {P:List jy} {x:WS} {m:MS}
theorem Uw (c:bK) (b w cc n:Nat) (H:HS) (i:Nat):({ Sh.bC c b w cc n with H:=H }:Sh).B.bF (i:Int)=false:=by
 show (Bd.bC (n:Int)).bF (i:Int)=false
 unfold Bd.bF Bd.vV Bd.bC
 have:(ajj 8 false).getD (i:Int).toNat false=false:=by
  rw [ajg]
  rcases ajz (i:Int).toNat 8 with g|g
  ·rw [ajh (by simpa using g),List.getElem_replicate];rfl
  ·rw [ajK (by simpa using g)];rfl
 rw [this,Bool.and_false]
theorem Dk.pick (h:Dk c H n P x) (hP:∀ o∈P,o.k=4) (hm:x.aG[0]?=some m) (hd:mZ m=false):Dk c H n P (eY x 0)/\∃ m',(eY x 0).aG[0]?=some m'/\mO m'+1<=mO m:=by
 obtain ⟨o1,o2,o3,o4,o5,o6,o7,o9,o10,o8⟩:=h.one m hm
 obtain ⟨e1,e2,e3⟩:=yw x hm
 have hlt:=(List.getElem?_eq_some_iff.1 hm).1
 have key:∀ s' m',dV x.s m=(s',m')->s'=x.s->∀ ev,m'=(m'.1,ev)->(m'.1.id=0/\m'.1.c=c/\m'.1.prog=P/\m'.1.dG.length<=P.length/\m'.1.aP=0/\m'.1.aY=[]/\m'.1.oq=0/\m'.1.mg=false/\m'.1.aW.length=c.r.toNat/\(m'.1.next = .nil\/(∃ o,(m'.1.next = .kU o\/m'.1.next = .get o)/\o.k=4/\m'.1.dG.length<P.length)))->mO m'.1+1<=mO m ->
  Dk c H n P (eY x 0)/\∃ m',(eY x 0).aG[0]?=some m'/\mO m'+1<=mO m:=fun s' m' hp hs ev _ ho ht=>by
  rw [hp] at e1 e2
  have hm2:(eY x 0).aG[0]?=some m'.1:=by rw [e2];exact List.getElem?_set_self hlt
  refine ⟨⟨e1.trans (hs.trans h.s),e3.trans h.aC,by rw [e2,aku];exact h.len,fun i mi hi h1=>?_,fun mi hi=>?_⟩,m'.1,hm2,ht⟩
  ·rw [e2,List.getElem?_set_ne (by omega)] at hi
   exact h.MQ i mi hi h1
  ·rw [hm2] at hi
   cases hi
   exact ho
 have hpd:x.s.B.bF (m.id:Int)=false:=by rw [h.s,o1];exact Uw c _ _ _ n H 0
 rcases o8 with e|⟨o,e,hk,hl⟩
 ·have hl:m.dG.length<P.length:=by
   unfold mZ at hd
   rw [e] at hd
   have:decide (m.dG.length=m.prog.length)=false:=by simpa [jD] using hd
   have:=of_decide_eq_false this
   rw [o3] at this
   omega
  have hb:fG x.s m = .kU (P[m.dG.length]'hl):=by
   unfold fG
   rw [hpd,aT (by decide),o3,ajh hl]
  have hp:dV x.s m=(x.s,{ m with aU:=1,mg:=x.s.B.bF (m.id:Int),next:=fG x.s m },none):=by
   unfold dV
   rw [aZ (by rw [e];rfl)]
  rw [hb] at hp
  refine key _ _ hp rfl none rfl ⟨o1,o2,o3,o4,o5,o6,o7,hpd,o10,.inr ⟨_,.inl rfl,hP _ (aji hl),hl⟩⟩ ?_
  show 3*(m.prog.length - m.dG.length) - 1+1<=mO m
  unfold mO
  rw [e,o3]
  show _<=3*(P.length - m.dG.length) - 0
  omega
 ·have hM:∀ M:MS,M.most.id=M.id/\M.most.c=M.c/\M.most.prog=M.prog/\M.most.dG=M.dG/\M.most.aP=M.aP/\M.most.aY=M.aY/\M.most.oq=M.oq/\M.most.mg=M.mg/\M.most.aW=M.aW/\M.most.next=M.next:=fun M=>by
   unfold MS.most
   split<;>exact ⟨rfl,rfl,rfl,rfl,rfl,rfl,rfl,rfl,rfl,rfl⟩
  have hgen:∀ (r:xM),stepM x.s { m with aU:=m.aU+1 } m.next=r->jD m.next=false->r.s=x.s ->
   (r.next = .nil->r.m.id=0/\r.m.c=c/\r.m.prog=P/\r.m.dG.length=m.dG.length+1/\r.m.aP=0/\r.m.aY=[]/\r.m.oq=0/\r.m.mg=false/\r.m.aW.length=c.r.toNat)->(r.next ≠ .nil->r.m={ m with aU:=m.aU+1 }/\m.next = .kU o/\r.next = .get o) ->
   Dk c H n P (eY x 0)/\∃ m',(eY x 0).aG[0]?=some m'/\mO m'+1<=mO m:=fun r hr hnn hs h1 h2=>by
   have hp:dV x.s m=(r.s,(if jD r.next then { r.m with next := .nil }.most else { r.m with next:=r.next }),r.ev):=by
    unfold dV
    rw [aT (by rw [hnn];decide),<- hr]
   by_cases hrn:jD r.next=true
   ·have adg:r.next = .nil:=by
     cases hd:r.next<;>rw [hd] at hrn<;>first|rfl|cases hrn
    rw [aZ hrn] at hp
    obtain ⟨g1,g2,g3,g4,g5,g6,g7,g9,g10⟩:=h1 adg
    obtain ⟨q1,q2,q3,q4,q5,q6,q7,q9,q10,q8⟩:=hM { r.m with next := .nil }
    generalize MS.most { r.m with next := .nil }=M at *
    refine key _ _ hp hs r.ev rfl ⟨q1.trans g1,q2.trans g2,q3.trans g3,by show M.dG.length<=_;rw [q4];show r.m.dG.length<=_;omega,q5.trans g5,q6.trans g6,q7.trans g7,q9.trans g9,by show M.aW.length=_;rw [q10];exact g10,.inl q8⟩ ?_
    show mO M+1<=mO m
    have e1:M.prog=P:=q3.trans g3
    have e2:M.dG.length=m.dG.length+1:=by rw [q4];exact g4
    have e3:M.next = .nil:=q8
    unfold mO
    rw [e1,e2,e3,o3]
    show 3*(P.length - (m.dG.length+1)) - 0+1<=_
    rcases e with e|e<;>rw [e]
    ·show _<=3*(P.length - m.dG.length) - 1;omega
    ·show _<=3*(P.length - m.dG.length) - 2;omega
   ·rw [aT hrn] at hp
    have adg:r.next ≠ .nil:=by intro e;rw [e] at hrn;exact hrn rfl
    obtain ⟨g1,g2,g3⟩:=h2 adg
    rw [g1,g3] at hp
    refine key _ _ hp hs r.ev rfl ⟨o1,o2,o3,o4,o5,o6,o7,o9,o10,.inr ⟨o,.inr rfl,hk,hl⟩⟩ ?_
    show 3*(m.prog.length - m.dG.length) - 2+1<=mO m
    unfold mO
    rw [g2,o3]
    show _<=3*(P.length - m.dG.length) - 1
    omega
  rcases e with e|e
  ·have hst:∀ d,d=MD.kU o->stepM x.s { m with aU:=m.aU+1 } d=kY x.s { m with aU:=m.aU+1 } o:=fun d e=>by rw [e];rfl
   have hR:(kY x.s { m with aU:=m.aU+1 } o).s=x.s/\((kY x.s { m with aU:=m.aU+1 } o).next = .nil/\(kY x.s { m with aU:=m.aU+1 } o).m=({ m with aU:=m.aU+1 }:MS).did (tN m.c o) 0\/(kY x.s { m with aU:=m.aU+1 } o).next = .get o/\(kY x.s { m with aU:=m.aU+1 } o).m={ m with aU:=m.aU+1 }):=by
    unfold kY
    rw [hk]
    split
    ·exact ⟨rfl,.inl ⟨rfl,rfl⟩⟩
    ·rw [aT (by decide),aT (by decide),aT (by decide),aZ (by decide)]
     exact ⟨rfl,.inr ⟨rfl,rfl⟩⟩
   refine hgen _ (hst _ e) (by rw [e];rfl) hR.1 (fun hnil=>?_) (fun hne=>?_)
   ·rcases hR.2 with ⟨_,g⟩|⟨g,_⟩
    ·rw [g]
     exact ⟨o1,o2,o3,by show (m.dG++[_]).length=_;simp,o5,o6,o7,o9,o10⟩
    ·rw [g] at hnil;cases hnil
   ·rcases hR.2 with ⟨g,_⟩|⟨g1,g2⟩
    ·exact absurd g hne
    ·exact ⟨g2,e,g1⟩
  ·have hst:∀ d,d=MD.get o->stepM x.s { m with aU:=m.aU+1 } d=wY x.s { m with aU:=m.aU+1 } o.a (x.s.H.jc o.b):=fun d e=>by rw [e];rfl
   refine hgen _ (hst _ e) (by rw [e];rfl) rfl (fun hnil=>?_) (fun hne=>absurd rfl hne)
   exact ⟨o1,o2,o3,by show (m.dG++[_]).length=_;simp,o5,o6,o7,o9,by show (m.aW.set _ _).length=_;rw [aku];exact o10⟩
end
theorem Dk.run {c:bK} {H:HS} {n:Nat} {P:List jy} (hP:∀ o∈P,o.k=4) (hn:1<=n):∀ (f:Nat) (x:WS),Dk c H n P x->(∀ m,x.aG[0]?=some m->mO m<=f)->Dk c H n P (tC f x)/\∀ m,(tC f x).aG[0]?=some m->mZ m=true
 | 0,x,h,ht=>by
   refine ⟨h,fun m hm=>?_⟩
   have h0:=ht m hm
   cases hd:mZ m with
   | true=>rfl
   | false =>
     obtain ⟨_,m',_,h2⟩:=h.pick hP hm hd
     omega
 | f+1,x,h,ht=>by
   obtain ⟨m,hm⟩:∃ m,x.aG[0]?=some m:=⟨x.aG[0]'(by rw [h.len];omega),ajh _⟩
   cases hd:mZ m with
   | true =>
     rw [Iw hm hd]
     exact ⟨h,fun m' hm'=>by rw [hm] at hm';cases hm';exact hd⟩
   | false =>
     rw [P6 hm hd]
     obtain ⟨h1,m',h2,h3⟩:=h.pick hP hm hd
     exact Dk.run hP hn f _ h1 (fun m2 hm2=>by rw [h2] at hm2;cases hm2;have:=ht m hm;omega)
theorem aaP (x:xE):Dk x.c.bJ (xQ (HS.bC x.c.bJ x.c.bJ.b.toNat x.c.bJ.w.toNat x.c.bJ.c.toNat) x.sz x.fl x.ce) x.c.bJ.m.toNat (rO x.c.bJ.r x.rg x.rg.length) (jY x.c.bJ x x.c.bJ.m.toNat)/\∀ m,(jY x.c.bJ x x.c.bJ.m.toNat).aG[0]?=some m->mO m<=3*x.rg.length:=by
 have hok:=jC (Bv x.c)
 generalize x.c.bJ=c at *
 have hat:∀ i m,(jY c x c.m.toNat).aG[i]?=some m->m=MS.bC c i (uD c.r x.rg i):=fun i m hm=>by
  have hm':((akS c.m.toNat).map (fun j=>MS.bC c j (uD c.r x.rg j)))[i]?=some m:=hm
  rw [aks] at hm'
  have hlt:i<c.m.toNat:=by
   rcases ajz i c.m.toNat with g|g
   ·exact g
   ·rw [ajK (by simpa using g)] at hm';cases hm'
  rw [ajh (by simpa using hlt)] at hm'
  simp at hm'
  exact hm'.symm
 refine ⟨⟨rfl,rfl,by show ((akS c.m.toNat).map _).length=_;simp,fun i m hm hi=>?_,fun m hm=>?_⟩,fun m hm=>?_⟩
 ·rw [hat i m hm]
  unfold uD
  rw [aT (by omega)]
 ·rw [hat 0 m hm]
  exact ⟨rfl,rfl,rfl,aki _,rfl,rfl,rfl,rfl,by show (ajj c.r.toNat 0).length=_;simp,.inl rfl⟩
 ·rw [hat 0 m hm]
  unfold mO
  show 3*((rO c.r x.rg x.rg.length).length - 0) - 0<=_
  rw [Ic];omega
theorem aaQ (r:Int) (rg:List Nat) (n:Nat):∀ o∈rO r rg n,o.k=4:=fun o ho=>by
 unfold rO at ho
 obtain ⟨k,_,rfl⟩:=akW.1 ho
 rfl
theorem P8 (x:xE) (hr:x.rg.length<=20):Dk x.c.bJ (xQ (HS.bC x.c.bJ x.c.bJ.b.toNat x.c.bJ.w.toNat x.c.bJ.c.toNat) x.sz x.fl x.ce) x.c.bJ.m.toNat (rO x.c.bJ.r x.rg x.rg.length) (iY x)/\∀ m,(iY x).aG[0]?=some m->mZ m=true:=by
 have hok:=jC (Bv x.c)
 obtain ⟨h0,h1⟩:=aaP x
 exact h0.run (aaQ _ _ _) (by omega) 300 _ (fun m hm=>ajU (h1 m hm) (by omega))
section
variable {p:CP} {x y:WS} {s s':Sh} {m m':MS} {i j l l' ph vO hf R mu bl ce κ:Nat} {H:HS} {dead:List Nat} {q:Qu}
theorem aaR (hf:Nat) (hhf:hf=p.H.ww/2) (h:qF p x dead) (d:CD) (hd:x.aC.next=d) (hx:∀ m t,d = .dJ m t->x.s.B.bF (m:Int)=false):p.nN hf R (fJ x d)+1<=p.nN hf R x:=by
 have hmu:=h.mu8
 have fQ:=h.fQ
 rw [hd] at fQ
 have uP:=h.ql
 have hcbl:=h.rY
 have hst:=h.bD
 have hsl:∀ B,(x.s.H.bH B).length<=hf:=fun B=>by
  rw [hhf,<- h.xG.2.2.1];exact Kr x.s.H B
 cases d with
 | iJ b =>
   obtain ⟨h6,hb⟩:=fQ
   obtain ⟨g1,g2⟩:=WO (p:=p) (hf:=hf) (R:=R) (c:=x.aC) hcbl (b:=b+1) (by omega)
   have hmp:=Un (c:=hf+4) hb
   by_cases hK:x.s.H.K.getD b 0=0
   ·have e:fJ x (.iJ b)={ x with s:={ x.s with Q:=x.s.Q },aC:={ x.aC with next:=x.aC.lW (b+1) } }:=by
     unfold fJ
     simp only [aN]
     rw [aZ hK]
    rw [e]
    refine ku hd (fun hb=>by rw [g2] at hb;cases hb) ?_
    rw [g1]
    show _<=(p.bl - b)*(hf+4)+(p.ak R+5)
    omega
   ·have hk4:x.s.H.K.getD b 0<=4:=by
     rcases ajz b x.s.H.K.length with g|g
     ·rw [ajg,ajh g]
      exact h.gU.k4 _ (aji g)
     ·rw [ajg,ajK g];exact aki _
    obtain ⟨c,hc,hc4⟩:∃ c:Nat,x.s.H.K.getD b 0=c+1/\c<4:=⟨x.s.H.K.getD b 0 - 1,by omega,by omega⟩
    have hqs:=agr uP hc4 (b:Int)
    have e:fJ x (.iJ b)={ x with s:={ x.s with Q:=x.s.Q.put (c:Int) (b:Int) },aC:={ x.aC with bD:=x.aC.bD,next:=x.aC.lW (b+1) } }:=by
     unfold fJ
     simp only [aN]
     rw [aT hK,hc]
     have:((c+1:Nat):Int) - 1=(c:Int):=by omega
     rw [this]
    rw [e]
    refine Ah (x:=x) (Q:=x.s.Q.put (c:Int) (b:Int)) (st:=x.aC.bD) (d':=x.aC.lW (b+1)) hd ?_
    rw [g1,g2,hqs,Nat.add_mul,Nat.one_mul]
    show _+_+0+_+1<=(p.bl - b)*(hf+4)+(p.ak R+5)+33*x.aC.bD.length+0+x.s.Q.qs*(hf+3)
    omega
 | eX =>
   unfold fJ
   simp only [aN]
   cases hq:x.s.Q.any with
   | none =>
     refine ku hd (fun hb=>by cases hb) ?_
     show p.ak R+4+1<=p.ak R+5
     omega
   | some kb =>
     obtain ⟨kk,b⟩:=kb
     obtain ⟨hk4,z,r,hr1,hr2⟩:=Uk hq
     have hqs:=aeN uP hk4 hr1
     refine Ah (x:=x) (Q:=x.s.Q.take (kk:Int)) (st:=x.aC.bD) (d' := .block (x.s.H.bH b)) hd ?_
     have:=hsl b
     rw [<- hqs,Nat.add_mul,Nat.one_mul]
     show (x.s.H.bH b).length+1+(p.ak R+5)+_+0+_+1<=p.ak R+5+33*x.aC.bD.length+0+_
     omega
 | block sl =>
   cases sl with
   | nil =>
     show p.nN hf R { x with s:={ x.s with Q:=x.s.Q.wO },aC:={ x.aC with bD:=x.aC.bD,next := .eX } }+1<=_
     refine Ah (x:=x) (Q:=x.s.Q.wO) (st:=x.aC.bD) (d' := .eX) hd ?_
     show p.ak R+5+_+0+x.s.Q.qs*(hf+3)+1<=0+1+(p.ak R+5)+33*x.aC.bD.length+0+x.s.Q.qs*(hf+3)
     omega
   | cons a r =>
     have hco:∀ H':HS,H'.co=x.s.H.co->p.nN hf R { x with s:={ x.s with H:=H' },aC:={ x.aC with next := .block r } }+1<=p.nN hf R x:=fun H' e=>by
      refine wz (x:=x) (H:=H') (Q:=x.s.Q) (fl:=x.s.dw) (c:={ x.aC with next := .block r }) ?_
      rw [e,hd]
      have e1:uf x=false:=by unfold uf;rw [hd];rfl
      rw [e1]
      have key:r.length+1+(p.ak R+5)+33*x.aC.bD.length+0+p.U x.s.H.co*p.kD hf R+(if (x.s.dw||x.aC.over||x.aG.any (fun m=>lM m.next))=true then p.wk hf R else 0)+(if (x.aC.dP||x.aC.phase==4)=true then p.dr R else 0)+x.s.Q.qs*(hf+3)+1 <=
       (a::r).length+1+(p.ak R+5)+33*x.aC.bD.length+0+p.U x.s.H.co*p.kD hf R+(if (x.s.dw||x.aC.over||x.aG.any (fun m=>lM m.next))=true then p.wk hf R else 0)+(if (x.aC.dP||x.aC.phase==4)=true then p.dr R else 0)+x.s.Q.qs*(hf+3):=by
       rw [List.length_cons];omega
      exact key
     unfold fJ
     simp only [aN]
     by_cases hc:(!x.s.H.bn a||x.s.H.iU a==x.aC.aP)=true
     ·rw [aZ hc]
      exact hco x.s.H rfl
     ·rw [aT hc]
      have hba:x.s.H.bn a=true:=by
       cases hb:x.s.H.bn a
       ·rw [hb] at hc;exact absurd rfl hc
       ·rfl
      exact hco (x.s.H.jH a) (h.gU.free hba).co
 | jR =>
   have hop:x.s.Q.dS=0:=by have:=h.dS;rw [hd] at this;exact this
   have hqe:∀ k,x.s.Q.rw k=[]:=by have:=h.qe;rw [hd] at this;exact this rfl
   have hrs:x.s.Q.jR=true:=by
    unfold Qu.jR Qu.sum Qu.sum Qu.sum Qu.sum Qu.sum
    have h0:=hqe 0;have h1:=hqe 1;have h2:=hqe 2;have h3:=hqe 3
    unfold Qu.rw at h0 h1 h2 h3
    rw [h0,h1,h2,h3,hop];rfl
   unfold fJ
   simp only [aN]
   rw [hrs]
   refine ku (d' := .off) hd (fun hb=>by cases hb) ?_
   show p.ak R+3+1<=p.ak R+4
   omega
 | off =>
   have h6:x.aC.phase=6:=fQ
   have hnw:∀ m u,x.aC.next ≠ .dJ m u:=by rw [hd];intro m u e;cases e
   obtain ⟨b1,b2,b3⟩:=h.bd.qR (fun i hi=>h.pz hnw hi) 7
   refine I8 (x:=x) (k:=7) (t := .jE) (c:=x.aC) (fun i m hm=>?_) rfl ⟨rfl,rfl⟩ ?_
   ·have g:=h.gW i m hm
    have hi:=h.vP hm
    have hnx:m.next = .nil:=g.nx.resolve_right (fun hh=>by rw [h.pz hnw hi] at hh;cases hh.2)
    have hp:(x.s.qR 7).B.bF (i:Int)=true:=(b2 i).trans (fK hi)
    have hk7:(x.s.qR 7).B.kind=7:=b3
    have hb:fG (x.s.qR 7) m = .once 7:=by
     unfold fG
     rw [g.id,hp,aZ rfl,hk7,aT (by decide),aT (by decide)]
    unfold iq
    rw [hp,hnx,hb]
    show 3*m.aY.length+(1+1)<=_
    omega
   ·rw [hd]
    have e2:dB x=x.aC.dP:=by unfold dB;rw [h6];simp
    have e3:(x.aC.dP||(7:Nat)==4)=x.aC.dP:=by simp
    rw [e2,e3]
    have ha:p.ak R=p.mu*(8*R+5)+p.mu:=by unfold CP.ak;rw [show 8*R+6=(8*R+5)+1 by omega,Nat.mul_add,Nat.mul_one]
    show p.mu+1+_+_+1<=p.ak R+3+_
    omega
 | dJ mm t =>
   obtain ⟨h7,hm,rfl⟩:=fQ
   have hp0:=hx mm .jE rfl
   have Dj:=EX h.bd hm
   unfold fJ
   simp only [aN]
   rw [Dj,hp0,aT (by decide)]
   split
   ·refine ku hd (fun hb=>by cases hb) ?_
    show p.mu - (mm+1)+1+1<=p.mu - mm+1
    omega
   ·refine ku hd (fun hb=>by cases hb) ?_
    show 1+1<=p.mu - mm+1
    omega
 | jE =>
   have h7:x.aC.phase=7:=fQ
   refine wz (x:=x) (H:=x.s.H) (Q:=x.s.Q) (fl:=x.s.dw) (c:={ x.aC with phase:=0,next := .nil }) ?_
   rw [hd]
   have e1:uf x=false:=by unfold uf;rw [hd];rfl
   have e2:dB x=x.aC.dP:=by unfold dB;rw [h7];simp
   have e3:(x.aC.dP||(0:Nat)==4)=x.aC.dP:=by simp
   rw [e1,e2]
   have key:0+33*x.aC.bD.length+0+p.U x.s.H.co*p.kD hf R+(if (x.s.dw||x.aC.over||x.aG.any (fun m=>lM m.next))=true then p.wk hf R else 0)+(if (x.aC.dP||(0:Nat)==4)=true then p.dr R else 0)+x.s.Q.qs*(hf+3)+1 <=
    1+33*x.aC.bD.length+0+p.U x.s.H.co*p.kD hf R+(if (x.s.dw||x.aC.over||x.aG.any (fun m=>lM m.next))=true then p.wk hf R else 0)+(if x.aC.dP=true then p.dr R else 0)+x.s.Q.qs*(hf+3):=by
    rw [e3];omega
   exact key
 | _=>exact fQ.elim
structure Na (p:CP) (R:Nat):Prop where
 gU:eu p.H
 bl:p.bl=p.H.b
 aW:∀ i,(p.aW i).length<=R
abbrev CP.eP (p:CP) (R:Nat) (x:WS):Nat:=p.nN (p.H.ww/2) R x
theorem oO.J9 (g:Na p R) (h:oO p x dead) (hx:∀ m t,x.aC.next = .dJ m t->x.s.B.bF (m:Int)=false):p.eP R (fJ x x.aC.next)+1<=p.eP R x:=by
 cases h with
 | mark h1 h2=>exact acY (g.gU.MX g.bl) g.aW h1 h2 _ rfl hx
 | eX h1=>exact aaR _ rfl h1 _ rfl hx
theorem oO.bd (h:oO p x dead):BI p.mu x.s.B/\x.aG.length=p.mu/\x.aC.aG=p.mu/\x.aC.aP=p.κ/\(∀ m t,x.aC.next = .dJ m t->m<p.mu):=by
 cases h with
 | mark h1 h2=>exact ⟨h1.bd,h1.aG,h1.tY,h1.jw,fun m t e=>by have:=h1.fQ;rw [e] at this;exact this.1⟩
 | eX h1=>exact ⟨h1.bd,h1.aG,h1.tY,h1.jw,fun m t e=>by have:=h1.fQ;rw [e] at this;exact this.2.1⟩
theorem aaS (h:oO p x dead) {mm:Nat} {t:CD} (hd:x.aC.next = .dJ mm t) (hp:x.s.B.bF (mm:Int)=true):fJ x x.aC.next=x/\(aN x.s x.aC x.aC.next).ev=none:=by
 obtain ⟨b1,_,_,_,b5⟩:=h.bd
 have Dj:=EX b1 (b5 mm t hd)
 have e:∀ d,d=CD.dJ mm t->fJ x d={ x with aC:={ x.aC with next:=d } }/\(aN x.s x.aC d).ev=none:=fun d e=>by
  rw [e]
  unfold fJ
  simp only [aN]
  rw [Dj,hp,aZ (by decide)]
  exact ⟨rfl,trivial⟩
 exact e _ hd
theorem oO.le (g:Na p R) (h:oO p x dead):p.eP R (fJ x x.aC.next)<=p.eP R x:=by
 by_cases hw:∃ m t,x.aC.next = .dJ m t/\x.s.B.bF (m:Int)=true
 ·obtain ⟨m,t,e,hp⟩:=hw
  rw [(aaS h e hp).1]
  exact aje _
 ·have:=h.J9 g (fun m t e=>by
   cases hp:x.s.B.bF (m:Int)
   ·rfl
   ·exact absurd ⟨m,t,e,hp⟩ hw)
  omega
theorem YM (h:oO p x dead):{ x with s:=(dX x.s x.aC).s,aC:=(dX x.s x.aC).c }=fJ x x.aC.next/\(dX x.s x.aC).ev=(aN x.s x.aC x.aC.next).ev:=by
 have e:dX x.s x.aC=⟨(aN x.s x.aC x.aC.next).s,{ (aN x.s x.aC x.aC.next).c with next:=(aN x.s x.aC x.aC.next).next },(aN x.s x.aC x.aC.next).next,(aN x.s x.aC x.aC.next).ev⟩:=by
  unfold dX
  rw [h.busy];rfl
 rw [e]
 exact ⟨rfl,rfl⟩
theorem oO.bF (g:Na p R) (h:oO p x dead) (hm:x.aG[i]?=some m):(∀ j:Nat,j≠i->(eY x i).s.B.bF (j:Int)=x.s.B.bF (j:Int))/\((eY x i).s.B.bF (i:Int)=true->x.s.B.bF (i:Int)=true):=by
 obtain ⟨e1,_,_⟩:=yw x hm
 rw [e1]
 cases h with
 | mark h1 h2 =>
   obtain ⟨u,_,_⟩:=Kq (g.gU.MX g.bl) h1 hm
   exact ⟨u.bF,u.YB⟩
 | eX h1 =>
   obtain ⟨s',m',g1,g2,g3,g4,g5,g6,g7,g8,g9⟩:=Ep h1 hm
   rw [g1]
   refine ⟨g8,fun hp=>?_⟩
   cases hq:x.s.B.bF (i:Int)
   ·rw [hq] at g9
    have hp':s'.B.bF (i:Int)=true:=hp
    rw [g9.2.2] at hp';cases hp'
   ·rfl
def dI:Nat->WS->WS
 | 0,x=>x
 | j+1,x=>eY (dI j x) j
structure MR (p:CP) (R:Nat) (dead:List Nat) (x y:WS) (j:Nat):Prop where
 nH:oO p y dead
 aC:y.aC=x.aC
 bF:∀ i:Nat,y.s.B.bF (i:Int)=true->x.s.B.bF (i:Int)=true
 le:p.eP R y<=p.eP R x
 lt:(∃ i:Nat,i<j/\x.s.B.bF (i:Int)=true)->p.eP R y+1<=p.eP R x
 same:∀ i:Nat,j<=i->y.s.B.bF (i:Int)=x.s.B.bF (i:Int)
theorem MR.next (g:Na p R) (h:MR p R dead x y j) (hj:j<p.mu):MR p R dead x (eY y j) (j+1)/\∃ m,y.aG[j]?=some m/\(dV y.s m).2.2=none:=by
 obtain ⟨_,hl,_⟩:=h.nH.bd
 obtain ⟨m,hm⟩:∃ m,y.aG[j]?=some m:=⟨y.aG[j]'(by omega),ajh _⟩
 obtain ⟨h1,h2⟩:=h.nH.Oi g.gU g.bl hm
 obtain ⟨h3,h4⟩:=h.nH.bF g hm
 have h5:=aeM (hf:=p.H.ww/2) (R:=R) g.gU g.bl h.nH hm
 have hle:=h.le
 refine ⟨⟨h1,(yw y hm).2.2.trans h.aC,fun i hi=>?_,by show p.nN _ R _<=p.nN _ R _;have:p.nN (p.H.ww/2) R y<=p.nN (p.H.ww/2) R x:=hle;omega,fun ⟨i,hi,hp⟩=>?_,fun i hi=>?_⟩,m,hm,h2⟩
 ·by_cases e:i=j
  ·subst e;exact h.bF i (h4 hi)
  ·exact h.bF i (by rw [<- h3 i e];exact hi)
 ·by_cases e:i=j
  ·subst e
   rw [h.same i (aje _),aZ hp] at h5
   show p.nN _ R _+1<=p.nN _ R _
   have:p.nN (p.H.ww/2) R y<=p.nN (p.H.ww/2) R x:=hle
   omega
  ·have:=h.lt ⟨i,by omega,hp⟩
   show p.nN _ R _+1<=p.nN _ R _
   have:p.nN (p.H.ww/2) R y+1<=p.nN (p.H.ww/2) R x:=this
   omega
 ·rw [h3 i (by omega)]
  exact h.same i (by omega)
theorem MR.first (h:oO p x dead):MR p R dead x x 0:=⟨h,rfl,fun _ h=>h,aje _,(fun ⟨_,h,_⟩=>absurd h (Nat.not_lt_zero _)),fun _ _=>rfl⟩
theorem MR.round (g:Na p R) (h:MR p R dead x y p.mu):∃ jZ,F8 p y dead { y with s:=(dX y.s y.aC).s,aC:=(dX y.s y.aC).c } jZ (dX y.s y.aC).ev/\p.eP R { y with s:=(dX y.s y.aC).s,aC:=(dX y.s y.aC).c }+1<=p.eP R x:=by
 obtain ⟨jZ,ht⟩:=h.nH.acX g.gU g.bl
 refine ⟨jZ,ht,?_⟩
 rw [(YM h.nH).1]
 obtain ⟨_,_,_,_,b5⟩:=h.nH.bd
 by_cases hw:∃ m t,y.aC.next = .dJ m t/\y.s.B.bF (m:Int)=true
 ·obtain ⟨m,t,e,hp⟩:=hw
  have h1:=h.lt ⟨m,b5 m t e,h.bF m hp⟩
  have h2:=h.nH.le g
  omega
 ·have h1:=h.nH.J9 g (fun m t e=>by
   cases hp:y.s.B.bF (m:Int)
   ·rfl
   ·exact absurd ⟨m,t,e,hp⟩ hw)
  have h2:=h.le
  omega
end
end
end Go.Proofs.YtanfphjoebobaaaGreatDoor
