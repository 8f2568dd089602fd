/- Parts of the walk. No conditions. -/
import Derived.Test.YtanfphjoebobaaaGreatDoorZzeac
namespace Go.Proofs.YtanfphjoebobaaaGreatDoor
open _root_.Go.Proofs.Tryz hiding prog
open _root_.Go.Proofs.Tryz renaming prog->ay
set_option maxRecDepth 8000
set_option maxHeartbeats 8000000
section
attribute [local go_sem ↓] jT
attribute [local go_sem] Oper.semAt_some
open Go.RowKit
section
variable {o o':Ow} {w w' W W':World} {G:Geo} {gs:List MG} {q:CG} {x:qI} {v:Value} {a1 a2 a3 a4:Option Addr} {n1 n2 n3 n4 p1 p2 p3 p4:Nat}
theorem aat {e:TypeId} {base g n cap size:Nat} {xs:List Value} (h:w.ownsRow 0 e size (.slice (some ⟨g,0,none⟩) n cap) n xs) (hg:base<=g):w.ownsRow base e size (.slice (some ⟨g,0,none⟩) n cap) n xs:=by
 obtain ⟨h1,h2⟩:=h
 refine ⟨h1,?_⟩
 rcases h2 with ⟨e1,_⟩|⟨g',cap',cur,e1,_,rest⟩
 ·cases e1
 ·cases e1
  exact .inr ⟨g,cap,cur,rfl,hg,rest⟩
structure BU (w:World) (x:qI) (a1 a2 a3 a4:Option Addr) (n1 n2 n3 n4:Nat):Prop where
 s:qZ w a1 n1 x.sz
 f:qZ w a2 n2 x.fl
 c:qZ w a3 n3 x.ce
 r:qZ w a4 n4 x.rg
theorem BU.still (h:BU w x a1 a2 a3 a4 n1 n2 n3 n4) (k:Keep none_ w w'):BU w' x a1 a2 a3 a4 n1 n2 n3 n4:=⟨h.s.still k,h.f.still k,h.c.still k,h.r.still k⟩
abbrev uI (c:aK) (a1 a2 a3 a4:Option Addr) (n1 n2 n3 n4 p1 p2 p3 p4:Nat):Value := .agg #[ah c.b,ah c.w,ah c.m,ah c.r,ah c.c,ah c.l,ah c.s,.slice a1 n1 p1,.slice a2 n2 p2,.slice a3 n3 p3,.slice a4 n4 p4]
theorem BX {fn:Func} {t u v z:Tmp} (h:fn.results=#[.tmp t,.tmp u,.tmp v,.tmp z]) (tmps:Array Value) (P:Program) (w:World) :
 (results fn tmps).run P w = .ok (.tuple #[tmps.getD t undef,tmps.getD u undef,tmps.getD v undef,tmps.getD z undef]) w:=by
 simp [results,h]
theorem JC (c:aK) (x:qI) (n:Nat):sF (gK c x n):=by
 intro m hm
 have hm':m∈(List.range n).map (fun j=>MS.new c j (nR c.r x.rg j)):=hm
 obtain ⟨j,_,rfl⟩:=List.mem_map.1 hm'
 refine ⟨trivial,fun o ho=>?_⟩
 have ho':o∈nR c.r x.rg j:=ho
 unfold nR at ho'
 split at ho'
 ·unfold lX at ho'
  obtain ⟨k,_,rfl⟩:=List.mem_map.1 ho'
  rfl
 ·cases ho'
def Dc (w:World) (x:qI) (e:Ending) (w':World):Prop :=
 ∃ (o:Ow) (G:Geo) (q:CG) (gs:List MG) (mv:Value) (a:Option Addr) (c:Nat),e = .returned (.tuple #[aj G.S,aj q.C,mv,.slice a (dI (HS.new x.c.little x.c.little.b.toNat x.c.little.w.toNat x.c.little.c.toNat) x.sz).objs.length c]) /\
  CW w w' o G gs q (fA x)/\oq 300 (fA x)/\iJ o w' mv gs /\
  bC o w' 3 (.slice a (dI (HS.new x.c.little x.c.little.b.toNat x.c.little.w.toNat x.c.little.c.toNat) x.sz).objs.length c) (aG (dI (HS.new x.c.little x.c.little.b.toNat x.c.little.w.toNat x.c.little.c.toNat) x.sz).objs)
theorem aF.hbd {D:Nat->Nat} {H:HS} (h:aF w D H):YP H:=by
 have hn:=h.nat
 refine ⟨xR H,fun b=>Nat.le_trans (EG H b) ?_⟩
 have:H.ww/2<=H.ww:=Nat.div_le_self _ _
 omega
theorem CW.base {y:WS} (h:CW W' W o G gs q y) (k:Keep none_ w W'):CW w W o G gs q y:=⟨h.coll,h.len,h.dK,fun b hb=>h.low b (Nat.lt_of_lt_of_le hb k.size),k.trans h.keep⟩
structure nG (o0:Ow) (w W:World) (o:Ow) (G:Geo) (gs:List MG) (q:CG) (x:WS):Prop extends CW w W o G gs q x where
 ex:∀ b,b<w.heap.size->o b=o0 b
section
variable {y:WS} {o0:Ow}
theorem nG.of {gs':List MG} {y':WS} (h:nG o0 w W o G gs q y) (h':CW w W' o' G gs' q y') (e:aQ W o o'):nG o0 w W' o' G gs' q y':=⟨h',fun b hb=>(e b (Nat.lt_of_lt_of_le hb h.keep.size)).trans (h.ex b hb)⟩
theorem nG.rX (h:nG o0 w W o G gs q y) (k:Keep none_ W W'):nG o0 w W' o G gs q y:=⟨h.toCW.rX k,h.ex⟩
theorem nG.base (h:nG o0 W' W o G gs q y) (k:Keep none_ w W'):nG o0 w W o G gs q y:=⟨h.toCW.base k,fun b hb=>h.ex b (Nat.lt_of_lt_of_le hb k.size)⟩
theorem nG.pick {N:Nat} (h:nG o0 w W o G gs q y) (ok:oq N y) (hN:N<=1000000000) {g:MG} {i:Nat} {m:MS} (hg:gs[i]?=some g) (hm:y.muts[i]?=some m) (hst:CQ m.next):Calls ay 24 #[aj g.M] W fun e W'=>e = .returned (.tuple #[kX (bG y.s m).2.2,jq (bG y.s m).2.2])/\∃ o',aQ W o o'/\nG o0 w W' o' G gs q (bP y i)/\Keep (In o (bW i)) W W':=by
 refine (h.toCW.pick ok hN hg hm hst).mono ?_
 rintro e W' ⟨h1,o',h2,h3,h4⟩
 exact ⟨h1,o',h2,h.of h3 h2,h4⟩
theorem iJ.acT {g:MG} {gs2:List MG} (h:iJ o W v gs) (hc:nG o0 w W o G gs2 q y) {N:Nat} (hN:W.cell? ⟨N,0,none⟩=some (aB g.M)) (hl:gs.length<=100):∃ b cap W5,(app9 #[31,31] 31 #[v,.slice (some ⟨N,0,none⟩) 1 1]).run ay W = .ok (.slice (some ⟨b,0,none⟩) (gs.length+1) cap) W5 /\
 ∃ o',aQ W o o'/\nG o0 w W5 o' G gs2 q y/\iJ o' W5 (.slice (some ⟨b,0,none⟩) (gs.length+1) cap) (gs++[g])/\Keep (In o [97]) W W5:=by
 obtain ⟨b,cap,W5,hrun,o',h1,h2,h3,h4⟩:=h.grow hc.toCW hN hl
 exact ⟨b,cap,W5,hrun,o',h1,hc.of h2 h1,h3,h4⟩
end
theorem BZ {y:WS} {m:MS} (hm:y.muts[0]?=some m) (hd:iI m=true):∀ f,ng f y=y
 | 0=>rfl
 | f+1=>by
   unfold ng
   cases hl:y.muts with
   | nil=>rfl
   | cons m' r =>
     rw [hl] at hm
     cases hm
     simp only [hd,if_true]
theorem JD {y:WS} {m:MS} (hm:y.muts[0]?=some m) (hd:iI m=false) (f:Nat):ng (f+1) y=ng f (bP y 0):=by
 show (match y.muts with|[]=>y|m::_=>if iI m then y else ng f (bP y 0))=_
 cases hl:y.muts with
 | nil=>rw [hl] at hm;cases hm
 | cons m' r =>
   rw [hl] at hm
   cases hm
   simp only [hd,Bool.false_eq_true,if_false]
theorem Yt {c:aK} {x:qI} {n:Nat} (hok:c.ok=true) (hn:c.m=(n:Int)):oq 0 (gK c x n):=by
 have hb:=fQ hok
 have hq:∀ k,(gK c x n).s.Q.rw k=[]:=fun k=>by
  show ([[],[],[],[]]:List (List Int)).getD k []=[]
  match k with
  | 0=>rfl
  | 1=>rfl
  | 2=>rfl
  | 3=>rfl
  | k+4=>rfl
 have hqo:l7 (gK c x n).s:=fun k b hx=>by rw [hq k] at hx;cases hx
 have hl:(gK c x n).s.boxes.length=n:=by
  show (List.replicate c.m.toNat []).length=n
  rw [List.length_replicate];omega
 refine ⟨by show ((List.range n).map _).length=c.m.toNat;simp;omega,fun i m hm=>?_,?_,Nat.le_refl _,Nat.le_refl _⟩
 ·have hm':((List.range n).map (fun j=>MS.new c j (nR c.r x.rg j)))[i]?=some m:=hm
  rw [List.getElem?_map] at hm'
  have hlt:i<n:=by
   rcases Nat.lt_or_ge i n with g|g
   ·exact g
   ·rw [List.getElem?_eq_none (by simpa using g)] at hm';cases hm'
  rw [List.getElem?_eq_getElem (by simpa using hlt)] at hm'
  simp at hm'
  subst hm'
  exact ⟨rfl,uX.first i _ hqo rfl (by omega)⟩
 ·have:CS.new c c.m.toNat=CS.new c n:=by rw [show c.m.toNat=n by omega]
  show Iq 0 (gK c x n).s (CS.new c c.m.toNat)
  rw [this]
  exact CK.first hok hn hl hqo rfl hq rfl
def zV (o0:Ow) (w:World) (x:qI) (e:Ending) (w':World):Prop :=
 ∃ (o:Ow) (G:Geo) (q:CG) (gs:List MG) (mv:Value) (a:Option Addr) (c:Nat),e = .returned (.tuple #[aj G.S,aj q.C,mv,.slice a (dI (HS.new x.c.little x.c.little.b.toNat x.c.little.w.toNat x.c.little.c.toNat) x.sz).objs.length c]) /\
  nG o0 w w' o G gs q (fA x)/\oq 300 (fA x)/\iJ o w' mv gs /\
  bC o w' 3 (.slice a (dI (HS.new x.c.little x.c.little.b.toNat x.c.little.w.toNat x.c.little.c.toNat) x.sz).objs.length c) (aG (dI (HS.new x.c.little x.c.little.b.toNat x.c.little.w.toNat x.c.little.c.toNat) x.sz).objs)
theorem zV.r {o0:Ow} {e:Ending} (h:zV o0 w x e w'):Dc w x e w':=by
 obtain ⟨o,G,q,gs,mv,a,c,h1,h2,h3,h4,h5⟩:=h
 exact ⟨o,G,q,gs,mv,a,c,h1,h2.toCW,h3,h4,h5⟩
theorem Yu (o0:Ow) (hz:∀ b,o0 b=0\/o0 b=49) (hz0:o0 3=0/\o0 4=0/\o0 2=0) (hL:Laid w) (h:BU w x a1 a2 a3 a4 n1 n2 n3 n4) (m1:n1<=30) (m2:n2<=100) (m3:n3<=20) (m4:n4<=20):Calls ay 11 #[uI x.c a1 a2 a3 a4 n1 n2 n3 n4 p1 p2 p3 p4] w (zV o0 w x):=by
 obtain ⟨W0,hW0⟩:∃ W',W'=w.alloc (.cells #[ah x.c.b,ah x.c.w,ah x.c.m,ah x.c.r,ah x.c.c,ah x.c.l,ah x.c.s,.slice a1 n1 p1,.slice a2 n2 p2,.slice a3 n3 p3,.slice a4 n4 p4] 26):=⟨_,rfl⟩
 have k0:Keep none_ w W0:=by rw [hW0];exact (Keep.refl _ _).alloc _
 have hbx:aA W0 w.heap.size [ah x.c.b,ah x.c.w,ah x.c.m,ah x.c.r,ah x.c.c,ah x.c.l,ah x.c.s,.slice a1 n1 p1,.slice a2 n2 p2,.slice a3 n3 p3,.slice a4 n4 p4] 26:=by rw [hW0];exact aA.new w _ _
 have y0:=hbx.cell 0 rfl;have y1:=hbx.cell 1 rfl;have y2:=hbx.cell 2 rfl;have y3:=hbx.cell 3 rfl;have y4:=hbx.cell 4 rfl;have y5:=hbx.cell 5 rfl;have y6:=hbx.cell 6 rfl
 have JE:Hid (Calls ay 38 #[.agg #[ah x.c.b,ah x.c.w,ah x.c.m,ah x.c.r,ah x.c.c,ah x.c.l,ah x.c.s]] W0 fun e w'=>e = .returned (.agg x.c.little.cells.toArray)/\Keep none_ W0 w'):=QJ x.c W0
 obtain ⟨qc,hqc⟩:∃ qc,qc=x.c.little:=⟨_,rfl⟩
 rw [<- hqc] at JE
 have TG:qc.ok=true:=by rw [hqc];exact vU x.c
 have U2:=fQ TG
 obtain ⟨b,hb⟩:∃ b:Nat,qc.b=b:=⟨qc.b.toNat,by omega⟩
 obtain ⟨ww,hw⟩:∃ b:Nat,qc.w=b:=⟨qc.w.toNat,by omega⟩
 obtain ⟨nc,hc⟩:∃ b:Nat,qc.c=b:=⟨qc.c.toNat,by omega⟩
 obtain ⟨n,hn⟩:∃ b:Nat,qc.m=b:=⟨qc.m.toNat,by omega⟩
 obtain ⟨r,hr⟩:∃ b:Nat,qc.r=b:=⟨qc.r.toNat,by omega⟩
 have Ji:Hid (∀ W,Keep none_ w W->Calls ay 39 #[.agg qc.cells.toArray] W fun e w'=>∃ (o:Ow) (G:Geo),e = .returned (.tuple #[aj G.S,ah 0])/\ShAt o w' G (Sh.new qc b ww nc n)/\(∀ x,x<W.heap.size->o x=o0 x)/\Keep none_ W w'):=fun W hW=>by
  have hl:=hL.still hW
  refine (Vz o0 hz0 qc b ww nc n TG hb hw hc hn W hl.t hl.s hl.g).mono ?_
  rintro e w' ⟨o,G,rfl,g1,g2,_,g4⟩
  exact ⟨o,G,rfl,g1,g2,g4⟩
 have yO:Hid (∀ (W2 W:World) (o:Ow) G,Keep none_ w W2->ShAt o W G (Sh.new qc b ww nc n)->(∀ x,x<W2.heap.size->o x=o0 x)->Keep none_ W2 W->Calls ay 13 #[aj G.S] W fun e w'=>∃ (o':Ow) (q:CG),e = .returned (.tuple #[aj q.C,ah 0])/\nG o0 W2 w' o' G [] q ⟨Sh.new qc b ww nc n,[],CS.new qc n,[],0⟩/\Keep none_ W w'):=fun W2 W o G hk hsh hlow hk2=>by
  have hl8:(Sh.new qc b ww nc n).boxes.length=n:=by simp [Sh.new]
  refine (SL hsh (by rw [hl8];omega)).mono ?_
  rintro e w' ⟨o',q,rfl,e1,hc',_,k⟩
  rw [hl8] at hc'
  exact ⟨o',q,rfl,⟨⟨hc',rfl,fun i g m hg _=>by simp at hg,fun b hb=>by rw [e1 b (Nat.lt_of_lt_of_le hb hk2.size),hlow b hb];exact hz b,hk2.trans k⟩,fun b hb=>(e1 b (Nat.lt_of_lt_of_le hb hk2.size)).trans (hlow b hb)⟩,k⟩
 have Ad:Hid (∀ (W2 W:World) (o:Ow) G q,Keep none_ w W2->nG o0 W2 W o G [] q ⟨Sh.new qc b ww nc n,[],CS.new qc n,[],0⟩->Calls ay 40 #[aj (G.D 0),uI x.c a1 a2 a3 a4 n1 n2 n3 n4 p1 p2 p3 p4] W fun e w'=>∃ a c,e = .returned (.slice a (dI (HS.new qc b ww nc) x.sz).objs.length c)/\bC o w' 3 (.slice a (dI (HS.new qc b ww nc) x.sz).objs.length c) (aG (dI (HS.new qc b ww nc) x.sz).objs)/\nG o0 W2 w' o G [] q (gK qc x 0)):=fun W2 W o G q hk hcw=>by
  have hkw:Keep none_ w W:=hk.trans hcw.keep
  have hlow:∀ b,b<w.heap.size->o b=0\/o b=49:=fun b hb=>hcw.low b (Nat.lt_of_lt_of_le hb hk.size)
  have hnd:∀ W',Keep (HF G.D) W W'->Keep none_ w W':=fun W' k=>hkw.trans' k (fun i hi hin=>absurd hin (hcw.coll.sh.adD hlow hi))
  have hb0:qc.b.toNat=b:=by omega
  have hw0:qc.w.toNat=ww:=by omega
  have hc0:qc.c.toNat=nc:=by omega
  have hm0:qc.m.toNat=n:=by omega
  refine (Yl (p4:=p4) hcw.coll.sh.heap (fun W' k=>hL.b.still (hnd W' k)) x.c.b x.c.w x.c.m x.c.r x.c.c x.c.l x.c.s x.sz x.fl x.ce (fun W' k=>h.s.still (hnd W' k)) (fun W' k=>h.f.still (hnd W' k)) (fun W' k=>h.c.still (hnd W' k)) m1 m2 m3).mono ?_
  rintro e w' ⟨v,rfl,g1,g2,g3,g4⟩
  obtain ⟨a,c,rfl,_⟩:=dP (bD g1 (Nat.zero_le _))
  have h9:=hcw.of (hcw.setH g3 g2 (Qp _ _ _ _)).1 (aQ.refl _ _)
  refine ⟨a,c,rfl,bC.tV g1 (by omega) (fun b hb=>hcw.coll.sh.fC b hb),?_⟩
  unfold gK
  rw [hb0,hw0,hc0,hm0]
  exact h9
 have hce:qc.cells=[ah (b:Int),ah (ww:Int),ah (n:Int),ah (r:Int),ah (nc:Int),ah qc.l,ah qc.s]:=by unfold aK.cells;rw [hb,hw,hn,hr,hc]
 rw [hce] at JE Ji
 have NZ:Hid (∀ W e,(∃ (o:Ow) (G:Geo) (q:CG) (gs:List MG) (mv:Value) (a:Option Addr) (c:Nat),e = .returned (.tuple #[aj G.S,aj q.C,mv,.slice a (dI (HS.new qc b ww nc) x.sz).objs.length c])/\nG o0 w W o G gs q (ng 300 (gK qc x n))/\oq 300 (ng 300 (gK qc x n))/\iJ o W mv gs/\bC o W 3 (.slice a (dI (HS.new qc b ww nc) x.sz).objs.length c) (aG (dI (HS.new qc b ww nc) x.sz).objs))->zV o0 w x e W):=fun W e hh=>by
  unfold zV fA
  rw [<- hqc]
  have hb0:qc.b.toNat=b:=by omega
  have hw0:qc.w.toNat=ww:=by omega
  have hc0:qc.c.toNat=nc:=by omega
  have hm0:qc.m.toNat=n:=by omega
  rw [hb0,hw0,hc0,hm0]
  exact hh
 have hn8:n<=8/\1<=n:=by omega
 have hr64:1<=r/\r<=64:=by omega
 have HMN:Hid (qc.m.toNat=n):=by show _=_;omega
 have adJ:Hid (oq 0 (gK qc x n)):=Yt TG hn
 have HRR:Hid (qc.r=(r:Int)):=hr
 have dN:=au k0
 have abS:=au hbx
 have HW0:=au hW0
 have HST:=au h
 rw [hW0] at y0 y1 y2 y3 y4 y5 y6
 generalize zV o0 w x=PO at *
 generalize (dI (HS.new qc b ww nc) x.sz).objs=objs at *
 clear TG U2 hb hw hc hn hr hce hqc k0 hbx hW0 hL h
 go_enter func11,ntmps11
 go_wp2_with fail
 rw [<- HW0.out]
 refine JE.out.mono ?_
 rintro e w1 ⟨rfl,k1⟩
 obtain ⟨W2,hW2⟩:∃ W2,W2=w1.alloc (.cells #[ah (b:Int),ah (ww:Int),ah (n:Int),ah (r:Int),ah (nc:Int),ah qc.l,ah qc.s] 23):=⟨_,rfl⟩
 have k2:Keep none_ W0 W2:=by rw [hW2];exact k1.alloc _
 have hcb:aA W2 w1.heap.size [ah (b:Int),ah (ww:Int),ah (n:Int),ah (r:Int),ah (nc:Int),ah qc.l,ah qc.s] 23:=by rw [hW2];exact aA.new w1 _ _
 have z0:=hcb.cell 0 rfl;have z1:=hcb.cell 1 rfl;have z2:=hcb.cell 2 rfl;have z3:=hcb.cell 3 rfl;have z4:=hcb.cell 4 rfl;have z5:=hcb.cell 5 rfl;have z6:=hcb.cell 6 rfl
 have bJ:Hid (Keep none_ w W2):=dN.out.trans k2
 have abT:Hid (aA W2 w.heap.size [ah x.c.b,ah x.c.w,ah x.c.m,ah x.c.r,ah x.c.c,ah x.c.l,ah x.c.s,.slice a1 n1 p1,.slice a2 n2 p2,.slice a3 n3 p3,.slice a4 n4 p4] 26):=k2.blk abS.out (fun f=>f)
 have vC:=au hcb
 have HW2:=au hW2
 rw [hW2] at z0 z1 z2 z3 z4 z5 z6
 clear y0 y1 y2 y3 y4 y5 y6 k1 k2 hcb hW2 JE dN abS HW0
 go_wp2_with fail
 rw [<- HW2.out]
 clear z0 z1 z2 z3 z4 z5 z6
 refine (Ji.out W2 bJ.out).mono ?_
 rintro e w3 ⟨o3,G,rfl,hsh3,hlow3,k3⟩
 have wL:=au (yO.out W2 w3 o3 G bJ.out hsh3 hlow3 k3)
 clear hsh3 hlow3 k3 Ji yO
 go_wp2_with fail
 refine wL.out.mono ?_
 rintro e w4 ⟨o4,q,rfl,hcw4,k4⟩
 have hG4:=hcw4.coll.sh.uD.1
 have kw4:=hcw4.keep
 have hbx4:=kw4.blk abT.out (fun f=>f)
 have abU:nG o0 W2 w4.drew o4 G [] q ⟨Sh.new qc b ww nc n,[],CS.new qc n,[],0⟩:=hcw4.rX (Keep.refl none_ w4).drew
 have abV:=au (Ad.out W2 w4.drew o4 G q bJ.out abU)
 have y0:=hbx4.cell 0 rfl;have y1:=hbx4.cell 1 rfl;have y2:=hbx4.cell 2 rfl;have y3:=hbx4.cell 3 rfl;have y4:=hbx4.cell 4 rfl;have y5:=hbx4.cell 5 rfl;have y6:=hbx4.cell 6 rfl;have y7:=hbx4.cell 7 rfl;have y8:=hbx4.cell 8 rfl;have y9:=hbx4.cell 9 rfl;have y10:=hbx4.cell 10 rfl
 clear hcw4 k4 Ad wL kw4 hbx4 abU
 go_wp2_with fail
 refine aI 5 rfl (by kernel_rfl) (by kernel_rfl) (fun K hK=>?_)
 change wpStill _ _ (World.drew _) _ _ _
 simp only [List.take_succ_cons,List.take_zero,List.drop_succ_cons,List.drop_zero] at hK ⊢
 repeat still_step
 refine wpStill_nil ?_
 change ite _ (Oper.wp _ _ _ _ _ _) _
 go_simp
 refine abV.out.mono ?_
 rintro e w5 ⟨a,c,rfl,hrow5,hcw5⟩
 refine hK _ _ ?_
 clear hK K
 have abW:=au hcw5
 have Zh:=au hrow5
 clear hcw5 hrow5 abV hG4 y0 y1 y2 y3 y4 y5 y6 y7 y8 y9 y10
 repeat still_step
 refine wpStill_nil ?_
 go_wp2_with fail
 have HI0:Hid (∃ (o:Ow) (gs:List MG),nG o0 W2 w5 o G gs q (gK qc x 0)/\iJ o w5 (.slice none 0 0) gs/\gs.length=0/\bC o w5 3 (.slice a objs.length c) (aG objs)):=⟨o4,[],abW.out,⟨⟨rfl,.inl ⟨rfl,rfl⟩⟩,fun b hb=>by cases hb⟩,rfl,Zh.out⟩
 clear abW Zh
 go_loopw [12,13,14,15,16,17] (fun mv iv _ _ _ _ wr=>∃ (i:Nat) (o:Ow) (gs:List MG) (ma:Option Addr) (mc:Nat),i<=n/\iv = ah i/\mv = .slice ma i mc/\nG o0 W2 wr o G gs q (gK qc x i)/\iJ o wr (.slice ma i mc) gs/\gs.length=i/\bC o wr 3 (.slice a objs.length c) (aG objs)) (fun _ iv _ _ _ _ _=>n - (intOf iv).toNat)
 case atStart =>
  obtain ⟨o,gs,h1,h2,h3,h4⟩:=HI0.out
  exact ⟨0,o,gs,none,0,Nat.zero_le _,rfl,rfl,h1,h2,h3,h4⟩
 case round =>
  obtain ⟨i,o,gs,ma,mc,hi,rfl,rfl,hcw,hmv,hgl,hrow⟩:=hrel
  have Yv:=hcw.keep.blk abT.out (fun f=>f)
  have TI:=hcw.keep.blk vC.out (fun f=>f)
  have z2:=TI.cell 2 (v := ah (n:Int)) rfl
  by_cases hlt:i<n
  ·have oV:(i:Int)<(n:Int):=by omega
   have hi8:(i:Int)<=8:=by omega
   have Qj:=au hcw
   have HMV:=au hmv
   have HRO:=au hrow
   have abX:=au Yv
   have abY:=au TI
   have qw:Hid (wr.ownsRow wr.heap.size 83 4 (.slice none 0 0) 0 (iE (lX r x.rg 0)).flatten/\Keep none_ wr wr):=⟨⟨rfl,.inl ⟨rfl,rfl⟩⟩,Keep.refl _ _⟩
   clear hcw hmv hrow Yv TI
   go_wp2_with fail
   clear z2
   generalize wr=Wo at *
   go_loopw [14,15] (fun pv kv wr=>∃ (j:Nat) (pa:Option Addr) (pc:Nat),(i≠0->j=0)/\j<=n4/\kv = ah j/\pv = .slice pa j pc/\wr.ownsRow Wo.heap.size 83 4 (.slice pa j pc) j (iE (lX r x.rg j)).flatten/\Keep none_ Wo wr) (fun _ kv _=>n4 - (intOf kv).toNat)
   case atStart=>exact ⟨0,none,0,fun _=>rfl,Nat.zero_le _,rfl,rfl,qw.out⟩
   case round =>
    obtain ⟨j,pa,pc,hj0,hj,rfl,rfl,hown,hk⟩:=hrel
    have y10:=(hk.blk abX.out (fun f=>f)).cell 10 (v := .slice a4 n4 p4) rfl
    by_cases hcond:j<n4/\i=0
    ·obtain ⟨hjn,rfl⟩:=hcond
     have IJ:(j:Int)<(n4:Int):=by omega
     have aeo:(0:Int)<=(j:Int):=by omega
     have hst:=HST.out.still ((bJ.out.trans Qj.out.keep).trans hk)
     obtain ⟨b2,off2,rfl,hz,hz2⟩:=hst.r.cell hjn
     have y3:=(hk.blk abY.out (fun f=>f)).cell 3 (v := ah (r:Int)) rfl
     obtain ⟨jr,hj1,hj2⟩:∃ jr:Nat,(j:Int).tmod (r:Int)=(jr:Int)/\(j:Int)%(r:Int)=(jr:Int):=⟨j%r,by rw [Int.tmod_eq_emod_of_nonneg (by omega)];simp,by simp⟩
     have hprog:iE (lX r x.rg (j+1))=iE (lX r x.rg j)++[[ah 4,ah (jr:Int),ah ((x.rg.getD j 0%4:Nat):Int),ah 0]]:=by
      rw [Tj,hj2]
      unfold iE
      rw [List.map_append]
      rfl
     obtain ⟨zr,hr1,hr2,hr3,hr4⟩:=Nw (z:=x.rg.getD j 0)
     rw [<- hr3] at hprog
     have HPG:=au hprog
     generalize x.rg.getD j 0=z at *
     obtain ⟨V1,hV1⟩:∃ V1,V1=(wr.alloc (.cells #[ah 4,ah (jr:Int),ah (zr:Int),ah 0] 83)).drew:=⟨_,rfl⟩
     have kv:Keep none_ wr V1:=by rw [hV1];exact ((Keep.refl _ _).alloc _).drew
     have hNew:aA V1 wr.heap.size [ah 4,ah (jr:Int),ah (zr:Int),ah 0] 83:=by rw [hV1];exact (aA.new wr _ _).drew
     have ho1:=bV hown kv
     obtain ⟨g,cap,w7,hrun,hown7,hgr,hge⟩:=FI (P:=ay) V1 81 81 83 (by kernel_rfl) Tryz.infoOp rfl (by decide) (bD ho1 (Nat.zero_le _)) (N:=wr.heap.size) (us:=[ah 4,ah (jr:Int),ah (zr:Int),ah 0]) (fun j x hj=>hNew.cell j hj) rfl (by simp [Value.oneCell']) (by decide) (by omega)
     have hrun9:(app9 #[81,81] 81 #[.slice pa j pc,.slice (some ⟨wr.heap.size,0,none⟩) 1 1]).run ay (wr.alloc (.cells #[ah 4,ah (jr:Int),ah (zr:Int),ah 0] 83)).drew = .ok (.slice (some ⟨g,0,none⟩) (j+1) cap) w7:=by rw [<- hV1];exact hrun
     have HI7:Hid (w7.ownsRow Wo.heap.size 83 4 (.slice (some ⟨g,0,none⟩) (j+1) cap) (j+1) (iE (lX r x.rg (j+1))).flatten/\Keep none_ Wo w7):=by
      rw [HPG.out,List.flatten_append]
      have hge2:Wo.heap.size<=g:=by
       rcases hge with h9|h9
       ·exact (World.ownsRow.lt ho1 g h9).1
       ·have:=(hk.trans kv).size;omega
      exact ⟨aat (by simpa using hown7) hge2,(hk.trans kv).grew ho1 (Nat.le_refl _) hgr⟩
     have ca:=fun u=>(aA.alloc (hk.blk abX.out (fun f=>f)) u).cell 10 (v := .slice (some ⟨b2,off2,none⟩) n4 p4) rfl
     have cb:=fun u=>(aA.alloc (hk.blk abY.out (fun f=>f)) u).cell 3 (v := ah (r:Int)) rfl
     have cz:∀ u,(wr.alloc u).cell? ⟨b2,off2+j,none⟩=some (.int .u8 (z:Int)):=fun u=>((Keep.refl none_ wr).alloc u).still hz
     have hr0:¬ (r:Int)=0:=by omega
     clear hown hk hst hprog HPG hV1 kv hNew ho1 hrun hown7 hgr hge hr3
     go_wp2_with fail
     go_region
     go_wp2_with fail
     go_roundw
     case rel=>exact ⟨j+1,_,_,fun h=>absurd rfl h,by omega,by go_num,rfl,HI7.out⟩
     case measure=>simp [intOf]<;>omega
    ·have hjx:lX r x.rg j=nR r x.rg i:=by
      unfold nR
      by_cases hi0:i=0
      ·rw [if_pos hi0,show j=x.rg.length by have h9:=HST.out.r.len;have:¬ j<n4:=fun h=>hcond ⟨h,hi0⟩;omega]
      ·rw [if_neg hi0,hj0 hi0];rfl
     obtain ⟨_,_,e7,hra,hca⟩:=pz.tV hown yF (by unfold iE;rw [List.length_map,BD])
     cases e7
     have hnil:pa=none->pc=0:=fun e=>by
      rcases hown.2 with ⟨e1,_⟩|⟨g',cap',cur,e1,_⟩
      ·cases e1;rfl
      ·cases e1;cases e
     rw [hjx] at hra
     have hcw2:=Qj.out.rX hk
     have hmv2:iJ o wr (.slice ma i mc) gs:=HMV.out.keep (I:=[]) hk.aS rfl (aQ.refl _ _)
     have hro2:bC o wr 3 (.slice a objs.length c) (aG objs):=HRO.out.still hk
     have hlen9:(nR r x.rg i).length=j:=by rw [<- hjx,BD]
     have hml:(gK qc x i).muts.length=i:=by simp [gK]
     have hbl:(gK qc x i).s.boxes.length=n:=by
      show (List.replicate qc.m.toNat []).length=n
      rw [List.length_replicate]
      exact HMN.out
     have TJ:Hid (Calls ay 41 #[aj G.S,ah (i:Int),.slice pa j pc] wr fun e w'=>∃ (o':Ow) (g:MG),e = .returned (.tuple #[aj g.M,ah 0])/\nG o0 W2 w' o' G (gs++[g]) q (gK qc x (i+1))/\iJ o' w' (.slice ma i mc) gs/\bC o' w' 3 (.slice a objs.length c) (aG objs)):=by
      refine (VG hcw2.coll.sh hcw2.coll.box8 i (by rw [hbl];exact hlt) (nR r x.rg i) j hlen9.symm (by omega) pa pc hra hnil).mono ?_
      rintro e w' ⟨o',g,rfl,e1,g1,_,g3⟩
      have hcc:(gK qc x i).s.H.c=qc:=Qp _ _ _ _
      rw [hcc] at g1
      refine ⟨o',g,rfl,?_,hmv2.keep (I:=[]) g3.aS rfl e1,(hro2.ext e1).still g3⟩
      rw [Tm]
      rw [HRR.out]
      exact hcw2.of (hcw2.abL g3 e1 g1 (by rw [hml];rfl)) e1
     have hc2:¬ j<n4\/(j<n4/\i≠0):=by
      by_cases h9:j<n4
      ·exact .inr ⟨h9,fun h8=>hcond ⟨h9,h8⟩⟩
      ·exact .inl h9
     have Zi:Hid (∀ (w6:World) (o6:Ow) (g:MG),nG o0 W2 w6 o6 G (gs++[g]) q (gK qc x (i+1))->iJ o6 w6 (.slice ma i mc) gs->bC o6 w6 3 (.slice a objs.length c) (aG objs)->∃ b cap W8,(app9 #[31,31] 31 #[.slice ma i mc,.slice (some ⟨w6.heap.size,0,none⟩) 1 1]).run ay (w6.alloc (.cells #[aj g.M] 56)) = .ok (.slice (some ⟨b,0,none⟩) (i+1) cap) W8 /\
      ∃ o8,nG o0 W2 W8 o8 G (gs++[g]) q (gK qc x (i+1))/\iJ o8 W8 (.slice (some ⟨b,0,none⟩) (i+1) cap) (gs++[g])/\bC o8 W8 3 (.slice a objs.length c) (aG objs)):=fun w6 o6 g hcw6 hmv6 hro6=>by
      have k7:Keep none_ w6 (w6.alloc (.cells #[aj g.M] 56)):=(Keep.refl _ _).alloc _
      obtain ⟨b,cap,W8,hrun,o8,e8,hcw8,hmv8,k8⟩:=(hmv6.keep (I:=[]) k7.aS rfl (aQ.refl _ _)).acT (hcw6.rX k7) (N:=w6.heap.size) ((aA.new w6 [aB g.M] 56).cell 0 rfl) (by omega)
      rw [hgl] at hrun hmv8
      exact ⟨b,cap,W8,hrun,o8,hcw8,hmv8,((hro6.still k7).ext e8).aH (k8.rO e8) rfl⟩
     clear hown hk hcw2 hmv2 hro2 hra hca hjx hcond
     rcases hc2 with hnl|⟨hl9,hi0⟩
     ·have aep:¬ (j:Int)<(n4:Int):=by omega
      go_wp2_with fail
      refine TJ.out.mono ?_
      rintro e w6 ⟨o6,g,rfl,hcw6,hmv6,hro6⟩
      obtain ⟨b8,cap8,W8,hrun8,o8,hcw8,hmv8,hro8⟩:=Zi.out w6 o6 g hcw6 hmv6 hro6
      have lU:=au (And.intro hcw8 (And.intro hmv8 hro8))
      clear hcw6 hmv6 hro6 hcw8 hmv8 hro8 TJ Zi
      go_wp2_with fail
      exact ⟨⟨i+1,o8,gs++[g],_,_,by omega,by go_num,rfl,lU.out.1,lU.out.2.1,by simp [hgl],lU.out.2.2⟩,by simp [intOf];omega⟩
     ·obtain rfl:j=0:=hj0 hi0
      clear hj0
      have hlI:(0:Int)<(n4:Int):=by omega
      have aer:((i:Int)==0)=false:=by simp;omega
      have aes:decide (i=0)=false:=decide_eq_false hi0
      go_wp2_with fail
      refine TJ.out.mono ?_
      rintro e w6 ⟨o6,g,rfl,hcw6,hmv6,hro6⟩
      obtain ⟨b8,cap8,W8,hrun8,o8,hcw8,hmv8,hro8⟩:=Zi.out w6 o6 g hcw6 hmv6 hro6
      have lU:=au (And.intro hcw8 (And.intro hmv8 hro8))
      clear hcw6 hmv6 hro6 hcw8 hmv8 hro8 TJ Zi
      go_wp2_with fail
      exact ⟨⟨i+1,o8,gs++[g],_,_,by omega,by go_num,rfl,lU.out.1,lU.out.2.1,by simp [hgl],lU.out.2.2⟩,by simp [intOf];omega⟩
  ·obtain rfl:i=n:=by omega
   have oV:¬ (i:Int)<(i:Int):=by omega
   have hbd:=hcw.coll.sh.heap.hbd
   have HI9:Hid (∃ (t:Nat) (y:WS) (o:Ow),t=0/\nG o0 W2 wr o G gs q y/\oq t y/\sF y/\iJ o wr (.slice ma i mc) gs/\bC o wr 3 (.slice a objs.length c) (aG objs)/\ng (300 - t) y=ng 300 (gK qc x i)):=⟨0,_,o,rfl,hcw,adJ.out,JC qc x i,hmv,hrow,rfl⟩
   clear hcw hmv hrow Yv TI hbd
   go_wp2_with fail
   clear z2
   obtain ⟨g0,hg0⟩:∃ g0,gs[0]?=some g0:=⟨gs[0]'(by omega),List.getElem?_eq_getElem _⟩
   have Aj:=au hg0
   have uY:=au hgl
   clear hg0 hgl
   go_loopw [18] (fun iv wr=>∃ (t:Nat) (y:WS) (o:Ow),t<=300/\iv = ah t/\nG o0 W2 wr o G gs q y/\oq t y/\sF y/\iJ o wr (.slice ma i mc) gs/\bC o wr 3 (.slice a objs.length c) (aG objs)/\ng (300 - t) y=ng 300 (gK qc x i)) (fun iv _=>300 - (intOf iv).toNat)
   case atStart =>
    obtain ⟨t,y,o,h0,h1,h2,h3,h4,h5,h6⟩:=HI9.out
    subst h0
    exact ⟨0,y,o,Nat.zero_le _,rfl,h1,h2,h3,h4,h5,h6⟩
   case round =>
    obtain ⟨t,y,o',ht,rfl,hcw,hok,hfew,hmv,hrow,hrun⟩:=hrel
    obtain ⟨a',c',e1,hform⟩:=hmv.form
    rw [uY.out] at e1
    cases e1
    obtain ⟨bA,e2,hcA⟩:=hform 0 g0 Aj.out
    have hyl:y.muts.length=i:=by rw [<- hcw.len];exact uY.out
    obtain ⟨m0,hm0⟩:∃ m0,y.muts[0]?=some m0:=⟨y.muts[0]'(by omega),List.getElem?_eq_getElem _⟩
    have yR:Hid (Calls ay 42 #[aj g0.M] wr fun e w'=>e = .returned (.bool (iI m0))/\Keep none_ wr w'):=VF (hcw.dK 0 g0 m0 Aj.out hm0).1
    have V8:Hid (∀ W,Keep none_ wr W->t=300\/iI m0=true->PO (.returned (.tuple #[aj G.S,aj q.C,.slice ma i mc,.slice a objs.length c])) W):=fun W k hh=>by
     refine NZ.out W _ ⟨o',G,q,gs,.slice ma i mc,a,c,rfl,?_,?_,hmv.keep (I:=[]) k.aS rfl (aQ.refl _ _),hrow.still k⟩
     ·rw [<- hrun]
      have e9:ng (300 - t) y=y:=by
       rcases hh with e|e
       ·rw [e];rfl
       ·exact BZ hm0 e _
      rw [e9]
      exact (hcw.rX k).base bJ.out
     ·rw [<- hrun]
      have e9:ng (300 - t) y=y:=by
       rcases hh with e|e
       ·rw [e];rfl
       ·exact BZ hm0 e _
      rw [e9]
      exact hok.more ht
    have DV:Hid (∀ W,Keep none_ wr W->t<300->iI m0=false->Calls ay 24 #[aj g0.M] W fun e w'=>(∃ v1 v2,e = .returned (.tuple #[v1,v2]))/\∃ o2,nG o0 W2 w' o2 G gs q (bP y 0)/\oq (t+1) (bP y 0)/\sF (bP y 0)/\iJ o2 w' (.slice ma i mc) gs/\bC o2 w' 3 (.slice a objs.length c) (aG objs)/\ng (300 - (t+1)) (bP y 0)=ng 300 (gK qc x i)):=fun W k h3 hd=>by
     have hcw2:=hcw.rX k
     refine (hcw2.pick hok (by omega) Aj.out hm0 (Jz _ (hfew m0 (List.mem_of_getElem? hm0)).1)).mono ?_
     rintro e w' ⟨rfl,o2,eo,hc2,kk⟩
     refine ⟨⟨_,_,rfl⟩,o2,hc2,wX hok hcw2.coll.sh.heap.hbd 0,rD hfew 0,(hmv.keep (I:=[]) k.aS rfl (aQ.refl _ _)).keep kk rfl eo,((hrow.still k).ext eo).aH (kk.rO eo) (kT 0),?_⟩
     rw [<- hrun,show 300 - t=(300 - (t+1))+1 by omega,JD hm0 hd]
    have Qn:(t:Int)<=300:=by omega
    cases e2
    clear hcw hok hmv hrow hrun hform hyl hm0 hfew
    by_cases h3:t<300
    ·have h3I:(t:Int)<300:=by omega
     cases hd:iI m0 with
     | true =>
       rw [hd] at yR
       go_wp2_with fail
       refine yR.out.mono ?_
       rintro e w5 ⟨rfl,k5⟩
       have HE:=au (V8.out w5 k5 (.inr hd))
       clear V8 DV yR
       go_wp2_with fail
       refine bodyPost_ret (BX rfl _ _ _) rfl ?_
       exact HE.out
     | false =>
       rw [hd] at yR
       have hcB:∀ W,Keep none_ wr W->W.cell? ⟨bA,0,none⟩=some (aj g0.M):=fun W k=>k.still hcA
       have vC:=au hcB
       clear hcB
       go_wp2_with fail
       refine yR.out.mono ?_
       rintro e w5 ⟨rfl,k5⟩
       have HP:=au (DV.out w5 k5 h3 hd)
       have adK:=vC.out w5 k5
       clear V8 DV yR vC hcA
       go_wp2_with fail
       refine HP.out.mono ?_
       rintro e w6 ⟨⟨v1,v2,rfl⟩,o2,q1,q2,q3,q4,q5,q6⟩
       have Zd:=au (And.intro q1 (And.intro q2 (And.intro q3 (And.intro q4 (And.intro q5 q6)))))
       clear q1 q2 q3 q4 q5 q6 HP adK
       go_wp2_with fail
       exact ⟨⟨t+1,bP y 0,o2,by omega,by go_num,Zd.out⟩,by simp [intOf];omega⟩
    ·have h3I:¬ (t:Int)<300:=by omega
     have HE:=au (V8.out wr (Keep.refl _ _) (.inl (by omega)))
     clear V8 DV yR
     go_wp2_with fail
     refine bodyPost_ret (BX rfl _ _ _) rfl ?_
     exact HE.out
theorem N7 (hL:Laid w) (h:BU w x a1 a2 a3 a4 n1 n2 n3 n4) (m1:n1<=30) (m2:n2<=100) (m3:n3<=20) (m4:n4<=20):Calls ay 11 #[uI x.c a1 a2 a3 a4 n1 n2 n3 n4 p1 p2 p3 p4] w (Dc w x) :=
 (Yu (fun _=>0) (fun _ => .inl rfl) ⟨rfl,rfl,rfl⟩ hL h m1 m2 m3 m4).mono (fun _ _=>zV.r)
end
end
section
structure iM (H H':HS):Prop where
 b:H'.b=H.b
 ww:H'.ww=H.ww
 c:H'.c=H.c
 cells:H'.cells=H.cells
 co:(∀ a,H.co a=false)->∀ a,H'.co a=false
theorem iM.refl (H:HS):iM H H:=⟨rfl,rfl,rfl,rfl,fun h=>h⟩
theorem iM.trans {H H' V9:HS} (h:iM H H') (k:iM H' V9):iM H V9:=⟨k.b.trans h.b,k.ww.trans h.ww,k.c.trans h.c,k.cells.trans h.cells,fun g=>k.co (h.co g)⟩
section
variable {H:HS}
theorem iM.put (a:Nat):iM H (H.fK a):=by
 unfold HS.fK
 split
 ·exact iM.refl H
 ·split
  ·exact iM.refl H
  ·exact ⟨rfl,rfl,rfl,rfl,fun h=>h⟩
theorem iM.ig:∀ (l:List Nat) (H:HS),iM H (H.ig l)
 | [],H=>iM.refl H
 | a::l,H=>(iM.put a).trans (iM.ig l (H.fK a))
theorem iM.store (a:Nat) (f:Int) (v:Nat):iM H (H.gu a f v):=by
 unfold HS.gu
 split
 ·exact ⟨rfl,rfl,rfl,rfl,fun h=>h⟩
 ·exact iM.refl H
theorem iM.kJ (a:Nat):∀ i,iM H (H.kJ a i)
 | 0=>iM.refl H
 | i+1=>(iM.kJ a i).trans (iM.store _ _ _)
theorem iM.slot (k:Nat):iM H (H.dQ k).2.2:=by
 unfold HS.dQ
 split
 ·unfold HS.eX
  split
  ·exact iM.refl H
  ·exact ⟨rfl,rfl,rfl,rfl,fun h=>h⟩
 ·split
  ·refine iM.trans ?_ (iM.ig _ _)
   unfold HS.dF
   split
   ·exact iM.refl H
   ·exact ⟨rfl,rfl,rfl,rfl,fun h=>h⟩
  ·exact iM.refl H
theorem iM.begin (a:Nat) (f:Int):iM H (H.iy a f):=by
 unfold HS.iy
 split
 ·exact iM.refl H
 ·split
  ·exact ⟨rfl,rfl,rfl,rfl,fun h=>h⟩
  ·exact iM.refl H
theorem iM.bear (a:Nat):iM H (H.jO a 0):=by
 unfold HS.jO
 split
 ·refine ⟨rfl,rfl,rfl,rfl,fun h x=>?_⟩
  show upd H.co a (0==1) x=false
  unfold upd
  split
  ·rfl
  ·exact h x
 ·exact iM.refl H
theorem iM.make (f:Nat):iM H (H.nH f 0).2:=by
 unfold HS.nH
 split
 ·exact ((iM.slot _).trans (iM.begin _ _)).trans ((iM.kJ _ _).trans (iM.bear _))
 ·exact iM.slot _
end
theorem QC:∀ (sz:List Nat) (H:HS),iM H (dI H sz)
 | [],H=>iM.refl H
 | z::l,H=>(iM.make (z%4)).trans (QC l (H.nH (z%4) 0).2)
structure qy (H H':HS):Prop where
 b:H'.b=H.b
 ww:H'.ww=H.ww
 c:H'.c=H.c
 cl:H'.cells.length=H.cells.length
 co:H'.co=H.co
 bn:H'.bn=H.bn
 K:H'.K=H.K
theorem qy.refl (H:HS):qy H H:=⟨rfl,rfl,rfl,rfl,rfl,rfl,rfl⟩
theorem qy.trans {H H' V9:HS} (h:qy H H') (k:qy H' V9):qy H V9:=⟨k.b.trans h.b,k.ww.trans h.ww,k.c.trans h.c,k.cl.trans h.cl,k.co.trans h.co,k.bn.trans h.bn,k.K.trans h.K⟩
section
variable {H:HS}
theorem qy.store (a:Nat) (f:Int) (v:Nat):qy H (H.gu a f v):=by
 unfold HS.gu
 split
 ·exact ⟨rfl,rfl,rfl,rfl,rfl,rfl,rfl⟩
 ·exact qy.refl H
theorem qy.set (i:Int) (v:Nat):qy H (H.oG i v):=by
 unfold HS.oG
 split
 ·exact ⟨rfl,rfl,rfl,by show (H.cells.set _ _).length=_;rw [List.length_set],rfl,rfl,rfl⟩
 ·exact qy.refl H
end
theorem Ib (all fl:List Nat) (a:Nat) (p:HS × Nat):∀ f,qy p.1 (dG all fl a p f).1
 | 0=>qy.refl _
 | f+1=>by
   show qy p.1 (if (dG all fl a p f).2<fl.length then _ else dG all fl a p f).1
   split
   ·exact (Ib all fl a p f).trans (qy.store _ _ _)
   ·exact Ib all fl a p f
theorem QD (all fl:List Nat) (p:HS × Nat):∀ i,qy p.1 (jH all fl p i).1
 | 0=>qy.refl _
 | i+1=>(QD all fl p i).trans (Ib _ _ _ _ _)
theorem N8 (all ce:List Nat) (H:HS):∀ i,qy H (qH all ce H i)
 | 0=>qy.refl _
 | i+1=>(N8 all ce H i).trans (qy.set _ _)
theorem aau (H:HS) (sz fl ce:List Nat):qy (dI H sz) (qO H sz fl ce) :=
 (QD (dI H sz).objs fl (dI H sz,0) (dI H sz).objs.length).trans (N8 _ _ _ _)
structure wZ (c:aK) (H:HS) (n:Nat) (P:List fE) (x:WS):Prop where
 s:x.s={ Sh.new c c.b.toNat c.w.toNat c.c.toNat n with H:=H }
 coll:x.coll=CS.new c n
 len:x.muts.length=n
 Gq:∀ i m,x.muts[i]?=some m->1<=i->m=MS.new c i []
 one:∀ m,x.muts[0]?=some m->m.id=0/\m.c=c/\m.prog=P/\m.res.length<=P.length/\m.color=0/\m.buf=[]/\m.mode=0/\m.ans=false/\m.regs.length=c.r.toNat/\(m.next = .nil\/(∃ o,(m.next = .start o\/m.next = .get o)/\o.k=4/\m.res.length<P.length))
def je (m:MS):Nat:=3*(m.prog.length - m.res.length) - (match m.next with
 | .start _=>1
 | .get _=>2
 | _=>0)
section
variable {c:aK} {H:HS} {n:Nat} {P:List fE} {x:WS} {m:MS}
theorem N9 (c:aK) (b w cc n:Nat) (H:HS) (i:Nat):({ Sh.new c b w cc n with H:=H }:Sh).B.pend (i:Int)=false:=by
 show (Bd.new (n:Int)).pend (i:Int)=false
 unfold Bd.pend Bd.isOpen Bd.new
 have:(List.replicate 8 false).getD (i:Int).toNat false=false:=by
  rw [List.getD_eq_getElem?_getD]
  rcases Nat.lt_or_ge (i:Int).toNat 8 with g|g
  ·rw [List.getElem?_eq_getElem (by simpa using g),List.getElem_replicate];rfl
  ·rw [List.getElem?_eq_none (by simpa using g)];rfl
 rw [this,Bool.and_false]
theorem wZ.pick (h:wZ c H n P x) (hP:∀ o∈P,o.k=4) (hm:x.muts[0]?=some m) (hd:iI m=false):wZ c H n P (bP x 0)/\∃ m',(bP x 0).muts[0]?=some m'/\je m'+1<=je m:=by
 obtain ⟨o1,o2,o3,o4,o5,o6,o7,o9,o10,o8⟩:=h.one m hm
 obtain ⟨e1,e2,e3⟩:=rC x hm
 have hlt:=(List.getElem?_eq_some_iff.1 hm).1
 have key:∀ s' m',bG x.s m=(s',m')->s'=x.s->∀ ev,m'=(m'.1,ev)->(m'.1.id=0/\m'.1.c=c/\m'.1.prog=P/\m'.1.res.length<=P.length/\m'.1.color=0/\m'.1.buf=[]/\m'.1.mode=0/\m'.1.ans=false/\m'.1.regs.length=c.r.toNat/\(m'.1.next = .nil\/(∃ o,(m'.1.next = .start o\/m'.1.next = .get o)/\o.k=4/\m'.1.res.length<P.length)))->je m'.1+1<=je m ->
  wZ c H n P (bP x 0)/\∃ m',(bP x 0).muts[0]?=some m'/\je m'+1<=je m:=fun s' m' hp hs ev _ ho ht=>by
  rw [hp] at e1 e2
  have hm2:(bP x 0).muts[0]?=some m'.1:=by rw [e2];exact List.getElem?_set_self hlt
  refine ⟨⟨e1.trans (hs.trans h.s),e3.trans h.coll,by rw [e2,List.length_set];exact h.len,fun i mi hi h1=>?_,fun mi hi=>?_⟩,m'.1,hm2,ht⟩
  ·rw [e2,List.getElem?_set_ne (by omega)] at hi
   exact h.Gq i mi hi h1
  ·rw [hm2] at hi
   cases hi
   exact ho
 have Zf:x.s.B.pend (m.id:Int)=false:=by rw [h.s,o1];exact N9 c _ _ _ n H 0
 rcases o8 with e|⟨o,e,hk,hl⟩
 ·have hl:m.res.length<P.length:=by
   unfold iI at hd
   rw [e] at hd
   have:decide (m.res.length=m.prog.length)=false:=by simpa [isNil] using hd
   have:=of_decide_eq_false this
   rw [o3] at this
   omega
  have hb:dA x.s m = .start (P[m.res.length]'hl):=by
   unfold dA
   rw [Zf,if_neg (by decide),o3,List.getElem?_eq_getElem hl]
  have hp:bG x.s m=(x.s,{ m with spent:=1,ans:=x.s.B.pend (m.id:Int),next:=dA x.s m },none):=by
   unfold bG
   rw [if_pos (by rw [e];rfl)]
  rw [hb] at hp
  refine key _ _ hp rfl none rfl ⟨o1,o2,o3,o4,o5,o6,o7,Zf,o10,.inr ⟨_,.inl rfl,hP _ (List.getElem_mem hl),hl⟩⟩ ?_
  show 3*(m.prog.length - m.res.length) - 1+1<=je m
  unfold je
  rw [e,o3]
  show _<=3*(P.length - m.res.length) - 0
  omega
 ·have hM:∀ M:MS,M.most.id=M.id/\M.most.c=M.c/\M.most.prog=M.prog/\M.most.res=M.res/\M.most.color=M.color/\M.most.buf=M.buf/\M.most.mode=M.mode/\M.most.ans=M.ans/\M.most.regs=M.regs/\M.most.next=M.next:=fun M=>by
   unfold MS.most
   split<;>exact ⟨rfl,rfl,rfl,rfl,rfl,rfl,rfl,rfl,rfl,rfl⟩
  have hgen:∀ (r:qo),stepM x.s { m with spent:=m.spent+1 } m.next=r->isNil m.next=false->r.s=x.s ->
   (r.next = .nil->r.m.id=0/\r.m.c=c/\r.m.prog=P/\r.m.res.length=m.res.length+1/\r.m.color=0/\r.m.buf=[]/\r.m.mode=0/\r.m.ans=false/\r.m.regs.length=c.r.toNat)->(r.next ≠ .nil->r.m={ m with spent:=m.spent+1 }/\m.next = .start o/\r.next = .get o) ->
   wZ c H n P (bP x 0)/\∃ m',(bP x 0).muts[0]?=some m'/\je m'+1<=je m:=fun r hr hnn hs h1 h2=>by
   have hp:bG x.s m=(r.s,(if isNil r.next then { r.m with next := .nil }.most else { r.m with next:=r.next }),r.ev):=by
    unfold bG
    rw [if_neg (by rw [hnn];decide),<- hr]
   by_cases hrn:isNil r.next=true
   ·have Yw:r.next = .nil:=by
     cases hd:r.next<;>rw [hd] at hrn<;>first|rfl|cases hrn
    rw [if_pos hrn] at hp
    obtain ⟨g1,g2,g3,g4,g5,g6,g7,g9,g10⟩:=h1 Yw
    obtain ⟨q1,q2,q3,q4,q5,q6,q7,q9,q10,q8⟩:=hM { r.m with next := .nil }
    generalize MS.most { r.m with next := .nil }=M at *
    refine key _ _ hp hs r.ev rfl ⟨q1.trans g1,q2.trans g2,q3.trans g3,by show M.res.length<=_;rw [q4];show r.m.res.length<=_;omega,q5.trans g5,q6.trans g6,q7.trans g7,q9.trans g9,by show M.regs.length=_;rw [q10];exact g10,.inl q8⟩ ?_
    show je M+1<=je m
    have e1:M.prog=P:=q3.trans g3
    have e2:M.res.length=m.res.length+1:=by rw [q4];exact g4
    have e3:M.next = .nil:=q8
    unfold je
    rw [e1,e2,e3,o3]
    show 3*(P.length - (m.res.length+1)) - 0+1<=_
    rcases e with e|e<;>rw [e]
    ·show _<=3*(P.length - m.res.length) - 1;omega
    ·show _<=3*(P.length - m.res.length) - 2;omega
   ·rw [if_neg hrn] at hp
    have Yw:r.next ≠ .nil:=by intro e;rw [e] at hrn;exact hrn rfl
    obtain ⟨g1,g2,g3⟩:=h2 Yw
    rw [g1,g3] at hp
    refine key _ _ hp hs r.ev rfl ⟨o1,o2,o3,o4,o5,o6,o7,o9,o10,.inr ⟨o,.inr rfl,hk,hl⟩⟩ ?_
    show 3*(m.prog.length - m.res.length) - 2+1<=je m
    unfold je
    rw [g2,o3]
    show _<=3*(P.length - m.res.length) - 1
    omega
  rcases e with e|e
  ·have hst:∀ d,d=MD.start o->stepM x.s { m with spent:=m.spent+1 } d=iC x.s { m with spent:=m.spent+1 } o:=fun d e=>by rw [e];rfl
   have hR:(iC x.s { m with spent:=m.spent+1 } o).s=x.s/\((iC x.s { m with spent:=m.spent+1 } o).next = .nil/\(iC x.s { m with spent:=m.spent+1 } o).m=({ m with spent:=m.spent+1 }:MS).did (chk m.c o) 0\/(iC x.s { m with spent:=m.spent+1 } o).next = .get o/\(iC x.s { m with spent:=m.spent+1 } o).m={ m with spent:=m.spent+1 }):=by
    unfold iC
    rw [hk]
    split
    ·exact ⟨rfl,.inl ⟨rfl,rfl⟩⟩
    ·rw [if_neg (by decide),if_neg (by decide),if_neg (by decide),if_pos (by decide)]
     exact ⟨rfl,.inr ⟨rfl,rfl⟩⟩
   refine hgen _ (hst _ e) (by rw [e];rfl) hR.1 (fun hnil=>?_) (fun hne=>?_)
   ·rcases hR.2 with ⟨_,g⟩|⟨g,_⟩
    ·rw [g]
     exact ⟨o1,o2,o3,by show (m.res++[_]).length=_;simp,o5,o6,o7,o9,o10⟩
    ·rw [g] at hnil;cases hnil
   ·rcases hR.2 with ⟨g,_⟩|⟨g1,g2⟩
    ·exact absurd g hne
    ·exact ⟨g2,e,g1⟩
  ·have hst:∀ d,d=MD.get o->stepM x.s { m with spent:=m.spent+1 } d=qB x.s { m with spent:=m.spent+1 } o.a (x.s.H.cellP o.b):=fun d e=>by rw [e];rfl
   refine hgen _ (hst _ e) (by rw [e];rfl) rfl (fun hnil=>?_) (fun hne=>absurd rfl hne)
   exact ⟨o1,o2,o3,by show (m.res++[_]).length=_;simp,o5,o6,o7,o9,by show (m.regs.set _ _).length=_;rw [List.length_set];exact o10⟩
end
theorem wZ.run {c:aK} {H:HS} {n:Nat} {P:List fE} (hP:∀ o∈P,o.k=4) (hn:1<=n):∀ (f:Nat) (x:WS),wZ c H n P x->(∀ m,x.muts[0]?=some m->je m<=f)->wZ c H n P (ng f x)/\∀ m,(ng f x).muts[0]?=some m->iI m=true
 | 0,x,h,ht=>by
   refine ⟨h,fun m hm=>?_⟩
   have h0:=ht m hm
   cases hd:iI m with
   | true=>rfl
   | false =>
     obtain ⟨_,m',_,h2⟩:=h.pick hP hm hd
     omega
 | f+1,x,h,ht=>by
   obtain ⟨m,hm⟩:∃ m,x.muts[0]?=some m:=⟨x.muts[0]'(by rw [h.len];omega),List.getElem?_eq_getElem _⟩
   cases hd:iI m with
   | true =>
     rw [BZ hm hd]
     exact ⟨h,fun m' hm'=>by rw [hm] at hm';cases hm';exact hd⟩
   | false =>
     rw [JD hm hd]
     obtain ⟨h1,m',h2,h3⟩:=h.pick hP hm hd
     exact wZ.run hP hn f _ h1 (fun m2 hm2=>by rw [h2] at hm2;cases hm2;have:=ht m hm;omega)
theorem Wh (x:qI):wZ x.c.little (qO (HS.new x.c.little x.c.little.b.toNat x.c.little.w.toNat x.c.little.c.toNat) x.sz x.fl x.ce) x.c.little.m.toNat (lX x.c.little.r x.rg x.rg.length) (gK x.c.little x x.c.little.m.toNat)/\∀ m,(gK x.c.little x x.c.little.m.toNat).muts[0]?=some m->je m<=3*x.rg.length:=by
 have hok:=fQ (vU x.c)
 generalize x.c.little=c at *
 have hat:∀ i m,(gK c x c.m.toNat).muts[i]?=some m->m=MS.new c i (nR c.r x.rg i):=fun i m hm=>by
  have hm':((List.range c.m.toNat).map (fun j=>MS.new c j (nR c.r x.rg j)))[i]?=some m:=hm
  rw [List.getElem?_map] at hm'
  have hlt:i<c.m.toNat:=by
   rcases Nat.lt_or_ge i c.m.toNat with g|g
   ·exact g
   ·rw [List.getElem?_eq_none (by simpa using g)] at hm';cases hm'
  rw [List.getElem?_eq_getElem (by simpa using hlt)] at hm'
  simp at hm'
  exact hm'.symm
 refine ⟨⟨rfl,rfl,by show ((List.range c.m.toNat).map _).length=_;simp,fun i m hm hi=>?_,fun m hm=>?_⟩,fun m hm=>?_⟩
 ·rw [hat i m hm]
  unfold nR
  rw [if_neg (by omega)]
 ·rw [hat 0 m hm]
  exact ⟨rfl,rfl,rfl,Nat.zero_le _,rfl,rfl,rfl,rfl,by show (List.replicate c.r.toNat 0).length=_;simp,.inl rfl⟩
 ·rw [hat 0 m hm]
  unfold je
  show 3*((lX c.r x.rg x.rg.length).length - 0) - 0<=_
  rw [BD];omega
theorem Wj (r:Int) (rg:List Nat) (n:Nat):∀ o∈lX r rg n,o.k=4:=fun o ho=>by
 unfold lX at ho
 obtain ⟨k,_,rfl⟩:=List.mem_map.1 ho
 rfl
theorem JF (x:qI) (hr:x.rg.length<=20):wZ x.c.little (qO (HS.new x.c.little x.c.little.b.toNat x.c.little.w.toNat x.c.little.c.toNat) x.sz x.fl x.ce) x.c.little.m.toNat (lX x.c.little.r x.rg x.rg.length) (fA x)/\∀ m,(fA x).muts[0]?=some m->iI m=true:=by
 have hok:=fQ (vU x.c)
 obtain ⟨h0,h1⟩:=Wh x
 exact h0.run (Wj _ _ _) (by omega) 300 _ (fun m hm=>Nat.le_trans (h1 m hm) (by omega))
end
end Go.Proofs.YtanfphjoebobaaaGreatDoor
