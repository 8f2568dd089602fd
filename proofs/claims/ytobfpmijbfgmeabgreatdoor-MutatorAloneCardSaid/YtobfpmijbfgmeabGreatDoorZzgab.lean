/- Parts of the walk. No conditions. -/
import Derived.Test.YtobfpmijbfgmeabGreatDoorZzgaa
namespace Go.Proofs.YtobfpmijbfgmeabGreatDoor
open _root_.Bool renaming and_eq_true->acu
open _root_.Go.IntWalk renaming i64_in->abD
open _root_.List renaming drop_succ_cons->abz,drop_zero->abt,getD_eq_getElem?_getD->ace,getElem?_map->acd,take_zero->aby
open _root_.Nat renaming le_refl->abg,lt_of_lt_of_le->abj,zero_le->abZ
open _root_.Go.Proofs.Tryz hiding prog
open _root_.Go.Proofs.Tryz renaming prog->ay
set_option maxRecDepth 100000
set_option maxHeartbeats 16000000
section
attribute [local go_sem ↓] mD
attribute [local go_sem] Oper.semAt_some
open Go.RowKit
structure BN (w wr:World) (Z:List (Nat × List Value × TypeId)) (G:eH) (g:MG) (q:aS) (B ww:Nat) (prog:List bQ) (k:Nat) (s:Sh) (m:MS) (A:List Nat) (S:List Int) (L:List bF) (a:Option Addr) (c:Nat):Prop where
 ses:bC w wr Z G g s m q B S L A (.slice a A.length c)
 ok:qA k s m
 qE:wK q s m A S L
 Yl:s.H.ww=ww
 MB:m.prog=prog
 Ym:m.id=0
 td:zq ww m+k<=60*(ww+27)
 al:A.length<=m.aU.length
 ll:L.length<=m.aU.length
section
variable {w wr wr':World} {Z:List (Nat × List Value × TypeId)} {G:eH} {g:MG} {q:aS} {B ww k:Nat} {prog:List bQ} {s:Sh} {m:MS} {A:List Nat} {S:List Int} {L:List bF} {a:Option Addr} {c:Nat}
end
theorem Yn {c:aS} {o:bQ} (h:o.k=1) (hc:dG c o=0):0<=o.b/\o.b<=15:=by
 rcases jE hc with ⟨_,_,hb⟩|⟨h9,_⟩|⟨h9,_⟩|⟨h9,_⟩|⟨h9,_⟩|⟨h9,_⟩|⟨h9,_⟩|h9
 ·omega
 all_goals omega
theorem BO (z0:List Value) (a1:Option Addr) (n1 c1:Nat) (z1:List (List Value)) (w:World) (h0:iy [.int .i64,.int .i64,.int .i64,.int .i64,.int .i64,.int .i64,.int .i64] z0)
 (h1:wY [.int .i64,.int .i64,.int .i64,.int .i64] w a1 n1 z1) (hm1:n1<=maxLen) (hnil1:a1=none->n1=0/\c1=0) (hL:laidMetH ay Rows.mutatorAloneRow.laid w) :
 Calls ay 3 #[.agg z0.toArray,.slice a1 n1 c1] w fun e w'=>e = .returned (.bool true)/\aj aA w w':=by
 have hL' : laidMetH ay [("math/bits.deBruijn64tab", Rows.laid_math_bits_deBruijn64tab), ("dustpan/config.limits", Rows.laid_dustpan_config_limits), ("dustpan/class.sizes", Rows.laid_dustpan_class_sizes), ("dustpan/op.kinds", Rows.laid_dustpan_op_kinds)] w := hL
 rw [MakeChecks.laidMetH_plain _ _ _ (by kernel_rfl)] at hL'
 have HT:=au (Ur (laidMet.tail hL'))
 have FC:=au (V8 hL')
 clear hL hL'
 unfold maxLen at hm1
 obtain ⟨c,rfl,-⟩:=Vw h0
 have Yo:=au (fun W=>BP c W)
 obtain ⟨prog,rfl⟩:=XT z1 h1.ok
 have hpl:n1=prog.length:=by have:=h1.len;simpa [gX] using this.symm
 have Yp:Hid (∀ W,aj aA w W->iL W a1 n1 4 (gX prog)):=fun W hW=>(iL.VP h1).below hW
 obtain ⟨q,hq⟩:∃ q,q=c.wL:=⟨_,rfl⟩
 rw [<- hq] at Yo
 have OX:q.ok=true:=by rw [hq];exact OW c
 have Qk:=iT OX
 obtain ⟨b,hb⟩:∃ b:Nat,q.b=b:=⟨q.b.toNat,by omega⟩
 obtain ⟨ww,hw⟩:∃ b:Nat,q.w=b:=⟨q.w.toNat,by omega⟩
 obtain ⟨nc,hc⟩:∃ b:Nat,q.c=b:=⟨q.c.toNat,by omega⟩
 obtain ⟨n,hn⟩:∃ b:Nat,q.m=b:=⟨q.m.toNat,by omega⟩
 obtain ⟨s0,hs0⟩:∃ s0,s0=Sh.aW q b ww nc n:=⟨_,rfl⟩
 obtain ⟨m0,hm0⟩:∃ m0,m0=MS.aW q 0 prog:=⟨_,rfl⟩
 have Jj:Hid (∀ W,aj aA w W->Calls ay 5 #[] W fun e w'=>e = .returned (.bool true)/\Hid (aj aA W w')):=fun W hW=>(KC W (HT.out.aH hW))
 have Aa:Hid (∀ W,aj aA w W->Calls ay 6 #[.agg q.cells.toArray] W fun e w'=>∃ G:eH,e = .returned (.tuple #[ak G.S,ah 0])/\Hid (Z7 W w' G s0)/\Hid (aj aA W w')):=fun W hW=>by
  refine (Ib q b ww nc n OX hb hw hc hn W (HT.out.aH hW).t (HT.out.aH hW).s (HT.out.aH hW).g).mono ?_
  rintro e w' ⟨o,G,rfl,g1,g2,_,g4⟩
  refine ⟨G,rfl,⟨o,by rw [hs0];exact g1,g2,g4,by rw [hs0];simp [Sh.aW];omega⟩,g4⟩
 have Us:Hid (n1<=60->∀ W1 W G,aj aA w W1->Z7 W1 W G s0->∀ Bc cs T,Bc<W1.heap.size->aB W Bc cs T->Calls ay 7 #[ak G.S,ah 0,.slice a1 n1 c1] W fun e w'=>∃ g:MG,e = .returned (.tuple #[ak g.M,ah 0])/\Hid (rM w w' [(Bc,cs,T)] G g s0 m0)):=fun hn40 W1 W G hk1 hs Bc cs T hBl hB=>by
  obtain ⟨o,g1,g2,g3,g4⟩:=hs
  have hid0:0<s0.eF.length:=by rw [hs0];simp [Sh.aW];omega
  refine (Fj g1 g4 0 hid0 prog n1 hpl (by omega) a1 c1 (Yp.out W (hk1.trans g3)) (fun e=>(hnil1 e).2)).mono ?_
  rintro e w' ⟨o',g,rfl,e1,k1,k2,k3⟩
  refine ⟨g,rfl,o',?_,fun x hx=>(e1 x (abj hx (hk1.trans g3).size)).trans (g2 x (abj hx hk1.size)),(hk1.trans g3).trans k3,fun z hz=>?_⟩
  ·have e9:s0.H.c=q:=by rw [hs0];rfl
   rw [e9] at k1
   rw [hm0];exact k1
  ·rw [List.mem_singleton] at hz
   subst hz
   exact ⟨(e1 _ hB.lt).trans (g2 _ hBl),k3.aC hB (fun f=>f)⟩
 have hok0:qA 0 s0 m0:=by rw [hs0,hm0];exact qA.first 0 _ (oK.aW _ _ _ _ _) rfl (by omega)
 have hbw:b*ww<=1048576:=Gf (by omega) (by omega)
 have halo0:wK q s0 m0 [] [] []:=by
  rw [hs0,hm0]
  refine wK.first hc (by omega) (by omega) hbw ?_
  refine BG.first (Bd.TN _ _) (fun k=>?_) (by show 16<=ww;omega)
  show ([[],[],[],[]]:List (List Int)).getD k []=[]
  match k with
  | 0=>rfl
  | 1=>rfl
  | 2=>rfl
  | 3=>rfl
  | k+4=>rfl
 have hww0:s0.H.ww=ww:=by rw [hs0];rfl
 have hid00:m0.id=0:=by rw [hm0];rfl
 have hmp0:m0.prog=prog:=by rw [hm0];rfl
 have hmr0:m0.aU.length=0:=by rw [hm0];rfl
 have htodo0:zq ww m0=n1*(ww+27):=by rw [hm0,hpl];rfl
 obtain ⟨BB,Vo⟩:∃ BB:Nat,(BB:Int)=60*(64+4*q.l+q.w+4):=⟨(60*(64+4*q.l+q.w+4)).toNat,by omega⟩
 have Yq:60*(ww+27)<BB:=by omega
 have Yr:BB<=100000:=by omega
 have DN:(ww:Int)+26<=64+4*q.l+q.w:=by omega
 have Rx:Hid (∀ W,Calls ay 9 #[.agg q.cells.toArray] W fun e w'=>e = .returned (ah (64+4*q.l+q.w))/\Hid (aj aA W w')):=fun W=>V9 q (by omega) W
 have Yt:Hid (∀ W (o:bQ),Calls ay 12 #[.agg q.cells.toArray,.agg o.cells.toArray] W fun e w'=>e = .returned (ah (dG q o))/\Hid (aj aA W w')):=fun W o=>DC q o W
 obtain ⟨W0,hW0⟩:∃ W',W'=w.alloc (.cells c.cells.toArray 23):=⟨_,rfl⟩
 have hk0:aj aA w W0:=by rw [hW0];exact (aj.refl _ _).alloc _
 have hb0:aB W0 w.heap.size c.cells 23:=by rw [hW0];exact aB.aW w _ _
 have HQ:Hid (∃ qq:aS,qq=q/\qq.ok=true):=⟨q,rfl,OX⟩
 obtain ⟨qq,hqq,Vp⟩:=HQ.out
 have aaJ:=au Vp
 rw [<- hqq] at halo0
 have HGR:Hid (∀ W Z G g s m,rM w W Z G g s m->bC w (W.alloc (.cells #[ah q.b,ah q.w,ah q.m,ah q.r,ah q.c,ah q.l,ah q.s,.slice none 0 0,.slice none 0 0] 38)) Z G g s m qq W.heap.size [] [] [] (.slice none 0 0)):=fun W Z G g s m h=>by
  rw [hqq];exact h.Y7 q
 have Yu:Hid (qq.r=q.r/\(∀ o:bQ,dG q o=dG qq o)):=by rw [hqq];exact ⟨rfl,fun _=>rfl⟩
 obtain ⟨c0,cw,c2,c3,c4,c5,c6⟩:=c
 obtain ⟨q0,q1,q2,q3,q4,q5,q6⟩:=q
 simp only [aS.cells] at Yo hW0 hb0 Aa Rx Yt Vo HGR Yu DN ⊢
 have HW0:=au hW0
 have jZ:=au hk0
 have HB0:=au hb0
 have HP0:=au hok0
 have HA0:=au halo0
 have Yv:=au (And.intro hww0 (And.intro hmp0 (And.intro hid00 hmr0)))
 have HTD:=au htodo0
 have HBB:=au (And.intro Yq Yr)
 have hop1:IntKind.i64.wrap (64+4*q5+q1+4)=64+4*q5+q1+4:=abD _ (by simp only at Qk Vo;omega)
 have hop2:IntKind.i64.wrap (60*(64+4*q5+q1+4))=(BB:Int):=by rw [<- Vo];exact abD _ (by omega)
 have Za:=au DN
 have Gp:=au hpl
 have HQ5:Hid (0<=q5/\0<=q1/\q5<=256/\q1<=256/\1<=q3/\q3<=64):=by simp only at Qk;exact ⟨by omega,by omega,by omega,by omega,by omega,by omega⟩
 clear h0 h1 hnil1 hq OX Qk hb hw hc hn hs0 hm0 hok0 halo0 hww0 hid00 hmp0 hmr0 htodo0 Vo Yq Yr hW0 hk0 hb0 hpl hbw hqq Vp HQ DN
 go_enter func3,ntmps3
 go_wp2_with fail
 rw [<- HW0.out]
 refine (Yo.out W0).mono ?_
 rintro e w1 ⟨rfl,k1⟩
 have hb1:=k1.aC HB0.out (fun f=>f)
 obtain ⟨W2,hW2⟩:∃ W2,W2=((((((w1.setCell ⟨w.heap.size,0,none⟩ (ah q0)).setCell ⟨w.heap.size,1,none⟩ (ah q1)).setCell ⟨w.heap.size,2,none⟩ (ah q2)).setCell ⟨w.heap.size,3,none⟩ (ah q3)).setCell ⟨w.heap.size,4,none⟩ (ah q4)).setCell ⟨w.heap.size,5,none⟩ (ah q5)).setCell ⟨w.heap.size,6,none⟩ (ah q6):=⟨_,rfl⟩
 have hb2:aB W2 w.heap.size [ah q0,ah q1,ah q2,ah q3,ah q4,ah q5,ah q6] 23:=by
  rw [hW2]
  exact ((((((hb1.set 0 _).set 1 _).set 2 _).set 3 _).set 4 _).set 5 _).set 6 _
 have k2:aj aA w W2:=by
  rw [hW2]
  have h9:=jZ.out.trans k1
  exact ((((((h9.dS (abg _) 0 _).dS (abg _) 1 _).dS (abg _) 2 _).dS (abg _) 3 _).dS (abg _) 4 _).dS (abg _) 5 _).dS (abg _) 6 _
 have f0:=hb1.free 0;have f1:=hb1.free 1;have f2:=hb1.free 2;have f3:=hb1.free 3;have f4:=hb1.free 4;have f5:=hb1.free 5;have f6:=hb1.free 6
 have y0:=hb1.cell 0 (v := ah c0) rfl;have y1:=hb1.cell 1 (v := ah cw) rfl;have y2:=hb1.cell 2 (v := ah c2) rfl;have y3:=hb1.cell 3 (v := ah c3) rfl;have y4:=hb1.cell 4 (v := ah c4) rfl;have y5:=hb1.cell 5 (v := ah c5) rfl;have y6:=hb1.cell 6 (v := ah c6) rfl
 have HW2:=au hW2
 have HB2:=au hb2
 have bH:=au k2
 clear hb1 hW2 hb2 k2 k1
 by_cases hn60:n1<=60
 case neg =>
  have Zb:(60:Int)<(n1:Int):=by omega
  have d60:decide ((60:Int)<(n1:Int))=true:=cZ Zb
  clear hn60 Us Aa Rx
  go_wp2_with fail
  rw [<- HW2.out]
  refine (Jj.out W2 bH.out).mono ?_
  rintro e w3 ⟨rfl,k3⟩
  go_wp2_with fail
  go_ret
  exact ⟨rfl,bH.out.trans k3.out⟩
 have d60:decide ((60:Int)<(n1:Int))=false:=dD (by omega)
 have G6:=au (Us.out hn60)
 have OY:=au hn60
 clear hn60 Us
 go_wp2_with fail
 rw [<- HW2.out]
 refine (Jj.out W2 bH.out).mono ?_
 rintro e w3 ⟨rfl,k3⟩
 have hb3:=k3.out.aC HB2.out (fun f=>f)
 have hk3:=bH.out.trans k3.out
 clear f0 f1 f2 f3 f4 f5 f6 y0 y1 y2 y3 y4 y5 y6
 have y0:=hb3.cell 0 (v := ah q0) rfl;have y1:=hb3.cell 1 (v := ah q1) rfl;have y2:=hb3.cell 2 (v := ah q2) rfl;have y3:=hb3.cell 3 (v := ah q3) rfl;have y4:=hb3.cell 4 (v := ah q4) rfl;have y5:=hb3.cell 5 (v := ah q5) rfl;have y6:=hb3.cell 6 (v := ah q6) rfl
 have yD:=au (Aa.out w3 hk3)
 have HB3:=au hb3
 have lT:=au hk3
 clear k3 hb3 hk3 Jj Aa HB2
 go_wp2_with fail
 refine yD.out.mono ?_
 rintro e w4 ⟨G,rfl,h4,k4⟩
 have HN4:=au (G6.out w3 w4 G lT.out h4.out w.heap.size _ _ HB3.out.lt (k4.out.aC HB3.out (fun f=>f)))
 clear y0 y1 y2 y3 y4 y5 y6 h4 k4 G6 yD
 go_wp2_with fail
 refine HN4.out.mono ?_
 rintro e w5 ⟨g,rfl,h5⟩
 obtain ⟨Z,hZ⟩:∃ Z:List (Nat × List Value × TypeId),Z=[(w.heap.size,[ah q0,ah q1,ah q2,ah q3,ah q4,ah q5,ah q6],23)]:=⟨_,rfl⟩
 have H5:Hid (rM w w5 Z G g s0 m0):=by rw [hZ];exact h5.out
 have HZ:Hid (∀ V s' m' Z',rM w V (Z'++Z) G g s' m'->aB V w.heap.size [ah q0,ah q1,ah q2,ah q3,ah q4,ah q5,ah q6] 23):=fun V s' m' Z' h=>h.aC (z:=(w.heap.size,_,_)) (by rw [hZ];simp)
 have eP:=HZ.out w5 s0 m0 [] H5.out
 have y0:=eP.cell 0 (v := ah q0) rfl;have y1:=eP.cell 1 (v := ah q1) rfl;have y2:=eP.cell 2 (v := ah q2) rfl;have y3:=eP.cell 3 (v := ah q3) rfl;have y4:=eP.cell 4 (v := ah q4) rfl;have y5:=eP.cell 5 (v := ah q5) rfl;have y6:=eP.cell 6 (v := ah q6) rfl
 obtain ⟨W6,yH⟩:∃ W6,W6=w5.alloc (.cells #[ah q0,ah q1,ah q2,ah q3,ah q4,ah q5,ah q6,.slice none 0 0,.slice none 0 0] 38):=⟨_,rfl⟩
 obtain ⟨B,Yw⟩:∃ B,B=w5.heap.size:=⟨_,rfl⟩
 have HR0:Hid (m0.aU.length=0):=Yv.out.2.2.2
 have H6:Hid (BN w W6 Z G g qq B ww prog 0 s0 m0 [] [] [] none 0):=by
  obtain ⟨f1,f2,f3,f4⟩:=Yv.out
  refine ⟨by rw [yH,Yw];exact HGR.out w5 Z G g s0 m0 H5.out,HP0.out,HA0.out,f1,f2,f3,?_,abZ _,abZ _⟩
  rw [HTD.out,Nat.add_zero]
  exact Nat.mul_le_mul_right _ OY.out
 have HW6:=au yH
 have HBE:=au Yw
 clear h5 hZ eP HN4 HB3 H5 yH Yw HTD Yv HP0 HA0
 go_wp2_with fail
 rw [<- HW6.out,<- HBE.out]
 clear y0 y1 y2 y3 y4 y5 y6
 go_loopw [10,11,12] (fun av iat Yx wr=>∃ (k:Nat) (s':Sh) (m':MS) (A:List Nat) (S:List Int) (L:List bF) (a:Option Addr) (cp p:Nat),av = .slice a A.length cp/\iat = ah p/\Yx = ah k/\m'.aU.length=p/\BN w wr Z G g qq B ww prog k s' m' A S L a cp) (fun _ _ Yx _=>BB - (intOf Yx).toNat)
 case atStart=>exact ⟨0,s0,m0,[],[],[],none,0,0,rfl,rfl,rfl,HR0.out,H6.out⟩
 case round =>
  obtain ⟨k,s',m',A,S,L,a,cp,p,rfl,rfl,rfl,hres,h⟩:=hrel
  clear H6 HW6 HBE HR0
  have hkB:k<BB/\k<=100000:=by have:=HBB.out;have:=h.td;omega
  have hrl:p<=n1:=by have h9:=h.qE.qp.le;rw [h.MB,<- Gp.out,hres] at h9;exact h9
  have FM:Hid (Calls ay 8 #[ak g.M] wr fun e w'=>e = .returned (.bool (jG m'))/\bC w w' Z G g s' m' qq B S L A (.slice a A.length cp)):=h.ses.done
  cases hd:jG m' with
  | false =>
    rw [hd] at FM
    have hlt:p<n1:=by
     rw [Gp.out,<- h.MB,<- hres]
     by_cases hn:dR m'.next=true
     ·unfold jG at hd
      rw [hn,Bool.true_and] at hd
      have:=of_decide_eq_false hd
      have:=h.qE.qp.le
      omega
     ·exact h.qE.qp.lt (by simpa using hn)
    have hpa:=Uk aaJ.out h.ok h.qE hd
    have hpk:=DZ h.ok
    have hcm:=Fa h.ok h.qE.qp hd
    have AQ:Hid (∀ V,bC w V Z G g s' m' qq B S L A (.slice a A.length cp)->Calls ay 10 #[ak g.M] V fun e w'=>e = .returned (.tuple #[xY (cu s' m').2.2,wW (cu s' m').2.2])/\bC w w' Z G g (cu s' m').1 (cu s' m').2.1 qq B S L A (.slice a A.length cp)):=fun V hV=>hV.pick h.ok (by omega) (by rw [h.Ym];omega)
    have HF:Hid ((cu s' m').1.H.ww=ww/\(cu s' m').2.1.prog=prog/\(cu s' m').2.1.id=0/\qA (k+1) (cu s' m').1 (cu s' m').2.1/\zq ww (cu s' m').2.1+(k+1)<=60*(ww+27)):=by
     have h9:=hcm.2.2
     rw [h.Yl] at h9
     have:=h.td
     exact ⟨by rw [hcm.2.1];exact h.Yl,hpk.2.2.2.1.trans h.MB,hpk.2.2.1.trans h.Ym,hpk.1,by omega⟩
    have zL:Hid (A.length<=p/\L.length<=p/\p<=60/\S.length=A.length/\m'.prog=prog):=by have h8:=h.al;have h9:=h.ll;rw [hres] at h8 h9;exact ⟨h8,h9,by have:=OY.out;omega,h.qE.qE.len,h.MB⟩
    have hdI:decide ((BB:Int)<(k:Int)+1)=false:=dD (by omega)
    have hwk:IntKind.i64.wrap ((k:Int)+1)=(k:Int)+1:=abD _ (by omega)
    rcases hpa with ⟨hev,hr,hal⟩|⟨o,code,v,ho,hev,hr,htold⟩
    ·rw [hev] at AQ
     have Jq:Hid (∀ V,bC w V Z G g s' m' qq B S L A (.slice a A.length cp)->Calls ay 10 #[ak g.M] V fun e w'=>e = .returned (.tuple #[.agg zero6,.bool false])/\bC w w' Z G g (cu s' m').1 (cu s' m').2.1 qq B S L A (.slice a A.length cp)):=AQ
     replace AQ:=Jq
     clear Jq
     have qH:Hid (∀ V,bC w V Z G g (cu s' m').1 (cu s' m').2.1 qq B S L A (.slice a A.length cp)->BN w V Z G g qq B ww prog (k+1) (cu s' m').1 (cu s' m').2.1 A S L a cp):=fun V hV=>by
      obtain ⟨f1,f2,f3,f4,f5⟩:=HF.out
      exact ⟨hV,f4,hal,f1,f2,f3,f5,by rw [hr];exact h.al,by rw [hr];exact h.ll⟩
     have HR2:Hid ((cu s' m').2.1.aU.length=p):=by rw [hr];exact hres
     generalize (cu s' m').1=s2 at *
     generalize (cu s' m').2.1=m2 at *
     have HKB:=au hkB
     clear h hres hkB hrl hd hlt hpk hcm hev hr hal HF zL
     go_wp2_with fail
     refine FM.out.mono ?_
     rintro e w7 ⟨rfl,h7⟩
     have sG:=HZ.out w7 s' m' [] h7.toZ
     have y0:=sG.cell 0 (v := ah q0) rfl;have y1:=sG.cell 1 (v := ah q1) rfl;have y2:=sG.cell 2 (v := ah q2) rfl;have y3:=sG.cell 3 (v := ah q3) rfl;have y4:=sG.cell 4 (v := ah q4) rfl;have y5:=sG.cell 5 (v := ah q5) rfl;have y6:=sG.cell 6 (v := ah q6) rfl
     have H7:=au h7
     clear h7 sG FM
     go_wp2_with fail
     refine (Rx.out _).mono ?_
     rintro e w8 ⟨rfl,k8⟩
     have Ry:=au (AQ.out w8 (H7.out.still k8.out))
     clear k8 H7 AQ y0 y1 y2 y3 y4 y5 y6
     go_wp2_with fail
     refine Ry.out.mono ?_
     rintro e w9 ⟨rfl,h9⟩
     obtain ⟨W9,vV⟩:∃ W9,W9=w9.alloc (.cells zero6 41):=⟨_,rfl⟩
     have hb9:aB W9 w9.heap.size zero6.toList 41:=by rw [vV];exact aB.aW w9 _ _
     have H99:=au (qH.out W9 (h9.still (by rw [vV];exact (aj.refl _ _).alloc _)))
     have HW9:=au vV
     have z0:=hb9.cell 0 (v := ah 0) rfl;have z1:=hb9.cell 1 (v := ah 0) rfl;have z2:=hb9.cell 2 (v := ah 0) rfl;have z3:=hb9.cell 3 (v := ah 0) rfl;have z4:=hb9.cell 4 (v := ah 0) rfl;have z5:=hb9.cell 5 (v := ah 0) rfl
     clear h9 hb9 vV Ry qH
     go_wp2_with fail
     rw [<- HW9.out]
     clear z0 z1 z2 z3 z4 z5
     go_roundw
     case rel=>exact ⟨k+1,s2,m2,A,S,L,a,cp,p,rfl,rfl,by go_num,HR2.out,H99.out⟩
     case measure=>have:=HKB.out;simp [intOf]<;>omega
    ·obtain ⟨ok,oa,ob,oc⟩:=o
     obtain ⟨vi,Yy⟩:∃ vi:Int,vi=(v:Int):=⟨_,rfl⟩
     have hE:xY (some (m'.ev code v)) = .agg #[ah 0,ah 0,ah 1,ah (p:Int),ah code,ah vi]:=by
      unfold MS.ev
      rw [h.Ym,hres,Yy];rfl
     rw [hev,hE] at AQ
     have Jq:Hid (∀ V,bC w V Z G g s' m' qq B S L A (.slice a A.length cp)->Calls ay 10 #[ak g.M] V fun e w'=>e = .returned (.tuple #[.agg #[ah 0,ah 0,ah 1,ah (p:Int),ah code,ah vi],.bool true])/\bC w w' Z G g (cu s' m').1 (cu s' m').2.1 qq B S L A (.slice a A.length cp)):=AQ
     replace AQ:=Jq
     clear Jq
     have ho':prog[p]?=some ⟨ok,oa,ob,oc⟩:=by rw [<- h.MB,<- hres];exact ho
     obtain ⟨b1,off1,ha1,hrc⟩:=(Yp.out w (aj.refl _ _)).jR (by omega)
     subst ha1
     have HRW:Hid (∀ W,aj aA w W->W.cell? ⟨b1,off1+p*4,none⟩=some (ah ok)/\W.cell? ⟨b1,off1+p*4+1,none⟩=some (ah oa)/\W.cell? ⟨b1,off1+p*4+2,none⟩=some (ah ob)/\W.cell? ⟨b1,off1+p*4+3,none⟩=some (ah oc)):=fun W hW=>by
      have hr9:(gX prog)[p]?=some [ah ok,ah oa,ah ob,ah oc]:=by
       unfold gX
       rw [acd,ho'];rfl
      exact ⟨by simpa using hW.still (hrc p _ hr9 0 _ rfl),hW.still (hrc p _ hr9 1 _ rfl),hW.still (hrc p _ hr9 2 _ rfl),hW.still (hrc p _ hr9 3 _ rfl)⟩
     have HR2:Hid ((cu s' m').2.1.aU.length=p+1):=by rw [Hid,hr];simp [hres]
     have Yz:Hid (∀ b,dw L 1 0 b≠0->1<=dw L 1 0 b/\dw L 1 0 b<=(S.length:Int)):=fun b hb=>by
      have:=h.qE.qE.kP 1 0 b
      rw [h.qE.qE.len]
      exact ⟨by omega,this.2⟩
     have Vq:=au htold
     have YA:=au Yy
     clear Yy
     have mO:Hid (qq=m'.c):=h.qE.cf.symm
     generalize (cu s' m').1=s2 at *
     generalize (cu s' m').2.1=m2 at *
     have HKB:=au hkB
     have Zk:(p:Int)<(n1:Int):=by omega
     have abe:(0:Int)<=(p:Int):=by omega
     have dP:decide ((n1:Int)<=(p:Int))=false:=dD (by omega)
     have hwp:IntKind.i64.wrap ((p:Int)+1)=(p:Int)+1:=abD _ (by omega)
     have hpp:((p:Int) != (p:Int))=false:=by simp
     clear h hres hkB hrl hd hlt hpk hcm hev hr htold hE ho ho' hrc
     go_wp2_with fail
     refine FM.out.mono ?_
     rintro e w7 ⟨rfl,h7⟩
     have sG:=HZ.out w7 s' m' [] h7.toZ
     have y0:=sG.cell 0 (v := ah q0) rfl;have y1:=sG.cell 1 (v := ah q1) rfl;have y2:=sG.cell 2 (v := ah q2) rfl;have y3:=sG.cell 3 (v := ah q3) rfl;have y4:=sG.cell 4 (v := ah q4) rfl;have y5:=sG.cell 5 (v := ah q5) rfl;have y6:=sG.cell 6 (v := ah q6) rfl
     have H7:=au h7
     clear h7 sG FM
     go_wp2_with fail
     refine (Rx.out _).mono ?_
     rintro e w8 ⟨rfl,k8⟩
     have Ry:=au (AQ.out w8 (H7.out.still k8.out))
     clear k8 H7 AQ y0 y1 y2 y3 y4 y5 y6
     go_wp2_with fail
     refine Ry.out.mono ?_
     rintro e w9 ⟨rfl,h9⟩
     obtain ⟨X,hX⟩:∃ X,X=w9.heap.size:=⟨_,rfl⟩
     obtain ⟨W9,vV⟩:∃ W9,W9=w9.alloc (.cells #[ah 0,ah 0,ah 1,ah (p:Int),ah code,ah vi] 41):=⟨_,rfl⟩
     have h99:bC w W9 ((X,[ah 0,ah 0,ah 1,ah (p:Int),ah code,ah vi],41)::Z) G g s2 m2 qq B S L A (.slice a A.length cp):=by rw [vV,hX];exact h9.more _ _
     obtain ⟨O,hO⟩:∃ O,O=X+1:=⟨_,rfl⟩
     have hO9:O=W9.heap.size:=by rw [hO,hX,vV];simp
     obtain ⟨vW,Js⟩:∃ vW,vW=W9.alloc (.cells #[ah ok,ah oa,ah ob,ah oc] 45):=⟨_,rfl⟩
     obtain ⟨Z2,hZ2⟩:∃ Z2:List (Nat × List Value × TypeId),Z2=(O,[ah ok,ah oa,ah ob,ah oc],45)::(X,[ah 0,ah 0,ah 1,ah (p:Int),ah code,ah vi],41)::Z:=⟨_,rfl⟩
     have h10:bC w vW Z2 G g s2 m2 qq B S L A (.slice a A.length cp):=by rw [hZ2,Js,hO9];exact h99.more _ _
     have HXB:Hid (∀ V S L A av,bC w V Z2 G g s2 m2 qq B S L A av->aB V X [ah 0,ah 0,ah 1,ah (p:Int),ah code,ah vi] 41):=fun V S L A av hV=>hV.Yh (z:=(X,_,_)) (by rw [hZ2];simp)
     have Rl:Hid (∀ V S L A av,bC w V Z2 G g s2 m2 qq B S L A av->aB V O [ah ok,ah oa,ah ob,ah oc] 45):=fun V S L A av hV=>hV.Yh (z:=(O,_,_)) (by rw [hZ2];simp)
     have LG:Hid (∀ V S L A av,bC w V Z2 G g s2 m2 qq B S L A av->aB V w.heap.size [ah q0,ah q1,ah q2,ah q3,ah q4,ah q5,ah q6] 23):=fun V S L A av hV=>HZ.out V s2 m2 [(O,[ah ok,ah oa,ah ob,ah oc],45),(X,[ah 0,ah 0,ah 1,ah (p:Int),ah code,ah vi],41)] (by have h9:=hV.toZ;rw [hZ2] at h9;exact h9)
     have Au:Hid (∀ V S L A av,bC w V Z2 G g s2 m2 qq B S L A av->bC w V Z G g s2 m2 qq B S L A av):=fun V S L A av hV=>hV.TK (fun z hz=>by rw [hZ2];simp [hz])
     obtain ⟨x0,x1,x2,x3⟩:=HRW.out W9 h99.aH
     have zb4:vW.cell? ⟨X,4,none⟩=some (ah code):=(HXB.out vW _ _ _ _ h10).cell 4 rfl
     rw [vV] at x0 x1 x2 x3 Js
     rw [Js,hX] at zb4
     have MC:=au h10
     have YB:=au Js
     have Uz:=au hX
     have GZ:=au hO
     clear h9 h99 h10 hX vV hO hO9 Js hZ2 Ry HRW
     by_cases h10:code=10
     ·subst h10
      obtain ⟨hk1,hck,hv0,hrw,hK,hal2⟩:ok=1/\dG qq ⟨ok,oa,ob,oc⟩=0/\v=0/\s2.H.row (iG ob)=[]/\(∀ x∈s2.H.K,x≠0)/\wK qq s2 m2 A S L:=by
       rcases Vq.out with ⟨_,g1,g2,g3,g4,g5,g6⟩|⟨g1,_⟩
       ·exact ⟨g1,g2,g3,g4,g5,g6⟩
       ·exact absurd rfl g1
      subst hk1
      obtain rfl:vi=0:=by rw [YA.out,hv0];rfl
      have hob:=Yn (c:=qq) (o:=⟨1,oa,ob,oc⟩) rfl hck
      simp only at hob
      have Jc:Hid (Calls ay 12 #[.agg #[ah q0,ah q1,ah q2,ah q3,ah q4,ah q5,ah q6],.agg #[ah 1,ah oa,ah ob,ah oc]] vW fun e w'=>e = .returned (ah 0)/\Hid (aj aA vW w')):=by
       have h9:=Yt.out vW ⟨1,oa,ob,oc⟩
       rw [Yu.out.2,hck] at h9
       exact h9
      have HOF:Hid (Calls ay 11 #[ah ob] vW fun e w'=>e = .returned (ah ((iG ob:Nat):Int))/\vW=w'):=Un ob hob.1 hob.2 vW
      have Rn:Hid (∀ V,bC w V Z2 G g s2 m2 qq B S L A (.slice a A.length cp)->Calls ay 13 #[ak (G.D 0),ah ((iG ob:Nat):Int)] V fun e w'=>(∃ a c,e = .returned (.slice a 0 c))/\bC w w' Z2 G g s2 m2 qq B S L A (.slice a A.length cp)):=fun V hV=>by
       have h9:=hV.lg (iG ob) (yY _)
       rw [hrw] at h9
       exact h9
      have HTA:Hid (∀ V,bC w V Z2 G g s2 m2 qq B S L A (.slice a A.length cp)->Calls ay 14 #[ak (G.D 0)] V fun e w'=>∃ R,e = .returned (ak R)/\bC w w' Z2 G g s2 m2 qq B S L A (.slice a A.length cp)/\Calls ay 15 #[ak R] w' fun e w2=>e = .returned (.slice none 0 0)/\w'=w2):=fun V hV=>by
       refine (xP hV.sF).mono ?_
       rintro e w' ⟨R,X',aJ,rfl,hT,kk⟩
       exact ⟨R,rfl,hV.still kk,BM hT hK hV.sF.dQ.k4⟩
      have qH:Hid (∀ V,bC w V Z2 G g s2 m2 qq B S L A (.slice a A.length cp)->BN w V Z G g qq B ww prog (k+1) s2 m2 A S L a cp):=fun V hV=>by
       obtain ⟨f1,f2,f3,f4,f5⟩:=HF.out
       obtain ⟨g1,g2,_⟩:=zL.out
       exact ⟨Au.out V _ _ _ _ hV,f4,hal2,f1,f2,f3,f5,by rw [HR2.out];omega,by rw [HR2.out];omega⟩
      generalize iG ob=kk at *
      clear hck hrw hK hal2 hob Vq
      go_wp2_with fail
      rw [<- Uz.out,<- YB.out,<- GZ.out]
      clear x0 x1 x2 x3 zb4
      refine HOF.out.mono ?_
      rintro e w11 ⟨rfl,rfl⟩
      have zM:=LG.out vW _ _ _ _ MC.out
      have y0:=zM.cell 0 (v := ah q0) rfl;have y1:=zM.cell 1 (v := ah q1) rfl;have y2:=zM.cell 2 (v := ah q2) rfl;have y3:=zM.cell 3 (v := ah q3) rfl;have y4:=zM.cell 4 (v := ah q4) rfl;have y5:=zM.cell 5 (v := ah q5) rfl;have y6:=zM.cell 6 (v := ah q6) rfl
      have Jt:=Rl.out vW _ _ _ _ MC.out
      have o0:=Jt.cell 0 (v := ah 1) rfl;have o1:=Jt.cell 1 (v := ah oa) rfl;have o2:=Jt.cell 2 (v := ah ob) rfl;have o3:=Jt.cell 3 (v := ah oc) rfl
      clear zM Jt HOF
      go_wp2_with fail
      refine Jc.out.mono ?_
      rintro e w12 ⟨rfl,k12⟩
      have h12:=MC.out.still k12.out
      have z5:=(HXB.out w12 _ _ _ _ h12).cell 5 (v := ah 0) rfl
      have s12:=h12.s0
      have YC:=au (Rn.out w12 h12)
      clear y0 y1 y2 y3 y4 y5 y6 o0 o1 o2 o3 k12 h12 Jc Rn MC
      go_wp2_with fail
      refine YC.out.mono ?_
      rintro e w13 ⟨⟨a3,c3',rfl⟩,h13⟩
      have s13:=h13.s0
      have Ju:=au (HTA.out w13 h13)
      clear z5 s12 YC h13 HTA
      go_wp2_with fail
      refine Ju.out.mono ?_
      rintro e w14 ⟨R,rfl,h14,hU⟩
      have H14:=au (qH.out w14 h14)
      have HU:=au hU
      clear s13 h14 hU Ju qH
      go_wp2_with fail
      refine HU.out.mono ?_
      rintro e w15 ⟨rfl,rfl⟩
      clear HU
      go_wp2_with fail
      go_roundw
      case rel=>exact ⟨k+1,s2,m2,A,S,L,a,cp,p+1,rfl,by go_num,by go_num,HR2.out,H14.out⟩
      case measure=>have:=HKB.out;simp [intOf]<;>omega
     ·have d10:(code==10)=false:=by simpa using h10
      obtain rfl:vi=(v:Int):=YA.out
      clear YA
      obtain ⟨hcd,A',hA',hvt,hal2⟩:code=(fH qq S L 0 ⟨ok,oa,ob,oc⟩).2.2.2/\∃ A',((ok=1/\code=0/\A'=A++[v]/\v∉A/\s2.H.bn v=true)\/(¬ (ok=1/\code=0)/\A'=A))/\v=dO A' (fH qq S L 0 ⟨ok,oa,ob,oc⟩).2.2.1/\wK qq s2 m2 A' (fH qq S L 0 ⟨ok,oa,ob,oc⟩).1 (fH qq S L 0 ⟨ok,oa,ob,oc⟩).2.1:=by
       rcases Vq.out with ⟨g1,_⟩|⟨_,g2,g3⟩
       ·exact absurd g1 h10
       ·exact ⟨g2,g3⟩
      have hlen:=Wh qq S L 0 ⟨ok,oa,ob,oc⟩
      have YD:Hid (Calls ay 16 #[ak B,ah 0,.agg #[ah ok,ah oa,ah ob,ah oc]] vW fun e w'=>e = .returned (.tuple #[ah (fH qq S L 0 ⟨ok,oa,ob,oc⟩).2.2.1,ah (fH qq S L 0 ⟨ok,oa,ob,oc⟩).2.2.2])/\bC w w' Z2 G g s2 m2 qq B (fH qq S L 0 ⟨ok,oa,ob,oc⟩).1 (fH qq S L 0 ⟨ok,oa,ob,oc⟩).2.1 A (.slice a A.length cp)):=by
       obtain ⟨g1,g2,g3,g4,_⟩:=zL.out
       exact MC.out.do_ (by omega) (by omega) 0 ⟨ok,oa,ob,oc⟩ Yz.out
      rw [<- hcd] at YD
      generalize (fH qq S L 0 ⟨ok,oa,ob,oc⟩).2.2.1=vd at *
      generalize (fH qq S L 0 ⟨ok,oa,ob,oc⟩).1=S' at *
      generalize (fH qq S L 0 ⟨ok,oa,ob,oc⟩).2.1=L' at *
      have qH:Hid (∀ V a' cp',A'.length<=A.length+1->bC w V Z2 G g s2 m2 qq B S' L' A' (.slice a' A'.length cp')->BN w V Z G g qq B ww prog (k+1) s2 m2 A' S' L' a' cp'):=fun V a' cp' hle hV=>by
       obtain ⟨f1,f2,f3,f4,f5⟩:=HF.out
       obtain ⟨g1,g2,_⟩:=zL.out
       have:=hlen.2
       exact ⟨Au.out V _ _ _ _ hV,f4,hal2,f1,f2,f3,f5,by rw [HR2.out];omega,by rw [HR2.out];omega⟩
      have FN:Hid (∀ V a' cp',A'.length<=1000->bC w V Z2 G g s2 m2 qq B S' L' A' (.slice a' A'.length cp')->Calls ay 19 #[.slice a' A'.length cp',ah vd] V fun e w'=>e = .returned (ah (v:Int))/\V=w'):=fun V a' cp' hle hV=>by
       have h9:=FK a' cp' A' vd V hV.AV (by omega)
       rw [<- hvt] at h9
       exact h9
      have HAD:=au hA'
      have HAB:Hid (A.length<=60):=by obtain ⟨g1,g2,g3,_⟩:=zL.out;exact Nat.le_trans g1 g3
      have hvv:((v:Int) != (v:Int))=false:=by simp
      have hcc:(code != code)=false:=by simp
      clear hcd hA' hvt hal2 hlen Vq h10 Yz
      go_wp2_with fail
      rw [<- Uz.out,<- YB.out,<- GZ.out]
      clear x0 x1 x2 x3 zb4
      refine YD.out.mono ?_
      rintro e w11 ⟨rfl,h11⟩
      have YE:=Rl.out w11 _ _ _ _ h11
      have Ut:=HXB.out w11 _ _ _ _ h11
      have o0:=YE.cell 0 (v := ah ok) rfl
      have Jv:=au h11
      have z5:=Ut.cell 5 (v := ah (v:Int)) rfl
      have z4:=Ut.cell 4 (v := ah code) rfl
      have s11:=h11.s0
      clear YD YE Ut MC
      by_cases hal1:ok=1/\code=0
      ·obtain ⟨hk1,hc0⟩:=hal1
       subst hk1
       subst hc0
       obtain ⟨aaK,hvA,hbn⟩:A'=A++[v]/\v∉A/\s2.H.bn v=true:=by
        rcases HAD.out with ⟨_,_,g1,g2,g3⟩|⟨g1,_⟩
        ·exact ⟨g1,g2,g3⟩
        ·exact absurd ⟨rfl,rfl⟩ g1
       subst aaK
       have Vd:Hid (∀ V,aj aA w11 V->Calls ay 17 #[.slice a A.length cp,ah (v:Int)] V fun e w'=>e = .returned (.bool false)/\V=w'):=fun V hV=>by
        refine Y8 (Jv.out.still hV).AV (by have:=HAB.out;omega) ?_
        rw [Bool.eq_false_iff]
        intro e
        have:=BL.1 e
        rw [List.mem_map] at this
        obtain ⟨y,hy,e2⟩:=this
        have:y=v:=by omega
        exact hvA (by rw [<- this];exact hy)
       have HIS:Hid (∀ V,aj aA w11 V->Calls ay 18 #[ak (G.D 0),ah (v:Int)] V fun e w'=>e = .returned (.bool true)/\V=w'):=fun V hV=>by
        have h9:=DX (Jv.out.still hV).sF v
        rw [hbn] at h9
        exact h9
       clear hvA hbn h11 HAD
       go_wp2_with fail
       go_quiet (first|(go_at_call 17;exact Calls.quiet_of_same (fE (Vd.out _ ((aj.refl aA w11).drewN _))))|(go_at_call 18;exact Calls.quiet_of_same (fE (HIS.out _ ((aj.refl aA w11).drewN _)))))
       obtain ⟨V,hV⟩:∃ V,V=w11.drewN nq:=⟨_,rfl⟩
       have hkV:aj aA w11 V:=by rw [hV];exact (aj.refl aA w11).drewN _
       have OZ:=Jv.out.still hkV
       obtain ⟨gq,Uu,MF,hrun,h13⟩:=OZ.push v (by have:=HAB.out;omega)
       have z5:=(HXB.out V _ _ _ _ OZ).cell 5 (v := ah (v:Int)) rfl
       rw [<- hV]
       have HHV:=au OZ
       have Vr:=au h13
       have z54:=(HXB.out MF _ _ _ _ h13).cell 4 (v := ah 0) rfl
       have z55:=(HXB.out MF _ _ _ _ h13).cell 5 (v := ah (v:Int)) rfl
       have hal9:(A++[v]).length=A.length+1:=by simp
       have Jw:Hid (∀ V,aj aA MF V->Calls ay 19 #[.slice (some ⟨gq,0,none⟩) (A.length+1) Uu,ah vd] V fun e w'=>e = .returned (ah (v:Int))/\V=w'):=fun V hV=>by
        have h9:=FN.out V (some ⟨gq,0,none⟩) Uu (by rw [hal9];have:=HAB.out;omega) (Vr.out.still hV)
        rw [hal9] at h9
        exact h9
       have IZ:Hid (∀ V,aj aA MF V->BN w V Z G g qq B ww prog (k+1) s2 m2 (A++[v]) S' L' (some ⟨gq,0,none⟩) Uu):=fun V hV=>qH.out V _ _ (by rw [hal9];exact abg _) (Vr.out.still hV)
       have aaL:=au hal9
       clear hV hkV OZ h13 hal9 nq z4 s11 o0 Vd HIS Jv FN qH
       go_wp2_with fail
       go_quiet (first|(go_at_call 19;exact Calls.quiet_of_same (fE (Jw.out _ ((aj.refl aA MF).drewN _)))))
       have YF:=au (IZ.out _ ((aj.refl aA MF).drewN nq))
       clear IZ Jw
       go_wp2_with fail
       go_roundw
       case rel=>exact ⟨k+1,s2,m2,A++[v],S',L',_,_,p+1,by rw [aaL.out],by go_num,by go_num,HR2.out,YF.out⟩
       case measure=>have:=HKB.out;simp [intOf]<;>omega
      ·obtain rfl:A'=A:=by
        rcases HAD.out with ⟨g1,g2,_⟩|⟨_,g1⟩
        ·exact absurd ⟨g1,g2⟩ hal1
        ·exact g1
       have Jw:Hid (∀ V,aj aA w11 V->Calls ay 19 #[.slice a A'.length cp,ah vd] V fun e w'=>e = .returned (ah (v:Int))/\V=w'):=fun V hV=>FN.out V a cp (by have:=HAB.out;omega) (Jv.out.still hV)
       have IZ:Hid (∀ V,aj aA w11 V->BN w V Z G g qq B ww prog (k+1) s2 m2 A' S' L' a cp):=fun V hV=>qH.out V _ _ (by omega) (Jv.out.still hV)
       clear h11 HAD FN qH Jv
       have hor:(ok==1)=false\/((ok==1)=true/\(code==0)=false):=by
        by_cases g:ok=1
        ·exact .inr ⟨by simpa using g,by simpa using (fun e=>hal1 ⟨g,e⟩)⟩
        ·exact .inl (by simpa using g)
       clear hal1
       rcases hor with t1|⟨t1,t2⟩
       all_goals
        go_wp2_with fail
        go_quiet (first|(go_at_call 19;exact Calls.quiet_of_same (fE (Jw.out _ ((aj.refl aA w11).drewN _)))))
        have YF:=au (IZ.out _ ((aj.refl aA w11).drewN nq))
        clear IZ Jw
        go_wp2_with fail
        go_roundw
        case rel=>exact ⟨k+1,s2,m2,A',S',L',a,cp,p+1,rfl,by go_num,by go_num,HR2.out,YF.out⟩
        case measure=>have:=HKB.out;simp [intOf]<;>omega
  | true =>
    rw [hd] at FM
    have yw:=h.qE.qE
    have hpr:p=n1:=by
     unfold jG at hd
     rw [acu] at hd
     have:=of_decide_eq_true hd.2
     rw [h.MB,<- Gp.out,hres] at this
     exact this
    have hnil:dR m'.next=true:=by
     unfold jG at hd
     rw [acu] at hd
     exact hd.1
    have aaM:m'.aI.length=q3.toNat:=by
     have h8:=yw.rl
     have h9:=Yu.out.1
     omega
    have O0:Hid ((m'.aI.length:Int)=q3/\m'.aI.length<=64):=by have:=HQ5.out;exact ⟨by omega,by omega⟩
    have HRG:Hid (Calls ay 20 #[ak g.M] wr fun e w'=>∃ ra rc Z3,e = .returned (.slice ra m'.aI.length rc)/\bC w w' (Z3++Z) G g s' m' qq B S L A (.slice a A.length cp)/\wG (Z3++Z) (.slice ra m'.aI.length rc) m'.aI):=h.ses.aI
    have HDR:Hid (∀ V,bC w V Z G g s' m' qq B S L A (.slice a A.length cp)->Calls ay 20 #[ak g.M] V fun e w'=>∃ ra rc Z3,e = .returned (.slice ra m'.aI.length rc)/\bC w w' (Z3++Z) G g s' m' qq B S L A (.slice a A.length cp)/\wG (Z3++Z) (.slice ra m'.aI.length rc) m'.aI):=fun V hV=>hV.aI
    have HRS:Hid (∀ V Z3,bC w V Z3 G g s' m' qq B S L A (.slice a A.length cp)->Calls ay 21 #[ak g.M] V fun e w'=>(∃ a c,e = .returned (.slice a n1 c))/\bC w w' Z3 G g s' m' qq B S L A (.slice a A.length cp)):=fun V Z3 hV=>by
     have h9:=hV.results (by rw [hres,hpr];have:=OY.out;omega)
     rw [hres,hpr] at h9
     exact h9
    have YG:Hid (∀ V Z3,bC w V Z3 G g s' m' qq B S L A (.slice a A.length cp)->Calls ay 22 #[ak g.M] V fun e w'=>e = .returned (ah 0)/\V=w'):=fun V Z3 hV=>by
     have h9:=hV.held
     rw [h.qE.held] at h9
     exact h9
    have YH:Hid (∀ V Z3,bC w V Z3 G g s' m' qq B S L A (.slice a A.length cp)->Calls ay 23 #[ak g.M] V fun e w'=>e = .returned (.bool false)/\V=w'):=fun V Z3 hV=>by
     have h9:=hV.busy
     rw [hnil] at h9
     exact h9
    have HMO:Hid (∀ V Z3,bC w V Z3 G g s' m' qq B S L A (.slice a A.length cp)->Calls ay 27 #[ak g.M] V fun e w'=>e = .returned (.tuple #[ah (m'.most0:Int),ah 0])/\bC w w' Z3 G g s' m' qq B S L A (.slice a A.length cp)):=fun V Z3 hV=>by
     have h9:=hV.most
     rw [h.qE.m1] at h9
     exact h9
    have HM0:Hid (decide ((m'.most0:Int)<=64+4*q5+q1)=true):=by
     have h9:=h.qE.mo
     rw [h.Yl] at h9
     have:=Za.out
     exact cZ (by omega)
    have Jb:Hid (∀ V Z3,bC w V Z3 G g s' m' qq B S L A (.slice a A.length cp)->Calls ay 28 #[ak (G.D 0)] V fun e w'=>(∃ a c,e = .returned (.slice a A.length c))/\bC w w' Z3 G g s' m' qq B S L A (.slice a A.length cp)):=fun V Z3 hV=>by
     have h9:=hV.oJ FC.out
     rw [yw.oJ] at h9
     exact h9
    have Ie:Hid (∀ V Z3,bC w V Z3 G g s' m' qq B S L A (.slice a A.length cp)->Calls ay 29 #[ak (G.D 0)] V fun e w'=>e = .returned (.bool true)/\aj aA w w'):=fun V Z3 hV=>hV.Jh FC.out
    have hAL:A.length<=60/\L.length<=60/\S.length=A.length:=by have h8:=h.al;have h9:=h.ll;rw [hres] at h8 h9;have:=OY.out;exact ⟨by omega,by omega,yw.len⟩
    have HAT:Hid (∀ V Z3 (kk mm nn:Int),bC w V Z3 G g s' m' qq B S L A (.slice a A.length cp)->Calls ay 24 #[ak B,ah kk,ah mm,ah nn] V fun e w'=>e = .returned (ah (dw L kk mm nn))/\w'=V):=fun V Z3 kk mm nn hV=>hV.jR (by omega) kk mm nn
    have FN:Hid (∀ V Z3 (x:Int),bC w V Z3 G g s' m' qq B S L A (.slice a A.length cp)->Calls ay 19 #[.slice a A.length cp,ah x] V fun e w'=>e = .returned (ah ((dO A x:Nat):Int))/\V=w'):=fun V Z3 x hV=>FK a cp A x V hV.AV (by omega)
    have YI:Hid (∀ j,j<m'.aI.length->m'.aI.getD j 0=dO A (dw L 1 0 (j:Int))):=yw.fP
    have UR:Hid (∀ i,i<A.length->∃ x n:Nat,A.getD i 0=x/\n<=15/\S.getD i 0=(n:Int)/\s'.H.gV x=(n,0)/\∀ f:Nat,f<n->s'.H.jm x (f:Int)=0/\s'.H.iE x (f:Int)=dO A (dw L 3 ((i:Int)+1) f)):=fun i hi=>by
     have ha:A[i]?=some (A[i]):=List.getElem?_eq_getElem hi
     refine ⟨A[i],s'.H.nf A[i],by rw [ace,ha];rfl,yw.nf15 ha,yw.qC i _ ha,yw.gV ha,fun f hf=>yw.iE ha hf⟩
    have zL:=au hAL
    subst hpr
    clear HRG h hres hkB hrl hd yw hnil aaM hAL
    generalize m'.aI=R at *
    generalize m'.most0=mo at *
    go_wp2_with fail
    refine FM.out.mono ?_
    rintro e w7 ⟨rfl,h7⟩
    have HG7:=au (HDR.out w7 h7)
    clear h7 FM HDR
    go_wp2_with fail
    refine HG7.out.mono ?_
    rintro e w8 ⟨ra,rc,Z3,rfl,h8,hrow⟩
    have nS:Hid (∀ V,bC w V (Z3++Z) G g s' m' qq B S L A (.slice a A.length cp)->gB .i64 V ra R.length (R.map fun x:Nat=>(x:Int))):=fun V hV=>by
     obtain ⟨a9,c9,e9,h9⟩:=hV.toZ.Y2 hrow
     cases e9
     exact h9
    have hB8:=HZ.out w8 s' m' Z3 h8.toZ
    have y3:=hB8.cell 3 (v := ah q3) rfl
    have Uw:=au (HRS.out w8 _ h8)
    have dq:((R.length:Int) != q3)=false:=by have:=O0.out.1;simp;omega
    have dn:((p:Int) != (p:Int))=false:=by simp
    have Vs:Hid (R.length<=64):=O0.out.2
    have YJ:Hid ((R.length:Int)=q3):=O0.out.1
    clear hrow hB8 HG7 HRS O0
    obtain ⟨N3,hN3⟩:∃ N3,N3=R.length:=⟨_,rfl⟩
    rw [<- hN3] at nS Vs YJ dq YI ⊢
    obtain ⟨NA,hNA⟩:∃ NA,NA=A.length:=⟨_,rfl⟩
    have Rz:=au hNA
    have h8':bC w w8 (Z3++Z) G g s' m' qq B S L A (.slice a A.length cp):=h8
    have H8:=au h8'
    clear h8 h8' hN3 hNA
    rw [<- Rz.out] at nS Uw YG YH HMO Jb Ie HAT FN UR zL H8 ⊢
    go_wp2_with fail
    refine Uw.out.mono ?_
    rintro e w9 ⟨⟨a9,c9,rfl⟩,h9⟩
    have HH9:=au (YG.out w9 _ h9)
    have HB9:=au (YH.out w9 _ h9)
    have H9:=au h9
    clear y3 h9 Uw H8 YG YH
    go_wp2_with fail
    refine HH9.out.mono ?_
    rintro e w10 ⟨rfl,rfl⟩
    clear HH9
    go_wp2_with fail
    refine HB9.out.mono ?_
    rintro e w11 ⟨rfl,rfl⟩
    clear HB9
    go_wp2_with fail
    have aaN:Hid (∀ V,bC w V (Z3++Z) G g s' m' qq B S L A (.slice a NA cp)->gB .i64 V a NA (A.map fun y:Nat=>(y:Int))):=fun V hV=>by
     rw [Rz.out] at hV ⊢
     exact hV.AV
    have sO:Hid (∀ V,bC w V (Z3++Z) G g s' m' qq B S L A (.slice a NA cp)->∃ a2 c2,V.cell? ⟨B,7,none⟩=some (.slice a2 NA c2)/\gB .i64 V a2 NA S):=fun V hV=>by
     obtain ⟨a2,c2,g1,g2⟩:=hV.sizes
     rw [zL.out.2.2] at g1 g2
     exact ⟨a2,c2,g1,g2⟩
    go_loopw [20] (fun iv wr=>∃ j:Nat,j<=N3/\iv = ah j/\bC w wr (Z3++Z) G g s' m' qq B S L A (.slice a NA cp)) (fun iv _=>N3 - (intOf iv).toNat)
    case atStart=>exact ⟨0,abZ _,rfl,H9.out⟩
    case round =>
     obtain ⟨j,hj,rfl,hs⟩:=hrel
     clear H9
     have hB:=HZ.out wr s' m' Z3 hs.toZ
     have y3:=hB.cell 3 (v := ah q3) rfl
     have HS:=au hs
     by_cases hlt:j<N3
     ·have Ag:(j:Int)<q3:=by have:=YJ.out;omega
      have hjN:(j:Int)<(N3:Int):=by omega
      have hj0:(0:Int)<=(j:Int):=by omega
      have hwj:IntKind.i64.wrap ((j:Int)+1)=(j:Int)+1:=abD _ (by have:=Vs.out;omega)
      obtain ⟨rb,ro,hra,hrc⟩:=(nS.out wr hs).jR (by omega)
      have hck:=hrc j hlt
      have kG:=YI.out j hlt
      have hcv:(R.map fun x:Nat=>(x:Int)).getD j 0=((R.getD j 0:Nat):Int):=by
       rw [ace,acd,ace]
       cases R[j]?<;>rfl
      rw [hcv,kG] at hck
      have HA1:Hid (∀ V,aj aA wr V->Calls ay 24 #[ak B,ah 1,ah 0,ah (j:Int)] V fun e w'=>e = .returned (ah (dw L 1 0 (j:Int)))/\w'=V):=fun V hV=>HAT.out V _ 1 0 j (HS.out.still hV)
      have HT1:Hid (∀ V,aj aA wr V->Calls ay 19 #[.slice a NA cp,ah (dw L 1 0 (j:Int))] V fun e w'=>e = .returned (ah ((dO A (dw L 1 0 (j:Int)):Nat):Int))/\V=w'):=fun V hV=>FN.out V _ _ (HS.out.still hV)
      generalize dO A (dw L 1 0 (j:Int))=tv at *
      generalize dw L 1 0 (j:Int)=xx at *
      have dtv:((tv:Int) != (tv:Int))=false:=by simp
      have HHJ:=au hlt
      have YK:ra=some ⟨rb,ro,none⟩:=hra
      rw [YK]
      clear hs hB hrc hra kG hcv hlt hj YK
      go_wp2_with fail
      go_quiet (first|(go_at_call 24;exact Calls.quiet_of_same (HA1.out _ ((aj.refl aA wr).drewN _)))|(go_at_call 19;exact Calls.quiet_of_same (fE (HT1.out _ ((aj.refl aA wr).drewN _)))))
      have HS2:=au (HS.out.still ((aj.refl aA wr).drewN nq))
      clear HA1 HT1 HS y3 hck
      go_wp2_with fail
      go_roundw
      case rel=>exact ⟨j+1,HHJ.out,by go_num,HS2.out⟩
      case measure=>have:=HHJ.out;simp [intOf]<;>omega
     ·obtain rfl:j=N3:=by omega
      have ZP:¬ (j:Int)<q3:=by have:=YJ.out;omega
      clear hs hB hlt hj
      go_wp2_with fail
      clear y3
      generalize wr=Wo at *
      go_loopw [21] (fun iv wr=>∃ i:Nat,i<=NA/\iv = ah ((i:Int)+1)/\bC w wr (Z3++Z) G g s' m' qq B S L A (.slice a NA cp)) (fun iv _=>NA+1 - (intOf iv).toNat)
      case atStart=>exact ⟨0,abZ _,rfl,HS.out⟩
      case round =>
       obtain ⟨i,hi,rfl,hs⟩:=hrel
       clear HS
       by_cases hlt:i<NA
       ·obtain ⟨x,n,hx,hn15,hSn,hF,YL⟩:=UR.out i hlt
        have dle:decide ((i:Int)+1<=(NA:Int))=true:=cZ (by omega)
        have Ox:(i:Int)+1<=(NA:Int):=by omega
        have hiN:(i:Int)<(NA:Int):=by omega
        have hi0:(0:Int)<=(i:Int):=by omega
        have hwi:IntKind.i64.wrap ((i:Int)+1 - 1)=(i:Int):=by rw [abD _ (by have:=zL.out.1;have:=Rz.out;omega)];omega
        have hwi3:IntKind.i64.wrap (i:Int)=(i:Int):=abD _ (by have:=zL.out.1;have:=Rz.out;omega)
        have hwi2:IntKind.i64.wrap ((i:Int)+1+1)=(i:Int)+1+1:=abD _ (by have:=zL.out.1;have:=Rz.out;omega)
        have HCX:Hid (∀ V,bC w V (Z3++Z) G g s' m' qq B S L A (.slice a NA cp)->∃ ab ao,a=some ⟨ab,ao,none⟩/\V.cell? ⟨ab,ao+i,none⟩=some (ah (x:Int))):=fun V hV=>by
         obtain ⟨ab,ao,e,hc⟩:=(aaN.out V hV).jR (by omega)
         have h9:=hc i hlt
         have e9:(A.map fun y:Nat=>(y:Int)).getD i 0=((A.getD i 0:Nat):Int):=by
          rw [ace,acd,ace]
          cases A[i]?<;>rfl
         rw [e9,hx] at h9
         exact ⟨ab,ao,e,h9⟩
        have HSX:Hid (∀ V,bC w V (Z3++Z) G g s' m' qq B S L A (.slice a NA cp)->∃ sb so c2,V.cell? ⟨B,7,none⟩=some (.slice (some ⟨sb,so,none⟩) NA c2)/\V.cell? ⟨sb,so+i,none⟩=some (ah (n:Int))):=fun V hV=>by
         obtain ⟨a2,c2,g1,g2⟩:=sO.out V hV
         obtain ⟨sb,so,rfl,hc⟩:=g2.jR (by omega)
         have h9:=hc i hlt
         rw [hSn] at h9
         exact ⟨sb,so,c2,g1,h9⟩
        have HFI:Hid (∀ V,bC w V (Z3++Z) G g s' m' qq B S L A (.slice a NA cp)->Calls ay 25 #[ak (G.D 0),ah (x:Int)] V fun e w'=>e = .returned (.tuple #[ah (n:Int),ah 0])/\bC w w' (Z3++Z) G g s' m' qq B S L A (.slice a NA cp)):=fun V hV=>by
         have h9:=hV.Yi x
         rw [hF] at h9
         exact h9
        have HLO:Hid (∀ V (f:Nat),f<n->bC w V (Z3++Z) G g s' m' qq B S L A (.slice a NA cp)->Calls ay 26 #[ak (G.D 0),ah (x:Int),ah (f:Int)] V fun e w'=>e = .returned (.tuple #[ah ((dO A (dw L 3 ((i:Int)+1) f):Nat):Int),ah 0])/\bC w w' (Z3++Z) G g s' m' qq B S L A (.slice a NA cp)):=fun V f hf hV=>by
         have h9:=hV.load x (f:Int)
         rw [(YL f hf).1,(YL f hf).2] at h9
         exact h9
        have HHI:=au hlt
        have aaO:=au hn15
        obtain ⟨ab,ao,YM,hax⟩:=HCX.out wr hs
        have s0:=hs.s0
        have wS:=au (HFI.out _ (hs.still (aj.refl aA wr).drew))
        have Ux:Hid (a=some ⟨ab,ao,none⟩):=YM
        rw [YM]
        clear hs hx hSn hF YL hlt hi hn15 YM HFI
        go_wp2_with fail
        refine aN 9 rfl (by kernel_rfl) (by kernel_rfl) (fun K hK=>?_)
        change wpStill _ _ (World.drew _) _ _ _
        simp only [List.take_succ_cons,aby,abz,abt] at hK ⊢
        repeat still_step
        refine wpStill_nil ?_
        change ite _ (Oper.wp _ _ _ _ _ _) _
        go_simp
        refine wS.out.mono ?_
        rintro e w12 ⟨rfl,h12⟩
        refine hK _ _ ?_
        clear hK K
        obtain ⟨sb,so,c2,sz1,sz2⟩:=HSX.out w12 h12
        have H12:=au h12
        clear h12 wS s0 hax
        repeat still_step
        refine wpStill_nil ?_
        have dnn:((n:Int) != (n:Int))=false:=by simp
        go_wp2_with fail
        clear sz1 sz2
        generalize wr=Wi at *
        go_loopw [24] (fun kv wr=>∃ f:Nat,f<=n/\kv = ah f/\bC w wr (Z3++Z) G g s' m' qq B S L A (.slice a NA cp)) (fun kv _=>n - (intOf kv).toNat)
        case atStart=>exact ⟨0,abZ _,rfl,H12.out⟩
        case round =>
         obtain ⟨f,hf,rfl,hs⟩:=hrel
         clear H12
         by_cases hlf:f<n
         ·have hfI:(f:Int)<(n:Int):=by omega
          obtain ⟨ab2,ao2,YN,hax⟩:=HCX.out wr hs
          rw [Ux.out] at YN
          cases YN
          have s0:=hs.s0
          have sS:=au (HLO.out _ f hlf (hs.still (aj.refl aA wr).drew))
          have HA1:Hid (∀ V,bC w V (Z3++Z) G g s' m' qq B S L A (.slice a NA cp)->Calls ay 24 #[ak B,ah 3,ah ((i:Int)+1),ah (f:Int)] V fun e w'=>e = .returned (ah (dw L 3 ((i:Int)+1) (f:Int)))/\w'=V):=fun V hV=>HAT.out V _ 3 _ f hV
          have HT1:Hid (∀ V,bC w V (Z3++Z) G g s' m' qq B S L A (.slice a NA cp)->Calls ay 19 #[.slice (some ⟨ab,ao,none⟩) NA cp,ah (dw L 3 ((i:Int)+1) (f:Int))] V fun e w'=>e = .returned (ah ((dO A (dw L 3 ((i:Int)+1) (f:Int)):Nat):Int))/\V=w'):=fun V hV=>by
           rw [<- Ux.out]
           exact FN.out V _ _ hV
          generalize dO A (dw L 3 ((i:Int)+1) (f:Int))=tv at *
          generalize dw L 3 ((i:Int)+1) (f:Int)=xx at *
          have dtv:((tv:Int) != (tv:Int))=false:=by simp
          have HHF:=au hlf
          have hwf:IntKind.i64.wrap ((f:Int)+1)=(f:Int)+1:=abD _ (by have:=aaO.out;omega)
          clear hs hf hlf
          go_wp2_with fail
          refine aN 10 rfl (by kernel_rfl) (by kernel_rfl) (fun K hK=>?_)
          change wpStill _ _ (World.drew _) _ _ _
          simp only [List.take_succ_cons,aby,abz,abt] at hK ⊢
          repeat still_step
          refine wpStill_nil ?_
          change ite _ (Oper.wp _ _ _ _ _ _) _
          go_simp
          refine sS.out.mono ?_
          rintro e w13 ⟨rfl,h13⟩
          refine hK _ _ ?_
          clear hK K
          have YO:=au (HA1.out w13 h13)
          have Ju:=au (HT1.out w13 h13)
          have Vr:=au h13
          clear h13 sS s0 hax HA1 HT1
          repeat still_step
          refine wpStill_nil ?_
          go_wp2_with fail
          refine YO.out.mono ?_
          rintro e w14 ⟨rfl,rfl⟩
          go_wp2_with fail
          refine Ju.out.mono ?_
          rintro e w15 ⟨rfl,rfl⟩
          clear YO Ju
          go_wp2_with fail
          go_roundw
          case rel=>exact ⟨f+1,HHF.out,by go_num,Vr.out⟩
          case measure=>have:=HHF.out;simp [intOf]<;>omega
         ·obtain rfl:f=n:=by omega
          have hnf:¬ (f:Int)<(f:Int):=by omega
          have HS9:=au hs
          clear hs hf hlf
          go_wp2_with fail
          go_roundw
          case rel=>exact ⟨i+1,HHI.out,by go_num,by rw [<- Ux.out];exact HS9.out⟩
          case measure=>have:=HHI.out;simp [intOf]<;>omega
       ·obtain rfl:i=NA:=by omega
        have dle:decide ((i:Int)+1<=(i:Int))=false:=dD (by omega)
        have Ns:¬ (i:Int)+1<=(i:Int):=by omega
        have EU:=au (HMO.out wr _ hs)
        clear hs hlt hi
        go_wp2_with fail
        refine EU.out.mono ?_
        rintro e w16 ⟨rfl,h16⟩
        have zN:=HZ.out w16 s' m' Z3 h16.toZ
        have y0:=zN.cell 0 (v := ah q0) rfl;have y1:=zN.cell 1 (v := ah q1) rfl;have y2:=zN.cell 2 (v := ah q2) rfl;have y3:=zN.cell 3 (v := ah q3) rfl;have y4:=zN.cell 4 (v := ah q4) rfl;have y5:=zN.cell 5 (v := ah q5) rfl;have y6:=zN.cell 6 (v := ah q6) rfl
        have dm0:=HM0.out
        have H16:=au h16
        clear h16 zN EU
        go_wp2_with fail
        refine (Rx.out w16).mono ?_
        rintro e w17 ⟨rfl,k17⟩
        have h17:=H16.out.still k17.out
        have s17:=h17.s0
        have YP:=au (Jb.out w17 _ h17)
        clear h17 k17 H16 y0 y1 y2 y3 y4 y5 y6
        go_wp2_with fail
        refine YP.out.mono ?_
        rintro e w18 ⟨⟨a8,c8,rfl⟩,h18⟩
        have s18:=h18.s0
        have aaP:=au (Ie.out w18 _ h18)
        clear h18 YP s17
        go_wp2_with fail
        refine aaP.out.mono ?_
        rintro e w19 ⟨rfl,k19⟩
        go_wp2_with fail
        go_ret
        exact ⟨rfl,k19⟩
end
end Go.Proofs.YtobfpmijbfgmeabGreatDoor
