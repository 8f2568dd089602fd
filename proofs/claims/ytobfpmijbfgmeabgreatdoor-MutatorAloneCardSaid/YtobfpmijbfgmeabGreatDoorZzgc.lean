/- Parts of the walk. No conditions. -/
import Derived.Test.YtobfpmijbfgmeabGreatDoorZzgb
namespace Go.Proofs.YtobfpmijbfgmeabGreatDoor
open _root_.Array renaming replicate_succ->abV
open _root_.Go.IntWalk renaming i64_in->abD,wrap64_in->abG
open _root_.Go.World renaming size_alloc->abw
open _root_.Int renaming ofNat_eq_zero->acf
open _root_.List renaming append_toArray->abX,getD_eq_getElem?_getD->ace,getElem?_eq_getElem->abr,getElem?_map->acd,length_set->acg,mem_or_eq_of_mem_set->ach,nil_append->abY,push_toArray->abW,replicate->abn,size_toArray->abU
open _root_.Nat renaming div_le_self->abE,div_mul_le_self->abT,le_trans->abh,lt_of_lt_of_le->abj,mul_le_mul_right->abH,testBit_xor->aci,zero_le->abZ
open _root_.Go.Proofs.Tryz hiding prog
open _root_.Go.Proofs.Tryz renaming prog->ay
set_option maxRecDepth 100000
set_option maxHeartbeats 2000000
section
attribute [local go_sem ↓] mD
attribute [local go_sem] Oper.semAt_some
open Go.RowKit
section
variable {c:aS} {b ww:Nat} (hok:c.ok=true) (hb:c.b=b) (hw:c.w=ww)
include hok hb hw
theorem Ph (k B0 s:Nat) (hk:k<4) (hB:B0<b) (hs:s<ww/2^(k+1)) (w:World) (hT:gY w) (hS:eX w):Calls ay 116 #[.agg c.cells.toArray,ah (k:Int),ah (B0:Int),ah (s:Int)] w fun e w'=>e = .returned (ah (((B0*ww+s*2^(k+1):Nat):Int)+1))/\aj aA w w':=by
 obtain ⟨W0,hW0⟩:∃ W',W'=w.alloc (.cells c.cells.toArray 23):=⟨_,rfl⟩
 have HK:Hid (aj aA w W0):=by rw [hW0];exact (aj.refl _ _).alloc _
 have HO:=au (Vx hok hb hw k B0 s hk hB hs W0 (hT.aH HK.out) (hS.aH HK.out))
 have hB:=show aB W0 w.heap.size c.cells 23 by rw [hW0];exact aB.aW w _ _
 obtain ⟨R,hR⟩:∃ R:Int,R=((B0*ww+s*2^(k+1):Nat):Int)+1:=⟨_,rfl⟩
 rw [<- hR] at HO ⊢
 clear hR
 obtain ⟨c0,c1,c2,c3,c4,c5,c6⟩:=c
 simp only [aS.cells] at *
 have y0:=hB.cell 0 rfl;have y1:=hB.cell 1 rfl;have y2:=hB.cell 2 rfl;have y3:=hB.cell 3 rfl;have y4:=hB.cell 4 rfl;have y5:=hB.cell 5 rfl;have y6:=hB.cell 6 rfl
 clear hT hS hok hb hw hs hB
 go_enter func116,ntmps116
 go_wp2_with fail
 rw [<- hW0]
 clear hW0
 refine HO.out.mono ?_
 rintro e w1 ⟨rfl,hk1⟩
 have aZ:=au (HK.out.trans hk1)
 clear hk1 HK HO y0 y1 y2 y3 y4 y5 y6
 go_wp2_with fail
 go_ret
 exact ⟨rfl,aZ.out⟩
end
def uw (per z:Nat):List (Nat × Nat):=(List.range per).map fun i=>(i,i*z)
theorem tH (per z:Nat):(uw per z).length=per:=by simp [uw]
theorem Eo {per z j:Nat} (h:j<per):(uw per z)[j]?=some (j,j*z):=by simp [uw,h]
def DR (_:World) (x:Nat × Nat) (args:Array Value):Prop:=args=#[ah (x.1:Int),ah (x.2:Int)]
theorem Gm (ww k:Int) (w:World):Calls ay 115 #[ah ww,ah k] w fun e w'=>e = .returned (.func (.func 148) #[] #[ak w.heap.size,ak (w.heap.size+1)])/\aB w' w.heap.size [ah ww] 3/\aB w' (w.heap.size+1) [ah k] 3/\aj aA w w':=by
 have hmf:∀ (fn:Fn) (first aJ:Array Value) (w:World),(Instr.makeFunc fn first aJ).run ay w = .ok (.func fn first aJ) w:=fun _ _ _ _=>rfl
 have hb:∀ w:World,Hid (aB ((w.alloc (.cells #[ah ww] 3)).alloc (.cells #[ah k] 3)) w.heap.size [ah ww] 3/\aB ((w.alloc (.cells #[ah ww] 3)).alloc (.cells #[ah k] 3)) (w.heap.size+1) [ah k] 3):=fun w =>
  ⟨(aB.aW w [ah ww] 3).alloc _,by have:=aB.aW (w.alloc (.cells #[ah ww] 3)) [ah k] 3;simpa using this⟩
 go_enter func115,ntmps115
 go_wp2
 go_ret
 exact ⟨rfl,(hb _).out.1,(hb _).out.2,((aj.refl _ _).alloc _).alloc _⟩
def uy (pB kB:Nat):Nat->Prop:=fun i=>i=pB\/i=kB\/i=1
theorem ML (ww k pB kB:Nat) (hw:16<=ww/\ww<=256) (hk:k<4) (m:Nat) (w:World) (hS:eX w) (hbp:aB w pB [ah (ww:Int)] 3) (hbk:aB w kB [ah (k:Int)] 3) :
 Gj Fence.wide m ay 148 #[ak pB,ak kB] (uw (ww/2^(k+1)) (2^(k+1))) DR (uy pB kB) w:=by
 intro l J Jx W hW hJ hJx hY h0
 have hbk1:=hW.aC hbk (fun f=>f)
 have hbp1:=hW.aC hbp (fun f=>f)
 have hc0:=hbp1.cell 0 (v := ah (ww:Int)) rfl
 have hc1:=hbk1.cell 0 (v := ah (k:Int)) rfl
 have HP:=au (vw ww k hw hk W (hS.aH hW))
 have hsz:W.cell? ⟨1,k,none⟩=some (ah ((2^(k+1):Nat):Int)):=(hS.aH hW) k _ (show zO[k]?=some ((2^(k+1):Nat):Int) from by
  obtain rfl|rfl|rfl|rfl:k=0\/k=1\/k=2\/k=3:=by omega
  all_goals rfl)
 have hz:=qw hk
 have WG:∀ j,j<ww/2^(k+1)->j*2^(k+1)<=256:=fun j hj=>by
  have h1:j*2^(k+1)<=(ww/2^(k+1))*2^(k+1):=abH _ (Nat.le_of_lt hj)
  have h2:=abT ww (2^(k+1))
  omega
 have hpl:ww/2^(k+1)<=256:=abh (abE _ _) hw.2
 have Gg:(k:Int)<4:=by omega
 generalize 2^(k+1)=z at *
 generalize ww/z=per at *
 have aae:=au WG
 clear WG hk hw hS
 refine callsIn_of_wp func148 rfl trivial ?_ rfl
 simp only [ntmps148,abU,List.length_cons,List.length_nil,Nat.reduceAdd,Nat.reduceSub,abV,Array.replicate_zero,abW,abX,abY,List.cons_append]
 gi_wp2_with fail
 refine ⟨trivial,fun h=>(by cases h),CallsIn.mono (callsIn_wide.2 HP.out) ?_⟩
 rintro e w1 ⟨rfl,rfl⟩
 gi_wp2_with fail
 gi_loopw [8] (fun i wr=>∃ j:Nat,j<=per/\i = ah j/\J j wr/\iJ (uy pB kB) W wr) (fun i _=>per - (intOf i).toNat)
 case atStart=>exact ⟨0,by omega,rfl,h0,iJ.refl _ _⟩
 case round =>
  obtain ⟨j,hj,rfl,pG,hH⟩:=hrel
  have b1:=hH.aC (.inl rfl) hbp1
  have b2:=hH.aC (.inr (.inl rfl)) hbk1
  have c1:=b1.cell 0 (v := ah (ww:Int)) rfl
  have c2:=b2.cell 0 (v := ah (k:Int)) rfl
  have c3:wr.cell? ⟨1,k,none⟩=some (ah (z:Int)):=by
   rw [World.cell?_of_block (w:=W) (hH.same 1 (.inr (.inr rfl)))];exact hsz
  by_cases hlt:j<per
  ·have hmul:(j:Int)*(z:Int)=((j*z:Nat):Int):=by simp
   have aaf:=aae.out j hlt
   obtain ⟨x2,hx2⟩:∃ x2,x2=j*z:=⟨_,rfl⟩
   rw [<- hx2] at hmul aaf
   have hwr:IntKind.i64.wrap (x2:Int)=(x2:Int):=abD _ (by omega)
   have HX:=au hx2
   have HY:=au hY
   have HJ:=au pG
   clear hx2 hY pG
   obtain ⟨fn,tmps,assign,body,hy,hR⟩:=HY.out j (j,j*z) #[ah (j:Int),ah (x2:Int)] wr (Eo hlt) HJ.out (by rw [HX.out];rfl)
   gi_wp2_with fail
   refine ⟨fun h=>(by cases h),hR.mono ?_⟩
   rintro e W' (⟨rfl,hJ',hk⟩|⟨rfl,xk⟩)
   ·gi_wp2_with fail
    go_roundw
    case rel=>exact ⟨j+1,by omega,by go_num,hJ',hH.trans hk⟩
    case measure=>simp [intOf];omega
   ·gi_wp2_with fail
    refine bodyPost_ret (results_none rfl _ _ _) rfl ?_
    exact ⟨⟨_,rfl⟩,.inr ⟨j+1,by rw [tH];omega,xk⟩⟩
  ·clear hY
   have hje:j=per:=by omega
   have BX:=au hje
   clear hje
   gi_wp2_with fail
   go_end0
   exact ⟨⟨_,rfl⟩,.inl (by rw [tH,<- BX.out];exact pG)⟩
def jD (per z base:Nat):List Nat:=(List.range per).map fun i=>base+i*z+1
theorem qG (per z base:Nat):(jD per z base).length=per:=by simp [jD]
theorem JA (j z base:Nat):jD (j+1) z base=jD j z base++[base+j*z+1]:=by simp [jD,List.range_succ]
structure yN (w:World) (N O:Nat) (cf:List Value) (k B0 z base:Nat) (j:Nat) (W:World):Prop where
 aH:aj aA w W
 cf:aB W w.heap.size cf 23
 k:aB W (w.heap.size+1) [ah (k:Int)] 3
 b:aB W (w.heap.size+1+1) [ah (B0:Int)] 3
 yA:N<=W.heap.size
 o:∃ v,aB W O [v] 35/\W.ownsRow N 3 1 v j ((jD j z base).map fun x:Nat => ah (x:Int))
theorem yN.own {w:World} {N O:Nat} {cf:List Value} {k B0 z base B:Nat} (hB:w.heap.size<=B):OwnFrom B (yN w N O cf k B0 z base):=by
 rintro j W W' row ⟨h1,h2,h3,h4,hN,v,h5,h6⟩ hg hr
 refine ⟨uo (β:=Nat) hB j W W' row h1 hg hr,lN (β:=Nat) (cs:=fun _=>_) j W W' row h2 hg hr,lN (β:=Nat) (cs:=fun _=>_) j W W' row h3 hg hr,lN (β:=Nat) (cs:=fun _=>_) j W W' row h4 hg hr,abh hN hg.size,v,lN (β:=Nat) (cs:=fun _=>_) j W W' row h5 hg hr,?_⟩
 refine fQ (S:=fun i=>row=some i) h6 ⟨hg.os,hg.tape,hg.output,hg.size,fun k hk n=>hg.block k hk (fun e=>n e.symm)⟩ (fun g hg' e=>?_)
 obtain ⟨_,_,ho,hc⟩:=hr g e
 obtain ⟨n,aJ,rfl⟩:∃ n aJ,v = .slice (some ⟨g,0,none⟩) n aJ:=by
  obtain ⟨a,aJ,rfl,_⟩:=kE (dF h6 (abZ _))
  cases a with
  | none=>simp [Value.ownBlock] at hg'
  | some a =>
    rcases h6.2 with ⟨h,_⟩|⟨g2,cap2,cur2,hv,_⟩
    ·cases h
    ·cases hv
     simp [Value.ownBlock] at hg'
     subst hg'
     exact ⟨_,_,rfl⟩
 have h7:=dF h6 (abZ _)
 have hn:n=j:=by
  rcases h6.2 with ⟨h,_⟩|⟨g2,cap2,cur2,hv,_⟩
  ·cases h
  ·cases hv;rfl
 subst hn
 obtain ⟨cur,hcur⟩:=Pg h7
 rw [hcur] at ho
 cases ho
 simp [Obj.isCells] at hc
theorem yN.later {w:World} {N O:Nat} {cf:List Value} {k B0 z base j:Nat} {W W':World} (h:yN w N O cf k B0 z base j W) (hk:aj aA W W'):yN w N O cf k B0 z base j W':=by
 obtain ⟨v,h5,h6⟩:=h.o
 exact ⟨h.aH.trans hk,hk.aC h.cf (fun f=>f),hk.aC h.k (fun f=>f),hk.aC h.b (fun f=>f),abh h.yA hk.size,v,hk.aC h5 (fun f=>f),gy h6 hk⟩
theorem qy {w:World} {e:TypeId} {v:Value} {n q:Nat} {xs:List Value} (h:w.ownsRow 0 e 1 v n xs) (hq:v.ownBlock=some q):∃ cur:Array Value,w.heap[q]?=some (.cells cur e (0,0)):=by
 rcases h.2 with ⟨rfl,_⟩|⟨g2,cap2,cur2,rfl,_,hg,_⟩
 ·simp [Value.ownBlock] at hq
 ·simp [Value.ownBlock] at hq
  subst hq
  exact ⟨_,hg⟩
theorem Gn {w:World} {e:TypeId} {base g n aJ:Nat} {xs:List Value} (h:w.ownsRow 0 e 1 (.slice (some ⟨g,0,none⟩) n aJ) n xs) (hg:base<=g):w.ownsRow base e 1 (.slice (some ⟨g,0,none⟩) n aJ) n xs:=by
 refine ⟨h.1,?_⟩
 rcases h.2 with ⟨h,_⟩|⟨g',cap',cur,hv,_,rest⟩
 ·cases h
 ·cases hv
  exact .inr ⟨g,aJ,cur,rfl,hg,rest⟩
section
variable {c:aS} {b ww:Nat} (hok:c.ok=true) (hb:c.b=b) (hw:c.w=ww)
include hok hb hw
theorem BZ (k B0:Nat) (hk:k<4) (hB:B0<b) (w:World) (hT:gY w) (hS:eX w):Calls ay 84 #[.agg c.cells.toArray,ah (k:Int),ah (B0:Int)] w fun e w'=>∃ v,e = .returned v/\w'.ownsRow w.heap.size 3 1 v (ww/2^(k+1)) ((jD (ww/2^(k+1)) (2^(k+1)) (B0*ww)).map fun x:Nat => ah (x:Int))/\aj aA w w':=by
 have hn:=mM hok hb hw
 have hz:=qw hk
 have aag:Hid (∀ j x W,x=B0*ww+j*2^(k+1)->j<ww/2^(k+1)->aj aA w W->Calls ay 116 #[.agg c.cells.toArray,ah (k:Int),ah (B0:Int),ah (j:Int)] W fun e w'=>e = .returned (ah ((x:Int)+1))/\aj aA W w'):=fun j x W hx hj hW=>by rw [hx];exact Ph hok hb hw k B0 j hk hB hj W (hT.aH hW) (hS.aH hW)
 have KW:Hid (∀ j,j<ww/2^(k+1)->B0*ww+j*2^(k+1)<1048577):=fun j hj=>by
  have h1:j*2^(k+1)<=(ww/2^(k+1))*2^(k+1):=abH _ (Nat.le_of_lt hj)
  have h2:=abT ww (2^(k+1))
  have h3:(B0+1)*ww<=b*ww:=abH ww (Nat.succ_le_of_lt hB)
  have h4:(B0+1)*ww=B0*ww+ww:=by rw [Nat.add_mul,Nat.one_mul]
  omega
 have Gp:Hid (ww/2^(k+1)<=256):=abh (abE _ _) hn.2.2.2.1
 obtain ⟨W0,hW0⟩:∃ W',W'=(((w.alloc (.cells c.cells.toArray 23)).alloc (.cells #[ah (k:Int)] 3)).alloc (.cells #[ah (B0:Int)] 3)).alloc (.cells #[.slice none 0 0] 35):=⟨_,rfl⟩
 have hk0:aj aA w W0:=by rw [hW0];exact ((((aj.refl _ _).alloc _).alloc _).alloc _).alloc _
 have HK:=au hk0
 have mO:=au (show aB W0 w.heap.size c.cells 23 by rw [hW0];exact (((aB.aW w _ _).alloc _).alloc _).alloc _)
 have jZ:Hid (aB W0 (w.heap.size+1) [ah (k:Int)] 3):=by
  rw [hW0]
  have h:=aB.aW (w.alloc (.cells c.cells.toArray 23)) [ah (k:Int)] 3
  rw [abw] at h
  exact (h.alloc _).alloc _
 have HB0:Hid (aB W0 (w.heap.size+1+1) [ah (B0:Int)] 3):=by
  rw [hW0]
  have h:=aB.aW ((w.alloc (.cells c.cells.toArray 23)).alloc (.cells #[ah (k:Int)] 3)) [ah (B0:Int)] 3
  rw [abw,abw] at h
  exact h.alloc _
 have Cb:Hid (aB W0 (w.heap.size+1+1+1) [.slice none 0 0] 35):=by
  rw [hW0]
  have h:=aB.aW (((w.alloc (.cells c.cells.toArray 23)).alloc (.cells #[ah (k:Int)] 3)).alloc (.cells #[ah (B0:Int)] 3)) [.slice none 0 0] 35
  rw [abw,abw,abw] at h
  exact h
 have HST:=au (Gm (ww:Int) (k:Int) W0)
 have sO:Hid (W0.heap.size=w.heap.size+1+1+1+1):=by rw [Hid,hW0];simp
 have MN:Hid (∀ W,aj aA w W->∀ pB kB,aB W pB [ah (ww:Int)] 3->aB W kB [ah (k:Int)] 3->Gj Fence.wide 8 ay 148 #[ak pB,ak kB] (uw (ww/2^(k+1)) (2^(k+1))) DR (uy pB kB) W):=fun W hW pB kB h1 h2=>ML ww k pB kB ⟨hn.2.2.1,hn.2.2.2.1⟩ hk 8 W (hS.aH hW) h1 h2
 have HSG:Hid (1<w.heap.size):=by
  have h:=hS 0 2 rfl
  exact World.block_lt_of_cell? _ _ h
 generalize 2^(k+1)=z at *
 generalize ww/z=per at *
 generalize hbase:B0*ww=base at *
 obtain ⟨c0,c1,c2,c3,c4,c5,c6⟩:=c
 simp only at hb hw
 subst hb hw
 simp only [aS.cells] at *
 have y1:=mO.out.cell 1 rfl
 have y2:=jZ.out.cell 0 rfl
 clear hT hS hok hn hz hk hB hk0 hbase
 refine (callsIn_wide (n:=9)).1 ?_
 refine callsIn_of_wp_marks func84 rfl trivial ?_ rfl
 refine wpIn_wide.2 ?_
 simp only [ntmps84,abU,List.length_cons,List.length_nil,Nat.reduceAdd,Nat.reduceSub,abV,Array.replicate_zero,abW,abX,abY,List.cons_append]
 go_wp2_with fail
 rw [<- hW0]
 clear hW0 y1 y2
 refine HST.out.mono ?_
 rintro e w1 ⟨rfl,hp1,hk1,hkk⟩
 have Aa:=au (MN.out w1 (HK.out.trans hkk) _ _ hp1 hk1)
 have HI1:Hid (yN w w1.heap.size (w.heap.size+1+1+1) [ah (b:Int),ah (ww:Int),ah c2,ah c3,ah c4,ah c5,ah c6] k B0 z base 0 w1) :=
  ⟨HK.out.trans hkk,hkk.aC mO.out (fun f=>f),hkk.aC jZ.out (fun f=>f),hkk.aC HB0.out (fun f=>f),Nat.le_refl _,_,hkk.aC Cb.out (fun f=>f),⟨rfl,.inl ⟨rfl,rfl⟩⟩⟩
 have Ep:Hid (∀ i,uy W0.heap.size (W0.heap.size+1) i->i<w1.heap.size/\i≠w.heap.size+1+1+1):=by
  have h1:=hk1.lt;have h2:=sO.out;have h3:=HSG.out;have h4:=hkk.size
  rintro i (rfl|rfl|rfl)
  ·exact ⟨by omega,by omega⟩
  ·exact ⟨by omega,by omega⟩
  ·exact ⟨by omega,by omega⟩
 have vG:Hid (w.heap.size<=w1.heap.size/\w.heap.size+1+1+1<w1.heap.size):=⟨(HK.out.trans hkk).size,by have h1:=hk1.lt;have h2:=sO.out;omega⟩
 have aaS:Hid (W0.heap.size+2<=w1.heap.size):=by have h1:=hk1.lt;unfold Hid;omega
 clear hp1 hk1 hkk HST MN mO jZ HB0 Cb
 go_wp2_with fail
 refine wpIn_wide (n:=9) |>.1 ?_
 refine KR rfl (by decide) (gf:=148) (lb:=#[ak W0.heap.size,ak (W0.heap.size+1)]) rfl trivial (fun args w=>by simp [callFunc,func148,go_sem];rfl) (all:=uw per z) (Enc:=DR) (G:=uy W0.heap.size (W0.heap.size+1))
  Aa.out ?hG ?hps
  (fun j W=>yN w w1.heap.size (w.heap.size+1+1+1) [ah (b:Int),ah (ww:Int),ah c2,ah c3,ah c4,ah c5,ah c6] k B0 z base j W)
  (fun _ _ _=>False)
  ?hI ?hIx ?h0 ?round ?done ?stop
 case hI=>exact yN.own vG.out.1
 case hIx=>exact fun c s W W' row h hg hr=>h
 case h0=>exact HI1.out
 case hG=>exact fun i hi=>(Ep.out i hi).1
 case hps =>
  rintro W x args h
  rw [h];rfl
 case stop=>exact fun D c k W hD hk h=>h.elim
 case round =>
  rintro l j x args W hx henc hI
  have hj:j<per:=by
   have h:=(List.getElem?_eq_some_iff.1 hx).1
   rwa [tH] at h
  rw [Eo hj] at hx
  injection hx with hx
  subst hx
  obtain rfl:args=_:=henc
  have HI:=au hI
  clear hI
  gi_wp2_with fail
  refine ⟨fun W=>yN w w1.heap.size (w.heap.size+1+1+1) [ah (b:Int),ah (ww:Int),ah c2,ah c3,ah c4,ah c5,ah c6] k B0 z base j W,KeepsFrom.refl _ _,iJ.refl _ _,HI.out,(fun _ W' W'' row h hg hr=>yN.own vG.out.1 j W' W'' row h hg hr),?_⟩
  clear HI
  rintro W2 hI
  have Ac:Hid (w1.heap.size<=W2.heap.size):=hI.yA
  have q0:=hI.cf.cell 0 rfl;have q1:=hI.cf.cell 1 rfl;have q2:=hI.cf.cell 2 rfl;have q3:=hI.cf.cell 3 rfl;have q4:=hI.cf.cell 4 rfl;have q5:=hI.cf.cell 5 rfl;have q6:=hI.cf.cell 6 rfl
  have qk:=hI.k.cell 0 rfl
  have qb:=hI.b.cell 0 rfl
  have hbd:=KW.out j hj
  obtain ⟨x,hx⟩:∃ x,x=base+j*z:=⟨_,rfl⟩
  rw [<- hx] at hbd
  have HX:=au hx
  have hpos:(0:Int)<(x:Int)+1:=by omega
  have HA:=au (aag.out j x W2 hx hj hI.aH)
  clear hx
  have HI:=au hI
  clear hI
  gi_wp2_with fail
  refine ⟨trivial,CallsIn.mono (CallsIn.inRound l (callsIn_wide.2 HA.out)) ?_⟩
  rintro e w3 ⟨rfl,hk3⟩
  have HI3:=au (HI.out.later hk3)
  have WH:=au (KeepsFrom.nR (B:=w1.heap.size) hk3)
  have vH:=au (iJ.nR (G:=uy W0.heap.size (W0.heap.size+1)) hk3 (fun i hi=>⟨abj (Ep.out i hi).1 (Ac.out),fun f=>f⟩))
  clear hk3 q0 q1 q2 q3 q4 q5 q6 qk qb HI HA
  obtain ⟨v,rX,hrow⟩:=HI3.out.o
  obtain ⟨W4,fC⟩:∃ W',W'=w3.alloc (.cells #[ah ((x:Int)+1)] 3):=⟨_,rfl⟩
  have hk4:aj aA w3 W4:=by rw [fC];exact (aj.refl _ _).alloc _
  obtain ⟨g,aJ,w5,hrun,hown,hgr,hwh⟩:=qx (P:=ay) W4 35 35 3 (by kernel_rfl) Tryz.infoInt rfl (dF (gy hrow hk4) (abZ _)) (N:=w3.heap.size) (u := ah ((x:Int)+1)) (by rw [fC];exact (aB.aW w3 _ _).cell 0 rfl) rfl (by decide) (by have:=Gp.out;omega)
  have hrun9:(app9 #[35,35] 35 #[v,.slice (some ⟨w3.heap.size,0,none⟩) 1 1]).run ay (w3.alloc (.cells #[ah ((x:Int)+1)] 3)) = .ok (.slice (some ⟨g,0,none⟩) (j+1) aJ) w5:=by rw [<- fC];exact hrun
  have cO:=rX.cell 0 (v:=v) rfl
  have hne:v.ownBlock≠some (w.heap.size+1+1+1):=jY rX hrow (by decide)
  have hbo5:=(hk4.aC rX (fun f=>f)).jJ hgr hne
  have Zf:=hbo5.cell 0 (v:=v) rfl
  have Zg:=hbo5.free 0
  have hge:∀ q,v.ownBlock=some q->w1.heap.size<=q:=fun q hq=>(World.ownsRow.lt hrow q hq).1
  have hge':w1.heap.size<=g:=by
   rcases hwh with h|h
   ·exact hge g h
   ·have h1:=HI3.out.yA;have h2:=hk4.size;omega
  have gI:Hid (yN w w1.heap.size (w.heap.size+1+1+1) [ah (b:Int),ah (ww:Int),ah c2,ah c3,ah c4,ah c5,ah c6] k B0 z base (j+1) (w5.setCell ⟨w.heap.size+1+1+1,0,none⟩ (.slice (some ⟨g,0,none⟩) (j+1) aJ))/\KeepsFrom w1.heap.size W2 (w5.setCell ⟨w.heap.size+1+1+1,0,none⟩ (.slice (some ⟨g,0,none⟩) (j+1) aJ))/\iJ (uy W0.heap.size (W0.heap.size+1)) W2 (w5.setCell ⟨w.heap.size+1+1+1,0,none⟩ (.slice (some ⟨g,0,none⟩) (j+1) aJ))):=by
   have hk5:aj aA w w5:=(HI3.out.aH.trans hk4).RS (gy hrow hk4) vG.out.1 hgr
   have hneq:∀ q,q<w1.heap.size->v.ownBlock≠some q:=fun q hq e=>by have:=hge q e;omega
   have h01:=vG.out
   refine ⟨⟨hk5.dS (by omega) _ _,?_,?_,?_,?_,.slice (some ⟨g,0,none⟩) (j+1) aJ,?_,?_⟩,?_,?_⟩
   ·exact (((hk4.aC HI3.out.cf (fun f=>f)).jJ hgr (hneq _ (by omega))).og (by simp;omega) _)
   ·exact (((hk4.aC HI3.out.k (fun f=>f)).jJ hgr (hneq _ (by omega))).og (by simp) _)
   ·exact (((hk4.aC HI3.out.b (fun f=>f)).jJ hgr (hneq _ (by omega))).og (by simp) _)
   ·have h1:=HI3.out.yA;have h2:=hk4.size;have h3:=hgr.size;simp;omega
   ·exact hbo5.set 0 _
   ·rw [JA,List.map_append,<- HX.out]
    exact Gn (vF (a:=⟨w.heap.size+1+1+1,0,none⟩) hown (fun q hq=>by simp [Value.ownBlock] at hq;show q≠w.heap.size+1+1+1;have h1:=vG.out;omega) _) hge'
   ·refine (WH.out.trans (KeepsFrom.nR hk4)).trans (KeepsFrom.trans (Y:=w5) ⟨hgr.size,fun q o hB hq ho=>(hgr.block q (Array.getElem?_eq_some_iff.1 hq).1 (fun e=>?_)).trans hq⟩ ((KeepsOthers.setCell _ _ _).from _))
    obtain ⟨cur,hcur⟩:=qy (dF (gy hrow hk4) (abZ _)) e.symm
    rw [hcur] at hq
    cases hq
    simp [Obj.isCells] at ho
   ·refine (vH.out.trans (iJ.nR hk4 (fun i hi=>⟨abj (Ep.out i hi).1 HI3.out.yA,fun f=>f⟩))).trans ⟨by simp;exact hgr.size,fun i hi=>?_⟩
    have h1:=Ep.out i hi
    rw [Below.heap_setCell _ _ _ _ (by simp;exact h1.2)]
    exact hgr.block i (abj h1.1 (abh HI3.out.yA hk4.size)) (fun e=>hneq i h1.1 e.symm)
  clear hge hge' hne rX hbo5 hgr hown hwh hrun hk4 hrow fC
  gi_wp2_with fail
  exact ⟨gI.out.2.1,gI.out.2.2,gI.out.1⟩
 case done =>
  rintro D W hD hI yO
  rw [tH] at hI
  obtain ⟨v,rX,hrow⟩:=hI.o
  have cO:=rX.cell 0 (v:=v) rfl
  have Gq:=hI.aH.takeDeferred (D:=D) (by have:=vG.out.1;omega) (.deferred none)
  have nS:=au hrow
  clear hrow
  go_wp2_with fail
  refine ⟨by simp,.inl ⟨_,_,rfl,run_takeDeferred yO,?_⟩⟩
  refine ⟨v,by simp [results,Tryz.f84,go_sem],v,rfl,dF (fQ (S:=fun i=>i=D) nS.out ⟨rfl,rfl,rfl,by simp,fun q _ n=>World.putObj_heap_other n⟩ (fun q hq e=>?_)) vG.out.1,Gq⟩
  obtain ⟨cur,hcur⟩:=qy (dF nS.out (abZ _)) hq
  rw [e,yO] at hcur
  cases hcur
end
end
section
open Go.RowKit
theorem Es (a:Option Addr) (n c:Nat) (zs:List Int) (m:Int) (w:World) (h:gB .i64 w a n zs) (hm:n<=9223372036854775807) :
 Calls ay 211 #[.slice a n c,ah m] w fun e w'=>(∃ r:Int,e = .returned (ah r)/\((∃ i:Nat,i<n/\r=(i:Int)/\zs.getD i 0=m/\∀ j,j<i->zs.getD j 0≠m)\/(r = -1/\∀ j,j<n->zs.getD j 0≠m)))/\w=w':=by
 go_enter func211,ntmps211
 go_wp2
 go_loop [8] (fun i=>∃ k:Nat,k<=n/\i = ah k/\∀ j,j<k->zs.getD j 0≠m) (fun i=>n - (intOf i).toNat)
 case atStart=>exact ⟨0,abZ _,rfl,fun j hj=>absurd hj (by omega)⟩
 case round =>
  obtain ⟨k,hk,rfl,hr⟩:=hrel
  have hl:=h.len
  by_cases hlt:k<n
  ·obtain ⟨b,off,rfl,hc⟩:=h.jR (by omega)
   have hck:=hc k hlt
   by_cases hx:zs.getD k 0=m
   ·rw [hx] at hck
    have HE:Hid ((∃ i:Nat,i<n/\(k:Int)=(i:Int)/\zs.getD i 0=m/\∀ j,j<i->zs.getD j 0≠m)):=⟨k,hlt,rfl,hx,hr⟩
    clear hc hr h hx hl
    go_wp2
    go_ret
    exact ⟨⟨_,rfl,.inl HE.out⟩,rfl⟩
   ·have hne:(m==zs.getD k 0)=false:=by simpa using fun e:m=_=>hx e.symm
    have HR:Hid (∀ j,j<k+1->zs.getD j 0≠m):=fun j hj=>by
     rcases Nat.lt_succ_iff_lt_or_eq.1 hj with h1|h1
     ·exact hr j h1
     ·rw [h1];exact hx
    generalize zs.getD k 0=x at hck hne
    clear hc hr h hx hl
    go_wp2
    go_round
    case rel=>exact ⟨k+1,by omega,by go_num,HR.out⟩
    case measure=>simp [intOf];omega
  ·have HE:Hid (∀ j,j<n->zs.getD j 0≠m):=fun j hj=>hr j (by omega)
   clear hr h hl
   go_wp2
   go_ret
   exact ⟨⟨_,rfl,.inr ⟨rfl,HE.out⟩⟩,rfl⟩
def bg (K:List Nat):List Value:=K.map (fun x:Nat => ah (x:Int))
theorem kS {K:List Nat} {p:Nat} (hp:p<K.length):(bg K)[p]?=some (ah (K.getD p 0:Nat)):=by
 unfold bg
 rw [acd,abr hp,ace,abr hp];rfl
theorem xq (K:List Nat) (p x:Nat):bg (K.set p x)=(bg K).set p (ah (x:Int)):=by
 unfold bg
 rw [List.map_set]
structure dW (w:World) (R X:Nat) (c:aS) (K:List Nat):Prop where
 aC:aB w R (c.cells++[.slice (some ⟨X,0,none⟩) K.length K.length]) 153
 gQ:aB w X (bg K) 3
 len:c.b=(K.length:Int)
 le:∀ x∈K,x<=4
 ok:c.ok=true
section
variable {w w':World} {R X:Nat} {c:aS} {K:List Nat}
theorem dW.aH {S:Nat->Prop} (h:dW w R X c K) (k:aj S w w') (hR:¬ S R) (hX:¬ S X):dW w' R X c K :=
 ⟨k.aC h.aC hR,k.aC h.gQ hX,h.len,h.le,h.ok⟩
theorem dW.still (h:dW w R X c K) (k:aj aA w w'):dW w' R X c K:=h.aH k (fun f=>f) (fun f=>f)
theorem dW.ne (h:dW w R X c K):R≠X:=fun e=>by
 have h1:=h.aC
 rw [e] at h1
 exact absurd (h1.gK h.gQ).2 (by decide)
theorem dW.jK (h:dW w R X c K):1<=K.length/\K.length<=4096:=by
 have h1:=(iT h.ok).1
 have h2:=h.len
 omega
theorem dW.AV (h:dW w R X c K):gB .i64 w (some ⟨X,0,none⟩) K.length (K.map (fun x:Nat=>(x:Int))):=by
 refine ⟨by simp,fun _=>⟨X,0,rfl,fun j hj=>?_⟩⟩
 rw [Nat.zero_add]
 have e:(K.map (fun x:Nat=>(x:Int))).getD j 0=(K.getD j 0:Nat):=by
  rw [ace,acd,abr hj,ace,abr hj];rfl
 rw [e]
 exact h.gQ.cell j (kS hj)
theorem rQ (h:dW w R X c K):Calls ay 65 #[ak R] w fun e w'=>e = .returned (.agg c.cells.toArray)/\aj aA w w':=by
 have hb:=h.aC
 obtain ⟨c0,c1,c2,c3,c4,c5,c6⟩:=c
 simp only [aS.cells,List.cons_append,abY] at hb ⊢
 have HA:∀ o,aj aA w (w.alloc o):=fun o=>(aj.refl _ _).alloc o
 have s0:=fun o=>(HA o).still (hb.cell 0 rfl);have s1:=fun o=>(HA o).still (hb.cell 1 rfl);have s2:=fun o=>(HA o).still (hb.cell 2 rfl);have s3:=fun o=>(HA o).still (hb.cell 3 rfl);have s4:=fun o=>(HA o).still (hb.cell 4 rfl);have s5:=fun o=>(HA o).still (hb.cell 5 rfl);have s6:=fun o=>(HA o).still (hb.cell 6 rfl)
 have HB:Hid (∀ o,aj aA w (w.alloc o)):=HA
 clear HA
 clear h hb
 go_enter func65,ntmps65
 go_wp2_with fail
 obtain ⟨W1,hW1⟩:∃ W',W'=w.alloc (.cells #[ah c0,ah c1,ah c2,ah c3,ah c4,ah c5,ah c6] 23):=⟨_,rfl⟩
 rw [<- hW1]
 have hF:aB W1 w.heap.size [ah c0,ah c1,ah c2,ah c3,ah c4,ah c5,ah c6] 23:=by rw [hW1];exact aB.aW w _ _
 have k0:=hF.cell 0 rfl;have k1:=hF.cell 1 rfl;have k2:=hF.cell 2 rfl;have k3:=hF.cell 3 rfl;have k4:=hF.cell 4 rfl;have k5:=hF.cell 5 rfl;have k6:=hF.cell 6 rfl
 refine bodyPost_ret (v := .agg #[ah c0,ah c1,ah c2,ah c3,ah c4,ah c5,ah c6]) (by simp [results,Tryz.f65,go_sem,k0,k1,k2,k3,k4,k5,k6]) rfl ⟨rfl,?_⟩
 rw [hW1];exact HB.out _
theorem yP (h:dW w R X c K) (B k:Nat) (hB:B<K.length) (hk:K.getD B 0=k+1) (h4:k<4):Calls ay 83 #[ak R,ah (B:Int)] w fun e w'=>e = .returned (.tuple #[ah (k:Int),.bool true])/\w=w':=by
 have hb:=h.aC
 obtain ⟨c0,c1,c2,c3,c4,c5,c6⟩:=c
 simp only [aS.cells,List.cons_append,abY] at hb
 have y7:=hb.cell 7 rfl
 have z:=h.gQ.cell B (kS hB)
 rw [hk] at z
 have hs:=h.jK
 have d1:decide ((K.length:Int)<=(B:Int))=false:=dD (by omega)
 have d2:((((k+1:Nat):Int))==0)=false:=by simp;omega
 have d3:IntKind.i64.wrap ((((k+1:Nat):Int)) - 1)=(k:Int):=by rw [abD _ (by omega)];omega
 obtain ⟨q,hq⟩:∃ q:Int,q=((k+1:Nat):Int):=⟨_,rfl⟩
 rw [<- hq] at z d2 d3
 have hBI:(B:Int)<(K.length:Int):=by omega
 have Cc:(0:Int)<=(B:Int):=by omega
 generalize K.length=L at *
 clear h hb hk hs hq hB
 go_enter func83,ntmps83
 go_wp2_with fail
 go_ret2
 exact ⟨rfl,rfl⟩
theorem Pj (h:dW w R X c K) (ww B k s:Nat) (hw:c.w=ww) (hB:B<K.length) (hk:K.getD B 0=k+1) (h4:k<4) (hs:s<ww/2^(k+1)) (hT:gY w) (hS:eX w):Calls ay 111 #[ak R,ah (((B*ww+s*2^(k+1):Nat):Int)+1)] w fun e w'=>e = .returned (.tuple #[ah (B:Int),ah (k:Int),.bool true])/\aj aA w w':=by
 have hn:=mM h.ok h.len hw
 have hz:=qw h4
 obtain ⟨q1,q2,q3,q4,q5⟩:=xg (b:=K.length) (j:=0) hz ⟨hn.2.2.1,hn.2.2.2.1⟩ hB hs (by omega)
 have HF:Hid (∀ W,aj aA w W->Calls ay 146 #[.agg c.cells.toArray,ah (k:Int),ah (((B*ww+s*2^(k+1):Nat):Int)+1)] W fun e w'=>e = .returned (.tuple #[.agg #[ah (B:Int),ah (s:Int),ah 0],.bool true])/\aj aA W w'):=fun W hW=>En h.ok h.len hw k B s 0 h4 hB hs (by omega) W (hT.aH hW) (hS.aH hW)
 have HAB:Hid (∀ W,aj aA w W->Calls ay 145 #[.agg c.cells.toArray,ah (((B*ww+s*2^(k+1):Nat):Int)+1)] W fun e w'=>e = .returned (.tuple #[ah (B:Int),.bool true])/\aj aA W w'):=fun W hW=>by
  have h9:=tC h.ok h.len hw (B*ww+s*2^(k+1)) (by simpa using q2) W (hT.aH hW)
  rw [show (B*ww+s*2^(k+1))/ww=B by simpa using q3] at h9
  exact h9
 have HC:Hid (∀ W,aj aA w W->Calls ay 65 #[ak R] W fun e w'=>e = .returned (.agg c.cells.toArray)/\aj aA W w'):=fun W hW=>rQ (h.still hW)
 have sQ:Hid (∀ W,aj aA w W->Calls ay 83 #[ak R,ah (B:Int)] W fun e w'=>e = .returned (.tuple #[ah (k:Int),.bool true])/\W=w'):=fun W hW=>yP (h.still hW) B k hB hk h4
 generalize (((B*ww+s*2^(k+1):Nat):Int)+1)=a at *
 obtain ⟨c0,c1,c2,c3,c4,c5,c6⟩:=c
 simp only [aS.cells] at *
 have HKK:=au (aj.refl aA w)
 clear h hn hz q1 q2 q3 q4 q5 hB hk h4 hs hT hS hw
 go_enter func111,ntmps111
 go_wp2_with (first
  | (go_at_call 65;refine (HC.out _ HKK.out).mono ?_;rintro e w1 ⟨rfl,hk1⟩;have HKK:=au (HKK.out.trans hk1);clear hk1)
  | (go_at_call 145;refine (HAB.out _ HKK.out).mono ?_;rintro e w1 ⟨rfl,hk1⟩;have HKK:=au (HKK.out.trans hk1);clear hk1)
  | (go_at_call 146;refine (HF.out _ HKK.out).mono ?_;rintro e w1 ⟨rfl,hk1⟩;have HKK:=au (HKK.out.trans hk1);clear hk1)
  | (go_at_call 83;refine (sQ.out _ HKK.out).mono ?_;rintro e w1 ⟨rfl,rfl⟩))
 go_ret3
 exact ⟨rfl,HKK.out.alloc _⟩
theorem Pm (h:dW w R X c K) (ww B k:Nat) (hw:c.w=ww) (hB:B<K.length) (hk:K.getD B 0=k+1) (h4:k<4) (hT:gY w) (hS:eX w):Calls ay 57 #[ak R,ah (B:Int)] w fun e w'=>∃ v,e = .returned v/\w'.ownsRow w.heap.size 3 1 v (ww/2^(k+1)) ((jD (ww/2^(k+1)) (2^(k+1)) (B*ww)).map fun x:Nat => ah (x:Int))/\aj aA w w':=by
 have HA:=au (BZ h.ok h.len hw k B h4 hB w hT hS)
 have sQ:=au (yP h B k hB hk h4)
 have hb:=h.aC
 obtain ⟨c0,c1,c2,c3,c4,c5,c6⟩:=c
 simp only [aS.cells,List.cons_append,abY] at *
 have y0:=hb.cell 0 rfl;have y1:=hb.cell 1 rfl;have y2:=hb.cell 2 rfl;have y3:=hb.cell 3 rfl;have y4:=hb.cell 4 rfl;have y5:=hb.cell 5 rfl;have y6:=hb.cell 6 rfl
 generalize jD (ww/2^(k+1)) (2^(k+1)) (B*ww)=sl at *
 generalize ww/2^(k+1)=per at *
 clear h hb hB hk h4 hT hS hw
 go_enter func57,ntmps57
 go_wp2_with (first
  | (go_at_call 83;refine sQ.out.mono ?_;rintro e w1 ⟨rfl,rfl⟩)
  | (go_at_call 84;refine HA.out.mono ?_;rintro e w1 ⟨v,rfl,ho,hk1⟩;have HO:=au ho;have HKK:=au hk1;clear ho hk1))
 go_ret
 exact ⟨_,rfl,HO.out,HKK.out⟩
theorem MO (h:dW w R X c K) (B k:Nat) (hB:B<K.length) (hk:K.getD B 0=0) (hl:∀ j,j<B->K.getD j 0≠0) (h4:k<4):Calls ay 203 #[ak R,ah (k:Int)] w fun e w'=>e = .returned (.tuple #[ah (B:Int),ah 0])/\dW w' R X c (K.set B (k+1))/\aj (only X) w w':=by
 have hgd:∀ j,j<K.length->(K.map (fun x:Nat=>(x:Int))).getD j 0=(K.getD j 0:Nat):=fun j hj=>by
  rw [ace,acd,abr hj,ace,abr hj];rfl
 have WI:Hid (Calls ay 211 #[.slice (some ⟨X,0,none⟩) K.length K.length,ah 0] w fun e w'=>e = .returned (ah (B:Int))/\w=w'):=by
  refine (Es (some ⟨X,0,none⟩) K.length K.length _ 0 w h.AV (by have:=h.jK;omega)).mono ?_
  rintro e w' ⟨⟨r,rfl,hr⟩,rfl⟩
  refine ⟨?_,rfl⟩
  rcases hr with ⟨i,hi,rfl,hi0,hil⟩|⟨_,hno⟩
  ·rw [hgd i hi] at hi0
   have e:i=B:=by
    rcases Nat.lt_trichotomy i B with h1|h1|h1
    ·exact absurd (acf.1 hi0) (hl i h1)
    ·exact h1
    ·have:=hil B h1
     rw [hgd B hB,hk] at this
     exact absurd rfl this
   rw [e]
  ·have:=hno B hB
   rw [hgd B hB,hk] at this
   exact absurd rfl this
 have HI:=au (lq (k:Int) w)
 rw [cZ (by omega)] at HI
 have hb:=h.aC
 have H:=au h
 obtain ⟨c0,c1,c2,c3,c4,c5,c6⟩:=c
 simp only [aS.cells,List.cons_append,abY] at hb
 have y7:=hb.cell 7 rfl
 have z:=h.gQ.cell B (kS hB)
 have fz:=h.gQ.free B
 have hs:=h.jK
 have HBK:Hid (B<K.length):=hB
 have hBI:(B:Int)<(K.length:Int):=by omega
 have Cc:(0:Int)<=(B:Int):=by omega
 have d0:¬ ((B:Int)<0):=by omega
 have hwr:IntKind.i64.wrap ((k:Int)+1)=(k:Int)+1:=abD _ (by omega)
 have H4:Hid (k<4):=h4
 generalize hL:K.length=L at *
 clear h hb hk hl h4 hgd hs hB
 go_enter func203,ntmps203
 go_wp2_with (first|(go_at_call 108;refine HI.out.mono ?_;rintro e w1 ⟨rfl,rfl⟩)|(go_at_call 211;refine WI.out.mono ?_;rintro e w1 ⟨rfl,rfl⟩))
 go_ret2
 have h9:=H.out
 have hkw:aj (only X) w (w.setCell ⟨X,B,none⟩ (ah ((k:Int)+1))):=(aj.refl _ _).put _ _
 refine ⟨rfl,⟨?_,?_,?_,?_,h9.ok⟩,hkw⟩
 ·rw [acg];exact hkw.aC h9.aC h9.ne
 ·rw [xq];exact h9.gQ.set _ _
 ·rw [acg];exact h9.len
 ·intro x hx
  rcases ach hx with h1|rfl
  ·exact h9.le x h1
  ·have:=H4.out;omega
theorem Gs (h:dW w R X c K) (k:Nat) (hl:∀ j,j<K.length->K.getD j 0≠0) (h4:k<4):Calls ay 203 #[ak R,ah (k:Int)] w fun e w'=>e = .returned (.tuple #[ah 0,ah 10])/\w=w':=by
 have WI:Hid (Calls ay 211 #[.slice (some ⟨X,0,none⟩) K.length K.length,ah 0] w fun e w'=>e = .returned (ah (-1))/\w=w'):=by
  refine (Es (some ⟨X,0,none⟩) K.length K.length _ 0 w h.AV (by have:=h.jK;omega)).mono ?_
  rintro e w' ⟨⟨r,rfl,hr⟩,rfl⟩
  refine ⟨?_,rfl⟩
  rcases hr with ⟨i,hi,rfl,hi0,hil⟩|⟨rfl,_⟩
  ·rw [ace,acd,abr hi] at hi0
   have:=hl i hi
   rw [ace,abr hi] at this
   exact absurd (acf.1 hi0) this
  ·rfl
 have HI:=au (lq (k:Int) w)
 rw [cZ (by omega)] at HI
 have hb:=h.aC
 obtain ⟨c0,c1,c2,c3,c4,c5,c6⟩:=c
 simp only [aS.cells,List.cons_append,abY] at hb
 have y7:=hb.cell 7 rfl
 generalize K.length=L at *
 clear h hb hl h4
 go_enter func203,ntmps203
 go_wp2_with (first|(go_at_call 108;refine HI.out.mono ?_;rintro e w1 ⟨rfl,rfl⟩)|(go_at_call 211;refine WI.out.mono ?_;rintro e w1 ⟨rfl,rfl⟩))
 go_ret2
 exact ⟨rfl,rfl⟩
theorem Vy (c:aS) (b:Nat) (hok:c.ok=true) (hcb:c.b=b) (w:World) (hT:gY w):Calls ay 59 #[.agg c.cells.toArray] w fun e w'=>∃ R X,e = .returned (.tuple #[ak R,ah 0])/\dW w' R X c (abn b 0)/\w.heap.size<=R/\w.heap.size<=X/\aj aA w w':=by
 have hbd:=(iT hok).1
 have hmk:∀ w:World,(Instr.makeSlice 35 (ah (b:Int)) (ah (b:Int))).run ay w = .ok (.slice (some ⟨w.heap.size,0,none⟩) b b) (w.alloc (.cells (eU (ah 0) b).toArray 3)) :=
  fun w=>wM (P:=ay) (by kernel_rfl) Tryz.infoInt rfl (by decide) b (by omega) _ rfl w
 obtain ⟨W0,hW0⟩:∃ W',W'=w.alloc (.cells c.cells.toArray 23):=⟨_,rfl⟩
 have HK:Hid (aj aA w W0):=by rw [hW0];exact (aj.refl _ _).alloc _
 have HR:=au (vk c W0 (hT.aH HK.out))
 rw [hok] at HR
 have HB:=au (show aB W0 w.heap.size c.cells 23 by rw [hW0];exact aB.aW w _ _)
 have yB:=au hok
 have KW:=au hbd
 have sO:Hid (W0.heap.size=w.heap.size+1):=by rw [Hid,hW0];simp
 have hcb':=hcb
 obtain ⟨c0,c1,c2,c3,c4,c5,c6⟩:=c
 simp only at hcb
 subst hcb
 simp only [aS.cells] at *
 clear hT hok hbd hcb'
 go_enter func59,ntmps59
 go_wp2_with fail
 rw [<- hW0]
 clear hW0
 refine HR.out.mono ?_
 rintro e w1 ⟨rfl,hk1⟩
 have hb1:=hk1.aC HB.out (fun f=>f)
 have aZ:=au (HK.out.trans hk1)
 have y0:=hb1.cell 0 rfl;have y1:=hb1.cell 1 rfl;have y2:=hb1.cell 2 rfl;have y3:=hb1.cell 3 rfl;have y4:=hb1.cell 4 rfl;have y5:=hb1.cell 5 rfl;have y6:=hb1.cell 6 rfl
 have HA:∀ o,aj aA w1 (w1.alloc o):=fun o=>(aj.refl _ _).alloc o
 have s0:=fun o=>(HA o).still y0;have s1:=fun o=>(HA o).still y1;have s2:=fun o=>(HA o).still y2;have s3:=fun o=>(HA o).still y3;have s4:=fun o=>(HA o).still y4;have s5:=fun o=>(HA o).still y5;have s6:=fun o=>(HA o).still y6
 clear hk1 hb1 HA HR HK HB
 go_wp2_with fail
 go_region
 obtain ⟨W3,hW3⟩:∃ W',W'=((w1.alloc (.cells (eU (ah 0) b).toArray 3)).alloc (.cells #[ah (b:Int),ah c1,ah c2,ah c3,ah c4,ah c5,ah c6,.slice (some ⟨w1.heap.size,0,none⟩) b b] 153)).drew:=⟨_,rfl⟩
 rw [<- hW3]
 go_wp2_with fail
 go_ret2
 have hz:eU (ah 0) b=bg (abn b 0):=by simp [eU,bg]
 have h1:=aZ.out.size
 refine ⟨w1.heap.size+1,w1.heap.size,rfl,⟨?_,?_,by simp,fun x hx=>by rw [List.eq_of_mem_replicate hx];decide,yB.out⟩,by omega,by omega,?_⟩
 ·rw [hW3]
  have h:=aB.aW (w1.alloc (.cells (eU (ah 0) b).toArray 3)) [ah (b:Int),ah c1,ah c2,ah c3,ah c4,ah c5,ah c6,.slice (some ⟨w1.heap.size,0,none⟩) b b] 153
  rw [abw] at h
  simp only [List.length_replicate,aS.cells,List.cons_append,abY]
  exact h.drew
 ·rw [hW3,hz]
  exact ((aB.aW w1 _ _).alloc _).drew
 ·rw [hW3]
  exact ((aZ.out.alloc _).alloc _).drew
end
theorem RU (k r:Nat) (hk:k<=2) (hr:r<72057594037927936):bits .or .u64 ((k:Int)*72057594037927936) (r:Int)=((k*72057594037927936+r:Nat):Int):=by
 have h1:(k:Int)*72057594037927936=((k*72057594037927936:Nat):Int):=by omega
 rw [h1,bits_or_u64_nat _ _ (by omega) (by omega),nat_join 56 _ _ (by omega) (by omega)]
theorem KX (x:Nat) (hx:x<18446744073709551616):wrap64 (bits .and .u64 (x:Int) 255)=((x%256:Nat):Int):=by
 have h:=bits_and_u64_nat x 255 hx (by decide)
 rw [show ((255:Nat):Int)=255 from rfl] at h
 rw [h,nat_mask8,abG _ (by omega)]
theorem Vz (x:Nat) (hx:x<18446744073709551616):wrap64 (bits .and .u64 (x:Int) 72057594037927935)=((x%72057594037927936:Nat):Int):=by
 have h:=bits_and_u64_nat x 72057594037927935 hx (by decide)
 rw [show ((72057594037927935:Nat):Int)=72057594037927935 from rfl] at h
 have e:x &&& 72057594037927935=x%72057594037927936:=Nat.and_two_pow_sub_one_eq_mod x 56
 rw [h,e,abG _ (by omega)]
theorem Ce (k r:Nat) (hk:k<=2) (hr:r<72057594037927936) (w:World):Calls ay 200 #[ah (k:Int),.int .u64 (r:Int)] w fun e w'=>e = .returned (.int .u64 ((k*72057594037927936+r:Nat):Int))/\w=w':=by
 have HL:=au (RU k r hk hr)
 go_enter func200,ntmps200
 go_wp2_with fail
 go_ret
 refine ⟨?_,rfl⟩
 rw [<- HL.out];rfl
theorem vY (x:Nat) (hx:x<18446744073709551616) (w:World):Calls ay 147 #[.int .u64 (x:Int)] w fun e w'=>e = .returned (.tuple #[ah ((x/256%256:Nat):Int),ah ((x%256:Nat):Int)])/\w=w':=by
 have h1:=KX (x/256) (by omega)
 have h2:((x/256:Nat):Int)=(x:Int)/256:=by omega
 rw [h2] at h1
 have H1:=au h1
 have H2:=au (KX x hx)
 clear h1 h2 hx
 go_enter func147,ntmps147
 go_wp2_with fail
 go_ret2
 refine ⟨?_,rfl⟩
 rw [<- H1.out,<- H2.out];rfl
theorem sJ (x:Nat) (hx:x<18446744073709551616) (w:World):Calls ay 144 #[.int .u64 (x:Int)] w fun e w'=>e = .returned (ah ((x%72057594037927936:Nat):Int))/\w=w':=by
 have H:=au (Vz x hx)
 clear hx
 go_enter func144,ntmps144
 go_wp2_with fail
 go_ret
 refine ⟨?_,rfl⟩
 rw [<- H.out];rfl
def iM (c f:Nat):Nat:=72057594037927936+c*256+f
def dM (a:Nat):Nat:=144115188075855872+a
def iY (c f:Nat):Prop:=c<4/\f+1<=2^(c+1)
instance (c f:Nat):Decidable (iY c f):=inferInstanceAs (Decidable (_/\_))
theorem VA {c:Nat} (h:c<4):kQ (c:Int)=((2^(c+1):Nat):Int) - 1:=by
 unfold kQ
 rw [BQ h]
 obtain rfl|rfl|rfl|rfl:c=0\/c=1\/c=2\/c=3:=by omega
 all_goals rfl
theorem uz (c f:Nat) (hc:c<256) (hf:f<256) (w:World) (hS:eX w):Calls ay 179 #[ah (c:Int),ah (f:Int)] w fun e w'=>e = .returned (.tuple #[.int .u64 ((if iY c f then iM c f else 0:Nat):Int),.bool (decide (iY c f))])/\w=w':=by
 have HI:=au (lq (c:Int) w)
 have HR:=au (wZ (c:Int) w hS)
 by_cases h4:c<4
 ·rw [cZ (by omega)] at HI
  rw [VA h4] at HR
  have h2:2<=2^(c+1)/\2^(c+1)<=16:=by
   obtain rfl|rfl|rfl|rfl:c=0\/c=1\/c=2\/c=3:=by omega
   all_goals decide
  by_cases rW:f+1<=2^(c+1)
  ·have HO:Hid (iY c f):=⟨h4,rW⟩
   rw [aV HO.out,cZ HO.out]
   have HJ:Hid (bits .or .u64 ((c:Int)*256) (f:Int)=((c*256+f:Nat):Int)):=by
    have h1:(c:Int)*256=((c*256:Nat):Int):=by omega
    rw [Hid,h1,bits_or_u64_nat _ _ (by omega) (by omega),nat_join 8 _ _ (by omega) (by omega)]
   have Pn:=au (Ce 1 (c*256+f) (by decide) (by omega) w)
   have HE:Hid (1*72057594037927936+(c*256+f)=iM c f):=by unfold Hid iM;omega
   rw [HE.out,<- HJ.out] at Pn
   generalize 2^(c+1)=z at *
   generalize iM c f=ow at *
   have d1:decide ((z:Int) - 1<(f:Int))=false:=dD (by omega)
   clear hS HO rW HE hc
   have hc4:(c:Int)<4:=by omega
   go_enter func179,ntmps179
   go_wp2_with (first|(go_at_call 108;refine HI.out.mono ?_;rintro e w1 ⟨rfl,rfl⟩)|(go_at_call 185;refine HR.out.mono ?_;rintro e w1 ⟨rfl,rfl⟩)|(go_at_call 200;refine Pn.out.mono ?_;rintro e w1 ⟨rfl,rfl⟩))
   go_ret2
   exact ⟨rfl,rfl⟩
  ·have HO:Hid (¬ iY c f):=fun h=>rW h.2
   rw [aO HO.out,dD HO.out]
   generalize 2^(c+1)=z at *
   have d1:decide ((z:Int) - 1<(f:Int))=true:=cZ (by omega)
   clear hS HO rW h4 hc
   go_enter func179,ntmps179
   go_wp2_with (first|(go_at_call 108;refine HI.out.mono ?_;rintro e w1 ⟨rfl,rfl⟩)|(go_at_call 185;refine HR.out.mono ?_;rintro e w1 ⟨rfl,rfl⟩))
   go_ret2
   exact ⟨rfl,rfl⟩
 ·rw [dD (by omega)] at HI
  have HO:Hid (¬ iY c f):=fun h=>h4 h.1
  rw [aO HO.out,dD HO.out]
  clear hS HO h4 hc HR
  go_enter func179,ntmps179
  go_wp2_with (go_at_call 108;refine HI.out.mono ?_;rintro e w1 ⟨rfl,rfl⟩)
  go_ret2
  exact ⟨rfl,rfl⟩
theorem xu (a:Nat) (ha:a<72057594037927936) (w:World):Calls ay 180 #[ah (a:Int)] w fun e w'=>e = .returned (.tuple #[.int .u64 ((if a<=1048576 then dM a else 0:Nat):Int),.bool (decide (a<=1048576))])/\w=w':=by
 by_cases h:a<=1048576
 ·rw [aV h,cZ h]
  have Pn:=au (Ce 2 a (by decide) ha w)
  have HE:Hid (2*72057594037927936+a=dM a):=by unfold Hid dM;omega
  rw [HE.out] at Pn
  have d1:decide (1048576<(a:Int))=false:=dD (by omega)
  generalize dM a=lw at *
  clear HE
  go_enter func180,ntmps180
  go_wp2_with (go_at_call 200;refine Pn.out.mono ?_;rintro e w1 ⟨rfl,rfl⟩)
  go_ret2
  exact ⟨rfl,rfl⟩
 ·rw [aO h,dD h]
  have d1:decide (1048576<(a:Int))=true:=cZ (by omega)
  clear h
  go_enter func180,ntmps180
  go_wp2_with fail
  go_ret2
  exact ⟨rfl,rfl⟩
theorem mP {c f:Nat} (h:iY c f):c<4/\f<16/\iM c f<144115188075855872/\iM c f/72057594037927936=1/\iM c f/256%256=c/\iM c f%256=f:=by
 have hc:=h.1
 have h2:2^(c+1)<=16:=by
  obtain rfl|rfl|rfl|rfl:c=0\/c=1\/c=2\/c=3:=by omega
  all_goals decide
 have hf:f<16:=by have:=h.2;omega
 unfold iM
 refine ⟨hc,hf,by omega,by omega,by omega,by omega⟩
theorem pO {a:Nat} (h:a<=1048576):dM a<216172782113783808/\dM a/72057594037927936=2/\dM a%72057594037927936=a:=by
 unfold dM
 refine ⟨by omega,by omega,by omega⟩
theorem rY (x k:Nat) (hx:x/72057594037927936=k):(x:Int)/72057594037927936=(k:Int):=by
 have h1:((x:Int)/72057594037927936)=((x/72057594037927936:Nat):Int):=by omega
 rw [h1,hx]
theorem MP (c f:Nat) (h:iY c f) (w:World) (hS:eX w):Calls ay 143 #[.int .u64 (iM c f:Int)] w fun e w'=>e = .returned (ah 1)/\w=w':=by
 obtain ⟨hc,hf,hx,h1,h2,h3⟩:=mP h
 have HP:=au (vY (iM c f) (by omega) w)
 rw [h2,h3] at HP
 have HO:=au (uz c f (by omega) (by omega) w hS)
 rw [aV h,cZ h] at HO
 have hk:=rY (iM c f) 1 h1
 generalize iM c f=x at *
 clear h h1 h2 h3 hS
 go_enter func143,ntmps143
 go_wp2_with (first|(go_at_call 147;refine HP.out.mono ?_;rintro e w1 ⟨rfl,rfl⟩)|(go_at_call 179;refine HO.out.mono ?_;rintro e w1 ⟨rfl,rfl⟩))
 go_ret
 exact ⟨rfl,rfl⟩
theorem JB (a:Nat) (h:a<=1048576) (w:World):Calls ay 143 #[.int .u64 (dM a:Int)] w fun e w'=>e = .returned (ah 2)/\w=w':=by
 obtain ⟨hx,h1,h2⟩:=pO h
 have HA:=au (sJ (dM a) (by omega) w)
 rw [h2] at HA
 have HL:=au (xu a (by omega) w)
 rw [aV h,cZ h] at HL
 have hk:=rY (dM a) 2 h1
 generalize dM a=x at *
 clear h1 h2
 go_enter func143,ntmps143
 go_wp2_with (first|(go_at_call 144;refine HA.out.mono ?_;rintro e w1 ⟨rfl,rfl⟩)|(go_at_call 180;refine HL.out.mono ?_;rintro e w1 ⟨rfl,rfl⟩))
 go_ret
 exact ⟨rfl,rfl⟩
theorem JC (c f:Nat) (h:iY c f) (w:World) (hS:eX w):Calls ay 113 #[.int .u64 (iM c f:Int)] w fun e w'=>e = .returned (.tuple #[ah (c:Int),ah (f:Int),.bool true])/\w=w':=by
 have HK:=au (MP c f h w hS)
 obtain ⟨hc,hf,hx,h1,h2,h3⟩:=mP h
 have HP:=au (vY (iM c f) (by omega) w)
 rw [h2,h3] at HP
 generalize iM c f=x at *
 clear h h1 h2 h3 hS
 go_enter func113,ntmps113
 go_wp2_with (first|(go_at_call 147;refine HP.out.mono ?_;rintro e w1 ⟨rfl,rfl⟩)|(go_at_call 143;refine HK.out.mono ?_;rintro e w1 ⟨rfl,rfl⟩))
 go_ret3
 exact ⟨rfl,rfl⟩
theorem JD (a:Nat) (h:a<=1048576) (w:World):Calls ay 109 #[.int .u64 (dM a:Int)] w fun e w'=>e = .returned (.tuple #[ah (a:Int),.bool true])/\w=w':=by
 have HK:=au (JB a h w)
 obtain ⟨hx,h1,h2⟩:=pO h
 have HA:=au (sJ (dM a) (by omega) w)
 rw [h2] at HA
 generalize dM a=x at *
 clear h1 h2
 go_enter func109,ntmps109
 go_wp2_with (first|(go_at_call 144;refine HA.out.mono ?_;rintro e w1 ⟨rfl,rfl⟩)|(go_at_call 143;refine HK.out.mono ?_;rintro e w1 ⟨rfl,rfl⟩))
 go_ret2
 exact ⟨rfl,rfl⟩
end
section
def iU (W:List Nat) (i:Nat):Bool:=(W.getD (i/64) 0).testBit (i%64)
def pW (W:List Nat) (i:Nat):List Nat:=W.set (i/64) (W.getD (i/64) 0 ^^^ 2^(i%64))
theorem Gt (W:List Nat) (i:Nat):(pW W i).length=W.length:=by simp [pW]
theorem yC {W:List Nat} {i:Nat} (h:i<W.length) (x:Nat):(W.set i x).getD i 0=x:=by
 rw [ace,List.getElem?_set_self h];rfl
theorem getD_set_ne {W:List Nat} {i j:Nat} (h:i≠j) (x:Nat):(W.set i x).getD j 0=W.getD j 0:=by
 rw [ace,List.getElem?_set_ne h,<- ace]
theorem Po {W:List Nat} {i:Nat} (h:i/64<W.length):iU (pW W i) i = !iU W i:=by
 unfold iU pW
 rw [yC h,aci,Nat.testBit_two_pow_self]
 simp
theorem MQ {W:List Nat} {i j:Nat} (h:j≠i):iU (pW W i) j=iU W j:=by
 unfold iU pW
 by_cases e:i/64=j/64
 ·by_cases hl:i/64<W.length
  ·rw [<- e,yC hl,aci,Nat.testBit_two_pow_of_ne (by omega)]
   simp
  ·rw [List.set_eq_of_length_le (by omega)]
 ·rw [getD_set_ne e]
theorem VB {W:List Nat} {i:Nat} (hW:∀ x∈W,x<2^64):∀ x∈pW W i,x<2^64:=by
 intro x hx
 unfold pW at hx
 rcases ach hx with h|rfl
 ·exact hW x h
 ·have h1:W.getD (i/64) 0<2^64:=by
   by_cases hl:i/64<W.length
   ·rw [ace,abr hl]
    exact hW _ (List.getElem_mem hl)
   ·rw [ace,List.getElem?_eq_none (by omega)];decide
  exact Nat.xor_lt_two_pow h1 (Nat.pow_lt_pow_right (by decide) (Nat.mod_lt _ (by decide)))
theorem KY (n i:Nat):iU (abn n 0) i=false:=by
 unfold iU
 have e:(abn n 0).getD (i/64) 0=0:=by
  rw [ace,List.getElem?_replicate]
  split<;>rfl
 rw [e,Nat.zero_testBit]
theorem VD (X k:Nat) (hX:X<18446744073709551616):bits .and .u64 ((X/2^k:Nat):Int) 1=if X.testBit k then 1 else 0:=by
 have h1:X/2^k<18446744073709551616:=Nat.lt_of_le_of_lt (abE _ _) hX
 have h:=bits_and_u64_nat (X/2^k) 1 h1 (by decide)
 rw [show ((1:Nat):Int)=1 from rfl] at h
 rw [h,Nat.and_one_is_mod,Nat.testBit_eq_decide_div_mod_eq]
 by_cases e:X/2^k%2=1
 ·rw [aV (by simpa using e),e];rfl
 ·have e0:X/2^k%2=0:=by omega
  rw [aO (by simpa using e),e0];rfl
end
end Go.Proofs.YtobfpmijbfgmeabGreatDoor
