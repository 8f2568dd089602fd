/- Parts of the walk. No conditions. -/
import Derived.Test.YtobfpmijbfgmeabGreatDoorZzgu
import Derived.Shelf.Spec.TrailingZeros
import Derived.Lib.MinMax
namespace Go.Proofs.YtobfpmijbfgmeabGreatDoor
open _root_.Array renaming getElem?_eq_some_iff->abN,replicate_succ->abV
open _root_.Bool renaming and_false->adh,eq_false_iff->acY,false_ne_true->adk
open _root_.Go.IntWalk renaming i64_in->abD
open _root_.Go.World renaming putObj_heap_other->abM
open _root_.Int renaming toNat_natCast->abB
open _root_.List renaming all_eq_true->acp,append_toArray->abX,eq_nil_of_length_eq_zero->acW,find?_eq_none->adi,getD_eq_getElem?_getD->ace,getElem?_eq_getElem->abr,getElem?_eq_none_iff->adn,getElem?_eq_some_iff->abl,getElem_mem->acJ,getElem_of_mem->ado,mem_map->adg,mem_of_getElem?->adp,mem_range->acr,nil_append->abY,push_toArray->abW,range->acZ,size_toArray->abU
open _root_.Nat renaming div_le_self->abE,eq_zero_or_pos->acX,le_of_lt->adq,le_refl->abg,le_trans->abh,lt_of_le_of_lt->adl,lt_of_lt_of_le->abj,lt_succ_self->abQ,zero_le->abZ
open _root_.Go.Proofs.Tryz hiding prog
open _root_.Go.Proofs.Tryz renaming prog->ay
set_option maxRecDepth 100000
set_option maxHeartbeats 4000000
section
attribute [local go_sem] Oper.semAt_some
open Go.RowKit
theorem IQ (a:Option Addr) (n c:Nat) (rs:List (List Value)) (w:World) (h:iL w a n 2 rs) (hr:∀ r∈rs,r.length=2) (hnil:a=none->c=0) (hm:n<=100000000) (h1:∀ r∈rs,∀ u∈r,u.oneCell'=true) :
 Calls ay 51 #[.slice a n c] w fun e w'=>∃ v',e = .returned v'/\w'.ownsRow w.heap.size 76 2 v' n rs.flatten/\aj aA w w':=by
 have hlen:=Bo rs hr
 have hnl:=h.len
 cases a with
 | none =>
   have h0:n=0:=by
    rcases acX n with h0|h0
    ·exact h0
    ·obtain ⟨b,off,e,_⟩:=h.jR h0;cases e
   subst h0
   have:rs=[]:=acW hnl
   subst this
   obtain rfl:=hnil rfl
   clear h hr hnil hm h1 hlen hnl
   have hn:=fun w=>Lib.run_eql_slice_nil (P:=ay) w 64 76 none 0 0 0 0 (by kernel_rfl)
   go_enter func51,ntmps51
   go_wp2
   go_ret
   exact ⟨_,rfl,World.ownsRow_nil _ _ _ _,aj.refl _ _⟩
 | some ad =>
   have hn:=fun w=>Lib.run_eql_slice_nil (P:=ay) w 64 76 (some ad) n c 0 0 (by kernel_rfl)
   obtain ⟨i0,hi1,hi2,hi3,hi4⟩:=info_parts Tryz.infoResC
   have hw0:∀ w:World,(w.alloc (.cells #[] 76)).ownsRow w.heap.size 76 2 (.slice (some ⟨w.heap.size,0,none⟩) 0 0) 0 []:=fun w=>World.ownsRow_made w #[] 0 (abg _) (by decide) rfl
   have HC:=au (fun j u hj=>(h.below ((aj.refl aA w).alloc (.cells #[] 76))).Fb (by decide) hr rfl j u hj)
   have HU:Hid (∀ u∈rs.flatten,u.oneCell'=true):=fun u hu=>by
    obtain ⟨r,hr1,hr2⟩:=List.mem_flatten.1 hu
    exact h1 r hr1 u hr2
   rw [hnl] at hlen
   generalize rs.flatten=xs at *
   clear h hr hnil h1 hnl
   go_enter func51,ntmps51
   go_wp2_with (at_builtin;refine wpList_append_own _ rfl _ _ 64 rfl w.heap.size 76 i0 (.agg #[ah 0,ah 0]) 2 16 (by kernel_rfl) hi1 hi2 hi3 hi4 rfl (by decide) _ _ _ rfl (hw0 w) ad n c xs rfl hlen HC.out HU.out (by unfold maxLen;omega) (by omega) (by simp) ?_;intro v' w1 hown hgr _)
   have hown':w1.ownsRow w.heap.size 76 2 v' n xs:=by simpa using hown
   have hkeep:aj aA w w1:=((aj.refl aA w).alloc _).jJ hgr (fun k e hk=>absurd hk (by have e':w.heap.size=k:=Option.some.inj e;omega))
   clear hown hgr
   go_wp2
   go_ret
   exact ⟨_,rfl,hown',hkeep⟩
def mF (aU:List (Int × Nat)):List (List Value):=aU.map fun r=>[Value.int .i64 r.1,Value.int .i64 (r.2:Int)]
theorem wF {aU:List (Int × Nat)}:∀ r∈mF aU,r.length=2:=fun r hr=>by
 obtain ⟨x,_,rfl⟩:=adg.1 hr;rfl
theorem Kz {aU:List (Int × Nat)}:∀ r∈mF aU,∀ u∈r,u.oneCell'=true:=fun r hr u hu=>by
 obtain ⟨x,_,rfl⟩:=adg.1 hr
 simp at hu
 rcases hu with rfl|rfl<;>rfl
section
variable {o:Ow} {w w':World} {G:eH} {g:MG} {s:Sh} {m:MS} {nv:Value} {ev:Option Ev}
theorem zy (h:aQ o w G g s m ev nv) (hl:m.aU.length<=100000000):Calls ay 21 #[ak g.M] w fun e w'=>∃ a c,e = .returned (.slice a m.aU.length c)/\iL w' a m.aU.length 2 (mF m.aU)/\(∀ x,a=some x->w.heap.size<=x.block)/\aj aA w w':=by
 obtain ⟨rv,er,hr,ra,rc,y9⟩:=h.Bv
 have hl2:(mF m.aU).length=m.aU.length:=by simp [mF]
 obtain ⟨a,c,e1,hrec,hnc⟩:=iL.qc (rs:=mF m.aU) hr.1 wF hl2
 have hnil:a=none->c=0:=fun e=>by
  rcases hr.1.2 with ⟨e2,_⟩|⟨q,aJ,cur,e2,_⟩
  ·rw [e2] at e1;simp only [Value.slice.injEq] at e1;exact e1.2.2.symm
  ·rw [e2] at e1;rw [e] at e1;cases e1
 rw [e1] at er
 have HC:=au (IQ a m.aU.length c (mF m.aU) w hrec wF hnil (by omega) Kz)
 have gI:Hid (∀ v' W',W'.ownsRow w.heap.size 76 2 v' m.aU.length (mF m.aU).flatten->∃ a c,v' = .slice a m.aU.length c/\iL W' a m.aU.length 2 (mF m.aU)/\∀ x,a=some x->w.heap.size<=x.block):=fun v' W' hv=>by
  obtain ⟨a,c,e1,hrec,hnc⟩:=iL.qc (rs:=mF m.aU) hv wF hl2
  refine ⟨a,c,e1,hrec,fun x hx=>?_⟩
  rcases hv.2 with ⟨e2,_⟩|⟨q,aJ,cur,e2,hq,_⟩
  ·rw [e2] at e1;simp only [Value.slice.injEq] at e1;rw [<- e1.1] at hx;cases hx
  ·rw [e2] at e1;simp only [Value.slice.injEq] at e1;rw [<- e1.1] at hx;cases hx;exact hq
 generalize m.aU.length=n at *
 generalize mF m.aU=rs at *
 clear h hr hrec hnc hnil hl hl2 y9 e1
 go_enter func21,ntmps21
 go_wp2_with fail
 refine HC.out.mono ?_
 rintro e w1 ⟨v',rfl,ho,hk⟩
 obtain ⟨a',c',rfl,h1,h2⟩:=gI.out v' w1 ho
 have HR:=au (And.intro h1 (And.intro h2 hk))
 clear ho hk h1 h2
 go_wp2_with fail
 go_ret
 exact ⟨a',c',rfl,HR.out.1,HR.out.2.1,HR.out.2.2⟩
end
structure Du (w:World):Prop where
 t:gY w
 s:eX w
 g:2<w.heap.size/\3<w.heap.size/\1<w.heap.size
theorem Du.aH {w w':World} (h:Du w) (k:aj aA w w'):Du w':=⟨h.t.aH k,h.s.aH k,by have:=k.size;have:=h.g;omega⟩
def sD (w W:World) (G:eH) (g:MG) (s:Sh) (m:MS):Prop:=∃ o:Ow,jX o W G g s m/\(∀ x,x<w.heap.size->o x=0)/\aj aA w W
section
variable {w W W':World} {G:eH} {g:MG} {s:Sh} {m:MS}
theorem aj.Dv {o:Ow} {I:List Nat} (k0:aj aA w W) (k:aj (In o I) W W') (h0:I.contains 0=false) (hz:∀ x,x<w.heap.size->o x=0):aj aA w W' :=
 k0.jI k (fun i hi hin=>absurd hin (fU (hz i hi) h0))
theorem sD.pick {N:Nat} (h:sD w W G g s m) (ok:qA N s m) (hN:N<=1000000000):Calls ay 10 #[ak g.M] W fun e w'=>e = .returned (.tuple #[xY (cu s m).2.2,wW (cu s m).2.2])/\sD w w' G g (cu s m).1 (cu s m).2.1:=by
 obtain ⟨o,h1,h2,h3⟩:=h
 refine (Fe h1 ok hN (EZ _)).mono ?_
 rintro e w' ⟨o',rfl,e1,h4,k4⟩
 exact ⟨rfl,o',h4,fun x hx=>(e1 x (abj hx h3.size)).trans (h2 x hx),h3.Dv k4 (bD _) h2⟩
theorem sD.done (h:sD w W G g s m):Calls ay 8 #[ak g.M] W fun e w'=>e = .returned (.bool (jG m))/\sD w w' G g s m:=by
 obtain ⟨o,h1,h2,h3⟩:=h
 refine (Fh h1).mono ?_
 rintro e w' ⟨rfl,k⟩
 exact ⟨rfl,o,h1.still k,h2,h3.trans k⟩
theorem sD.results (h:sD w W G g s m) (hl:m.aU.length<=100000000):Calls ay 21 #[ak g.M] W fun e w'=>∃ a c,e = .returned (.slice a m.aU.length c)/\iL w' a m.aU.length 2 (mF m.aU)/\sD w w' G g s m:=by
 obtain ⟨o,h1,h2,h3⟩:=h
 obtain ⟨ev,nv,h4,h5⟩:=id h1
 refine (zy h4 hl).mono ?_
 rintro e w' ⟨a,c,rfl,hr,_,k⟩
 exact ⟨a,c,rfl,hr,o,h1.still k,h2,h3.trans k⟩
theorem sD.aH (h:sD w W G g s m):aj aA w W:=by obtain ⟨o,h1,h2,h3⟩:=h;exact h3
end
theorem Bd.TN (n:Nat) (i:Nat):(Bd.aW (n:Int)).ji (i:Int)=false:=by
 have h:(Bd.aW (n:Int)).qI (i:Int)=false:=by
  unfold Bd.qI Bd.aW
  simp only [abB]
  rw [ace,List.getElem?_replicate]
  split<;>rfl
 unfold Bd.ji
 rw [h,adh]
theorem KC (w:World) (hT:Du w):Calls ay 5 #[] w fun e w'=>e = .returned (.bool true)/\aj aA w w':=by
 have lQ:=au (BP ⟨0,0,0,1,0,0,0⟩ w)
 have hlt:(⟨0,0,0,1,0,0,0⟩:aS).wL=Qc:=by decide
 rw [hlt] at lQ
 have EK:Hid (∀ W,aj aA w W->Calls ay 6 #[.agg Qc.cells.toArray] W fun e w'=>∃ (o:Ow) (G:eH),e = .returned (.tuple #[ak G.S,ah 0])/\eG o w' G qW/\(∀ x,x<W.heap.size->o x=0)/\(∀ x,o x<20)/\aj aA W w'):=fun W hW =>
  Ib Qc 1 16 0 1 (by decide) rfl rfl rfl rfl W (hT.aH hW).t (hT.aH hW).s (hT.aH hW).g
 have hok0:qA 0 qW su:=qA.first 0 _ (oK.aW _ _ _ _ _) rfl (by decide)
 have yB:Hid (∀ k,k<=16->qA k (jq k qW su).1 (jq k qW su).2):=fun k _=>by have h:=(Hw hok0 k).1;rwa [Nat.zero_add] at h
 simp only [aS.cells] at lQ EK
 clear hT hlt hok0
 go_enter func5,ntmps5
 go_wp2_with fail
 refine lQ.out.mono ?_
 rintro e w1 ⟨rfl,k1⟩
 have mQ:=au (EK.out w1 k1)
 have aZ:=au k1
 clear k1 lQ EK
 go_wp2_with fail
 refine mQ.out.mono ?_
 rintro e w2 ⟨o,G,rfl,hsh,hz,hz20,k2⟩
 have bH:=au (aZ.out.trans k2)
 have HZ:Hid (∀ x,x<w.heap.size->o x=0):=fun x hx=>hz x (abj hx aZ.out.size)
 have aaD:=au hsh
 obtain ⟨W3,hW3⟩:∃ W3,W3=w2.alloc (.cells #[ah 1,ah 0,ah 1,ah 0,ah 7,ah 1,ah 0,ah 0] 45):=⟨_,rfl⟩
 have k3:aj aA w2 W3:=by rw [hW3];exact (aj.refl _ _).alloc _
 have hb3:aB W3 w2.heap.size [ah 1,ah 0,ah 1,ah 0,ah 7,ah 1,ah 0,ah 0] 45:=by rw [hW3];exact aB.aW w2 _ _
 have hrec:iL W3 (some ⟨w2.heap.size,0,none⟩) 2 4 (gX [⟨1,0,1,0⟩,⟨7,1,0,0⟩]):=by
  refine ⟨rfl,fun _=>⟨_,0,rfl,fun i r hi j v hj=>?_⟩⟩
  refine hb3.cell _ ?_
  have hi2:=(abl.1 hi).1
  simp [gX] at hi2
  rcases (by omega:i=0\/i=1) with rfl|rfl
  ·simp [gX,bQ.cells] at hi;subst hi
   have hj2:=(abl.1 hj).1
   simp at hj2
   rcases (by omega:j=0\/j=1\/j=2\/j=3) with rfl|rfl|rfl|rfl<;>simpa using hj
  ·simp [gX,bQ.cells] at hi;subst hi
   have hj2:=(abl.1 hj).1
   simp at hj2
   rcases (by omega:j=0\/j=1\/j=2\/j=3) with rfl|rfl|rfl|rfl<;>simpa using hj
 have HN:=au (Fj (hsh.still k3 (by decide)) (by decide) 0 (by decide) [⟨1,0,1,0⟩,⟨7,1,0,0⟩] 2 rfl (by decide) (some ⟨w2.heap.size,0,none⟩) 2 hrec (fun e=>by cases e))
 have lT:=au (bH.out.trans k3)
 have HW3:=au hW3
 clear hsh hz hz20 k2 hW3 k3 hb3 hrec mQ
 go_wp2_with fail
 rw [<- HW3.out]
 refine HN.out.mono ?_
 rintro e w4 ⟨o',g,rfl,e4,h4,h4x,k4⟩
 have HI0:Hid (sD w w4 G g (jq 0 qW su).1 (jq 0 qW su).2):=⟨o',h4,fun x hx=>(e4 x (abj hx lT.out.size)).trans (HZ.out x hx),lT.out.trans k4⟩
 clear e4 h4 h4x k4 HN HZ aaD
 go_wp2_with fail
 go_loopw [5] (fun i wr=>∃ k:Nat,k<=16/\i = ah k/\sD w wr G g (jq k qW su).1 (jq k qW su).2) (fun i _=>16 - (intOf i).toNat)
 case atStart=>exact ⟨0,abZ _,rfl,HI0.out⟩
 case round =>
  obtain ⟨k,hk,rfl,TP⟩:=hrel
  have HD:=au (sD.done TP)
  have Gg:(k:Int)<100:=by omega
  have hk0:(0:Int)<=(k:Int):=by omega
  by_cases hlt:k<16
  ·have hdn:jG (jq k qW su).2=false:=by rw [LC k (by omega)];exact dD (by omega)
   rw [hdn] at HD
   have HP:Hid (∀ W,sD w W G g (jq k qW su).1 (jq k qW su).2->Calls ay 10 #[ak g.M] W fun e w'=>(∃ v,e = .returned v)/\sD w w' G g (jq (k+1) qW su).1 (jq (k+1) qW su).2):=fun W hW=>by
    refine (hW.pick (yB.out k hk) (by omega)).mono ?_
    rintro e w' ⟨rfl,h⟩
    exact ⟨⟨_,rfl⟩,h⟩
   clear TP hdn
   go_wp2_with fail
   refine HD.out.mono ?_
   rintro e w5 ⟨rfl,h5⟩
   have Z4:=au (HP.out w5 h5)
   clear h5 HD HP
   go_wp2_with fail
   refine Z4.out.mono ?_
   rintro e w6 ⟨⟨v,rfl⟩,h6⟩
   have H6:=au h6
   clear h6 Z4
   go_wp2_with fail
   go_roundw
   case rel=>exact ⟨k+1,by omega,by go_num,H6.out⟩
   case measure=>simp [intOf]<;>omega
  ·obtain rfl:k=16:=by omega
   have hdn:jG (jq 16 qW su).2=true:=by rw [LC 16 (by omega)];rfl
   rw [hdn] at HD
   have HR:Hid (∀ W,sD w W G g (jq 16 qW su).1 (jq 16 qW su).2->Calls ay 21 #[ak g.M] W fun e w'=>∃ b off c,e = .returned (.slice (some ⟨b,off,none⟩) 2 c)/\w'.cell? ⟨b,off,none⟩=some (ah 0)/\w'.cell? ⟨b,off+1,none⟩=some (ah 1)/\w'.cell? ⟨b,off+2,none⟩=some (ah 0)/\w'.cell? ⟨b,off+3,none⟩=some (ah 1)/\aj aA w w'):=fun W hW=>by
    refine (hW.results (by rw [Hy];decide)).mono ?_
    rintro e w' ⟨a,c,rfl,hr,h⟩
    rw [Hy] at hr
    obtain ⟨b,off,rfl,hc⟩:=hr.jR (by decide)
    refine ⟨b,off,c,by rw [Hy];rfl,?_,?_,?_,?_,h.aH⟩
    ·exact hc 0 _ rfl 0 _ rfl
    ·exact hc 0 _ rfl 1 _ rfl
    ·exact hc 1 _ rfl 0 _ rfl
    ·exact hc 1 _ rfl 1 _ rfl
   clear TP hdn
   go_wp2_with fail
   refine HD.out.mono ?_
   rintro e w5 ⟨rfl,h5⟩
   have Z5:=au (HR.out w5 h5)
   clear h5 HD HR
   go_wp2_with fail
   refine Z5.out.mono ?_
   rintro e w6 ⟨b,off,c,rfl,y0,y1,y2,y3,hk6⟩
   have H6:=au hk6
   clear hk6 Z5
   go_wp2_with fail
   go_ret
   exact ⟨rfl,H6.out⟩
def Z7 (w W:World) (G:eH) (s:Sh):Prop:=∃ o:Ow,eG o W G s/\(∀ x,x<w.heap.size->o x=0)/\aj aA w W/\s.eF.length<=8
section
variable {w W W':World} {G:eH} {g:MG} {s:Sh} {m:MS}
theorem jX.pz {o:Ow} {H:HS} (h:jX o W G g s m) (k:aj (HF G.D) W W') (hH:aK W' G.D H) (hc:H.c=s.H.c):jX o W' G g { s with H:=H } m/\aj (In o [1]) W W':=by
 obtain ⟨ev,nv,h1,hn⟩:=h
 obtain ⟨h2,k1⟩:=h1.sh.kZ k hH h1.box8
 exact ⟨⟨ev,nv,h1.vK k1 rfl (by simp<;>omega) h2 rfl hc,hn.aP k1 rfl (by simp<;>omega)⟩,k1⟩
end
def rM (w W:World) (Z:List (Nat × List Value × TypeId)) (G:eH) (g:MG) (s:Sh) (m:MS):Prop:=∃ o:Ow,jX o W G g s m/\(∀ x,x<w.heap.size->o x=0)/\aj aA w W/\∀ z∈Z,o z.1=0/\aB W z.1 z.2.1 z.2.2
section
variable {w W W':World} {Z:List (Nat × List Value × TypeId)} {G:eH} {g:MG} {s:Sh} {m:MS}
theorem rM.aC (h:rM w W Z G g s m) {z:Nat × List Value × TypeId} (hz:z∈Z):aB W z.1 z.2.1 z.2.2:=by
 obtain ⟨o,_,_,_,h4⟩:=h
 exact (h4 z hz).2
theorem rM.sh (h:rM w W Z G g s m):W.cell? ⟨G.S,0,none⟩=some (ak (G.D 0))/\W.cell? ⟨G.S,1,none⟩=some (ak G.B)/\∃ a c,W.cell? ⟨G.S,4,none⟩=some (.slice a s.eF.length c)/\∀ i,i<s.eF.length->∃ b off,a=some ⟨b,off,none⟩/\W.cell? ⟨b,off+i,none⟩=some (ak (G.bx i)):=by
 obtain ⟨o,⟨ev,nv,h1,_⟩,_,_,_⟩:=h
 exact ⟨h1.sh.IL.1,h1.s0.2.1,h1.sh.IL.2.2⟩
end
end
section
open Go.RowKit
section
variable {o o':Ow} {w W W':World} {Z:List (Nat × List Value × TypeId)} {G:eH} {g:MG} {s:Sh} {m:MS} {ev:Option Ev} {nv:Value}
theorem aQ.vO {I:List Nat} (h:aQ o W G g s m ev nv) (k:aj (In o I) W W') (hI:I.all (fun i=>decide (20<=i))=true) (h0:I.contains 0=false) (hi:I.contains (20+m.id)=false) (e:dL W o o') (hf:jS o' W'):aQ o' W' G g s m ev nv:=by
 obtain ⟨pv,rv,h1,h2,h3⟩:=h.aC
 have k':=k.yS e
 obtain ⟨_,v,hb,_⟩:=id h.bJ
 exact ⟨h.sh.move k hI h.box8 e hf,⟨pv,rv,h1.aP k h.oM hi,(h2.ext e).aP k' h0,(h3.ext e).aP k' hi⟩,(e _ h1.lt).trans h.oM,h.aI.aP k h.oX hi,(e _ h.aI.lt).trans h.oX,(h.bJ.ext e).aP k' h0 ((e _ hb.lt).trans h.uN) hi,(e _ hb.lt).trans h.uN,h.nt.aP k h.qX h0,(e _ h.nt.lt).trans h.qX,h.qB,h.box8,h.uO,h.pK,h.uP⟩
theorem jX.vO {I:List Nat} (h:jX o W G g s m) (k:aj (In o I) W W') (hI:I.all (fun i=>decide (90<=i))=true) (e:dL W o o') (hf:jS o' W'):jX o' W' G g s m:=by
 obtain ⟨ev,nv,h1,hn⟩:=h
 have hge:∀ i,i<90->I.contains i=false:=fun i hi=>by
  rw [acY]
  intro hc
  have:=acp.1 hI i (by simpa using hc)
  simp at this;omega
 have hI2:I.all (fun i=>decide (20<=i))=true:=acp.2 (fun i hi=>by have:=acp.1 hI i hi;simp at this ⊢;omega)
 have i8:m.id<8:=abj h1.qB h1.box8
 exact ⟨ev,nv,h1.vO k hI2 (hge 0 (by decide)) (hge _ (by omega)) e hf,(hn.ext e).aP (k.yS e) (hge 0 (by decide)) (hge _ (by omega))⟩
theorem IU {a:Option Addr} {n c base:Nat} {l:List Nat} (h:W.ownsRow base 3 1 (.slice a n c) n (bg l)):gB .i64 W a n (l.map fun x:Nat=>(x:Int)):=by
 have hl:l.length=n:=by have:=h.1;simpa [bg] using this
 refine ⟨by simp [hl],fun h0=>?_⟩
 rcases h.2 with ⟨_,h1⟩|⟨q,aJ,cur,e1,_,hg,hn,_,hs,hc⟩
 ·omega
 ·cases e1
  refine ⟨q,0,rfl,fun j hj=>?_⟩
  have h9:(bg l)[j]?=some (ah ((l.getD j 0:Nat):Int)):=kS (by omega)
  rw [<- hc] at h9
  rw [List.getElem?_take_of_lt (by omega)] at h9
  have h8:cur[0+j]?=some (ah ((l.getD j 0:Nat):Int)):=by simpa using h9
  have e2:(l.map fun x:Nat=>(x:Int)).getD j 0=((l.getD j 0:Nat):Int):=by
   rw [ace,List.getElem?_map,abr (by omega),ace,abr (by omega)];rfl
  rw [e2]
  simp [World.cell?,hg]
  simpa using h8
end
def qO (s:Nat->Bool) (size n:Nat):Option Nat:=(acZ size).find? fun k=>decide (n<=k)&&s k
theorem Dw (p:Nat->Bool):∀ (size k:Nat),k<size->p k=true->(∀ j,j<k->p j=false)->(acZ size).find? p=some k
 | 0,k,h,_,_=>absurd h (Nat.not_lt_zero k)
 | size+1,k,h,hp,hj=>by
   rw [List.range_succ,List.find?_append]
   by_cases e:k<size
   ·rw [Dw p size k e hp hj];rfl
   ·obtain rfl:k=size:=by omega
    have h0:(acZ k).find? p=none:=adi.2 (fun x hx=>by rw [hj x (acr.1 hx)];decide)
    rw [h0]
    simp [hp]
theorem zA {s:Nat->Bool} {size n k:Nat} (h1:n<=k) (h2:k<size) (h3:s k=true) (h4:∀ j,n<=j->j<k->s j=false):qO s size n=some k:=by
 refine Dw _ size k h2 (by rw [cZ h1,h3];rfl) (fun j hj=>?_)
 by_cases e:n<=j
 ·rw [h4 j e hj,adh]
 ·rw [dD e];rfl
theorem vP {s:Nat->Bool} {size n:Nat} (h:∀ j,n<=j->j<size->s j=false):qO s size n=none :=
 adi.2 (fun x hx=>by
  by_cases e:n<=x
  ·rw [h x e (acr.1 hx),adh];exact adk
  ·rw [dD e,Bool.false_and];exact adk)
theorem zB (W:List Nat) (n j:Nat) (hj:n%64+j<64):iU W (n+j)=(W.getD (n/64) 0/2^(n%64)).testBit j:=by
 unfold iU
 have e1:(n+j)/64=n/64:=by omega
 have e2:(n+j)%64=n%64+j:=by omega
 rw [e1,e2,Nat.testBit_div_two_pow]
 congr 1
 omega
theorem QM {W:List Nat} {n:Nat} (h:W.getD (n/64) 0/2^(n%64)=0) (j:Nat) (h1:n<=j) (h2:j<n+(64 - n%64)):iU W j=false:=by
 obtain ⟨d,rfl⟩:∃ d,j=n+d:=⟨j - n,by omega⟩
 rw [zB W n d (by omega),h,Nat.zero_testBit]
theorem QN {W:List Nat} {n t l:Nat} (hl:l=W.getD (n/64) 0/2^(n%64)) (hx:W.getD (n/64) 0<18446744073709551616) (h0:l≠0) (ht:t=Lib.ctz 64 l):n%64+t<64/\iU W (n+t)=true/\∀ j,n<=j->j<n+t->iU W j=false:=by
 have hl2:l<2^64:=by
  rw [hl]
  exact adl (abE _ _) hx
 obtain ⟨m,hm,hk⟩:=Lib.ctzFrom_spec 64 l (by omega) hl2
 have e:t=Lib.ctzFrom 64 l:=by rw [ht];unfold Lib.ctz;rw [aO h0]
 rw [<- e] at hm hk
 have hmod:n%64<64:=Nat.mod_lt _ (by decide)
 have h64:n%64+t<64:=by
  have h1:2^t<=l:=by rw [hm];exact Nat.le_mul_of_pos_right _ (by omega)
  have h2:l*2^(n%64)<=W.getD (n/64) 0:=by rw [hl];exact Nat.div_mul_le_self _ _
  have h3:2^t*2^(n%64)<=l*2^(n%64):=Nat.mul_le_mul_right _ h1
  rw [<- Nat.pow_add] at h3
  have h4:2^(t+n%64)<2^64:=by
   have:(2:Nat)^64=18446744073709551616:=by decide
   omega
  have:=(Nat.pow_lt_pow_iff_right (by decide:1<2)).1 h4
  omega
 have hbit:∀ j,l.testBit j=(decide (t<=j)&&(2*m+1).testBit (j - t)):=fun j=>by rw [hm,Nat.mul_comm,Nat.testBit_mul_two_pow]
 refine ⟨h64,?_,fun j h1 h2=>?_⟩
 ·rw [zB W n t h64,<- hl,hbit,cZ (abg t),Nat.sub_self]
  simp [Nat.testBit_zero]
 ·obtain ⟨d,rfl⟩:∃ d,j=n+d:=⟨j - n,by omega⟩
  rw [zB W n d (by omega),<- hl,hbit,dD (by omega)];rfl
def nD (w:World):Prop:=TabAt 0 Lib.deBruijn64tab w
theorem nD.mJ {S:Nat->Prop} {w w':World} (h:nD w) (k:aj S w w') (h1:¬ S 0):nD w':=fun j hj=>k.jV (h j hj) h1
theorem nD.still {w w':World} (h:nD w) (k:aj aA w w'):nD w':=h.mJ k (fun f=>f)
theorem QO (x k idx:Nat) (w:World) (hx0:((x:Int)==0)=false)
 (key:IntKind.u64.wrap (bits BinOp.and IntKind.u64 (x:Int) (IntKind.u64.wrap (-(x:Int)))*285870213051353865)/288230376151711744=(idx:Int))
 (hi:idx<64) (hk:k<64) (hcell:w.cell? ⟨0,idx,none⟩=some (.int .u8 k)) :
 Calls ay 114 #[.int .u64 (x:Int)] w fun e w'=>e = .returned (ah (k:Int))/\w=w':=by
 go_enter func114,ntmps114
 go_wp2_with (simp only [key])
 go_ret
 exact ⟨rfl,rfl⟩
theorem TQ (x:Nat) (hx:x<18446744073709551616) (h0:x≠0) (w:World) (hT:nD w):Calls ay 114 #[.int .u64 (x:Int)] w fun e w'=>e = .returned (ah (Lib.ctz 64 x:Int))/\w=w':=by
 obtain ⟨hlow,hk⟩:=Lib.lowest_bit 64 x h0 hx
 obtain ⟨hi,htab⟩:=Lib.deBruijn64_at _ hk
 have hcell:=hT _ hi
 rw [htab] at hcell
 exact QO x _ _ w (by simp;omega) (tz64_key x _ hx h0 hlow) hi hk hcell
section
variable {w w':World} {B X size:Nat} {W:List Nat}
def tZ:Option Nat->Value
 | some k => .tuple #[ah (k:Int),.bool true]
 | none => .tuple #[ah 0,.bool false]
theorem QS (h:fG w B X size W) (hT:nD w) (n:Nat) (hn:n<=4194304):Calls ay 82 #[ak B,ah (n:Int)] w fun e w'=>e = .returned (tZ (qO (iU W) size n))/\w=w':=by
 have HM:Hid (∀ k:Nat,Calls ay 76 #[ak B,ah (k:Int)] w fun e w'=>e = .returned (.bool (decide (k<size)))/\w=w'):=fun k=>by
  have h9:=AX h (k:Int)
  have e:decide (0<=(k:Int)/\(k:Int)<(size:Int))=decide (k<size):=by rw [Bool.eq_iff_iff];simp
  rw [e] at h9
  exact h9
 obtain ⟨aJ,hblk⟩:=h.aC
 have y0:=hblk.cell 0 rfl
 have hsz:=h.sz
 have HX:=au h
 have LH:=au hT
 have hn0:(0:Int)<=(n:Int):=by omega
 have hn1:¬ ((n:Int)<0):=by omega
 have hn2:¬ ((0:Int) > (n:Int)):=by omega
 have hn3:max (n:Int) 0=(n:Int):=by omega
 have HL:Hid (∀ k:Nat,k<size->k/64<W.length):=fun k hk=>(h.dV hk).1
 generalize W.length=L at *
 clear h hT hblk
 go_enter func82,ntmps82
 go_wp2_with fail
 refine wp_scope_straight ?_
 go_wp2_with fail
 refine wp_label ?_
 go_wp2_with fail
 go_loopw [1,6] (fun v _ wr=>∃ k:Nat,v = ah (k:Int)/\n<=k/\k<=4194368/\wr=w/\∀ j,n<=j->j<k->iU W j=false) (fun v _ _=>4194368 - (intOf v).toNat)
 case atStart=>exact ⟨n,rfl,abg _,by omega,rfl,fun j h1 h2=>by omega⟩
 case round =>
  obtain ⟨k,rfl,hk1,hk2,rfl,hk⟩:=hrel
  have IV:=au (HM.out k)
  by_cases hlt:k<size
  ·rw [cZ hlt] at IV
   obtain ⟨_,hc,hx⟩:=HX.out.dV hlt
   have hL:=HL.out k hlt
   obtain ⟨x,hxe⟩:∃ x,x=W.getD (k/64) 0:=⟨_,rfl⟩
   obtain ⟨lf,hlf⟩:∃ lf,lf=W.getD (k/64) 0/2^(k%64):=⟨_,rfl⟩
   rw [<- hxe] at hc hx
   have hsh:((x:Int)/2^(k%64))=(lf:Int):=by rw [hlf,<- hxe];simp
   have XO:Hid (lf=0->∀ j,k<=j->j<k+(64 - k%64)->iU W j=false):=fun e=>QM (by rw [<- hlf];exact e)
   have Au:Hid (lf≠0->k%64+Lib.ctz 64 lf<64/\iU W (k+Lib.ctz 64 lf)=true/\∀ j,k<=j->j<k+Lib.ctz 64 lf->iU W j=false):=fun e=>QN hlf (by rw [<- hxe];exact hx) e rfl
   have aaE:lf<18446744073709551616:=by rw [hlf,<- hxe];exact adl (abE _ _) hx
   have HKB:=au hk
   have XP:Hid (lf≠0->Calls ay 114 #[.int .u64 (lf:Int)] wr fun e w'=>e = .returned (ah (Lib.ctz 64 lf:Int))/\wr=w'):=fun e=>TQ lf aaE e wr LH.out
   have hk62:k<2097152:=by omega
   generalize Lib.ctz 64 lf=t at *
   clear hk hlf hxe
   by_cases h0:lf=0
   ·subst h0
    have HZ:=au (XO.out rfl)
    have d0:(((0:Nat):Int) != 0)=false:=rfl
    have hmod:k%64<64:=Nat.mod_lt _ (by decide)
    have hw1:IntKind.i64.wrap (64 - (k:Int)%64)=64 - (k:Int)%64:=abD _ (by omega)
    have hw2:IntKind.i64.wrap ((k:Int)+(64 - (k:Int)%64))=(k:Int)+(64 - (k:Int)%64):=abD _ (by omega)
    clear XO Au XP
    go_wp2_with fail
    refine IV.out.mono ?_
    rintro e w1 ⟨rfl,rfl⟩
    go_wp2_with fail
    go_roundw
    case rel =>
     refine ⟨k+(64 - k%64),by congr 1;omega,by omega,by omega,trivial,fun j h1 h2=>?_⟩
     by_cases e:j<k
     ·exact HKB.out j h1 e
     ·exact HZ.out j (by omega) h2
    case measure=>simp [intOf];omega
   ·have d0:((lf:Int)==0)=false:=by simp;omega
    have HT2:=au (XP.out h0)
    obtain ⟨g1,g2,g3⟩:=Au.out h0
    have HG2:=au g2
    have Ac:=au g3
    have hwr:IntKind.i64.wrap ((k:Int)+(t:Int))=(k:Int)+(t:Int):=abD _ (by omega)
    have U4:Hid (Calls ay 76 #[ak B,ah ((k:Int)+(t:Int))] wr fun e w'=>e = .returned (.bool (decide (k+t<size)))/\wr=w'):=by
     have h9:=HM.out (k+t)
     rw [show (((k+t:Nat)):Int)=(k:Int)+(t:Int) from by push_cast;rfl] at h9
     exact h9
    have P8:Hid (k+t<size->qO (iU W) size n=some (k+t)):=fun h=>zA (by omega) h HG2.out (fun j h1 h2=>by
     by_cases e:j<k
     ·exact HKB.out j h1 e
     ·exact Ac.out j (by omega) h2)
    have yF:Hid (¬ k+t<size->qO (iU W) size n=none):=fun h=>vP (fun j h1 h2=>by
     by_cases e:j<k
     ·exact HKB.out j h1 e
     ·exact Ac.out j (by omega) (by omega))
    clear g2 g3 XO Au XP
    by_cases hb:k+t<size
    ·rw [cZ hb] at U4
     have HR:=au (P8.out hb)
     clear P8 yF hb
     go_wp2_with fail
     refine IV.out.mono ?_
     rintro e w1 ⟨rfl,rfl⟩
     go_wp2_with fail
     refine HT2.out.mono ?_
     rintro e w1 ⟨rfl,rfl⟩
     go_wp2_with fail
     refine U4.out.mono ?_
     rintro e w1 ⟨rfl,rfl⟩
     go_wp2_with fail
     simp only [Exit.noGoto]
     go_ret2
     exact ⟨by rw [HR.out];simp [tZ],rfl⟩
    ·rw [dD hb] at U4
     have HR:=au (yF.out hb)
     clear P8 yF hb
     go_wp2_with fail
     refine IV.out.mono ?_
     rintro e w1 ⟨rfl,rfl⟩
     go_wp2_with fail
     refine HT2.out.mono ?_
     rintro e w1 ⟨rfl,rfl⟩
     go_wp2_with fail
     refine U4.out.mono ?_
     rintro e w1 ⟨rfl,rfl⟩
     go_wp2_with fail
     simp only [Exit.noGoto]
     go_ret2
     exact ⟨by rw [HR.out];rfl,rfl⟩
  ·rw [dD hlt] at IV
   have HR:Hid (qO (iU W) size n=none):=vP (fun j h1 h2=>hk j h1 (by omega))
   clear hk
   go_wp2_with fail
   refine IV.out.mono ?_
   rintro e w1 ⟨rfl,rfl⟩
   go_wp2_with fail
   refine IV.out.mono ?_
   rintro e w1 ⟨rfl,rfl⟩
   go_wp2_with fail
   simp only [Exit.noGoto]
   go_ret2
   exact ⟨by rw [HR.out];rfl,rfl⟩
end
end
section
attribute [local go_sem ↓] mD
attribute [local go_sem] Oper.semAt_some
open Go.RowKit
def iw (s:Nat->Bool) (size:Nat):List Nat:=(acZ size).filter s
theorem lu {s:Nat->Bool} {size x:Nat}:x∈iw s size↔x<size/\s x=true:=by simp [iw]
theorem Aw (s:Nat->Bool) (size:Nat):(iw s size).Pairwise (· < ·):=(List.pairwise_lt_range (n:=size)).filter _
theorem TR (s:Nat->Bool) (size:Nat):(iw s size).length<=size:=by
 have h:=List.length_filter_le s (acZ size)
 simpa [iw] using h
theorem uj {s:Nat->Bool} {size i j:Nat} (h:i<j) (hj:j<(iw s size).length):(iw s size)[i]'(by omega)<(iw s size)[j]:=(List.pairwise_iff_getElem.1 (Aw s size)) i j (by omega) hj h
theorem Oz {s:Nat->Bool} {size i x y:Nat} (hx:(iw s size)[i]?=some x) (hy:(iw s size)[i+1]?=some y):x<y:=by
 obtain ⟨hi,rfl⟩:=abl.1 hx
 obtain ⟨hj,rfl⟩:=abl.1 hy
 exact uj (abQ i) hj
theorem OA (s:Nat->Bool) (size:Nat):qO s size 0=(iw s size)[0]?:=by
 cases h:(iw s size)[0]? with
 | none =>
   refine vP (fun j _ hj=>?_)
   rw [acY]
   intro hs
   have hm:j∈iw s size:=lu.2 ⟨hj,hs⟩
   have hl:=adn.1 h
   have hnil:iw s size=[]:=acW (by omega)
   rw [hnil] at hm
   cases hm
 | some x =>
   obtain ⟨h0,hx⟩:=abl.1 h
   have hm:x∈iw s size:=by rw [<- hx];exact acJ h0
   obtain ⟨h1,h2⟩:=lu.1 hm
   refine zA (abZ _) h1 h2 (fun j _ hj=>?_)
   rw [acY]
   intro hs
   obtain ⟨i,hi,e⟩:=ado (lu.2 ⟨by omega,hs⟩:j∈iw s size)
   rcases acX i with rfl|hp
   ·omega
   ·have:=uj (s:=s) (size:=size) hp hi;omega
theorem QT {s:Nat->Bool} {size i x:Nat} (hx:(iw s size)[i]?=some x):qO s size (x+1)=(iw s size)[i+1]?:=by
 obtain ⟨hi,rfl⟩:=abl.1 hx
 cases h:(iw s size)[i+1]? with
 | none =>
   refine vP (fun j hj1 hj=>?_)
   rw [acY]
   intro hs
   obtain ⟨q,hq,e⟩:=ado (lu.2 ⟨hj,hs⟩:j∈iw s size)
   have hl:=adn.1 h
   rcases (by omega:q<i\/q=i) with h1|rfl
   ·have:=uj (s:=s) (size:=size) h1 hi;omega
   ·omega
 | some y =>
   obtain ⟨h0,hy⟩:=abl.1 h
   have hm:y∈iw s size:=by rw [<- hy];exact acJ h0
   obtain ⟨h1,h2⟩:=lu.1 hm
   have hlt:(iw s size)[i]<y:=by rw [<- hy];exact uj (abQ i) h0
   refine zA hlt h1 h2 (fun j hj1 hj2=>?_)
   rw [acY]
   intro hs
   obtain ⟨q,hq,e⟩:=ado (lu.2 ⟨by omega,hs⟩:j∈iw s size)
   rcases (by omega:q<i+1\/q=i+1\/i+1<q) with h3|rfl|h3
   ·rcases (by omega:q<i\/q=i) with h4|rfl
    ·have:=uj (s:=s) (size:=size) h4 hi;omega
    ·omega
   ·omega
   ·have:=uj (s:=s) (size:=size) h3 hq;omega
structure jO (Ts:List TypeId) (N:Nat) (W W':World):Prop where
 size:W.heap.size<=W'.heap.size
 CY:∀ b,b<N->W'.heap[b]?=W.heap[b]?
 aC:∀ b cs T,Ts.contains T=true->aB W b cs T->aB W' b cs T
theorem jO.refl (Ts:List TypeId) (N:Nat) (W:World):jO Ts N W W:=⟨abg _,fun _ _=>rfl,fun _ _ _ _ h=>h⟩
theorem jO.trans {Ts:List TypeId} {N:Nat} {A B C:World} (h:jO Ts N A B) (k:jO Ts N B C):jO Ts N A C:=⟨abh h.size k.size,fun b hb=>(k.CY b hb).trans (h.CY b hb),fun b cs T' hT hb=>k.aC b cs T' hT (h.aC b cs T' hT hb)⟩
theorem jO.rel (Ts:List TypeId) (N:Nat):MI N (jO Ts N):=⟨jO.trans,fun W L o o' hL ho hc _=>⟨by simp,fun b hb=>abM (by omega),fun b cs T' _ hb=>hb.putObj ho hc⟩⟩
theorem jO.set {Ts:List TypeId} {N:Nat} {W W':World} {B X size:Nat} {ws:List Nat} (h:jO Ts N W W') (h1:Ts.contains 156=true) (h2:Ts.contains 118=true) (hs:fG W B X size ws):fG W' B X size ws:=by
 obtain ⟨⟨aJ,hb⟩,⟨cur,hc,hv⟩,hl,hlt,hsz⟩:=hs
 exact ⟨⟨aJ,h.aC _ _ _ h1 hb⟩,⟨cur,h.aC _ _ _ h2 hc,hv⟩,hl,hlt,hsz⟩
theorem jO.tab {Ts:List TypeId} {N:Nat} {W W':World} (h:jO Ts N W W') (hN:0<N) (hs:nD W):nD W':=fun j hj=>by
 rw [World.cell?_of_block (w:=W) (h.CY _ hN)];exact hs j hj
theorem jO.nR {Ts:List TypeId} {N:Nat} {W W':World} (k:aj aA W W') (hN:N<=W.heap.size):jO Ts N W W':=⟨k.size,fun b hb=>k.block b (by omega) (fun f=>f),fun b cs T _ hb=>k.aC hb (fun f=>f)⟩
def xZ (_:World) (x:Nat) (args:Array Value):Prop:=args=#[ah (x:Int)]
def OB:List TypeId:=[156,118]
section
variable {w w':World} {B X size:Nat} {W:List Nat}
theorem XQ (B:Nat) (w:World):Calls ay 56 #[ak B] w fun e w'=>e = .returned (.func (.func 81) #[] #[ak w.heap.size])/\w'=w.alloc (.cells #[ak B] 106):=by
 have hmf:∀ (fn:Fn) (first aJ:Array Value) (w:World),(Instr.makeFunc fn first aJ).run ay w = .ok (.func fn first aJ) w:=fun _ _ _ _=>rfl
 go_enter func56,ntmps56
 go_wp2_with fail
 go_ret
 exact ⟨rfl,rfl⟩
def TS (size:Nat) (v:Value):Value->Nat
 | .bool true=>size+1 - (intOf v).toNat
 | _=>0
theorem Dx (x:Option Nat):∃ (a:Nat) (b:Bool),tZ x = .tuple #[ah (a:Int),.bool b]:=by
 cases x with
 | none=>exact ⟨0,false,rfl⟩
 | some k=>exact ⟨k,true,rfl⟩
theorem V7 {N:Nat} (h:fG w B X size W) (h1:1<=size) (hT:nD w) (hN:0<N) (pB:Nat) (hp:aB w pB [ak B] 106) (m:Nat) :
 MJ Fence.wide m ay 81 #[ak pB] (iw (iU W) size) xZ (jO OB N) w:=by
 intro l J Jx W1 hW hJ hJx hY h0
 have hs1:=h.still hW
 have hp1:=hW.aC hp (fun f=>f)
 have hsz:=h.sz
 have c0:=hp1.cell 0 (v := ak B) rfl
 have HC:=au (Ew hs1 h1)
 have HT1:=au (hT.still hW)
 have HF:=au (OA (iU W) size)
 have QU:Hid (∀ i x,(iw (iU W) size)[i]?=some x->qO (iU W) size (x+1)=(iw (iU W) size)[i+1]?/\x<size/\∀ y,(iw (iU W) size)[i+1]?=some y->x<y/\y<size):=fun i x hx=>⟨QT hx,(lu.1 (adp hx)).1,fun y hy=>⟨Oz hx hy,(lu.1 (adp hy)).1⟩⟩
 have qH:Hid (∀ V B' X' (n:Nat),fG V B' X' size W->nD V->n<=4194304->Calls ay 82 #[ak B',ah (n:Int)] V fun e w'=>e = .returned (tZ (qO (iU W) size n))/\V=w'):=fun V B' X' n h2 h3 h4=>QS h2 h3 n h4
 have HKT:Hid (∀ V V' B' X',jO OB N V V'->fG V B' X' size W->nD V->fG V' B' X' size W/\nD V'):=fun V V' B' X' k h2 h3=>⟨k.set (by decide) (by decide) h2,k.tab hN h3⟩
 have IW:=au hJ
 have H0:=au h0
 have HY:=au hY
 generalize qO (iU W) size=nx at *
 generalize iw (iU W) size=L at *
 clear h hT hp hs1 hp1 hW hJ hJx hY h0
 refine callsIn_of_wp func81 rfl trivial ?_ rfl
 simp only [ntmps81,abU,List.length_cons,List.length_nil,Nat.reduceAdd,Nat.reduceSub,abV,Array.replicate_zero,abW,abX,abY,List.cons_append]
 gi_wp2_with fail
 refine ⟨trivial,fun h=>(by cases h),CallsIn.mono (callsIn_wide.2 HC.out) ?_⟩
 rintro e w1 ⟨B',X',rfl,hs2,_,_,k2⟩
 have HT2:=au (HT1.out.still k2)
 have HS2:=au hs2
 have HJ2:=au (IW.out 0 _ _ H0.out k2)
 have G7:=au (qH.out w1 B' X' 0 hs2 (HT1.out.still k2) (by decide))
 clear k2 hs2 HT1 HC H0 c0
 obtain ⟨a0,b0,hv0⟩:=Dx (nx 0)
 rw [hv0] at G7
 rw [HF.out] at hv0
 have HV0:=au hv0
 clear hv0 HF
 gi_wp2_with fail
 refine ⟨trivial,fun h=>(by cases h),CallsIn.mono (callsIn_wide.2 G7.out) ?_⟩
 rintro e w2 ⟨rfl,rfl⟩
 clear G7
 gi_wp2_with fail
 gi_loopw [4,5] (fun v4 v5 wr=>∃ (j a:Nat) (b:Bool),v4 = ah (a:Int)/\v5 = .bool b/\tZ L[j]? = .tuple #[ah (a:Int),.bool b]/\j<=L.length/\J j wr/\fG wr B' X' size W/\nD wr) (fun v4 v5 _=>TS size v4 v5)
 case atStart=>exact ⟨0,a0,b0,rfl,rfl,HV0.out,abZ _,HJ2.out,HS2.out,HT2.out⟩
 case round =>
  obtain ⟨j,a,b,rfl,rfl,hv,hj,pG,hs,ht⟩:=hrel
  cases Fp:L[j]? with
  | none =>
    rw [Fp] at hv
    obtain ⟨rfl,rfl⟩:a=0/\b=false:=by
     simp only [tZ,Value.tuple.injEq,Array.mk.injEq,List.cons.injEq,Value.int.injEq,Value.bool.injEq] at hv
     exact ⟨by omega,by have:=hv.2.1;exact this.symm⟩
    have hlen:=adn.1 Fp
    have BX:Hid (J L.length wr):=by
     have e:j=L.length:=by omega
     rw [<- e];exact pG
    clear hv hj pG hs ht Fp hlen
    gi_wp2_with fail
    go_end0
    exact ⟨⟨_,rfl⟩,.inl BX.out⟩
  | some x =>
    rw [Fp] at hv
    obtain ⟨rfl,rfl⟩:a=x/\b=true:=by
     simp only [tZ,Value.tuple.injEq,Array.mk.injEq,List.cons.injEq,Value.int.injEq,Value.bool.injEq] at hv
     exact ⟨by omega,by have:=hv.2.1;exact this.symm⟩
    obtain ⟨hth,hxs,hys⟩:=QU.out j a Fp
    have HYS:=au hys
    have hjl:=(abl.1 Fp).1
    have HJ:=au pG
    have Z8:=au hxs
    have Az:=au hjl
    have HST:=au (And.intro hs ht)
    have HTX:=au hth
    have hwr:IntKind.i64.wrap ((a:Int)+1)=(a:Int)+1:=abD _ (by omega)
    obtain ⟨fn,tmps,assign,body,hy,hR⟩:=HY.out j a #[ah (a:Int)] wr Fp HJ.out rfl
    clear hv hj pG hs ht Fp hth hxs hjl hys
    gi_wp2_with fail
    refine ⟨fun h=>(by cases h),hR.mono ?_⟩
    rintro e W' (⟨rfl,hJ',hk⟩|⟨rfl,xk⟩)
    ·obtain ⟨hs',ht'⟩:=HKT.out _ _ _ _ hk HST.out.1 HST.out.2
     have CO:=au (qH.out W' B' X' (a+1) hs' ht' (by have:=Z8.out;omega))
     rw [show (((a+1:Nat)):Int)=(a:Int)+1 from by push_cast;rfl] at CO
     obtain ⟨a3,b3,hv3⟩:=Dx (nx (a+1))
     rw [hv3] at CO
     rw [HTX.out] at hv3
     have Z9:=au hv3
     have HE:=au (And.intro hJ' (And.intro hs' ht'))
     clear hJ' hk hs' ht' hv3
     gi_wp2_with fail
     refine ⟨trivial,fun h=>(by cases h),CallsIn.mono (callsIn_wide.2 CO.out) ?_⟩
     rintro e w3 ⟨rfl,rfl⟩
     clear CO
     gi_wp2_with fail
     go_roundw
     case rel=>exact ⟨j+1,a3,b3,rfl,rfl,Z9.out,Az.out,HE.out.1,HE.out.2.1,HE.out.2.2⟩
     case measure =>
      have hxs:=Z8.out
      have hv3:=Z9.out
      cases b3 with
      | false=>simp [TS,intOf];omega
      | true =>
        cases hL2:L[j+1]? with
        | none=>rw [hL2] at hv3;simp [tZ] at hv3
        | some y =>
          rw [hL2] at hv3
          have e9:y=a3:=by
           simp only [tZ,Value.tuple.injEq,Array.mk.injEq,List.cons.injEq,Value.int.injEq] at hv3
           omega
          have h9:=HYS.out y hL2
          simp [TS,intOf];omega
    ·gi_wp2_with fail
     refine bodyPost_ret (results_none rfl _ _ _) rfl ?_
     exact ⟨⟨_,rfl⟩,.inr ⟨j+1,by have:=Az.out;omega,xk⟩⟩
end
def oI (bx:Nat) (W:World) (b:Nat):Prop:=∃ v,aB W bx [v] 35/\v.ownBlock=some b
structure je (Ts:List TypeId) (bx N:Nat) (W W':World):Prop where
 t:jO Ts N W W'
 o:∀ b cs T,b≠bx->¬ oI bx W b->aB W b cs T->aB W' b cs T/\¬ oI bx W' b
 n:(∀ q,oI bx W q->q<W.heap.size)->∀ q,oI bx W' q->q<W'.heap.size
theorem x9 {bx b:Nat} {W:World} (h:aB W bx [.slice none 0 0] 35):¬ oI bx W b:=by
 rintro ⟨v,h1,h2⟩
 have e:=(h1.gK h).1
 simp only [List.cons.injEq,and_true] at e
 rw [e] at h2
 simp [Value.ownBlock] at h2
theorem je.refl (Ts:List TypeId) (bx N:Nat) (W:World):je Ts bx N W W:=⟨jO.refl _ _ _,fun _ _ _ _ h k=>⟨k,h⟩,fun h=>h⟩
theorem je.trans {Ts:List TypeId} {bx N:Nat} {A B C:World} (h:je Ts bx N A B) (k:je Ts bx N B C):je Ts bx N A C:=⟨h.t.trans k.t,fun b cs T h1 h2 h3=>by
 obtain ⟨g1,g2⟩:=h.o b cs T h1 h2 h3
 exact k.o b cs T h1 g2 g1,fun q=>k.n (h.n q)⟩
theorem IX {bx b L:Nat} {W:World} {o o':Obj} (ho:W.heap[L]?=some o) (hc':o'.isCells=false) (h:oI bx (W.putObj L o') b):oI bx W b:=by
 obtain ⟨v,g1,g2⟩:=h
 refine ⟨v,?_,g2⟩
 by_cases e:L=bx
 ·subst e
  unfold aB at g1
  rw [World.putObj_heap_same (abN.1 ho).1] at g1
  cases g1
  simp [Obj.isCells] at hc'
 ·unfold aB at *
  rwa [abM (fun e2=>e e2.symm)] at g1
theorem je.rel (Ts:List TypeId) (bx N:Nat):MI N (je Ts bx N):=⟨je.trans,fun W L o o' hL ho hc hc'=>⟨(jO.rel Ts N).put W L o o' hL ho hc hc',fun b cs T h1 h2 h3=>⟨h3.putObj ho hc,fun f=>h2 (IX ho hc' f)⟩,fun h q f=>by simpa using h q (IX ho hc' f)⟩⟩
theorem vX.mono {S:Nat->Prop} {E:World->Prop} {F:Fence} {n:Nat} {P:Program} {g:Nat} {lb:Array Value} {all:List Nat} {Enc:World->Nat->Array Value->Prop} {R R':World->World->Prop} {w:World} (h:vX S E F n P g lb all Enc R w) (hR:∀ A B,R' A B->R A B):vX S E F n P g lb all Enc R' w:=by
 intro l J Jx W h1 h2 h3 h4 h5
 refine h l J Jx W h1 h2 h3 (fun k x args W1 g1 g2 g3=>?_) h5
 obtain ⟨fn,tmps,sg,body,k1,k2⟩:=h4 k x args W1 g1 g2 g3
 exact ⟨fn,tmps,sg,body,k1,k2.mono (fun e W' q=>q.elim (fun q => .inl ⟨q.1,q.2.1,hR _ _ q.2.2⟩) .inr)⟩
structure pV (S:Nat->Prop) (E:World->Prop) (w:World) (N1 oB:Nat) (r:List Nat) (W:World):Prop where
 aH:aj S w W
 yA:N1<=W.heap.size
 o:∃ v,aB W oB [v] 35/\W.ownsRow N1 3 1 v r.length (bg r)
 e:E W
def Dy (B:Nat) (E:World->Prop):Prop:=∀ (A C:World) (T:Nat->Prop),(∀ b,T b->B<=b)->aj T A C->E A->E C
section
variable {S:Nat->Prop} {E:World->Prop} {w W W' w3:World} {N1 N oB x:Nat} {r:List Nat}
theorem pV.own (hw:w.heap.size<=N1) (hE:Dy w.heap.size E):OwnFrom N1 (fun (r:List Nat)=>pV S E w N1 oB r):=by
 rintro s W W' row ⟨h1,h2,⟨v,h3,h4⟩,h5⟩ hg hr
 have kr:aj (fun i=>row=some i) W W':=⟨hg.os,hg.tape,hg.output,hg.size,fun k hk n=>hg.block k hk (fun e=>n e.symm)⟩
 refine ⟨uo (β:=Nat) hw 0 W W' row h1 hg hr,abh h2 hg.size,⟨v,lN (β:=Nat) (cs:=fun _=>_) 0 W W' row h3 hg hr,?_⟩,hE W W' _ (fun b e=>abh hw (hr b e).1) kr h5⟩
 refine fQ (S:=fun i=>row=some i) h4 ⟨hg.os,hg.tape,hg.output,hg.size,fun k hk n=>hg.block k hk (fun e=>n e.symm)⟩ (fun g hg' e=>?_)
 obtain ⟨_,o,ho,hc⟩:=hr g e
 obtain ⟨cur,hcur⟩:=qy (dF h4 (abZ _)) hg'
 rw [hcur] at ho
 cases ho
 simp [Obj.isCells] at hc
theorem pV.later (h:pV S E w N1 oB r W) (hS:∀ b,S b->b<oB) (h1:oB<N1) (k:aj S W W') (ke:E W->E W'):pV S E w N1 oB r W':=by
 obtain ⟨g1,g2,⟨v,g3,g4⟩,g5⟩:=h
 exact ⟨g1.trans k,abh g2 k.size,⟨v,k.aC g3 (fun f=>Nat.lt_irrefl _ (hS _ f)),fQ g4 k (fun q hq f=>by have:=(World.ownsRow.lt g4 q hq).1;have:=hS _ f;omega)⟩,ke g5⟩
theorem pV.push (h:pV S E w N1 oB r w3) (hN:N<=oB) (h1:oB<N1) (hw:w.heap.size<=oB) (hS:∀ b,S b->b<oB) (hE:Dy w.heap.size E) (hr:r.length<=4000000) (Ts:List TypeId) (hT1:Ts.contains 3=false) (hT2:Ts.contains 35=false) :
 ∃ v g aJ w5,w3.cell? ⟨oB,0,none⟩=some v/\(∀ o,(w3.alloc o).cell? ⟨oB,0,none⟩=some v)/\(app9 #[35,35] 35 #[v,.slice (some ⟨w3.heap.size,0,none⟩) 1 1]).run ay (w3.alloc (.cells #[ah (x:Int)] 3)) = .ok (.slice (some ⟨g,0,none⟩) (r.length+1) aJ) w5/\w5.cell? ⟨oB,0,none⟩=some v/\w5.frozen? ⟨oB,0,none⟩=false /\
  pV S E w N1 oB (r++[x]) (w5.setCell ⟨oB,0,none⟩ (.slice (some ⟨g,0,none⟩) (r.length+1) aJ))/\KeepsFrom N1 w3 (w5.setCell ⟨oB,0,none⟩ (.slice (some ⟨g,0,none⟩) (r.length+1) aJ))/\je Ts oB N w3 (w5.setCell ⟨oB,0,none⟩ (.slice (some ⟨g,0,none⟩) (r.length+1) aJ)):=by
 obtain ⟨hkeep,hbig,⟨v,rX,hrow⟩,he⟩:=h
 obtain ⟨W4,fC⟩:∃ W',W'=w3.alloc (.cells #[ah (x:Int)] 3):=⟨_,rfl⟩
 have hk4:aj aA w3 W4:=by rw [fC];exact (aj.refl _ _).alloc _
 have hs4:W4.heap.size=w3.heap.size+1:=by rw [fC];simp
 obtain ⟨g,aJ,w5,hrun,hown,hgr,hwh⟩:=qx (P:=ay) W4 35 35 3 (by kernel_rfl) Tryz.infoInt rfl (dF (gy hrow hk4) (abZ _)) (N:=w3.heap.size) (u := ah (x:Int)) (by rw [fC];exact (aB.aW w3 _ _).cell 0 rfl) rfl (by decide) (by omega)
 have hne:v.ownBlock≠some oB:=jY rX hrow (by decide)
 have hbo5:=(hk4.aC rX (fun f=>f)).jJ hgr hne
 have hge:∀ q,v.ownBlock=some q->N1<=q:=fun q hq=>(World.ownsRow.lt hrow q hq).1
 have hge':N1<=g:=by
  rcases hwh with h|h
  ·exact hge g h
  ·have h2:=hk4.size;omega
 have hneq:∀ q,q<N1->v.ownBlock≠some q:=fun q hq e=>by have:=hge q e;omega
 have kg:aj (fun i=>v.ownBlock=some i) W4 w5:=⟨hgr.os,hgr.tape,hgr.output,hgr.size,fun k hk n=>hgr.block k hk (fun e=>n e.symm)⟩
 have he5:E w5:=hE _ _ _ (fun b e=>by have:=hge b e;omega) kg (hE _ _ _ (fun _ f=>f.elim) hk4 he)
 have hk5:aj S w w5:=(hkeep.trans (hk4.mono (fun _ _ f=>f.elim))).jI (T:=fun i=>v.ownBlock=some i) kg (fun i hi e=>absurd e (hneq i (by omega)))
 have hnew:∀ q,oI oB (w5.setCell ⟨oB,0,none⟩ (.slice (some ⟨g,0,none⟩) (r.length+1) aJ)) q->q=g:=by
  rintro q ⟨v',g1,g2⟩
  have e9:=(g1.gK (hbo5.set 0 (.slice (some ⟨g,0,none⟩) (r.length+1) aJ))).1
  simp only [List.set_cons_zero,List.cons.injEq,and_true] at e9
  rw [e9] at g2
  exact (show g=q by simpa [Value.ownBlock] using g2).symm
 refine ⟨v,g,aJ,w5,rX.cell 0 rfl,fun o=>(rX.alloc o).cell 0 rfl,by rw [<- fC];exact hrun,hbo5.cell 0 rfl,hbo5.free 0,⟨hk5.dS hw _ _,?_,⟨.slice (some ⟨g,0,none⟩) (r.length+1) aJ,hbo5.set 0 _,?_⟩,hE _ _ (only oB) (fun b e=>by have:b=oB:=e;omega) ((aj.refl _ _).put _ _) he5⟩,?_,⟨⟨?_,fun b hb=>?_,fun b cs T hT hb=>?_⟩,fun b cs T h7 h8 hb=>⟨?_,fun f=>?_⟩,fun _ q f=>?_⟩⟩
 ·have h2:=hk4.size;have h3:=hgr.size;simp;omega
 ·have e:bg (r++[x])=bg r++[ah (x:Int)]:=by simp [bg]
  rw [e,List.length_append,List.length_singleton]
  exact Gn (vF (a:=⟨oB,0,none⟩) hown (fun q hq=>by simp [Value.ownBlock] at hq;show q≠oB;omega) _) hge'
 ·refine (KeepsFrom.nR hk4).trans (KeepsFrom.trans (Y:=w5) ⟨hgr.size,fun q o hB hq ho=>(hgr.block q (abN.1 hq).1 (fun e=>?_)).trans hq⟩ ((KeepsOthers.setCell _ _ _).from _))
  obtain ⟨cur,hcur⟩:=qy (dF (gy hrow hk4) (abZ _)) e.symm
  rw [hcur] at hq
  cases hq
  simp [Obj.isCells] at ho
 ·have h2:=hk4.size;have h3:=hgr.size;simp;omega
 ·have hb3:b<w3.heap.size:=by omega
  rw [Below.heap_setCell _ _ _ _ (by simp;omega),hgr.block b (abj hb3 hk4.size) (fun e=>hneq b (by omega) e.symm)]
  exact hk4.block b hb3 (fun f=>f)
 ·have n1:T≠3:=fun e=>by rw [e] at hT;rw [hT] at hT1;cases hT1
  have n2:T≠35:=fun e=>by rw [e] at hT;rw [hT] at hT2;cases hT2
  have hb4:=hk4.aC hb (fun f=>f)
  have hb5:aB w5 b cs T:=hb4.jJ hgr (jY hb4 (gy hrow hk4) (Ne.symm n1))
  refine hb5.og (fun e=>n2 ?_) _
  rw [e] at hb5
  exact (hb5.gK hbo5).2
 ·have hb4:=hk4.aC hb (fun f=>f)
  have hb5:aB w5 b cs T:=hb4.jJ hgr (fun e=>h8 ⟨v,rX,e⟩)
  exact hb5.og h7 _
 ·have e8:=hnew b f
  rcases hwh with h|h
  ·exact h8 ⟨v,rX,by rw [h,e8]⟩
  ·have:=hb.lt;omega
 ·rw [hnew q f]
  simpa using (World.ownsRow.lt hown g rfl).2
end
theorem KD (S:Nat->Prop) (E:World->Prop) (gf:Nat) (lb:Array Value) (l:List Nat) (Ts:List TypeId) (ht1:Ts.contains 3=false) (ht2:Ts.contains 35=false) (hl:l.length<=4000000) (w:World) (hS:∀ b,S b->b<w.heap.size) (hE:Dy w.heap.size E) (he:E w) (eg:∀ args w,(callFunc gf args).run ay w = .ok (.enter gf args) w)
 (hseq:∀ W,aj aA w W->aB W w.heap.size [.slice none 0 0] 35->vX S E Fence.wide 8 ay gf lb l xZ (je Ts w.heap.size w.heap.size) W) :
 Calls ay 72 #[.slice none 0 0,.func (.func gf) #[] lb] w fun e w'=>∃ v,e = .returned v/\w'.ownsRow w.heap.size 3 1 v l.length (bg l)/\aj S w w'/\E w':=by
 obtain ⟨W0,hW0⟩:∃ W',W'=w.alloc (.cells #[.slice none 0 0] 35):=⟨_,rfl⟩
 have hk0:aj aA w W0:=by rw [hW0];exact (aj.refl _ _).alloc _
 have hb0:aB W0 w.heap.size [.slice none 0 0] 35:=by rw [hW0];exact aB.aW w _ _
 have hs0:W0.heap.size=w.heap.size+1:=by rw [hW0];simp
 have Aa:=au (hseq W0 hk0 hb0)
 have HI0:Hid (pV S E w W0.heap.size w.heap.size (l.take 0) W0):=⟨hk0.mono (fun _ _ f=>f.elim),abg _,⟨_,hb0,⟨rfl,.inl ⟨rfl,rfl⟩⟩⟩,hE _ _ _ (fun _ f=>f.elim) hk0 he⟩
 have mZ:Hid (w.heap.size<W0.heap.size):=by unfold Hid;omega
 have HL:=au hl
 have HT1:=au ht1
 have HT2:=au ht2
 have HW0:=au hW0
 have IY:=au hS
 have U5:=au hE
 clear hseq hk0 hb0 hs0 hW0 hl ht1 ht2 hS hE he
 refine (callsIn_wide (n:=9)).1 ?_
 refine callsIn_of_wp_marks func72 rfl trivial ?_ rfl
 refine wpIn_wide.2 ?_
 simp only [ntmps72,abU,List.length_cons,List.length_nil,Nat.reduceAdd,Nat.reduceSub,abV,Array.replicate_zero,abW,abX,abY,List.cons_append]
 go_wp2_with fail
 rw [<- HW0.out]
 refine wpIn_wide (n:=9) |>.1 ?_
 refine AU rfl (by decide) (gf:=gf) (lb:=lb) rfl trivial eg (all:=l) (Enc:=xZ) (R:=je Ts w.heap.size w.heap.size) (N:=w.heap.size) (adq mZ.out) (je.rel _ _ _)
  Aa.out ?hps (fun j W=>pV S E w W0.heap.size w.heap.size (l.take j) W) (fun _ _ _=>False) ?hI ?hIx ?h0 (fun b hb=>Nat.lt_trans (IY.out b hb) mZ.out) (fun k A C h kk ke=>pV.later h IY.out mZ.out kk ke) (fun _ _ _ _ h _ _=>h) ?round ?done ?stop
 case hI=>exact fun k=>pV.own (adq mZ.out) U5.out (l.take k)
 case hIx=>exact fun c s W W' row h hg hr=>h
 case h0=>exact HI0.out
 case hps =>
  rintro W x args h
  rw [h];rfl
 case stop=>exact fun D c k W hD hk h=>h.elim
 case round =>
  rintro q j x args W hx henc hI
  have hj:j<l.length:=(abl.1 hx).1
  obtain rfl:args=#[ah (x:Int)]:=henc
  have AA:Hid (l.take (j+1)=l.take j++[x]):=by unfold Hid;rw [List.take_add_one,hx];rfl
  have HJ:=au hj
  have HI:=au hI
  clear hI hx hj
  gi_wp2_with fail
  refine ⟨fun W=>pV S E w W0.heap.size w.heap.size (l.take j) W,KeepsFrom.refl _ _,je.refl _ _ _ _,HI.out,(fun _ W' W'' row h hg hr=>pV.own (adq mZ.out) U5.out (l.take j) W' W'' row h hg hr),?_⟩
  clear HI
  rintro w3 hI
  obtain ⟨v,g,aJ,w5,_,cO4,hrun9,Zf,Zg,p1,p2,p3⟩:=hI.push (N:=w.heap.size) (x:=x) (abg _) mZ.out (abg _) IY.out U5.out (by rw [List.length_take];have:=HL.out;omega) Ts HT1.out HT2.out
  rw [<- AA.out] at p1
  have gI:=au (And.intro p2 (And.intro p3 p1))
  generalize (l.take j).length+1=jl at *
  clear p1 p2 p3 hI
  gi_wp2_with fail
  exact gI.out
 case done =>
  rintro D W hD hI yO
  obtain ⟨v,rX,hrow⟩:=hI.o
  rw [List.take_length] at hrow
  have cO:=rX.cell 0 (v:=v) rfl
  have Gq:=hI.aH.takeDeferred (D:=D) (by have:=mZ.out;omega) (.deferred none)
  have hE9:E (W.putObj D (.deferred none)):=U5.out W _ (only D) (fun b e=>by have:b=D:=e;have:=mZ.out;omega) ⟨rfl,rfl,rfl,by simp,fun q _ n=>abM n⟩ hI.e
  have IZ:=au hE9
  clear hE9
  have nS:=au hrow
  clear hrow
  go_wp2_with fail
  refine ⟨by simp,.inl ⟨_,_,rfl,run_takeDeferred yO,?_⟩⟩
  refine ⟨v,by simp [results,Tryz.f72,go_sem],v,rfl,dF (fQ (S:=fun i=>i=D) nS.out ⟨rfl,rfl,rfl,by simp,fun q _ n=>abM n⟩ (fun q hq e=>?_)) (adq mZ.out),Gq,IZ.out⟩
  obtain ⟨cur,hcur⟩:=qy (dF nS.out (abZ _)) hq
  rw [e,yO] at hcur
  cases hcur
theorem zC (S:Nat->Prop) (E:World->Prop) (gf:Nat) (lb:Array Value) (l:List Nat) (Ts:List TypeId) (ht1:Ts.contains 3=false) (ht2:Ts.contains 35=false) (hl:l.length<=4000000) (w:World) (hS:∀ b,S b->b<w.heap.size) (hE:Dy w.heap.size E) (he:E w) (eg:∀ args w,(callFunc gf args).run ay w = .ok (.enter gf args) w)
 (hseq:∀ W,aj aA w W->aB W w.heap.size [.slice none 0 0] 35->vX S E Fence.wide 8 ay gf lb l xZ (je Ts w.heap.size w.heap.size) W) :
 Calls ay 43 #[.func (.func gf) #[] lb] w fun e w'=>∃ v,e = .returned v/\w'.ownsRow w.heap.size 3 1 v l.length (bg l)/\aj S w w'/\E w':=by
 have HA:=au (KD S E gf lb l Ts ht1 ht2 hl w hS hE he eg hseq)
 clear hseq hl hS hE he
 go_enter func43,ntmps43
 go_wp2_with fail
 refine HA.out.mono ?_
 rintro e w1 ⟨v,rfl,h1,k1,k2⟩
 have HE:=au (And.intro h1 (And.intro k1 k2))
 clear h1 k1 k2 HA
 go_wp2_with fail
 go_ret
 exact ⟨v,rfl,HE.out⟩
end
section
open Go.RowKit
theorem KE (gf:Nat) (lb:Array Value) (l:List Nat) (Ts:List TypeId) (ht1:Ts.contains 3=false) (ht2:Ts.contains 35=false) (hl:l.length<=4000000) (w:World) (eg:∀ args w,(callFunc gf args).run ay w = .ok (.enter gf args) w)
 (hseq:∀ W,aj aA w W->MJ Fence.wide 8 ay gf lb l xZ (jO Ts w.heap.size) W) :
 Calls ay 43 #[.func (.func gf) #[] lb] w fun e w'=>∃ v,e = .returned v/\w'.ownsRow w.heap.size 3 1 v l.length (bg l)/\aj aA w w':=by
 refine (zC aA (fun _=>True) gf lb l Ts ht1 ht2 hl w (fun b f=>f.elim) (fun _ _ _ _ _ _=>trivial) trivial eg (fun W k _=>?_)).mono ?_
 ·exact vX.mono (R:=jO Ts w.heap.size) (fun l J Jx W g1 g2 g3=>hseq _ k l J Jx W g1 (fun k A C a c=>g2 k A C a c (fun h=>h)) (fun k A C a c=>g3 k A C a c (fun h=>h))) (fun A B h=>h.t)
 ·rintro e w' ⟨v,rfl,h1,h2,_⟩
  exact ⟨v,rfl,h1,h2⟩
end
section
attribute [local go_sem] Oper.semAt_some
open Go.RowKit
def HS.oJ (H:HS):List Nat:=iw H.bn H.sz
section
variable {w w':World} {D:Nat->Nat} {H:HS}
theorem OC {s s':Nat->Bool} {size:Nat} (h:∀ k,k<size->s k=s' k):iw s size=iw s' size:=List.filter_congr (fun x hx=>h x (acr.1 hx))
theorem KF {B X size:Nat} {s:Nat->Bool} (h:lI w B X size s) (h1:1<=size) (hT:nD w):∀ W,W=w.alloc (.cells #[ak B] 106)->Calls ay 43 #[.func (.func 81) #[] #[ak w.heap.size]] W fun e w'=>∃ v,e = .returned v/\w'.ownsRow w.heap.size 3 1 v (iw s size).length (bg (iw s size))/\aj aA w w':=by
 intro W hW
 obtain ⟨ws,hs,hb⟩:=h
 have hk:aj aA w W:=by rw [hW];exact (aj.refl _ _).alloc _
 have hp:aB W w.heap.size [ak B] 106:=by rw [hW];exact aB.aW w _ _
 have e:iw (iU ws) size=iw s size:=OC (fun k hk=>by
  rw [<- hb k]
  unfold jT
  rw [cZ (by omega),Bool.true_and,abB])
 have hsz:=hs.sz
 have hdB:0<w.heap.size:=World.block_lt_of_cell? _ _ (hT 0 (by decide))
 have hl:=TR s size
 refine (KE 81 #[ak w.heap.size] (iw s size) OB (by decide) (by decide) (by omega) W (fun args w=>by simp [callFunc,func81,go_sem];rfl) (fun V hV=>?_)).mono ?_
 ·rw [<- e]
  exact V7 ((hs.still hk).still hV) h1 ((hT.still hk).still hV) (abj hdB hk.size) w.heap.size (hV.aC hp (fun f=>f)) 8
 ·rintro e w' ⟨v,rfl,h2,k2⟩
  exact ⟨v,rfl,dF h2 hk.size,hk.trans k2⟩
theorem zD (h:aK w D H) (hT:nD w):Calls ay 28 #[ak (D 0)] w fun e w'=>∃ v,e = .returned v/\w'.ownsRow w.heap.size 3 1 v H.oJ.length (bg H.oJ)/\aj aA w w':=by
 have c3:=h.aC.cell 3 rfl
 have HC:=au (KF h.jh (by show 1<=H.b*H.ww+1;omega) hT)
 unfold HS.oJ
 generalize iw H.bn H.sz=l at *
 clear h hT
 go_enter func28,ntmps28
 go_wp2_with fail
 refine (XQ _ _).mono ?_
 rintro e w1 ⟨rfl,hw⟩
 have nH:=au (HC.out w1 hw)
 clear HC hw c3
 go_wp2_with fail
 refine nH.out.mono ?_
 rintro e w2 ⟨v,rfl,h1,k1⟩
 have HE:=au (And.intro h1 k1)
 clear h1 k1 nH
 go_wp2_with fail
 go_ret
 exact ⟨v,rfl,HE.out.1,HE.out.2⟩
end
end
end Go.Proofs.YtobfpmijbfgmeabGreatDoor
