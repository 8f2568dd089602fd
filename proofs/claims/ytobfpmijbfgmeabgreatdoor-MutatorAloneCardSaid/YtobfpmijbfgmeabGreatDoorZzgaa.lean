/- Parts of the walk. No conditions. -/
import Derived.Test.YtobfpmijbfgmeabGreatDoorZzgz
namespace Go.Proofs.YtobfpmijbfgmeabGreatDoor
open _root_.Go.IntWalk renaming i64_in->abD
open _root_.Go.World renaming block_lt_of_cell?->abk
open _root_.List renaming getD_eq_getElem?_getD->ace,getElem?_eq_getElem->abr
open _root_.Nat renaming zero_le->abZ
open _root_.Go.Proofs.Tryz hiding prog
open _root_.Go.Proofs.Tryz renaming prog->ay
set_option maxRecDepth 4000
set_option maxHeartbeats 2000000
section
attribute [local go_sem] Oper.semAt_some
open Go.RowKit
section
variable {w w':World}
theorem FK (a:Option Addr) (c:Nat) (A:List Nat) (x:Int) (w:World) (h:gB .i64 w a A.length (A.map fun y:Nat=>(y:Int))) (hm:A.length<=1000000):Calls ay 19 #[.slice a A.length c,ah x] w fun e w'=>e = .returned (ah ((dO A x:Nat):Int))/\w=w':=by
 by_cases h1:x<1
 ·have d1:decide (x<1)=true:=cZ h1
  have HE:Hid (((dO A x:Nat):Int)=0):=by unfold Hid dO;rw [aO (by omega)];rfl
  rw [HE.out]
  clear h h1 HE
  go_enter func19,ntmps19
  go_wp2_with fail
  go_ret
  exact ⟨rfl,rfl⟩
 have d1:decide (x<1)=false:=dD h1
 by_cases h2:(A.length:Int)<x
 ·have d2:decide ((A.length:Int)<x)=true:=cZ h2
  have HE:Hid (((dO A x:Nat):Int)=0):=by unfold Hid dO;rw [aO (by omega)];rfl
  rw [HE.out]
  clear h h1 h2 HE
  go_enter func19,ntmps19
  go_wp2_with fail
  go_ret
  exact ⟨rfl,rfl⟩
 obtain ⟨i,rfl⟩:∃ i:Nat,x=(i:Int)+1:=⟨(x - 1).toNat,by omega⟩
 have d2:decide ((A.length:Int)<(i:Int)+1)=false:=dD h2
 have hi:i<A.length:=by omega
 obtain ⟨b,off,rfl,hc⟩:=h.jR (by omega)
 have hck:=hc i hi
 have HE:Hid ((A.map fun y:Nat=>(y:Int)).getD i 0=((dO A ((i:Int)+1):Nat):Int)):=by
  unfold Hid dO
  rw [aV ⟨by omega,by omega⟩,show ((i:Int)+1 - 1).toNat=i by omega,ace,ace,List.getElem?_map,abr hi]
  rfl
 rw [HE.out] at hck
 have hw1:IntKind.i64.wrap ((i:Int)+1 - 1)=(i:Int):=by rw [abD _ (by omega)];omega
 have UQ:(i:Int)<(A.length:Int):=by omega
 generalize dO A ((i:Int)+1)=v at *
 generalize A.length=n at *
 clear h hc h1 h2 HE
 go_enter func19,ntmps19
 go_wp2_with fail
 go_ret
 exact ⟨rfl,rfl⟩
theorem Um (k:Nat) (hk:k<=3) (w:World):Calls ay 70 #[ah (k:Int)] w fun e w'=>e = .returned (.bool true)/\w=w':=by
 have d0:decide ((0:Int)<=(k:Int))=true:=cZ (by omega)
 have d1:decide ((k:Int)<=3)=true:=cZ (by omega)
 have d2:decide (k<=3)=true:=cZ hk
 go_enter func70,ntmps70
 go_wp2_with fail
 go_ret
 exact ⟨rfl,rfl⟩
def p2 (j:Nat):Nat:=2^(j+1)
theorem Wv (j:Nat):p2 (j+1)=2*p2 j:=by unfold p2;rw [Nat.pow_succ 2 (j+1),Nat.mul_comm]
theorem Y9 {j:Nat} (h:j<=3):p2 j<=16/\2<=p2 j:=by
 rcases (by omega:j=0\/j=1\/j=2\/j=3) with rfl|rfl|rfl|rfl<;>decide
theorem OV (k:Nat) (hk:k<=3) (w:World):Calls ay 40 #[ah (k:Int)] w fun e w'=>e = .returned (ah ((p2 k:Nat):Int))/\w=w':=by
 have HI:=au (Um k hk w)
 go_enter func40,ntmps40
 go_wp2_with (go_at_call 70;refine HI.out.mono ?_;rintro e w1 ⟨rfl,rfl⟩)
 go_loop [3,4] (fun n i=>∃ j:Nat,j<=k/\i = ah j/\n = ah ((p2 j:Nat):Int)) (fun _ i=>k - (intOf i).toNat)
 case atStart=>exact ⟨0,abZ _,rfl,rfl⟩
 case round =>
  obtain ⟨j,hj,rfl,rfl⟩:=hrel
  by_cases hlt:j<k
  ·have oz:(j:Int)<(k:Int):=by omega
   have hle:=Y9 (j:=j) (by omega)
   have hw:IntKind.i64.wrap (2*((p2 j:Nat):Int))=((p2 (j+1):Nat):Int):=by
    rw [abD _ (by omega),Wv]
    omega
   obtain ⟨p',hp'⟩:∃ p',p'=p2 (j+1):=⟨_,rfl⟩
   rw [<- hp'] at hw
   have HP:=au hp'
   generalize p2 j=p at *
   clear hle hp'
   go_wp2
   go_round
   case rel=>exact ⟨j+1,by omega,by go_num,by rw [<- HP.out]⟩
   case measure=>simp [intOf];omega
  ·obtain rfl:j=k:=by omega
   have hnl:¬ (j:Int)<(j:Int):=by omega
   obtain ⟨q,hq⟩:∃ q,q=p2 j:=⟨_,rfl⟩
   rw [<- hq]
   have HE:=au hq
   clear hq
   go_wp2
   go_ret
   exact ⟨by rw [<- HE.out];rfl,rfl⟩
theorem Yk {f:Int} (h0:0<=f) (h1:f<=15):iG f<=3/\f+1<=((p2 (iG f):Nat):Int)/\∀ j:Nat,j<iG f->((p2 j:Nat):Int)<f+1:=by
 have q:p2 0=2/\p2 1=4/\p2 2=8/\p2 3=16:=by decide
 obtain ⟨q0,q1,q2,q3⟩:=q
 unfold iG
 rw [aO (by omega)]
 split
 ·exact ⟨by omega,by rw [q0];omega,fun j hj=>by omega⟩
 ·split
  ·refine ⟨by omega,by rw [q1];omega,fun j hj=>?_⟩
   obtain rfl:j=0:=by omega
   rw [q0];omega
  ·split
   ·refine ⟨by omega,by rw [q2];omega,fun j hj=>?_⟩
    rcases (by omega:j=0\/j=1) with rfl|rfl
    ·rw [q0];omega
    ·rw [q1];omega
   ·refine ⟨by omega,by rw [q3];omega,fun j hj=>?_⟩
    rcases (by omega:j=0\/j=1\/j=2) with rfl|rfl|rfl
    ·rw [q0];omega
    ·rw [q1];omega
    ·rw [q2];omega
theorem Un (f:Int) (h0:0<=f) (h1:f<=15) (w:World):Calls ay 11 #[ah f] w fun e w'=>e = .returned (ah ((iG f:Nat):Int))/\w=w':=by
 have d0:decide (f<0)=false:=dD (by omega)
 have d1:decide (15<f)=false:=dD (by omega)
 have hw:IntKind.i64.wrap (f+1)=f+1:=abD _ (by omega)
 obtain ⟨g1,g2,g3⟩:=Yk h0 h1
 generalize iG f=q at *
 have HG:=au (And.intro g1 (And.intro g2 g3))
 clear h0 h1 g1 g2 g3
 go_enter func11,ntmps11
 go_wp2
 go_loop [3] (fun i=>∃ j:Nat,j<=q/\i = ah j) (fun i=>q - (intOf i).toNat)
 case atStart=>exact ⟨0,abZ _,rfl⟩
 case round =>
  obtain ⟨j,hj,rfl⟩:=hrel
  have HS:=au (OV j (by have:=HG.out.1;omega) w)
  by_cases hlt:j<q
  ·have d2:decide (((p2 j:Nat):Int)<f+1)=true:=cZ (HG.out.2.2 j hlt)
   have HL:=au hlt
   generalize p2 j=p at *
   have hw2:IntKind.i64.wrap ((j:Int)+1)=(j:Int)+1:=abD _ (by have:=HG.out.1;omega)
   clear hj hlt
   go_wp2_with (go_at_call 40;refine HS.out.mono ?_;rintro e w1 ⟨rfl,rfl⟩)
   go_round
   case rel=>exact ⟨j+1,by have:=HL.out;omega,by go_num⟩
   case measure=>have:=HL.out;simp [intOf];omega
  ·obtain rfl:j=q:=by omega
   have d2:decide (((p2 j:Nat):Int)<f+1)=false:=dD (by have:=HG.out.2.1;omega)
   generalize p2 j=p at *
   clear hj hlt HG
   go_wp2_with (go_at_call 40;refine HS.out.mono ?_;rintro e w1 ⟨rfl,rfl⟩)
   go_ret
   exact ⟨rfl,rfl⟩
theorem Uo (x:Nat) (h0:0<x) (h1:x<=100) (w:World):Calls ay 47 #[ah ((x:Int) - 1)] w fun e w'=>e = .returned (.bool false)/\w=w':=by
 have d0:decide ((x:Int) - 1<0)=false:=dD (by omega)
 generalize (x:Int) - 1=y at *
 clear h0 h1
 go_enter func47,ntmps47
 go_wp2_with fail
 go_ret
 exact ⟨rfl,rfl⟩
theorem KN {R X aJ:Nat} {c:aS} {K:List Nat} (h:l9 w R X aJ c K) (hK:∀ x∈K,x≠0) (h4:∀ x∈K,x<=4):Calls ay 46 #[ak R,.func (.func 47) #[] #[]] w fun e w'=>e = .returned (.slice none 0 0)/\w=w':=by
 have hb:=h.aC
 obtain ⟨c0,c1,c2,c3,c4,c5,c6⟩:=c
 simp only [aS.cells,List.cons_append,List.nil_append] at hb
 have y7:=hb.cell 7 rfl
 obtain ⟨cur,C9,hcv⟩:=h.gQ
 have hs:=h.jK
 have hcap:=h.aJ
 have HC:Hid (∀ j,j<K.length->∃ x:Nat,0<x/\x<=4/\w.cell? ⟨X,j,none⟩=some (ah (x:Int))):=fun j hj=>by
  have h1:K.getD j 0∈K:=by
   rw [ace,abr hj]
   exact List.getElem_mem _
  have:=hK _ h1
  exact ⟨K.getD j 0,by omega,h4 _ h1,C9.cell j (hcv _ _ (kS hj))⟩
 generalize K.length=L at *
 clear h hb C9 hcv hK h4
 have cf:∀ (args:Array Value) (w:World),(callFunc 47 args).run ay w = .ok (.enter 47 args) w:=fun args w=>by simp [callFunc,func47,go_sem];rfl
 go_enter func46,ntmps46
 go_wp2_with fail
 go_loop [5,15] (fun s i=>∃ j:Nat,j<=L/\i = ah j/\s = .slice none 0 0) (fun _ i=>L - (intOf i).toNat)
 case atStart=>exact ⟨0,abZ _,rfl,rfl⟩
 case round =>
  obtain ⟨j,hj,rfl,rfl⟩:=hrel
  by_cases hlt:j<L
  ·have oz:(j:Int)<(L:Int):=by omega
   obtain ⟨x,hx0,hx4,hcx⟩:=HC.out j hlt
   have HU:=au (Uo x hx0 (by omega) w)
   have hw:IntKind.i64.wrap ((x:Int) - 1)=(x:Int) - 1:=abD _ (by omega)
   have HL:=au hlt
   have hw2:IntKind.i64.wrap ((j:Int)+1)=(j:Int)+1:=abD _ (by omega)
   clear hx0 hx4
   go_wp2_with (first|(go_at_call 47;refine HU.out.mono ?_;rintro e w1 ⟨rfl,rfl⟩)|fail)
   go_round
   case rel=>exact ⟨j+1,by have:=HL.out;omega,by go_num,rfl⟩
   case measure=>have:=HL.out;simp [intOf];omega
  ·obtain rfl:j=L:=by omega
   have hnl:¬ (j:Int)<(j:Int):=by omega
   go_wp2_with fail
   go_ret
   exact ⟨rfl,rfl⟩
theorem BM {R X aJ:Nat} {c:aS} {K:List Nat} (h:l9 w R X aJ c K) (hK:∀ x∈K,x≠0) (h4:∀ x∈K,x<=4):Calls ay 15 #[ak R] w fun e w'=>e = .returned (.slice none 0 0)/\w=w':=by
 have HT:=au (KN h hK h4)
 clear h hK h4
 go_enter func15,ntmps15
 go_wp2_with (go_at_call 46;refine HT.out.mono ?_;rintro e w1 ⟨rfl,rfl⟩)
 go_ret
 exact ⟨rfl,rfl⟩
end
end
section
open Go.RowKit
theorem OW (c:aS):c.wL.ok=true:=by
 obtain ⟨b,w,m,r,cc,l,s⟩:=c
 have e:∀ (p q:Prop) [Decidable p] [Decidable q],p->q->(decide p&&decide q)=true:=fun p q _ _ hp hq=>by rw [cZ hp,cZ hq];rfl
 have e2:∀ (x:Bool) (q:Prop) [Decidable q],x=true->q->(x&&decide q)=true:=fun x q _ hp hq=>by rw [hp,cZ hq];rfl
 unfold aS.ok aS.wL
 simp only
 exact e2 _ _ (e2 _ _ (e2 _ _ (e2 _ _ (e2 _ _ (e _ _ (by omega) (by omega)) (by omega)) (by omega)) (by omega)) (by omega)) (by omega)
theorem Ur {w : World} (h : laidMet ay [("dustpan/config.limits", Rows.laid_dustpan_config_limits), ("dustpan/class.sizes", Rows.laid_dustpan_class_sizes), ("dustpan/op.kinds", Rows.laid_dustpan_op_kinds)] w) : Du w := by
 have hl:=Wx h
 have hs:=RN (laidMet.tail h)
 have hk:=Vu (laidMet.tail (laidMet.tail h))
 refine ⟨⟨hl,hk⟩,hs,?_,?_,?_⟩
 ·exact abk _ _ (hl 0 _ rfl)
 ·exact abk _ _ (hk 0 _ rfl)
 ·exact abk _ _ (hs 0 _ rfl)
end
end Go.Proofs.YtobfpmijbfgmeabGreatDoor
