/- Parts of the iy. No conditions. -/
import Derived.Test.YtanfphjoebobaaaGreatDoorZzfs
namespace Go.Proofs.YtanfphjoebobaaaGreatDoor
open _root_.Bool renaming false_eq_true->akP
open _root_.Go.World renaming ownsRow_nil->akT
open _root_.List renaming eq_nil_of_length_eq_zero->akg,flatten_cons->akV,getElem?_append_left->ajk,getElem?_append_right->ajl,getElem?_eq_some_iff->ake,mem_map->akW,range->akS,replicate->ajj
open _root_.Nat renaming le_trans->ajU,lt_of_lt_of_le->ajf,not_lt_zero->akU,zero_le->aki
open _root_.Go.Proofs.Tryz hiding prog
open _root_.Go.Proofs.Tryz renaming prog->aA
set_option maxRecDepth 10000
set_option maxHeartbeats 8000000
section
attribute [local go_sem] Oper.semAt_some
open Go.RowKit
section
variable {o o':Ow} {w w':World} {G:fU} {q:CG} {s:Sh} {c:CS} {ev:Option Ev} {nv nv0:Value} {N:Nat}
theorem Pv {d:CD} (h:uo d=true):d = .nil:=by
 cases d<;>first|rfl|cases h
theorem Yl (h:bU o w G q s c ev nv) (hn:jW o w (G.D 0) q.C c.aP c.next nv) (hnil:uo c.next=true) (hws:c.jM=false):Calls aA 12 #[au q.C] w (yO o w G q s c):=by
 obtain ⟨o1,W2,hW2,hext,hR,h2,n2,k2,hB⟩:=h.pick0 hn
 obtain ⟨⟨x0,x1,x2,x3,x4,x5,x6,hx⟩,hws0,hnx0,hfr0⟩:=h.behind
 have f10:=fun x=>hfr0 x 10
 have f13:=fun x=>hfr0 x 13
 have f14:=fun x=>hfr0 x 14
 have f15:=fun x=>hfr0 x 15
 have f16:=fun x=>hfr0 x 16
 have f17:=fun x=>hfr0 x 17
 have f18:=fun x=>hfr0 x 18
 have f19:=fun x=>hfr0 x 19
 have g13:=fun x=>(hx x).1
 have g14:=fun x=>(hx x).2.1
 have g15:=fun x=>(hx x).2.2.1
 have g16:=fun x=>(hx x).2.2.2.1
 have g17:=fun x=>(hx x).2.2.2.2.1
 have g18:=fun x=>(hx x).2.2.2.2.2.1
 have g19:=fun x=>(hx x).2.2.2.2.2.2
 have qZ:=hW2
 unfold Di at qZ
 have HW2:=ay qZ
 have Po:=Pv hnil
 rw [Po] at hn n2
 obtain rfl:nv = .nilFunc:=hn
 have hp:dX s c=⟨s,{ c with next := .nil },.nil,none⟩:=by
  unfold dX
  simp only
  rw [aT (by rw [hnil];decide),aT (by rw [hws];decide)]
 have zA:Hid (yP o w G q s c W2):=yP.of (r:=⟨s,c,.nil,none⟩) hext hR hB k2 ⟨o1,.nilFunc,bZ.refl _ _,h2,n2,aj.refl _ _⟩ hp
 have hnq:=ES
 rw [hws] at hws0
 unfold yP at zA
 generalize yO o w G q s c=PO at *
 clear h h2 n2 k2 hext hW2 qZ hx hfr0 hB Po hnil hp hR hws
 go_enter func12,ntmps12
 go_wp2_with fail
 rw [<- HW2.out]
 clear f10 f13 f14 f15 f16 f17 f18 f19 g13 g14 g15 g16 g17 g18 g19 hws0 hnx0 HW2
 generalize W2=W5 at *
 obtain ⟨a,b,c9,d,e,t,⟨y0,y1,y2,y3,y4,y5,y6⟩,fD,hend⟩:=zA.out
 have iH:=ay hend.out
 obtain ⟨W6,uZ⟩:∃ W6,W6=W5.drew:=⟨_,rfl⟩
 have k56:aj aB W5 W6:=by rw [uZ];exact (aj.refl aB W5).drew
 have iO:=k56.aH fD (fun f=>f)
 have zf0:=fD.free 0
 have zf1:=fD.free 1
 have zf2:=fD.free 2
 have zf3:=fD.free 3
 have zf4:=fD.free 4
 have zf5:=fD.free 5
 have z0:W5.cell? ⟨w.heap.size,0,none⟩=some (ah 0):=fD.cell 0 rfl
 have z1:W5.cell? ⟨w.heap.size,1,none⟩=some (ah 0):=fD.cell 1 rfl
 have z2:W5.cell? ⟨w.heap.size,2,none⟩=some (ah 0):=fD.cell 2 rfl
 have z3:W5.cell? ⟨w.heap.size,3,none⟩=some (ah 0):=fD.cell 3 rfl
 have z4:W5.cell? ⟨w.heap.size,4,none⟩=some (ah 0):=fD.cell 4 rfl
 have z5:W5.cell? ⟨w.heap.size,5,none⟩=some (ah 0):=fD.cell 5 rfl
 have Ht:=k56.still y0
 have x1':=k56.still y1
 have x2':=k56.still y2
 have x3':=k56.still y3
 have Hu:=k56.still y4
 have Hw:=k56.still y5
 have Hy:=k56.still y6
 have yf0:=iO.free 0
 have yf1:=iO.free 1
 have yf2:=iO.free 2
 have yf3:=iO.free 3
 have yf4:=iO.free 4
 have yf5:=iO.free 5
 have r0:W6.cell? ⟨w.heap.size,0,none⟩=some (ah 0):=iO.cell 0 rfl
 have r1:W6.cell? ⟨w.heap.size,1,none⟩=some (ah 0):=iO.cell 1 rfl
 have r2:W6.cell? ⟨w.heap.size,2,none⟩=some (ah 0):=iO.cell 2 rfl
 have r3:W6.cell? ⟨w.heap.size,3,none⟩=some (ah 0):=iO.cell 3 rfl
 have r4:W6.cell? ⟨w.heap.size,4,none⟩=some (ah 0):=iO.cell 4 rfl
 have r5:W6.cell? ⟨w.heap.size,5,none⟩=some (ah 0):=iO.cell 5 rfl
 rw [uZ] at r0 r1 r2 r3 r4 r5 yf0 yf1 yf2 yf3 yf4 yf5 Ht x1' x2' x3' Hu Hw Hy
 clear hend fD iO k56 uZ zA
 go_region
 go_wp2_with fail
 refine bodyPost_ret (v := .tuple #[.agg #[ah 0,ah a,ah b,ah c9,ah d,ah e],.bool t]) (by simp [results,Tryz.f12,go_sem,z0,z1,z2,z3,z4,z5]) rfl ?_
 exact iH.out _ ((((((((aj.refl (only w.heap.size) _).put _ _).put _ _).put _ _).put _ _).put _ _).put _ _).drew)
theorem Vz (h:bU o w G q s c ev nv) (hn:jW o w (G.D 0) q.C c.aP c.next nv) (ok:CK N s c) (hN:N<=1000000000) (hnil:uo c.next=true) (hws:c.jM=true):Calls aA 12 #[au q.C] w (yO o w G q s c):=by
 obtain ⟨o1,W2,hW2,hext,hR,h2,n2,k2,hB⟩:=h.pick0 hn
 obtain ⟨⟨x0,x1,x2,x3,x4,x5,x6,hx⟩,hws0,hnx0,hfr0⟩:=h.behind
 have f10:=fun x=>hfr0 x 10
 have f13:=fun x=>hfr0 x 13
 have f14:=fun x=>hfr0 x 14
 have f15:=fun x=>hfr0 x 15
 have f16:=fun x=>hfr0 x 16
 have f17:=fun x=>hfr0 x 17
 have f18:=fun x=>hfr0 x 18
 have f19:=fun x=>hfr0 x 19
 have g13:=fun x=>(hx x).1
 have g14:=fun x=>(hx x).2.1
 have g15:=fun x=>(hx x).2.2.1
 have g16:=fun x=>(hx x).2.2.2.1
 have g17:=fun x=>(hx x).2.2.2.2.1
 have g18:=fun x=>(hx x).2.2.2.2.2.1
 have g19:=fun x=>(hx x).2.2.2.2.2.2
 have qZ:=hW2
 unfold Di at qZ
 have HW2:=ay qZ
 have Po:=Pv hnil
 rw [Po] at hn n2
 obtain rfl:nv = .nilFunc:=hn
 have hp:dX s c=⟨(mD s c).s,{ (mD s c).c with next:=(mD s c).next },(mD s c).next,(mD s c).ev⟩:=by
  unfold dX
  simp only
  rw [aT (by rw [hnil];decide),aZ hws]
 have HST:Hid (Calls aA 43 #[au q.C] W2 fun e w'=>e = .returned (.tuple #[])/\Hid (yP o w G q s c w')):=by
  refine (Yd h2 ok.aP (ajU ok.nH hN) ok.qJ.1 (by have:=ok.qJ.2;omega)).mono ?_
  rintro e w' ⟨rfl,g⟩
  exact ⟨rfl,yP.of hext hR hB k2 g hp⟩
 have hnq:=ES
 rw [hws] at hws0
 unfold yP at HST
 generalize yO o w G q s c=PO at *
 clear h h2 n2 k2 hext hW2 qZ hx hfr0 hB Po hnil hp hR hws ok hN
 go_enter func12,ntmps12
 go_wp2_with fail
 rw [<- HW2.out]
 refine HST.out.mono ?_
 rintro e W5 ⟨rfl,zA⟩
 clear f10 f13 f14 f15 f16 f17 f18 f19 g13 g14 g15 g16 g17 g18 g19 hws0 hnx0 HW2 HST
 obtain ⟨a,b,c9,d,e,t,⟨y0,y1,y2,y3,y4,y5,y6⟩,fD,hend⟩:=zA.out
 have iH:=ay hend.out
 obtain ⟨W6,uZ⟩:∃ W6,W6=W5.drew:=⟨_,rfl⟩
 have k56:aj aB W5 W6:=by rw [uZ];exact (aj.refl aB W5).drew
 have iO:=k56.aH fD (fun f=>f)
 have zf0:=fD.free 0
 have zf1:=fD.free 1
 have zf2:=fD.free 2
 have zf3:=fD.free 3
 have zf4:=fD.free 4
 have zf5:=fD.free 5
 have z0:W5.cell? ⟨w.heap.size,0,none⟩=some (ah 0):=fD.cell 0 rfl
 have z1:W5.cell? ⟨w.heap.size,1,none⟩=some (ah 0):=fD.cell 1 rfl
 have z2:W5.cell? ⟨w.heap.size,2,none⟩=some (ah 0):=fD.cell 2 rfl
 have z3:W5.cell? ⟨w.heap.size,3,none⟩=some (ah 0):=fD.cell 3 rfl
 have z4:W5.cell? ⟨w.heap.size,4,none⟩=some (ah 0):=fD.cell 4 rfl
 have z5:W5.cell? ⟨w.heap.size,5,none⟩=some (ah 0):=fD.cell 5 rfl
 have Ht:=k56.still y0
 have x1':=k56.still y1
 have x2':=k56.still y2
 have x3':=k56.still y3
 have Hu:=k56.still y4
 have Hw:=k56.still y5
 have Hy:=k56.still y6
 have yf0:=iO.free 0
 have yf1:=iO.free 1
 have yf2:=iO.free 2
 have yf3:=iO.free 3
 have yf4:=iO.free 4
 have yf5:=iO.free 5
 have r0:W6.cell? ⟨w.heap.size,0,none⟩=some (ah 0):=iO.cell 0 rfl
 have r1:W6.cell? ⟨w.heap.size,1,none⟩=some (ah 0):=iO.cell 1 rfl
 have r2:W6.cell? ⟨w.heap.size,2,none⟩=some (ah 0):=iO.cell 2 rfl
 have r3:W6.cell? ⟨w.heap.size,3,none⟩=some (ah 0):=iO.cell 3 rfl
 have r4:W6.cell? ⟨w.heap.size,4,none⟩=some (ah 0):=iO.cell 4 rfl
 have r5:W6.cell? ⟨w.heap.size,5,none⟩=some (ah 0):=iO.cell 5 rfl
 rw [uZ] at r0 r1 r2 r3 r4 r5 yf0 yf1 yf2 yf3 yf4 yf5 Ht x1' x2' x3' Hu Hw Hy
 clear hend fD iO k56 uZ zA
 go_wp2_with fail
 go_region
 go_wp2_with fail
 refine bodyPost_ret (v := .tuple #[.agg #[ah 0,ah a,ah b,ah c9,ah d,ah e],.bool t]) (by simp [results,Tryz.f12,go_sem,z0,z1,z2,z3,z4,z5]) rfl ?_
 exact iH.out _ ((((((((aj.refl (only w.heap.size) _).put _ _).put _ _).put _ _).put _ _).put _ _).put _ _).drew)
theorem acH (h:bU o w G q s c ev nv) (hn:jW o w (G.D 0) q.C c.aP c.next nv) (ok:CK N s c) (hN:N<=1000000000) (hd:qY c.aG c.dU c.cells c.next) (hnil:uo c.next=false):Calls aA 12 #[au q.C] w (yO o w G q s c):=by
 obtain ⟨o1,W2,hW2,hext,hR,h2,n2,k2,hB⟩:=h.pick0 hn
 obtain ⟨⟨x0,x1,x2,x3,x4,x5,x6,hx⟩,hws0,hnx0,hfr0⟩:=h.behind
 have f10:=fun x=>hfr0 x 10
 have f13:=fun x=>hfr0 x 13
 have f14:=fun x=>hfr0 x 14
 have f15:=fun x=>hfr0 x 15
 have f16:=fun x=>hfr0 x 16
 have f17:=fun x=>hfr0 x 17
 have f18:=fun x=>hfr0 x 18
 have f19:=fun x=>hfr0 x 19
 have g13:=fun x=>(hx x).1
 have g14:=fun x=>(hx x).2.1
 have g15:=fun x=>(hx x).2.2.1
 have g16:=fun x=>(hx x).2.2.2.1
 have g17:=fun x=>(hx x).2.2.2.2.1
 have g18:=fun x=>(hx x).2.2.2.2.2.1
 have g19:=fun x=>(hx x).2.2.2.2.2.2
 have qZ:=hW2
 unfold Di at qZ
 have HW2:=ay qZ
 obtain ⟨fn,first,caps,Ti,hcf,hS⟩:=aaj h2 ok hN c.next hd nv n2 hnil
 have hp:dX s c=⟨(aN s c c.next).s,{ (aN s c c.next).c with next:=(aN s c c.next).next },(aN s c c.next).next,(aN s c c.next).ev⟩:=by
  unfold dX
  simp only
  rw [aZ (by rw [hnil];rfl)]
 have HS:Hid (Calls aA fn (first++caps) W2 fun e w3=>∃ nv3,e = .returned nv3/\(nv3 = .nilFunc\/∃ fn3 first3 caps3,nv3 = .func (.func fn3) first3 caps3)/\w3.frozen? ⟨q.C,10,none⟩=false/\w3.cell? ⟨q.C,10,none⟩=some nv/\Hid (yP o w G q s c (w3.setCell ⟨q.C,10,none⟩ nv3))):=by
  refine hS.mono ?_
  rintro e w3 ⟨nv3,rfl,hf,hpp⟩
  exact ⟨nv3,rfl,hf,hpp.c10.2,hpp.c10.1,yP.of hext hR hB k2 hpp.uj hp⟩
 subst Ti
 have hnq:=Pq fn first caps
 unfold yP at HS
 generalize yO o w G q s c=PO at *
 clear h h2 n2 k2 hext hW2 qZ hx hfr0 hB hnil hp hR ok hN hS hd hn
 go_enter func12,ntmps12
 go_wp2_with fail
 rw [<- HW2.out]
 refine HS.out.mono ?_
 rintro e w3 ⟨nv3,rfl,hf,e10,d10,zA⟩
 obtain ⟨W5,nI⟩:∃ W5,W5=w3.setCell ⟨q.C,10,none⟩ nv3:=⟨_,rfl⟩
 rw [<- nI] at zA
 have Tf:=ay nI
 clear f10 f13 f14 f15 f16 f17 f18 f19 g13 g14 g15 g16 g17 g18 g19 hws0 hnx0 HW2 HS nI
 obtain ⟨a,b,c9,d,e,t,⟨y0,y1,y2,y3,y4,y5,y6⟩,fD,hend⟩:=zA.out
 have iH:=ay hend.out
 obtain ⟨W6,uZ⟩:∃ W6,W6=W5.drew:=⟨_,rfl⟩
 have k56:aj aB W5 W6:=by rw [uZ];exact (aj.refl aB W5).drew
 have iO:=k56.aH fD (fun f=>f)
 have zf0:=fD.free 0
 have zf1:=fD.free 1
 have zf2:=fD.free 2
 have zf3:=fD.free 3
 have zf4:=fD.free 4
 have zf5:=fD.free 5
 have z0:W5.cell? ⟨w.heap.size,0,none⟩=some (ah 0):=fD.cell 0 rfl
 have z1:W5.cell? ⟨w.heap.size,1,none⟩=some (ah 0):=fD.cell 1 rfl
 have z2:W5.cell? ⟨w.heap.size,2,none⟩=some (ah 0):=fD.cell 2 rfl
 have z3:W5.cell? ⟨w.heap.size,3,none⟩=some (ah 0):=fD.cell 3 rfl
 have z4:W5.cell? ⟨w.heap.size,4,none⟩=some (ah 0):=fD.cell 4 rfl
 have z5:W5.cell? ⟨w.heap.size,5,none⟩=some (ah 0):=fD.cell 5 rfl
 have Ht:=k56.still y0
 have x1':=k56.still y1
 have x2':=k56.still y2
 have x3':=k56.still y3
 have Hu:=k56.still y4
 have Hw:=k56.still y5
 have Hy:=k56.still y6
 have yf0:=iO.free 0
 have yf1:=iO.free 1
 have yf2:=iO.free 2
 have yf3:=iO.free 3
 have yf4:=iO.free 4
 have yf5:=iO.free 5
 have r0:W6.cell? ⟨w.heap.size,0,none⟩=some (ah 0):=iO.cell 0 rfl
 have r1:W6.cell? ⟨w.heap.size,1,none⟩=some (ah 0):=iO.cell 1 rfl
 have r2:W6.cell? ⟨w.heap.size,2,none⟩=some (ah 0):=iO.cell 2 rfl
 have r3:W6.cell? ⟨w.heap.size,3,none⟩=some (ah 0):=iO.cell 3 rfl
 have r4:W6.cell? ⟨w.heap.size,4,none⟩=some (ah 0):=iO.cell 4 rfl
 have r5:W6.cell? ⟨w.heap.size,5,none⟩=some (ah 0):=iO.cell 5 rfl
 rw [uZ] at r0 r1 r2 r3 r4 r5 yf0 yf1 yf2 yf3 yf4 yf5 Ht x1' x2' x3' Hu Hw Hy
 clear hend fD iO k56 uZ zA
 rcases hf with rfl|⟨fn3,first3,caps3,rfl⟩
 all_goals
  go_wp2_with fail
  rw [<- Tf.out]
  clear e10 d10
  go_region
  go_wp2_with fail
  refine bodyPost_ret (v := .tuple #[.agg #[ah 0,ah a,ah b,ah c9,ah d,ah e],.bool t]) (by simp [results,Tryz.f12,go_sem,z0,z1,z2,z3,z4,z5]) rfl ?_
  exact iH.out _ ((((((((aj.refl (only w.heap.size) _).put _ _).put _ _).put _ _).put _ _).put _ _).put _ _).drew)
theorem aaq (h:kZ o w G q s c) (ok:OC N s c) (hN:N<=1000000000):Calls aA 12 #[au q.C] w (yO o w G q s c):=by
 obtain ⟨ev,nv,h1,hn⟩:=h
 cases hnil:uo c.next with
 | false=>exact acH h1 hn ok.k hN ok.nx hnil
 | true =>
   cases hw:c.jM with
   | false=>exact Yl h1 hn hnil hw
   | true=>exact Vz h1 hn ok.k hN hnil hw
end
end
section
attribute [local go_sem ↓] nD
attribute [local go_sem] Oper.semAt_some
open Go.RowKit
theorem Tryz.infoPBox:(aA.info? 122).map (fun i=>(i.zero,i.size,i.bytes))=some (some (.pointer none),1,8):=by kernel_rfl
theorem afV (w:World):Calls aA 69 #[] w fun e w'=>e = .returned (au w.heap.size)/\w'=w.alloc (.cells #[.slice none 0 0,.slice none 0 0,.slice none 0 0,.slice none 0 0,ah 0] 172):=by
 go_enter func69,ntmps69
 go_wp2_with fail
 go_ret
 exact ⟨rfl,rfl⟩
theorem aeA (w:World):Calls aA 70 #[] w fun e w'=>e = .returned (au w.heap.size)/\w'=w.alloc (.cells #[.slice none 0 0] 176):=by
 go_enter func70,ntmps70
 go_wp2_with fail
 go_ret
 exact ⟨rfl,rfl⟩
theorem jB.first {o:Ow} {w:World} {B:Nat} (hB:o B≠0) (hb:aF w B [.slice none 0 0,.slice none 0 0,.slice none 0 0,.slice none 0 0,ah 0] 172):jB o w B ⟨[[],[],[],[]],0⟩:=by
 refine ⟨hB,rfl,[.slice none 0 0,.slice none 0 0,.slice none 0 0,.slice none 0 0],rfl,hb,fun i v zs h1 h2=>?_⟩
 match i with
 | 0=>simp at h1 h2;subst h1 h2;exact dH.nil _ _ _
 | 1=>simp at h1 h2;subst h1 h2;exact dH.nil _ _ _
 | 2=>simp at h1 h2;subst h1 h2;exact dH.nil _ _ _
 | 3=>simp at h1 h2;subst h1 h2;exact dH.nil _ _ _
 | n+4=>simp at h1
theorem dH.afW {o:Ow} {w:World} {T:TypeId} {v:Value} {xs:List Value} {bP n:Nat} (h:w.ownsRow bP T 1 v n xs) (hm:n<=4000000000000) (hf:∀ b,v.ownBlock=some b->o b=0):dH o w T v xs:=by
 obtain ⟨hl,hf2⟩:=h
 rcases hf2 with ⟨rfl,rfl⟩|⟨g,aO,cur,rfl,hg0,hg,hn,_,hs,hc⟩
 ·have:xs=[]:=akg (by simpa using hl)
  subst this
  exact dH.nil _ _ _
 ·have hnl:n=xs.length:=by simpa using hl.symm
  subst hnl
  refine ⟨_,aO,rfl,hn,hm,fun _=>⟨g,0,cur.toList,rfl,hf g rfl,by unfold aF;simpa using hg,fun j hj=>?_⟩⟩
  rw [<- hc]
  simp [hj]
structure Tj (W0:World) (S N0:Nat) (ps:List Value) (j:Nat) (W:World):Prop where
 aK:aj (only S) W0 W
 row:∃ (sv:Value) (bx:Nat->Nat),aF W S (ps++[sv]) 53/\W.ownsRow N0 122 1 sv j ((akS j).map fun i=>aJ (bx i))/\(∀ i,i<j->N0<=bx i/\bx i<W.heap.size/\aF W (bx i) [.slice none 0 0] 176)/\∀ i k,i<k->k<j->bx i<bx k
theorem aeB (o0:Ow) (hz0:o0 3=0/\o0 4=0/\o0 2=0) {w:World} {D:Nat->Nat} {H:HS} {B Q Fl S N0:Nat} {b:Bd} {W0 W1 W2:World} {n:Nat} (hH:aI W1 D H) (hD:∀ i,i<13->w.heap.size<=D i) (hsz:w.heap.size<=W1.heap.size) (hB:kH W0 B b) (hQ:aF W0 Q [.slice none 0 0,.slice none 0 0,.slice none 0 0,.slice none 0 0,ah 0] 172)
 (hF:aF W0 Fl [.bool false] 121) (h1:W1.heap.size<=B) (h2:B<Q) (h3:Q<Fl) (h4:Fl<S) (h5:S<N0) (h6:N0=W0.heap.size) (k1:aj aB W1 W0) (hgl:3<w.heap.size/\4<w.heap.size/\2<w.heap.size) (hn:n<=8) (hI:Tj W0 S N0 [aJ (D 0),aJ B,aJ Q,aJ Fl] n W2) :
 ∃ (o:Ow) (G:fU),G.S=S/\fH o W2 G ⟨H,b,⟨[[],[],[],[]],0⟩,false,ajj n []⟩/\(∀ x,x<w.heap.size->o x=o0 x)/\∀ x,w.heap.size<=x->o x<20:=by
 obtain ⟨hk,sv,bx,hS,hrow,hbx,hmono⟩:=hI
 have hDlt:∀ i,i<13->D i<W1.heap.size:=fun i hi=>hH.Lj i hi
 classical
 obtain ⟨o,ho⟩:∃ o:Ow,∀ x,o x=if x<w.heap.size then o0 x else if x<W1.heap.size then (if ∃ i,i<13/\D i=x then 1 else 0) else if x=B then 2 else if x=Q then 3 else if x=Fl then 4 else if h:∃ i,i<n/\bx i=x then 10+h.choose else 0:=⟨fun x=>if x<w.heap.size then o0 x else if x<W1.heap.size then (if ∃ i,i<13/\D i=x then 1 else 0) else if x=B then 2 else if x=Q then 3 else if x=Fl then 4 else if h:∃ i,i<n/\bx i=x then 10+h.choose else 0,fun _=>rfl⟩
 have afX:∀ i,i<n->o (bx i)=10+i:=fun i hi=>by
  have hb:=hbx i hi
  rw [ho,aT (by omega),aT (by omega),aT (by omega),aT (by omega),aT (by omega)]
  have hex:∃ k,k<n/\bx k=bx i:=⟨i,hi,rfl⟩
  rw [dif_pos hex]
  have hc:=hex.choose_spec
  rcases Nat.lt_trichotomy hex.choose i with h|h|h
  ·have:=hmono _ _ h hi;omega
  ·omega
  ·have:=hmono _ _ h hc.1;omega
 have hO:o S=0:=by
  rw [ho,aT (by omega),aT (by omega),aT (by omega),aT (by omega),aT (by omega),dif_neg]
  rintro ⟨i,hi,e⟩
  have:=(hbx i hi).1;omega
 have hoB:o B=2:=by rw [ho,aT (by omega),aT (by omega),aZ rfl]
 have hoQ:o Q=3:=by rw [ho,aT (by omega),aT (by omega),aT (by omega),aZ rfl]
 have hoF:o Fl=4:=by rw [ho,aT (by omega),aT (by omega),aT (by omega),aT (by omega),aZ rfl]
 have hoD:∀ i,i<13->o (D i)=1:=fun i hi=>by
  rw [ho,aT (by have:=hD i hi;omega),aZ (hDlt i hi),aZ ⟨i,hi,rfl⟩]
 have hz:∀ x,x<w.heap.size->o x=o0 x:=fun x hx=>by rw [ho,aZ hx]
 have hS0:S<W0.heap.size:=by omega
 refine ⟨o,⟨S,D,B,Q,Fl,bx⟩,rfl,⟨?_,⟨sv,hS,?_⟩,hO,?_,hoD,⟨(hz _ hgl.1).trans hz0.1,(hz _ hgl.2.1).trans hz0.2.1,(hz _ hgl.2.2).trans hz0.2.2⟩,?_,hoB,?_,hoQ,?_,hoF,?_⟩,hz,fun x hx0=>?_⟩
 ·intro x hx
  have h9:=hk.size
  rw [ho,aT (by omega),aT (by omega),aT (by omega),aT (by omega),aT (by omega),dif_neg]
  rintro ⟨i,hi,e⟩
  have:=(hbx i hi).2.1;omega
 ·have e:(ajj n ([]:List Nat)).length=n:=by simp
  show dH o W2 122 sv ((akS (ajj n ([]:List Nat)).length).map fun i=>aJ (bx i))
  rw [e]
  refine dH.afW hrow (by omega) (fun g hg=>?_)
  have hgl2:=(World.ownsRow.lt hrow g hg).1
  rw [ho,aT (by omega),aT (by omega),aT (by omega),aT (by omega),aT (by omega),dif_neg]
  rintro ⟨i,hi,e⟩
  exact nC (hbx i hi).2.2 hrow (by decide) (by rw [hg,e])
 ·exact (hH.still k1).aK hk (fun i hi e=>by have:=hDlt i hi;unfold only at e;omega) (fun e=>by unfold only at e;omega) (fun e=>by unfold only at e;omega) (fun e=>by unfold only at e;omega)
 ·exact hB.aK hk (fun e=>by unfold only at e;omega)
 ·exact jB.first (by rw [hoQ];decide) (hk.aH hQ (fun e=>by have e':Q=S:=e;omega))
 ·exact hk.aH hF (fun e=>by have e':Fl=S:=e;omega)
 ·intro i l hi
  have hin:i<n:=by have:=(ake.1 hi).1;simpa using this
  have el:l=[]:=by simp [hin] at hi;exact hi
  subst el
  exact ⟨⟨by rw [afX i hin];omega,.slice none 0 0,(hbx i hin).2.2,dH.nil _ _ _,fun _ _ e=>by cases e;rfl⟩,afX i hin⟩
 ·rw [ho,aT (by omega)]
  repeat' split
  all_goals first|omega|(rename_i hex;have:=hex.choose_spec.1;omega)
theorem aar (o0:Ow) (hz0:o0 3=0/\o0 4=0/\o0 2=0) (c:bK) (b ww nc n:Nat) (hok:c.ok=true) (hcb:c.b=b) (hcw:c.w=ww) (hcc:c.c=nc) (hcm:c.m=n) (w:World) (hT:lu w) (hS:jk w) (hgl:3<w.heap.size/\4<w.heap.size/\2<w.heap.size):Calls aA 39 #[.agg c.cells.toArray] w fun e w'=>∃ (o:Ow) (G:fU),e = .returned (.tuple #[au G.S,ah 0])/\fH o w' G (Sh.bC c b ww nc n)/\(∀ x,x<w.heap.size->o x=o0 x)/\(∀ x,w.heap.size<=x->o x<20)/\aj aB w w':=by
 obtain ⟨W0,hW0⟩:∃ W',W'=w.alloc (.cells c.cells.toArray 23):=⟨_,rfl⟩
 have HK:Hid (aj aB w W0):=by rw [hW0];exact (aj.refl _ _).alloc _
 have HN:=ay (aez c b ww nc hok hcb hcw hcc W0 (hT.aK HK.out) (hS.aK HK.out))
 have HB:=ay (show aF W0 w.heap.size c.cells 23 by rw [hW0];exact aF.bC w _ _)
 have qV:=jC hok
 have hn1:1<=n/\n<=8:=by omega
 have Jq:=ay hn1
 have jI:Hid (∀ W,Calls aA 68 #[ah (n:Int)] W fun e w'=>e = .returned (.tuple #[au W.heap.size,ah 0])/\kH w' W.heap.size (Bd.bC (n:Int))/\aj aB W w'):=fun W=>Xn (n:Int) W (by omega) (by omega)
 have Px:Hid (∀ (D:Nat->Nat) (B Q Fl S N0:Nat) (W1 W2 W3:World),aI W1 D (HS.bC c b ww nc)->(∀ i,i<13->w.heap.size<=D i)->w.heap.size<=W1.heap.size->kH W2 B (Bd.bC (n:Int))->aF W2 Q [.slice none 0 0,.slice none 0 0,.slice none 0 0,.slice none 0 0,ah 0] 172->aF W2 Fl [.bool false] 121 ->
  W1.heap.size<=B->B<Q->Q<Fl->Fl<S->S<N0->N0=W2.heap.size->aj aB W1 W2->Tj W2 S N0 [aJ (D 0),aJ B,aJ Q,aJ Fl] n W3->∃ (o:Ow) (G:fU),G.S=S/\fH o W3 G (Sh.bC c b ww nc n)/\(∀ x,x<w.heap.size->o x=o0 x)/\∀ x,w.heap.size<=x->o x<20) :=
  fun D B Q Fl S N0 W1 W2 W3 p1 p2 p3 p4 p5 p6 p7 p8 p9 p10 p11 p12 p13 p14=>aeB o0 hz0 p1 p2 p3 p4 p5 p6 p7 p8 p9 p10 p11 p12 p13 hgl hn1.2 p14
 obtain ⟨c0,c1,c2,c3,c4,c5,c6⟩:=c
 simp only at hcm
 subst hcm
 simp only [bK.cells] at HN HB ⊢
 have HW0:=ay hW0
 clear hT hok hS hgl qV hcb hcw hcc hW0
 go_enter func39,ntmps39
 go_wp2_with fail
 simp only [bK.cells] at HW0
 rw [<- HW0.out]
 refine HN.out.mono ?_
 rintro e w1 ⟨D,rfl,hH,hD,k1⟩
 have HH:=ay hH
 have HD:Hid (∀ i,i<13->w.heap.size<=D i):=fun i hi=>ajU HK.out.size (hD i hi)
 have hb1:=k1.aH HB.out (fun f=>f)
 have y2:w1.cell? ⟨w.heap.size,2,none⟩=some (ah (n:Int)):=hb1.cell 2 rfl
 have HB1:=ay hb1
 have bI:=ay (HK.out.trans k1)
 clear hH hD k1 HB HK HN hb1
 go_wp2_with fail
 refine (jI.out _).mono ?_
 rintro e w2 ⟨rfl,hBd,k2⟩
 have Ac:=ay hBd
 have dF:=ay k2
 have hb2:=k2.aH HB1.out (fun f=>f)
 have HB2:=ay hb2
 clear hBd k2 y2 HB1 hb2 jI
 go_wp2_with fail
 refine (afV _).mono ?_
 rintro e w3 ⟨rfl,hw3⟩
 obtain ⟨W5,nI⟩:∃ W5,W5=(w3.alloc (.cells #[.bool false] 121)).alloc (.cells #[aJ (D 0),aJ w1.heap.size,aJ w2.heap.size,aJ w3.heap.size,.slice none 0 0] 53):=⟨_,rfl⟩
 have k3:aj aB w2 w3:=by rw [hw3];exact (aj.refl _ _).alloc _
 have k5:aj aB w3 W5:=by rw [nI];exact ((aj.refl _ _).alloc _).alloc _
 have e3:w3.heap.size=w2.heap.size+1:=by rw [hw3];simp
 have e5:W5.heap.size=w3.heap.size+2:=by rw [nI];simp
 have hq:aF w3 w2.heap.size [.slice none 0 0,.slice none 0 0,.slice none 0 0,.slice none 0 0,ah 0] 172:=by rw [hw3];exact aF.bC w2 _ _
 have hfl:aF W5 w3.heap.size [.bool false] 121:=by rw [nI];exact (aF.bC w3 _ _).alloc _
 have hsh:aF W5 (w3.heap.size+1) [aJ (D 0),aJ w1.heap.size,aJ w2.heap.size,aJ w3.heap.size,.slice none 0 0] 53:=by
  rw [nI]
  have h9:=aF.bC (w3.alloc (.cells #[.bool false] 121)) [aJ (D 0),aJ w1.heap.size,aJ w2.heap.size,aJ w3.heap.size,.slice none 0 0] 53
  rw [World.size_alloc] at h9
  exact h9
 have HI0:Hid (Tj W5 (w3.heap.size+1) W5.heap.size [aJ (D 0),aJ w1.heap.size,aJ w2.heap.size,aJ w3.heap.size] 0 W5):=⟨aj.refl _ _,.slice none 0 0,fun _=>0,hsh,akT _ _ _ _,fun i hi=>absurd hi (akU i),fun i k _ hk=>absurd hk (akU k)⟩
 have hb5:=(k3.trans k5).aH HB2.out (fun f=>f)
 have y2:∀ x y,((w3.alloc x).alloc y).cell? ⟨w.heap.size,2,none⟩=some (ah (n:Int)):=fun x y=>(((k3.aH HB2.out (fun f=>f)).alloc x).alloc y).cell 2 rfl
 have iH:Hid (∀ W3,Tj W5 (w3.heap.size+1) W5.heap.size [aJ (D 0),aJ w1.heap.size,aJ w2.heap.size,aJ w3.heap.size] n W3->∃ (o:Ow) (G:fU),G.S=w3.heap.size+1/\fH o W3 G (Sh.bC ⟨c0,c1,n,c3,c4,c5,c6⟩ b ww nc n)/\(∀ x,x<w.heap.size->o x=o0 x)/\(∀ x,w.heap.size<=x->o x<20)/\aj aB w W3):=fun W3 hI=>by
  have s2:=Ac.out.aH.lt
  have s1:=bI.out.size
  obtain ⟨o,G,g1,g2,g3,g4⟩:=Px.out D w1.heap.size w2.heap.size w3.heap.size (w3.heap.size+1) W5.heap.size w1 W5 W3 HH.out HD.out bI.out.size (Ac.out.aK (k3.trans k5) (fun f=>f)) (k5.aH hq (fun f=>f)) hfl (Nat.le_refl _) (by omega) (by omega) (by omega) (by omega) rfl ((dF.out.trans k3).trans k5) hI
  exact ⟨o,G,g1,g2,g3,g4,(((bI.out.trans dF.out).trans k3).trans k5).QJ hI.aK (by omega)⟩
 have Tf:=ay nI
 have zl:Hid (W5.heap.size=w3.heap.size+2):=e5
 have ET:Hid (w.heap.size<W5.heap.size/\w.heap.size≠w3.heap.size+1):=by
  have:=HB2.out.lt;exact ⟨by omega,by omega⟩
 have HB5:=ay hb5
 clear k3 k5 e3 e5 hq hfl hsh hb5 hw3 Ac dF HB2 Px HH HD bI nI
 go_wp2_with fail
 rw [<- Tf.out]
 clear y2
 go_loopw [32] (fun i wr=>∃ k:Nat,k<=n/\i = ah k/\Tj W5 (w3.heap.size+1) W5.heap.size [aJ (D 0),aJ w1.heap.size,aJ w2.heap.size,aJ w3.heap.size] k wr) (fun i _=>n - (intOf i).toNat)
 case atStart=>exact ⟨0,aki _,rfl,HI0.out⟩
 case round =>
  obtain ⟨k,hk,rfl,hI⟩:=hrel
  by_cases hlt:k<n
  ·obtain ⟨hkp,sv,bx,hS,hrow,hbx,hmono⟩:=hI
   obtain ⟨sa,sc,rfl⟩:∃ a c,sv = .slice a k c:=by
    obtain ⟨a,aO,rfl,_⟩:=gy (bQ hrow (aki _))
    exact ⟨a,aO,rfl⟩
   have lJ:(k:Int)<(n:Int):=by omega
   have hk8:k<8:=by have:=Jq.out;omega
   have QX:(k:Int)<8:=by omega
   have hsS:w3.heap.size+1<wr.heap.size:=hS.lt
   have HL:Hid (Calls aA 70 #[] wr.drew fun e w9=>e = .returned (au wr.heap.size)/\w9.cell? ⟨w3.heap.size+1,4,none⟩=some (.slice sa k sc)/\(∀ x,(w9.alloc x).cell? ⟨w3.heap.size+1,4,none⟩=some (.slice sa k sc)) /\
    ∃ q aO w5,(app9 #[51,51] 51 #[.slice sa k sc,.slice (some ⟨w9.heap.size,0,none⟩) 1 1]).run aA (w9.alloc (.cells #[au wr.heap.size] 122)) = .ok (.slice (some ⟨q,0,none⟩) (k+1) aO) w5/\w5.frozen? ⟨w3.heap.size+1,4,none⟩=false/\w5.cell? ⟨w3.heap.size+1,4,none⟩=some (.slice sa k sc) /\
     Hid (Tj W5 (w3.heap.size+1) W5.heap.size [aJ (D 0),aJ w1.heap.size,aJ w2.heap.size,aJ w3.heap.size] (k+1) (w5.setCell ⟨w3.heap.size+1,4,none⟩ (.slice (some ⟨q,0,none⟩) (k+1) aO)))):=by
    refine (aeA _).mono ?_
    rintro e w9 ⟨rfl,hw9⟩
    have k9:aj aB wr w9:=by rw [hw9];exact ((aj.refl aB wr).drew).alloc _
    have e9:w9.heap.size=wr.heap.size+1:=by rw [hw9];simp
    have hb9:aF w9 wr.heap.size [.slice none 0 0] 176:=by rw [hw9];exact aF.bC wr.drew _ _
    obtain ⟨W1,hW1⟩:∃ W1,W1=w9.alloc (.cells #[au wr.heap.size] 122):=⟨_,rfl⟩
    have k91:aj aB w9 W1:=by rw [hW1];exact (aj.refl _ _).alloc _
    have k1:aj aB wr W1:=k9.trans k91
    have hN1:W1.cell? ⟨w9.heap.size,0,none⟩=some (au wr.heap.size):=by
     rw [hW1];exact (aF.bC w9 [au wr.heap.size] 122).cell 0 rfl
    have hbn:aF W1 wr.heap.size [.slice none 0 0] 176:=k91.aH hb9 (fun f=>f)
    have e1:W1.heap.size=wr.heap.size+2:=by rw [hW1];simp [e9]
    have hS9:=k9.aH hS (fun f=>f)
    have hrow1:=bY hrow k1
    obtain ⟨q,aO,w5,hrun,hown,hgr,hq⟩:=uJ (P:=aA) W1 51 51 122 (by kernel_rfl) Tryz.infoPBox rfl (bQ hrow1 (aki _)) (N:=w9.heap.size) (u := au wr.heap.size) hN1 rfl (by decide) (by omega)
    have ahY:(Value.slice sa k sc).ownBlock≠some (w3.heap.size+1):=nC (k1.aH hS (fun f=>f)) hrow1 (by decide)
    have ahZ:∀ i,i<k->(Value.slice sa k sc).ownBlock≠some (bx i):=fun i hi=>nC (k1.aH (hbx i hi).2.2 (fun f=>f)) hrow1 (by decide)
    have aia:(Value.slice sa k sc).ownBlock≠some wr.heap.size:=nC hbn hrow1 (by decide)
    have hS5:aF w5 (w3.heap.size+1) ([aJ (D 0),aJ w1.heap.size,aJ w2.heap.size,aJ w3.heap.size]++[.slice sa k sc]) 53:=(k1.aH hS (fun f=>f)).qh hgr ahY
    have f5:=hS5.free 4
    have c5:w5.cell? ⟨w3.heap.size+1,4,none⟩=some (.slice sa k sc):=hS5.cell 4 rfl
    have hge:W5.heap.size<=q:=by
     rcases hq with h|h
     ·exact (World.ownsRow.lt hrow1 q h).1
     ·have:=hkp.size;omega
    have Ym:Hid (Tj W5 (w3.heap.size+1) W5.heap.size [aJ (D 0),aJ w1.heap.size,aJ w2.heap.size,aJ w3.heap.size] (k+1) (w5.setCell ⟨w3.heap.size+1,4,none⟩ (.slice (some ⟨q,0,none⟩) (k+1) aO))):=by
     have s5:=hgr.size
     have sk:=hkp.size
     have hsz:=zl.out
     refine ⟨?_,.slice (some ⟨q,0,none⟩) (k+1) aO,fun i=>if i=k then wr.heap.size else bx i,?_,?_,?_,?_⟩
     ·have h8:aj (fun x=>(Value.slice sa k sc).ownBlock=some x) wr w5:=(k1.mono (fun _ _ f=>f.elim)).trans ⟨hgr.os,hgr.tape,hgr.output,hgr.size,fun x hx hn=>hgr.block x hx (fun e=>by first|exact hn e|exact hn e.symm)⟩
      have h9:aj (only (w3.heap.size+1)) W5 w5:=hkp.kF h8 (fun i hi hin=>absurd (World.ownsRow.lt hrow1 i hin).1 (by omega))
      exact h9.put 4 _
     ·exact hS5.set 4 _
     ·have e:(akS (k+1)).map (fun i=>aJ (if i=k then wr.heap.size else bx i))=(akS k).map (fun i=>aJ (bx i))++[aJ wr.heap.size]:=by
       rw [List.range_succ,List.map_append]
       congr 1
       ·refine List.map_congr_left (fun i hi=>?_)
        rw [aT (by have:=List.mem_range.1 hi;omega)]
       ·simp
      rw [e]
      exact Rf (zY (a:=⟨w3.heap.size+1,4,none⟩) hown (fun x hx=>by simp [Value.ownBlock] at hx;show x≠w3.heap.size+1;omega) _) hge
     ·intro i hi
      by_cases e:i=k
      ·subst e
       dsimp only
       rw [aZ rfl]
       exact ⟨sk,by simp;omega,(hbn.qh hgr aia).uh (by simp;omega) _⟩
      ·dsimp only
       rw [aT e]
       obtain ⟨g1,g2,g3⟩:=hbx i (by omega)
       exact ⟨g1,by simp;omega,((k1.aH g3 (fun f=>f)).qh hgr (ahZ i (by omega))).uh (by simp;omega) _⟩
     ·intro i j hij hj
      by_cases e:j=k
      ·subst e
       dsimp only
       rw [aZ rfl,aT (by omega)]
       exact (hbx i hij).2.1
      ·dsimp only
       rw [aT e,aT (by omega)]
       exact hmono i j hij (by omega)
    exact ⟨rfl,hS9.cell 4 rfl,fun x=>(hS9.alloc x).cell 4 rfl,q,aO,w5,by rw [<- hW1];exact hrun,f5,c5,Ym⟩
   have c0:wr.cell? ⟨w3.heap.size+1,4,none⟩=some (.slice sa k sc):=hS.cell 4 rfl
   have c0d:wr.drew.cell? ⟨w3.heap.size+1,4,none⟩=some (.slice sa k sc):=((aj.refl aB wr).drew).still c0
   clear hkp hS hrow hbx hmono
   go_wp2_with fail
   go_region_with (go_at_call 70;refine HL.out.mono ?_;rintro e w9 ⟨rfl,h9a,h9b,q,aO,w5,hrun9,f5,c5,Ym⟩)
   all_goals
    go_wp2_with fail
    go_roundw
    case rel=>exact ⟨k+1,by omega,by go_num,Ym.out⟩
    case measure=>simp [intOf]<;>omega
  ·have e1:k=n:=by omega
   subst e1
   have HE:=ay (iH.out wr hI)
   have hnlt:¬ (k:Int)<(k:Int):=by omega
   clear hI hlt
   go_wp2_with fail
   go_ret2
   obtain ⟨o,G,g1,g2,g3,g4,g5⟩:=HE.out
   exact ⟨o,G,by rw [g1];rfl,g2,g3,g4,g5⟩
end
section
attribute [local go_sem] Oper.semAt_some
open Go.RowKit
section
variable {o o':Ow} {w w':World} {G:fU} {g:MG} {s:Sh} {m:MS} {nv:Value} {ev:Option Ev}
theorem bM.evs3 (h:bM o w G g s m ev nv):∃ (a b c d e:Int) (t:Bool),(w.cell? ⟨g.M,23,none⟩=some (ah 0)/\w.cell? ⟨g.M,24,none⟩=some (ah a)/\w.cell? ⟨g.M,25,none⟩=some (ah b)/\w.cell? ⟨g.M,26,none⟩=some (ah c)/\w.cell? ⟨g.M,27,none⟩=some (ah d)/\w.cell? ⟨g.M,28,none⟩=some (ah e)/\w.cell? ⟨g.M,29,none⟩=some (.bool t))/\vK ev = .agg #[ah 0,ah a,ah b,ah c,ah d,ah e]/\sO ev = .bool t:=by
 cases ev with
 | none =>
   refine ⟨0,0,0,0,0,false,⟨?_,?_,?_,?_,?_,?_,?_⟩,rfl,rfl⟩
   all_goals exact h.cell _ _ (fun _ _=>rfl)
 | some x =>
   refine ⟨x.qX,x.kind,x.op,x.code,x.value,true,⟨?_,?_,?_,?_,?_,?_,?_⟩,rfl,rfl⟩
   all_goals exact h.cell _ _ (fun _ _=>rfl)
theorem Tm {o1 o2:Ow} {W2 W4 w6:World} {m2:MS} {s2:Sh} {v:Value} (hext:bZ w o o1) (hR:o1 w.heap.size=99) (hlt:w.heap.size<W2.heap.size) (k2:aj (In o (eH m.id)) w W2) (e2:bZ W2 o1 o2) (k4:aj (In o1 (eH m.id)) W2 W4)
 (h4:bM o2 W4 G g s2 m2 ev v) (_hid:m2.id=m.id) (n4:oz o2 W4 (G.D 0) (g.Nt,g.M) (30+m2.id) m2.next v) (hp:dV s m=(s2,m2,ev)) (k6:aj (only w.heap.size) W4 w6):pG o w G g s m (.returned (.tuple #[vK ev,sO ev])) w6:=by
 have hR2:o2 w.heap.size=99:=(e2 _ hlt).trans hR
 obtain ⟨h6,n6⟩:=h4.I4 n4 k6 hR2
 unfold pG
 rw [hp]
 refine ⟨o2,rfl,hext.trans k2.size e2,⟨ev,v,h6,n6⟩,?_⟩
 have k46:aj (fun b=>In o1 (eH m.id) b\/b=w.heap.size) W2 w6:=(k4.mono (fun _ _ h=>Or.inl h)).trans (k6.mono (fun b _ h=>Or.inr h))
 refine k2.kF k46 (fun i hi hin=>?_)
 rcases hin with hin|hin
 ·unfold In at hin ⊢
  rw [hext i hi] at hin
  exact hin
 ·omega
theorem acI {N:Nat} (h:bM o w G g s m ev nv) (hn:oz o w (G.D 0) (g.Nt,g.M) (30+m.id) m.next nv) (ok:AL N s m) (hN:N<=1000000000) (hst:IZ m.next) (hnn:jD m.next=false) (hgo:jD (stepM s { m with aU:=m.aU+1 } m.next).next=false):Calls aA 24 #[au g.M] w (pG o w G g s m):=by
 have i8:m.id<8:=ajf h.mF h.box8
 obtain ⟨o1,W2,hW2,hext,hR,h2,n2,k2,hB⟩:=h.pick0 hn
 obtain ⟨⟨x0,x1,x2,x3,x4,x5,x6,hx⟩,hsp0,hnx0,hfr0⟩:=h.behind
 have J5:Dz N s { m with aU:=m.aU+1 }:=⟨ok.aP,ok.dQ,ok.dS,ok.dG,ok.q,ok.rl⟩
 obtain ⟨fn,bs,Ti,hcf,hS⟩:=hst h2 J5 hN ok.nx nv n2 hnn
 have rk:=Nz J5 m.next ok.nx
 have hp:dV s m=((stepM s { m with aU:=m.aU+1 } m.next).s,{ (stepM s { m with aU:=m.aU+1 } m.next).m with next:=(stepM s { m with aU:=m.aU+1 } m.next).next },(stepM s { m with aU:=m.aU+1 } m.next).ev):=by
  unfold dV
  rw [hnn,aT (by decide)]
  simp only [hgo,akP,if_false]
 have hid:=rk.id
 simp only at hid
 obtain ⟨caps,MB⟩:∃ caps,caps=(bs.map aJ).toArray:=⟨_,rfl⟩
 rw [<- MB] at Ti hS
 clear MB
 generalize stepM s { m with aU:=m.aU+1 } m.next=R at *
 have HS:Hid (Calls aA fn caps W2 fun e w3=>∃ fn3 caps3,e = .returned (.func (.func fn3) #[] caps3)/\w3.frozen? ⟨g.M,17,none⟩=false/\w3.cell? ⟨g.M,17,none⟩=some nv /\
  ∀ W4,W4=w3.setCell ⟨g.M,17,none⟩ (.func (.func fn3) #[] caps3)->W4.cell? ⟨g.M,17,none⟩=some (.func (.func fn3) #[] caps3)/\∃ (a b c d e:Int) (t:Bool),(W4.cell? ⟨g.M,23,none⟩=some (ah 0)/\W4.cell? ⟨g.M,24,none⟩=some (ah a)/\W4.cell? ⟨g.M,25,none⟩=some (ah b)/\W4.cell? ⟨g.M,26,none⟩=some (ah c)/\W4.cell? ⟨g.M,27,none⟩=some (ah d)/\W4.cell? ⟨g.M,28,none⟩=some (ah e)/\W4.cell? ⟨g.M,29,none⟩=some (.bool t)) /\
   aF W4 w.heap.size zero6.toList 37/\Hid (∀ w6,aj (only w.heap.size) W4 w6->pG o w G g s m (.returned (.tuple #[.agg #[ah 0,ah a,ah b,ah c,ah d,ah e],.bool t])) w6)):=by
  refine hS.mono ?_
  rintro e w3 ⟨o2,v3,rfl,e2,h3,n3,k3⟩
  rcases n3.form2 with ⟨hc,_⟩|⟨_,fn3,caps3,rfl⟩
  ·rw [hgo] at hc;cases hc
  refine ⟨fn3,caps3,rfl,h3.free 17,h3.c17,fun W4 l9=>?_⟩
  obtain ⟨h4,k4⟩:=h3.Tc (.func (.func fn3) #[] caps3)
  rw [<- l9] at h4 k4
  rw [hid] at k4
  obtain ⟨a,b,c,d,e,t,hcs,ea,et⟩:=h4.evs3
  have k24:aj (In o1 (eH m.id)) W2 W4:=k3.KN (k4.oW (by simp [eH])) e2
  have hB4:aF W4 w.heap.size zero6.toList 37:=hB.bg k24 hR (by simp [eH]<;>omega)
  refine ⟨h4.c17,a,b,c,d,e,t,hcs,hB4,fun w6 k6=>?_⟩
  rw [<- ea,<- et]
  have n4:oz o2 W4 (G.D 0) (g.Nt,g.M) (30+R.m.id) R.next (.func (.func fn3) #[] caps3):=by
   rw [hid];exact n3.bg k4 (by simp<;>omega) (by simp<;>omega)
  exact Tm hext hR hB.lt k2 e2 k24 (h4.FI R.next) hid n4 hp k6
 have hsp:=ok.sp
 have Td:(m.aU:Int)<=1000000000:=by omega
 have Me:(0:Int)<=(m.aU:Int):=by omega
 have qZ:=hW2
 unfold CZ at qZ
 have HW2:=ay qZ
 subst Ti
 have hnq:=J3 fn caps
 have heq:=acu
 have f17:=fun x=>hfr0 x 17
 have f19:=fun x=>hfr0 x 19
 have f23:=fun x=>hfr0 x 23
 have f24:=fun x=>hfr0 x 24
 have f25:=fun x=>hfr0 x 25
 have f26:=fun x=>hfr0 x 26
 have f27:=fun x=>hfr0 x 27
 have f28:=fun x=>hfr0 x 28
 have f29:=fun x=>hfr0 x 29
 have g23:=fun x=>(hx x).1
 have g24:=fun x=>(hx x).2.1
 have g25:=fun x=>(hx x).2.2.1
 have g26:=fun x=>(hx x).2.2.2.1
 have g27:=fun x=>(hx x).2.2.2.2.1
 have g28:=fun x=>(hx x).2.2.2.2.2.1
 have g29:=fun x=>(hx x).2.2.2.2.2.2
 generalize pG o w G g s m=PO at *
 generalize m.aU=sp at *
 clear h hn h2 n2 k2 hext hW2 qZ hx hfr0 hB hnn hgo hsp rk J5 hp ok hS hid
 go_enter func24,ntmps24
 go_wp2_with fail
 rw [<- HW2.out]
 refine HS.out.mono ?_
 rintro e w3 ⟨fn3,caps3,rfl,e17,d17,hs⟩
 obtain ⟨W5,nI⟩:∃ W5,W5=w3.setCell ⟨g.M,17,none⟩ (.func (.func fn3) #[] caps3):=⟨_,rfl⟩
 obtain ⟨z17,a,b,c,d,e,t,⟨y0,y1,y2,y3,y4,y5,y6⟩,fD,hend⟩:=hs W5 nI
 have iH:=ay hend
 obtain ⟨W6,uZ⟩:∃ W6,W6=W5.drew:=⟨_,rfl⟩
 have k56:aj aB W5 W6:=by rw [uZ];exact (aj.refl aB W5).drew
 have iO:=k56.aH fD (fun f=>f)
 have Tf:=ay nI
 have zf0:=fD.free 0
 have zf1:=fD.free 1
 have zf2:=fD.free 2
 have zf3:=fD.free 3
 have zf4:=fD.free 4
 have zf5:=fD.free 5
 have z0:W5.cell? ⟨w.heap.size,0,none⟩=some (ah 0):=fD.cell 0 rfl
 have z1:W5.cell? ⟨w.heap.size,1,none⟩=some (ah 0):=fD.cell 1 rfl
 have z2:W5.cell? ⟨w.heap.size,2,none⟩=some (ah 0):=fD.cell 2 rfl
 have z3:W5.cell? ⟨w.heap.size,3,none⟩=some (ah 0):=fD.cell 3 rfl
 have z4:W5.cell? ⟨w.heap.size,4,none⟩=some (ah 0):=fD.cell 4 rfl
 have z5:W5.cell? ⟨w.heap.size,5,none⟩=some (ah 0):=fD.cell 5 rfl
 have Ht:=k56.still y0;have x1':=k56.still y1;have x2':=k56.still y2;have x3':=k56.still y3;have Hu:=k56.still y4;have Hw:=k56.still y5;have Hy:=k56.still y6
 have yf0:=iO.free 0
 have yf1:=iO.free 1
 have yf2:=iO.free 2
 have yf3:=iO.free 3
 have yf4:=iO.free 4
 have yf5:=iO.free 5
 have r0:W6.cell? ⟨w.heap.size,0,none⟩=some (ah 0):=iO.cell 0 rfl
 have r1:W6.cell? ⟨w.heap.size,1,none⟩=some (ah 0):=iO.cell 1 rfl
 have r2:W6.cell? ⟨w.heap.size,2,none⟩=some (ah 0):=iO.cell 2 rfl
 have r3:W6.cell? ⟨w.heap.size,3,none⟩=some (ah 0):=iO.cell 3 rfl
 have r4:W6.cell? ⟨w.heap.size,4,none⟩=some (ah 0):=iO.cell 4 rfl
 have r5:W6.cell? ⟨w.heap.size,5,none⟩=some (ah 0):=iO.cell 5 rfl
 rw [uZ] at r0 r1 r2 r3 r4 r5 yf0 yf1 yf2 yf3 yf4 yf5 Ht x1' x2' x3' Hu Hw Hy
 clear f17 f19 f23 f24 f25 f26 f27 f28 f29 g23 g24 g25 g26 g27 g28 g29 hsp0 hnx0 hend hs fD iO Td Me HS k56 uZ hnq hcf
 rw [nI] at z17
 clear nI
 go_wp2_with fail
 rw [<- Tf.out]
 clear e17 d17 z17
 go_region
 go_wp2_with fail
 refine bodyPost_ret (v := .tuple #[.agg #[ah 0,ah a,ah b,ah c,ah d,ah e],.bool t]) (by simp [results,Tryz.f24,go_sem,z0,z1,z2,z3,z4,z5]) rfl ?_
 exact iH.out _ ((((((((aj.refl (only w.heap.size) _).put _ _).put _ _).put _ _).put _ _).put _ _).put _ _).drew)
end
section
variable {o o':Ow} {w w':World} {G:fU} {g:MG} {s:Sh} {m:MS} {nv:Value} {ev:Option Ev}
theorem bM.aeC (h:bM o w G g s m ev .nilFunc):bM o (w.setCell ⟨g.M,20+(if m.mg then 1 else 0),none⟩ (ah ((max (if m.mg then m.most1 else m.most0) m.aU:Nat):Int))) G g s { m with next := .nil }.most ev .nilFunc/\aj (In o [20+m.id]) w (w.setCell ⟨g.M,20+(if m.mg then 1 else 0),none⟩ (ah ((max (if m.mg then m.most1 else m.most0) m.aU:Nat):Int))):=by
 obtain ⟨id,c,aW,aY,oq,aP,dQ,prog,dG,next,held,aU,most0,most1,mg⟩:=m
 cases mg with
 | true =>
   obtain ⟨h1,k1⟩:=h.put 21 (ah ((max most1 aU:Nat):Int)) ⟨id,c,aW,aY,oq,aP,dQ,prog,dG,next,held,aU,most0,max most1 aU,true⟩ ev .nilFunc (fun pv rv=>rfl) ⟨rfl,rfl,rfl,rfl,rfl,rfl⟩
   exact ⟨h1.FI .nil,k1⟩
 | false =>
   obtain ⟨h1,k1⟩:=h.put 20 (ah ((max most0 aU:Nat):Int)) ⟨id,c,aW,aY,oq,aP,dQ,prog,dG,next,held,aU,max most0 aU,most1,false⟩ ev .nilFunc (fun pv rv=>rfl) ⟨rfl,rfl,rfl,rfl,rfl,rfl⟩
   exact ⟨h1.FI .nil,k1⟩
theorem bM.ahw (h:bM o w G g s m ev nv):w.cell? ⟨g.M,20+(if m.mg then 1 else 0),none⟩=some (ah ((if m.mg then m.most1 else m.most0:Nat):Int)):=by
 cases ha:m.mg with
 | true=>exact h.cell 21 _ (fun _ _=>rfl)
 | false=>exact h.cell 20 _ (fun _ _=>rfl)
theorem aas {N:Nat} (h:bM o w G g s m ev nv) (hn:oz o w (G.D 0) (g.Nt,g.M) (30+m.id) m.next nv) (ok:AL N s m) (hN:N<=1000000000) (hst:IZ m.next) (hnn:jD m.next=false) (hgo:jD (stepM s { m with aU:=m.aU+1 } m.next).next=true):Calls aA 24 #[au g.M] w (pG o w G g s m):=by
 have i8:m.id<8:=ajf h.mF h.box8
 obtain ⟨o1,W2,hW2,hext,hR,h2,n2,k2,hB⟩:=h.pick0 hn
 obtain ⟨⟨x0,x1,x2,x3,x4,x5,x6,hx⟩,hsp0,hnx0,hfr0⟩:=h.behind
 have J5:Dz N s { m with aU:=m.aU+1 }:=⟨ok.aP,ok.dQ,ok.dS,ok.dG,ok.q,ok.rl⟩
 obtain ⟨fn,bs,Ti,hcf,hS⟩:=hst h2 J5 hN ok.nx nv n2 hnn
 have rk:=Nz J5 m.next ok.nx
 have hp:dV s m=((stepM s { m with aU:=m.aU+1 } m.next).s,{ (stepM s { m with aU:=m.aU+1 } m.next).m with next := .nil }.most,(stepM s { m with aU:=m.aU+1 } m.next).ev):=by
  unfold dV
  rw [hnn,aT (by decide)]
  simp only [hgo,if_true]
 have hid:=rk.id
 simp only at hid
 obtain ⟨caps,MB⟩:∃ caps,caps=(bs.map aJ).toArray:=⟨_,rfl⟩
 rw [<- MB] at Ti hS
 clear MB
 generalize stepM s { m with aU:=m.aU+1 } m.next=R at *
 have HS:Hid (Calls aA fn caps W2 fun e w3=>e = .returned .nilFunc/\w3.frozen? ⟨g.M,17,none⟩=false/\w3.cell? ⟨g.M,17,none⟩=some nv /\
  ∃ (an:Bool) (mo Hz:Nat),∀ W4,W4=w3.setCell ⟨g.M,17,none⟩ .nilFunc->W4.cell? ⟨g.M,17,none⟩=some .nilFunc/\W4.cell? ⟨g.M,22,none⟩=some (.bool an)/\W4.cell? ⟨g.M,19,none⟩=some (ah (Hz:Int))/\W4.cell? ⟨g.M,20+(if an then 1 else 0),none⟩=some (ah (mo:Int))/\W4.frozen? ⟨g.M,20+(if an then 1 else 0),none⟩=false /\
  ∃ (a b c d e:Int) (t:Bool),∀ W5,W5=(W4.setCell ⟨g.M,20+(if an then 1 else 0),none⟩ (ah ((max mo Hz:Nat):Int))).drew->(W5.cell? ⟨g.M,23,none⟩=some (ah 0)/\W5.cell? ⟨g.M,24,none⟩=some (ah a)/\W5.cell? ⟨g.M,25,none⟩=some (ah b)/\W5.cell? ⟨g.M,26,none⟩=some (ah c)/\W5.cell? ⟨g.M,27,none⟩=some (ah d)/\W5.cell? ⟨g.M,28,none⟩=some (ah e)/\W5.cell? ⟨g.M,29,none⟩=some (.bool t)) /\
   aF W5 w.heap.size zero6.toList 37/\Hid (∀ w6,aj (only w.heap.size) W5 w6->pG o w G g s m (.returned (.tuple #[.agg #[ah 0,ah a,ah b,ah c,ah d,ah e],.bool t])) w6)):=by
  refine hS.mono ?_
  rintro e w3 ⟨o2,v3,rfl,e2,h3,n3,k3⟩
  rcases n3.form2 with ⟨_,rfl⟩|⟨hc,_⟩
  rotate_left
  ·rw [hgo] at hc;cases hc
  refine ⟨rfl,h3.free 17,h3.c17,R.m.mg,(if R.m.mg then R.m.most1 else R.m.most0),R.m.aU,fun W4 l9=>?_⟩
  obtain ⟨h4,k4⟩:=h3.Tc .nilFunc
  rw [<- l9] at h4 k4
  rw [hid] at k4
  refine ⟨h4.c17,h4.c22,h4.c19,h4.ahw,h4.free _,?_⟩
  obtain ⟨h5,k5⟩:=h4.aeC
  rw [hid] at k5
  obtain ⟨a,b,c,d,e,t,-,ea,et⟩:=h5.evs3
  refine ⟨a,b,c,d,e,t,fun W5 nI=>?_⟩
  have k5d:aj aB (W4.setCell ⟨g.M,20+(if R.m.mg then 1 else 0),none⟩ (ah ((max (if R.m.mg then R.m.most1 else R.m.most0) R.m.aU:Nat):Int))) W5:=by rw [nI];exact (aj.refl aB _).drew
  have h6:=h5.still k5d
  obtain ⟨a',b',c',d',e',t',hcs,ea',et'⟩:=h6.evs3
  have e9:(a=a'/\b=b'/\c=c'/\d=d'/\e=e')/\t=t':=by
   rw [ea] at ea';rw [et] at et'
   simp at ea' et'
   exact ⟨ea',et'⟩
  obtain ⟨⟨rfl,rfl,rfl,rfl,rfl⟩,rfl⟩:=e9
  have k24:aj (In o1 (eH m.id)) W2 W5:=(k3.KN ((k4.trans k5).oW (by simp [eH])) e2).trans k5d.bV
  have hB4:aF W5 w.heap.size zero6.toList 37:=hB.bg k24 hR (by simp [eH]<;>omega)
  refine ⟨hcs,hB4,fun w6 k6=>?_⟩
  rw [<- ea,<- et]
  have er:({ R.m with next := .nil }:MS).most.id=m.id/\({ R.m with next := .nil }:MS).most.next = .nil:=by
   unfold MS.most
   split<;>exact ⟨hid,rfl⟩
  exact Tm hext hR hB.lt k2 e2 k24 h6 er.1 (by rw [er.2];rfl) hp k6
 have hsp:=ok.sp
 have Td:(m.aU:Int)<=1000000000:=by omega
 have Me:(0:Int)<=(m.aU:Int):=by omega
 have qZ:=hW2
 unfold CZ at qZ
 have HW2:=ay qZ
 subst Ti
 have hnq:=J3 fn caps
 have heq:=aen
 have f17:=fun x=>hfr0 x 17
 have f19:=fun x=>hfr0 x 19
 have f23:=fun x=>hfr0 x 23
 have f24:=fun x=>hfr0 x 24
 have f25:=fun x=>hfr0 x 25
 have f26:=fun x=>hfr0 x 26
 have f27:=fun x=>hfr0 x 27
 have f28:=fun x=>hfr0 x 28
 have f29:=fun x=>hfr0 x 29
 have g23:=fun x=>(hx x).1
 have g24:=fun x=>(hx x).2.1
 have g25:=fun x=>(hx x).2.2.1
 have g26:=fun x=>(hx x).2.2.2.1
 have g27:=fun x=>(hx x).2.2.2.2.1
 have g28:=fun x=>(hx x).2.2.2.2.2.1
 have g29:=fun x=>(hx x).2.2.2.2.2.2
 generalize pG o w G g s m=PO at *
 generalize m.aU=sp at *
 clear h hn h2 n2 k2 hext hW2 qZ hx hfr0 hB hnn hgo hsp rk J5 hp ok hS hid
 go_enter func24,ntmps24
 go_wp2_with fail
 rw [<- HW2.out]
 refine HS.out.mono ?_
 rintro e w3 ⟨rfl,e17,d17,an,mo,Hz,hs⟩
 obtain ⟨W4,l9⟩:∃ W4,W4=w3.setCell ⟨g.M,17,none⟩ .nilFunc:=⟨_,rfl⟩
 obtain ⟨z17,z22,z19,z20,zf20,a,b,c,d,e,t,hs5⟩:=hs W4 l9
 have HW4:=ay l9
 have DN:=ay hs5
 have zd19:W4.drew.cell? ⟨g.M,19,none⟩=some (ah (Hz:Int)):=(aj.refl aB W4).drew.still z19
 have zd20:=((aj.refl aB W4).drew).still z20
 rw [l9] at z17 z22
 clear f17 f19 f23 f24 f25 f26 f27 f28 f29 g23 g24 g25 g26 g27 g28 g29 hsp0 hnx0 hs5 hs Td Me HS hnq hcf l9
 by_cases hle:Hz<=mo
 ·have hmx:max mo Hz=mo:=Nat.max_eq_left hle
  rw [hmx] at DN
  have acJ:(Hz:Int)<=(mo:Int):=by omega
  clear hmx hle
  cases an
  all_goals
   simp only [akP,if_false,if_true,Nat.add_zero,Nat.reduceAdd] at z20 zf20 zd20 DN
   obtain ⟨⟨y0,y1,y2,y3,y4,y5,y6⟩,fD,hend⟩:=DN.out _ rfl
   go_wp2_with fail
   rw [<- HW4.out]
   clear e17 d17 z17 z22
   go_region
   go_wp2_with fail
   have iH:=ay hend
   have zf0:=fD.free 0
   have zf1:=fD.free 1
   have zf2:=fD.free 2
   have zf3:=fD.free 3
   have zf4:=fD.free 4
   have zf5:=fD.free 5
   have z0:=fD.cell 0 (v := ah 0) rfl
   have z1:=fD.cell 1 (v := ah 0) rfl
   have z2:=fD.cell 2 (v := ah 0) rfl
   have z3:=fD.cell 3 (v := ah 0) rfl
   have z4:=fD.cell 4 (v := ah 0) rfl
   have z5:=fD.cell 5 (v := ah 0) rfl
   clear hend fD DN zd19 zd20 z19 z20 zf20 acJ
   generalize (W4.setCell _ _).drew=W5 at *
   have Ht:=(aj.refl aB W5).drew.still y0;have x1':=(aj.refl aB W5).drew.still y1;have x2':=(aj.refl aB W5).drew.still y2;have x3':=(aj.refl aB W5).drew.still y3;have Hu:=(aj.refl aB W5).drew.still y4;have Hw:=(aj.refl aB W5).drew.still y5;have Hy:=(aj.refl aB W5).drew.still y6
   have r0:=(aj.refl aB W5).drew.still z0;have r1:=(aj.refl aB W5).drew.still z1;have r2:=(aj.refl aB W5).drew.still z2;have r3:=(aj.refl aB W5).drew.still z3;have r4:=(aj.refl aB W5).drew.still z4;have r5:=(aj.refl aB W5).drew.still z5
   go_region
   go_wp2_with fail
   refine bodyPost_ret (v := .tuple #[.agg #[ah 0,ah a,ah b,ah c,ah d,ah e],.bool t]) (by simp [results,Tryz.f24,go_sem,z0,z1,z2,z3,z4,z5]) rfl ?_
   exact iH.out _ ((((((((aj.refl (only w.heap.size) _).put _ _).put _ _).put _ _).put _ _).put _ _).put _ _).drew)
 ·have hmx:max mo Hz=Hz:=Nat.max_eq_right (by omega)
  rw [hmx] at DN
  have acJ:¬ (Hz:Int)<=(mo:Int):=by omega
  have lJ:(mo:Int)<(Hz:Int):=by omega
  clear hmx hle
  cases an
  all_goals
   simp only [akP,if_false,if_true,Nat.add_zero,Nat.reduceAdd] at z20 zf20 zd20 DN
   obtain ⟨⟨y0,y1,y2,y3,y4,y5,y6⟩,fD,hend⟩:=DN.out _ rfl
   go_wp2_with fail
   rw [<- HW4.out]
   clear e17 d17 z17 z22
   go_region
   go_wp2_with fail
   have iH:=ay hend
   have zf0:=fD.free 0
   have zf1:=fD.free 1
   have zf2:=fD.free 2
   have zf3:=fD.free 3
   have zf4:=fD.free 4
   have zf5:=fD.free 5
   have z0:=fD.cell 0 (v := ah 0) rfl
   have z1:=fD.cell 1 (v := ah 0) rfl
   have z2:=fD.cell 2 (v := ah 0) rfl
   have z3:=fD.cell 3 (v := ah 0) rfl
   have z4:=fD.cell 4 (v := ah 0) rfl
   have z5:=fD.cell 5 (v := ah 0) rfl
   clear hend fD DN zd19 zd20 z19 z20 zf20 acJ
   generalize (W4.setCell _ _).drew=W5 at *
   have Ht:=(aj.refl aB W5).drew.still y0;have x1':=(aj.refl aB W5).drew.still y1;have x2':=(aj.refl aB W5).drew.still y2;have x3':=(aj.refl aB W5).drew.still y3;have Hu:=(aj.refl aB W5).drew.still y4;have Hw:=(aj.refl aB W5).drew.still y5;have Hy:=(aj.refl aB W5).drew.still y6
   have r0:=(aj.refl aB W5).drew.still z0;have r1:=(aj.refl aB W5).drew.still z1;have r2:=(aj.refl aB W5).drew.still z2;have r3:=(aj.refl aB W5).drew.still z3;have r4:=(aj.refl aB W5).drew.still z4;have r5:=(aj.refl aB W5).drew.still z5
   go_region
   go_wp2_with fail
   refine bodyPost_ret (v := .tuple #[.agg #[ah 0,ah a,ah b,ah c,ah d,ah e],.bool t]) (by simp [results,Tryz.f24,go_sem,z0,z1,z2,z3,z4,z5]) rfl ?_
   exact iH.out _ ((((((((aj.refl (only w.heap.size) _).put _ _).put _ _).put _ _).put _ _).put _ _).put _ _).drew)
end
end
section
open Go.RowKit
theorem Tryz.infoOpC:(aA.info? 83).map (fun i=>(i.zero,i.size,i.bytes))=some (some (.agg #[ah 0,ah 0,ah 0,ah 0]),4,32):=by kernel_rfl
theorem Tn {sz:Nat} (h0:0<sz):∀ (rs:List (List Value)),(∀ r∈rs,r.length=sz)->∀ j u,rs.flatten[j]?=some u->∃ i r q,rs[i]?=some r/\r[q]?=some u/\j=i*sz+q
 | [],_,j,u,h=>by simp at h
 | r0::rs,hr,j,u,h=>by
   have hl:r0.length=sz:=hr r0 (by simp)
   rw [akV] at h
   rcases Nat.lt_or_ge j r0.length with h1|h1
   ·rw [ajk h1] at h
    exact ⟨0,r0,j,rfl,h,by omega⟩
   ·rw [ajl h1] at h
    obtain ⟨i,r,q,e1,e2,e3⟩:=Tn h0 rs (fun r h=>hr r (by simp [h])) _ u h
    refine ⟨i+1,r,q,by simpa using e1,e2,?_⟩
    rw [Nat.succ_mul];omega
theorem vI.aat {w:World} {a:Option Addr} {n sz:Nat} {rs:List (List Value)} (h:vI w a n sz rs) (hs:0<sz) (hr:∀ r∈rs,r.length=sz) {ad:Addr} (ha:a=some ad):∀ j u,rs.flatten[j]?=some u->w.cell? (ad.add j)=some u:=by
 intro j u hj
 obtain ⟨i,r,q,e1,e2,rfl⟩:=Tn hs rs hr j u hj
 have hi:=(ake.1 e1).1
 obtain ⟨b,off,e,hc⟩:=h.ni (by have:=h.len;omega)
 rw [ha] at e
 injection e with e
 subst e
 have ea:(⟨b,off,none⟩:Addr).add (i*sz+q)=⟨b,off+i*sz+q,none⟩:=by simp only [Addr.add];split<;>simp_all<;>omega
 rw [ea]
 exact hc i r e1 q u e2
theorem VA (a:Option Addr) (n c:Nat) (rs:List (List Value)) (w:World) (h:vI w a n 4 rs) (hr:∀ r∈rs,r.length=4) (hnil:a=none->c=0) (hm:n<=100000000) (h1:∀ r∈rs,∀ u∈r,u.oneCell'=true) :
 Calls aA 77 #[.slice a n c] w fun e w'=>∃ v',e = .returned v'/\w'.ownsRow w.heap.size 83 4 v' n rs.flatten/\aj aB w w':=by
 have hlen:=RZ rs hr
 have hnl:=h.len
 cases a with
 | none =>
   have h0:n=0:=by
    rcases Nat.eq_zero_or_pos n with h0|h0
    ·exact h0
    ·obtain ⟨b,off,e,_⟩:=h.ni h0;cases e
   subst h0
   have:rs=[]:=akg hnl
   subst this
   obtain rfl:=hnil rfl
   clear h hr hnil hm h1 hlen hnl
   have hn:=fun w=>Lib.run_eql_slice_nil (P:=aA) w 81 83 none 0 0 0 0 (by kernel_rfl)
   go_enter func77,ntmps77
   go_wp2
   go_ret
   exact ⟨_,rfl,akT _ _ _ _,aj.refl _ _⟩
 | some ad =>
   have hn:=fun w=>Lib.run_eql_slice_nil (P:=aA) w 81 83 (some ad) n c 0 0 (by kernel_rfl)
   obtain ⟨i0,hi1,hi2,hi3,hi4⟩:=info_parts Tryz.infoOpC
   have hw0:∀ w:World,(w.alloc (.cells #[] 83)).ownsRow w.heap.size 83 4 (.slice (some ⟨w.heap.size,0,none⟩) 0 0) 0 []:=fun w=>World.ownsRow_made w #[] 0 (Nat.le_refl _) (by decide) rfl
   have HC:=ay (fun j u hj=>(h.below ((aj.refl aB w).alloc (.cells #[] 83))).aat (by decide) hr rfl j u hj)
   have HU:Hid (∀ u∈rs.flatten,u.oneCell'=true):=fun u hu=>by
    obtain ⟨r,hr1,hr2⟩:=List.mem_flatten.1 hu
    exact h1 r hr1 u hr2
   rw [hnl] at hlen
   generalize rs.flatten=xs at *
   clear h hr hnil h1 hnl
   go_enter func77,ntmps77
   go_wp2_with (at_builtin;refine wpList_append_own _ rfl _ _ 81 rfl w.heap.size 83 i0 (.agg #[ah 0,ah 0,ah 0,ah 0]) 4 32 (by kernel_rfl) hi1 hi2 hi3 hi4 rfl (by decide) _ _ _ rfl (hw0 w) ad n c xs rfl hlen HC.out HU.out (by unfold maxLen;omega) (by omega) (by simp) ?_;intro v' w1 hown hgr _)
   have hown':w1.ownsRow w.heap.size 83 4 v' n xs:=by simpa using hown
   have hkeep:aj aB w w1:=((aj.refl aB w).alloc _).qh hgr (fun k e hk=>absurd hk (by have e':w.heap.size=k:=Option.some.inj e;omega))
   clear hown hgr
   go_wp2
   go_ret
   exact ⟨_,rfl,hown',hkeep⟩
end
section
attribute [local go_sem] Oper.semAt_some
open Go.RowKit
section
variable {o o':Ow} {w w':World} {G:fU} {g:MG} {s:Sh} {m:MS} {nv:Value} {ev:Option Ev}
theorem aau {N:Nat} (h:qw o w G g s m) (ok:AL N s m) (hN:N<=1000000000) (hst:IZ m.next):Calls aA 24 #[au g.M] w (pG o w G g s m):=by
 obtain ⟨ev,nv,h1,hn⟩:=h
 cases hnil:jD m.next with
 | true=>exact Yk h1 hn hnil (ajU ok.sp hN)
 | false =>
   cases hgo:jD (stepM s { m with aU:=m.aU+1 } m.next).next with
   | true=>exact aas h1 hn ok hN hst hnil hgo
   | false=>exact acI h1 hn ok hN hst hnil hgo
theorem aav (h:qw o w G g s m):Calls aA 78 #[au g.M] w fun e w'=>e = .returned (.bool (!jD m.next))/\w=w':=by
 obtain ⟨ev,nv,h1,hn⟩:=h
 rcases hn.form2 with ⟨e,rfl⟩|⟨e,fn,caps,rfl⟩
 ·rw [e];exact acG h1
 ·rw [e];exact aan h1
theorem qw.still (h:qw o w G g s m) (k:aj aB w w'):qw o w' G g s m:=by
 obtain ⟨ev,nv,h1,hn⟩:=h
 exact ⟨ev,nv,h1.still k,hn.bg (I:=[]) k.bV rfl rfl⟩
theorem aaw (h:qw o w G g s m):Calls aA 42 #[au g.M] w fun e w'=>e = .returned (.bool (mZ m))/\aj aB w w':=by
 have HB:Hid (∀ W,aj aB w W->Calls aA 78 #[au g.M] W fun e w'=>e = .returned (.bool (!jD m.next))/\W=w'):=fun W hW=>aav (h.still hW)
 obtain ⟨ev,nv,h1,hn⟩:=h
 have hkd:aj aB w w.drew:=(aj.refl aB w).drew
 obtain ⟨rv,er,_,ra,rc,LC⟩:=h1.NM
 rw [LC] at er
 obtain ⟨pa,pc,ep,_,_⟩:=h1.QS
 have er':=hkd.still er
 have ep':=hkd.still ep
 have HK:Hid (aj aB w w.drew):=hkd
 cases hnil:jD m.next with
 | false =>
   have HD:Hid (mZ m=false):=by unfold Hid mZ;rw [hnil];rfl
   rw [hnil] at HB
   simp only [Bool.not_false] at HB
   generalize mZ m=dn at *
   generalize m.dG.length=rl at *
   generalize m.prog.length=pl at *
   clear h1 hn hkd hnil
   go_enter func42,ntmps42
   go_wp2_with fail
   go_quiet (first|(go_at_call 78;exact Calls.quiet_of_same (iQ (HB.out _ ((aj.refl aB w).drewN _)))))
   go_wp2_with fail
   go_ret
   exact ⟨by rw [HD.out];rfl,(aj.refl aB w).drewN _⟩
 | true =>
   rw [hnil] at HB
   simp only [Bool.not_true] at HB
   by_cases hl:m.dG.length=m.prog.length
   ·have HD:Hid (mZ m=true):=by unfold Hid mZ;rw [hnil,hl];simp
    rw [hl] at er er'
    generalize mZ m=dn at *
    generalize m.prog.length=pl at *
    clear h1 hn hkd hnil hl
    go_enter func42,ntmps42
    go_wp2_with fail
    go_quiet (first|(go_at_call 78;exact Calls.quiet_of_same (iQ (HB.out _ ((aj.refl aB w).drewN _)))))
    go_wp2_with fail
    go_ret
    exact ⟨by rw [HD.out];rfl,(aj.refl aB w).drewN _⟩
   ·have HD:Hid (mZ m=false):=by unfold Hid mZ;rw [hnil];simp [hl]
    have hne:((m.dG.length:Int)==(m.prog.length:Int))=false:=by simp;omega
    generalize mZ m=dn at *
    generalize m.dG.length=rl at *
    generalize m.prog.length=pl at *
    clear h1 hn hkd hnil hl
    go_enter func42,ntmps42
    go_wp2_with fail
    go_quiet (first|(go_at_call 78;exact Calls.quiet_of_same (iQ (HB.out _ ((aj.refl aB w).drewN _)))))
    go_wp2_with fail
    go_ret
    exact ⟨by rw [HD.out];rfl,(aj.refl aB w).drewN _⟩
end
theorem aeD (l:Int) (w:World) (h:1<=l) (h2:l<=256):Calls aA 75 #[ah l] w fun e w'=>e = .returned (.tuple #[au w.heap.size,ah 0])/\w'=w.alloc (.cells #[.slice none 0 0,ah l] 179):=by
 have h3:¬ l<1:=by omega
 have h4:¬ 256<l:=by omega
 go_enter func75,ntmps75
 go_wp2_with fail
 go_ret2
 exact ⟨rfl,rfl⟩
theorem aeE (a b c d:Nat) (w:World):Calls aA 76 #[au a,au b,au c,au d] w fun e w'=>e = .returned (.tuple #[au w.heap.size,ah 0])/\w'=w.alloc (.cells #[au a,au b,au c,au d] 181):=by
 go_enter func76,ntmps76
 go_wp2_with fail
 go_ret2
 exact ⟨rfl,rfl⟩
def lD (prog:List jy):List (List Value):=prog.map jy.cells
theorem Em {prog:List jy}:∀ r∈lD prog,r.length=4:=fun r hr=>by
 obtain ⟨op,_,rfl⟩:=akW.1 hr;rfl
theorem VB {prog:List jy}:∀ r∈lD prog,∀ u∈r,u.oneCell'=true:=fun r hr u hu=>by
 obtain ⟨op,_,rfl⟩:=akW.1 hr
 simp [jy.cells] at hu
 rcases hu with rfl|rfl|rfl|rfl<;>rfl
theorem Tq {sz:Nat}:∀ (rs:List (List Value)),(∀ r∈rs,r.length=sz)->∀ i r,rs[i]?=some r->∀ j v,r[j]?=some v->rs.flatten[i*sz+j]?=some v
 | [],_,i,r,h,_,_,_=>by simp at h
 | r0::rs,hr,i,r,hi,j,v,hj=>by
   have h0:r0.length=sz:=hr r0 (by simp)
   rw [akV]
   cases i with
   | zero =>
     simp at hi;subst hi
     have:=(ake.1 hj).1
     rw [Nat.zero_mul,Nat.zero_add,ajk (by omega)];exact hj
   | succ i =>
     have e:(i+1)*sz+j=r0.length+(i*sz+j):=by rw [Nat.succ_mul,h0];omega
     rw [e,ajl (by omega),Nat.add_sub_cancel_left]
     exact Tq rs (fun r h=>hr r (by simp [h])) i r (by simpa using hi) j v hj
theorem xw.yG {o:Ow} {w:World} {bP n:Nat} {v:Value} {prog:List jy} (h:w.ownsRow bP 83 4 v n (lD prog).flatten) (hn:n=prog.length) (hm:n<=1000) (hf:∀ b,v.ownBlock=some b->o b=0):xw o w v prog:=by
 subst hn
 obtain ⟨hl,hf2⟩:=h
 rcases hf2 with ⟨rfl,h0⟩|⟨g,aO,cur,rfl,hg0,hg,hn,_,hs,hc⟩
 ·exact ⟨none,0,by rw [h0],hm,fun hp=>by omega⟩
 ·refine ⟨_,aO,rfl,hm,fun hp=>⟨g,0,cur.toList,rfl,hf g rfl,by unfold aF;simpa using hg,fun i op hi j u hj=>?_⟩⟩
  have h1:=Tq (lD prog) Em i op.cells (by unfold lD;rw [List.getElem?_map,hi];rfl) j u hj
  rw [<- hc] at h1
  have hlt:=(ake.1 h1).1
  rw [Nat.zero_add]
  rw [List.getElem?_take_of_lt (by simp at hlt;omega)] at h1
  exact h1
theorem aeF {o:Ow} {w0 V:World} {G:fU} {s:Sh} {id M X Bf Nt n:Nat} {prog:List jy} {pv:Value} (h:fH o w0 G s) (hid:id<s.aV.length) (h8:s.aV.length<=8) (k:aj aB w0 V)
 (hM:aF V M (sK G ⟨M,X,Bf,Nt⟩ (MS.bC s.H.c id prog) none pv (.slice none 0 0) .nilFunc) 108) (hX:aF V X (aS (ajj s.H.c.r.toNat 0)) 3) (hB:aF V Bf [.slice none 0 0,ah s.H.c.l] 179) (hN:aF V Nt [aJ (G.D 0),aJ Bf,aJ (G.bx id),aJ G.Fl] 181)
 (hp:V.ownsRow w0.heap.size 83 4 pv n (lD prog).flatten) (hn:n=prog.length) (hm:n<=1000) (g1:w0.heap.size<=M) (g2:w0.heap.size<=X) (g3:w0.heap.size<=Bf) (g4:w0.heap.size<=Nt) :
 ∃ o',bZ w0 o o'/\qw o' V G ⟨M,X,Bf,Nt⟩ s (MS.bC s.H.c id prog)/\(∀ x,o' x=o x\/(w0.heap.size<=x/\o' x=20+id)):=by
 have nMX:M≠X:=fun e=>by rw [e] at hM;exact absurd (hM.jL hX).2 (by decide)
 have nMB:M≠Bf:=fun e=>by rw [e] at hM;exact absurd (hM.jL hB).2 (by decide)
 have nXB:X≠Bf:=fun e=>by rw [e] at hX;exact absurd (hX.jL hB).2 (by decide)
 have nNM:Nt≠M:=fun e=>by rw [e] at hN;exact absurd (hN.jL hM).2 (by decide)
 have nNX:Nt≠X:=fun e=>by rw [e] at hN;exact absurd (hN.jL hX).2 (by decide)
 have nNB:Nt≠Bf:=fun e=>by rw [e] at hN;exact absurd (hN.jL hB).2 (by decide)
 obtain ⟨o',ho⟩:∃ o':Ow,o'=((o.put M (20+id)).put X (20+id)).put Bf (20+id):=⟨_,rfl⟩
 have hM':o' M=20+id:=by rw [ho];unfold Ow.put;rw [aT nMB,aT nMX,aZ rfl]
 have hX':o' X=20+id:=by rw [ho];unfold Ow.put;rw [aT nXB,aZ rfl]
 have hB':o' Bf=20+id:=by rw [ho];unfold Ow.put;rw [aZ rfl]
 have hoth:∀ x,x≠M->x≠X->x≠Bf->o' x=o x:=fun x h1 h2 h3=>by rw [ho];unfold Ow.put;rw [aT h3,aT h2,aT h1]
 have hext:bZ w0 o o':=fun b hb=>hoth b (by omega) (by omega) (by omega)
 have acf:kJ o' V:=fun b hb=>by
  rw [hoth b (by have:=hM.lt;omega) (by have:=hX.lt;omega) (by have:=hB.lt;omega)]
  exact h.iV b (by have:=k.size;omega)
 have hsh:fH o' V G s:=h.move (I:=[]) k.bV rfl h8 hext acf
 have qV:=jC h.heap.ji.ok
 refine ⟨o',hext,⟨none,.nilFunc,⟨hsh,⟨pv,.slice none 0 0,hM,?_,⟨rfl,.inl ⟨rfl,rfl⟩⟩,fun b hb=>by simp [Value.ownBlock] at hb⟩,hM',hX,hX',⟨by show o' Bf≠0;rw [hB'];omega,.slice none 0 0,hB,dH.nil _ _ _,fun _ _ e=>by cases e;rfl⟩,hB',hN,?_,hid,h8,rfl,?_,?_⟩,rfl⟩,fun x=>?_⟩
 ·refine xw.yG hp hn hm (fun b hb=>?_)
  have hlt:=(World.ownsRow.lt hp b hb).1
  have hlt2:=(World.ownsRow.lt hp b hb).2
  rw [hoth b (fun e=>nC hM hp (by decide) (by rw [hb,e])) (fun e=>nC hX hp (by decide) (by rw [hb,e])) (fun e=>nC hB hp (by decide) (by rw [hb,e]))]
  exact h.iV b hlt
 ·show o' Nt=0
  rw [hoth Nt nNM nNX nNB]
  exact h.iV Nt g4
 ·show ((ajj s.H.c.r.toNat 0).length:Int)=s.H.c.r
  rw [List.length_replicate];omega
 ·show (0:Int)<=s.H.c.l;omega
 ·by_cases e1:x=M
  ·right;rw [e1];exact ⟨g1,hM'⟩
  by_cases e2:x=X
  ·right;rw [e2];exact ⟨g2,hX'⟩
  by_cases e3:x=Bf
  ·right;rw [e3];exact ⟨g3,hB'⟩
  ·left;exact hoth x e1 e2 e3
end
end Go.Proofs.YtanfphjoebobaaaGreatDoor
