/- Parts of the iy. No conditions. -/
import Derived.Test.YtanfphjoebobaaaGreatDoorZzft
namespace Go.Proofs.YtanfphjoebobaaaGreatDoor
open _root_.Array renaming replicate_succ->akY
open _root_.Go.IntWalk renaming i64_in->ajw
open _root_.List renaming all_eq_true->akA,append_toArray->ala,getD_eq_getElem?_getD->ajg,getElem?_eq_getElem->ajh,getElem?_eq_none->ajK,getElem?_eq_some_iff->ake,getElem?_set_ne->ajB,getElem?_set_self->ajA,length_cons->akn,length_nil->ako,nil_append->akr,push_toArray->akZ,replicate->ajj,size_toArray->akX,take_zero->ajs
open _root_.Nat renaming le_refl->aje,le_succ->aju,le_trans->ajU,lt_of_lt_of_le->ajf
open _root_.Go.Proofs.Tryz hiding prog
open _root_.Go.Proofs.Tryz renaming prog->aA
set_option maxRecDepth 100000
set_option maxHeartbeats 8000000
section
attribute [local go_sem] Oper.semAt_some
open Go.RowKit
section
variable {o o':Ow} {w w':World} {G:fU} {s:Sh}
theorem fH.yQ (h:fH o w G s):w.cell? ⟨G.S,0,none⟩=some (au (G.D 0))/\w.cell? ⟨G.S,3,none⟩=some (au G.Fl)/\∃ a c,w.cell? ⟨G.S,4,none⟩=some (.slice a s.aV.length c)/\∀ i,i<s.aV.length->∃ b off,a=some ⟨b,off,none⟩/\w.cell? ⟨b,off+i,none⟩=some (au (G.bx i)):=by
 obtain ⟨v,hb,hr⟩:=h.sh
 obtain ⟨a,c,rfl,_,_,hc⟩:=hr.form
 simp only [List.length_map,List.length_range] at hb
 refine ⟨hb.cell 0 rfl,hb.cell 3 rfl,a,c,hb.cell 4 rfl,fun i hi=>?_⟩
 exact hc i (aJ (G.bx i)) (by simp [hi])
theorem fH.still (h:fH o w G s) (k:aj aB w w') (h8:s.aV.length<=8):fH o w' G s:=h.bg (I:=[]) k.bV rfl h8
theorem aax (h:fH o w G s) (h8:s.aV.length<=8) (id:Nat) (hid:id<s.aV.length) (prog:List jy) (n:Nat) (hn:n=prog.length) (hm:n<=1000) (a:Option Addr) (c:Nat) (hr:vI w a n 4 (lD prog)) (hnil:a=none->c=0) :
 Calls aA 41 #[au G.S,ah (id:Int),.slice a n c] w fun e w'=>∃ (o':Ow) (g:MG),e = .returned (.tuple #[au g.M,ah 0])/\bZ w o o'/\qw o' w' G g s (MS.bC s.H.c id prog)/\(∀ x,o' x=o x\/(w.heap.size<=x/\o' x=20+id))/\aj aB w w':=by
 obtain ⟨s0,s3,sa,sc,s4,sbx⟩:=h.yQ
 obtain ⟨sb,aiK,rfl,bxc⟩:=sbx id hid
 have qV:=jC h.heap.ji.ok
 have sN:=ay (zO h.heap)
 have Px:Hid (∀ W,aj aB w W->fH o W G s):=fun W hW=>h.still hW h8
 have HR:Hid (∀ W,aj aB w W->vI W a n 4 (lD prog)):=fun W hW=>hr.below hW
 have uN:Hid (∀ W,aj aB w W->Calls aA 77 #[.slice a n c] W fun e w'=>∃ v',e = .returned v'/\w'.ownsRow W.heap.size 83 4 v' n (lD prog).flatten/\aj aB W w'):=fun W hW=>VA a n c (lD prog) W (hr.below hW) Em hnil (by omega) VB
 obtain ⟨m9,hm9⟩:∃ m9,m9=MS.bC s.H.c id prog:=⟨_,rfl⟩
 rw [<- hm9]
 have uy:Hid (∀ (V:World) (M X Bf Nt:Nat) (pv:Value),aj aB w V->aF V M (sK G ⟨M,X,Bf,Nt⟩ (MS.bC s.H.c id prog) none pv (.slice none 0 0) .nilFunc) 108->aF V X (aS (ajj s.H.c.r.toNat 0)) 3->aF V Bf [.slice none 0 0,ah s.H.c.l] 179->aF V Nt [aJ (G.D 0),aJ Bf,aJ (G.bx id),aJ G.Fl] 181->V.ownsRow w.heap.size 83 4 pv n (lD prog).flatten->w.heap.size<=M->w.heap.size<=X->w.heap.size<=Bf->w.heap.size<=Nt ->
  ∃ (o':Ow) (g:MG),g.M=M/\bZ w o o'/\qw o' V G g s m9/\(∀ x,o' x=o x\/(w.heap.size<=x/\o' x=20+id))/\aj aB w V):=fun V M X Bf Nt pv k p1 p2 p3 p4 p5 p6 p7 p8 p9=>by
  obtain ⟨o',q1,q2,q3⟩:=aeF h hid h8 k p1 p2 p3 p4 p5 hn hm p6 p7 p8 p9
  exact ⟨o',⟨M,X,Bf,Nt⟩,rfl,q1,by rw [hm9];exact q2,q3,k⟩
 obtain ⟨r,hrr⟩:∃ r:Nat,s.H.c.r=(r:Int):=⟨s.H.c.r.toNat,by omega⟩
 have hr64:(r:Int)<=64:=by omega
 have hmk:∀ w:World,(Instr.makeSlice 32 (ah (r:Int)) (ah (r:Int))).run aA w = .ok (.slice (some ⟨w.heap.size,0,none⟩) r r) (w.alloc (.cells (fV (ah 0) r).toArray 3)) :=
  fun w=>yD (P:=aA) (by kernel_rfl) Tryz.infoInt rfl (by decide) r (by omega) _ rfl w
 have hzt:aS (ajj s.H.c.r.toNat 0)=fV (ah 0) r:=by
  rw [hrr];simp [aS,fV]
 have tJ:Hid (∀ W,Calls aA 75 #[ah s.H.c.l] W fun e w'=>e = .returned (.tuple #[au W.heap.size,ah 0])/\w'=W.alloc (.cells #[.slice none 0 0,ah s.H.c.l] 179)):=fun W=>aeD _ W (by omega) (by omega)
 have aiL:(id:Int)<(s.aV.length:Int):=by omega
 have hid0:(0:Int)<=(id:Int):=by omega
 have hid1:¬ (s.aV.length:Int)<=(id:Int):=by omega
 have hmI:(n:Int)<=1000:=by omega
 have hmN:¬ (1000:Int)<(n:Int):=by omega
 rw [hzt] at uy
 have HC:Hid (∃ c0 c1 c2 c4 c6,s.H.c=⟨c0,c1,c2,r,c4,s.H.c.l,c6⟩):=⟨s.H.c.b,s.H.c.w,s.H.c.m,s.H.c.c,s.H.c.s,by rw [<- hrr]⟩
 obtain ⟨c0,c1,c2,c4,c6,hcc⟩:=HC.out
 obtain ⟨l,hl⟩:∃ l,l=s.H.c.l:=⟨_,rfl⟩
 rw [<- hl] at hcc uy tJ
 simp only [sK,MS.bC,hcc,bK.cells] at uy sN
 generalize s.aV.length=bl at *
 clear h hr hnil hn qV hrr hzt hcc hl HC hm9
 go_enter func41,ntmps41
 go_wp2_with fail
 refine sN.out.mono ?_
 rintro e w1 ⟨rfl,k1⟩
 obtain ⟨W2,hW2⟩:∃ W2,W2=w1.alloc (.cells #[ah c0,ah c1,ah c2,ah (r:Int),ah c4,ah l,ah c6] 23):=⟨_,rfl⟩
 have k2:aj aB w W2:=by rw [hW2];exact k1.alloc _
 have hcb:aF W2 w1.heap.size [ah c0,ah c1,ah c2,ah (r:Int),ah c4,ah l,ah c6] 23:=by rw [hW2];exact aF.bC w1 _ _
 have HW2:=ay hW2
 have dF:=ay k2
 have afY:Hid (w.heap.size<=w1.heap.size):=k1.size
 have ET:=ay hcb
 have qK:=ay s0
 have KY:=ay s3
 have KZ:=ay s4
 have Tt:=ay bxc
 clear k1 sN hW2 k2 hcb s0 s3 s4 bxc
 go_wp2_with fail
 rw [<- HW2.out]
 refine (tJ.out _).mono ?_
 rintro e w3 ⟨rfl,hw3⟩
 have k23:aj aB W2 w3:=by rw [hw3];exact (aj.refl _ _).alloc _
 have hbf:aF w3 W2.heap.size [.slice none 0 0,ah l] 179:=by rw [hw3];exact aF.bC W2 _ _
 have k3:aj aB w w3:=dF.out.trans k23
 have s0:=k3.still qK.out
 have s3:=k3.still KY.out
 have s4:=k3.still KZ.out
 have sx:=k3.still Tt.out
 have k3d:aj aB w w3.drew:=k3.drew
 have HNT:=ay (aeE (G.D 0) W2.heap.size (G.bx id) G.Fl w3.drew)
 have HBF:=ay hbf
 have jF:=ay k3
 have afZ:=ay k23
 clear hw3 k23 hbf k3 k3d tJ
 go_wp2_with fail
 refine bG 16 rfl (by kernel_rfl) (by kernel_rfl) (fun K hK=>?_)
 change wpStill _ _ (World.drew _) _ _ _
 simp only [List.take_succ_cons,ajs,List.drop_succ_cons,List.drop_zero] at hK ⊢
 repeat still_step
 refine wpStill_nil ?_
 change ite _ (Oper.wp _ _ _ _ _ _) _
 go_simp
 refine HNT.out.mono ?_
 rintro e w4 ⟨rfl,hw4⟩
 refine hK _ _ ?_
 clear hK K
 have k34:aj aB w3 w4:=by rw [hw4];exact (aj.refl aB w3).drew.alloc _
 have hnt:aF w4 w3.heap.size [au (G.D 0),au W2.heap.size,au (G.bx id),au G.Fl] 181:=by rw [hw4];exact aF.bC w3.drew _ _
 have e4:w4.heap.size=w3.heap.size+1:=by rw [hw4];simp
 have aga:=ay (k34.aH HBF.out (fun f=>f))
 have H7:=ay ((afZ.out.trans k34).aH ET.out (fun f=>f))
 have nV:=ay (jF.out.trans k34)
 have agb:=ay hnt
 have Pm:Hid (w.heap.size<=w1.heap.size/\w1.heap.size<W2.heap.size/\W2.heap.size<w3.heap.size):=⟨afY.out,ET.out.lt,HBF.out.lt⟩
 clear hw4 k34 hnt s0 s3 s4 sx HNT HBF ET afZ jF e4
 repeat still_step
 refine wpStill_nil ?_
 have N8:Hid (∀ W',aj aB w4 W'->W'.cell? ⟨w1.heap.size,0,none⟩=some (ah c0)/\W'.cell? ⟨w1.heap.size,1,none⟩=some (ah c1)/\W'.cell? ⟨w1.heap.size,2,none⟩=some (ah c2)/\W'.cell? ⟨w1.heap.size,3,none⟩=some (ah (r:Int))/\W'.cell? ⟨w1.heap.size,4,none⟩=some (ah c4)/\W'.cell? ⟨w1.heap.size,5,none⟩=some (ah l)/\W'.cell? ⟨w1.heap.size,6,none⟩=some (ah c6)):=fun W' hW=>⟨hW.still (H7.out.cell 0 rfl),hW.still (H7.out.cell 1 rfl),hW.still (H7.out.cell 2 rfl),hW.still (H7.out.cell 3 rfl),hW.still (H7.out.cell 4 rfl),hW.still (H7.out.cell 5 rfl),hW.still (H7.out.cell 6 rfl)⟩
 have agc:Hid (∀ W,aj aB w4 W->Calls aA 77 #[.slice a n c] W fun e w'=>∃ a8 c8,e = .returned (.slice a8 n c8)/\Hid (w'.ownsRow w.heap.size 83 4 (.slice a8 n c8) n (lD prog).flatten)/\Hid (aj aB W w')/\Hid (aj aB w4 w')/\(∀ x,aj aB w4 (w'.alloc x))):=fun W hW=>by
  refine (uN.out W (nV.out.trans hW)).mono ?_
  rintro e w' ⟨v',rfl,h1,h2⟩
  obtain ⟨a8,c8,rfl⟩:∃ a8 c8,v' = .slice a8 n c8:=by
   rcases h1.2 with ⟨e1,e2⟩|⟨q,aO,cur,e1,_⟩
   ·exact ⟨none,0,by rw [e1,e2]⟩
   ·exact ⟨_,_,e1⟩
  exact ⟨a8,c8,rfl,bQ h1 (nV.out.trans hW).size,h2,hW.trans h2,fun x=>(hW.trans h2).alloc x⟩
 have iH:Hid (∀ (V:World) (X:Nat) (pv:Value),aj aB w4 V->w.heap.size<=X->aF V X (fV (ah 0) r) 3->V.ownsRow w.heap.size 83 4 pv n (lD prog).flatten ->
  ∃ (o':Ow) (g:MG),g.M=V.heap.size/\bZ w o o'/\qw o' (V.alloc (.cells #[au G.S,ah c0,ah c1,ah c2,ah (r:Int),ah c4,ah l,ah c6,ah (id:Int),.slice (some ⟨X,0,none⟩) r r,au W2.heap.size,au w3.heap.size,ah 0,ah 0,ah 0,pv,.slice none 0 0,.nilFunc,ah 0,ah 0,ah 0,ah 0,.bool false,ah 0,ah 0,ah 0,ah 0,ah 0,ah 0,.bool false] 108)) G g s m9/\(∀ x,o' x=o x\/(w.heap.size<=x/\o' x=20+id))/\aj aB w (V.alloc (.cells #[au G.S,ah c0,ah c1,ah c2,ah (r:Int),ah c4,ah l,ah c6,ah (id:Int),.slice (some ⟨X,0,none⟩) r r,au W2.heap.size,au w3.heap.size,ah 0,ah 0,ah 0,pv,.slice none 0 0,.nilFunc,ah 0,ah 0,ah 0,ah 0,.bool false,ah 0,ah 0,ah 0,ah 0,ah 0,ah 0,.bool false] 108))):=fun V X pv k p1 p2 p3=>by
  have kv:aj aB V (V.alloc (.cells #[au G.S,ah c0,ah c1,ah c2,ah (r:Int),ah c4,ah l,ah c6,ah (id:Int),.slice (some ⟨X,0,none⟩) r r,au W2.heap.size,au w3.heap.size,ah 0,ah 0,ah 0,pv,.slice none 0 0,.nilFunc,ah 0,ah 0,ah 0,ah 0,.bool false,ah 0,ah 0,ah 0,ah 0,ah 0,ah 0,.bool false] 108)):=(aj.refl _ _).alloc _
  have he:=Pm.out
  exact uy.out _ V.heap.size X W2.heap.size w3.heap.size pv ((nV.out.trans k).trans kv) (by refine Eq.mpr ?_ (aF.bC V [au G.S,ah c0,ah c1,ah c2,ah (r:Int),ah c4,ah l,ah c6,ah (id:Int),.slice (some ⟨X,0,none⟩) r r,au W2.heap.size,au w3.heap.size,ah 0,ah 0,ah 0,pv,.slice none 0 0,.nilFunc,ah 0,ah 0,ah 0,ah 0,.bool false,ah 0,ah 0,ah 0,ah 0,ah 0,ah 0,.bool false] 108);congr 1;simp [EL]) (kv.aH p2 (fun f=>f)) ((k.trans kv).aH aga.out (fun f=>f)) ((k.trans kv).aH agb.out (fun f=>f)) (bY p3 kv) (by have:=(nV.out.trans k).size;omega) p1 (by omega) (by omega)
 have zl:Hid (w.heap.size<=w4.heap.size):=nV.out.size
 have HCA:=ay (agc.out w4.drew ((aj.refl aB w4).drew))
 have aib:=ay (agc.out (w4.alloc (.cells (fV (ah 0) r).toArray 3)).drew (((aj.refl aB w4).alloc _).drew))
 clear uN uy Pm nV H7 agb aga Px HR HW2 dF afY qK KY KZ Tt
 go_wp2_with fail
 go_region_held3 (fun W'=>W'.cell? ⟨w1.heap.size,0,none⟩=some (ah c0)/\W'.cell? ⟨w1.heap.size,1,none⟩=some (ah c1)/\W'.cell? ⟨w1.heap.size,2,none⟩=some (ah c2)/\W'.cell? ⟨w1.heap.size,3,none⟩=some (ah (r:Int))/\W'.cell? ⟨w1.heap.size,4,none⟩=some (ah c4)/\W'.cell? ⟨w1.heap.size,5,none⟩=some (ah l)/\W'.cell? ⟨w1.heap.size,6,none⟩=some (ah c6))
  (first
   | exact N8.out _ ((aj.refl aB w4).drew)
   | exact N8.out _ (((aj.refl aB w4).drew).alloc _)
   | exact N8.out _ (((aj.refl aB w4).alloc _).drew)
   | exact N8.out _ hk48.out
   | exact N8.out _ (Yn _)
   | exact N8.out _ ((Yn _).alloc _)
   | fail "nR")
  (first
   | ((first|refine HCA.out.mono ?_|refine aib.out.mono ?_)
      rintro e w8 ⟨a8,c8,rfl,hown,hk8,hk48,Yn⟩)
   | fail "qg")
 all_goals
  go_wp2_with fail
  go_ret2
  first
   | (obtain ⟨o',g,q1,q2,q3,q4,q5⟩:=iH.out w8 w4.heap.size (.slice a8 n c8) hk48.out zl.out (hk8.out.aH ((aF.bC w4 (fV (ah 0) r) 3).drew) (fun f=>f)) hown.out
      exact ⟨o',g,by rw [q1];rfl,q2,q3,q4,q5⟩)
   | (obtain ⟨o',g,q1,q2,q3,q4,q5⟩:=iH.out (w8.alloc (.cells (fV (ah 0) r).toArray 3)) w8.heap.size (.slice a8 n c8) (Yn _) (ajU zl.out hk48.out.size) (aF.bC w8 (fV (ah 0) r) 3) (bY hown.out ((aj.refl aB w8).alloc _))
      rw [World.size_alloc] at q1
      exact ⟨o',g,by rw [q1];rfl,q2,q3,q4,q5⟩)
end
def CS.bC (c:bK) (n:Nat):CS:=⟨n,c.b.toNat,c.c.toNat,c.s.toNat,0,0,0,false,false,[],false,.nil,0,0⟩
section
variable {o o':Ow} {w w':World} {G:fU} {s:Sh}
theorem aay (room:Int) (h1:1<=room) (h2:room<=4096) (w:World):Calls aA 44 #[ah room] w fun e w'=>e = .returned (.tuple #[au w.heap.size,ah 0])/\w'=w.alloc (.cells #[.slice none 0 0,ah room,.bool false] 135):=by
 have d1:¬ room<1:=by omega
 have d2:¬ (4096:Int)<room:=by omega
 go_enter func44,ntmps44
 go_wp2_with fail
 go_ret2
 exact ⟨rfl,rfl⟩
theorem acK (h:fH o w G s) (h8:s.aV.length<=8) {V:World} {C K:Nat} (k:aj aB w V) (hb:1<=s.H.c.b) (hc:0<=s.H.c.c) (hs:1<=s.H.c.s)
 (hC:aF V C (nJ G ⟨C,K⟩ (CS.bC s.H.c s.aV.length) none .nilFunc) 90) (hK:aF V K [.slice none 0 0,ah s.H.c.s,.bool false] 135) (h1:w.heap.size<=C) (h2:w.heap.size<=K) :
 ∃ (o':Ow),bZ w o o'/\kZ o' V G ⟨C,K⟩ s (CS.bC s.H.c s.aV.length)/\∀ x,o' x=o x\/(w.heap.size<=x/\o' x=5):=by
 have e1:bZ w o (o.put K 5):=Ow.pF (.inl h2)
 have f1:kJ (o.put K 5) V:=Ow.um h.iV k.size hK.lt
 have e2:bZ w (o.put K 5) ((o.put K 5).put C 5):=Ow.pF (.inl h1)
 have f2:kJ ((o.put K 5).put C 5) V:=Ow.um f1 (aje _) hC.lt
 have e:bZ w o ((o.put K 5).put C 5):=fun b hb=>(e2 b hb).trans (e1 b hb)
 have oC:((o.put K 5).put C 5) C=5:=Ow.qW _ _ _
 have oK:((o.put K 5).put C 5) K=5:=by
  by_cases hx:K=C
  ·rw [hx];exact Ow.qW _ _ _
  ·unfold Ow.put
   simp [hx]
 have hs2:s.H.c.s=((CS.bC s.H.c s.aV.length).room:Int):=by show s.H.c.s=((s.H.c.s.toNat:Nat):Int);omega
 refine ⟨_,e,⟨none,.nilFunc,⟨h.move (I:=[]) k.bV rfl h8 e f2,hC,oC,⟨.slice none 0 0,?_,⟨rfl,.inl ⟨rfl,rfl⟩⟩,fun b hb=>by cases hb⟩,oK,h8⟩,rfl⟩,fun x=>?_⟩
 ·rw [<- hs2];exact hK
 ·unfold Ow.put
  by_cases hx:x=C
  ·exact .inr ⟨by omega,by simp [hx]⟩
  ·by_cases hy:x=K
   ·exact .inr ⟨by omega,by simp [hx,hy]⟩
   ·exact .inl (by simp [hx,hy])
theorem Yo (h:fH o w G s) (h8:s.aV.length<=8):Calls aA 13 #[au G.S] w fun e w'=>∃ (o':Ow) (q:CG),e = .returned (.tuple #[au q.C,ah 0])/\bZ w o o'/\kZ o' w' G q s (CS.bC s.H.c s.aV.length)/\(∀ x,o' x=o x\/(w.heap.size<=x/\o' x=5))/\aj aB w w':=by
 obtain ⟨s0,s3,sa,sc,s4,sbx⟩:=h.yQ
 have qV:=jC h.heap.ji.ok
 have sN:=ay (zO h.heap)
 obtain ⟨nb,hnb⟩:∃ n:Nat,s.H.c.b=(n:Int):=⟨s.H.c.b.toNat,by omega⟩
 obtain ⟨nc,hnc⟩:∃ n:Nat,s.H.c.c=(n:Int):=⟨s.H.c.c.toNat,by omega⟩
 have uy:Hid (∀ (V:World) (C K:Nat),aj aB w V->aF V C [aJ G.S,ah (s.aV.length:Int),ah s.H.c.b,ah s.H.c.c,ah 0,ah 0,ah 0,.bool false,.bool false,aJ K,.nilFunc,ah 0,ah 0,ah 0,ah 0,ah 0,ah 0,ah 0,ah 0,.bool false] 90->aF V K [.slice none 0 0,ah s.H.c.s,.bool false] 135->w.heap.size<=C->w.heap.size<=K ->
  ∃ (o':Ow) (q:CG),q.C=C/\bZ w o o'/\kZ o' V G q s (CS.bC s.H.c s.aV.length)/\(∀ x,o' x=o x\/(w.heap.size<=x/\o' x=5))/\aj aB w V):=fun V C K k p1 p2 p3 p4=>by
  obtain ⟨o',q1,q2,q3⟩:=acK (C:=C) (K:=K) h h8 k (by omega) (by omega) (by omega) (by
   have:nJ G ⟨C,K⟩ (CS.bC s.H.c s.aV.length) none .nilFunc=[aJ G.S,ah (s.aV.length:Int),ah s.H.c.b,ah s.H.c.c,ah 0,ah 0,ah 0,.bool false,.bool false,aJ K,.nilFunc,ah 0,ah 0,ah 0,ah 0,ah 0,ah 0,ah 0,ah 0,.bool false]:=by
    rw [hnb,hnc]
    simp [nJ,CS.bC,EL,hnb,hnc]
   rw [this];exact p1) p2 p3 p4
  exact ⟨o',_,rfl,q1,q2,q3,k⟩
 have H8:Hid (∀ W,Calls aA 44 #[ah s.H.c.s] W fun e w'=>e = .returned (.tuple #[au W.heap.size,ah 0])/\w'=W.alloc (.cells #[.slice none 0 0,ah s.H.c.s,.bool false] 135)):=fun W=>aay _ (by omega) (by omega) W
 have HC:Hid (∃ c1 c2 c3 c5,s.H.c=⟨s.H.c.b,c1,c2,c3,s.H.c.c,c5,s.H.c.s⟩):=⟨s.H.c.w,s.H.c.m,s.H.c.r,s.H.c.l,rfl⟩
 obtain ⟨c1,c2,c3,c5,hcc⟩:=HC.out
 have N9:s.H.c.cells=[ah s.H.c.b,ah c1,ah c2,ah c3,ah s.H.c.c,ah c5,ah s.H.c.s]:=by
  rw [hcc];rfl
 rw [N9] at sN
 generalize CS.bC s.H.c s.aV.length=cs at *
 generalize s.H.c.b=kb at *
 generalize s.H.c.c=kc at *
 generalize s.H.c.s=ks at *
 generalize s.aV.length=bl at *
 clear N9 hcc HC qV hnb hnc sbx
 go_enter func13,ntmps13
 go_wp2_with fail
 refine sN.out.mono ?_
 rintro e w1 ⟨rfl,k1⟩
 obtain ⟨W2,hW2⟩:∃ W2,W2=w1.alloc (.cells #[ah kb,ah c1,ah c2,ah c3,ah kc,ah c5,ah ks] 23):=⟨_,rfl⟩
 have k2:aj aB w W2:=by rw [hW2];exact k1.alloc _
 have hcb:aF W2 w1.heap.size [ah kb,ah c1,ah c2,ah c3,ah kc,ah c5,ah ks] 23:=by rw [hW2];exact aF.bC w1 _ _
 have HW2:=ay hW2
 have dF:=ay k2
 have y0:=hcb.cell 6 (v := ah ks) rfl
 rw [hW2] at y0
 have ET:=ay hcb
 have KZ:=ay s4
 clear k1 sN hW2 k2 hcb s0 s3 s4
 go_wp2_with fail
 rw [<- HW2.out]
 refine (H8.out _).mono ?_
 rintro e w3 ⟨rfl,hw3⟩
 have k23:aj aB W2 w3:=by rw [hw3];exact (aj.refl _ _).alloc _
 have hst:aF w3 W2.heap.size [.slice none 0 0,ah ks,.bool false] 135:=by rw [hw3];exact aF.bC W2 _ _
 have k3:aj aB w w3:=dF.out.trans k23
 have z4:=k3.still KZ.out
 have z0:=k23.still (ET.out.cell 0 (v := ah kb) rfl)
 have z6:=k23.still (ET.out.cell 4 (v := ah kc) rfl)
 have HST:=ay hst
 have jF:=ay k3
 have zl:Hid (w.heap.size<=W2.heap.size):=dF.out.size
 clear k23 hst k3 hw3 y0 H8 KZ ET HW2
 go_wp2_with fail
 go_region
 go_wp2_with fail
 go_ret2
 obtain ⟨o',q,q1,q2,q3,q4,q5⟩:=uy.out (w3.alloc (.cells #[au G.S,ah (bl:Int),ah kb,ah kc,ah 0,ah 0,ah 0,.bool false,.bool false,au W2.heap.size,.nilFunc,ah 0,ah 0,ah 0,ah 0,ah 0,ah 0,ah 0,ah 0,.bool false] 90)).drew w3.heap.size W2.heap.size ((jF.out.alloc _).drew) ((aF.bC w3 [aJ G.S,ah (bl:Int),ah kb,ah kc,ah 0,ah 0,ah 0,.bool false,.bool false,aJ W2.heap.size,.nilFunc,ah 0,ah 0,ah 0,ah 0,ah 0,ah 0,ah 0,ah 0,.bool false] 90).drew) ((HST.out.alloc _).drew) jF.out.size zl.out
 exact ⟨o',q,by rw [q1];rfl,q2,q3,q4,q5⟩
end
section
variable {o o':Ow} {w w':World} {G:fU} {q:CG} {s:Sh} {c:CS}
theorem kZ.still (h:kZ o w G q s c) (k:aj aB w w'):kZ o w' G q s c:=by
 obtain ⟨ev,nv,h1,hn⟩:=h
 exact ⟨ev,nv,h1.still k,hn.still k⟩
theorem kZ.cell (h:kZ o w G q s c):w.cell? ⟨q.C,4,none⟩=some (ah (c.phase:Int))/\w.cell? ⟨q.C,5,none⟩=some (ah (c.aP:Int))/\w.cell? ⟨q.C,6,none⟩=some (ah (c.cu:Int))/\w.cell? ⟨q.C,7,none⟩=some (.bool c.jM)/\w.cell? ⟨q.C,11,none⟩=some (ah (c.je:Int))/\w.cell? ⟨q.C,12,none⟩=some (ah (c.kK:Int))/\w.frozen? ⟨q.C,7,none⟩=false:=by
 obtain ⟨ev,nv,h1,hn⟩:=h
 exact ⟨h1.cell 4 _ rfl,h1.cell 5 _ rfl,h1.cell 6 _ rfl,h1.cell 7 _ rfl,h1.cell 11 _ rfl,h1.cell 12 _ rfl,h1.free 7⟩
theorem wR (h:kZ o w G q s c):Calls aA 17 #[au q.C] w fun e w'=>e = .returned (ah (c.phase:Int))/\w=w':=by
 obtain ⟨y4,y5,y6,y7,y11,y12,f7⟩:=h.cell
 clear h
 go_enter func17,ntmps17
 go_wp2_with fail
 go_ret
 exact ⟨rfl,rfl⟩
theorem VD (h:kZ o w G q s c):Calls aA 19 #[au q.C] w fun e w'=>e = .returned (ah (c.cu:Int))/\w=w':=by
 obtain ⟨y4,y5,y6,y7,y11,y12,f7⟩:=h.cell
 clear h
 go_enter func19,ntmps19
 go_wp2_with fail
 go_ret
 exact ⟨rfl,rfl⟩
theorem aaz (h:kZ o w G q s c):Calls aA 20 #[au q.C] w fun e w'=>e = .returned (.bool (!uo c.next))/\w=w':=by
 obtain ⟨ev,nv,h1,hn⟩:=h
 have y10:=h1.cell 10 _ rfl
 have hform:=hn.form
 clear h1 hn
 rcases hform with ⟨hc,rfl⟩|⟨hc,fn,first,caps,rfl⟩
 ·have hnq:=ES
  rw [hc]
  clear hc
  go_enter func20,ntmps20
  go_wp2_with fail
  go_ret
  exact ⟨rfl,rfl⟩
 ·have hnq:=Pq fn first caps
  rw [hc]
  clear hc
  go_enter func20,ntmps20
  go_wp2_with fail
  go_ret
  exact ⟨rfl,rfl⟩
theorem aaA (h:kZ o w G q s c):Calls aA 14 #[au q.C] w fun e w'=>e = .returned (.tuple #[])/\kZ o w' G q s { c with jM:=true }/\aj (In o [5]) w w':=by
 obtain ⟨y4,y5,y6,y7,y11,y12,f7⟩:=h.cell
 have HE:Hid (kZ o (w.setCell ⟨q.C,7,none⟩ (.bool true)) G q s { c with jM:=true }/\aj (In o [5]) w (w.setCell ⟨q.C,7,none⟩ (.bool true))):=by
  obtain ⟨ev,nv,h1,hn⟩:=h
  obtain ⟨h2,k2⟩:=h1.put 7 (.bool true) { c with jM:=true } ev nv rfl ⟨rfl,rfl,rfl⟩
  exact ⟨⟨ev,nv,h2,hn.bg k2 rfl rfl⟩,k2⟩
 clear h
 go_enter func14,ntmps14
 go_wp2_with fail
 go_end0
 exact ⟨rfl,HE.out.1,HE.out.2⟩
end
end
section
structure qL (s s':Sh):Prop where
 bl:s'.aV.length=s.aV.length
 ql:∀ k,(s'.Q.rw k).length<=(s.Q.rw k).length
 qJ:s'.B.count=s.B.count
 mu:s'.B.aG=s.B.aG
 c:s'.H.c=s.H.c
 ww:s'.H.ww=s.H.ww
theorem qL.refl (s:Sh):qL s s:=⟨rfl,fun _=>aje _,rfl,rfl,rfl,rfl⟩
theorem qL.heap (s:Sh) {H:HS} (h:H.ww=s.H.ww/\H.c=s.H.c):qL s { s with H:=H }:=⟨rfl,fun _=>aje _,rfl,rfl,h.2,h.1⟩
theorem MF (b:Bd) (k:Int):(b.lV k).count=b.count/\(b.lV k).aG=b.aG:=by
 unfold Bd.lV
 split<;>exact ⟨rfl,rfl⟩
section
variable {N:Nat} {s:Sh} {m:MS}
theorem acL (s:Sh) (m:MS) (o:jy):(kY s m o).s=s:=by
 unfold kY GY wY sV
 repeat' split
 all_goals rfl
theorem acM (s:Sh) (m:MS) (d:MD):qL s (stepM s m d).s:=by
 cases d with
 | nil=>exact qL.refl s
 | kU o=>show qL s (kY s m o).s;rw [acL];exact qL.refl s
 | once k=>exact ⟨rfl,fun _=>aje _,(MF _ _).1,(MF _ _).2,rfl,rfl⟩
 | lH v c t =>
   simp only [stepM]
   repeat' split
   all_goals exact qL.refl s
 | add v t =>
   simp only [stepM]
   split<;>exact qL.refl s
 | nT c t =>
   simp only [stepM]
   split
   ·exact ⟨by simp,fun _=>aje _,rfl,rfl,rfl,rfl⟩
   ·exact qL.refl s
 | iK c f t=>exact qL.heap s (J4 _ _)
 | kX t=>exact ⟨rfl,fun _=>aje _,rfl,rfl,rfl,rfl⟩
 | field bP f t =>
   simp only [stepM]
   split<;>exact qL.refl s
 | load o bP=>exact qL.refl s
 | get o=>exact qL.refl s
 | uj v rd=>exact qL.refl s
 | last rd=>exact qL.heap s (ahv rd)
 | alloc o k =>
   simp only [stepM]
   split
   ·exact qL.heap s (NZ k)
   ·exact qL.refl s
 | assign o k =>
   simp only [stepM]
   split
   ·exact qL.heap s (Pn k)
   ·exact qL.refl s
 | xJ o all=>exact qL.heap s (SX _)
 | xK o k =>
   simp only [stepM]
   split
   ·exact qL.refl s
   ·exact ⟨rfl,fun j=>V7 s.Q k j,rfl,rfl,rfl,rfl⟩
 | wP o k =>
   simp only [stepM]
   split
   ·exact qL.heap s (NZ k)
   ·exact qL.refl s
 | eX sl c t =>
   cases sl with
   | nil =>
     refine ⟨rfl,fun j=>?_,rfl,rfl,rfl,rfl⟩
     show ((if s.Q.dS=0 then s.Q else s.Q.wO).rw j).length<=_
     split<;>exact aje _
   | cons a r =>
     simp only [stepM]
     split
     ·exact qL.refl s
     ·exact qL.heap s (N7 a)
 | fill o a=>exact qL.heap s (SY _ _)
 | zero o a i =>
   simp only [stepM]
   split
   ·exact qL.heap s (Wy _ _)
   ·exact qL.heap s (FT _ _ _)
theorem Tz (s:Sh) (m:MS):qL s (dV s m).1:=by
 unfold dV
 split
 ·exact qL.refl s
 ·exact acM s _ _
theorem AL.sh {M:Nat} {s':Sh} (h:AL N s m) (hM:N<=M) (ho:s'.Q.dS<=M) (hq:rV s'):AL M s' m:=⟨h.aP,h.dQ,ho,ajU h.dG hM,hq,ajU h.sp hM,h.rl,h.nx⟩
theorem CK.sh {M:Nat} {s':Sh} {c:CS} (h:CK N s c) (hM:N<=M) (k:qL s s') (ho:s'.Q.dS<=M) (hq:rV s'):CK M s' c :=
 ⟨k.bl.trans h.mu,h.mu1,h.bl,h.ce,h.rm,h.bD,h.aP,ajU h.nH hM,ajU h.dr hM,ajU h.wa hM,ho,hq,fun j=>ajU (k.ql j) (ajU (h.ql j) hM),by rw [k.qJ];exact ⟨h.qJ.1,by have:=h.qJ.2;omega⟩,h.ph⟩
structure EU (s s':Sh):Prop where
 bl:s'.aV.length=s.aV.length
 mu:s'.B.aG=s.B.aG
 c:s'.H.c=s.H.c
 ww:s'.H.ww=s.H.ww
theorem EU.refl (s:Sh):EU s s:=⟨rfl,rfl,rfl,rfl⟩
theorem aaB (b:Bd) (k:Int):(b.vW k).aG=b.aG:=by
 unfold Bd.vW
 split<;>rfl
theorem EW (s:Sh) (c:CS) (p:Nat) (t:CD) (ev:Option Ev):EU s (Au s c p t ev).s:=⟨rfl,aaB _ _,rfl,rfl⟩
theorem acN (s:Sh) (c:CS) (d:CD):EU s (aN s c d).s:=by
 cases d with
 | uY=>exact EW _ _ _ _ _
 | sW=>exact EW _ _ _ _ _
 | jV=>exact EW _ _ _ _ _
 | off=>exact EW _ _ _ _ _
 | lC v t =>
   simp only [aN]
   split
   ·exact ⟨rfl,rfl,(J4 _ _).2,(J4 _ _).1⟩
   ·exact EU.refl s
 | work =>
   simp only [aN]
   split<;>exact EU.refl s
 | box m =>
   simp only [aN]
   split
   ·exact ⟨by simp,rfl,rfl,rfl⟩
   ·exact EU.refl s
 | over =>
   simp only [aN]
   repeat' split
   all_goals exact ⟨rfl,rfl,rfl,rfl⟩
 | iJ b =>
   simp only [aN]
   split<;>exact ⟨rfl,rfl,rfl,rfl⟩
 | eX =>
   simp only [aN]
   split<;>exact ⟨rfl,rfl,rfl,rfl⟩
 | block sl =>
   cases sl with
   | nil=>exact ⟨rfl,rfl,rfl,rfl⟩
   | cons a r =>
     simp only [aN]
     split
     ·exact EU.refl s
     ·exact ⟨rfl,rfl,(N7 a).2,(N7 a).1⟩
 | ig t =>
   simp only [aN]
   split<;>exact EU.refl s
 | _=>exact EU.refl s
theorem acO (s:Sh) (c:CS):EU s (dX s c).s:=by
 unfold dX
 split
 ·exact acN s c _
 ·split
  ·exact (EW s { c with jM:=false,cu:=c.cu+1,aP:=1 - c.aP } 1 .uY (some (c.ev 2 (c.cu+1))):EU s (mD s c).s)
  ·exact EU.refl s
structure uQ (N:Nat) (x:WS):Prop where
 len:x.aG.length=x.aC.aG
 gW:∀ i m,x.aG[i]?=some m->m.id=i/\AL N x.s m
 aC:OC N x.s x.aC
 nS:x.nS<=N
 zo:x.zo.length<=N
theorem WS.xA (x:WS) (ev:Option Ev):(x.qC ev).s=x.s/\(x.qC ev).aG=x.aG/\(x.qC ev).aC=x.aC/\(x.qC ev).nS=x.nS+1/\(x.qC ev).zo.length<=x.zo.length+1:=by
 cases ev with
 | none=>exact ⟨rfl,rfl,rfl,rfl,aju _⟩
 | some e=>exact ⟨rfl,rfl,rfl,rfl,by simp [WS.qC]⟩
theorem uQ.qC {x y:WS} {ev:Option Ev} (hl:y.aG.length=y.aC.aG) (hm:∀ i m,y.aG[i]?=some m->m.id=i/\AL (N+1) y.s m) (hc:OC (N+1) y.s y.aC) (hp:y.nS<=N) (he:y.zo.length<=N):uQ (N+1) (y.qC ev):=by
 obtain ⟨e1,e2,e3,e4,e5⟩:=y.xA ev
 exact ⟨by rw [e2,e3];exact hl,by rw [e1,e2];exact hm,by rw [e1,e3];exact hc,by rw [e4];omega,by omega⟩
theorem FU {x:WS} (h:uQ N x) (hb:HBd x.s.H) (qX:Nat):uQ (N+1) (eY x qX):=by
 unfold eY
 cases hw:x.aG[qX]? with
 | some m =>
   obtain ⟨hid,hp⟩:=h.gW qX m hw
   have hk:=V6 hp
   have hs:=Tz x.s m
   refine uQ.qC (x:=x) (by show (x.aG.set qX _).length=_;simpa using h.len) (fun i m' hi=>?_) ⟨h.aC.k.sh (aju N) hs hk.1.dS hk.1.q,h.aC.nx⟩ h.nS h.zo
   by_cases e:qX=i
   ·subst e
    have hlt:=(ake.1 hw).1
    have hi':(x.aG.set qX (dV x.s m).2.1)[qX]?=some m':=hi
    rw [ajA hlt] at hi'
    cases hi'
    exact ⟨hk.2.2.1.trans hid,hk.1⟩
   ·have hi':(x.aG.set qX (dV x.s m).2.1)[i]?=some m':=hi
    rw [ajB e] at hi'
    obtain ⟨g1,g2⟩:=h.gW i m' hi'
    exact ⟨g1,g2.sh (aju N) hk.1.dS hk.1.q⟩
 | none =>
   simp only
   split
   ·have hc:=abL h.aC hb
    refine uQ.qC (x:=x) (by show x.aG.length=(dX x.s x.aC).c.aG;rw [hc.2.1];exact h.len) (fun i m' hi=>?_) hc.1 h.nS h.zo
    obtain ⟨g1,g2⟩:=h.gW i m' hi
    exact ⟨g1,g2.sh (aju N) hc.1.k.dS hc.1.k.q⟩
   ·refine uQ.qC (x:=x) h.len (fun i m' hi=>?_) ?_ h.nS h.zo
    ·obtain ⟨g1,g2⟩:=h.gW i m' hi
     exact ⟨g1,g2.sh (aju N) (Nat.le_succ_of_le g2.dS) g2.q⟩
    ·have g:=h.aC.k.more (aju N)
     exact ⟨⟨g.mu,g.mu1,g.bl,g.ce,g.rm,g.bD,g.aP,g.nH,g.dr,g.wa,g.dS,g.q,g.ql,g.qJ,g.ph⟩,h.aC.nx⟩
end
end
section
open Go.RowKit
section
variable {o o':Ow} {w w' W W':World} {G:fU} {g:MG} {q:CG} {s s':Sh} {m:MS} {c:CS} {ev:Option Ev} {nv:Value} {I:List Nat}
theorem aj.TA (k0:aj aB w W) (k:aj (In o I) W W') (h0:I.contains 0=false) (h9:I.contains 49=false) (hz:∀ x,x<w.heap.size->o x=0\/o x=49):aj aB w W' :=
 k0.kF k (fun i hi hin=>(hz i hi).elim (fun e=>absurd hin (dR e h0)) (fun e=>absurd hin (dR e h9)))
theorem bM.ru (h:bM o w G g s m ev nv) (k:aj (In o I) w w') (h0:I.contains 0=false) (hi:I.contains (20+m.id)=false) (e:bZ w o o') (hs:fH o' w' G s') (hl:s'.aV.length=s.aV.length) (hc:s'.H.c=s.H.c):bM o' w' G g s' m ev nv:=by
 obtain ⟨pv,rv,h1,h2,h3⟩:=h.aH
 have k':=k.yF e
 obtain ⟨_,v,hb,_⟩:=id h.aY
 exact ⟨hs,⟨pv,rv,h1.bg k h.oM hi,(h2.ext e).bg k' h0,(h3.ext e).bg k' hi⟩,(e _ h1.lt).trans h.oM,h.aW.bg k h.oX hi,(e _ h.aW.lt).trans h.oX,(h.aY.ext e).bg k' h0 ((e _ hb.lt).trans h.CU) hi,(e _ hb.lt).trans h.CU,h.nt.bg k h.zx h0,(e _ h.nt.lt).trans h.zx,by rw [hl];exact h.mF,by rw [hl];exact h.box8,h.qE.trans hc.symm,h.uq,h.CV⟩
theorem qw.ru (h:qw o w G g s m) (k:aj (In o I) w w') (h0:I.contains 0=false) (hi:I.contains (20+m.id)=false) (hj:I.contains (30+m.id)=false) (e:bZ w o o') (hs:fH o' w' G s') (hl:s'.aV.length=s.aV.length) (hc:s'.H.c=s.H.c):qw o' w' G g s' m:=by
 obtain ⟨ev,nv,h1,hn⟩:=h
 exact ⟨ev,nv,h1.ru k h0 hi e hs hl hc,(hn.ext e).bg (k.yF e) h0 hj⟩
theorem bU.ru (h:bU o w G q s c ev nv) (k:aj (In o I) w w') (h5:I.contains 5=false) (e:bZ w o o') (hs:fH o' w' G s') (hl:s'.aV.length=s.aV.length):bU o' w' G q s' c ev nv:=by
 obtain ⟨v,h1,_⟩:=id h.bD
 have oK:=(e _ h1.lt).trans h.oK
 exact ⟨hs,h.aH.bg k h.oC h5,(e _ h.aH.lt).trans h.oC,(h.bD.ext e).bg oK (k.yF e) h5,oK,by rw [hl];exact h.box8⟩
theorem kZ.ru (h:kZ o w G q s c) (k:aj (In o I) w w') (h0:I.contains 0=false) (h5:I.contains 5=false) (h40:I.contains 40=false) (e:bZ w o o') (hs:fH o' w' G s') (hl:s'.aV.length=s.aV.length):kZ o' w' G q s' c:=by
 obtain ⟨ev,nv,h1,hn⟩:=h
 exact ⟨ev,nv,h1.ru k h5 e hs hl,(hn.ext e).bg (k.yF e) h0 h40⟩
theorem qw.sh (h:qw o w G g s m):fH o w G s:=by
 obtain ⟨ev,nv,h1,_⟩:=h
 exact h1.sh
theorem qw.mF (h:qw o w G g s m):m.id<s.aV.length/\s.aV.length<=8:=by
 obtain ⟨ev,nv,h1,_⟩:=h
 exact ⟨h1.mF,h1.box8⟩
theorem kZ.sh (h:kZ o w G q s c):fH o w G s:=by
 obtain ⟨ev,nv,h1,_⟩:=h
 exact h1.sh
theorem kZ.box8 (h:kZ o w G q s c):s.aV.length<=8:=by
 obtain ⟨ev,nv,h1,_⟩:=h
 exact h1.box8
structure CW (w W:World) (o:Ow) (G:fU) (gs:List MG) (q:CG) (x:WS):Prop where
 aC:kZ o W G q x.s x.aC
 len:gs.length=x.aG.length
 gW:∀ (i:Nat) g m,gs[i]?=some g->x.aG[i]?=some m->qw o W G g x.s m/\m.id=i
 yI:∀ b,b<w.heap.size->o b=0\/o b=49
 aK:aj aB w W
variable {gs:List MG} {x y:WS}
theorem CW.yR (h:CW w W o G gs q x) (k:aj aB W W'):CW w W' o G gs q x :=
 ⟨h.aC.still k,h.len,fun i g m h1 h2=>⟨(h.gW i g m h1 h2).1.still k,(h.gW i g m h1 h2).2⟩,h.yI,h.aK.trans k⟩
theorem CW.DJ (h:CW w W o G gs q x) (k:aj (In o I) W W') (hI:I.all (fun i=>decide (50<=i))=true) (e:bZ W o o') (hf:kJ o' W'):CW w W' o' G gs q x:=by
 have hge:∀ i,i<50->I.contains i=false:=fun i hi=>by
  rw [Bool.eq_false_iff]
  intro hc
  have:=akA.1 hI i (by simpa using hc)
  simp at this;omega
 have hs:fH o' W' G x.s:=h.aC.sh.move k (akA.2 (fun i hi=>by have:=akA.1 hI i hi;simp at this ⊢;omega)) h.aC.box8 e hf
 refine ⟨h.aC.ru k (hge 0 (by decide)) (hge 5 (by decide)) (hge 40 (by decide)) e hs rfl,h.len,fun i g m h1 h2=>?_,fun b hb=>by rw [e b (ajf hb h.aK.size)];exact h.yI b hb,h.aK.TA k (hge 0 (by decide)) (hge 49 (by decide)) h.yI⟩
 obtain ⟨g1,g2⟩:=h.gW i g m h1 h2
 have:=g1.mF
 exact ⟨g1.ru k (hge 0 (by decide)) (hge _ (by omega)) (hge _ (by omega)) e hs rfl rfl,g2⟩
theorem CW.qC (h:CW w W o G gs q x) (hy:y.s=x.s/\y.aG=x.aG/\y.aC=x.aC):CW w W o G gs q y:=by
 obtain ⟨e1,e2,e3⟩:=hy
 exact ⟨by rw [e1,e3];exact h.aC,by rw [e2];exact h.len,by rw [e1,e2];exact h.gW,h.yI,h.aK⟩
theorem CW.pick {N:Nat} (h:CW w W o G gs q x) (ok:uQ N x) (hN:N<=1000000000) {i:Nat} {m:MS} (hg:gs[i]?=some g) (hm:x.aG[i]?=some m) (hst:IZ m.next):Calls aA 24 #[au g.M] W fun e W'=>e = .returned (.tuple #[vK (dV x.s m).2.2,sO (dV x.s m).2.2])/\∃ o',bZ W o o'/\CW w W' o' G gs q (eY x i)/\aj (In o (eH i)) W W':=by
 obtain ⟨g1,g2⟩:=h.gW i g m hg hm
 obtain ⟨k1,k2⟩:=ok.gW i m hm
 refine (aau g1 k2 hN hst).mono ?_
 rintro e W' ⟨o',rfl,eo,hq,k⟩
 have hsh:=Tz x.s m
 have aic:=V6 k2
 have afE:=g1.mF
 rw [g2] at k afE
 have h0:=qp i
 have h5:(eH i).contains 5=false:=by simp [eH];omega
 have h40:(eH i).contains 40=false:=by simp [eH];omega
 refine ⟨rfl,o',eo,?_,k⟩
 have ew:eY x i=({ x with s:=(dV x.s m).1,aG:=x.aG.set i (dV x.s m).2.1 }:WS).qC (dV x.s m).2.2:=by
  unfold eY
  rw [hm]
 rw [ew]
 have hcw:CW w W' o' G gs q { x with s:=(dV x.s m).1,aG:=x.aG.set i (dV x.s m).2.1 }:=by
  refine ⟨h.aC.ru k h0 h5 h40 eo hq.sh hsh.bl,by show gs.length=(x.aG.set i _).length;rw [List.length_set];exact h.len,fun j g' m' h1 h2=>?_,fun b hb=>by rw [eo b (ajf hb h.aK.size)];exact h.yI b hb,h.aK.TA k h0 (by simp [eH];omega) h.yI⟩
  by_cases hij:i=j
  ·subst hij
   have hlt:=(ake.1 hm).1
   have h2':(x.aG.set i (dV x.s m).2.1)[i]?=some m':=h2
   rw [ajA hlt] at h2'
   cases h2'
   rw [hg] at h1
   cases h1
   exact ⟨hq,aic.2.2.1.trans g2⟩
  ·have h2':(x.aG.set i (dV x.s m).2.1)[j]?=some m':=h2
   rw [ajB hij] at h2'
   obtain ⟨g3,g4⟩:=h.gW j g' m' h1 h2'
   have hj:=g3.mF
   exact ⟨g3.ru k h0 (by rw [g4];rw [g4] at hj;simp [eH];omega) (by rw [g4];rw [g4] at hj;simp [eH];omega) eo hq.sh hsh.bl hsh.c,g4⟩
 obtain ⟨e1,e2,e3,_⟩:=WS.xA { x with s:=(dV x.s m).1,aG:=x.aG.set i (dV x.s m).2.1 } (dV x.s m).2.2
 exact hcw.qC ⟨e1,e2,e3⟩
theorem CW.acP {N:Nat} (h:CW w W o G gs q x) (ok:uQ N x) (hN:N<=1000000000):Calls aA 12 #[au q.C] W fun e W'=>e = .returned (.tuple #[vK (dX x.s x.aC).ev,sO (dX x.s x.aC).ev])/\∃ o',bZ W o o'/\CW w W' o' G gs q (eY x x.aG.length)/\aj (In o dD) W W':=by
 refine (aaq h.aC ok.aC hN).mono ?_
 rintro e W' ⟨o',rfl,eo,hq,k⟩
 have hsh:=acO x.s x.aC
 refine ⟨rfl,o',eo,?_,k⟩
 have ew:eY x x.aG.length=({ x with s:=(dX x.s x.aC).s,aC:=(dX x.s x.aC).c }:WS).qC (dX x.s x.aC).ev:=by
  unfold eY
  rw [ajK (aje _)]
  simp only [if_true]
 rw [ew]
 have hcw:CW w W' o' G gs q { x with s:=(dX x.s x.aC).s,aC:=(dX x.s x.aC).c }:=by
  refine ⟨hq,h.len,fun j g' m' h1 h2=>?_,fun b hb=>by rw [eo b (ajf hb h.aK.size)];exact h.yI b hb,h.aK.TA k iW (by decide) h.yI⟩
  obtain ⟨g3,g4⟩:=h.gW j g' m' h1 h2
  have hj:=g3.mF
  exact ⟨g3.ru k iW (by simp [dD];omega) (by simp [dD];omega) eo hq.sh hsh.bl hsh.c,g4⟩
 obtain ⟨e1,e2,e3,_⟩:=WS.xA { x with s:=(dX x.s x.aC).s,aC:=(dX x.s x.aC).c } (dX x.s x.aC).ev
 exact hcw.qC ⟨e1,e2,e3⟩
theorem CW.jM (h:CW w W o G gs q x):Calls aA 14 #[au q.C] W fun e W'=>e = .returned (.tuple #[])/\CW w W' o G gs q (eY x (x.aG.length+1))/\aj (In o [5]) W W':=by
 refine (aaA h.aC).mono ?_
 rintro e W' ⟨rfl,hq,k⟩
 refine ⟨rfl,?_,k⟩
 have ew:eY x (x.aG.length+1)=({ x with aC:={ x.aC with jM:=true } }:WS).qC none:=by
  unfold eY
  rw [ajK (by omega)]
  simp only
  rw [aT (by omega)]
 rw [ew]
 have hcw:CW w W' o G gs q { x with aC:={ x.aC with jM:=true } }:=by
  refine ⟨hq,h.len,fun j g' m' h1 h2=>?_,h.yI,h.aK.TA k rfl rfl h.yI⟩
  obtain ⟨g3,g4⟩:=h.gW j g' m' h1 h2
  have hj:=g3.mF
  exact ⟨g3.ru k rfl (by simp;omega) (by simp;omega) (bZ.refl _ _) hq.sh rfl rfl,g4⟩
 obtain ⟨e1,e2,e3,_⟩:=WS.xA { x with aC:={ x.aC with jM:=true } } none
 exact hcw.qC ⟨e1,e2,e3⟩
end
end
section
def HS.kP:HS->List Nat->HS
 | H,[]=>H
 | H,a::l=>(H.jA a).kP l
def HS.iw (H:HS) (k:Nat):Nat × Nat × HS :=
 if (H.iT k).2.1=0 then ((H.iT k).1,0,(H.iT k).2.2)
 else if (H.gq k).2.1=0 then ((H.gq k).1.headD 0,0,((H.gq k).2.2).kP (H.gq k).1.tail.reverse)
 else (0,10,H)
def HS.pV (H:HS) (a:Nat):Nat->HS
 | 0=>H
 | i+1=>(H.pV a i).jJ a (i:Int) 0
def HS.vN (H:HS) (f c:Nat):Nat × HS :=
 if (H.iw (oh f)).2.1=0 then ((H.iw (oh f)).1,(((H.iw (oh f)).2.2.kR (H.iw (oh f)).1 f).pV (H.iw (oh f)).1 f).oV (H.iw (oh f)).1 c)
 else (0,(H.iw (oh f)).2.2)
end
section
attribute [local go_sem] Oper.semAt_some
open Go.RowKit
theorem aaC (xs:List Nat) (pB X off aO:Nat) (hn:xs.length<=4096) (m:Nat) (w:World) (cs:List Value) (hbp:aF w pB [.slice (some ⟨X,off,none⟩) xs.length aO] 32) (hbx:aF w X cs 3) (hcs:∀ q,q<xs.length->cs[off+q]?=some (ah ((xs.getD q 0:Nat):Int))) :
 JE Fence.wide m aA 170 #[au pB] (vM xs) Fj (xP pB X) w:=by
 intro l J Jx W hW hJ hJx hY h0
 have hbp1:=hW.aH hbp (fun f=>f)
 have hbx1:=hW.aH hbx (fun f=>f)
 have hc0:=hbp1.cell 0 (v := .slice (some ⟨X,off,none⟩) xs.length aO) rfl
 have HLEN:=ay (yj xs)
 have HAT:Hid (∀ j q,j+q+1=xs.length->(vM xs)[j]?=some (q,xs.getD q 0)):=fun j q e=>by
  rw [FM (by omega),show xs.length - 1 - j=q by omega]
 have HV:Hid (∀ q wr,q<xs.length->aF wr X cs 3->wr.cell? ⟨X,off+q,none⟩=some (ah ((xs.getD q 0:Nat):Int))):=fun q wr hq hb=>hb.cell (off+q) (hcs q hq)
 have O8:(xs.length:Int)<=4096:=by omega
 have hw0:IntKind.i64.wrap ((xs.length:Int) - 1)=(xs.length:Int) - 1:=ajw _ (by omega)
 generalize vM xs=L at *
 obtain ⟨ni,hat⟩:∃ f:Nat->Nat,f=fun q=>xs.getD q 0:=⟨_,rfl⟩
 have acD:Hid (∀ j q,j+q+1=xs.length->L[j]?=some (q,ni q)):=fun j q e=>by rw [hat];exact HAT.out j q e
 have HV2:Hid (∀ q wr,q<xs.length->aF wr X cs 3->wr.cell? ⟨X,off+q,none⟩=some (ah ((ni q:Nat):Int))):=fun q wr h1 h2=>by rw [hat];exact HV.out q wr h1 h2
 clear HAT HV hat hbx hbp hcs
 generalize xs.length=n at *
 refine callsIn_of_wp func170 rfl trivial ?_ rfl
 simp only [ntmps170,akX,akn,ako,Nat.reduceAdd,Nat.reduceSub,akY,Array.replicate_zero,akZ,ala,akr,List.cons_append]
 gi_wp2_with fail
 gi_loopw [3] (fun v wr=>∃ (j:Nat) (i:Int),j<=n/\i=(n:Int) - 1 - j/\v = ah i/\J j wr/\jG (xP pB X) W wr) (fun v _=>(intOf v+1).toNat)
 case atStart=>exact ⟨0,_,by omega,by omega,rfl,h0,jG.refl _ _⟩
 case round =>
  obtain ⟨j,i,hj,hi,rfl,uK,hH⟩:=hrel
  have b1:=hH.aH (.inl rfl) hbp1
  have b2:=hH.aH (.inr rfl) hbx1
  have c1:=b1.cell 0 (v := .slice (some ⟨X,off,none⟩) n aO) rfl
  by_cases hlt:j<n
  ·obtain ⟨q,rfl⟩:∃ q:Nat,i=(q:Int):=⟨i.toNat,by omega⟩
   have hq:j+q+1=n:=by omega
   have hqn:q<n:=by omega
   have hq0:(0:Int)<=(q:Int):=by omega
   have Pg:(q:Int)<(n:Int):=by omega
   have c2:=HV2.out q wr hqn b2
   have hL:=acD.out j q hq
   have hwq:IntKind.i64.wrap ((q:Int) - 1)=(q:Int) - 1:=ajw _ (by omega)
   generalize ni q=x at *
   have HY:=ay hY
   have HJ:=ay uK
   have HQ:=ay hq
   clear hY uK hi hq
   obtain ⟨fn,tmps,assign,body,hy,hR⟩:=HY.out j (q,x) #[ah (q:Int),ah (x:Int)] wr hL HJ.out rfl
   gi_wp2_with fail
   refine ⟨fun h=>(by cases h),hR.mono ?_⟩
   rintro e W' (⟨rfl,hJ',hk⟩|⟨rfl,BX⟩)
   ·gi_wp2_with fail
    go_roundw
    case rel=>exact ⟨j+1,(q:Int) - 1,by omega,by have:=HQ.out;omega,by go_num,hJ',hH.trans hk⟩
    case measure=>simp [intOf]<;>omega
   ·gi_wp2_with fail
    refine bodyPost_ret (results_none rfl _ _ _) rfl ?_
    exact ⟨⟨_,rfl⟩,.inr ⟨j+1,by rw [HLEN.out];omega,BX⟩⟩
  ·clear hY
   obtain rfl:i = -1:=by omega
   have GR:Hid (j=n):=by unfold Hid;omega
   clear hi
   gi_wp2_with fail
   go_end0
   exact ⟨⟨_,rfl⟩,.inl (by rw [HLEN.out,<- GR.out];exact uK)⟩
section
variable {w w':World} {D:Nat->Nat} {H:HS}
theorem Py:∀ (l:List Nat) (H:HS) (a:Nat),H.kP (l++[a])=(H.kP l).jA a
 | [],_,_=>rfl
 | b::l,H,a=>Py l (H.jA b) a
structure Pz (w:World) (D:Nat->Nat) (N b g:Nat) (cs:List Value) (H:HS) (xs:List Nat) (j:Nat) (W:World):Prop where
 aK:aj (HF D) w W
 heap:aI W D (H.kP ((xs.reverse).take j))
 hb:aF W b [au (D 0)] 47
 hg:aF W g cs 3
 kD:N<=W.heap.size
theorem Pz.own {N b g:Nat} {cs:List Value} {xs:List Nat} {B:Nat} (hB:w.heap.size<=B) (hD:∀ i,i<13->D i<B) (hg:3<B/\4<B/\2<B):OwnFrom B (Pz w D N b g cs H xs):=by
 rintro j W W' row ⟨h1,h2,h3,h4,hN⟩ hgr hr
 have k:aj (fun i=>row=some i) W W':=⟨hgr.os,hgr.tape,hgr.output,hgr.size,fun x hx n=>hgr.block x hx (fun e=>n e.symm)⟩
 have hne:∀ i,i<B->¬ row=some i:=fun i hi e=>by have:=(hr i e).1;omega
 exact ⟨yC (β:=Nat) hB j W W' row h1 hgr hr,h2.aK k (fun i hi=>hne _ (hD i hi)) (hne _ hg.1) (hne _ hg.2.1) (hne _ hg.2.2),nZ (β:=Nat) (cs:=fun _=>_) j W W' row h3 hgr hr,nZ (β:=Nat) (cs:=fun _=>_) j W W' row h4 hgr hr,ajU hN hgr.size⟩
theorem Yp (h:aI w D H) (k:Nat) (hk:k<4) (ht:(H.iT k).2.1=0):Calls aA 114 #[au (D 0),ah (k:Int)] w fun e w'=>e = .returned (.tuple #[ah ((H.iw k).1:Int),ah ((H.iw k).2.1:Int)])/\aI w' D (H.iw k).2.2/\aj (HF D) w w':=by
 have e:H.iw k=((H.iT k).1,0,(H.iT k).2.2):=by unfold HS.iw;rw [aZ ht]
 rw [e]
 have HT:Hid (∀ x,Calls aA 159 #[au (D 0),ah (k:Int)] (w.alloc x) fun e w'=>e = .returned (.tuple #[ah ((H.iT k).1:Int),ah 0])/\aI w' D (H.iT k).2.2/\aj (HF D) w w'):=fun x=>by
  have k1:aj aB w (w.alloc x):=(aj.refl _ _).alloc x
  refine (G6 (h.still k1) k hk).mono ?_
  rintro e w' ⟨rfl,h1,k2⟩
  rw [ht]
  exact ⟨rfl,h1,(k1.mono (fun _ _ f=>f.elim)).trans k2⟩
 generalize (H.iT k).1=a at *
 generalize (H.iT k).2.2=H2 at *
 clear h ht e
 go_enter func114,ntmps114
 go_wp2_with fail
 refine (HT.out _).mono ?_
 rintro e w1 ⟨rfl,h1,k1⟩
 have HE:=ay (And.intro h1 k1)
 clear h1 k1 HT
 go_wp2_with fail
 go_ret2
 exact ⟨rfl,HE.out.1,HE.out.2⟩
theorem TB (h:aI w D H) (k:Nat) (hk:k<4) (ht:(H.iT k).2.1≠0) (ha:(H.gq k).2.1=0) (h2:2<=(H.gq k).1.length) (h4:(H.gq k).1.length<=256):Calls aA 114 #[au (D 0),ah (k:Int)] w fun e w'=>e = .returned (.tuple #[ah ((H.iw k).1:Int),ah ((H.iw k).2.1:Int)])/\aI w' D (H.iw k).2.2/\aj (HF D) w w':=by
 have e:H.iw k=((H.gq k).1.headD 0,0,((H.gq k).2.2).kP (H.gq k).1.tail.reverse):=by unfold HS.iw;rw [aT ht,aZ ha]
 rw [e]
 have ht12:(H.iT k).2.1=12/\(H.iT k).2.2=H:=by
  unfold HS.iT at ht ⊢
  split
  ·exact ⟨rfl,rfl⟩
  ·rename_i e;rw [e] at ht;exact absurd rfl ht
 obtain ⟨W0,hW0⟩:∃ W0,W0=w.alloc (.cells #[au (D 0)] 47):=⟨_,rfl⟩
 have k0:aj aB w W0:=by rw [hW0];exact (aj.refl _ _).alloc _
 have hb0:aF W0 w.heap.size [au (D 0)] 47:=by rw [hW0];exact aF.bC w _ _
 have hDw:∀ i,i<13->D i<w.heap.size:=h.Lj
 have agd:=h.Ll
 have HT:=ay (G6 (h.still k0) k hk)
 rw [ht12.1,ht12.2] at HT
 have HA:Hid (∀ W,aI W D H->Calls aA 160 #[au (D 0),ah (k:Int)] W fun e w'=>∃ v,e = .returned (.tuple #[v,ah 0])/\w'.ownsRow W.heap.size 3 1 v (H.gq k).1.length (aS (H.gq k).1)/\aI w' D (H.gq k).2.2/\aj (HF D) W w'):=fun W hW=>by
  have h9:=Jl hW k hk
  rw [ha] at h9
  exact h9
 generalize (H.gq k).2.2=H2 at *
 obtain ⟨x0,xs,hall⟩:∃ x0 xs,(H.gq k).1=x0::xs:=by
  cases hh:(H.gq k).1 with
  | nil=>rw [hh] at h2;simp at h2
  | cons x l=>exact ⟨x,l,rfl⟩
 rw [hall] at HA h2 h4 ⊢
 simp only [akn,List.headD_cons,List.tail_cons] at HA h2 h4 ⊢
 have hx1:1<=xs.length/\xs.length<=255:=by omega
 have Wu:=ay hx1
 have HW0:=ay hW0
 have gQ:=ay k0
 have HB0:=ay hb0
 have MH:=ay hDw
 have AO:=ay agd
 clear h ht ha e ht12 hall h2 h4 hW0 k0 hb0 hDw agd hx1
 refine (callsIn_wide (n:=9)).1 ?_
 refine callsIn_of_wp_marks func114 rfl trivial ?_ rfl
 refine wpIn_wide.2 ?_
 simp only [ntmps114,akX,akn,ako,Nat.reduceAdd,Nat.reduceSub,akY,Array.replicate_zero,akZ,ala,akr,List.cons_append]
 go_wp2_with fail
 rw [<- HW0.out]
 refine HT.out.mono ?_
 rintro e w1 ⟨rfl,h1,k1⟩
 have kb:∀ i,i<13->w.heap.size≠D i:=fun i hi=>by have:=MH.out i hi;omega
 have hb1:aF w1 w.heap.size [au (D 0)] 47:=k1.aH HB0.out (fun ⟨i,hi,e⟩=>kb i hi e)
 have c1:w1.cell? ⟨w.heap.size,0,none⟩=some (au (D 0)):=hb1.cell 0 rfl
 have HA1:=ay (HA.out w1 h1)
 have bI:Hid (aj (HF D) w w1):=(gQ.out.mono (fun _ _ f=>f.elim)).trans k1
 have HB1:=ay hb1
 have mJ:Hid (w.heap.size<w1.heap.size):=hb1.lt
 clear h1 k1 hb1 HT HA HB0 kb
 go_wp2_with fail
 refine HA1.out.mono ?_
 rintro e w2 ⟨v,rfl,hown,h2,k2⟩
 obtain ⟨g,aO,cur,rfl,hg0,hg,hnc,hcc⟩:∃ g aO cur,v = .slice (some ⟨g,0,none⟩) (xs.length+1) aO/\w1.heap.size<=g/\aF w2 g cur 3/\xs.length+1<=aO/\∀ j u,(aS (x0::xs))[j]?=some u->cur[j]?=some u:=by
  rcases hown.2 with ⟨_,h0⟩|⟨g,aO,cur,e1,hg0,hg,hn,_,hs,hc⟩
  ·omega
  ·refine ⟨g,aO,cur.toList,e1,hg0,by unfold aF;simpa using hg,hn,fun j u hj=>?_⟩
   have h9:=hj
   rw [<- hc] at h9
   have hlt:=(ake.1 h9).1
   rw [List.getElem?_take_of_lt (by simp at hlt;omega)] at h9
   exact h9
 have hcut:∀ w,(Instr.slice 32 (.slice (some ⟨g,0,none⟩) (xs.length+1) aO) (some (ah 1)) none none).run aA w = .ok (.slice (some ⟨g,1,none⟩) xs.length (aO - 1)) w:=fun w=>by
  have h9:=IV (P:=aA) (T:=32) (e:=3) (by kernel_rfl) (by kernel_rfl) (some ⟨g,0,none⟩) (xs.length+1) aO 1 (by omega) w
  have e1:vw (some ⟨g,0,none⟩) aO 1=some ⟨g,1,none⟩:=by
   unfold vw
   rw [aT (by have:=Wu.out;omega)]
   simp [Addr.add]
  rw [e1,Nat.add_sub_cancel] at h9
  exact h9
 have hb2:aF w2 w.heap.size [au (D 0)] 47:=k2.aH HB1.out (fun ⟨i,hi,e⟩=>by have:=MH.out i hi;omega)
 have hs2:=k2.size
 have hs1:=mJ.out
 obtain ⟨W3,hW3⟩:∃ W3,W3=w2.alloc (.cells #[.slice (some ⟨g,1,none⟩) xs.length (aO - 1)] 32):=⟨_,rfl⟩
 have k3:aj aB w2 W3:=by rw [hW3];exact (aj.refl _ _).alloc _
 have hb3:aF W3 w2.heap.size [.slice (some ⟨g,1,none⟩) xs.length (aO - 1)] 32:=by rw [hW3];exact aF.bC w2 _ _
 have e3:W3.heap.size=w2.heap.size+1:=by rw [hW3];simp
 have acy:=hg.lt
 have ND:Hid (JE Fence.wide 8 aA 170 #[au w2.heap.size] (vM xs) Fj (xP w2.heap.size g) W3):=aaC xs w2.heap.size g 1 (aO - 1) (by have:=Wu.out;omega) 8 W3 cur hb3 (k3.aH hg (fun f=>f)) (fun q hq=>by
  refine hcc (1+q) _ ?_
  rw [Nat.add_comm]
  unfold aS
  rw [List.map_cons,List.getElem?_cons_succ,List.getElem?_map,ajh hq,ajg,ajh hq];rfl)
 have HI0:Hid (Pz w D W3.heap.size w.heap.size g cur H2 xs 0 W3):=⟨(bI.out.trans k2).trans (k3.mono (fun _ _ f=>f.elim)),by rw [ajs];exact h2.still k3,k3.aH hb2 (fun f=>f),k3.aH hg (fun f=>f),aje _⟩
 have HGX:Hid (∀ i,xP w2.heap.size g i->i<W3.heap.size/\∀ j,j<13->i≠D j):=by
  rintro i (rfl|rfl)
  ·exact ⟨by omega,fun j hj e=>by have:=MH.out j hj;omega⟩
  ·exact ⟨by omega,fun j hj e=>by have:=MH.out j hj;omega⟩
 have HOWN:Hid (OwnFrom W3.heap.size (Pz w D W3.heap.size w.heap.size g cur H2 xs)):=Pz.own (by omega) (fun i hi=>by have:=MH.out i hi;omega) (by have:=AO.out;omega)
 have Aa:Hid (cur[0]?=some (ah (x0:Int))):=hcc 0 _ rfl
 have TD:Hid (w.heap.size<g/\w.heap.size<W3.heap.size):=⟨by omega,by omega⟩
 have HW3:=ay hW3
 have c2:w2.cell? ⟨w.heap.size,0,none⟩=some (au (D 0)):=hb2.cell 0 rfl
 clear hown h2 k2 hg0 hg hcc hb2 hs2 hs1 k3 hb3 e3 acy hW3 HA1 bI HB1 mJ c1
 go_wp2_with fail
 refine (O7 _ _ _ _).mono ?_
 rintro e w4 ⟨rfl,hw4⟩
 rw [<- HW3.out] at hw4
 subst hw4
 clear c2 hcut
 go_wp2_with fail
 refine wpIn_wide (n:=9) |>.1 ?_
 refine Nw rfl (by decide) (gf:=170) (lb:=#[au w2.heap.size]) rfl trivial (fun args w=>by simp [callFunc,func170,go_sem];rfl) (all:=vM xs) (Enc:=Fj) (G:=xP w2.heap.size g)
  ND.out ?hG ?hps (fun j W=>Pz w D w4.heap.size w.heap.size g cur H2 xs j W) (fun _ _ _=>False) ?hI ?hIx ?h0 ?round ?done ?stop
 case hI=>exact HOWN.out
 case hIx=>exact fun c s W W' row h hg hr=>h
 case h0=>exact HI0.out
 case hG=>exact fun i hi=>(HGX.out i hi).1
 case hps =>
  rintro W x args h
  rw [h];rfl
 case stop=>exact fun D c k W hD hk h=>h.elim
 case round =>
  rintro l j x args W hx henc hI
  have hj:j<xs.length:=by
   have h:=(ake.1 hx).1
   rwa [yj] at h
  rw [FM hj] at hx
  injection hx with hx
  subst hx
  obtain ⟨x,hx⟩:∃ x,x=xs.getD (xs.length - 1 - j) 0:=⟨_,rfl⟩
  obtain ⟨y,hy⟩:∃ y:Nat,y=xs.length - 1 - j:=⟨_,rfl⟩
  obtain rfl:args=#[ah (y:Int),ah (x:Int)]:=by rw [hx,hy];exact henc
  have hsn:(xs.reverse).take (j+1)=(xs.reverse).take j++[x]:=by
   rw [List.take_add_one,List.getElem?_reverse hj,hx,ajg]
   rw [ajh (by omega)];rfl
  have H8:=ay hsn
  clear hx hy henc hsn
  have HI:=ay hI
  clear hI
  gi_wp2_with fail
  refine ⟨fun W=>Pz w D w4.heap.size w.heap.size g cur H2 xs j W,KeepsFrom.refl _ _,jG.refl _ _,HI.out,(fun _ W' W'' row h hg hr=>HOWN.out j W' W'' row h hg hr),?_⟩
  clear HI
  rintro W2 hI
  have c2:W2.cell? ⟨w.heap.size,0,none⟩=some (au (D 0)):=hI.hb.cell 0 rfl
  have HP:=ay (abY hI.heap x)
  have HI:=ay hI
  clear hI
  gi_wp2_with fail
  refine ⟨trivial,CallsIn.mono (CallsIn.inRound l (callsIn_wide.2 HP.out)) ?_⟩
  rintro e w5 ⟨⟨er,rfl⟩,h5,k5⟩
  have iH:Hid (KeepsFrom w4.heap.size W2 w5/\jG (xP w2.heap.size g) W2 w5/\Pz w D w4.heap.size w.heap.size g cur H2 xs (j+1) w5):=by
   have hbig:=HI.out.kD
   refine ⟨⟨k5.size,fun i oo hB hq ho=>(k5.block i (Array.getElem?_eq_some_iff.1 hq).1 (fun ⟨q,hq2,e⟩=>by have:=MH.out q hq2;have:=TD.out;omega)).trans hq⟩,?_,HI.out.aK.trans k5,?_,k5.aH HI.out.hb (fun ⟨i,hi,e⟩=>by have:=MH.out i hi;omega),k5.aH HI.out.hg (fun ⟨i,hi,e⟩=>by have:=MH.out i hi;have:=TD.out;omega),ajU hbig k5.size⟩
   ·exact jG.sG k5 (fun i hi=>⟨ajf (HGX.out i hi).1 hbig,fun ⟨q,hq,e⟩=>(HGX.out i hi).2 q hq e⟩)
   ·rw [H8.out,Py];exact h5
  clear h5 k5 HP c2
  gi_wp2_with fail
  exact ⟨iH.out.1,iH.out.2.1,iH.out.2.2⟩
 case done =>
  rintro D5 W hD hI EG
  rw [yj] at hI
  have c0:W.cell? ⟨g,0,none⟩=some (ah (x0:Int)):=hI.hg.cell 0 Aa.out
  have iH:Hid (aI (W.putObj D5 (.deferred none)) D (H2.kP xs.reverse)/\aj (HF D) w (W.putObj D5 (.deferred none))):=by
   have hk9:aj (fun i=>i=D5) W (W.putObj D5 (.deferred none)):=⟨rfl,rfl,rfl,by simp,fun q _ n=>World.putObj_heap_other n⟩
   have h9:=hI.heap
   rw [List.take_of_length_le (by simp)] at h9
   refine ⟨h9.aK hk9 (fun i hi e=>by have:=MH.out i hi;have:=TD.out;omega) (fun e=>by have:=AO.out;have:=TD.out;omega) (fun e=>by have:=AO.out;have:=TD.out;omega) (fun e=>by have:=AO.out;have:=TD.out;omega),hI.aK.takeDeferred (D:=D5) (by have:=TD.out;omega) (.deferred none)⟩
  clear hI
  go_wp2_with fail
  refine ⟨by simp,.inl ⟨_,_,rfl,run_takeDeferred EG,?_⟩⟩
  exact ⟨.tuple #[ah (x0:Int),ah 0],by simp [results,Tryz.f114,go_sem],rfl,iH.out.1,iH.out.2⟩
end
end
end Go.Proofs.YtanfphjoebobaaaGreatDoor
