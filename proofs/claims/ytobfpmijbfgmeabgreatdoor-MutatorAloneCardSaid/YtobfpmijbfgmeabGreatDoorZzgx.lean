/- Parts of the walk. No conditions. -/
import Derived.Test.YtobfpmijbfgmeabGreatDoorZzgw
namespace Go.Proofs.YtobfpmijbfgmeabGreatDoor
open _root_.Array renaming replicate_succ->abV
open _root_.Go.IntWalk renaming i64_in->abD
open _root_.Go.World renaming cell?_of_block->adz
open _root_.List renaming append_toArray->abX,drop_succ_cons->abz,drop_zero->abt,getD_eq_getElem?_getD->ace,getElem?_eq_getElem->abr,getElem_mem->acJ,length_append->adu,length_take->adx,mem_range->acr,nil_append->abY,push_toArray->abW,size_toArray->abU,take_zero->aby
open _root_.Nat renaming le_trans->abh,lt_of_lt_of_le->abj,lt_or_ge->acI,zero_le->abZ
open _root_.Option renaming map_eq_some_iff->ady
open _root_.Go.Proofs.Tryz hiding prog
open _root_.Go.Proofs.Tryz renaming prog->ay
set_option maxRecDepth 100000
set_option maxHeartbeats 8000000
section
attribute [local go_sem ↓] mD
open Go.RowKit Go.Sort
theorem Wl {w:World} {e e':TypeId} {s s':Nat} {v u:Value} {n m:Nat} {xs ys:List Value} (h:w.ownsRow 0 e s v n xs) (h':w.ownsRow 0 e' s' u m ys) (hne:e≠e') {k:Nat} (hv:v.ownBlock=some k) (hu:u.ownBlock=some k):False:=by
 rcases h.2 with ⟨rfl,_⟩|⟨g,aJ,cur,rfl,_,hg,_⟩
 ·simp [Value.ownBlock] at hv
 ·rcases h'.2 with ⟨rfl,_⟩|⟨g',cap',cur',rfl,_,hg',_⟩
  ·simp [Value.ownBlock] at hu
  ·simp [Value.ownBlock] at hv hu
   subst hv hu
   rw [hg] at hg'
   simp at hg'
   exact hne hg'.2
section
variable {F:Nat->Prop} {B:Nat} {c:aS} {S:List Int} {L:List bF} {vs vl:Value} {w:World}
theorem jP.add (h:jP F B c S L vs vl w) (hF:∀ k,w.heap.size<=k->F k) {w1 w2:World} (hk1:aj aA w w1) {b:Int} {g aJ:Nat} (how:w2.ownsRow 0 3 1 (.slice (some ⟨g,0,none⟩) (S.length+1) aJ) (S.length+1) (S.map (Value.int .i64)++[ah b]))
 (hgr:w1.grownBy w2 vs.ownBlock) (hwh:vs.ownBlock=some g\/w1.heap.size<=g):jP F B c (S++[b]) L (.slice (some ⟨g,0,none⟩) (S.length+1) aJ) vl (w2.setCell ⟨B,7,none⟩ (.slice (some ⟨g,0,none⟩) (S.length+1) aJ)) /\
  aj F w (w2.setCell ⟨B,7,none⟩ (.slice (some ⟨g,0,none⟩) (S.length+1) aJ)):=by
 have h1:=h.still hk1
 have hsz:=hk1.size
 have hb2:=h1.aC.jJ hgr (jY h1.aC h1.qC (by decide))
 have hlst2:w2.ownsRow 0 115 4 vl L.length (AB L):=fQ (S:=fun i=>vs.ownBlock=some i) h1.I7 ⟨hgr.os,hgr.tape,hgr.output,hgr.size,fun k hk n=>hgr.block k hk (fun e=>n e.symm)⟩ (fun k hk e=>Wl h1.I7 h1.qC (by decide) hk e)
 have hgB:∀ k,(Value.slice (some ⟨g,0,none⟩) (S.length+1) aJ).ownBlock=some k->k≠B:=fun k hk e=>jY hb2 how (by decide) (by rw [hk,e])
 have hlB:∀ k,vl.ownBlock=some k->k≠B:=fun k hk e=>jY hb2 hlst2 (by decide) (by rw [hk,e])
 constructor
 ·refine ⟨hb2.set 7 _,?_,?_,h.fB,?_,h.fl⟩
  ·have e:(S++[b]).length=S.length+1:=by simp
   rw [e,List.map_append]
   exact vF how hgB _
  ·exact ownsRow_setCell_other hlst2 (fun e=>hlB _ e rfl) _
  ·intro k he
   simp [Value.ownBlock] at he
   subst he
   rcases hwh with hw|hw
   ·exact h.fs g hw
   ·exact hF g (by omega)
 ·have k2:aj F w w2:=(hk1.mono (fun _ _ f=>f.elim)).jJ hgr (fun k hk _=>h.fs k hk)
  exact k2.setCell (p:=⟨B,7,none⟩) (fun _=>h.fB) _
end
section
variable {F:Nat->Prop} {B:Nat} {c:aS} {S:List Int} {L:List bF} {vs vl:Value} {w:World}
theorem Wn (h:jP F B c S L vs vl w) (hF:∀ k,w.heap.size<=k->F k) (hl:L.length<=90000) (hS:S.length<=1000) (mi:Int) (o:bQ) (OE:∀ b,dw L 1 mi b≠0->1<=dw L 1 mi b/\dw L 1 mi b<=(S.length:Int)) :
 Calls ay 16 #[ak B,ah mi,.agg o.cells.toArray] w fun e w' =>
  e = .returned (.tuple #[ah (fH c S L mi o).2.2.1,ah (fH c S L mi o).2.2.2])/\(∃ vs' zF,jP F B c (fH c S L mi o).1 (fH c S L mi o).2.1 vs' zF w')/\aj F w w':=by
 have HH:=au h
 have HAT:Hid (∀ W,aj aA w W->∀ k m n,Calls ay 24 #[ak B,ah k,ah m,ah n] W fun e w'=>e = .returned (ah (dw L k m n))/\w'=W):=fun W hW k m n =>
  LZ (h.still hW) (by omega) k m n
 have Ei:Hid (∀ W,aj aA w W->∀ k m n x,Calls ay 48 #[ak B,ah k,ah m,ah n,ah x] W fun e w'=>e = .returned (.tuple #[])/\(∃ zF,jP F B c S (fJ L k m n x) vs zF w')/\aj F w w'):=fun W hW k m n x =>
  (Ja (h.still hW) (fun k hk=>hF k (abh hW.size hk)) (by omega) k m n x).mono (fun e w' ⟨h1,h2,h3⟩=>⟨h1,h2,(aj.mono hW (fun _ _ f=>f.elim)).trans (h3.mono (fun i _ hi=>by cases hi;exact h.fB))⟩)
 obtain ⟨d,hd⟩:∃ d,d=fH c S L mi o:=⟨_,rfl⟩
 rw [<- hd]
 have HD:=au hd
 clear hd
 obtain ⟨W0,hW0⟩:∃ W',W'=w.alloc (.cells o.cells.toArray 45):=⟨_,rfl⟩
 have jZ:Hid (aj aA w W0):=by rw [hW0];exact (aj.refl _ _).alloc _
 have HB0:Hid (aB W0 w.heap.size o.cells 45):=by rw [hW0];exact aB.aW w _ _
 have HX:Hid (B<w.heap.size):=h.aC.lt
 have HF:=au hF
 have Jb:=au OE
 obtain ⟨c0,c1,c2,c3,c4,c5,c6⟩:=c
 obtain ⟨ok,oa,ob,oc⟩:=o
 simp only [bQ.cells] at hW0 HB0
 simp only [bQ.cells]
 have y0:=jZ.out.still (h.aC.cell 0 rfl);have y1:=jZ.out.still (h.aC.cell 1 rfl);have y2:=jZ.out.still (h.aC.cell 2 rfl);have y3:=jZ.out.still (h.aC.cell 3 rfl);have y4:=jZ.out.still (h.aC.cell 4 rfl);have y5:=jZ.out.still (h.aC.cell 5 rfl);have y6:=jZ.out.still (h.aC.cell 6 rfl)
 have x0:=HB0.out.cell 0 rfl;have x1:=HB0.out.cell 1 rfl;have x2:=HB0.out.cell 2 rfl;have x3:=HB0.out.cell 3 rfl
 clear h hF OE
 simp only at y2
 have y2w:=y2
 rw [hW0] at y2w
 simp only at y0 y1 y2 y3 y4 y5 y6
 have early:∀ e:Int,d=(S,L,0,e)->∀ W,aj aA w W->(Ending.returned (.tuple #[ah 0,ah e])=Ending.returned (.tuple #[ah d.2.2.1,ah d.2.2.2]))/\(∃ vs' zF,jP F B ⟨c0,c1,c2,c3,c4,c5,c6⟩ d.1 d.2.1 vs' zF W)/\aj F w W:=by
  intro e he W hW
  rw [he]
  exact ⟨rfl,⟨vs,vl,HH.out.still hW⟩,aj.mono hW (fun _ _ f=>f.elim)⟩
 have EARLY:=au early
 clear early
 by_cases h1:mi<0
 ·have HD1:Hid (d=(S,L,0,4)):=by rw [Hid,HD.out];unfold fH;rw [aV (Or.inl h1)]
  have e1:decide (mi<0)=true:=cZ h1
  go_enter func16,ntmps16
  go_wp2_with fail
  rw [<- hW0]
  go_ret2
  exact EARLY.out 4 HD1.out _ jZ.out
 have e1:decide (mi<0)=false:=dD h1
 by_cases h2:c2<=mi
 ·have HD1:Hid (d=(S,L,0,4)):=by rw [Hid,HD.out];unfold fH;rw [aV (Or.inr h2)]
  have e2:decide (c2<=mi)=true:=cZ h2
  go_enter func16,ntmps16
  go_wp2_with fail
  rw [<- hW0]
  go_ret2
  exact EARLY.out 4 HD1.out _ jZ.out
 have e2:decide (c2<=mi)=false:=dD h2
 obtain ⟨ce,hce⟩:∃ ce,ce=dG ⟨c0,c1,c2,c3,c4,c5,c6⟩ ⟨ok,oa,ob,oc⟩:=⟨_,rfl⟩
 have Vb:=au hce
 have Jc:=au (DC ⟨c0,c1,c2,c3,c4,c5,c6⟩ ⟨ok,oa,ob,oc⟩ W0.drew)
 rw [<- hce] at Jc
 simp only [aS.cells,bQ.cells] at Jc
 have HN:Hid (¬ (mi<0\/c2<=mi)):=fun h=>h.elim h1 h2
 clear hce h1 h2
 go_enter func16,ntmps16
 go_wp2_with fail
 rw [<- hW0]
 clear y2w hW0
 refine aN 5 rfl (by kernel_rfl) (by kernel_rfl) (fun K hK=>?_)
 change wpStill _ _ (World.drew _) _ _ _
 simp only [List.take_succ_cons,aby,abz,abt] at hK ⊢
 repeat still_step
 refine wpStill_nil ?_
 change ite _ (Oper.wp _ _ _ W0.drew _ _) _
 go_simp
 refine Jc.out.mono ?_
 rintro e W1 ⟨rfl,hk1⟩
 refine hK _ _ ?_
 clear hK K
 repeat still_step
 refine wpStill_nil ?_
 have aZ:Hid (aj aA w W1):=(jZ.out.drew).trans hk1
 have HB1:Hid (aB W1 w.heap.size [ah ok,ah oa,ah ob,ah oc] 45):=hk1.aC HB0.out.drew (fun f=>f)
 clear hk1 Jc HB0 jZ x0 x1 x2 x3 y0 y1 y2 y3 y4 y5 y6
 have x0:=HB1.out.cell 0 rfl;have x1:=HB1.out.cell 1 rfl;have x2:=HB1.out.cell 2 rfl;have x3:=HB1.out.cell 3 rfl
 by_cases hce:ce=0
 case neg =>
  have HD1:Hid (d=(S,L,0,ce)):=by rw [Hid,HD.out,Vb.out];exact LY HN.out _ (by rw [<- Vb.out];exact hce)
  have e3:(ce != 0)=true:=by simpa using hce
  clear hce
  go_wp2_with fail
  go_ret2
  exact EARLY.out ce HD1.out _ aZ.out
 subst hce
 have rP:Hid (dG ⟨c0,c1,c2,c3,c4,c5,c6⟩ ⟨ok,oa,ob,oc⟩=0):=Vb.out.symm
 have D7:Hid (∀ W,aj aA w W->∀ k m n,Calls ay 24 #[ak B,ah k,ah m,ah n] W fun e w'=>e = .returned (ah (dw L k m n))/\W=w'):=fun W hW k m n =>
  (HAT.out W hW k m n).mono (fun _ _ h=>And.intro h.1 h.2.symm)
 clear Vb
 rcases jE rP.out with ⟨hk,-,-⟩|⟨hk,-,-⟩|⟨hk,-,-⟩|⟨hk,-,-⟩|⟨hk,-,-⟩|⟨hk,-⟩|⟨hk,-,-⟩|hk<;>simp only at hk<;>subst hk
 case inl =>
  have HD1:Hid (d=_):=HD.out.trans (rdo1 HN.out rP.out)
  have hown:((W1.alloc (.cells #[ah ob] 3)).drew).ownsRow 0 3 1 vs S.length (S.map (Value.int .i64)):=gy HH.out.qC (aZ.out.alloc _).drew
  have hcell:((W1.alloc (.cells #[ah ob] 3)).drew).cell? ⟨W1.heap.size,0,none⟩=some (ah ob):=(aB.aW W1 [ah ob] 3).drew.cell 0 rfl
  obtain ⟨g2,cap2,W2,hrun0,how,hgr,hwh⟩:=qx (P:=ay) _ 35 35 3 (by kernel_rfl) Tryz.infoInt rfl hown hcell rfl (by decide) (by omega)
  have hrun:(app9 #[35,35] 35 #[vs,.slice (some ⟨W1.heap.size,0,none⟩) 1 1]).run ay ((W1.alloc (.cells #[ah ob] 3)).drew) = .ok (.slice (some ⟨g2,0,none⟩) (S.length+1) cap2) W2:=hrun0
  have hadd:=HH.out.add HF.out (aZ.out.alloc (.cells #[ah ob] 3)).drew how hgr hwh
  have hb1:=(HH.out.still (aZ.out.alloc (.cells #[ah ob] 3)).drew)
  have hb2:=hb1.aC.jJ hgr (jY hb1.aC hb1.qC (by decide))
  have cB2:W2.cell? ⟨B,7,none⟩=some vs:=hb2.cell 7 rfl
  have fB2:W2.frozen? ⟨B,7,none⟩=false:=hb2.free 7
  have cB1:W1.cell? ⟨B,7,none⟩=some vs:=aZ.out.still (HH.out.aC.cell 7 rfl)
  have aaF:∀ o,(W1.alloc o).cell? ⟨B,7,none⟩=some vs:=fun o=>(aZ.out.alloc o).still (HH.out.aC.cell 7 rfl)
  obtain ⟨W3,hW3⟩:∃ W',W'=W2.setCell ⟨B,7,none⟩ (.slice (some ⟨g2,0,none⟩) (S.length+1) cap2):=⟨_,rfl⟩
  rw [<- hW3] at hadd
  have hbx3:aB W3 w.heap.size [ah 1,ah oa,ah ob,ah oc] 45:=by
   rw [hW3]
   have hBw:=HX.out
   refine (((((aj.refl aA W1).alloc _).drew.aC HB1.out (fun f=>f)).jJ hgr (fun e=>?_))).og (a:=⟨B,7,none⟩) (by simp;omega) _
   have:=(World.ownsRow.lt HH.out.qC _ e).2
   omega
  have HW3:=au hW3
  have aaG:=au hadd.1
  have HKA:=au hadd.2
  have HB3:=au hbx3
  have y7:W3.cell? ⟨B,7,none⟩=some (.slice (some ⟨g2,0,none⟩) (S.length+1) cap2):=hadd.1.aC.cell 7 rfl
  have q1:=hbx3.cell 1 rfl
  clear hrun0 hown hcell how hgr hwh hadd hb1 hb2 hbx3 hW3
  go_wp2_with fail
  go_region
  rw [<- HW3.out]
  clear HW3 hrun cB1 aaF cB2 fB2
  go_wp2_with (go_at_call 48;refine (Ja aaG.out (fun k hk=>HF.out k (abh HKA.out.size hk)) (by omega) _ _ _ _).mono ?_;rintro e w2 ⟨rfl,hr2,hk2⟩;have HR2:=au hr2;have bH:=au hk2;clear hr2 hk2)
  go_ret2
  rw [HD1.out]
  exact ⟨rfl,⟨_,HR2.out⟩,HKA.out.trans (bH.out.mono (fun i _ hi=>by cases hi;exact HH.out.fB))⟩
 case inr.inl =>
  obtain ⟨bs,hbs⟩:∃ bs,bs=dw L 1 mi ob:=⟨_,rfl⟩
  have wX:=au hbs
  have TY:Hid (∀ W,aj aA w W->Calls ay 24 #[ak B,ah 1,ah mi,ah ob] W fun e w'=>e = .returned (ah bs)/\w'=W):=fun W hW=>by rw [hbs];exact HAT.out W hW 1 mi ob
  clear hbs
  go_wp2_with fail
  go_quiet (first|(go_at_call 24;exact Calls.quiet_of_same (TY.out _ (aZ.out.drewN _))))
  by_cases hb:bs=0
  ·subst hb
   have HD1:Hid (d=(S,L,0,6)):=HD.out.trans (U6 HN.out rP.out wX.out.symm)
   go_wp2_with fail
   go_ret2
   exact EARLY.out 6 HD1.out _ (aZ.out.drewN _)
  ·obtain ⟨q,rfl,Q5⟩:∃ q:Nat,bs=(q:Int)+1/\q<S.length:=by
    have h1:=Jb.out ob (by rw [<- wX.out];exact hb)
    rw [<- wX.out] at h1
    exact ⟨(bs - 1).toNat,by omega,by omega⟩
   have Q7:Hid (dw L 1 mi ob≠0):=by rw [Hid,<- wX.out];exact hb
   have HQ:Hid ((dw L 1 mi ob - 1).toNat=q):=by rw [Hid,<- wX.out];omega
   obtain ⟨sa,caps,hvs,hcs,-⟩:=HH.out.sizes
   have y7:=aZ.out.still (HH.out.aC.cell 7 rfl)
   rw [hvs] at y7
   obtain ⟨sb,so,rfl,hci⟩:=(hcs.below aZ.out).jR (by omega)
   have XW:=hci q Q5
   obtain ⟨sv,hsv⟩:∃ sv,sv=S.getD q 0:=⟨_,rfl⟩
   rw [<- hsv] at XW
   have Q8:=au hsv
   obtain ⟨M,hM⟩:∃ M,M=S.length:=⟨_,rfl⟩
   rw [<- hM] at y7 Q5 hS
   clear hvs hcs hci hsv hM hb
   have ZR:(q:Int)<(M:Int):=by omega
   have hq0:(0:Int)<=(q:Int):=by omega
   have hqz:((q:Int)+1==0)=false:=by simp;omega
   by_cases hf:oc<0\/sv<=oc
   ·have HD1:Hid (d=(S,L,0,7)):=HD.out.trans (U7 HN.out rP.out Q7.out (by rw [HQ.out,<- Q8.out];exact hf))
    by_cases hf0:oc<0
    ·have d0:decide (oc<0)=true:=cZ hf0
     clear hf hf0
     go_wp2_with fail
     go_ret2
     exact EARLY.out 7 HD1.out _ (aZ.out.drewN _)
    ·have d0:decide (oc<0)=false:=dD hf0
     have d1:decide (sv<=oc)=true:=cZ (hf.resolve_left hf0)
     clear hf hf0
     go_wp2_with fail
     go_ret2
     exact EARLY.out 7 HD1.out _ (aZ.out.drewN _)
   ·have HD1:Hid (d=(S,fJ L 1 mi oa (dw L 3 ((q:Int)+1) oc),dw L 3 ((q:Int)+1) oc,0)):=by
     rw [Hid,HD.out,rdo2 HN.out rP.out Q7.out (by rw [HQ.out,<- Q8.out];exact hf),<- wX.out]
    have d0:decide (oc<0)=false:=dD (fun h=>hf (.inl h))
    have d1:decide (sv<=oc)=false:=dD (fun h=>hf (.inr h))
    clear hf
    go_wp2_with (first|(go_at_call 24;refine (D7.out _ (aZ.out.drewN _) _ _ _).mono ?_;rintro e w8 ⟨rfl,rfl⟩)|(go_at_call 48;refine (Ei.out _ (aZ.out.drewN _) _ _ _ _).mono ?_;rintro e w2 ⟨rfl,hr2,hk2⟩;have HR2:=au hr2;have bH:=au hk2;clear hr2 hk2))
    go_ret2
    rw [HD1.out]
    exact ⟨rfl,⟨vs,HR2.out⟩,bH.out⟩
 case inr.inr.inl =>
  obtain ⟨bs,hbs⟩:∃ bs,bs=dw L 1 mi oa:=⟨_,rfl⟩
  have wX:=au hbs
  have TY:Hid (∀ W,aj aA w W->Calls ay 24 #[ak B,ah 1,ah mi,ah oa] W fun e w'=>e = .returned (ah bs)/\w'=W):=fun W hW=>by rw [hbs];exact HAT.out W hW 1 mi oa
  clear hbs
  go_wp2_with fail
  go_quiet (first|(go_at_call 24;exact Calls.quiet_of_same (HAT.out _ (aZ.out.drewN _) _ _ _)))
  obtain ⟨W2,hW2⟩:∃ W2,W2=W1.drewN nq:=⟨_,rfl⟩
  rw [<- hW2]
  have bH:Hid (aj aA w W2):=by rw [hW2];exact aZ.out.drewN _
  have HB2:Hid (aB W2 w.heap.size [ah 3,ah oa,ah ob,ah oc] 45):=by rw [hW2];exact HB1.out
  clear hW2 x0 x1 x2 x3 aZ HB1
  have x0:=HB2.out.cell 0 rfl;have x1:=HB2.out.cell 1 rfl;have x2:=HB2.out.cell 2 rfl;have x3:=HB2.out.cell 3 rfl
  go_wp2_with fail
  go_quiet (first|(go_at_call 24;exact Calls.quiet_of_same (TY.out _ (bH.out.drewN _))))
  by_cases hb:bs=0
  ·subst hb
   have HD1:Hid (d=(S,L,0,6)):=HD.out.trans (U8 HN.out rP.out wX.out.symm)
   go_wp2_with fail
   go_ret2
   exact EARLY.out 6 HD1.out _ (bH.out.drewN _)
  ·obtain ⟨q,rfl,Q5⟩:∃ q:Nat,bs=(q:Int)+1/\q<S.length:=by
    have h1:=Jb.out oa (by rw [<- wX.out];exact hb)
    rw [<- wX.out] at h1
    exact ⟨(bs - 1).toNat,by omega,by omega⟩
   have Q7:Hid (dw L 1 mi oa≠0):=by rw [Hid,<- wX.out];exact hb
   have HQ:Hid ((dw L 1 mi oa - 1).toNat=q):=by rw [Hid,<- wX.out];omega
   obtain ⟨sa,caps,hvs,hcs,-⟩:=HH.out.sizes
   have y7:=bH.out.still (HH.out.aC.cell 7 rfl)
   rw [hvs] at y7
   obtain ⟨sb,so,rfl,hci⟩:=(hcs.below bH.out).jR (by omega)
   have XW:=hci q Q5
   obtain ⟨sv,hsv⟩:∃ sv,sv=S.getD q 0:=⟨_,rfl⟩
   rw [<- hsv] at XW
   have Q8:=au hsv
   obtain ⟨M,hM⟩:∃ M,M=S.length:=⟨_,rfl⟩
   rw [<- hM] at y7 Q5 hS
   clear hvs hcs hci hsv hM hb
   have ZR:(q:Int)<(M:Int):=by omega
   have hq0:(0:Int)<=(q:Int):=by omega
   have hqz:((q:Int)+1==0)=false:=by simp;omega
   by_cases hf:ob<0\/sv<=ob
   ·have HD1:Hid (d=(S,L,0,7)):=HD.out.trans (U9 HN.out rP.out Q7.out (by rw [HQ.out,<- Q8.out];exact hf))
    by_cases hf0:ob<0
    ·have d0:decide (ob<0)=true:=cZ hf0
     clear hf hf0
     go_wp2_with fail
     go_ret2
     exact EARLY.out 7 HD1.out _ (bH.out.drewN _)
    ·have d0:decide (ob<0)=false:=dD hf0
     have d1:decide (sv<=ob)=true:=cZ (hf.resolve_left hf0)
     clear hf hf0
     go_wp2_with fail
     go_ret2
     exact EARLY.out 7 HD1.out _ (bH.out.drewN _)
   ·have HD1:Hid (d=(S,fJ L 3 ((q:Int)+1) ob (dw L 1 mi oc),0,0)):=by
     rw [Hid,HD.out,rdo3 HN.out rP.out Q7.out (by rw [HQ.out,<- Q8.out];exact hf),<- wX.out]
    have d0:decide (ob<0)=false:=dD (fun h=>hf (.inl h))
    have d1:decide (sv<=ob)=false:=dD (fun h=>hf (.inr h))
    clear hf
    go_wp2_with (first|(go_at_call 24;refine (D7.out _ (bH.out.drewN _) _ _ _).mono ?_;rintro e w8 ⟨rfl,rfl⟩)|(go_at_call 48;refine (Ei.out _ (bH.out.drewN _) _ _ _ _).mono ?_;rintro e w2 ⟨rfl,hr2,hk2⟩;have HR2:=au hr2;have bH:=au hk2;clear hr2 hk2))
    go_ret2
    rw [HD1.out]
    exact ⟨rfl,⟨vs,HR2.out⟩,bH.out⟩
 case inr.inr.inr.inl =>
  have HD1:Hid (d=_):=HD.out.trans (rdo4 HN.out rP.out)
  go_wp2_with (first|(go_at_call 24;refine (D7.out _ aZ.out _ _ _).mono ?_;rintro e w8 ⟨rfl,rfl⟩)|(go_at_call 48;refine (Ei.out _ aZ.out _ _ _ _).mono ?_;rintro e w2 ⟨rfl,hr2,hk2⟩;have HR2:=au hr2;have bH:=au hk2;clear hr2 hk2))
  go_ret2
  rw [HD1.out]
  exact ⟨rfl,⟨vs,HR2.out⟩,bH.out⟩
 case inr.inr.inr.inr.inl =>
  have HD1:Hid (d=_):=HD.out.trans (rdo5 HN.out rP.out)
  go_wp2_with fail
  refine wp_region_still_tail 8 (by kernel_rfl) (by kernel_rfl) ?_
  change wpStill _ _ (World.drew _) _ _ _
  simp only [List.take_succ_cons,aby,abz,abt]
  repeat still_step
  still_call (HAT.out _ aZ.out.drew _ _ _)
  refine wpStill_nil ?_
  change wpList _ _ _ _ _ W1.drew
  go_wp2_with (go_at_call 48;refine (Ei.out _ aZ.out.drew _ _ _ _).mono ?_;rintro e w2 ⟨rfl,hr2,hk2⟩;have HR2:=au hr2;have bH:=au hk2;clear hr2 hk2)
  go_ret2
  rw [HD1.out]
  exact ⟨rfl,⟨vs,HR2.out⟩,bH.out⟩
 case inr.inr.inr.inr.inr.inl =>
  have HD1:Hid (d=_):=HD.out.trans (rdo6 HN.out rP.out)
  go_wp2_with (go_at_call 48;refine (Ei.out _ aZ.out _ _ _ _).mono ?_;rintro e w2 ⟨rfl,hr2,hk2⟩;have HR2:=au hr2;have bH:=au hk2;clear hr2 hk2)
  go_ret2
  rw [HD1.out]
  exact ⟨rfl,⟨vs,HR2.out⟩,bH.out⟩
 case inr.inr.inr.inr.inr.inr.inl =>
  have HD1:Hid (d=_):=HD.out.trans (rdo7 HN.out rP.out)
  go_wp2_with (first|(go_at_call 24;refine (D7.out _ aZ.out _ _ _).mono ?_;rintro e w8 ⟨rfl,rfl⟩)|(go_at_call 48;refine (Ei.out _ aZ.out _ _ _ _).mono ?_;rintro e w2 ⟨rfl,hr2,hk2⟩;have HR2:=au hr2;have bH:=au hk2;clear hr2 hk2))
  go_ret2
  rw [HD1.out]
  exact ⟨rfl,⟨vs,HR2.out⟩,bH.out⟩
 case inr.inr.inr.inr.inr.inr.inr =>
  have HD1:Hid (d=_):=HD.out.trans (rdo8 HN.out rP.out)
  go_wp2_with fail
  go_ret2
  exact EARLY.out 0 HD1.out _ aZ.out
end
end
section
attribute [local go_sem ↓] mD
open Go.RowKit
theorem vS:∀ {l l':List Nat},l.Nodup->(∀ a∈l,a∈l')->l.length<=l'.length
 | [],_,_,_=>abZ _
 | a::l,l',hn,hs=>by
   obtain ⟨s,t,e⟩:=List.append_of_mem (hs a List.mem_cons_self)
   obtain ⟨h1,h2⟩:=List.nodup_cons.1 hn
   have h3:=vS (l:=l) (l':=s++t) h2 (fun b hb=>by
    have:=hs b (List.mem_cons_of_mem _ hb)
    rw [e] at this
    rcases List.mem_append.1 this with g|g
    ·exact List.mem_append_left _ g
    ·rcases List.mem_cons.1 g with g|g
     ·exact absurd (by rw [<- g];exact hb) h1
     ·exact List.mem_append_right _ g)
   rw [e]
   simp at h3 ⊢
   omega
theorem Jd (l l2:List Nat):bg (l++l2)=bg l++bg l2:=by simp [bg]
theorem Ua {l:List Nat} {u:Value} (h:u∈bg l):u.oneCell'=true:=by
 unfold bg at h
 obtain ⟨z,_,rfl⟩:=List.mem_map.1 h
 rfl
theorem Ub (l:List Nat):(bg l).length=l.length:=by simp [bg]
theorem Tryz.infoBool9:(ay.info? 4).map (fun i=>(i.zero,i.size,i.bytes))=some (some (.bool false),1,1):=by kernel_rfl
section
variable {w w' W W0:World} {s n N:Nat} {v:Value} {l l2:List Nat}
theorem uZ {S:Nat->Prop} {e:TypeId} {n:Nat} {xs:List Value} (hown:w.ownsRow s e 1 v n xs) (g:w.grownBy w' v.ownBlock) (k:aj S W0 w) (h:∀ b,s<=b->b<W0.heap.size->S b):aj S W0 w':=k.jJ g (fun b hb hl=>h b (World.ownsRow.lt hown b hb).1 hl)
theorem yg {j:Nat} (hj:j<l.length):(bg l)[j]?=some (ah ((l.getD j 0:Nat):Int)):=by
 unfold bg
 rw [List.getElem?_map,ace,abr hj];rfl
theorem Wp {u:Nat} (hown:w.ownsRow s 3 1 v l.length (bg l)) (hs:s<=w.heap.size) (hN:w.cell? ⟨N,0,none⟩=some (ah (u:Int))) (hn:l.length<=100000000) :
 ∃ g aJ w',(app9 #[35,35] 35 #[v,.slice (some ⟨N,0,none⟩) 1 1]).run ay w = .ok (.slice (some ⟨g,0,none⟩) (l.length+1) aJ) w'/\w'.ownsRow s 3 1 (.slice (some ⟨g,0,none⟩) (l++[u]).length aJ) (l++[u]).length (bg (l++[u]))/\w.grownBy w' v.ownBlock/\(v.ownBlock=some g\/w.heap.size<=g):=by
 obtain ⟨g,aJ,w',h1,h2,h3,h4⟩:=qx (P:=ay) w 35 35 3 (by kernel_rfl) Tryz.infoInt rfl (dF hown (abZ _)) (N:=N) (u := ah (u:Int)) hN rfl (by decide) (by omega)
 refine ⟨g,aJ,w',h1,?_,h3,h4⟩
 rw [Jd,adu]
 refine TW h2 (fun k hk=>?_)
 simp [Value.ownBlock] at hk
 subst hk
 rcases h4 with h4|h4
 ·exact (World.ownsRow.lt hown g h4).1
 ·omega
theorem yh {e:TypeId} {xs:List Value} {a:Option Addr} {c j:Nat} {u:Value} (h:w.ownsRow s e 1 (.slice a n c) n xs) (hj:xs[j]?=some u):∃ b,a=some ⟨b,0,none⟩/\s<=b/\b<w.heap.size/\w.cell? ⟨b,j,none⟩=some u:=by
 obtain ⟨a',c',e1,_,_,_,hf⟩:=kE (dF h (abZ _))
 cases e1
 obtain ⟨b,e2,hc,_⟩:=hf j u hj
 subst e2
 exact ⟨b,rfl,(World.ownsRow.lt h b rfl).1,(World.ownsRow.lt h b rfl).2,hc⟩
theorem yj {u:Value} (hown:w.ownsRow s 3 1 v l.length (bg l)) (hs:s<=w.heap.size) (hu:w.ownsRow 0 3 1 u l2.length (bg l2)) (hn:l.length+l2.length<=100000000) :
 ∃ v' w',(app9 #[35,35] 35 #[v,u]).run ay w = .ok v' w'/\w'.ownsRow s 3 1 v' (l++l2).length (bg (l++l2))/\w.grownBy w' v.ownBlock:=by
 obtain ⟨i,hi1,hi2,hi3,hi4⟩:=info_parts Tryz.infoInt
 obtain ⟨a,aJ,rfl,hl,hnc,hnil,hc⟩:=kE hu
 rw [Jd,adu]
 cases a with
 | none =>
   obtain rfl:=hnil rfl
   have h0:l2=[]:=by
    cases l2 with
    | nil=>rfl
    | cons y ys=>obtain ⟨g,e,_⟩:=hc 0 (ah (y:Int)) rfl;cases e
   subst h0
   exact ⟨v,w,run_append_owned_none (P:=ay) (w:=w) s 35 35 3 i 1 (by kernel_rfl) hi1 v _ _ hown,by simpa [bg] using hown,World.grownBy.refl w _⟩
 | some ad =>
   obtain ⟨v',w',h1,h2,h3,_⟩:=run_append_own (P:=ay) (w:=w) s 35 35 3 i (ah 0) 1 8 (by kernel_rfl) hi1 hi2 hi3 hi4 rfl (by decide) v _ _ hown ad l2.length aJ (bg l2) (by rw [Ub];omega)
    (fun j u hj=>by obtain ⟨g,e,_⟩:=hc j u hj;cases e;exact hu.cells (g:=g) rfl j u hj) (fun u hu=>Ua hu) (by unfold maxLen;omega) (by omega) hs
   exact ⟨v',w',h1,h2,h3⟩
end
end
section
attribute [local go_sem ↓] mD
attribute [local go_sem] Oper.semAt_some
open Go.RowKit
def Wq (m:Nat):Value->Nat
 | .slice _ n _=>m - n
 | _=>0
def jQ (l:List Nat) (j:Nat):Nat:=(l.drop j).headD 0
theorem oZ.at {wd:Nat->Nat}:∀ {l:List Nat} {j:Nat},oZ wd l->j<l.length->wd (l.getD j 0)=dM (jQ l (j+1))
 | [],_,_,h=>absurd h (by simp)
 | _::_,0,h,_=>h.1
 | _::l,j+1,h,hj=>oZ.at (l:=l) (j:=j) h.2 (by simpa using hj)
theorem BI {l:List Nat} {j:Nat} (h:j<l.length):jQ l j=l.getD j 0:=by
 unfold jQ
 rw [List.drop_eq_getElem_cons h,ace,abr h];rfl
theorem Fq (l:List Nat):jQ l l.length=0:=by
 unfold jQ
 rw [List.drop_length];rfl
theorem dB.OG {H:HS} (h:dB H) {k:Nat} (hk:k<4) {j:Nat} (hj:j<(H.row k).length):1<=jQ (H.row k) j/\jQ (H.row k) j<=H.b*H.ww:=by
 rw [BI hj,ace,abr hj]
 obtain ⟨_,B,ho⟩:=h.jW k hk _ (acJ hj)
 obtain ⟨o1,o2,_⟩:=dK ho
 exact ⟨o1,o2⟩
theorem dB.Q9 {H:HS} (h:dB H) {k:Nat} (hk:k<4):(H.row k).length<=1048577:=by
 refine abh (vS (l':=List.range (H.b*H.ww+1)) (h.oU k hk) (fun a ha=>?_)) (by rw [List.length_range];have:=h.sV;omega)
 obtain ⟨_,B,ho⟩:=h.jW k hk a ha
 obtain ⟨_,o2,_⟩:=dK ho
 exact acr.2 (by omega)
section
variable {w w':World} {D:Nat->Nat} {H:HS}
theorem OH {L iR iX aR tR sz:Nat} {In F:List Nat} (h:bP w L iR iX aR tR sz In F) (k:Nat) (hk:k<4):Calls ay 74 #[ak L,ah (k:Int)] w fun e w'=>e = .returned (ah ((F.getD k 0:Nat):Int))/\w=w':=by
 have y:=(h.first hk).1
 have HI:=au (lq (k:Int) w)
 have e:decide ((0:Int)<=k/\(k:Int)<4)=true:=cZ (by omega)
 rw [e] at HI
 have Gg:(k:Int)<4:=by omega
 have hk0:(0:Int)<=(k:Int):=by omega
 generalize F.getD k 0=f at *
 clear h e
 go_enter func74,ntmps74
 go_wp2_with fail
 refine HI.out.mono ?_
 rintro e w1 ⟨rfl,rfl⟩
 clear HI
 go_wp2_with fail
 go_ret
 exact ⟨rfl,rfl⟩
theorem OI (h:aK w D H) (k:Nat) (hk:k<4) (j:Nat) (hj:j<(H.row k).length):Calls ay 75 #[ak (D 5),ah ((jQ (H.row k) j:Nat):Int)] w fun e w'=>e = .returned (ah ((jQ (H.row k) (j+1):Nat):Int))/\aK w' D H/\aj (only (D 1)) w w':=by
 obtain ⟨In,hl,_⟩:=h.lists
 obtain ⟨o1,o2⟩:=h.dQ.OG hk hj
 have hwd:=(h.dQ.chain k hk).at hj
 rw [<- BI hj] at hwd
 have hal:=h.dQ.lU
 have hnl:=h.dQ.sV
 have hnx:jQ (H.row k) (j+1)<=1048576:=by
  by_cases h2:j+1<(H.row k).length
  ·have:=(h.dQ.OG hk h2).2;omega
  ·have e:j+1=(H.row k).length:=by omega
   rw [e,Fq];omega
 have hw2:H.A.getD (jQ (H.row k) j - 1) 0=dM (jQ (H.row k) (j+1)):=by
  unfold HS.dV pY at hwd
  rw [aV o1] at hwd;exact hwd
 have:=Gz hl h.jc (jQ (H.row k) j - 1) (jQ (H.row k) (j+1)) (by omega) hw2 hnx
 rw [show ((jQ (H.row k) j - 1:Nat):Int)+1=((jQ (H.row k) j:Nat):Int) by omega] at this
 refine this.mono ?_
 rintro e w' ⟨rfl,h1,h2⟩
 exact ⟨rfl,h.wR h2 h1,h2⟩
theorem Fv {Ts:List TypeId} {bx N s n:Nat} {W W':World} {v:Value} {xs:List Value} (h:W.ownsRow s 3 1 v n xs) (hk:je Ts bx N W W') (hv:∀ b,v.ownBlock=some b->b≠bx/\¬ oI bx W b):W'.ownsRow s 3 1 v n xs/\∀ b,v.ownBlock=some b->b≠bx/\¬ oI bx W' b:=by
 obtain ⟨h0,h1⟩:=h
 rcases h1 with ⟨rfl,h2⟩|⟨g,aJ,cur,rfl,h2,h3,h4⟩
 ·exact ⟨⟨h0,.inl ⟨rfl,h2⟩⟩,fun b hb=>by simp [Value.ownBlock] at hb⟩
 ·obtain ⟨g1,g2⟩:=hv g rfl
  have hb:aB W g cur.toList 3:=by unfold aB;rw [h3]
  obtain ⟨g3,g4⟩:=hk.o g _ _ g1 g2 hb
  unfold aB at g3
  refine ⟨⟨h0,.inr ⟨g,aJ,cur,rfl,h2,by rw [g3],h4⟩⟩,fun b hb=>?_⟩
  have e:g=b:=by simpa [Value.ownBlock] using hb
  rw [<- e]
  exact ⟨g1,g4⟩
theorem Uc {N bx b1 b2:Nat} (h:aK w D H) (k:Nat) (hk:k<4) (hp1:aB w b1 [ak (D 5)] 105) (hp2:aB w b2 [ah (k:Int)] 3) (h1:b1≠D 1) (h2:b2≠D 1) (hbx:aB w bx [.slice none 0 0] 35) (hbn:bx≠D 1) (Ts:List TypeId) (m:Nat) :
 vX (only (D 1)) (fun W=>bV W (D 1) (D 2) H.A) Fence.wide m ay 73 #[ak b1,ak b2] (H.row k) xZ (je Ts bx N) w:=by
 intro l J Jx W1 hW hJ hJx hY h0
 have hh:=h.still hW
 have pR:=au (h.dQ.Q9 hk)
 obtain ⟨In,hl,_⟩:=hh.lists
 have wS:=au (OH hl k hk)
 rw [show H.F.getD k 0=jQ (H.row k) 0 from H.Sz h.dQ.kF hk] at wS
 have qH:Hid (∀ W j,aK W D H->j<(H.row k).length->Calls ay 75 #[ak (D 5),ah ((jQ (H.row k) j:Nat):Int)] W fun e w'=>e = .returned (ah ((jQ (H.row k) (j+1):Nat):Int))/\aK w' D H/\aj (only (D 1)) W w'):=fun W j hW hj=>OI hW k hk j hj
 have Vd:Hid (∀ j,j<(H.row k).length->1<=jQ (H.row k) j/\(H.row k)[j]?=some (jQ (H.row k) j)):=fun j hj=>⟨(h.dQ.OG hk hj).1,by rw [BI hj,ace,abr hj];rfl⟩
 have HEN:=au (Fq (H.row k))
 have nH:Hid (∀ W,aj (only (D 1)) W1 W->W.cell? ⟨b1,0,none⟩=some (ak (D 5))/\W.cell? ⟨b2,0,none⟩=some (ah (k:Int))/\aB W bx [.slice none 0 0] 35):=fun W k=>⟨(k.aC (hW.aC hp1 (fun f=>f)) h1).cell 0 rfl,(k.aC (hW.aC hp2 (fun f=>f)) h2).cell 0 rfl,k.aC (hW.aC hbx (fun f=>f)) hbn⟩
 have HD1:Hid (D 1<W1.heap.size/\bx<W1.heap.size):=⟨by obtain ⟨_,_,q⟩:=hh.jc.aC;exact q.lt,(hW.aC hbx (fun f=>f)).lt⟩
 have IW:=au hJ
 have H0:=au h0
 have HY:=au hY
 have HH:=au hh
 obtain ⟨q1,q2,_⟩:=nH.out W1 (aj.refl _ _)
 generalize H.row k=row at *
 clear h hp1 hp2 h1 h2 hbx hbn hh hl hW hJ hJx hY h0
 refine callsIn_of_wp func73 rfl trivial ?_ rfl
 simp only [ntmps73,abU,List.length_cons,List.length_nil,Nat.reduceAdd,Nat.reduceSub,abV,Array.replicate_zero,abW,abX,abY,List.cons_append]
 refine BU ?_
 gi_wp2_with fail
 refine ⟨trivial,fun h=>(by cases h),CallsIn.mono (callsIn_wide.2 wS.out) ?_⟩
 rintro e w1 ⟨rfl,rfl⟩
 have HI0:Hid (W1.ownsRow W1.heap.size 3 1 (.slice none 0 0) (row.take 0).length (bg (row.take 0))/\bV W1 (D 1) (D 2) H.A/\aj (only (D 1)) W1 W1):=⟨⟨rfl,.inl ⟨rfl,rfl⟩⟩,HH.out.jc,aj.refl _ _⟩
 have HD2:Hid (D 2<W1.heap.size):=HH.out.jc.kL.lt
 clear wS q1 q2
 gi_wp2_with fail
 gi_loopw [4,5] (fun ou av wr=>∃ (j:Nat) (ov:Value) (f:Nat),ov=ou/\j<=row.length/\f=jQ row j/\av = ah (f:Int)/\wr.ownsRow W1.heap.size 3 1 ov (row.take j).length (bg (row.take j))/\bV wr (D 1) (D 2) H.A/\aj (only (D 1)) W1 wr) (fun ou _ _=>Wq row.length ou)
 case atStart=>exact ⟨0,_,_,rfl,abZ _,rfl,rfl,HI0.out.1,HI0.out.2.1,HI0.out.2.2⟩
 case round =>
  obtain ⟨j,ov,f,hov,hj,hf,rfl,hown,hA,hk⟩:=hrel
  subst hov
  have lQ:Hid ((row.take j).length=j/\∀ i,i<=row.length->(row.take i).length=i):=⟨by rw [adx];omega,fun i hi=>by rw [adx];omega⟩
  obtain ⟨a0,c0,e0,_⟩:=kE (dF hown (abZ _))
  rw [lQ.out.1] at e0
  have XY:=au e0
  clear e0
  by_cases hlt:j<row.length
  ·obtain ⟨i1,i2⟩:=Vd.out j hlt
   rw [<- hf] at i1 i2
   have hf1:((f:Int)==0)=false:=by simp;omega
   have HF:=au hf
   have HJ2:=au hlt
   have hs1:W1.heap.size<=wr.heap.size:=hk.size
   have k7:aj aA wr (wr.alloc (.cells #[ah (f:Int)] 3)):=(aj.refl _ _).alloc _
   have ho7:=gy hown k7
   obtain ⟨g,aJ,W8,hrun,hown8,hgr,_⟩:=Wp ho7 (by simp;omega) (N:=wr.heap.size) ((aB.aW wr [ah (f:Int)] 3).cell 0 rfl) (by rw [lQ.out.1];have:=pR.out;omega)
   have kg:aj (fun i=>ov.ownBlock=some i) (wr.alloc (.cells #[ah (f:Int)] 3)) W8:=⟨hgr.os,hgr.tape,hgr.output,hgr.size,fun k hk n=>hgr.block k hk (fun e=>n e.symm)⟩
   have hno:∀ b,b<W1.heap.size->¬ ov.ownBlock=some b:=fun b hb e=>by have:=(World.ownsRow.lt ho7 b e).1;omega
   have XZ:bV W8 (D 1) (D 2) H.A:=(hA.still k7).aH kg (hno _ HD1.out.1) (hno _ HD2.out)
   have hk8:aj (only (D 1)) W1 W8:=uZ ho7 hgr (hk.trans (k7.mono (fun _ _ f=>f.elim))) (fun b h1 h2=>by omega)
   have X0:Hid (W8.ownsRow W1.heap.size 3 1 (.slice (some ⟨g,0,none⟩) (j+1) aJ) (row.take (j+1)).length (bg (row.take (j+1)))/\bV W8 (D 1) (D 2) H.A/\aj (only (D 1)) W1 W8):=by
    have e:row.take (j+1)=row.take j++[f]:=by rw [List.take_add_one,i2];rfl
    have e2:(row.take j++[f]).length=j+1:=by rw [adu,lQ.out.1];rfl
    rw [e2] at hown8
    rw [e,e2]
    exact ⟨hown8,XZ,hk8⟩
   rw [lQ.out.1] at hrun
   have hc8:=(nH.out W8 hk8).1
   have Ve:=au (qH.out W8 j (HH.out.wR hk8 XZ) hlt)
   rw [<- hf] at Ve
   obtain ⟨nf,hnf⟩:∃ nf,nf=jQ row (j+1):=⟨_,rfl⟩
   rw [<- hnf] at Ve
   have HNF:=au hnf
   clear hf hlt i1 i2 hs1 k7 ho7 hown8 hgr kg hno XZ hk8 hown hA hk hnf
   gi_wp2_with fail
   refine ⟨trivial,fun h=>(by cases h),CallsIn.mono (callsIn_wide.2 Ve.out) ?_⟩
   rintro e w2 ⟨rfl,h9,k9⟩
   have Je:Hid (w2.ownsRow W1.heap.size 3 1 (.slice (some ⟨g,0,none⟩) (j+1) aJ) (row.take (j+1)).length (bg (row.take (j+1)))/\bV w2 (D 1) (D 2) H.A/\aj (only (D 1)) W1 w2):=⟨fQ X0.out.1 k9 (fun B hB e=>by have:=(World.ownsRow.lt X0.out.1 B hB).1;have:=HD1.out.1;have:B=D 1:=e;omega),h9.jc,X0.out.2.2.trans k9⟩
   clear h9 k9 Ve
   gi_wp2_with fail
   go_roundw
   case rel=>exact ⟨j+1,_,nf,rfl,HJ2.out,HNF.out,rfl,Je.out.1,Je.out.2.1,Je.out.2.2⟩
   case measure =>
    rw [XY.out]
    have:=HJ2.out
    show row.length - (j+1)<row.length - j
    omega
  ·have hje:j=row.length:=by omega
   have hf1:f=0:=by rw [hf,hje];exact HEN.out
   rw [hje,List.take_length] at hown
   rw [hje] at XY
   subst hf1
   obtain ⟨_,_,hbx⟩:=nH.out wr hk
   have nS:Hid (wr.ownsRow W1.heap.size 3 1 ov row.length (bg row)/\∀ b,ov.ownBlock=some b->b≠bx/\¬ oI bx wr b):=⟨hown,fun b hb=>⟨fun e=>by have:=(World.ownsRow.lt hown b hb).1;have:=HD1.out.2;omega,x9 hbx⟩⟩
   have HJ0:=au (IW.out 0 _ _ H0.out hk (fun _=>hA))
   have he0:=XY.out
   subst he0
   clear hown hA hk hf hbx hje hlt
   gi_wp2_with fail
   refine wpIn_label ?_
   gi_wp2_with fail
   gi_loopw [7,22] (fun _ iv wr=>∃ j:Nat,j<=row.length/\iv = ah j/\J j wr/\wr.ownsRow W1.heap.size 3 1 (.slice a0 row.length c0) row.length (bg row)/\∀ b,(Value.slice a0 row.length c0).ownBlock=some b->b≠bx/\¬ oI bx wr b) (fun _ iv _=>row.length - (intOf iv).toNat)
   case atStart=>exact ⟨0,abZ _,rfl,HJ0.out,nS.out.1,nS.out.2⟩
   case round =>
    obtain ⟨j,hj,rfl,pG,hown,hno⟩:=hrel
    by_cases hlt:j<row.length
    ·obtain ⟨b,rfl,_,_,hcb⟩:=yh hown (yg hlt)
     have oz:(j:Int)<(row.length:Int):=by omega
     have Cc:(0:Int)<=(j:Int):=by omega
     have hx:row[j]?=some (row.getD j 0):=by rw [ace,abr hlt];rfl
     obtain ⟨fn,tmps,assign,body,hy,hR⟩:=HY.out j (row.getD j 0) #[ah ((row.getD j 0:Nat):Int)] wr hx pG rfl
     have HO:=au (And.intro hown hno)
     have Az:=au hlt
     have hwr:IntKind.i64.wrap ((j:Int)+1)=(j:Int)+1:=abD _ (by have:=pR.out;omega)
     generalize row.getD j 0=x at *
     clear hown hno hx pG hlt
     gi_wp2_with fail
     refine ⟨fun h=>(by cases h),hR.mono ?_⟩
     rintro e W' (⟨rfl,hJ',hk⟩|⟨rfl,xk⟩)
     ·have oP:=au (Fv HO.out.1 hk HO.out.2)
      clear hk
      gi_wp2_with fail
      go_roundw
      case rel=>exact ⟨j+1,Az.out,by go_num,hJ',oP.out.1,oP.out.2⟩
      case measure=>have:=Az.out;simp [intOf];omega
     ·gi_wp2_with fail
      simp only [Exit.noGoto]
      go_end0
      exact ⟨⟨_,rfl⟩,.inr ⟨j+1,Az.out,xk⟩⟩
    ·obtain rfl:j=row.length:=by omega
     have oz:¬ (row.length:Int)<(row.length:Int):=by omega
     have BX:=au pG
     clear hown hno pG hlt
     gi_wp2_with fail
     go_end0
     exact ⟨⟨_,rfl⟩,.inl BX.out⟩
theorem X3 (B:Nat) (k:Int) (w:World):Calls ay 44 #[ak B,ah k] w fun e w'=>e = .returned (.func (.func 73) #[] #[ak w.heap.size,ak (w.heap.size+1)])/\w'=(w.alloc (.cells #[ak B] 105)).alloc (.cells #[ah k] 3):=by
 have hmf:∀ (fn:Fn) (first aJ:Array Value) (w:World),(Instr.makeFunc fn first aJ).run ay w = .ok (.func fn first aJ) w:=fun _ _ _ _=>rfl
 go_enter func44,ntmps44
 go_wp2_with fail
 go_ret
 exact ⟨by simp,rfl⟩
theorem DI (h:aK w D H) (k:Nat) (hk:k<4):Calls ay 13 #[ak (D 0),ah (k:Int)] w fun e w'=>∃ v,e = .returned v/\w'.ownsRow w.heap.size 3 1 v (H.row k).length (bg (H.row k))/\aK w' D H/\aj (only (D 1)) w w':=by
 have c2:=h.aC.cell 2 rfl
 have HD:Hid (∀ i,i<13->D i<w.heap.size):=fun i hi=>by
  rcases acI (D i) w.heap.size with g|g
  ·exact g
  ·exact absurd ⟨i,hi,rfl⟩ (h.tK g)
 obtain ⟨W,hW⟩:∃ W,W=(w.alloc (.cells #[ak (D 5)] 105)).alloc (.cells #[ah (k:Int)] 3):=⟨_,rfl⟩
 have k1:aj aA w W:=by rw [hW];exact ((aj.refl _ _).alloc _).alloc _
 have hp1:aB W w.heap.size [ak (D 5)] 105:=by rw [hW];exact (aB.aW w _ _).alloc _
 have hp2:aB W (w.heap.size+1) [ah (k:Int)] 3:=by
  rw [hW]
  have:=aB.aW (w.alloc (.cells #[ak (D 5)] 105)) [ah (k:Int)] 3
  simpa using this
 have h1:=HD.out 1 (by decide)
 have h2:=HD.out 2 (by decide)
 have hs1:=k1.size
 have hh:=h.still k1
 have HC:=au (zC (only (D 1)) (fun W=>bV W (D 1) (D 2) H.A) 73 #[ak w.heap.size,ak (w.heap.size+1)] (H.row k) [] (by decide) (by decide) (by have:=h.dQ.Q9 hk;omega) W (fun b e=>by have:b=D 1:=e;omega)
  (fun A C T hT kT hA=>hA.aH kT (fun e=>by have:=hT _ e;omega) (fun e=>by have:=hT _ e;omega)) hh.jc (fun args w=>by simp [callFunc,func73,go_sem];rfl)
  (fun V kV hV=>Uc (hh.still kV) k hk (kV.aC hp1 (fun f=>f)) (kV.aC hp2 (fun f=>f)) (by omega) (by omega) hV (by omega) [] 8))
 have gI:Hid (∀ V,aj (only (D 1)) W V->bV V (D 1) (D 2) H.A->aK V D H/\aj (only (D 1)) w V/\w.heap.size<=W.heap.size):=fun V kV hA=>⟨hh.wR kV hA,(k1.mono (fun _ _ f=>f.elim)).trans kV,hs1⟩
 have uQ:=au hW
 clear h hW k1 hp1 hp2 h1 h2 hs1 hh HD
 go_enter func13,ntmps13
 go_wp2_with fail
 refine (X3 _ _ _).mono ?_
 rintro e w1 ⟨rfl,hw⟩
 obtain rfl:=hw.trans uQ.out.symm
 clear c2 hw
 go_wp2_with fail
 refine HC.out.mono ?_
 rintro e w2 ⟨v,rfl,g1,g2,g3⟩
 have HE:=au (And.intro g1 (gI.out _ g2 g3))
 clear g1 g2 g3 HC gI
 go_wp2_with fail
 go_ret
 exact ⟨v,rfl,dF HE.out.1 HE.out.2.2.2,HE.out.2.1,HE.out.2.2.1⟩
end
end
section
attribute [local go_sem] Oper.semAt_some
open Go.RowKit
section
variable {w w':World} {R X aJ:Nat} {c:aS} {K:List Nat}
theorem Rf (h:l9 w R X aJ c K) (B:Nat) (hk:K.getD B 0=0):Calls ay 83 #[ak R,ah (B:Int)] w fun e w'=>e = .returned (.tuple #[ah 0,.bool false])/\w=w':=by
 have hb:=h.aC
 obtain ⟨c0,c1,c2,c3,c4,c5,c6⟩:=c
 simp only [aS.cells,List.cons_append,abY] at hb
 have y7:=hb.cell 7 rfl
 have hs:=h.jK
 have hcap:=h.aJ
 have Cc:(0:Int)<=(B:Int):=by omega
 rcases acI B K.length with hB|hB
 ·obtain ⟨cur,C9,hcv⟩:=h.gQ
  have z:=C9.cell B (hcv _ _ (kS hB))
  rw [hk] at z
  have d1:decide ((K.length:Int)<=(B:Int))=false:=dD (by omega)
  have hBI:(B:Int)<(K.length:Int):=by omega
  generalize K.length=L at *
  clear h hb hk hs hB
  go_enter func83,ntmps83
  go_wp2_with fail
  go_ret2
  exact ⟨rfl,rfl⟩
 ·have d1:decide ((K.length:Int)<=(B:Int))=true:=cZ (by omega)
  have hBI:(K.length:Int)<=(B:Int):=by omega
  generalize K.length=L at *
  clear h hb hk hs hB
  go_enter func83,ntmps83
  go_wp2_with fail
  go_ret2
  exact ⟨rfl,rfl⟩
theorem Rh (h:l9 w R X aJ c K) (B:Nat) (hk:K.getD B 0=0):Calls ay 57 #[ak R,ah (B:Int)] w fun e w'=>e = .returned (.slice none 0 0)/\w=w':=by
 have sQ:=au (Rf h B hk)
 clear h hk
 go_enter func57,ntmps57
 go_wp2_with (go_at_call 83;refine sQ.out.mono ?_;rintro e w1 ⟨rfl,rfl⟩)
 go_ret
 exact ⟨rfl,rfl⟩
end
theorem Fz {H:HS} {B:Nat} (h:H.K.getD B 0=0):H.bZ B=[]:=by unfold HS.bZ;rw [aV h]
section
variable {w:World}
theorem aK.k4 {D:Nat->Nat} {H:HS} (h:aK w D H) {B:Nat} (hB:H.K.getD B 0≠0):B<H.K.length/\H.K.getD B 0<=4:=by
 have hBl:B<H.K.length:=by
  rcases acI B H.K.length with g|g
  ·exact g
  ·rw [ace,List.getElem?_eq_none g] at hB
   simp at hB
 refine ⟨hBl,?_⟩
 rw [ace,abr hBl]
 exact h.fV.le _ (acJ hBl)
end
end
section
open Go.RowKit
theorem AL:∃ fs,ay.underlying 23=some (.struct fs)/\∀ k,k<5->(fs[k]?).map (fun f=>(f.type,f.offset))=some (3,k):=by
 have hf:(match ay.underlying 23 with|some (.struct fs)=>(List.range 5).all (fun k=>(fs[k]?).map (fun f=>(f.type,f.offset))==some (3,k))|_=>false)=true:=by kernel_rfl
 cases h:ay.underlying 23 with
 | none=>rw [h] at hf;cases hf
 | some d =>
   rw [h] at hf
   cases d with
   | struct fs =>
     refine ⟨fs,rfl,fun k hk=>?_⟩
     have:=List.all_eq_true.1 hf k (acr.2 hk)
     simpa using this
   | _=>cases hf
theorem Jf (a0 a1 a2 a3 a4 a5 a6:Int) (w:World):(Instr.field 23 (.agg #[ah a0,ah a1,ah a2,ah a3,ah a4,ah a5,ah a6]) 0).run ay w = .ok (ah a0) w:=by
 obtain ⟨fs,hfs,hf⟩:=AL
 obtain ⟨f,hf1,hf2⟩:=ady.1 (hf 0 (by decide))
 simp only [Prod.mk.injEq] at hf2
 have hi:(ay.info? 3).map (·.size)=some 1:=by kernel_rfl
 obtain ⟨i,hi1,hi2⟩:=ady.1 hi
 simp [Instr.field,run_underlying hfs,hf1,hf2.1,hf2.2,part,asAgg,sizeOf,typeInfo,hi1,hi2,go_sem]
theorem Ud (a0 a1 a2 a3 a4 a5 a6:Int) (w:World):(Instr.field 23 (.agg #[ah a0,ah a1,ah a2,ah a3,ah a4,ah a5,ah a6]) 1).run ay w = .ok (ah a1) w:=by
 obtain ⟨fs,hfs,hf⟩:=AL
 obtain ⟨f,hf1,hf2⟩:=ady.1 (hf 1 (by decide))
 simp only [Prod.mk.injEq] at hf2
 have hi:(ay.info? 3).map (·.size)=some 1:=by kernel_rfl
 obtain ⟨i,hi1,hi2⟩:=ady.1 hi
 simp [Instr.field,run_underlying hfs,hf1,hf2.1,hf2.2,part,asAgg,sizeOf,typeInfo,hi1,hi2,go_sem]
end
section
attribute [local go_sem] Oper.semAt_some
open Go.RowKit
def bI (H:HS):Nat->List Nat
 | 0=>[]
 | b+1=>bI H b++H.bZ b
theorem DJ {H:HS}:∀ {n b j:Nat},b<n->j<(H.bZ b).length->(bI H n)[(bI H b).length+j]?=some ((H.bZ b).getD j 0)
 | 0,_,_,h,_=>absurd h (by omega)
 | n+1,b,j,h,hj=>by
   rcases acI b n with g|g
   ·have e:=DJ (n:=n) g hj
    have:=(List.getElem?_eq_some_iff.1 e).1
    show (bI H n++H.bZ n)[_]?=_
    rw [List.getElem?_append_left this,e]
   ·obtain rfl:b=n:=by omega
    show (bI H b++H.bZ b)[_]?=_
    rw [List.getElem?_append_right (by omega),Nat.add_sub_cancel_left,ace,abr hj];rfl
theorem qP (H:HS) (b:Nat):(bI H (b+1)).length=(bI H b).length+(H.bZ b).length:=by
 show (bI H b++H.bZ b).length=_
 rw [adu]
theorem DK (H:HS) {b n:Nat} (h:b<=n):(bI H b).length<=(bI H n).length:=by
 induction n with
 | zero => obtain rfl:b=0:=by omega
           exact Nat.le_refl _
 | succ n ih =>
   rcases acI n b with g|g
   ·obtain rfl:b=n+1:=by omega
    exact Nat.le_refl _
   ·rw [qP];have:=ih g;omega
structure wH (bx:Nat) (V:World) (R X aJ:Nat) (c:aS) (K:List Nat):Prop where
 t:l9 V R X aJ c K
 l:gY V
 s:eX V
 r:R≠bx/\¬ oI bx V R
 x:X≠bx/\¬ oI bx V X
 b:bx<V.heap.size
 n:∀ q,oI bx V q->q<V.heap.size
section
variable {w w' V V':World} {R X aJ bx N:Nat} {c:aS} {K:List Nat} {Ts:List TypeId} {D:Nat->Nat} {H:HS}
theorem pF {b:Nat} (h:bx<V.heap.size) (k:aj aA V V') (hb:oI bx V' b):oI bx V b:=by
 obtain ⟨v,h1,h2⟩:=hb
 refine ⟨v,?_,h2⟩
 unfold aB at *
 rw [<- k.block bx h (fun f=>f)];exact h1
theorem l9.still (ht:l9 V R X aJ c K) (k:aj aA V V'):l9 V' R X aJ c K:=by
 obtain ⟨g1,⟨cur,g2,g3⟩,g4,g5,g6⟩:=ht
 exact ⟨k.aC g1 (fun f=>f),⟨cur,k.aC g2 (fun f=>f),g3⟩,g4,g5,g6⟩
theorem wH.still (h:wH bx V R X aJ c K) (k:aj aA V V'):wH bx V' R X aJ c K :=
 ⟨h.t.still k,h.l.aH k,h.s.aH k,⟨h.r.1,fun f=>h.r.2 (pF h.b k f)⟩,⟨h.x.1,fun f=>h.x.2 (pF h.b k f)⟩,abj h.b k.size,fun q f=>abj (h.n q (pF h.b k f)) k.size⟩
theorem wH.hold (h:wH bx V R X aJ c K) (k:je Ts bx N V V') (hN:2<N/\3<N/\1<N):wH bx V' R X aJ c K:=by
 obtain ⟨g1,⟨cur,g2,g3⟩,g4,g5,g6⟩:=h.t
 have r1:=k.o R _ _ h.r.1 h.r.2 g1
 have x1:=k.o X _ _ h.x.1 h.x.2 g2
 exact ⟨⟨r1.1,⟨cur,x1.1,g3⟩,g4,g5,g6⟩,⟨fun i r hr=>by rw [adz (w:=V) (k.t.CY _ hN.1)];exact h.l.qR i r hr,fun i r hr=>by rw [adz (w:=V) (k.t.CY _ hN.2.1)];exact h.l.kind i r hr⟩,fun i r hr=>by rw [adz (w:=V) (k.t.CY _ hN.2.2)];exact h.s i r hr,⟨h.r.1,r1.2⟩,⟨h.x.1,x1.2⟩,abj h.b k.t.size,k.n h.n⟩
theorem Ri (h:l9 w R X aJ c K):Calls ay 65 #[ak R] w fun e w'=>e = .returned (.agg c.cells.toArray)/\aj aA w w':=by
 have hb:=h.aC
 obtain ⟨c0,c1,c2,c3,c4,c5,c6⟩:=c
 simp only [aS.cells,List.cons_append,abY] at hb ⊢
 have HA:∀ o,aj aA w (w.alloc o):=fun o=>(aj.refl _ _).alloc o
 have s0:=fun o=>(HA o).still (hb.cell 0 rfl);have s1:=fun o=>(HA o).still (hb.cell 1 rfl);have s2:=fun o=>(HA o).still (hb.cell 2 rfl);have s3:=fun o=>(HA o).still (hb.cell 3 rfl);have s4:=fun o=>(HA o).still (hb.cell 4 rfl);have s5:=fun o=>(HA o).still (hb.cell 5 rfl);have s6:=fun o=>(HA o).still (hb.cell 6 rfl)
 have HB:Hid (∀ o,aj aA w (w.alloc o)):=HA
 clear HA
 clear h hb
 go_enter func65,ntmps65
 go_wp2_with fail
 obtain ⟨W1,hW1⟩:∃ W',W'=w.alloc (.cells #[ah c0,ah c1,ah c2,ah c3,ah c4,ah c5,ah c6] 23):=⟨_,rfl⟩
 rw [<- hW1]
 have hF:aB W1 w.heap.size [ah c0,ah c1,ah c2,ah c3,ah c4,ah c5,ah c6] 23:=by rw [hW1];exact aB.aW w _ _
 have k0:=hF.cell 0 rfl;have k1:=hF.cell 1 rfl;have k2:=hF.cell 2 rfl;have k3:=hF.cell 3 rfl;have k4:=hF.cell 4 rfl;have k5:=hF.cell 5 rfl;have k6:=hF.cell 6 rfl
 refine bodyPost_ret (v := .agg #[ah c0,ah c1,ah c2,ah c3,ah c4,ah c5,ah c6]) (by simp [results,Tryz.f65,go_sem,k0,k1,k2,k3,k4,k5,k6]) rfl ⟨rfl,?_⟩
 rw [hW1];exact HB.out _
theorem Jg (h:aK w D H) (ht:l9 V R X aJ H.c H.K) (hT:gY V) (hS:eX V) (B:Nat):Calls ay 57 #[ak R,ah (B:Int)] V fun e w'=>∃ a cp,e = .returned (.slice a (H.bZ B).length cp)/\w'.ownsRow V.heap.size 3 1 (.slice a (H.bZ B).length cp) (H.bZ B).length (bg (H.bZ B))/\aj aA V w':=by
 by_cases hk:H.K.getD B 0=0
 ·rw [Fz hk]
  refine (Rh ht B hk).mono ?_
  rintro e w' ⟨rfl,rfl⟩
  exact ⟨none,0,rfl,⟨rfl,.inl ⟨rfl,rfl⟩⟩,aj.refl _ _⟩
 ·obtain ⟨hBl,hk4⟩:=h.k4 hk
  have h1:=Ij ht H.ww B (H.K.getD B 0 - 1) h.cw hBl (by omega) (by omega) hT hS
  rw [show H.K.getD B 0 - 1+1=H.K.getD B 0 by omega] at h1
  have e1:H.bZ B=jD (H.ww/2^(H.K.getD B 0)) (2^(H.K.getD B 0)) (B*H.ww):=by unfold HS.bZ;rw [aO hk]
  have el:(H.bZ B).length=H.ww/2^(H.K.getD B 0):=by rw [e1,qG]
  refine h1.mono ?_
  rintro e w2 ⟨v,rfl,ho,k2⟩
  rw [<- e1,<- el] at ho
  obtain ⟨a,cp,rfl,_⟩:=kE (dF ho (abZ _))
  exact ⟨a,cp,rfl,ho,k2⟩
theorem FB (h:aK w D H) (B:Nat):(H.bZ B).length<=256:=by
 by_cases hk:H.K.getD B 0=0
 ·rw [Fz hk];simp
 ·have e1:H.bZ B=jD (H.ww/2^(H.K.getD B 0)) (2^(H.K.getD B 0)) (B*H.ww):=by unfold HS.bZ;rw [aO hk]
  rw [e1,qG]
  exact abh (Nat.div_le_self _ _) h.UF.2.2.2.1
theorem Ue {b1:Nat} (h:aK w D H) (hp1:aB w b1 [ak (D 3)] 56) (hbx:aB w bx [.slice none 0 0] 35) (hN:2<N/\3<N/\1<N) (Ts:List TypeId) (m:Nat) :
 vX aA (fun _=>True) Fence.wide m ay 117 #[ak b1] (bI H H.b) xZ (je Ts bx N) w:=by
 intro l J Jx W1 hW hJ hJx hY h0
 have hh:=h.still hW
 have PW:=au (ET hh.fV)
 have hb1:=hW.aC hbx (fun f=>f)
 have QU:Hid (∀ V R X aJ,aj aA W1 V->l9 V R X aJ H.c H.K->wH bx V R X aJ H.c H.K):=fun V R X aJ k ht=>by
  have hb2:=k.aC hb1 (fun f=>f)
  obtain ⟨cur,C9,_⟩:=ht.gQ
  refine ⟨ht,(hh.still k).lW,(hh.still k).sizes,⟨fun e=>?_,x9 hb2⟩,⟨fun e=>?_,x9 hb2⟩,hb2.lt,fun q f=>absurd f (x9 hb2)⟩
  ·have h9:=ht.aC
   rw [e] at h9
   exact absurd (h9.gK hb2).2 (by decide)
  ·rw [e] at C9
   exact absurd (C9.gK hb2).2 (by decide)
 have HSL:Hid (∀ V R X aJ B,wH bx V R X aJ H.c H.K->Calls ay 57 #[ak R,ah ((B:Nat):Int)] V fun e w'=>∃ a cp,e = .returned (.slice a (H.bZ B).length cp)/\w'.ownsRow V.heap.size 3 1 (.slice a (H.bZ B).length cp) (H.bZ B).length (bg (H.bZ B))/\aj aA V w'):=fun V R X aJ B ht=>Jg h ht.t ht.l ht.s B
 have HLEN:Hid (∀ B,(H.bZ B).length<=256):=fun B=>FB h B
 have HAT:Hid (∀ b j,b<H.b->j<(H.bZ b).length->(bI H H.b)[(bI H b).length+j]?=some ((H.bZ b).getD j 0)/\(bI H b).length+j+1<=(bI H H.b).length):=fun b j hb hj=>⟨DJ hb hj,by have:=qP H b;have:=DK H (show b+1<=H.b from hb);omega⟩
 have mZ:Hid ((bI H 0).length=0):=rfl
 have Vf:Hid (∀ b,(bI H (b+1)).length=(bI H b).length+(H.bZ b).length):=qP H
 have qY:Hid (∀ V R X aJ,l9 V R X aJ H.c H.K->Calls ay 65 #[ak R] V fun e w'=>e = .returned (.agg H.c.cells.toArray)/\aj aA V w'):=fun V R X aJ ht=>Ri ht
 have hcb:=h.cb
 have hnb:=h.UF.2.1
 have c0:=(hW.aC hp1 (fun f=>f)).cell 0 (v := ak (D 3)) rfl
 have IW:=au hJ
 have H0:=au h0
 have HY:=au hY
 have HN:=au hN
 obtain ⟨all,hall⟩:∃ all,all=bI H H.b:=⟨_,rfl⟩
 rw [<- hall] at HAT HY ⊢
 have uT:Hid (all.length=(bI H H.b).length):=by unfold Hid;rw [hall]
 clear hall
 generalize bI H=sT at *
 generalize H.bZ=sL at *
 obtain ⟨⟨x0,x1,x2,x3,x4,x5,x6⟩,hcE⟩:∃ c,c=H.c:=⟨_,rfl⟩
 rw [<- hcE] at PW QU HSL qY hcb
 simp only [aS.cells] at qY
 have hcb':x0=(H.b:Int):=hcb
 subst hcb'
 generalize H.b=nb at *
 generalize H.K=K at *
 have hfld:=Jf (nb:Int) x1 x2 x3 x4 x5 x6
 clear h hp1 hbx hh hb1 hW hJ hJx hY h0 hN hcb hcE
 refine callsIn_of_wp func117 rfl trivial ?_ rfl
 simp only [ntmps117,abU,List.length_cons,List.length_nil,Nat.reduceAdd,Nat.reduceSub,abV,Array.replicate_zero,abW,abX,abY,List.cons_append]
 refine BU ?_
 gi_wp2_with fail
 refine ⟨trivial,fun h=>(by cases h),CallsIn.mono (callsIn_wide.2 PW.out) ?_⟩
 rintro e w1 ⟨R,X,aJ,rfl,ht,k1⟩
 have HT1:=au (QU.out w1 R X aJ k1 ht)
 have HJ1:=au (IW.out 0 _ _ H0.out k1 (fun _=>trivial))
 have nH:=au (qY.out w1 R X aJ ht)
 clear PW QU qY H0 c0 ht k1
 gi_wp2_with fail
 refine wpIn_label ?_
 gi_wp2_with fail
 refine ⟨trivial,fun h=>(by cases h),CallsIn.mono (callsIn_wide.2 nH.out) ?_⟩
 rintro e w2 ⟨rfl,k2⟩
 have HT2:=au (HT1.out.still k2)
 have HJ2:=au (IW.out 0 _ _ HJ1.out k2 (fun _=>trivial))
 clear nH HT1 HJ1 k2
 gi_wp2_with fail
 gi_loopw [4,6,12,17,18,19] (fun _ _ bv _ _ _ wr=>∃ b:Nat,b<=nb/\bv = ah b/\J (sT b).length wr/\wH bx wr R X aJ ⟨nb,x1,x2,x3,x4,x5,x6⟩ K) (fun _ _ bv _ _ _ _=>nb - (intOf bv).toNat)
 case atStart=>exact ⟨0,abZ _,rfl,by rw [mZ.out];exact HJ2.out,HT2.out⟩
 case round =>
  obtain ⟨b,hb,rfl,Vg,hT⟩:=hrel
  by_cases hlt:b<nb
  ·have oz:(b:Int)<(nb:Int):=by omega
   have mQ:=au (HSL.out wr R X aJ b hT)
   have HT3:=au hT
   have HJ3:=au Vg
   have L6:=au hlt
   have HLB:=au (HLEN.out b)
   have HAB:=au (fun j=>HAT.out b j hlt)
   have HSB:=au (Vf.out b)
   have hwb:IntKind.i64.wrap ((b:Int)+1)=(b:Int)+1:=abD _ (by omega)
   generalize sL b=row at *
   clear hb Vg hT hlt
   gi_wp2_with fail
   refine ⟨trivial,fun h=>(by cases h),CallsIn.mono (callsIn_wide.2 mQ.out) ?_⟩
   rintro e w3 ⟨a0,c0,rfl,ho,k3⟩
   have HT4:=au (HT3.out.still k3)
   have HJ4:=au (IW.out _ _ _ HJ3.out k3 (fun _=>trivial))
   have nS:Hid (w3.ownsRow 0 3 1 (.slice a0 row.length c0) row.length (bg row)/\∀ q,(Value.slice a0 row.length c0).ownBlock=some q->q≠bx/\¬ oI bx w3 q):=by
    refine ⟨dF ho (abZ _),fun q hq=>?_⟩
    have g1:=(World.ownsRow.lt ho q hq).1
    exact ⟨fun e=>by have:=HT3.out.b;omega,fun f=>by have:=HT3.out.n q (pF HT3.out.b k3 f);omega⟩
   clear mQ HT3 HJ3 ho k3
   generalize wr=Wo at *
   gi_wp2_with fail
   gi_loopw [6,19] (fun _ jv ws=>∃ j:Nat,j<=row.length/\jv = ah j/\J ((sT b).length+j) ws/\wH bx ws R X aJ ⟨nb,x1,x2,x3,x4,x5,x6⟩ K/\ws.ownsRow 0 3 1 (.slice a0 row.length c0) row.length (bg row)/\∀ q,(Value.slice a0 row.length c0).ownBlock=some q->q≠bx/\¬ oI bx ws q) (fun _ jv _=>row.length - (intOf jv).toNat)
   case atStart=>exact ⟨0,abZ _,rfl,HJ4.out,HT4.out,nS.out.1,nS.out.2⟩
   case round =>
    obtain ⟨j,hj,rfl,pG,hT,hown,hno⟩:=hrel
    by_cases hlt:j<row.length
    ·obtain ⟨q,rfl,_,_,hcb⟩:=yh hown (yg hlt)
     have oz:(j:Int)<(row.length:Int):=by omega
     have Cc:(0:Int)<=(j:Int):=by omega
     obtain ⟨hx,hle⟩:=HAB.out j hlt
     obtain ⟨fn,tmps,assign,body,hy,hR⟩:=HY.out _ (row.getD j 0) #[ah ((row.getD j 0:Nat):Int)] wr hx pG rfl
     have HO:=au (And.intro hown (And.intro hno hT))
     have Az:=au (And.intro hlt hle)
     have hwr:IntKind.i64.wrap ((j:Int)+1)=(j:Int)+1:=abD _ (by have:=HLB.out;omega)
     generalize row.getD j 0=x at *
     clear hown hno hx pG hlt hT hle
     gi_wp2_with fail
     refine ⟨fun h=>(by cases h),hR.mono ?_⟩
     rintro e W' (⟨rfl,hJ',hk⟩|⟨rfl,xk⟩)
     ·have oP:=au (And.intro (Fv HO.out.1 hk HO.out.2.1) (HO.out.2.2.hold hk HN.out))
      clear hk
      gi_wp2_with fail
      go_roundw
      case rel=>exact ⟨j+1,Az.out.1,rfl,hJ',oP.out.2,oP.out.1.1,oP.out.1.2⟩
      case measure=>have:=Az.out;simp [intOf];omega
     ·gi_wp2_with fail
      simp only [Exit.noGoto]
      go_end0
      exact ⟨⟨_,rfl⟩,.inr ⟨_,Az.out.2,xk⟩⟩
    ·obtain rfl:j=row.length:=by omega
     have oz:¬ (row.length:Int)<(row.length:Int):=by omega
     have HE:=au (And.intro pG hT)
     clear hown hno pG hlt hT
     gi_wp2_with fail
     go_roundw
     case rel=>exact ⟨b+1,L6.out,rfl,by rw [HSB.out];exact HE.out.1,HE.out.2⟩
     case measure=>have:=L6.out;simp [intOf];omega
  ·obtain rfl:b=nb:=by omega
   have oz:¬ (b:Int)<(b:Int):=by omega
   have BX:=au Vg
   clear hb Vg hT hlt
   gi_wp2_with fail
   go_end0
   exact ⟨⟨_,rfl⟩,.inl (by rw [uT.out];exact BX.out)⟩
end
end
end Go.Proofs.YtobfpmijbfgmeabGreatDoor
