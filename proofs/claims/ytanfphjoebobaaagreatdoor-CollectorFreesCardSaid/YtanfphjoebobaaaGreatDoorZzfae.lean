/- Parts of the iy. No conditions. -/
import Derived.Test.YtanfphjoebobaaaGreatDoorZzfad
namespace Go.Proofs.YtanfphjoebobaaaGreatDoor
open _root_.Bool renaming eq_iff_iff->ajO
open _root_.Go.IntWalk renaming i64_in->ajw
open _root_.Go.World renaming block_lt_of_cell?->akl
open _root_.List renaming append_nil->alY,filter_append->alV,filter_congr->ama,filter_cons->alW,filter_filter->alZ,getD_eq_getElem?_getD->ajg,getElem?_eq_getElem->ajh,getElem?_map->aks,getElem_mem->aji,length_append->alm,length_filter_le->alX,length_take->alS,map_set->akj,mem_filter->alO,mem_map->akW,nil_append->akr,take_add_one->alU,take_length->alT
open _root_.Nat renaming le_refl->aje,le_trans->ajU,zero_le->aki
open _root_.Go.Proofs.Tryz hiding prog
open _root_.Go.Proofs.Tryz renaming prog->aA
set_option maxRecDepth 100000
set_option maxHeartbeats 16000000
section
attribute [local go_sem ↓] nD
attribute [local go_sem] Oper.semAt_some
open Go.RowKit Go.Deep
theorem Tryz.infoBool9:(aA.info? 4).map (fun i=>(i.zero,i.size,i.bytes))=some (some (.bool false),1,1):=by kernel_rfl
structure Ns (w:World) (Av Tv:Value) (A:List Nat) (T:Nat->List Nat):Prop where
 a:w.ownsRow 0 3 1 Av A.length (aS A)
 t:∃ us:List Value,us.length=A.length/\w.ownsRow 0 32 1 Tv A.length us/\∀ (j:Nat) (u:Value),us[j]?=some u->w.ownsRow 0 3 1 u (T (A.getD j 0)).length (aS (T (A.getD j 0)))
section
variable {w w' W W' W0:World} {s N n:Nat} {v Av Tv rv:Value} {l l2 A R:List Nat} {T:Nat->List Nat} {H:HS}
theorem AZ.ed (h:AZ w s H Av Tv H.aQ.length):Ns w Av Tv H.aQ (toP H):=by
 obtain ⟨us,h1,h2,h3⟩:=h.t
 refine ⟨?_,us,h1,bQ h2 (aki _),fun j u hj=>bQ (h3 j u hj).1 (aki _)⟩
 have:=h.a
 rw [alT] at this
 exact bQ this (aki _)
theorem Ns.still (h:Ns w Av Tv A T) (k:aj aB w w'):Ns w' Av Tv A T:=by
 obtain ⟨us,h1,h2,h3⟩:=h.t
 exact ⟨bY h.a k,us,h1,bY h2 k,fun j u hj=>bY (h3 j u hj) k⟩
theorem wH {e:TypeId} {xs:List Value} {a:Option Addr} {c j:Nat} {u:Value} (h:w.ownsRow s e 1 (.slice a n c) n xs) (hj:xs[j]?=some u):∃ b,a=some ⟨b,0,none⟩/\s<=b/\b<w.heap.size/\w.cell? ⟨b,j,none⟩=some u:=by
 obtain ⟨a',c',e1,_,_,_,hf⟩:=gy (bQ h (aki _))
 cases e1
 obtain ⟨b,e2,hc,_⟩:=hf j u hj
 subst e2
 exact ⟨b,rfl,(World.ownsRow.lt h b rfl).1,(World.ownsRow.lt h b rfl).2,hc⟩
theorem qG {j:Nat} (hj:j<l.length):(aS l)[j]?=some (ah ((l.getD j 0:Nat):Int)):=by
 unfold aS
 rw [aks,ajg,ajh hj];rfl
theorem UM {A:List Nat} {N i a:Nat} (h:a<N):(wF A N i).getD a 0=xX A i a:=by
 unfold wF
 rw [ajg,aks,List.getElem?_range h];rfl
structure RcI (w W:World) (P Q s:Nat) (A:List Nat) (M:Nat) (m:Nat->Bool) (v:Value) (todo:List Nat):Prop where
 aK:aj aB w W
 p:aF W P (aS (wF A (M+1) A.length)) 3
 q:aF W Q (A.map fun a => .bool (m a)) 4
 t:W.ownsRow s 3 1 v todo.length (aS todo)
 sz:s<=W.heap.size
theorem Qj (hE:Ns w Av Tv A T) (hR:w.ownsRow 0 3 1 rv R.length (aS R)) (hn:A.Nodup) (hA:∀ a∈A,1<=a/\a<=1000000) (hAl:A.length<=1000000) (hb:rU A T (fun _=>false)+R.length<=1000000) :
 Calls aA 29 #[.agg #[Av,Tv],rv] w fun e w'=>∃ v,e = .returned v/\∃ m:Nat->Bool,(∀ a,m a=true↔ER A T R a)/\w'.ownsRow w.heap.size 3 1 v (A.filter m).length (aS (A.filter m))/\aj aB w w':=by
 obtain ⟨aa,ca,rfl,_⟩:=gy (bQ hE.a (aki _))
 obtain ⟨us,u1,u2,u3⟩:=hE.t
 obtain ⟨ta,tc,rfl,_⟩:=gy u2
 obtain ⟨ra,rc,rfl,_⟩:=gy hR
 obtain ⟨W0,hW0⟩:∃ W0,W0=w.alloc (.cells #[.slice aa A.length ca,.slice ta A.length tc] 69):=⟨_,rfl⟩
 have k0:aj aB w W0:=by rw [hW0];exact (aj.refl _ _).alloc _
 have hX0:aF W0 w.heap.size [.slice aa A.length ca,.slice ta A.length tc] 69:=by rw [hW0];exact aF.bC w _ _
 have adu:Hid (∀ i,i<A.length->∃ b,aa=some ⟨b,0,none⟩/\b<w.heap.size/\∀ W (S:Nat->Prop),aj S w W->¬ S b->W.cell? ⟨b,i,none⟩=some (ah ((A.getD i 0:Nat):Int))):=fun i hi=>by
  obtain ⟨b,e1,_,hlt,hc⟩:=wH hE.a (qG hi)
  exact ⟨b,e1,hlt,fun W S k hS=>k.nP hc hS⟩
 have Qk:Hid (∀ i,i<A.length->∃ b u,ta=some ⟨b,0,none⟩/\(∀ W,aj aB w W->W.cell? ⟨b,i,none⟩=some u)/\∃ z zc,u = .slice z (T (A.getD i 0)).length zc/\∀ W,aj aB w W->W.ownsRow 0 3 1 u (T (A.getD i 0)).length (aS (T (A.getD i 0)))):=fun i hi=>by
  obtain ⟨u,hu⟩:∃ u,us[i]?=some u:=⟨us[i]'(by omega),ajh _⟩
  obtain ⟨b,e1,_,hlt,hc⟩:=wH u2 hu
  obtain ⟨z,zc,e2,_⟩:=gy (bQ (u3 i u hu) (aki _))
  exact ⟨b,u,e1,fun W k=>k.still hc,z,zc,e2,fun W k=>bY (u3 i u hu) k⟩
 have HRR:Hid (∀ W,aj aB w W->W.ownsRow 0 3 1 (.slice ra R.length rc) R.length (aS R)):=fun W k=>bY hR k
 have adv:Hid (∀ i,i<A.length->zK (A.take (i+1))=max (zK (A.take i)) (A.getD i 0)):=fun i hi=>by
  rw [alU,ajg,ajh hi]
  exact abf _ _
 have HT6:Hid (∀ i,zK (A.take i)<=1000000):=fun i=>WW (fun a ha=>(hA a (List.mem_of_mem_take ha)).2)
 obtain ⟨M,hM⟩:∃ M,M=zK A:=⟨_,rfl⟩
 have HM:Hid (M=zK A/\M<=1000000/\∀ a∈A,1<=a/\a<=M):=⟨hM,by rw [hM];exact WW (fun a ha=>(hA a ha).2),fun a ha=>⟨(hA a ha).1,by rw [hM];exact aeS ha⟩⟩
 have JB:=ay hn
 have Ac:=ay hb
 obtain ⟨n,hn1⟩:∃ n,n=A.length:=⟨_,rfl⟩
 have HN:Hid (A.length=n):=hn1.symm
 have O8:(n:Int)<=1000000:=by omega
 rw [<- hn1] at adu Qk adv hX0 hW0
 have Ql:=adu
 have Om:=adu
 have HX:Hid (∀ W,aj aB W0 W->W.cell? ⟨w.heap.size,0,none⟩=some (.slice aa n ca)/\W.cell? ⟨w.heap.size,1,none⟩=some (.slice ta n tc)):=fun W k=>⟨k.still (hX0.cell 0 rfl),k.still (hX0.cell 1 rfl)⟩
 have Wu:Hid (w.heap.size<W0.heap.size):=hX0.lt
 have gQ:=ay k0
 have HW0:=ay hW0
 have aja:∀ w:World,(Instr.makeSlice 32 (ah ((M:Int)+1)) (ah ((M:Int)+1))).run aA w = .ok (.slice (some ⟨w.heap.size,0,none⟩) (M+1) (M+1)) (w.alloc (.cells (fV (ah 0) (M+1)).toArray 3)):=fun w=>yD (P:=aA) (by kernel_rfl) Tryz.infoInt rfl (by decide) (M+1) (by have:=HM.out.2.1;omega) _ (by omega) w
 have ajb:∀ w:World,(Instr.makeSlice 111 (ah (n:Int)) (ah (n:Int))).run aA w = .ok (.slice (some ⟨w.heap.size,0,none⟩) n n) (w.alloc (.cells (fV (.bool false) n).toArray 4)):=fun w=>yD (P:=aA) (by kernel_rfl) Tryz.infoBool9 rfl (by decide) n (by omega) _ rfl w
 rw [<- hn1]
 have hMI:(M:Int)<=1000000:=by have:=HM.out.2.1;omega
 clear hE u1 u2 u3 hR hn hA hAl hb k0 hX0 hM hn1 hW0
 go_enter func29,ntmps29
 go_wp2_with fail
 rw [<- HW0.out]
 go_loopw [5,6] (fun tv iv wr=>∃ i:Nat,i<=n/\iv = ah i/\tv = ah (zK (A.take i):Nat)/\aj aB W0 wr) (fun _ iv _=>n - (intOf iv).toNat)
 case atStart=>exact ⟨0,aki _,rfl,rfl,aj.refl _ _⟩
 case round =>
  obtain ⟨i,hi,rfl,rfl,hk⟩:=hrel
  have HK:=ay hk
  obtain ⟨x0,x1⟩:=HX.out _ hk
  by_cases hlt:i<n
  ·have lJ:(i:Int)<(n:Int):=by omega
   have hi0:(0:Int)<=(i:Int):=by omega
   obtain ⟨b,rfl,_,hc⟩:=Ql.out i hlt
   have hc0:=hc _ aB (gQ.out.trans hk) (fun f=>f)
   have HTP:=ay (adv.out i hlt)
   obtain ⟨t1,ht1⟩:∃ t1,t1=zK (A.take i):=⟨_,rfl⟩
   obtain ⟨t2,ht2⟩:∃ t2,t2=zK (A.take (i+1)):=⟨_,rfl⟩
   rw [<- ht1,<- ht2] at HTP
   rw [<- ht1]
   have HT2:=ay ht2
   have hmx:max (t1:Int) ((A.getD i 0:Nat):Int)=(t2:Int):=by rw [HTP.out];omega
   generalize A.getD i 0=a at *
   clear hk hc ht1 ht2 HTP x1
   go_wp2_with fail
   exact ⟨⟨i+1,by omega,by go_num,by rw [HT2.out],HK.out⟩,by simp [intOf];omega⟩
  ·obtain rfl:i=n:=by omega
   have lJ:¬ (i:Int)<(i:Int):=by omega
   have htk:A.take i=A:=by rw [<- HN.out];exact alT
   rw [htk,<- HM.out.1]
   have hP:=aF.bC wr (fV (ah 0) (M+1)) 3
   have hkP:aj aB W0 (wr.alloc (.cells (fV (ah 0) (M+1)).toArray 3)):=hk.alloc _
   obtain ⟨W1,hW1⟩:∃ W1,W1=wr.alloc (.cells (fV (ah 0) (M+1)).toArray 3):=⟨_,rfl⟩
   rw [<- hW1] at hP hkP
   have yL:Hid (aF W1 wr.heap.size (aS (wF A (M+1) 0)) 3):=by
    have e:aS (wF A (M+1) 0)=fV (ah 0) (M+1):=by
     rw [abg]
     unfold aS fV
     rw [List.map_replicate];rfl
    rw [e];exact hP
   have HKP:=ay hkP
   obtain ⟨P,hPe⟩:∃ P,P=wr.heap.size:=⟨_,rfl⟩
   have OD:Hid (W0.heap.size<=P/\P<W1.heap.size):=⟨by rw [hPe];exact hk.size,by rw [hPe];exact hP.lt⟩
   rw [<- hPe] at yL
   have HPE:=ay hPe
   have HW1:=ay hW1
   clear hk hP hkP hPe hW1 HK adv HT6 htk
   go_wp2_with fail
   rw [<- HW1.out,<- HPE.out]
   clear x0 x1
   go_loopw [8] (fun iv wr=>∃ j:Nat,j<=i/\iv = ah j/\aF wr P (aS (wF A (M+1) j)) 3/\aj (only P) W1 wr) (fun iv _=>i - (intOf iv).toNat)
   case atStart=>exact ⟨0,aki _,rfl,yL.out,aj.refl _ _⟩
   case round =>
    obtain ⟨j,hj,rfl,hp,hk⟩:=hrel
    have HK:=ay hk
    have hkW:aj aB W0 wr:=HKP.out.QJ hk OD.out.1
    obtain ⟨x0,x1⟩:=HX.out _ hkW
    by_cases hlt:j<i
    ·have ahC:(j:Int)<(i:Int):=by omega
     have hj0:(0:Int)<=(j:Int):=by omega
     obtain ⟨b,rfl,uz,hc⟩:=Ql.out j hlt
     have hc0:=hc _ aB (gQ.out.trans hkW) (fun f=>f)
     have hjA:j<A.length:=by rw [HN.out];exact hlt
     have hmem:A.getD j 0∈A:=by rw [ajg,ajh hjA];exact aji _
     have qV:=HM.out.2.2 _ hmem
     have hpc:=hp.cell (A.getD j 0) (qG (by rw [Dn];omega))
     have hpf:=hp.free (A.getD j 0)
     have hset:aF (wr.setCell ⟨P,A.getD j 0,none⟩ (ah ((j:Int)+1))) P (aS (wF A (M+1) (j+1))) 3:=by
      have h9:=hp.set (A.getD j 0) (ah ((j:Int)+1))
      have e:(aS (wF A (M+1) j)).set (A.getD j 0) (ah ((j:Int)+1))=aS (wF A (M+1) (j+1)):=by
       rw [abh JB.out hjA]
       unfold aS
       rw [akj,show A[j]=A.getD j 0 by rw [ajg,ajh hjA];rfl]
       simp
      rw [e] at h9
      exact h9
     have HS:=ay (And.intro hset (hk.put (A.getD j 0) (ah ((j:Int)+1))))
     obtain ⟨a,ha⟩:∃ a,a=A.getD j 0:=⟨_,rfl⟩
     rw [<- ha] at hc0 qV hpc hpf HS
     have haI:(a:Int)<(M:Int)+1:=by omega
     have ha0:(0:Int)<=(a:Int):=by omega
     generalize (wF A (M+1) j).getD a 0=z at *
     clear hp hk hkW uz hc hjA hmem hset ha qV x1
     go_wp2_with fail
     exact ⟨⟨j+1,by omega,by go_num,HS.out.1,HS.out.2⟩,by simp [intOf];omega⟩
    ·obtain rfl:j=i:=by omega
     have ahC:¬ (j:Int)<(j:Int):=by omega
     obtain ⟨W2,hW2⟩:∃ W2,W2=wr.alloc (.cells (fV (.bool false) j).toArray 4):=⟨_,rfl⟩
     have k2:aj aB wr W2:=by rw [hW2];exact (aj.refl _ _).alloc _
     have hQ2:aF W2 wr.heap.size (fV (.bool false) j) 4:=by rw [hW2];exact aF.bC wr _ _
     obtain ⟨W3,hW3⟩:∃ W3,W3=W2.alloc (.cells #[] 3):=⟨_,rfl⟩
     have k3:aj aB W2 W3:=by rw [hW3];exact (aj.refl _ _).alloc _
     have ho3:W3.ownsRow W2.heap.size 3 1 (.slice (some ⟨W2.heap.size,0,none⟩) 0 0) ([]:List Nat).length (aS []):=by
      rw [hW3];exact World.ownsRow_made W2 #[] 0 (aje _) (by decide) rfl
     have agM:aj aB w W3:=gQ.out.trans ((hkW.trans k2).trans k3)
     obtain ⟨v4,W4,hrun,ho4,hgr⟩:=xY (l:=[]) ho3 k3.size (HRR.out _ agM) (by have:=Ac.out;simp;omega)
     rw [akr] at ho4
     have k4:aj aB W2 W4:=lQ ho3 hgr k3 (fun b h1 h2=>by omega)
     have HI4:Hid (RcI W0 W4 P wr.heap.size W2.heap.size A M (fun _=>false) v4 R):=by
      refine ⟨(hkW.trans k2).trans k4,?_,?_,ho4,k4.size⟩
      ·rw [HN.out]
       exact k4.aH (k2.aH hp (fun f=>f)) (fun f=>f)
      ·have e:(A.map fun _=>Value.bool false)=fV (.bool false) j:=by
        rw [List.map_const']
        unfold fV
        rw [HN.out]
       rw [e]
       exact k4.aH hQ2 (fun f=>f)
     obtain ⟨Q,hQe⟩:∃ Q,Q=wr.heap.size:=⟨_,rfl⟩
     obtain ⟨s,hse⟩:∃ s,s=W2.heap.size:=⟨_,rfl⟩
     have HQL:Hid (P<Q/\Q<s/\w.heap.size<=P/\w.heap.size<W0.heap.size/\W0.heap.size<=P):=by
      refine ⟨?_,by rw [hQe,hse];exact hQ2.lt,?_,Wu.out,OD.out.1⟩
      ·rw [hQe];exact Nat.lt_of_lt_of_le OD.out.2 HK.out.size
      ·exact ajU gQ.out.size OD.out.1
     rw [<- hQe,<- hse] at HI4
     have HQE:=ay hQe
     rw [hW3,<- hse,hW2] at hrun
     have HSE:Hid (s=wr.heap.size+1):=by show s=_;rw [hse,hW2];simp
     rw [HSE.out] at hrun
     clear hp hk hkW k2 hQ2 k3 ho3 agM ho4 hgr k4 hQe hse hW3 hW2 yL Ql
     go_wp2_with fail
     rw [<- HQE.out]
     obtain ⟨g0,hg0⟩:∃ g0,g0=R.length+rU A T (fun _=>false):=⟨_,rfl⟩
     have Gv:=ay hg0
     have KC:Hid (Dp A T R (fun _=>false) R):=Dp.first
     clear hg0
     go_loopg [10,11] g0 (fun g tv _ wr=>∃ (m:Nat->Bool) (todo:List Nat),todo.length+rU A T m<=g/\g<=1000000/\Dp A T R m todo/\RcI W0 wr P Q s A M m tv todo)
     case atStart =>
      have:=Ac.out
      exact ⟨_,R,by rw [Gv.out];exact aje _,by rw [Gv.out];omega,KC.out,HI4.out⟩
     case round =>
      obtain ⟨m,todo,hg,hg6,hw,hr⟩:=hrel
      rcases List.eq_nil_or_concat todo with rfl|⟨ys,a,e⟩
      ·
       obtain ⟨za,zc,rfl,_⟩:=gy (bQ hr.t (aki _))
       have HER:Hid (∀ a,m a=true↔ER A T R a):=hw.done
       have HR4:=ay hr
       clear hg hg6 hw hr HI4 Gv KC Ac HRR Qk
       go_wp2_with fail
       have qK:=ay HR4.out.sz
       generalize wr=Wo at *
       go_loopw [12,13] (fun ou iv wr=>∃ (i:Nat) (ov:Value),ov=ou/\i<=j/\iv = ah i/\wr.ownsRow Wo.heap.size 3 1 ov ((A.take i).filter m).length (aS ((A.take i).filter m))/\aj aB Wo wr) (fun _ iv _=>j - (intOf iv).toNat)
       case atStart=>exact ⟨0,_,rfl,aki _,rfl,⟨rfl,.inl ⟨rfl,rfl⟩⟩,aj.refl _ _⟩
       case round =>
        obtain ⟨i,ov,hov,hi,rfl,ho,hk⟩:=hrel
        subst hov
        have hkW:=HR4.out.aK.trans hk
        obtain ⟨x0,x1⟩:=HX.out _ hkW
        by_cases hlt:i<j
        ·have Y0:(i:Int)<(j:Int):=by omega
         have hi0:(0:Int)<=(i:Int):=by omega
         have hiA:i<A.length:=by rw [HN.out];exact hlt
         have hgi:A[i]?=some (A.getD i 0):=by rw [ajg,ajh hiA];rfl
         have hqc:=(hk.aH HR4.out.q (fun f=>f)).cell i (v := .bool (m (A.getD i 0))) (by rw [aks,hgi];rfl)
         obtain ⟨b,rfl,uz,hc⟩:=Om.out i hlt
         have hc0:=hc _ aB (gQ.out.trans hkW) (fun f=>f)
         have EN:Hid ((A.take (i+1)).filter m=(A.take i).filter m++if m (A.getD i 0) then [A.getD i 0] else []):=by
          show _=_
          rw [alU,hgi,alV]
          congr 1
          show List.filter m [A.getD i 0]=_
          rw [alW];rfl
         have Nr:Hid (((A.take i).filter m).length<=1000000):=by
          have h1:=alX m (A.take i)
          have h2:(A.take i).length<=A.length:=by rw [alS];omega
          rw [HN.out] at h2
          show _<=_;omega
         have HO:=ay ho
         have HK:=ay hk
         generalize hmx:m (A.getD i 0)=mx at *
         obtain ⟨a,ha⟩:∃ a,a=A.getD i 0:=⟨_,rfl⟩
         rw [<- ha] at hc0 EN
         cases mx with
         | false =>
           have uV:Hid (wr.ownsRow Wo.heap.size 3 1 ov ((A.take (i+1)).filter m).length (aS ((A.take (i+1)).filter m))):=by
            rw [EN.out,aT (by decide),alY];exact HO.out
           clear ho hk hkW x1 hiA hgi uz hc hmx ha
           go_wp2_with fail
           exact ⟨⟨i+1,_,rfl,by omega,by go_num,uV.out,HK.out⟩,by simp [intOf];omega⟩
         | true =>
           have k7:aj aB wr (wr.alloc (.cells #[ah (a:Int)] 3)):=(aj.refl _ _).alloc _
           have ho7:=bY ho k7
           obtain ⟨g,aO,W8,hrun,hown8,hgr,_⟩:=yA ho7 (by have:=hk.size;simp;omega) (N:=wr.heap.size) ((aF.bC wr [ah (a:Int)] 3).cell 0 rfl) (by have:=Nr.out;omega)
           have qN:Hid (W8.ownsRow Wo.heap.size 3 1 (.slice (some ⟨g,0,none⟩) (((A.take i).filter m).length+1) aO) ((A.take (i+1)).filter m).length (aS ((A.take (i+1)).filter m))/\aj aB Wo W8):=by
            rw [EN.out,aZ rfl]
            refine ⟨?_,lQ ho7 hgr (hk.trans k7) (fun b h1 h2=>by omega)⟩
            have e:((A.take i).filter m).length+1=((A.take i).filter m++[a]).length:=by simp
            rw [e]
            exact hown8
           clear ho hk hkW x1 hiA hgi uz hc hmx ha k7 ho7 hown8 hgr
           go_wp2_with fail
           exact ⟨⟨i+1,_,rfl,by omega,by go_num,qN.out.1,qN.out.2⟩,by simp [intOf];omega⟩
        ·obtain rfl:i=j:=by omega
         have Y0:¬ (i:Int)<(i:Int):=by omega
         have htk:A.take i=A:=by rw [<- HN.out];exact alT
         rw [htk] at ho
         have hsw:w.heap.size<=Wo.heap.size:=ajU gQ.out.size HR4.out.aK.size
         have HE:Hid (wr.ownsRow w.heap.size 3 1 ov (A.filter m).length (aS (A.filter m))/\aj aB w wr):=⟨bQ ho hsw,gQ.out.trans hkW⟩
         clear ho hk hkW x1 htk hsw
         go_wp2_with fail
         go_ret
         exact ⟨_,rfl,m,HER.out,HE.out.1,HE.out.2⟩
      ·rw [List.concat_eq_append] at e
       subst e
       obtain ⟨k,hk⟩:∃ k,k=ys.length:=⟨_,rfl⟩
       have hl1:(ys++[a]).length=k+1:=by simp [hk]
       have hrt:=hr.t
       rw [hl1] at hrt hg
       obtain ⟨za,c,rfl,_⟩:=gy (bQ hrt (aki _))
       obtain ⟨b,e1,hb1,hb2,hca⟩:=wH hrt (j:=k) (u := ah (a:Int)) (by rw [Gj,List.getElem?_append_right (by rw [rF];omega),rF,<- hk,Nat.sub_self];rfl)
       subst e1
       rw [Gj] at hrt
       have hcap:k+1<=c:=by
        rcases hrt.2 with ⟨e2,_⟩|⟨g',cap',cur,e2,_,_,h6,_⟩
        ·cases e2
        ·cases e2;exact h6
       have hinit:wr.ownsRow s 3 1 (.slice (some ⟨b,0,none⟩) k c) k (aS ys):=SA hrt
       have hk6:k+1<=1000000:=by omega
       have hw1:IntKind.i64.wrap ((k:Int)+1 - 1)=(k:Int):=by rw [show (k:Int)+1 - 1=(k:Int) by omega];exact ajw _ (by omega)
       have hsl:∀ W:World,(Instr.slice 32 (.slice (some ⟨b,0,none⟩) (k+1) c) none (some (ah (k:Int))) none).run aA W = .ok (.slice (some ⟨b,0,none⟩) k c) W:=fun W=>by
        have ht:aA.underlying 32=some (.slice 3):=by kernel_rfl
        have hi:(aA.info? 3).map (·.size)=some 1:=by kernel_rfl
        obtain ⟨i,hi1,hi2⟩:=Option.map_eq_some_iff.1 hi
        have h1:¬ c<k:=by omega
        simp [Instr.slice,run_underlying ht,sizeOf,typeInfo,hi1,hi2,go_sem,h1,Addr.add]
       have hk0:(0:Int)<=(k:Int):=by omega
       have QX:(k:Int)<(k:Int)+1:=by omega
       have hkp:(0:Int)<(k:Int)+1:=by omega
       have hkN:k<k+1:=Nat.lt_succ_self k
       have Qm:(a∈A->m a=true)->Hid (Dp A T R m ys/\RcI W0 wr P Q s A M m (.slice (some ⟨b,0,none⟩) k c) ys):=fun h=>⟨hw.skip h,hr.aK,hr.p,hr.q,by rw [<- hk];exact hinit,hr.sz⟩
       have hg1:k+rU A T m<=gk - 1/\gk - 1<=1000000/\gk - 1<gk:=by omega
       have D7:=ay hg1
       have hyl:ys.length=k:=hk.symm
       have hx:=HX.out _ hr.aK
       have HRI:=ay hr
       have Qc:=ay hw
       have zh:=ay hinit
       have HB1:=ay (And.intro hb1 hb2)
       have JA:=ay hyl
       by_cases ha1:1<=a/\a<=M
       ·have hpn:=hr.p.cell a (qG (by rw [Dn];omega))
        rw [UM (by omega),HN.out] at hpn
        have haI:(a:Int)<(M:Int)+1:=by omega
        have ha0:(0:Int)<=(a:Int):=by omega
        have hc1:¬ (a:Int)<1:=by omega
        have hc2:¬ (M:Int)<(a:Int):=by omega
        have hd1:decide ((a:Int)<1)=false:=gJ hc1
        have hd2:decide ((M:Int)<(a:Int))=false:=gJ hc2
        by_cases hp0:xX A j a=0
        ·rw [hp0] at hpn
         have HS:=Qm (fun hm=>absurd hp0 (by rw [<- HN.out];exact UD.2 hm))
         clear hg hg6 hw hr hrt hl1 hb1 hb2 hcap hinit Qm hg1 hyl hx HI4 Gv KC Ac HRR hk Qk Om hp0 ha1 HRI Qc zh HB1
         go_wp2_with fail
         go_roundg (gk - 1)
         case measure=>exact D7.out.2.2
         case rel=>exact ⟨m,ys,by rw [JA.out];exact D7.out.1,D7.out.2.1,HS.out.1,HS.out.2⟩
        ·obtain ⟨q,hq⟩:∃ q,xX A j a=q+1:=⟨xX A j a - 1,by omega⟩
         have hmA:a∈A:=UD.1 (by rw [HN.out];exact hp0)
         obtain ⟨UN,hAq,_⟩:=aeT hmA
         simp only [HN.out,hq,Nat.add_sub_cancel] at UN hAq
         have hqj:q<j:=UN
         have UN:q<A.length:=by rw [HN.out];exact hqj
         have hgq:A[q]?=some a:=by rw [ajh UN,hAq]
         have hqc:=hr.q.cell q (v := .bool (m a)) (by rw [aks,hgq];rfl)
         have hqf:=hr.q.free q
         rw [hq,show (((q+1:Nat)):Int)=(q:Int)+1 from by push_cast;rfl] at hpn
         have hw2:IntKind.i64.wrap ((q:Int)+1 - 1)=(q:Int):=by rw [show (q:Int)+1 - 1=(q:Int) by omega];exact ajw _ (by omega)
         have hd3:(((q:Int)+1)==0)=false:=by simp;omega
         have hd4:decide ((q:Int)+1=0)=false:=gJ (by omega)
         have hd5:¬ ((q:Int)+1=0):=by omega
         have hq0:(0:Int)<=(q:Int):=by omega
         have Pg:(q:Int)<(j:Int):=by omega
         cases hma:m a with
         | true =>
           rw [hma] at hqc
           have HS:=Qm (fun _=>hma)
           clear hg hg6 hw hr hrt hl1 hb1 hb2 hcap hinit Qm hg1 hyl hx HI4 Gv KC Ac HRR hk Qk Om hp0 ha1 HRI Qc zh HB1 hq hmA UN hAq hqj hgq hma
           go_wp2_with fail
           go_roundg (gk - 1)
           case measure=>exact D7.out.2.2
           case rel=>exact ⟨m,ys,by rw [JA.out];exact D7.out.1,D7.out.2.1,HS.out.1,HS.out.2⟩
         | false =>
           rw [hma] at hqc
           obtain ⟨W5,nI⟩:∃ W5,W5=wr.setCell ⟨Q,q,none⟩ (.bool true):=⟨_,rfl⟩
           have k5:aj (only Q) wr W5:=by rw [nI];exact (aj.refl _ _).put _ _
           have hq5:aF W5 Q (A.map fun x => .bool (iZ m a true x)) 4:=by
            have h9:=hr.q.set q (.bool true)
            have e:(A.map fun x=>Value.bool (m x)).set q (.bool true)=A.map fun x=>Value.bool (iZ m a true x):=by
             have h8:=aeU JB.out (m:=m) UN
             rw [hAq] at h8
             have e1:∀ f:Nat->Bool,(A.map fun x=>Value.bool (f x))=(A.map f).map Value.bool:=fun f=>by rw [List.map_map];rfl
             rw [e1,e1,h8,akj]
            rw [e,<- nI] at h9
            exact h9
           have uP:=HQL.out
           have hk05:aj aB W0 W5:=hr.aK.QJ k5 (by omega)
           obtain ⟨x50,x51⟩:=HX.out _ hk05
           have hp5:=k5.aH hr.p (fun e=>by unfold only at e;omega)
           have pn5:=hp5.cell a (qG (by rw [Dn];omega))
           rw [UM (by omega),HN.out,hq,show (((q+1:Nat)):Int)=(q:Int)+1 from by push_cast;rfl] at pn5
           obtain ⟨bT,u,rfl,hu1,z,zc,rfl,hu2⟩:=Qk.out q hqj
           have hgd:A.getD q 0=a:=by rw [ajg,hgq];rfl
           rw [hgd] at hu1 hu2
           have hu5:=hu1 _ (gQ.out.trans hk05)
           have hin5:W5.ownsRow s 3 1 (.slice (some ⟨b,0,none⟩) k c) ys.length (aS ys):=by rw [hyl];exact gK hinit k5 (fun b' hb' e=>by have:=(World.ownsRow.lt hinit b' hb').1;unfold only at e;omega)
           have kd:aj aB W5 W5.drew:=(aj.refl _ _).drew
           have hru:=Qg A m a hmA JB.out (T:=T) hma
           have hs5:s<=W5.heap.size:=ajU hr.sz k5.size
           obtain ⟨v7,W7,hrun,ho7,hgr⟩:=xY (bY hin5 kd) (ajU hs5 kd.size) (hu2 _ (gQ.out.trans (hk05.trans kd))) (by omega)
           have kg:aj (fun b=>s<=b) W5 W7:=lQ (bY hin5 kd) hgr (kd.mono (fun _ _ f=>f.elim)) (fun b h1 _=>h1)
           have HS:Hid ((ys++T a).length+rU A T (iZ m a true)<=gk - 1/\Dp A T R (iZ m a true) (ys++T a)/\RcI W0 W7 P Q s A M (iZ m a true) v7 (ys++T a)):=by
            refine ⟨by rw [alm];omega,hw.take hmA,?_,kg.aH hp5 (fun hh=>by have:s<=P:=hh;omega),kg.aH hq5 (fun hh=>by have:s<=Q:=hh;omega),ho7,ajU hs5 kg.size⟩
            exact hk05.kF kg (fun b hb hh=>by have:s<=b:=hh;have:=hr.aK.size;omega)
           rw [nI] at x50 x51 pn5 hu5 hrun
           clear hg hg6 hw hr hrt hl1 hb1 hb2 hcap hinit Qm hg1 hyl hx HI4 Gv KC Ac HRR hk Qk Om hp0 ha1 HRI Qc zh HB1 hq hmA UN hAq hgq hma k5 hq5 uP hk05 hp5 hu1 hu2 hgd hin5 kd hru hs5 ho7 hgr kg nI
           go_wp2_with fail
           go_region
           go_wp2_with fail
           go_roundg (gk - 1)
           case measure=>exact D7.out.2.2
           case rel=>exact ⟨iZ m a true,ys++T a,HS.out.1,D7.out.2.1,HS.out.2.1,HS.out.2.2⟩
       ·have HS:=Qm (fun hm=>absurd (HM.out.2.2 a hm) ha1)
        by_cases ha0:a=0
        ·subst ha0
         clear hg hg6 hw hr hrt hl1 hb1 hb2 hcap hinit Qm hg1 hyl hx HI4 Gv KC Ac HRR hk Qk Om ha1 HRI Qc zh HB1
         go_wp2_with fail
         go_roundg (gk - 1)
         case measure=>exact D7.out.2.2
         case rel=>exact ⟨m,ys,by rw [JA.out];exact D7.out.1,D7.out.2.1,HS.out.1,HS.out.2⟩
        ·have hc1:¬ (a:Int)<1:=by omega
         have hc2:(M:Int)<(a:Int):=by omega
         have hd1:decide ((a:Int)<1)=false:=gJ hc1
         clear hg hg6 hw hr hrt hl1 hb1 hb2 hcap hinit Qm hg1 hyl hx HI4 Gv KC Ac HRR hk Qk Om ha1 ha0 HRI Qc zh HB1
         go_wp2_with fail
         go_roundg (gk - 1)
         case measure=>exact D7.out.2.2
         case rel=>exact ⟨m,ys,by rw [JA.out];exact D7.out.1,D7.out.2.1,HS.out.1,HS.out.2⟩
end
end
section
open Go.RowKit
theorem adw {eP : List (String × DataW Unit)} {w : World} (h : laidMet aA (("math/bits.deBruijn64tab", Rows.laid_math_bits_deBruijn64tab) :: ("dustpan/config.limits", Rows.laid_dustpan_config_limits) :: ("dustpan/class.sizes", Rows.laid_dustpan_class_sizes) :: ("dustpan/phase.known", Rows.laid_dustpan_phase_known) :: ("dustpan/op.kinds", Rows.laid_dustpan_op_kinds) :: eP) w) : Laid w /\ Qi w := by
 have hb:=adk h
 have h1:=laidMet.tail h
 have hl:=afe h1
 have hs:=abt (laidMet.tail h1)
 have h3:=laidMet.tail (laidMet.tail h1)
 have hk:=adV (laidMet.tail h3)
 exact ⟨⟨⟨hl,hk⟩,hs,hb,akl _ _ (hl 0 _ rfl),akl _ _ (hk 0 _ rfl),akl _ _ (hs 0 _ rfl)⟩,adp h3⟩
section
variable {o o':Ow} {w w' W W':World} {G:fU} {gs:List MG} {q:CG} {x z:WS} {v mv:Value} {N κ K M:Nat} {d:Dm} {ma:Option Addr} {mc:Nat}
theorem CI.Yy (h:CI d w W o G gs q mv N x κ K) (k:aj (HF G.D) W W') (hH:aI W' G.D x.s.H):CI d w W' o G gs q mv N x κ K:=by
 obtain ⟨h1,k1⟩:=h.cw.Yy k hH rfl
 exact ⟨h1,h.ok,h.Iy,h.mv.aK k1 rfl (bZ.refl _ _),h.mF,h.aW,h.ww,h.qE,h.dr,h.jM,h.nH,h.len⟩
theorem CI.Oo (h:CI d w W o G gs q mv N x κ K) (hd:d.Ok):x.s.H.b*x.s.H.ww<=4*35/\x.s.H.aQ.length<=141/\x.s.H.aQ.Nodup/\(∀ a∈x.s.H.aQ,1<=a/\a<=140)/\x.s.H.bn 0=false/\∀ a,x.s.H.bn a=true->a<x.s.H.sz:=by
 have hb:x.s.H.b*x.s.H.ww<=4*35:=by
  rw [<- h.mF.hb,h.ww]
  exact Nat.mul_le_mul hd.b.2 hd.w.2
 have hbn:∀ a,x.s.H.bn a=true->1<=a/\a<=x.s.H.b*x.s.H.ww:=fun a ha=>⟨(D6 h.mF.gU ha).1,(D6 h.mF.gU ha).2.1⟩
 refine ⟨hb,?_,?_,fun a ha=>?_,?_,fun a ha=>?_⟩
 ·have h1:=FV x.s.H.bn x.s.H.sz
  unfold HS.aQ
  unfold HS.sz at h1 ⊢
  omega
 ·exact (En _ _).imp (fun h=>Nat.ne_of_lt h)
 ·have:=hbn a (lK.1 ha).2
  omega
 ·rw [Bool.eq_false_iff]
  intro h0
  have:=hbn 0 h0
  omega
 ·have:=hbn a ha
  unfold HS.sz
  omega
theorem UO {A:List Nat} {T:Nat->List Nat} {m:Nat->Bool} {k:Nat} (h:∀ a,(T a).length<=k):rU A T m<=A.length*k:=by
 induction A with
 | nil=>simp [rU]
 | cons a A ih =>
   show (if m a=true then 0 else (T a).length)+rU A T m<=(A.length+1)*k
   rw [Nat.add_mul,Nat.one_mul]
   have:=h a
   split<;>omega
theorem toP_le (H:HS) (a:Nat):(toP H a).length<=100:=ajU (toN_len _ _ _) (DT H a)
theorem CI.of (h:CI d w W o G gs q mv N x κ K) (hd:d.Ok) (hT:pI W):Calls aA 30 #[au (G.D 0)] W fun e w'=>∃ Av Tv:Value,e = .returned (.agg #[Av,Tv])/\Ns w' Av Tv x.s.H.aQ (toP x.s.H)/\CI d w w' o G gs q mv N x κ K/\aj (HF G.D) W w':=by
 have hn:=h.Oo hd
 refine (agI h.cw.aC.sh.heap hT (by omega)).mono ?_
 rintro e w' ⟨Av,Tv,rfl,h1,h2,h3⟩
 exact ⟨Av,Tv,rfl,h1.ed,h.Yy h3 h2,h3⟩
def adx (d:Dm) (κ:Nat) (x:WS) (m:Nat->Bool):Prop:=∀ a,m a=true↔(jd d.m d.b d.ce κ x).lq a
theorem CI.ahD (h:CI d w W o G gs q mv N x κ K) (hd:d.Ok) {Av Tv rv:Value} (hE:Ns W Av Tv x.s.H.aQ (toP x.s.H)) (hR:W.ownsRow 0 3 1 rv (jK x d.ce d.m).length (aS (jK x d.ce d.m))):Calls aA 29 #[.agg #[Av,Tv],rv] W fun e w'=>∃ v,e = .returned v/\∃ m:Nat->Bool,adx d κ x m/\w'.ownsRow W.heap.size 3 1 v (x.s.H.aQ.filter m).length (aS (x.s.H.aQ.filter m))/\aj aB W w':=by
 obtain ⟨n1,n2,n3,n4,n5,n6⟩:=h.Oo hd
 have hrl:=hd.uq h d.m (aje _)
 have hre:=UO (A:=x.s.H.aQ) (m:=fun _=>false) (toP_le x.s.H)
 refine (Qj hE hR n3 (fun a ha=>⟨(n4 a ha).1,by have:=(n4 a ha).2;omega⟩) (by omega) (by omega)).mono ?_
 rintro e w' ⟨v,rfl,m,h1,h2,h3⟩
 exact ⟨v,rfl,m,fun a=>(h1 a).trans (abj n5 n6 a),h2,h3⟩
end
end
section
attribute [local go_sem ↓] nD
attribute [local go_sem] Oper.semAt_some
open Go.RowKit
theorem WX (l:List Nat) (a:Nat):BM (l.map fun x:Nat=>(x:Int)) (a:Int)=l.contains a:=by
 rw [ajO,BN]
 constructor
 ·intro h
  obtain ⟨b,h1,h2⟩:=akW.1 h
  have:b=a:=by omega
  subst this
  simpa using h1
 ·intro h
  exact akW.2 ⟨a,by simpa using h,rfl⟩
theorem Gl {w:World} {s:Nat} {v:Value} {l:List Nat} (h:w.ownsRow s 3 1 v l.length (aS l)):∃ a c,v = .slice a l.length c/\gY .i64 w a l.length (l.map fun x:Nat=>(x:Int)):=by
 have e:aS l=(l.map fun x:Nat=>(x:Int)).map (Value.int .i64):=by simp [aS]
 rw [e] at h
 obtain ⟨a,c,h1,h2,_⟩:=gY.GN h
 exact ⟨a,c,h1,h2⟩
section
variable {w w' W W' W0:World} {s N n:Nat} {v Av Tv rv:Value} {l l2 A R:List Nat} {T:Nat->List Nat}
theorem aeZ (hE:Ns w Av Tv A T) (hR:w.ownsRow 0 3 1 rv R.length (aS R)) (hn:A.Nodup) (hA:∀ a∈A,1<=a/\a<=1000000) (hAl:A.length<=1000000) (hb:rU A T (fun _=>false)+R.length<=1000000) :
 Calls aA 34 #[.agg #[Av,Tv],rv] w fun e w'=>∃ v,e = .returned v/\∃ m:Nat->Bool,(∀ a,m a=true↔ER A T R a)/\w'.ownsRow w.heap.size 3 1 v (A.filter fun a => !m a).length (aS (A.filter fun a => !m a))/\aj aB w w':=by
 obtain ⟨aa,ca,rfl,_⟩:=gy (bQ hE.a (aki _))
 obtain ⟨us,u1,u2,u3⟩:=id hE.t
 obtain ⟨ta,tc,rfl,_⟩:=gy u2
 obtain ⟨W0,hW0⟩:∃ W0,W0=w.alloc (.cells #[.slice aa A.length ca,.slice ta A.length tc] 69):=⟨_,rfl⟩
 have k0:aj aB w W0:=by rw [hW0];exact (aj.refl _ _).alloc _
 have hX0:aF W0 w.heap.size [.slice aa A.length ca,.slice ta A.length tc] 69:=by rw [hW0];exact aF.bC w _ _
 have HRC:=ay (Qj (hE.still k0) (bY hR k0) hn hA hAl hb)
 have HX:Hid (∀ W,aj aB W0 W->W.cell? ⟨w.heap.size,0,none⟩=some (.slice aa A.length ca)/\W.cell? ⟨w.heap.size,1,none⟩=some (.slice ta A.length tc)):=fun W k=>⟨k.still (hX0.cell 0 rfl),k.still (hX0.cell 1 rfl)⟩
 have Ql:Hid (∀ i,i<A.length->∃ b,aa=some ⟨b,0,none⟩/\∀ W,aj aB w W->W.cell? ⟨b,i,none⟩=some (ah ((A.getD i 0:Nat):Int))):=fun i hi=>by
  obtain ⟨b,e1,_,hlt,hc⟩:=wH hE.a (qG hi)
  exact ⟨b,e1,fun W k=>k.still hc⟩
 have gQ:=ay k0
 have HW0:=ay hW0
 have zl:Hid (w.heap.size<=W0.heap.size):=k0.size
 obtain ⟨n,hn1⟩:∃ n,n=A.length:=⟨_,rfl⟩
 have HN:Hid (A.length=n):=hn1.symm
 have O8:(n:Int)<=1000000:=by omega
 rw [<- hn1] at HRC HX Ql hW0 HW0 ⊢
 obtain ⟨x0,x1⟩:=HX.out W0 (aj.refl _ _)
 rw [HW0.out] at x0 x1
 clear hE u1 u2 u3 hR hn hA hAl hb k0 hX0 hn1 hW0
 go_enter func34,ntmps34
 go_wp2_with fail
 rw [<- HW0.out]
 refine HRC.out.mono ?_
 rintro e w1 ⟨iv,rfl,m,hm,ho1,k1⟩
 obtain ⟨ia,ic,rfl,_⟩:=Gl ho1
 have HM:=ay hm
 have zh:Hid (∀ W i,aj aB w1 W->i<n->Calls aA 36 #[.slice ia (A.filter m).length ic,ah ((A.getD i 0:Nat):Int)] W fun e w'=>e = .returned (.bool (m (A.getD i 0)))/\W=w'):=fun W i k hi=>by
  have hl:=alX m A
  have:=HN.out
  obtain ⟨_,_,e1,hic⟩:=Gl (bY ho1 k)
  cases e1
  refine (Zb ia _ ic _ _ W hic (by omega)).mono ?_
  rintro e w' ⟨rfl,rfl⟩
  refine ⟨?_,rfl⟩
  rw [WX]
  have hmem:A.getD i 0∈A:=by rw [ajg,ajh (by omega)];exact aji _
  congr 2
  rw [ajO]
  simp only [List.contains_iff_mem,alO]
  exact ⟨fun h=>h.2,fun h=>⟨hmem,h⟩⟩
 have bI:=ay k1
 clear HRC hm ho1 k1 x0 x1
 go_wp2_with fail
 go_loopw [6,7] (fun ou jv wr=>∃ (i:Nat) (ov:Value),ov=ou/\i<=n/\jv = ah i/\wr.ownsRow w1.heap.size 3 1 ov ((A.take i).filter fun a => !m a).length (aS ((A.take i).filter fun a => !m a))/\aj aB w1 wr) (fun _ jv _=>n - (intOf jv).toNat)
 case atStart=>exact ⟨0,_,rfl,aki _,rfl,⟨rfl,.inl ⟨rfl,rfl⟩⟩,aj.refl _ _⟩
 case round =>
  obtain ⟨i,ov,hov,hi,rfl,ho,hk⟩:=hrel
  subst hov
  obtain ⟨x0,x1⟩:=HX.out _ (bI.out.trans hk)
  have HK:=ay hk
  have HO:=ay ho
  by_cases hlt:i<n
  ·have lJ:(i:Int)<(n:Int):=by omega
   have hi0:(0:Int)<=(i:Int):=by omega
   obtain ⟨b,rfl,hc⟩:=Ql.out i hlt
   have hcc:=hc wr ((gQ.out.trans bI.out).trans hk)
   have HI:=ay (zh.out wr i hk hlt)
   have hgi:A[i]?=some (A.getD i 0):=by rw [ajg,ajh (by have:=HN.out;omega)];rfl
   have EN:Hid ((A.take (i+1)).filter (fun a => !m a)=(A.take i).filter (fun a => !m a)++if m (A.getD i 0)=true then [] else [A.getD i 0]):=by
    show _=_
    rw [alU,hgi,alV]
    congr 1
    show List.filter _ [A.getD i 0]=_
    rw [alW]
    cases m (A.getD i 0)<;>rfl
   have Nr:Hid (((A.take i).filter fun a => !m a).length<=1000000):=by
    have h1:=alX (fun a => !m a) (A.take i)
    have h2:(A.take i).length<=A.length:=by rw [alS];omega
    rw [HN.out] at h2
    show _<=_;omega
   have ny:=ay hlt
   generalize A.getD i 0=y at *
   clear ho hk hc hgi hlt
   cases hmy:m y with
   | true =>
     rw [hmy] at HI EN
     rw [aZ rfl,alY] at EN
     clear hmy
     go_wp2_with fail
     refine HI.out.mono ?_
     rintro e w2 ⟨rfl,rfl⟩
     clear HI
     go_wp2_with fail
     exact ⟨⟨i+1,_,rfl,ny.out,by have:=ny.out;go_num,by rw [EN.out];exact HO.out,HK.out⟩,by have:=ny.out;simp [intOf];omega⟩
   | false =>
     rw [hmy] at HI EN
     rw [aT (by simp)] at EN
     clear hmy
     go_wp2_with fail
     refine HI.out.mono ?_
     rintro e w2 ⟨rfl,rfl⟩
     have k7:aj aB wr (wr.alloc (.cells #[ah (y:Int)] 3)):=(aj.refl _ _).alloc _
     have ho7:=bY HO.out k7
     obtain ⟨g,aO,W8,hrun,hown8,hgr,_⟩:=yA ho7 (by have:=HK.out.size;simp;omega) (N:=wr.heap.size) ((aF.bC wr [ah (y:Int)] 3).cell 0 rfl) (by have:=Nr.out;omega)
     have qN:Hid (W8.ownsRow w1.heap.size 3 1 (.slice (some ⟨g,0,none⟩) (((A.take i).filter fun a => !m a).length+1) aO) ((A.take (i+1)).filter fun a => !m a).length (aS ((A.take (i+1)).filter fun a => !m a))/\aj aB w1 W8):=by
      rw [EN.out]
      refine ⟨?_,lQ ho7 hgr (HK.out.trans k7) (fun b h1 h2=>by omega)⟩
      rw [alm] at hown8 ⊢
      exact hown8
     generalize ((A.take i).filter fun a => !m a).length+1=fl at *
     clear HI k7 ho7 hown8 hgr
     go_wp2_with fail
     exact ⟨⟨i+1,_,rfl,ny.out,by have:=ny.out;go_num,qN.out.1,qN.out.2⟩,by have:=ny.out;simp [intOf];omega⟩
  ·obtain rfl:i=n:=by omega
   have lJ:¬ (i:Int)<(i:Int):=by omega
   have htk:A.take i=A:=by rw [<- HN.out];exact alT
   rw [htk] at HO
   clear ho hk hlt htk
   go_wp2_with fail
   go_ret
   exact ⟨_,rfl,m,HM.out,bQ HO.out (by have:=bI.out.size;have:=zl.out;omega),(gQ.out.trans bI.out).trans HK.out⟩
end
section
variable {o:Ow} {w W:World} {G:fU} {gs:List MG} {q:CG} {x:WS} {mv:Value} {N κ K:Nat} {d:Dm}
theorem CI.but (h:CI d w W o G gs q mv N x κ K) (hd:d.Ok) {Av Tv rv:Value} (hE:Ns W Av Tv x.s.H.aQ (toP x.s.H)) (hR:W.ownsRow 0 3 1 rv (jK x d.ce d.m).length (aS (jK x d.ce d.m))):Calls aA 34 #[.agg #[Av,Tv],rv] W fun e w'=>∃ v,e = .returned v/\∃ m:Nat->Bool,adx d κ x m/\w'.ownsRow W.heap.size 3 1 v (x.s.H.aQ.filter fun a => !m a).length (aS (x.s.H.aQ.filter fun a => !m a))/\aj aB W w':=by
 obtain ⟨n1,n2,n3,n4,n5,n6⟩:=h.Oo hd
 have hrl:=hd.uq h d.m (aje _)
 have hre:=UO (A:=x.s.H.aQ) (m:=fun _=>false) (toP_le x.s.H)
 refine (aeZ hE hR n3 (fun a ha=>⟨(n4 a ha).1,by have:=(n4 a ha).2;omega⟩) (by omega) (by omega)).mono ?_
 rintro e w' ⟨v,rfl,m,h1,h2,h3⟩
 exact ⟨v,rfl,m,fun a=>(h1 a).trans (abj n5 n6 a),h2,h3⟩
end
end
section
noncomputable def Gm (d:Dm) (κ:Nat) (x:WS) (a:Nat):Bool := @decide ((jd d.m d.b d.ce κ x).lq a) (Classical.propDecidable _)
theorem Dq {d:Dm} {κ:Nat} {x:WS} {a:Nat}:Gm d κ x a=true↔(jd d.m d.b d.ce κ x).lq a := @decide_eq_true_iff _ (Classical.propDecidable _)
theorem WY {d:Dm} {κ:Nat} {x:WS} {m:Nat->Bool} (h:adx d κ x m):m=Gm d κ x:=by
 funext a
 rw [ajO,h a,Dq]
noncomputable def rG (d:Dm) (κ:Nat) (x:WS):List Nat:=x.s.H.aQ.filter (Gm d κ x)
noncomputable def wI (d:Dm) (κ:Nat) (x:WS):List Nat:=x.s.H.aQ.filter fun a => !Gm d κ x a
theorem UQ {α:Type} (p:α->Bool) (l:List α):(l.filter p).length+(l.filter fun a => !p a).length=l.length:=by
 induction l with
 | nil=>rfl
 | cons a l ih =>
   rw [alW,alW]
   cases p a<;>simp<;>omega
section
variable {o:Ow} {w W:World} {G:fU} {gs:List MG} {q:CG} {x x0 z:WS} {mv:Value} {N κ K:Nat} {d:Dm} {out ph:List Nat}
theorem UR (h:CI d w W o G gs q mv N x κ K) (hd:d.Ok) {a:Nat}:a∈wI d κ x↔x.s.H.bn a=true/\¬ (jd d.m d.b d.ce κ x).lq a:=by
 unfold wI
 rw [alO,show (a∈x.s.H.aQ)=(a∈jX x.s.H.bn x.s.H.sz) from rfl,lK]
 have e:(!Gm d κ x a)=true↔¬ (jd d.m d.b d.ce κ x).lq a:=by
  rw [<- Dq]
  cases Gm d κ x a<;>simp
 rw [e]
 exact ⟨fun g=>⟨g.1.2,g.2⟩,fun g=>⟨⟨(h.Oo hd).2.2.2.2.2 a g.1,g.1⟩,g.2⟩⟩
theorem IG (hl:QV (jd d.m d.b d.ce κ x) z):z.s.H.aQ=rG d κ x:=by
 have hs:z.s.H.sz=x.s.H.sz:=by
  unfold HS.sz
  rw [hl.xG.2.1,hl.xG.2.2.1];rfl
 unfold rG HS.aQ jX
 rw [alZ,hs]
 refine ama (fun a _=>?_)
 rw [ajO,Bool.and_eq_true,Dq,hl.bn]
 exact ⟨fun g=>⟨g,g.bn⟩,fun g=>g.1⟩
theorem abm (h:CI d w W o G gs q mv N x κ K) (hd:d.Ok) (hc:Es (jd d.m d.b d.ce κ x) x0 out ph z):out.length=(wI d κ x).length:=by
 have hm:∀ a,a∈out↔a∈wI d κ x:=fun a=>(hc.dd a).trans (UR h hd).symm
 exact Nat.le_antisymm (wB hc.nd (fun a ha=>(hm a).1 ha)) (wB ((h.Oo hd).2.2.1.filter _) (fun a ha=>(hm a).2 ha))
theorem Y1 (hc:Es (jd d.m d.b d.ce κ x) x0 out ph z) {κ':Nat} {x1 z2:WS} {out2 ph2:List Nat} (h2:Es (jd d.m d.b d.ce κ' z) x1 out2 ph2 z2):out2=[]/\z2.s.H.aQ=rG d κ x:=by
 have hr:=hc.left.rch
 constructor
 ·cases out2 with
  | nil=>rfl
  | cons a l =>
    obtain ⟨g1,g2⟩:=(h2.dd a).1 List.mem_cons_self
    exact absurd ((hr κ' a).2 ((hc.bn a).1 g1)) g2
 ·rw [IG h2.left]
  unfold rG
  have e:Gm d κ' z=Gm d κ x:=by
   funext a
   rw [ajO,Dq,Dq]
   exact hr κ' a
  rw [e,IG hc.left]
  unfold rG
  rw [alZ]
  exact ama (fun a _=>by rw [Bool.and_self])
end
end
section
attribute [local go_sem ↓] nD
attribute [local go_sem] Oper.semAt_some
open Go.RowKit
def afa (m:Nat):Value->Nat
 | .slice _ n _=>m - n
 | _=>0
def oN (l:List Nat) (j:Nat):Nat:=(l.drop j).headD 0
theorem vT.at {wd:Nat->Nat}:∀ {l:List Nat} {j:Nat},vT wd l->j<l.length->wd (l.getD j 0)=gI (oN l (j+1))
 | [],_,_,h=>absurd h (by simp)
 | _::_,0,h,_=>h.1
 | _::l,j+1,h,hj=>vT.at (l:=l) (j:=j) h.2 (by simpa using hj)
theorem KD {l:List Nat} {j:Nat} (h:j<l.length):oN l j=l.getD j 0:=by
 unfold oN
 rw [List.drop_eq_getElem_cons h,ajg,ajh h];rfl
theorem Qn (l:List Nat):oN l l.length=0:=by
 unfold oN
 rw [List.drop_length];rfl
theorem eu.Y2 {H:HS} (h:eu H) {k:Nat} (hk:k<4) {j:Nat} (hj:j<(H.row k).length):1<=oN (H.row k) j/\oN (H.row k) j<=H.b*H.ww:=by
 rw [KD hj,ajg,ajh hj]
 obtain ⟨_,B,ho⟩:=h.og k hk _ (aji hj)
 obtain ⟨o1,o2,_⟩:=gB ho
 exact ⟨o1,o2⟩
theorem eu.abn {H:HS} (h:eu H) {k:Nat} (hk:k<4):(H.row k).length<=1048577:=by
 refine ajU (wB (l':=List.range (H.b*H.ww+1)) (h.nodup k hk) (fun a ha=>?_)) (by rw [List.length_range];have:=h.zk;omega)
 obtain ⟨_,B,ho⟩:=h.og k hk a ha
 obtain ⟨_,o2,_⟩:=gB ho
 exact List.mem_range.2 (by omega)
section
variable {w w':World} {D:Nat->Nat} {H:HS}
theorem Y3 {L iR iX aR tR sz:Nat} {In F:List Nat} (h:dN w L iR iX aR tR sz In F) (k:Nat) (hk:k<4):Calls aA 152 #[au L,ah (k:Int)] w fun e w'=>e = .returned (ah ((F.getD k 0:Nat):Int))/\w=w':=by
 have y:=(h.first hk).1
 have HI:=ay (qA (k:Int) w)
 have e:decide ((0:Int)<=k/\(k:Int)<4)=true:=fK (by omega)
 rw [e] at HI
 have QX:(k:Int)<4:=by omega
 have hk0:(0:Int)<=(k:Int):=by omega
 generalize F.getD k 0=f at *
 clear h e
 go_enter func152,ntmps152
 go_wp2_with fail
 refine HI.out.mono ?_
 rintro e w1 ⟨rfl,rfl⟩
 clear HI
 go_wp2_with fail
 go_ret
 exact ⟨rfl,rfl⟩
theorem Y4 (h:aI w D H) (k:Nat) (hk:k<4) (j:Nat) (hj:j<(H.row k).length):Calls aA 153 #[au (D 5),ah ((oN (H.row k) j:Nat):Int)] w fun e w'=>e = .returned (ah ((oN (H.row k) (j+1):Nat):Int))/\aI w' D H/\aj (only (D 1)) w w':=by
 obtain ⟨In,hl,_⟩:=h.lists
 obtain ⟨o1,o2⟩:=h.gU.Y2 hk hj
 have hwd:=(h.gU.chain k hk).at hj
 rw [<- KD hj] at hwd
 have hal:=h.gU.sU
 have hnl:=h.gU.zk
 have hnx:oN (H.row k) (j+1)<=1048576:=by
  by_cases h2:j+1<(H.row k).length
  ·have:=(h.gU.Y2 hk h2).2;omega
  ·have e:j+1=(H.row k).length:=by omega
   rw [e,Qn];omega
 have hw2:H.A.getD (oN (H.row k) j - 1) 0=gI (oN (H.row k) (j+1)):=by
  unfold HS.jf vG at hwd
  rw [aZ o1] at hwd;exact hwd
 have:=RJ hl h.lY (oN (H.row k) j - 1) (oN (H.row k) (j+1)) (by omega) hw2 hnx
 rw [show ((oN (H.row k) j - 1:Nat):Int)+1=((oN (H.row k) j:Nat):Int) by omega] at this
 refine this.mono ?_
 rintro e w' ⟨rfl,h1,h2⟩
 exact ⟨rfl,h.EJ h2 h1,h2⟩
theorem Qo {Ts:List TypeId} {bx N s n:Nat} {W W':World} {v:Value} {xs:List Value} (h:W.ownsRow s 3 1 v n xs) (hk:lZ Ts bx N W W') (hv:∀ b,v.ownBlock=some b->b≠bx/\¬ uU bx W b):W'.ownsRow s 3 1 v n xs/\∀ b,v.ownBlock=some b->b≠bx/\¬ uU bx W' b:=by
 obtain ⟨h0,h1⟩:=h
 rcases h1 with ⟨rfl,h2⟩|⟨g,aO,cur,rfl,h2,h3,h4⟩
 ·exact ⟨⟨h0,.inl ⟨rfl,h2⟩⟩,fun b hb=>by simp [Value.ownBlock] at hb⟩
 ·obtain ⟨g1,g2⟩:=hv g rfl
  have hb:aF W g cur.toList 3:=by unfold aF;rw [h3]
  obtain ⟨g3,g4⟩:=hk.o g _ _ g1 g2 hb
  unfold aF at g3
  refine ⟨⟨h0,.inr ⟨g,aO,cur,rfl,h2,by rw [g3],h4⟩⟩,fun b hb=>?_⟩
  have e:g=b:=by simpa [Value.ownBlock] using hb
  rw [<- e]
  exact ⟨g1,g4⟩
theorem ady {N bx b1 b2:Nat} (h:aI w D H) (k:Nat) (hk:k<4) (hp1:aF w b1 [au (D 5)] 98) (hp2:aF w b2 [ah (k:Int)] 3) (h1:b1≠D 1) (h2:b2≠D 1) (hbx:aF w bx [.slice none 0 0] 32) (hbn:bx≠D 1) (Ts:List TypeId) (m:Nat) :
 Eb (only (D 1)) (fun W=>dY W (D 1) (D 2) H.A) Fence.wide m aA 151 #[au b1,au b2] (H.row k) FW (lZ Ts bx N) w:=by
 intro l J Jx W1 hW hJ hJx hY h0
 have hh:=h.still hW
 have tJ:=ay (h.gU.abn hk)
 obtain ⟨In,hl,_⟩:=hh.lists
 have wU:=ay (Y3 hl k hk)
 rw [show H.F.getD k 0=oN (H.row k) 0 from H.abw h.gU.oP hk] at wU
 have rX:Hid (∀ W j,aI W D H->j<(H.row k).length->Calls aA 153 #[au (D 5),ah ((oN (H.row k) j:Nat):Int)] W fun e w'=>e = .returned (ah ((oN (H.row k) (j+1):Nat):Int))/\aI w' D H/\aj (only (D 1)) W w'):=fun W j hW hj=>Y4 hW k hk j hj
 have zh:Hid (∀ j,j<(H.row k).length->1<=oN (H.row k) j/\(H.row k)[j]?=some (oN (H.row k) j)):=fun j hj=>⟨(h.gU.Y2 hk hj).1,by rw [KD hj,ajg,ajh hj];rfl⟩
 have HEN:=ay (Qn (H.row k))
 have tV:Hid (∀ W,aj (only (D 1)) W1 W->W.cell? ⟨b1,0,none⟩=some (au (D 5))/\W.cell? ⟨b2,0,none⟩=some (ah (k:Int))/\aF W bx [.slice none 0 0] 32):=fun W k=>⟨(k.aH (hW.aH hp1 (fun f=>f)) h1).cell 0 rfl,(k.aH (hW.aH hp2 (fun f=>f)) h2).cell 0 rfl,k.aH (hW.aH hbx (fun f=>f)) hbn⟩
 have HD1:Hid (D 1<W1.heap.size/\bx<W1.heap.size):=⟨by obtain ⟨_,_,q⟩:=hh.lY.aH;exact q.lt,(hW.aH hbx (fun f=>f)).lt⟩
 have TK:=ay hJ
 have H0:=ay h0
 have HY:=ay hY
 have HH:=ay hh
 obtain ⟨q1,q2,_⟩:=tV.out W1 (aj.refl _ _)
 generalize H.row k=row at *
 clear h hp1 hp2 h1 h2 hbx hbn hh hl hW hJ hJx hY h0
 refine callsIn_of_wp func151 rfl trivial ?_ rfl
 simp only [ntmps151,List.size_toArray,List.length_cons,List.length_nil,Nat.reduceAdd,Nat.reduceSub,Array.replicate_succ,Array.replicate_zero,List.push_toArray,List.append_toArray,akr,List.cons_append]
 refine KH ?_
 gi_wp2_with fail
 refine ⟨trivial,fun h=>(by cases h),CallsIn.mono (callsIn_wide.2 wU.out) ?_⟩
 rintro e w1 ⟨rfl,rfl⟩
 have HI0:Hid (W1.ownsRow W1.heap.size 3 1 (.slice none 0 0) (row.take 0).length (aS (row.take 0))/\dY W1 (D 1) (D 2) H.A/\aj (only (D 1)) W1 W1):=⟨⟨rfl,.inl ⟨rfl,rfl⟩⟩,HH.out.lY,aj.refl _ _⟩
 have HD2:Hid (D 2<W1.heap.size):=HH.out.lY.pU.lt
 clear wU q1 q2
 gi_wp2_with fail
 gi_loopw [4,5] (fun ou av wr=>∃ (j:Nat) (ov:Value) (f:Nat),ov=ou/\j<=row.length/\f=oN row j/\av = ah (f:Int)/\wr.ownsRow W1.heap.size 3 1 ov (row.take j).length (aS (row.take j))/\dY wr (D 1) (D 2) H.A/\aj (only (D 1)) W1 wr) (fun ou _ _=>afa row.length ou)
 case atStart=>exact ⟨0,_,_,rfl,aki _,rfl,rfl,HI0.out.1,HI0.out.2.1,HI0.out.2.2⟩
 case round =>
  obtain ⟨j,ov,f,hov,hj,hf,rfl,hown,hA,hk⟩:=hrel
  subst hov
  have ny:Hid ((row.take j).length=j/\∀ i,i<=row.length->(row.take i).length=i):=⟨by rw [alS];omega,fun i hi=>by rw [alS];omega⟩
  obtain ⟨a0,c0,e0,_⟩:=gy (bQ hown (aki _))
  rw [ny.out.1] at e0
  have HE0:=ay e0
  clear e0
  by_cases hlt:j<row.length
  ·obtain ⟨i1,i2⟩:=zh.out j hlt
   rw [<- hf] at i1 i2
   have hf1:((f:Int)==0)=false:=by simp;omega
   have HF:=ay hf
   have HJ2:=ay hlt
   have hs1:W1.heap.size<=wr.heap.size:=hk.size
   have k7:aj aB wr (wr.alloc (.cells #[ah (f:Int)] 3)):=(aj.refl _ _).alloc _
   have ho7:=bY hown k7
   obtain ⟨g,aO,W8,hrun,hown8,hgr,_⟩:=yA ho7 (by simp;omega) (N:=wr.heap.size) ((aF.bC wr [ah (f:Int)] 3).cell 0 rfl) (by rw [ny.out.1];have:=tJ.out;omega)
   have kg:aj (fun i=>ov.ownBlock=some i) (wr.alloc (.cells #[ah (f:Int)] 3)) W8:=⟨hgr.os,hgr.tape,hgr.output,hgr.size,fun k hk n=>hgr.block k hk (fun e=>n e.symm)⟩
   have hno:∀ b,b<W1.heap.size->¬ ov.ownBlock=some b:=fun b hb e=>by have:=(World.ownsRow.lt ho7 b e).1;omega
   have hA8:dY W8 (D 1) (D 2) H.A:=(hA.still k7).aK kg (hno _ HD1.out.1) (hno _ HD2.out)
   have hk8:aj (only (D 1)) W1 W8:=lQ ho7 hgr (hk.trans (k7.mono (fun _ _ f=>f.elim))) (fun b h1 h2=>by omega)
   have qN:Hid (W8.ownsRow W1.heap.size 3 1 (.slice (some ⟨g,0,none⟩) (j+1) aO) (row.take (j+1)).length (aS (row.take (j+1)))/\dY W8 (D 1) (D 2) H.A/\aj (only (D 1)) W1 W8):=by
    have e:row.take (j+1)=row.take j++[f]:=by rw [alU,i2];rfl
    have e2:(row.take j++[f]).length=j+1:=by rw [alm,ny.out.1];rfl
    rw [e2] at hown8
    rw [e,e2]
    exact ⟨hown8,hA8,hk8⟩
   rw [ny.out.1] at hrun
   have hc8:=(tV.out W8 hk8).1
   have HN8:=ay (rX.out W8 j (HH.out.EJ hk8 hA8) hlt)
   rw [<- hf] at HN8
   obtain ⟨nf,hnf⟩:∃ nf,nf=oN row (j+1):=⟨_,rfl⟩
   rw [<- hnf] at HN8
   have HNF:=ay hnf
   clear hf hlt i1 i2 hs1 k7 ho7 hown8 hgr kg hno hA8 hk8 hown hA hk hnf
   gi_wp2_with fail
   refine ⟨trivial,fun h=>(by cases h),CallsIn.mono (callsIn_wide.2 HN8.out) ?_⟩
   rintro e w2 ⟨rfl,h9,k9⟩
   have MZ:Hid (w2.ownsRow W1.heap.size 3 1 (.slice (some ⟨g,0,none⟩) (j+1) aO) (row.take (j+1)).length (aS (row.take (j+1)))/\dY w2 (D 1) (D 2) H.A/\aj (only (D 1)) W1 w2):=⟨gK qN.out.1 k9 (fun B hB e=>by have:=(World.ownsRow.lt qN.out.1 B hB).1;have:=HD1.out.1;have:B=D 1:=e;omega),h9.lY,qN.out.2.2.trans k9⟩
   clear h9 k9 HN8
   gi_wp2_with fail
   go_roundw
   case rel=>exact ⟨j+1,_,nf,rfl,HJ2.out,HNF.out,rfl,MZ.out.1,MZ.out.2.1,MZ.out.2.2⟩
   case measure =>
    rw [HE0.out]
    have:=HJ2.out
    show row.length - (j+1)<row.length - j
    omega
  ·have hje:j=row.length:=by omega
   have hf1:f=0:=by rw [hf,hje];exact HEN.out
   rw [hje,alT] at hown
   rw [hje] at HE0
   subst hf1
   obtain ⟨_,_,hbx⟩:=tV.out wr hk
   have qO:Hid (wr.ownsRow W1.heap.size 3 1 ov row.length (aS row)/\∀ b,ov.ownBlock=some b->b≠bx/\¬ uU bx wr b):=⟨hown,fun b hb=>⟨fun e=>by have:=(World.ownsRow.lt hown b hb).1;have:=HD1.out.2;omega,FX hbx⟩⟩
   have HJ0:=ay (TK.out 0 _ _ H0.out hk (fun _=>hA))
   have he0:=HE0.out
   subst he0
   clear hown hA hk hf hbx hje hlt
   gi_wp2_with fail
   refine wpIn_label ?_
   gi_wp2_with fail
   gi_loopw [7,22] (fun _ iv wr=>∃ j:Nat,j<=row.length/\iv = ah j/\J j wr/\wr.ownsRow W1.heap.size 3 1 (.slice a0 row.length c0) row.length (aS row)/\∀ b,(Value.slice a0 row.length c0).ownBlock=some b->b≠bx/\¬ uU bx wr b) (fun _ iv _=>row.length - (intOf iv).toNat)
   case atStart=>exact ⟨0,aki _,rfl,HJ0.out,qO.out.1,qO.out.2⟩
   case round =>
    obtain ⟨j,hj,rfl,uK,hown,hno⟩:=hrel
    by_cases hlt:j<row.length
    ·obtain ⟨b,rfl,_,_,hcb⟩:=wH hown (qG hlt)
     have lJ:(j:Int)<(row.length:Int):=by omega
     have Jh:(0:Int)<=(j:Int):=by omega
     have hx:row[j]?=some (row.getD j 0):=by rw [ajg,ajh hlt];rfl
     obtain ⟨fn,tmps,assign,body,hy,hR⟩:=HY.out j (row.getD j 0) #[ah ((row.getD j 0:Nat):Int)] wr hx uK rfl
     have HO:=ay (And.intro hown hno)
     have Jv:=ay hlt
     have hwr:IntKind.i64.wrap ((j:Int)+1)=(j:Int)+1:=ajw _ (by have:=tJ.out;omega)
     generalize row.getD j 0=x at *
     clear hown hno hx uK hlt
     gi_wp2_with fail
     refine ⟨fun h=>(by cases h),hR.mono ?_⟩
     rintro e W' (⟨rfl,hJ',hk⟩|⟨rfl,BX⟩)
     ·have uV:=ay (Qo HO.out.1 hk HO.out.2)
      clear hk
      gi_wp2_with fail
      go_roundw
      case rel=>exact ⟨j+1,Jv.out,by go_num,hJ',uV.out.1,uV.out.2⟩
      case measure=>have:=Jv.out;simp [intOf];omega
     ·gi_wp2_with fail
      simp only [Exit.noGoto]
      go_end0
      exact ⟨⟨_,rfl⟩,.inr ⟨j+1,Jv.out,BX⟩⟩
    ·obtain rfl:j=row.length:=by omega
     have lJ:¬ (row.length:Int)<(row.length:Int):=by omega
     have GR:=ay uK
     clear hown hno uK hlt
     gi_wp2_with fail
     go_end0
     exact ⟨⟨_,rfl⟩,.inl GR.out⟩
theorem agN (B:Nat) (k:Int) (w:World):Calls aA 106 #[au B,ah k] w fun e w'=>e = .returned (.func (.func 151) #[] #[au w.heap.size,au (w.heap.size+1)])/\w'=(w.alloc (.cells #[au B] 98)).alloc (.cells #[ah k] 3):=by
 have hmf:∀ (fn:Fn) (first aO:Array Value) (w:World),(Instr.makeFunc fn first aO).run aA w = .ok (.func fn first aO) w:=fun _ _ _ _=>rfl
 go_enter func106,ntmps106
 go_wp2_with fail
 go_ret
 exact ⟨by simp,rfl⟩
theorem Y5 (h:aI w D H) (k:Nat) (hk:k<4):Calls aA 65 #[au (D 0),ah (k:Int)] w fun e w'=>∃ v,e = .returned v/\w'.ownsRow w.heap.size 3 1 v (H.row k).length (aS (H.row k))/\aI w' D H/\aj (only (D 1)) w w':=by
 have c2:=h.aH.cell 2 rfl
 have HD:Hid (∀ i,i<13->D i<w.heap.size):=fun i hi=>by
  rcases Nat.lt_or_ge (D i) w.heap.size with g|g
  ·exact g
  ·exact absurd ⟨i,hi,rfl⟩ (h.Bj g)
 obtain ⟨W,hW⟩:∃ W,W=(w.alloc (.cells #[au (D 5)] 98)).alloc (.cells #[ah (k:Int)] 3):=⟨_,rfl⟩
 have k1:aj aB w W:=by rw [hW];exact ((aj.refl _ _).alloc _).alloc _
 have hp1:aF W w.heap.size [au (D 5)] 98:=by rw [hW];exact (aF.bC w _ _).alloc _
 have hp2:aF W (w.heap.size+1) [ah (k:Int)] 3:=by
  rw [hW]
  have:=aF.bC (w.alloc (.cells #[au (D 5)] 98)) [ah (k:Int)] 3
  simpa using this
 have h1:=HD.out 1 (by decide)
 have h2:=HD.out 2 (by decide)
 have hs1:=k1.size
 have hh:=h.still k1
 have HC:=ay (Ib (only (D 1)) (fun W=>dY W (D 1) (D 2) H.A) 151 #[au w.heap.size,au (w.heap.size+1)] (H.row k) [] (by decide) (by decide) (by have:=h.gU.abn hk;omega) W (fun b e=>by have:b=D 1:=e;omega)
  (fun A C T hT kT hA=>hA.aK kT (fun e=>by have:=hT _ e;omega) (fun e=>by have:=hT _ e;omega)) hh.lY (fun args w=>by simp [callFunc,func151,go_sem];rfl)
  (fun V kV hV=>ady (hh.still kV) k hk (kV.aH hp1 (fun f=>f)) (kV.aH hp2 (fun f=>f)) (by omega) (by omega) hV (by omega) [] 8))
 have iH:Hid (∀ V,aj (only (D 1)) W V->dY V (D 1) (D 2) H.A->aI V D H/\aj (only (D 1)) w V/\w.heap.size<=W.heap.size):=fun V kV hA=>⟨hh.EJ kV hA,(k1.mono (fun _ _ f=>f.elim)).trans kV,hs1⟩
 have AQ:=ay hW
 clear h hW k1 hp1 hp2 h1 h2 hs1 hh HD
 go_enter func65,ntmps65
 go_wp2_with fail
 refine (agN _ _ _).mono ?_
 rintro e w1 ⟨rfl,hw⟩
 obtain rfl:=hw.trans AQ.out.symm
 clear c2 hw
 go_wp2_with fail
 refine HC.out.mono ?_
 rintro e w2 ⟨v,rfl,g1,g2,g3⟩
 have HE:=ay (And.intro g1 (iH.out _ g2 g3))
 clear g1 g2 g3 HC iH
 go_wp2_with fail
 go_ret
 exact ⟨v,rfl,bQ HE.out.1 HE.out.2.2.2,HE.out.2.1,HE.out.2.2.1⟩
end
end
end Go.Proofs.YtanfphjoebobaaaGreatDoor
