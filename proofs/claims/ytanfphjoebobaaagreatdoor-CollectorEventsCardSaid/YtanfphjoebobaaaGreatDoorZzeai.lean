/- Parts of the walk. No conditions. -/
import Derived.Test.YtanfphjoebobaaaGreatDoorZzeah
namespace Go.Proofs.YtanfphjoebobaaaGreatDoor
open _root_.Go.Proofs.Tryz hiding prog
open _root_.Go.Proofs.Tryz renaming prog->ay
set_option maxRecDepth 8000
set_option maxHeartbeats 16000000
section
attribute [local go_sem ↓] jT
attribute [local go_sem] Oper.semAt_some
open Go.RowKit Go.Deep
theorem Tryz.infoBool9:(ay.info? 4).map (fun i=>(i.zero,i.size,i.bytes))=some (some (.bool false),1,1):=by kernel_rfl
structure Ov (w:World) (Av Tv:Value) (A:List Nat) (T:Nat->List Nat):Prop where
 a:w.ownsRow 0 3 1 Av A.length (aG A)
 t:∃ us:List Value,us.length=A.length/\w.ownsRow 0 32 1 Tv A.length us/\∀ (j:Nat) (u:Value),us[j]?=some u->w.ownsRow 0 3 1 u (T (A.getD j 0)).length (aG (T (A.getD j 0)))
section
variable {w w' W W' W0:World} {s N n:Nat} {v Av Tv rv:Value} {l l2 A R:List Nat} {T:Nat->List Nat} {H:HS}
theorem vH.ed (h:vH w s H Av Tv H.objs.length):Ov w Av Tv H.objs (toP H):=by
 obtain ⟨us,h1,h2,h3⟩:=h.t
 refine ⟨?_,us,h1,bD h2 (Nat.zero_le _),fun j u hj=>bD (h3 j u hj).1 (Nat.zero_le _)⟩
 have:=h.a
 rw [List.take_length] at this
 exact bD this (Nat.zero_le _)
theorem Ov.still (h:Ov w Av Tv A T) (k:Keep none_ w w'):Ov w' Av Tv A T:=by
 obtain ⟨us,h1,h2,h3⟩:=h.t
 exact ⟨bV h.a k,us,h1,bV h2 k,fun j u hj=>bV (h3 j u hj) k⟩
theorem EN {e:TypeId} {xs:List Value} {a:Option Addr} {c j:Nat} {u:Value} (h:w.ownsRow s e 1 (.slice a n c) n xs) (hj:xs[j]?=some u):∃ b,a=some ⟨b,0,none⟩/\s<=b/\b<w.heap.size/\w.cell? ⟨b,j,none⟩=some u:=by
 obtain ⟨a',c',e1,_,_,_,hf⟩:=dP (bD h (Nat.zero_le _))
 cases e1
 obtain ⟨b,e2,hc,_⟩:=hf j u hj
 subst e2
 exact ⟨b,rfl,(World.ownsRow.lt h b rfl).1,(World.ownsRow.lt h b rfl).2,hc⟩
theorem tN {j:Nat} (hj:j<l.length):(aG l)[j]?=some (ah ((l.getD j 0:Nat):Int)):=by
 unfold aG
 rw [List.getElem?_map,List.getD_eq_getElem?_getD,List.getElem?_eq_getElem hj];rfl
theorem Ox {A:List Nat} {N i a:Nat} (h:a<N):(pV A N i).getD a 0=qR A i a:=by
 unfold pV
 rw [List.getD_eq_getElem?_getD,List.getElem?_map,List.getElem?_range h];rfl
structure Zq (w W:World) (P Q s:Nat) (A:List Nat) (M:Nat) (m:Nat->Bool) (v:Value) (todo:List Nat):Prop where
 keep:Keep none_ w W
 p:aA W P (aG (pV A (M+1) A.length)) 3
 q:aA W Q (A.map fun a => .bool (m a)) 4
 t:W.ownsRow s 3 1 v todo.length (aG todo)
 sz:s<=W.heap.size
theorem WO (hE:Ov w Av Tv A T) (hR:w.ownsRow 0 3 1 rv R.length (aG R)) (hn:A.Nodup) (hA:∀ a∈A,1<=a/\a<=1000000) (hAl:A.length<=1000000) (hb:mX A T (fun _=>false)+R.length<=1000000) :
 Calls ay 29 #[.agg #[Av,Tv],rv] w fun e w'=>∃ v,e = .returned v/\∃ m:Nat->Bool,(∀ a,m a=true↔ER A T R a)/\w'.ownsRow w.heap.size 3 1 v (A.filter m).length (aG (A.filter m))/\Keep none_ w w':=by
 obtain ⟨aa,ca,rfl,_⟩:=dP (bD hE.a (Nat.zero_le _))
 obtain ⟨us,u1,u2,u3⟩:=hE.t
 obtain ⟨ta,tc,rfl,_⟩:=dP u2
 obtain ⟨ra,rc,rfl,_⟩:=dP hR
 obtain ⟨W0,hW0⟩:∃ W0,W0=w.alloc (.cells #[.slice aa A.length ca,.slice ta A.length tc] 69):=⟨_,rfl⟩
 have k0:Keep none_ w W0:=by rw [hW0];exact (Keep.refl _ _).alloc _
 have hX0:aA W0 w.heap.size [.slice aa A.length ca,.slice ta A.length tc] 69:=by rw [hW0];exact aA.new w _ _
 have YI:Hid (∀ i,i<A.length->∃ b,aa=some ⟨b,0,none⟩/\b<w.heap.size/\∀ W (S:Nat->Prop),Keep S w W->¬ S b->W.cell? ⟨b,i,none⟩=some (ah ((A.getD i 0:Nat):Int))):=fun i hi=>by
  obtain ⟨b,e1,_,hlt,hc⟩:=EN hE.a (tN hi)
  exact ⟨b,e1,hlt,fun W S k hS=>k.jM hc hS⟩
 have JM:Hid (∀ i,i<A.length->∃ b u,ta=some ⟨b,0,none⟩/\(∀ W,Keep none_ w W->W.cell? ⟨b,i,none⟩=some u)/\∃ z zc,u = .slice z (T (A.getD i 0)).length zc/\∀ W,Keep none_ w W->W.ownsRow 0 3 1 u (T (A.getD i 0)).length (aG (T (A.getD i 0)))):=fun i hi=>by
  obtain ⟨u,hu⟩:∃ u,us[i]?=some u:=⟨us[i]'(by omega),List.getElem?_eq_getElem _⟩
  obtain ⟨b,e1,_,hlt,hc⟩:=EN u2 hu
  obtain ⟨z,zc,e2,_⟩:=dP (bD (u3 i u hu) (Nat.zero_le _))
  exact ⟨b,u,e1,fun W k=>k.still hc,z,zc,e2,fun W k=>bV (u3 i u hu) k⟩
 have HRR:Hid (∀ W,Keep none_ w W->W.ownsRow 0 3 1 (.slice ra R.length rc) R.length (aG R)):=fun W k=>bV hR k
 have YJ:Hid (∀ i,i<A.length->tK (A.take (i+1))=max (tK (A.take i)) (A.getD i 0)):=fun i hi=>by
  rw [List.take_add_one,List.getD_eq_getElem?_getD,List.getElem?_eq_getElem hi]
  exact WH _ _
 have HT6:Hid (∀ i,tK (A.take i)<=1000000):=fun i=>QF (fun a ha=>(hA a (List.mem_of_mem_take ha)).2)
 obtain ⟨M,hM⟩:∃ M,M=tK A:=⟨_,rfl⟩
 have HM:Hid (M=tK A/\M<=1000000/\∀ a∈A,1<=a/\a<=M):=⟨hM,by rw [hM];exact QF (fun a ha=>(hA a ha).2),fun a ha=>⟨(hA a ha).1,by rw [hM];exact aaw ha⟩⟩
 have DZ:=au hn
 have uw:=au hb
 obtain ⟨n,hn1⟩:∃ n,n=A.length:=⟨_,rfl⟩
 have HN:Hid (A.length=n):=hn1.symm
 have I9:(n:Int)<=1000000:=by omega
 rw [<- hn1] at YI JM YJ hX0 hW0
 have HAC:=YI
 have Ic:=YI
 have HX:Hid (∀ W,Keep none_ W0 W->W.cell? ⟨w.heap.size,0,none⟩=some (.slice aa n ca)/\W.cell? ⟨w.heap.size,1,none⟩=some (.slice ta n tc)):=fun W k=>⟨k.still (hX0.cell 0 rfl),k.still (hX0.cell 1 rfl)⟩
 have Qi:Hid (w.heap.size<W0.heap.size):=hX0.lt
 have dN:=au k0
 have HW0:=au hW0
 have aeB:∀ w:World,(Instr.makeSlice 32 (ah ((M:Int)+1)) (ah ((M:Int)+1))).run ay w = .ok (.slice (some ⟨w.heap.size,0,none⟩) (M+1) (M+1)) (w.alloc (.cells (zeros (ah 0) (M+1)).toArray 3)):=fun w=>run_mk (P:=ay) (by kernel_rfl) Tryz.infoInt rfl (by decide) (M+1) (by have:=HM.out.2.1;omega) _ (by omega) w
 have aeC:∀ w:World,(Instr.makeSlice 111 (ah (n:Int)) (ah (n:Int))).run ay w = .ok (.slice (some ⟨w.heap.size,0,none⟩) n n) (w.alloc (.cells (zeros (.bool false) n).toArray 4)):=fun w=>run_mk (P:=ay) (by kernel_rfl) Tryz.infoBool9 rfl (by decide) n (by omega) _ rfl w
 rw [<- hn1]
 have hMI:(M:Int)<=1000000:=by have:=HM.out.2.1;omega
 clear hE u1 u2 u3 hR hn hA hAl hb k0 hX0 hM hn1 hW0
 go_enter func29,ntmps29
 go_wp2_with fail
 rw [<- HW0.out]
 go_loopw [5,6] (fun tv iv wr=>∃ i:Nat,i<=n/\iv = ah i/\tv = ah (tK (A.take i):Nat)/\Keep none_ W0 wr) (fun _ iv _=>n - (intOf iv).toNat)
 case atStart=>exact ⟨0,Nat.zero_le _,rfl,rfl,Keep.refl _ _⟩
 case round =>
  obtain ⟨i,hi,rfl,rfl,hk⟩:=hrel
  have HK:=au hk
  obtain ⟨x0,x1⟩:=HX.out _ hk
  by_cases hlt:i<n
  ·have oV:(i:Int)<(n:Int):=by omega
   have hi0:(0:Int)<=(i:Int):=by omega
   obtain ⟨b,rfl,_,hc⟩:=HAC.out i hlt
   have hc0:=hc _ none_ (dN.out.trans hk) (fun f=>f)
   have HTP:=au (YJ.out i hlt)
   obtain ⟨t1,ht1⟩:∃ t1,t1=tK (A.take i):=⟨_,rfl⟩
   obtain ⟨t2,ht2⟩:∃ t2,t2=tK (A.take (i+1)):=⟨_,rfl⟩
   rw [<- ht1,<- ht2] at HTP
   rw [<- ht1]
   have HT2:=au ht2
   have hmx:max (t1:Int) ((A.getD i 0:Nat):Int)=(t2:Int):=by rw [HTP.out];omega
   generalize A.getD i 0=a at *
   clear hk hc ht1 ht2 HTP x1
   go_wp2_with fail
   exact ⟨⟨i+1,by omega,by go_num,by rw [HT2.out],HK.out⟩,by simp [intOf];omega⟩
  ·obtain rfl:i=n:=by omega
   have oV:¬ (i:Int)<(i:Int):=by omega
   have htk:A.take i=A:=by rw [<- HN.out];exact List.take_length
   rw [htk,<- HM.out.1]
   have hP:=aA.new wr (zeros (ah 0) (M+1)) 3
   have hkP:Keep none_ W0 (wr.alloc (.cells (zeros (ah 0) (M+1)).toArray 3)):=hk.alloc _
   obtain ⟨W1,hW1⟩:∃ W1,W1=wr.alloc (.cells (zeros (ah 0) (M+1)).toArray 3):=⟨_,rfl⟩
   rw [<- hW1] at hP hkP
   have qw:Hid (aA W1 wr.heap.size (aG (pV A (M+1) 0)) 3):=by
    have e:aG (pV A (M+1) 0)=zeros (ah 0) (M+1):=by
     rw [WI]
     unfold aG zeros
     rw [List.map_replicate];rfl
    rw [e];exact hP
   have HKP:=au hkP
   obtain ⟨P,WQ⟩:∃ P,P=wr.heap.size:=⟨_,rfl⟩
   have Ir:Hid (W0.heap.size<=P/\P<W1.heap.size):=⟨by rw [WQ];exact hk.size,by rw [WQ];exact hP.lt⟩
   rw [<- WQ] at qw
   have HPE:=au WQ
   have HW1:=au hW1
   clear hk hP hkP WQ hW1 HK YJ HT6 htk
   go_wp2_with fail
   rw [<- HW1.out,<- HPE.out]
   clear x0 x1
   go_loopw [8] (fun iv wr=>∃ j:Nat,j<=i/\iv = ah j/\aA wr P (aG (pV A (M+1) j)) 3/\Keep (only P) W1 wr) (fun iv _=>i - (intOf iv).toNat)
   case atStart=>exact ⟨0,Nat.zero_le _,rfl,qw.out,Keep.refl _ _⟩
   case round =>
    obtain ⟨j,hj,rfl,hp,hk⟩:=hrel
    have HK:=au hk
    have hkW:Keep none_ W0 wr:=HKP.out.QH hk Ir.out.1
    obtain ⟨x0,x1⟩:=HX.out _ hkW
    by_cases hlt:j<i
    ·have acW:(j:Int)<(i:Int):=by omega
     have hj0:(0:Int)<=(j:Int):=by omega
     obtain ⟨b,rfl,hbl,hc⟩:=HAC.out j hlt
     have hc0:=hc _ none_ (dN.out.trans hkW) (fun f=>f)
     have Zr:j<A.length:=by rw [HN.out];exact hlt
     have hmem:A.getD j 0∈A:=by rw [List.getD_eq_getElem?_getD,List.getElem?_eq_getElem Zr];exact List.getElem_mem _
     have hbd:=HM.out.2.2 _ hmem
     have hpc:=hp.cell (A.getD j 0) (tN (by rw [xk];omega))
     have hpf:=hp.free (A.getD j 0)
     have hset:aA (wr.setCell ⟨P,A.getD j 0,none⟩ (ah ((j:Int)+1))) P (aG (pV A (M+1) (j+1))) 3:=by
      have h9:=hp.set (A.getD j 0) (ah ((j:Int)+1))
      have e:(aG (pV A (M+1) j)).set (A.getD j 0) (ah ((j:Int)+1))=aG (pV A (M+1) (j+1)):=by
       rw [WJ DZ.out Zr]
       unfold aG
       rw [List.map_set,show A[j]=A.getD j 0 by rw [List.getD_eq_getElem?_getD,List.getElem?_eq_getElem Zr];rfl]
       simp
      rw [e] at h9
      exact h9
     have HS:=au (And.intro hset (hk.put (A.getD j 0) (ah ((j:Int)+1))))
     obtain ⟨a,ha⟩:∃ a,a=A.getD j 0:=⟨_,rfl⟩
     rw [<- ha] at hc0 hbd hpc hpf HS
     have haI:(a:Int)<(M:Int)+1:=by omega
     have ha0:(0:Int)<=(a:Int):=by omega
     generalize (pV A (M+1) j).getD a 0=z at *
     clear hp hk hkW hbl hc Zr hmem hset ha hbd x1
     go_wp2_with fail
     exact ⟨⟨j+1,by omega,by go_num,HS.out.1,HS.out.2⟩,by simp [intOf];omega⟩
    ·obtain rfl:j=i:=by omega
     have acW:¬ (j:Int)<(j:Int):=by omega
     obtain ⟨W2,hW2⟩:∃ W2,W2=wr.alloc (.cells (zeros (.bool false) j).toArray 4):=⟨_,rfl⟩
     have k2:Keep none_ wr W2:=by rw [hW2];exact (Keep.refl _ _).alloc _
     have hQ2:aA W2 wr.heap.size (zeros (.bool false) j) 4:=by rw [hW2];exact aA.new wr _ _
     obtain ⟨W3,hW3⟩:∃ W3,W3=W2.alloc (.cells #[] 3):=⟨_,rfl⟩
     have k3:Keep none_ W2 W3:=by rw [hW3];exact (Keep.refl _ _).alloc _
     have ho3:W3.ownsRow W2.heap.size 3 1 (.slice (some ⟨W2.heap.size,0,none⟩) 0 0) ([]:List Nat).length (aG []):=by
      rw [hW3];exact World.ownsRow_made W2 #[] 0 (Nat.le_refl _) (by decide) rfl
     have acr:Keep none_ w W3:=dN.out.trans ((hkW.trans k2).trans k3)
     obtain ⟨v4,W4,hrun,ho4,hgr⟩:=EM (l:=[]) ho3 k3.size (HRR.out _ acr) (by have:=uw.out;simp;omega)
     rw [List.nil_append] at ho4
     have k4:Keep none_ W2 W4:=lV ho3 hgr k3 (fun b h1 h2=>by omega)
     have HI4:Hid (Zq W0 W4 P wr.heap.size W2.heap.size A M (fun _=>false) v4 R):=by
      refine ⟨(hkW.trans k2).trans k4,?_,?_,ho4,k4.size⟩
      ·rw [HN.out]
       exact k4.blk (k2.blk hp (fun f=>f)) (fun f=>f)
      ·have e:(A.map fun _=>Value.bool false)=zeros (.bool false) j:=by
        rw [List.map_const']
        unfold zeros
        rw [HN.out]
       rw [e]
       exact k4.blk hQ2 (fun f=>f)
     obtain ⟨Q,WR⟩:∃ Q,Q=wr.heap.size:=⟨_,rfl⟩
     obtain ⟨s,hse⟩:∃ s,s=W2.heap.size:=⟨_,rfl⟩
     have HQL:Hid (P<Q/\Q<s/\w.heap.size<=P/\w.heap.size<W0.heap.size/\W0.heap.size<=P):=by
      refine ⟨?_,by rw [WR,hse];exact hQ2.lt,?_,Qi.out,Ir.out.1⟩
      ·rw [WR];exact Nat.lt_of_lt_of_le Ir.out.2 HK.out.size
      ·exact Nat.le_trans dN.out.size Ir.out.1
     rw [<- WR,<- hse] at HI4
     have HQE:=au WR
     rw [hW3,<- hse,hW2] at hrun
     have HSE:Hid (s=wr.heap.size+1):=by show s=_;rw [hse,hW2];simp
     rw [HSE.out] at hrun
     clear hp hk hkW k2 hQ2 k3 ho3 acr ho4 hgr k4 WR hse hW3 hW2 qw HAC
     go_wp2_with fail
     rw [<- HQE.out]
     obtain ⟨g0,hg0⟩:∃ g0,g0=R.length+mX A T (fun _=>false):=⟨_,rfl⟩
     have Aj:=au hg0
     have EO:Hid (xq A T R (fun _=>false) R):=xq.first
     clear hg0
     go_loopg [10,11] g0 (fun g tv _ wr=>∃ (m:Nat->Bool) (todo:List Nat),todo.length+mX A T m<=g/\g<=1000000/\xq A T R m todo/\Zq W0 wr P Q s A M m tv todo)
     case atStart =>
      have:=uw.out
      exact ⟨_,R,by rw [Aj.out];exact Nat.le_refl _,by rw [Aj.out];omega,EO.out,HI4.out⟩
     case round =>
      obtain ⟨m,todo,hg,hg6,hw,hr⟩:=hrel
      rcases List.eq_nil_or_concat todo with rfl|⟨ys,a,e⟩
      ·
       obtain ⟨za,zc,rfl,_⟩:=dP (bD hr.t (Nat.zero_le _))
       have HER:Hid (∀ a,m a=true↔ER A T R a):=hw.done
       have HR4:=au hr
       clear hg hg6 hw hr HI4 Aj EO uw HRR JM
       go_wp2_with fail
       have xP:=au HR4.out.sz
       generalize wr=Wo at *
       go_loopw [12,13] (fun ou iv wr=>∃ (i:Nat) (ov:Value),ov=ou/\i<=j/\iv = ah i/\wr.ownsRow Wo.heap.size 3 1 ov ((A.take i).filter m).length (aG ((A.take i).filter m))/\Keep none_ Wo wr) (fun _ iv _=>j - (intOf iv).toNat)
       case atStart=>exact ⟨0,_,rfl,Nat.zero_le _,rfl,⟨rfl,.inl ⟨rfl,rfl⟩⟩,Keep.refl _ _⟩
       case round =>
        obtain ⟨i,ov,hov,hi,rfl,ho,hk⟩:=hrel
        subst hov
        have hkW:=HR4.out.keep.trans hk
        obtain ⟨x0,x1⟩:=HX.out _ hkW
        by_cases hlt:i<j
        ·have acX:(i:Int)<(j:Int):=by omega
         have hi0:(0:Int)<=(i:Int):=by omega
         have hiA:i<A.length:=by rw [HN.out];exact hlt
         have hgi:A[i]?=some (A.getD i 0):=by rw [List.getD_eq_getElem?_getD,List.getElem?_eq_getElem hiA];rfl
         have hqc:=(hk.blk HR4.out.q (fun f=>f)).cell i (v := .bool (m (A.getD i 0))) (by rw [List.getElem?_map,hgi];rfl)
         obtain ⟨b,rfl,hbl,hc⟩:=Ic.out i hlt
         have hc0:=hc _ none_ (dN.out.trans hkW) (fun f=>f)
         have Qg:Hid ((A.take (i+1)).filter m=(A.take i).filter m++if m (A.getD i 0) then [A.getD i 0] else []):=by
          show _=_
          rw [List.take_add_one,hgi,List.filter_append]
          congr 1
          show List.filter m [A.getD i 0]=_
          rw [List.filter_cons];rfl
         have HFL:Hid (((A.take i).filter m).length<=1000000):=by
          have h1:=List.length_filter_le m (A.take i)
          have h2:(A.take i).length<=A.length:=by rw [List.length_take];omega
          rw [HN.out] at h2
          show _<=_;omega
         have HO:=au ho
         have HK:=au hk
         generalize hmx:m (A.getD i 0)=mx at *
         obtain ⟨a,ha⟩:∃ a,a=A.getD i 0:=⟨_,rfl⟩
         rw [<- ha] at hc0 Qg
         cases mx with
         | false =>
           have Dk:Hid (wr.ownsRow Wo.heap.size 3 1 ov ((A.take (i+1)).filter m).length (aG ((A.take (i+1)).filter m))):=by
            rw [Qg.out,if_neg (by decide),List.append_nil];exact HO.out
           clear ho hk hkW x1 hiA hgi hbl hc hmx ha
           go_wp2_with fail
           exact ⟨⟨i+1,_,rfl,by omega,by go_num,Dk.out,HK.out⟩,by simp [intOf];omega⟩
         | true =>
           have k7:Keep none_ wr (wr.alloc (.cells #[ah (a:Int)] 3)):=(Keep.refl _ _).alloc _
           have ho7:=bV ho k7
           obtain ⟨g,cap,W8,hrun,hown8,hgr,_⟩:=wo ho7 (by have:=hk.size;simp;omega) (N:=wr.heap.size) ((aA.new wr [ah (a:Int)] 3).cell 0 rfl) (by have:=HFL.out;omega)
           have lU:Hid (W8.ownsRow Wo.heap.size 3 1 (.slice (some ⟨g,0,none⟩) (((A.take i).filter m).length+1) cap) ((A.take (i+1)).filter m).length (aG ((A.take (i+1)).filter m))/\Keep none_ Wo W8):=by
            rw [Qg.out,if_pos rfl]
            refine ⟨?_,lV ho7 hgr (hk.trans k7) (fun b h1 h2=>by omega)⟩
            have e:((A.take i).filter m).length+1=((A.take i).filter m++[a]).length:=by simp
            rw [e]
            exact hown8
           clear ho hk hkW x1 hiA hgi hbl hc hmx ha k7 ho7 hown8 hgr
           go_wp2_with fail
           exact ⟨⟨i+1,_,rfl,by omega,by go_num,lU.out.1,lU.out.2⟩,by simp [intOf];omega⟩
        ·obtain rfl:i=j:=by omega
         have acX:¬ (i:Int)<(i:Int):=by omega
         have htk:A.take i=A:=by rw [<- HN.out];exact List.take_length
         rw [htk] at ho
         have hsw:w.heap.size<=Wo.heap.size:=Nat.le_trans dN.out.size HR4.out.keep.size
         have HE:Hid (wr.ownsRow w.heap.size 3 1 ov (A.filter m).length (aG (A.filter m))/\Keep none_ w wr):=⟨bD ho hsw,dN.out.trans hkW⟩
         clear ho hk hkW x1 htk hsw
         go_wp2_with fail
         go_ret
         exact ⟨_,rfl,m,HER.out,HE.out.1,HE.out.2⟩
      ·rw [List.concat_eq_append] at e
       subst e
       obtain ⟨k,hk⟩:∃ k,k=ys.length:=⟨_,rfl⟩
       have hl1:(ys++[a]).length=k+1:=by simp [hk]
       have hrt:=hr.t
       rw [hl1] at hrt hg
       obtain ⟨za,c,rfl,_⟩:=dP (bD hrt (Nat.zero_le _))
       obtain ⟨b,e1,hb1,hb2,hca⟩:=EN hrt (j:=k) (u := ah (a:Int)) (by rw [zZ,List.getElem?_append_right (by rw [qU];omega),qU,<- hk,Nat.sub_self];rfl)
       subst e1
       rw [zZ] at hrt
       have hcap:k+1<=c:=by
        rcases hrt.2 with ⟨e2,_⟩|⟨g',cap',cur,e2,_,_,h6,_⟩
        ·cases e2
        ·cases e2;exact h6
       have hinit:wr.ownsRow s 3 1 (.slice (some ⟨b,0,none⟩) k c) k (aG ys):=LZ hrt
       have hk6:k+1<=1000000:=by omega
       have hw1:IntKind.i64.wrap ((k:Int)+1 - 1)=(k:Int):=by rw [show (k:Int)+1 - 1=(k:Int) by omega];exact IntWalk.i64_in _ (by omega)
       have hsl:∀ W:World,(Instr.slice 32 (.slice (some ⟨b,0,none⟩) (k+1) c) none (some (ah (k:Int))) none).run ay W = .ok (.slice (some ⟨b,0,none⟩) k c) W:=fun W=>by
        have ht:ay.underlying 32=some (.slice 3):=by kernel_rfl
        have hi:(ay.info? 3).map (·.size)=some 1:=by kernel_rfl
        obtain ⟨i,hi1,hi2⟩:=Option.map_eq_some_iff.1 hi
        have h1:¬ c<k:=by omega
        simp [Instr.slice,run_underlying ht,sizeOf,typeInfo,hi1,hi2,go_sem,h1,Addr.add]
       have hk0:(0:Int)<=(k:Int):=by omega
       have PI:(k:Int)<(k:Int)+1:=by omega
       have hkp:(0:Int)<(k:Int)+1:=by omega
       have hkN:k<k+1:=Nat.lt_succ_self k
       have JO:(a∈A->m a=true)->Hid (xq A T R m ys/\Zq W0 wr P Q s A M m (.slice (some ⟨b,0,none⟩) k c) ys):=fun h=>⟨hw.skip h,hr.keep,hr.p,hr.q,by rw [<- hk];exact hinit,hr.sz⟩
       have hg1:k+mX A T m<=gk - 1/\gk - 1<=1000000/\gk - 1<gk:=by omega
       have yg:=au hg1
       have hyl:ys.length=k:=hk.symm
       have hx:=HX.out _ hr.keep
       have WT:=au hr
       have Ak:=au hw
       have WU:=au hinit
       have HB1:=au (And.intro hb1 hb2)
       have DX:=au hyl
       by_cases ha1:1<=a/\a<=M
       ·have hpn:=hr.p.cell a (tN (by rw [xk];omega))
        rw [Ox (by omega),HN.out] at hpn
        have haI:(a:Int)<(M:Int)+1:=by omega
        have ha0:(0:Int)<=(a:Int):=by omega
        have hc1:¬ (a:Int)<1:=by omega
        have hc2:¬ (M:Int)<(a:Int):=by omega
        have hd1:decide ((a:Int)<1)=false:=decide_eq_false hc1
        have hd2:decide ((M:Int)<(a:Int))=false:=decide_eq_false hc2
        by_cases hp0:qR A j a=0
        ·rw [hp0] at hpn
         have HS:=JO (fun hm=>absurd hp0 (by rw [<- HN.out];exact Oi.2 hm))
         clear hg hg6 hw hr hrt hl1 hb1 hb2 hcap hinit JO hg1 hyl hx HI4 Aj EO uw HRR hk JM Ic hp0 ha1 WT Ak WU HB1
         go_wp2_with fail
         go_roundg (gk - 1)
         case measure=>exact yg.out.2.2
         case rel=>exact ⟨m,ys,by rw [DX.out];exact yg.out.1,yg.out.2.1,HS.out.1,HS.out.2⟩
        ·obtain ⟨q,hq⟩:∃ q,qR A j a=q+1:=⟨qR A j a - 1,by omega⟩
         have WV:a∈A:=Oi.1 (by rw [HN.out];exact hp0)
         obtain ⟨Oy,WW,_⟩:=aax WV
         simp only [HN.out,hq,Nat.add_sub_cancel] at Oy WW
         have hqj:q<j:=Oy
         have Oy:q<A.length:=by rw [HN.out];exact hqj
         have hgq:A[q]?=some a:=by rw [List.getElem?_eq_getElem Oy,WW]
         have hqc:=hr.q.cell q (v := .bool (m a)) (by rw [List.getElem?_map,hgq];rfl)
         have hqf:=hr.q.free q
         rw [hq,show (((q+1:Nat)):Int)=(q:Int)+1 from by push_cast;rfl] at hpn
         have hw2:IntKind.i64.wrap ((q:Int)+1 - 1)=(q:Int):=by rw [show (q:Int)+1 - 1=(q:Int) by omega];exact IntWalk.i64_in _ (by omega)
         have hd3:(((q:Int)+1)==0)=false:=by simp;omega
         have hd4:decide ((q:Int)+1=0)=false:=decide_eq_false (by omega)
         have hd5:¬ ((q:Int)+1=0):=by omega
         have hq0:(0:Int)<=(q:Int):=by omega
         have Jb:(q:Int)<(j:Int):=by omega
         cases hma:m a with
         | true =>
           rw [hma] at hqc
           have HS:=JO (fun _=>hma)
           clear hg hg6 hw hr hrt hl1 hb1 hb2 hcap hinit JO hg1 hyl hx HI4 Aj EO uw HRR hk JM Ic hp0 ha1 WT Ak WU HB1 hq WV Oy WW hqj hgq hma
           go_wp2_with fail
           go_roundg (gk - 1)
           case measure=>exact yg.out.2.2
           case rel=>exact ⟨m,ys,by rw [DX.out];exact yg.out.1,yg.out.2.1,HS.out.1,HS.out.2⟩
         | false =>
           rw [hma] at hqc
           obtain ⟨W5,jX⟩:∃ W5,W5=wr.setCell ⟨Q,q,none⟩ (.bool true):=⟨_,rfl⟩
           have k5:Keep (only Q) wr W5:=by rw [jX];exact (Keep.refl _ _).put _ _
           have hq5:aA W5 Q (A.map fun x => .bool (upd m a true x)) 4:=by
            have h9:=hr.q.set q (.bool true)
            have e:(A.map fun x=>Value.bool (m x)).set q (.bool true)=A.map fun x=>Value.bool (upd m a true x):=by
             have h8:=aay DZ.out (m:=m) Oy
             rw [WW] at h8
             have e1:∀ f:Nat->Bool,(A.map fun x=>Value.bool (f x))=(A.map f).map Value.bool:=fun f=>by rw [List.map_map];rfl
             rw [e1,e1,h8,List.map_set]
            rw [e,<- jX] at h9
            exact h9
           have oh:=HQL.out
           have hk05:Keep none_ W0 W5:=hr.keep.QH k5 (by omega)
           obtain ⟨x50,x51⟩:=HX.out _ hk05
           have hp5:=k5.blk hr.p (fun e=>by unfold only at e;omega)
           have pn5:=hp5.cell a (tN (by rw [xk];omega))
           rw [Ox (by omega),HN.out,hq,show (((q+1:Nat)):Int)=(q:Int)+1 from by push_cast;rfl] at pn5
           obtain ⟨bT,u,rfl,hu1,z,zc,rfl,hu2⟩:=JM.out q hqj
           have hgd:A.getD q 0=a:=by rw [List.getD_eq_getElem?_getD,hgq];rfl
           rw [hgd] at hu1 hu2
           have hu5:=hu1 _ (dN.out.trans hk05)
           have hin5:W5.ownsRow s 3 1 (.slice (some ⟨b,0,none⟩) k c) ys.length (aG ys):=by rw [hyl];exact dY hinit k5 (fun b' hb' e=>by have:=(World.ownsRow.lt hinit b' hb').1;unfold only at e;omega)
           have kd:Keep none_ W5 W5.drew:=(Keep.refl _ _).drew
           have hru:=JK A m a WV DZ.out (T:=T) hma
           have hs5:s<=W5.heap.size:=Nat.le_trans hr.sz k5.size
           obtain ⟨v7,W7,hrun,ho7,hgr⟩:=EM (bV hin5 kd) (Nat.le_trans hs5 kd.size) (hu2 _ (dN.out.trans (hk05.trans kd))) (by omega)
           have kg:Keep (fun b=>s<=b) W5 W7:=lV (bV hin5 kd) hgr (kd.mono (fun _ _ f=>f.elim)) (fun b h1 _=>h1)
           have HS:Hid ((ys++T a).length+mX A T (upd m a true)<=gk - 1/\xq A T R (upd m a true) (ys++T a)/\Zq W0 W7 P Q s A M (upd m a true) v7 (ys++T a)):=by
            refine ⟨by rw [List.length_append];omega,hw.take WV,?_,kg.blk hp5 (fun hh=>by have:s<=P:=hh;omega),kg.blk hq5 (fun hh=>by have:s<=Q:=hh;omega),ho7,Nat.le_trans hs5 kg.size⟩
            exact hk05.trans' kg (fun b hb hh=>by have:s<=b:=hh;have:=hr.keep.size;omega)
           rw [jX] at x50 x51 pn5 hu5 hrun
           clear hg hg6 hw hr hrt hl1 hb1 hb2 hcap hinit JO hg1 hyl hx HI4 Aj EO uw HRR hk JM Ic hp0 ha1 WT Ak WU HB1 hq WV Oy WW hgq hma k5 hq5 oh hk05 hp5 hu1 hu2 hgd hin5 kd hru hs5 ho7 hgr kg jX
           go_wp2_with fail
           go_region
           go_wp2_with fail
           go_roundg (gk - 1)
           case measure=>exact yg.out.2.2
           case rel=>exact ⟨upd m a true,ys++T a,HS.out.1,yg.out.2.1,HS.out.2.1,HS.out.2.2⟩
       ·have HS:=JO (fun hm=>absurd (HM.out.2.2 a hm) ha1)
        by_cases ha0:a=0
        ·subst ha0
         clear hg hg6 hw hr hrt hl1 hb1 hb2 hcap hinit JO hg1 hyl hx HI4 Aj EO uw HRR hk JM Ic ha1 WT Ak WU HB1
         go_wp2_with fail
         go_roundg (gk - 1)
         case measure=>exact yg.out.2.2
         case rel=>exact ⟨m,ys,by rw [DX.out];exact yg.out.1,yg.out.2.1,HS.out.1,HS.out.2⟩
        ·have hc1:¬ (a:Int)<1:=by omega
         have hc2:(M:Int)<(a:Int):=by omega
         have hd1:decide ((a:Int)<1)=false:=decide_eq_false hc1
         clear hg hg6 hw hr hrt hl1 hb1 hb2 hcap hinit JO hg1 hyl hx HI4 Aj EO uw HRR hk JM Ic ha1 ha0 WT Ak WU HB1
         go_wp2_with fail
         go_roundg (gk - 1)
         case measure=>exact yg.out.2.2
         case rel=>exact ⟨m,ys,by rw [DX.out];exact yg.out.1,yg.out.2.1,HS.out.1,HS.out.2⟩
end
end
section
attribute [local go_sem] Oper.semAt_some
open Go.RowKit
theorem Ie:∀ args w,(callFunc 84 args).run ay w = .ok (.enter 84 args) w:=fun args w=>by simp [callFunc,func84,go_sem];rfl
theorem WX (K fn:Nat) (caps:Array Value) (hcf:∀ args w,(callFunc fn args).run ay w = .ok (.enter fn args) w) (w:World) (R:Value->World->Prop) (h:Calls ay fn caps w fun e w'=>∃ b,e = .returned b/\R b w') :
 Calls ay 83 #[aj K,.func (.func fn) #[] caps] w fun e w'=>∃ b,e = .returned b/\R b w':=by
 have H:=au h
 clear h
 go_enter func83,ntmps83
 go_wp2_with fail
 refine H.out.mono ?_
 rintro e w1 ⟨b,rfl,hr⟩
 have HR:=au hr
 clear hr H
 go_wp2_with fail
 go_ret
 exact ⟨b,rfl,HR.out⟩
section
variable {o:Ow} {w w':World} {G:Geo} {q:CG} {s:Sh} {c:CS} {K room:Nat} {ov:Bool} {l:List Nat}
theorem PD (h:fZ o w K room ov l) (b:Nat) (hb:aA w b [aj K] 86) (hl:l.length<=1000000):Calls ay 84 #[aj b] w fun e w'=>∃ v,e = .returned v/\w'.ownsRow w.heap.size 3 1 v l.length (aG l)/\Keep none_ w w':=by
 obtain ⟨v,h1,h2,_⟩:=h
 obtain ⟨a,cap,rfl,hll,hnc,hnil,hc⟩:=dP h2
 have y0:=h1.cell 0 rfl
 have z0:=hb.cell 0 rfl
 have HC:=au (rP a l.length cap (aG l) w ⟨by simp [aG],fun h0=>by
  obtain ⟨g,e,_⟩:=hc 0 _ (tN h0)
  refine ⟨g,0,e,fun j u hj=>?_⟩
  obtain ⟨g',e',hcc,_⟩:=hc j u hj
  rw [e] at e'
  cases e'
  rw [Nat.zero_add]
  exact hcc⟩ hnil (by omega) (fun u hu=>Ol hu))
 generalize aG l=vs at *
 generalize l.length=n at *
 clear hb h1 h2 hll hnc hnil hc
 go_enter func84,ntmps84
 go_wp2_with fail
 refine HC.out.mono ?_
 rintro e w1 ⟨v,rfl,g1,k1⟩
 have HE:=au (And.intro g1 k1)
 clear g1 k1 HC
 go_wp2_with fail
 go_ret
 exact ⟨_,rfl,HE.out.1,HE.out.2⟩
theorem TW (h:fZ o w K room ov l) (hl:l.length<=1000000):Calls ay 45 #[aj K] w fun e w'=>∃ v,e = .returned v/\w'.ownsRow w.heap.size 3 1 v l.length (aG l)/\Keep none_ w w':=by
 obtain ⟨W0,hW0⟩:∃ W',W'=w.alloc (.cells #[aj K] 86):=⟨_,rfl⟩
 have hk:Keep none_ w W0:=by rw [hW0];exact (Keep.refl _ _).alloc _
 have hb:aA W0 w.heap.size [aj K] 86:=by rw [hW0];exact aA.new w _ _
 have HC:=au (WX K 84 #[aj w.heap.size] Ie W0 (fun v w'=>w'.ownsRow w.heap.size 3 1 v l.length (aG l)/\Keep none_ w w') ((PD (h.still hk) w.heap.size hb hl).mono (fun e w' ⟨v,h1,h2,h3⟩=>⟨v,h1,bD h2 hk.size,hk.trans h3⟩)))
 have HW:=au hW0
 have z0:=hb.cell 0 rfl
 have hmf:=jc
 generalize aG l=vs at *
 generalize l.length=n at *
 clear h hk hb hW0
 go_enter func45,ntmps45
 go_wp2_with fail
 rw [<- HW.out]
 go_wp2_with fail
 refine HC.out.mono ?_
 rintro e w1 ⟨v,rfl,g1,k1⟩
 have HE:=au (And.intro g1 k1)
 clear g1 k1 HC
 go_wp2_with fail
 go_ret
 exact ⟨_,rfl,HE.out.1,HE.out.2⟩
theorem TY (h:gG o w G q s c) (h0:c.stk=[]):Calls ay 21 #[aj q.C] w fun e w'=>(∃ a cap,e = .returned (.slice a 0 cap))/\Keep none_ w w':=by
 obtain ⟨ev,nv,h1,_⟩:=h
 have y9:=h1.cell 9 _ rfl
 have hs:=h1.stk
 rw [h0] at hs
 have HA:=au (TW hs (by simp))
 clear h1 hs
 go_enter func21,ntmps21
 go_wp2_with fail
 refine HA.out.mono ?_
 rintro e w1 ⟨v,rfl,ho,k1⟩
 obtain ⟨a,cap,rfl,_⟩:=dP (bD ho (Nat.zero_le _))
 have HK:=au k1
 clear ho k1 HA
 go_wp2_with fail
 go_ret
 exact ⟨⟨a,cap,rfl⟩,HK.out⟩
end
end
section
open Go.RowKit
theorem YK {rest : List (String × DataW Unit)} {w : World} (h : laidMet ay (("math/bits.deBruijn64tab", Rows.laid_math_bits_deBruijn64tab) :: ("dustpan/config.limits", Rows.laid_dustpan_config_limits) :: ("dustpan/class.sizes", Rows.laid_dustpan_class_sizes) :: ("dustpan/phase.known", Rows.laid_dustpan_phase_known) :: ("dustpan/op.kinds", Rows.laid_dustpan_op_kinds) :: rest) w) : Laid w /\ Oo w := by
 have hb:=YB h
 have h1:=laidMet.tail h
 have hl:=aaE h1
 have hs:=Xc (laidMet.tail h1)
 have h3:=laidMet.tail (laidMet.tail h1)
 have hk:=ZB (laidMet.tail h3)
 exact ⟨⟨⟨hl,hk⟩,hs,hb,World.block_lt_of_cell? _ _ (hl 0 _ rfl),World.block_lt_of_cell? _ _ (hk 0 _ rfl),World.block_lt_of_cell? _ _ (hs 0 _ rfl)⟩,YD h3⟩
section
variable {o o':Ow} {w w' W W':World} {G:Geo} {gs:List MG} {q:CG} {x z:WS} {v mv:Value} {N κ K M:Nat} {d:Dm} {ma:Option Addr} {mc:Nat}
theorem CI.setH (h:CI d w W o G gs q mv N x κ K) (k:Keep (HF G.D) W W') (hH:aF W' G.D x.s.H):CI d w W' o G gs q mv N x κ K:=by
 obtain ⟨h1,k1⟩:=h.cw.setH k hH rfl
 exact ⟨h1,h.ok,h.few,h.mv.keep k1 rfl (aQ.refl _ _),h.jm,h.regs,h.ww,h.conf,h.dr,h.wish,h.jd,h.len⟩
theorem CI.nums (h:CI d w W o G gs q mv N x κ K) (hd:d.Ok):x.s.H.b*x.s.H.ww<=4*35/\x.s.H.objs.length<=141/\x.s.H.objs.Nodup/\(∀ a∈x.s.H.objs,1<=a/\a<=140)/\x.s.H.bn 0=false/\∀ a,x.s.H.bn a=true->a<x.s.H.sz:=by
 have hb:x.s.H.b*x.s.H.ww<=4*35:=by
  rw [<- h.jm.hb,h.ww]
  exact Nat.mul_le_mul hd.b.2 hd.w.2
 have hbn:∀ a,x.s.H.bn a=true->1<=a/\a<=x.s.H.b*x.s.H.ww:=fun a ha=>⟨(xZ h.jm.inv ha).1,(xZ h.jm.inv ha).2.1⟩
 refine ⟨hb,?_,?_,fun a ha=>?_,?_,fun a ha=>?_⟩
 ·have h1:=Ey x.s.H.bn x.s.H.sz
  unfold HS.objs
  unfold HS.sz at h1 ⊢
  omega
 ·exact (DN _ _).imp (fun h=>Nat.ne_of_lt h)
 ·have:=hbn a (lC.1 ha).2
  omega
 ·rw [Bool.eq_false_iff]
  intro h0
  have:=hbn 0 h0
  omega
 ·have:=hbn a ha
  unfold HS.sz
  omega
theorem YL {A:List Nat} {T:Nat->List Nat} {m:Nat->Bool} {k:Nat} (h:∀ a,(T a).length<=k):mX A T m<=A.length*k:=by
 induction A with
 | nil=>simp [mX]
 | cons a A ih =>
   show (if m a=true then 0 else (T a).length)+mX A T m<=(A.length+1)*k
   rw [Nat.add_mul,Nat.one_mul]
   have:=h a
   split<;>omega
theorem toP_le (H:HS) (a:Nat):(toP H a).length<=100:=Nat.le_trans (toN_len _ _ _) (xR H a)
theorem CI.of (h:CI d w W o G gs q mv N x κ K) (hd:d.Ok) (hT:lT W):Calls ay 30 #[aj (G.D 0)] W fun e w'=>∃ Av Tv:Value,e = .returned (.agg #[Av,Tv])/\Ov w' Av Tv x.s.H.objs (toP x.s.H)/\CI d w w' o G gs q mv N x κ K/\Keep (HF G.D) W w':=by
 have hn:=h.nums hd
 refine (acj h.cw.coll.sh.heap hT (by omega)).mono ?_
 rintro e w' ⟨Av,Tv,rfl,h1,h2,h3⟩
 exact ⟨Av,Tv,rfl,h1.ed,h.setH h3 h2,h3⟩
def adS (d:Dm) (κ:Nat) (x:WS) (m:Nat->Bool):Prop:=∀ a,m a=true↔(dR d.m d.b d.ce κ x).gZ a
theorem CI.reach (h:CI d w W o G gs q mv N x κ K) (hd:d.Ok) {Av Tv rv:Value} (hE:Ov W Av Tv x.s.H.objs (toP x.s.H)) (hR:W.ownsRow 0 3 1 rv (jA x d.ce d.m).length (aG (jA x d.ce d.m))):Calls ay 29 #[.agg #[Av,Tv],rv] W fun e w'=>∃ v,e = .returned v/\∃ m:Nat->Bool,adS d κ x m/\w'.ownsRow W.heap.size 3 1 v (x.s.H.objs.filter m).length (aG (x.s.H.objs.filter m))/\Keep none_ W w':=by
 obtain ⟨n1,n2,n3,n4,n5,n6⟩:=h.nums hd
 have hrl:=hd.rlen h d.m (Nat.le_refl _)
 have hre:=YL (A:=x.s.H.objs) (m:=fun _=>false) (toP_le x.s.H)
 refine (WO hE hR n3 (fun a ha=>⟨(n4 a ha).1,by have:=(n4 a ha).2;omega⟩) (by omega) (by omega)).mono ?_
 rintro e w' ⟨v,rfl,m,h1,h2,h3⟩
 exact ⟨v,rfl,m,fun a=>(h1 a).trans (ach n5 n6 a),h2,h3⟩
theorem GK (x:WS) (i:Nat):(bP x i).muts.length=x.muts.length:=by
 unfold bP
 cases hm:x.muts[i]? with
 | some m =>
   simp only
   rw [(WS.nP _ _).2.1]
   simp
 | none =>
   simp only
   split
   ·rw [(WS.nP _ _).2.1]
   ·rw [(WS.nP _ _).2.1]
theorem iF.Zt {W0:World} {o0:Ow} {fv pv:Value} {fr ph:List Nat} (h:iF w W0 o0 G gs q mv N W o x fv pv fr ph):Calls ay 14 #[aj q.C] W fun e W'=>e = .returned (.tuple #[])/\iF w W0 o0 G gs q mv (N+1) W' o (bP x (x.muts.length+1)) fv pv fr ph:=by
 refine h.cw.wish.mono ?_
 rintro e w' ⟨rfl,hc,k⟩
 exact ⟨rfl,hc,wX h.ok h.cw.coll.sh.heap.hbd _,rD h.few _,h.cx.step k (aQ.refl _ _) (by decide),h.mv.keep k rfl (aQ.refl _ _),h.f.keep k rfl (aQ.refl _ _),h.p.keep k rfl (aQ.refl _ _)⟩
theorem iF.ends {W0:World} {o0:Ow} {mv fv pv:Value} {fr ph:List Nat} (hs:iF w W0 o0 G gs q mv N W o z fv pv fr ph) (hl:zY (dR d.m d.b d.ce κ x) z) (hw:z.coll.wish=false) (hc:z.coll.cycles=K) (hdr:jL z.coll) (h:CI d w' W' o' G gs q mv M x κ (K - 1)):CI d w W o G gs q mv N z (1 - κ) K:=by
 refine ⟨hs.cw,hs.ok,hs.few,hs.mv,hl.jm,fun i m hm=>?_,hl.geo.2.2.1.trans h.ww,hl.geo.2.2.2.1.trans h.conf,hdr,hw,hc,h.len⟩
 rw [hl.regs i m hm]
 show (((x.muts[i]?).map MS.regs).getD []).length<=d.r
 cases hx:x.muts[i]? with
 | none=>exact Nat.zero_le _
 | some m'=>exact h.regs i m' hx
end
end
end Go.Proofs.YtanfphjoebobaaaGreatDoor
