/- Parts of the iy. No conditions. -/
import Derived.Test.YtanfphjoebobaaaGreatDoorZzfk
namespace Go.Proofs.YtanfphjoebobaaaGreatDoor
open _root_.Array renaming eq_empty_of_size_eq_zero->akN
open _root_.Go.World renaming drew->ajr
open _root_.List renaming drop_succ_cons->ajt,drop_zero->ajn,getD_eq_getElem?_getD->ajg,nil_append->akr,take_zero->ajs
open _root_.Nat renaming lt_of_lt_of_le->ajf,lt_or_ge->ajz
open _root_.Go.Proofs.Tryz hiding prog
open _root_.Go.Proofs.Tryz renaming prog->aA
set_option maxRecDepth 10000
set_option maxHeartbeats 8000000
section
attribute [local go_sem] Oper.semAt_some
open Go.RowKit
section
variable {o:Ow} {w w':World} {G:fU} {g:MG} {s:Sh} {m:MS} {nv0:Value}
theorem Vo (h:bM o w G g s m none nv0) (c:Nat) (f:Bool) (t:MD) (v:Value) (hv:fE o w g.Nt g.M (.iK c f t) v):∃ bs:List Nat,v = .func (.func 214) #[] (bs.map aJ).toArray/\Calls aA 214 (bs.map aJ).toArray w (bW o w G g nv0 m.id (stepM s m (.iK c f t))):=by
 obtain ⟨tv,ht,bs,hbs,hcap⟩:=hv
 refine ⟨bs,hbs,?_⟩
 obtain ⟨b0,b1,b2,b3,rfl,⟨o0,k0⟩,⟨o1,k1⟩,⟨o2,k2⟩,⟨o3,k3⟩⟩:=caps4 hcap
 have c0:w.cell? ⟨b0,0,none⟩=some (au g.Nt):=k0.cell 0 rfl
 have n1:w.cell? ⟨g.Nt,1,none⟩=some (au g.Bf):=h.nt.cell 1 rfl
 have hform:=ht.form
 show Calls aA 214 #[au b0,au b1,au b2,au b3] w _
 have HB:Hid (∀ I W,aj (In o I) w W->I.contains 0=false->W.cell? ⟨b0,0,none⟩=some (au g.Nt)/\W.cell? ⟨b1,0,none⟩=some (ah (c:Int))/\W.cell? ⟨b2,0,none⟩=some (.bool f)/\W.cell? ⟨b3,0,none⟩=some tv/\W.cell? ⟨g.Nt,1,none⟩=some (au g.Bf)/\W.cell? ⟨g.Nt,0,none⟩=some (au (G.D 0))):=fun I W hW hI =>
  ⟨(k0.bg hW o0 hI).cell 0 rfl,(k1.bg hW o1 hI).cell 0 rfl,(k2.bg hW o2 hI).cell 0 rfl,(k3.bg hW o3 hI).cell 0 rfl,(h.nt.bg hW h.zx hI).cell 1 rfl,(h.nt.bg hW h.zx hI).cell 0 rfl⟩
 have HN:Hid (Calls aA 215 #[au g.Bf] w fun e w'=>e = .returned (.tuple #[ah (dA m.aY:Int),.bool (!m.aY.isEmpty)])/\bM o w' G g s { m with aY:=m.aY.tail } none nv0/\aj (In o (eH m.id)) w w'):=by
  refine (XT h.aY).mono ?_
  rintro e w' ⟨rfl,g1,g2⟩
  have hl:(m.aY.tail.length:Int)<=m.c.l:=by have:=h.CV;simp;omega
  exact ⟨rfl,(h.Lr g2 g1 hl).1,Sj h g2⟩
 have HP:Hid (∀ W,bM o W G g s { m with aY:=m.aY.tail } none nv0->Calls aA 216 #[au (G.D 0),ah (dA m.aY:Int),ah (c:Int)] W fun e w'=>(∃ er:Int,e = .returned (.tuple #[.bool (s.H.iG (dA m.aY) c),ah er]))/\bM o w' G g { s with H:=s.H.eF (dA m.aY) c } { m with aY:=m.aY.tail } none nv0/\aj (In o (eH m.id)) W w'):=fun W hW=>by
  refine (Ld hW.sh.heap (dA m.aY) c).mono ?_
  rintro e w' ⟨rfl,g1,g2⟩
  have hc:(s.H.eF (dA m.aY) c).c=s.H.c:=by unfold HS.eF;split<;>rfl
  obtain ⟨h1,h2⟩:=hW.wQ g2 g1 hc
  exact ⟨⟨_,rfl⟩,h1,h2⟩
 have HL:Hid (∀ W,bM o W G g { s with H:=s.H.eF (dA m.aY) c } { m with aY:=m.aY.tail } none nv0->Calls aA 175 #[au g.Bf] W fun e w'=>e = .returned (ah (m.aY.tail.length:Int))/\W=w'):=fun W hW=>OU hW.aY
 have HDR:Hid (∀ W,bM o W G g s { m with aY:=m.aY.tail } none nv0->bM o W.drew G g s { m with aY:=m.aY.tail } none nv0):=fun W hW=>hW.still (aj.refl aB W).drew
 have zy:Hid (m.aY.tail≠[]->∀ W,bM o W G g { s with H:=s.H.eF (dA m.aY) c } { m with aY:=m.aY.tail } none nv0->aj (In o (eH m.id)) w W->Calls aA 178 #[au g.Nt,ah (c:Int),.bool (f||s.H.iG (dA m.aY) c),tv] W (bW o w G g nv0 m.id (stepM s m (.iK c f t)))):=fun hne W hW hk=>by
  refine (Jp (M:=g.M) hW.sh.iV c _ t tv (ht.bg hk (qp _))).mono ?_
  rintro e w' ⟨nv,rfl,h1,h2⟩
  have e1:stepM s m (.iK c f t)=⟨{ s with H:=s.H.eF (dA m.aY) c },{ m with aY:=m.aY.tail },.iK c (f||s.H.iG (dA m.aY) c) t,none⟩:=by simp only [stepM];rw [aZ hne]
  rw [e1]
  exact bW.same (hW.still h2) h1 (hk.trans h2.bV)
 have HRT:Hid (m.aY.tail=[]->(f||s.H.iG (dA m.aY) c)=true->∀ W,bM o W G g { s with H:=s.H.eF (dA m.aY) c } { m with aY:=m.aY.tail } none nv0->aj (In o (eH m.id)) w W->bW o w G g nv0 m.id (stepM s m (.iK c f t)) (.returned (.func (.func 217) #[] #[au b0,au b3])) W):=fun he hfr W hW hk=>by
  have e1:stepM s m (.iK c f t)=⟨{ s with H:=s.H.eF (dA m.aY) c },{ m with aY:=m.aY.tail },.kX t,none⟩:=by simp only [stepM];rw [aT (by simpa using he),aZ hfr]
  rw [e1]
  exact bW.same hW ⟨tv,ht.bg hk (qp _),⟨[b0,b3],rfl,⟨_,_,rfl,o0,k0.bg hk o0 (qp _),_,_,rfl,o3,k3.bg hk o3 (qp _),rfl⟩⟩⟩ hk
 have Wl:Hid (m.aY.tail=[]->(f||s.H.iG (dA m.aY) c)=false->∀ W,bM o W G g { s with H:=s.H.eF (dA m.aY) c } { m with aY:=m.aY.tail } none nv0->aj (In o (eH m.id)) w W->bW o w G g nv0 m.id (stepM s m (.iK c f t)) (.returned tv) W):=fun he hfr W hW hk=>by
  have e1:stepM s m (.iK c f t)=⟨{ s with H:=s.H.eF (dA m.aY) c },{ m with aY:=m.aY.tail },t,none⟩:=by simp only [stepM];rw [aT (by simpa using he),aT (by rw [hfr];decide)]
  rw [e1]
  exact bW.same hW (ht.bg hk (qp _)) hk
 have hmf:∀ (fn:Fn) (first aO:Array Value) (w:World),(Instr.makeFunc fn first aO).run aA w = .ok (.func fn first aO) w:=fun _ _ _ _=>rfl
 have Wn:Hid ((eH m.id).contains 0=false):=qp _
 have hlen:m.aY.tail.length<=256:=by have h1:=h.CV;have h2:=h.cl;simp;omega
 generalize { s with H:=s.H.eF (dA m.aY) c }=s' at *
 generalize s.H.iG (dA m.aY) c=was at *
 generalize dA m.aY=a at *
 generalize (!m.aY.isEmpty)=okb at *
 generalize hm':({ m with aY:=m.aY.tail }:MS)=m' at *
 generalize m.aY.tail=bt at *
 generalize stepM s m (.iK c f t)=R at *
 generalize eH m.id=II at *
 generalize m.id=mi at *
 clear h ht hcap k0 k1 k2 k3 o0 o1 o2 o3 hbs hm'
 have key:∀ (Q:Prop) ,Q->Q:=fun _ q=>q
 clear key
 rcases hform with rfl|⟨fn,caps,rfl⟩
 all_goals
  cases hb:bt with
  | nil =>
    rw [hb] at HL
    cases hf:(f||was) with
    | false =>
      obtain ⟨hf1,hf2⟩:=Bool.or_eq_false_iff.1 hf
      subst hf1
      subst hf2
      have HE:=ay (Wl.out hb rfl)
      clear zy HRT Wl hb hf hlen
      go_enter func214,ntmps214
      go_wp2_with fail
      refine HN.out.mono ?_
      rintro e w1 ⟨rfl,g1,g2⟩
      have H1:=ay g1
      have K1:=ay g2
      clear g1 g2 c0 n1
      obtain ⟨c0,c1,c2,c3,n1,n0⟩:=HB.out _ w1 K1.out Wn.out
      have Le:=ay (HP.out _ (HDR.out _ H1.out))
      go_wp2_with fail
      refine bG 6 rfl (by kernel_rfl) (by kernel_rfl) (fun K hK=>?_)
      change wpStill _ _ (ajr _) _ _ _
      simp only [List.take_succ_cons,ajs,ajt,ajn] at hK ⊢
      repeat still_step
      refine wpStill_nil ?_
      change ite _ (Oper.wp _ _ _ w1.drew _ _) _
      go_simp
      refine Le.out.mono ?_
      rintro e w2 ⟨⟨er,rfl⟩,g1,g2⟩
      refine hK _ _ ?_
      clear hK K
      have H2:=ay g1
      have K2:Hid (aj (In o II) w w2):=K1.out.trans ((aj.refl (In o II) w1).drew.trans g2)
      clear g1 g2 c0 c1 c2 c3 n0 n1
      repeat still_step
      refine wpStill_nil ?_
      obtain ⟨c0,c1,c2,c3,n1,n0⟩:=HB.out _ w2 K2.out Wn.out
      have HL2:=ay (HL.out _ H2.out)
      go_wp2_with fail
      refine HL2.out.mono ?_
      rintro e w3 ⟨rfl,rfl⟩
      go_wp2_with fail
      go_ret
      exact HE.out _ H2.out K2.out
    | true =>
      have HE:=ay (HRT.out hb hf)
      have HFW:Hid (f=true\/(f=false/\was=true)):=by revert hf;cases f<;>cases was<;>simp [Hid]
      clear zy HRT Wl hb hf hlen
      rcases HFW.out with rfl|⟨rfl,rfl⟩
      all_goals
       clear HFW
       go_enter func214,ntmps214
       go_wp2_with fail
       refine HN.out.mono ?_
       rintro e w1 ⟨rfl,g1,g2⟩
       have H1:=ay g1
       have K1:=ay g2
       clear g1 g2 c0 n1
       obtain ⟨c0,c1,c2,c3,n1,n0⟩:=HB.out _ w1 K1.out Wn.out
       have Le:=ay (HP.out _ (HDR.out _ H1.out))
       go_wp2_with fail
       refine bG 6 rfl (by kernel_rfl) (by kernel_rfl) (fun K hK=>?_)
       change wpStill _ _ (ajr _) _ _ _
       simp only [List.take_succ_cons,ajs,ajt,ajn] at hK ⊢
       repeat still_step
       refine wpStill_nil ?_
       change ite _ (Oper.wp _ _ _ w1.drew _ _) _
       go_simp
       refine Le.out.mono ?_
       rintro e w2 ⟨⟨er,rfl⟩,g1,g2⟩
       refine hK _ _ ?_
       clear hK K
       have H2:=ay g1
       have K2:Hid (aj (In o II) w w2):=K1.out.trans ((aj.refl (In o II) w1).drew.trans g2)
       clear g1 g2 c0 c1 c2 c3 n0 n1
       repeat still_step
       refine wpStill_nil ?_
       obtain ⟨c0,c1,c2,c3,n1,n0⟩:=HB.out _ w2 K2.out Wn.out
       have HL2:=ay (HL.out _ H2.out)
       go_wp2_with fail
       refine HL2.out.mono ?_
       rintro e w3 ⟨rfl,rfl⟩
       go_wp2_with fail
       go_ret
       exact HE.out _ H2.out K2.out
  | cons y ys =>
    have HE:=ay (zy.out (by rw [hb];simp))
    have hpos:0<bt.length:=by rw [hb];simp
    have d0:decide ((0:Int)<(bt.length:Int))=true:=fK (by omega)
    have d1:decide (0<bt.length)=true:=fK hpos
    generalize bt.length=bl at *
    clear zy HRT Wl hb hlen
    cases f
    all_goals
     simp only [Bool.false_or,Bool.true_or] at HE
     go_enter func214,ntmps214
     go_wp2_with fail
     refine HN.out.mono ?_
     rintro e w1 ⟨rfl,g1,g2⟩
     have H1:=ay g1
     have K1:=ay g2
     clear g1 g2 c0 n1
     obtain ⟨c0,c1,c2,c3,n1,n0⟩:=HB.out _ w1 K1.out Wn.out
     have Le:=ay (HP.out _ (HDR.out _ H1.out))
     go_wp2_with fail
     refine bG 6 rfl (by kernel_rfl) (by kernel_rfl) (fun K hK=>?_)
     change wpStill _ _ (ajr _) _ _ _
     simp only [List.take_succ_cons,ajs,ajt,ajn] at hK ⊢
     repeat still_step
     refine wpStill_nil ?_
     change ite _ (Oper.wp _ _ _ w1.drew _ _) _
     go_simp
     refine Le.out.mono ?_
     rintro e w2 ⟨⟨er,rfl⟩,g1,g2⟩
     refine hK _ _ ?_
     clear hK K
     have H2:=ay g1
     have K2:Hid (aj (In o II) w w2):=K1.out.trans ((aj.refl (In o II) w1).drew.trans g2)
     clear g1 g2 c0 c1 c2 c3 n0 n1
     repeat still_step
     refine wpStill_nil ?_
     obtain ⟨c0,c1,c2,c3,n1,n0⟩:=HB.out _ w2 K2.out Wn.out
     have HL2:=ay (HL.out _ H2.out)
     go_wp2_with fail
     refine HL2.out.mono ?_
     rintro e w3 ⟨rfl,rfl⟩
     go_wp2_with fail
     refine (HE.out _ H2.out K2.out).mono ?_
     rintro e w4 ⟨o',nv,rfl,hp⟩
     have Ji:Hid (bW o w G g nv0 mi R (.returned nv) w4):=⟨o',nv,rfl,hp⟩
     have hfm:=hp.2.2.1.form
     clear hp c0 c1 c2 c3 n0 n1
     rcases hfm with rfl|⟨fn',aiC,rfl⟩
     all_goals
      go_wp2_with fail
      go_ret
      exact Ji.out
end
end
section
attribute [local go_sem ↓] nD
attribute [local go_sem] Oper.semAt_some
open Go.RowKit
theorem Tryz.infoResult:(aA.info? 225).map (fun i=>(i.zero,i.size,i.bytes))=some (some (.agg #[ah 0,ah 0]),2,16):=by kernel_rfl
theorem Lu {P:Program} (w:World) (t ty e:TypeId) (ht:P.underlying t=some (.slice e)) {z:Value} {size bytes:Nat} (hi:(P.info? e).map (fun i=>(i.zero,i.size,i.bytes))=some (some z,size,bytes)) (hzs:z.cells.size=size) (h0:0<size)
 {v:Value} {n:Nat} {xs us:List Value} (hown:w.ownsRow 0 e size v n xs) {N:Nat} (hN:∀ j x,us[j]?=some x->w.cell? ⟨N,j,none⟩=some x) (hul:us.length=size) (hu:∀ u∈us,u.oneCell'=true) (hb:bytes<=1000) (hn:n<=100000000000) :
 ∃ g aO w',(Builtin.append_ #[t,t] ty #[v,.slice (some ⟨N,0,none⟩) 1 1]).run P w = .ok (.slice (some ⟨g,0,none⟩) (n+1) aO) w'/\w'.ownsRow 0 e size (.slice (some ⟨g,0,none⟩) (n+1) aO) (n+1) (xs++us) /\
  w.grownBy w' v.ownBlock/\(v.ownBlock=some g\/w.heap.size<=g):=by
 obtain ⟨i,hi1,hi2,hi3,hi4⟩:=info_parts hi
 have hbytes:(n+1)*bytes<=140737488355328:=Nat.le_trans (Nat.mul_le_mul (show n+1<=100000000001 by omega) hb) (by decide)
 have hnews:∀ j x,us[j]?=some x->w.cell? ((⟨N,0,none⟩:Addr).add j)=some x:=by
  intro j x hj
  have ea:(⟨N,0,none⟩:Addr).add j=⟨N,j,none⟩:=by simp only [Addr.add];split<;>simp_all
  rw [ea];exact hN j x hj
 have hul1:us.length=1*size:=by omega
 have shape:∀ {v':Value} {W:World} {B:Nat},W.ownsRow B e size v' (n+1) (xs++us)->∃ g aO,v' = .slice (some ⟨g,0,none⟩) (n+1) aO/\B<=g:=by
  intro v' W B h
  rcases h.2 with ⟨_,h0'⟩|⟨g,aO,cur,rfl,hB,_⟩
  ·omega
  ·exact ⟨g,aO,rfl,hB⟩
 rcases hown.2 with ⟨rfl,rfl⟩|⟨g,aO,cur,rfl,hbg,hg,hnc,hcm,hcs,htake⟩
 ·have hown':w.ownsRow w.heap.size e size (.slice none 0 0) 0 xs:=⟨hown.1,.inl ⟨rfl,rfl⟩⟩
  obtain ⟨v',w',hr,h2,h3,_⟩:=run_append_own (P:=P) w w.heap.size t ty e i z size bytes ht hi1 hi2 hi3 hi4 hzs h0 _ 0 xs hown' ⟨N,0,none⟩ 1 1 us hul1 hnews hu (by unfold maxLen;omega) hbytes (Nat.le_refl _)
  obtain ⟨g,aO,rfl,hB⟩:=shape h2
  exact ⟨g,aO,w',hr,bQ h2 (Nat.zero_le _),h3,.inr hB⟩
 ·by_cases hroom:n+1<=aO
  ·obtain ⟨w',hr,h2,h3⟩:=run_append_own_spare (P:=P) w 0 t ty e i size ht hi1 hi3 g n aO xs hown ⟨N,0,none⟩ 1 1 us hul1 hnews hu hroom
   exact ⟨g,aO,w',hr,h2,h3,.inl rfl⟩
  ·have holds:∀ j x,xs[j]?=some x->w.cell? ((⟨g,0,none⟩:Addr).add j)=some x:=hown.cells (g:=g) rfl
   obtain ⟨v',w',hr,h2,h3⟩:=run_append_arg_grows (P:=P) w t ty e i z size bytes ht hi1 hi2 hi3 hi4 hzs h0 ⟨g,0,none⟩ n aO xs hown.1 holds ⟨N,0,none⟩ 1 1 us hul1 hnews (by omega) (by unfold maxLen;omega) hbytes
   obtain ⟨g',cap',rfl,hB⟩:=shape h2
   exact ⟨g',cap',w',hr,bQ h2 (Nat.zero_le _),⟨h3.os,h3.tape,h3.output,h3.size,fun k hk _=>h3.block k hk (by simp)⟩,.inr hB⟩
theorem aem {w:World} {bP n size q:Nat} {e:TypeId} {v:Value} {xs:List Value} (h:w.ownsRow bP e size v n xs) (hq:v.ownBlock=some q):∃ cur:Array Value,w.heap[q]?=some (.cells cur e (0,0)):=by
 rcases h.2 with ⟨e1,_⟩|⟨g,aO,cur,e1,_,hg,_⟩
 ·rw [e1] at hq;simp [Value.ownBlock] at hq
 ·rw [e1] at hq;simp [Value.ownBlock] at hq;subst hq;exact ⟨cur,hg⟩
theorem ZW {w:World} {bP n size q:Nat} {e:TypeId} {v:Value} {xs:List Value} (h:w.ownsRow bP e size v n xs) (hq:v.ownBlock=some q):q<w.heap.size:=by
 obtain ⟨cur,hc⟩:=aem h hq
 exact lt_of_block hc
section
variable {o:Ow} {w w':World} {G:fU} {g:MG} {s:Sh} {m:MS} {ev:Option Ev} {nv:Value}
theorem bM.c8 (h:bM o w G g s m ev nv):w.cell? ⟨g.M,8,none⟩=some (ah (m.id:Int)):=h.cell 8 _ (fun _ _=>rfl)
theorem IY (ev:Option Ev):∃ a b c d e f t,EL ev=[a,b,c,d,e,f,t]:=by
 cases ev with
 | none=>exact ⟨_,_,_,_,_,_,_,rfl⟩
 | some x=>exact ⟨_,_,_,_,_,_,_,rfl⟩
theorem bM.zo (h:bM o w G g s m ev nv):∃ a b c d e f t,w.cell? ⟨g.M,23,none⟩=some a/\w.cell? ⟨g.M,24,none⟩=some b/\w.cell? ⟨g.M,25,none⟩=some c/\w.cell? ⟨g.M,26,none⟩=some d/\w.cell? ⟨g.M,27,none⟩=some e/\w.cell? ⟨g.M,28,none⟩=some f/\w.cell? ⟨g.M,29,none⟩=some t:=by
 obtain ⟨a,b,c,d,e,f,t,he⟩:=IY ev
 refine ⟨a,b,c,d,e,f,t,?_,?_,?_,?_,?_,?_,?_⟩
 all_goals
  refine h.cell _ _ (fun pv rv=>?_)
  unfold sK
  rw [he]
  rfl
theorem ZX (h:bM o w G g s m ev nv) (kind place:Nat) (code:Int) (value:Nat):Calls aA 183 #[au g.M,ah (kind:Int),ah (place:Int),ah code,ah (value:Int)] w fun e w'=>e = .returned (.tuple #[])/\bM o w' G g s m (some ⟨m.id,kind,place,code,value⟩) nv/\aj (In o [20+m.id]) w w':=by
 have c8:=h.c8
 obtain ⟨x0,x1,x2,x3,x4,x5,x6,e0,e1,e2,e3,e4,e5,e6⟩:=h.zo
 have f0:=h.free 23;have f1:=h.free 24;have f2:=h.free 25;have f3:=h.free 26;have f4:=h.free 27;have f5:=h.free 28;have f6:=h.free 29
 have k:aj (only g.M) w (((((((w.setCell ⟨g.M,23,none⟩ (ah 0)).setCell ⟨g.M,24,none⟩ (ah (m.id:Int))).setCell ⟨g.M,25,none⟩ (ah (kind:Int))).setCell ⟨g.M,26,none⟩ (ah (place:Int))).setCell ⟨g.M,27,none⟩ (ah code)).setCell ⟨g.M,28,none⟩ (ah (value:Int))).setCell ⟨g.M,29,none⟩ (.bool true)):=(((((((aj.refl _ _).put _ _).put _ _).put _ _).put _ _).put _ _).put _ _).put _ _
 have HE:=ay (h.struct k m (some ⟨m.id,kind,place,code,value⟩) nv (fun pv rv hb=>by
  have:=((((((hb.set 23 (ah 0)).set 24 (ah (m.id:Int))).set 25 (ah (kind:Int))).set 26 (ah (place:Int))).set 27 (ah code)).set 28 (ah (value:Int))).set 29 (.bool true)
  obtain ⟨a,b,c,d,e,f,t,he⟩:=IY ev
  unfold sK at this ⊢
  rw [he] at this
  exact this) ⟨rfl,rfl,rfl,rfl,rfl,rfl⟩)
 generalize m.id=mi at *
 clear h k
 go_enter func183,ntmps183
 go_wp2_with fail
 go_end0
 exact ⟨rfl,HE.out.1,HE.out.2⟩
theorem bM.NM (h:bM o w G g s m ev nv):∃ rv,w.cell? ⟨g.M,16,none⟩=some rv/\Bl o w m.id rv m.dG/\∃ a aO,rv = .slice a m.dG.length aO:=by
 obtain ⟨pv,rv,h1,h2,h3⟩:=h.aH
 refine ⟨rv,h1.cell 16 rfl,h3,?_⟩
 rcases h3.1.2 with ⟨e1,e2⟩|⟨g',aO,cur,e1,_⟩
 ·exact ⟨none,0,by rw [e1,e2]⟩
 ·exact ⟨_,_,e1⟩
theorem ace (l:List (Int × Nat)) (code:Int) (v:Nat):zH (l++[(code,v)])=zH l++[ah code,ah (v:Int)]:=by
 unfold zH
 simp
theorem bM.grow (h:bM o w G g s m ev nv) {rv:Value} (LC:w.cell? ⟨g.M,16,none⟩=some rv) {q aO:Nat} {code:Int} {v:Nat} {w1:World} (hown:w1.ownsRow 0 225 2 (.slice (some ⟨q,0,none⟩) (m.dG.length+1) aO) (m.dG.length+1) (zH m.dG++[ah code,ah (v:Int)]))
 (hg:w.grownBy w1 rv.ownBlock) (hq:rv.ownBlock=some q\/w.heap.size<=q) :
 ∃ o',bZ w o o'/\bM o' (w1.setCell ⟨g.M,16,none⟩ (.slice (some ⟨q,0,none⟩) (m.dG.length+1) aO)) G g s { m with dG:=m.dG++[(code,v)] } ev nv/\aj (In o [20+m.id]) w (w1.setCell ⟨g.M,16,none⟩ (.slice (some ⟨q,0,none⟩) (m.dG.length+1) aO)):=by
 obtain ⟨pv,rv',h1,h2,h3⟩:=h.aH
 have e:rv'=rv:=by
  have:=h1.cell 16 (v:=rv') rfl
  rw [LC] at this;injection this with this;exact this.symm
 subst e
 have ap:=h.apart
 have k1:aj (In o [20+m.id]) w w1:=⟨hg.os,hg.tape,hg.output,hg.size,fun k hk hn=>hg.block k hk (fun e=>hn (by unfold In;rw [h3.2 k e.symm];simp))⟩
 have kB:aj (fun i=>rv'.ownBlock=some i) w w1:=⟨hg.os,hg.tape,hg.output,hg.size,fun k hk hn=>hg.block k hk (fun e=>hn e.symm)⟩
 have ZY:∃ cur:Array Value,w1.heap[q]?=some (.cells cur 225 (0,0)):=by
  rcases hown.2 with ⟨e1,_⟩|⟨g',cap',cur,e1,_,hg',_⟩
  ·cases e1
  ·cases e1;exact ⟨cur,hg'⟩
 have ahT:q<w1.heap.size:=lt_of_block ZY.choose_spec
 have hext:bZ w o (o.put q (20+m.id)):=Ow.pF (hq.elim (fun e => .inr (h3.2 q e)) .inl)
 have acf:kJ (o.put q (20+m.id)) w1:=Ow.um h.sh.iV hg.size ahT
 have nM:∀ b,rv'.ownBlock=some b->b≠g.M/\b≠g.X/\b≠g.Bf:=fun b hb=>ap.2.2.2 rv' _ b h3 hb
 have qM:q≠g.M:=hq.elim (fun e=>(nM q e).1) (fun e=>by have:=h1.lt;omega)
 have ahU:([20+m.id]:List Nat).all (fun i=>decide (20<=i))=true:=by simp
 have h0:([20+m.id]:List Nat).contains 0=false:=by simp;omega
 obtain ⟨w2,hw2⟩:∃ w2,w2=w1.setCell ⟨g.M,16,none⟩ (.slice (some ⟨q,0,none⟩) (m.dG.length+1) aO):=⟨_,rfl⟩
 rw [<- hw2]
 have kM:aj (only g.M) w1 w2:=by rw [hw2];exact (aj.refl _ _).put 16 _
 have kB2:aj (fun i=>rv'.ownBlock=some i\/i=g.M) w w2:=(kB.mono (fun i _ e=>Or.inl e)).trans (kM.mono (fun i _ e=>Or.inr e))
 have k2:aj (In o [20+m.id]) w w2:=kB2.mono (fun i _ e=>by
  unfold In
  rcases e with e|e
  ·rw [h3.2 i e];simp
  ·rw [e,h.oM];simp)
 have k2':=k2.yF hext
 obtain ⟨_,bv,hbb,_,_⟩:=id h.aY
 refine ⟨o.put q (20+m.id),hext,⟨h.sh.move k2 ahU h.box8 hext (acf.aK kM),⟨pv,.slice (some ⟨q,0,none⟩) (m.dG.length+1) aO,?_,(h2.ext hext).bg k2' h0,?_,fun b hb=>?_⟩,(hext _ h1.lt).trans h.oM,kB2.aH h.aW (fun e=>e.elim (fun e=>(nM _ e).2.1 rfl) (fun e=>ap.1 e.symm)),(hext _ h.aW.lt).trans h.oX,?_,(hext _ hbb.lt).trans h.CU,h.nt.bg k2 h.zx h0,(hext _ h.nt.lt).trans h.zx,h.mF,h.box8,h.qE,h.uq,h.CV⟩,k2⟩
 ·have hm1:=(kB.aH h1 (fun e=>(nM _ e).1 rfl)).set 16 (.slice (some ⟨q,0,none⟩) (m.dG.length+1) aO)
  rw [hw2]
  exact hm1
 ·show w2.ownsRow 0 225 2 _ (m.dG++[(code,v)]).length (zH (m.dG++[(code,v)]))
  rw [ace,List.length_append]
  exact gK hown kM (fun b hb e=>by simp [Value.ownBlock] at hb;unfold only at e;omega)
 ·simp [Value.ownBlock] at hb
  rw [<- hb]
  exact Ow.qW _ _ _
 ·refine (h.aY.ext hext).aK kB2 (fun e=>e.elim (fun e=>(nM _ e).2.2 rfl) (fun e=>ap.2.1 e.symm)) (fun x hx e=>?_)
  rcases e with e|e
  ·have h9:=hext x (ZW h3.1 e)
   rw [hx,h3.2 x e] at h9;omega
  ·have h9:=hext g.M h1.lt
   rw [<- e,hx,e,h.oM] at h9;omega
theorem acg (h:bM o w G g s m none nv) (code:Int) (v:Nat) (hr:m.dG.length<=1000000000):Calls aA 140 #[au g.M,ah code,ah (v:Int)] w fun e w'=>e = .returned .nilFunc/\∃ o',bZ w o o'/\bM o' w' G g s (m.did code v) (some (m.ev code v)) nv/\aj (In o [20+m.id]) w w':=by
 have f18:=h.free 18
 have c18:=h.cell 18 (ah (m.held:Int)) (fun _ _=>rfl)
 obtain ⟨h1,k1⟩:=h.put 18 (ah 0) { m with held:=0 } none nv (fun _ _=>rfl) ⟨rfl,rfl,rfl,rfl,rfl,rfl⟩
 obtain ⟨W1,hW1⟩:∃ W1,W1=w.setCell ⟨g.M,18,none⟩ (ah 0):=⟨_,rfl⟩
 rw [<- hW1] at h1 k1
 obtain ⟨rv1,r1,hrs1,a1,cap1,er1⟩:=h.NM
 rw [er1] at r1
 have HT:=ay (ZX h1 1 m.dG.length code v)
 have hTR:Hid (∀ W2,bM o W2 G g s { m with held:=0 } (some ⟨m.id,1,m.dG.length,code,v⟩) nv->aj (In o [20+m.id]) W1 W2->∃ rv a aO q cp w5,rv = .slice a m.dG.length aO/\W2.cell? ⟨g.M,16,none⟩=some rv/\(app9 #[105,105] 105 #[rv,.slice (some ⟨W2.heap.size,0,none⟩) 1 1]).run aA (W2.alloc (.cells #[ah code,ah (v:Int)] 225)) = .ok (.slice (some ⟨q,0,none⟩) (m.dG.length+1) cp) w5/\w5.frozen? ⟨g.M,16,none⟩=false/\w5.cell? ⟨g.M,16,none⟩=some rv/\∃ o',bZ W2 o o'/\bM o' (w5.setCell ⟨g.M,16,none⟩ (.slice (some ⟨q,0,none⟩) (m.dG.length+1) cp)) G g s (m.did code v) (some (m.ev code v)) nv/\aj (In o [20+m.id]) W2 (w5.setCell ⟨g.M,16,none⟩ (.slice (some ⟨q,0,none⟩) (m.dG.length+1) cp))):=by
  intro W2 h2 k2
  have ka:aj aB W2 (W2.alloc (.cells #[ah code,ah (v:Int)] 225)):=(aj.refl _ _).alloc _
  have h3:=h2.still ka
  obtain ⟨rv,r2,hrs,a,aO,er⟩:=h3.NM
  have hNew:=aF.bC W2 [ah code,ah (v:Int)] 225
  obtain ⟨q,cp,w5,hrun,hown,hgr,hq⟩:=Lu (P:=aA) (W2.alloc (.cells #[ah code,ah (v:Int)] 225)) 105 105 225 (by kernel_rfl) Tryz.infoResult rfl (by decide) hrs.1 (N:=W2.heap.size) (us:=[ah code,ah (v:Int)]) (fun j x hj=>hNew.cell j hj) rfl (by simp [Value.oneCell']) (by decide) (by show m.dG.length<=_;omega)
  obtain ⟨o',e1,h4,k4⟩:=h3.grow r2 hown hgr hq
  obtain ⟨pv,rv2,hb2,_,_⟩:=h3.aH
  have nM:rv.ownBlock≠some g.M:=fun e=>(h3.apart.2.2.2 rv _ g.M hrs e).1 rfl
  have hb5:=hb2.qh hgr nM
  obtain ⟨r2',_⟩:W2.cell? ⟨g.M,16,none⟩=some rv/\True:=by
   obtain ⟨pv',rv',hb',_,_⟩:=h2.aH
   have:=(hb'.alloc (.cells #[ah code,ah (v:Int)] 225)).cell 16 (v:=rv') rfl
   rw [r2] at this
   injection this with this
   exact ⟨by rw [this];exact hb'.cell 16 rfl,trivial⟩
  have e2:rv2=rv:=by
   have:=hb2.cell 16 (v:=rv2) rfl
   rw [r2] at this;injection this with this;exact this.symm
  refine ⟨rv,a,aO,q,cp,w5,er,r2',hrun,hb5.free 16,by rw [<- e2];exact hb5.cell 16 rfl,o',?_,h4,(ka.bV).trans k4⟩
  intro b hb
  exact e1 b (ajf hb ka.size)
 generalize m.id=mi at *
 generalize m.dG.length=rl at *
 have bI:=ay k1
 clear h h1 hrs1 hr k1
 go_enter func140,ntmps140
 go_wp2_with fail
 rw [<- hW1]
 clear hW1
 refine HT.out.mono ?_
 rintro e w2 ⟨rfl,g1,g2⟩
 obtain ⟨rv,a,aO,q,cp,w5,rfl,r2,hrun9,f16,c16,o',e1,h4,k4⟩:=hTR w2 g1 g2
 have HE:Hid (bZ w2 o o'/\bM o' (w5.setCell ⟨g.M,16,none⟩ (.slice (some ⟨q,0,none⟩) (rl+1) cp)) G g s (m.did code v) (some (m.ev code v)) nv/\aj (In o [20+mi]) w2 (w5.setCell ⟨g.M,16,none⟩ (.slice (some ⟨q,0,none⟩) (rl+1) cp))):=⟨e1,h4,k4⟩
 have dF:=ay (bI.out.trans g2)
 have hlt:g.M<w2.heap.size:=World.block_lt_of_cell? _ _ r2
 clear hTR HT g1 g2 e1 h4 k4 r1 f18 c18 bI
 go_wp2_with fail
 go_ret
 exact ⟨rfl,o',fun b hb=>HE.out.1 b (ajf hb dF.out.size),HE.out.2.1,dF.out.trans HE.out.2.2⟩
end
end
section
attribute [local go_sem] Oper.semAt_some
open Go.RowKit
section
variable {o:Ow} {w w':World} {G:fU} {g:MG} {s:Sh} {m:MS} {nv:Value}
theorem bW.after {W:World} {i:Nat} {r:xM} {e:Ending} (k:aj (In o (eH i)) w W) (h:bW o W G g nv i r e w'):bW o w G g nv i r e w':=by
 obtain ⟨o',nY,e1,e2,h1,h2,k2⟩:=h
 exact ⟨o',nY,e1,fun b hb=>e2 b (ajf hb k.size),h1,h2,k.trans k2⟩
theorem OW (h:bM o w G g s m none nv) (code:Int) (v:Nat) (hr:m.dG.length<=1000000000):Calls aA 140 #[au g.M,ah code,ah (v:Int)] w (fun e w'=>e = .returned .nilFunc/\bW o w G g nv m.id (sV s m code v) e w'):=by
 refine (acg h code v hr).mono ?_
 rintro e w' ⟨rfl,o',e1,h1,k1⟩
 exact ⟨rfl,o',_,rfl,e1,h1,rfl,k1.oW (by simp [eH])⟩
theorem bM.c9 {ev:Option Ev} (h:bM o w G g s m ev nv):w.cell? ⟨g.M,9,none⟩=some (.slice (some ⟨g.X,0,none⟩) m.aW.length m.aW.length):=h.cell 9 _ (fun _ _=>rfl)
theorem bM.yg {ev:Option Ev} (h:bM o w G g s m ev nv) (j:Nat) (hj:j<m.aW.length):w.cell? ⟨g.X,j,none⟩=some (ah (m.aW.getD j 0:Nat)):=h.aW.cell j (uw hj)
theorem bM.rle {ev:Option Ev} (h:bM o w G g s m ev nv):m.aW.length<=64:=by
 have h1:=(jC h.sh.heap.ji.ok).2.2.2.1
 have h2:=h.uq
 rw [h.qE] at h2
 omega
theorem Z4 (h:bM o w G g s m none nv) (r:Int) (v:Nat) (h0:0<=r) (hr:r<m.aW.length) (hres:m.dG.length<=1000000000):Calls aA 226 #[au g.M,ah r,ah (v:Int)] w (fun e w'=>e = .returned .nilFunc/\bW o w G g nv m.id (wY s m r v) e w'):=by
 obtain ⟨j,rfl⟩:∃ j:Nat,r=(j:Int):=⟨r.toNat,by omega⟩
 have hj:j<m.aW.length:=by omega
 have c9:=h.c9
 have cj:=h.yg j hj
 have fj:=h.aW.free j
 have hle:=h.rle
 obtain ⟨h1,k1⟩:=h.afD j v
 have HD:Hid (Calls aA 140 #[au g.M,ah 0,ah (v:Int)] (w.setCell ⟨g.X,j,none⟩ (ah (v:Int))) (fun e w'=>e = .returned .nilFunc/\bW o w G g nv m.id (wY s m (j:Int) v) e w')):=by
  refine (OW h1 0 v hres).mono ?_
  rintro e w' ⟨rfl,hp⟩
  refine ⟨rfl,bW.after (k1.oW (by simp [eH])) ?_⟩
  unfold wY
  rw [Int.toNat_natCast]
  exact hp
 generalize wY s m (j:Int) v=R at *
 generalize m.aW.getD j 0=Sl at *
 generalize m.aW.length=n at *
 generalize m.id=mi at *
 clear h h1 k1
 go_enter func226,ntmps226
 go_wp2_with fail
 refine HD.out.mono ?_
 rintro e w1 ⟨rfl,hp⟩
 have HP:=ay hp
 clear hp
 go_wp2_with fail
 go_ret
 exact ⟨rfl,HP.out⟩
end
section
variable {o:Ow} {w w':World} {G:fU} {g:MG} {s:Sh} {m:MS} {nv:Value}
theorem bM.m0 {ev:Option Ev} (h:bM o w G g s m ev nv):w.cell? ⟨g.M,0,none⟩=some (au G.S):=h.cell 0 _ (fun _ _=>rfl)
theorem bM.s0 {ev:Option Ev} (h:bM o w G g s m ev nv):w.cell? ⟨G.S,0,none⟩=some (au (G.D 0))/\w.cell? ⟨G.S,1,none⟩=some (au G.B)/\w.cell? ⟨G.S,2,none⟩=some (au G.Q):=by
 obtain ⟨v,h1,_⟩:=h.sh.sh
 exact ⟨h1.cell 0 rfl,h1.cell 1 rfl,h1.cell 2 rfl⟩
theorem Z5 (h:bM o w G g s m none nv) (op:jy) (v:Value) (hv:fE o w g.Nt g.M (.get op) v) (h0:0<=op.a) (hr:op.a<m.aW.length) (hres:m.dG.length<=1000000000):∃ bs:List Nat,v = .func (.func 230) #[] (bs.map aJ).toArray/\Calls aA 230 (bs.map aJ).toArray w (bW o w G g nv m.id (stepM s m (.get op))):=by
 obtain ⟨bs,hbs,hcap⟩:=hv
 refine ⟨bs,hbs,?_⟩
 obtain ⟨b0,b1,rfl,⟨o0,k0⟩,⟨o1,k1⟩⟩:=caps2 hcap
 obtain ⟨ok,oa,ob,oc⟩:=op
 have c0:w.cell? ⟨b0,0,none⟩=some (au g.M):=k0.cell 0 rfl
 have c1:w.cell? ⟨b1,2,none⟩=some (ah ob):=k1.cell 2 rfl
 have m0:=h.m0
 have s0:=h.s0.1
 show Calls aA 230 #[au b0,au b1] w _
 have hkd:aj aB w w.drew:=(aj.refl aB w).drew
 have hd:=h.still hkd
 have HF:Hid (Calls aA 57 #[au (G.D 0),ah ob] w.drew fun e w'=>(∃ er:Int,e = .returned (.tuple #[ah (s.H.jc ob:Int),ah er]))/\w'=w.drew):=by
  refine (DI hd.sh.heap ob).mono ?_
  rintro e w' ⟨rfl,rfl⟩
  exact ⟨⟨_,rfl⟩,rfl⟩
 have HD:Hid (Calls aA 226 #[au g.M,ah oa,ah (s.H.jc ob:Int)] w.drew (fun e w'=>e = .returned .nilFunc/\bW o w G g nv m.id (stepM s m (.get ⟨ok,oa,ob,oc⟩)) e w')):=by
  refine (Z4 hd oa (s.H.jc ob) h0 hr hres).mono ?_
  rintro e w' ⟨rfl,hp⟩
  exact ⟨rfl,hp.after hkd.bV⟩
 have HB:Hid (w.drew.cell? ⟨b0,0,none⟩=some (au g.M)/\w.drew.cell? ⟨b1,1,none⟩=some (ah oa)):=⟨(hkd.aH k0 (fun f=>f)).cell 0 rfl,(hkd.aH k1 (fun f=>f)).cell 1 rfl⟩
 generalize stepM s m (.get ⟨ok,oa,ob,oc⟩)=R at *
 generalize s.H.jc ob=x at *
 generalize m.id=mi at *
 clear h hcap hbs hkd hd k0 k1 o0 o1 h0 hr hres
 go_enter func230,ntmps230
 go_wp2_with fail
 refine bG 9 rfl (by kernel_rfl) (by kernel_rfl) (fun K hK=>?_)
 change wpStill _ _ (ajr _) _ _ _
 simp only [List.take_succ_cons,ajs,ajt,ajn] at hK ⊢
 repeat still_step
 refine wpStill_nil ?_
 change ite _ (Oper.wp _ _ _ _ _ _) _
 go_simp
 refine HF.out.mono ?_
 rintro e w1 ⟨⟨er,rfl⟩,rfl⟩
 refine hK _ _ ?_
 clear hK K
 clear c0 c1 m0 s0 HF
 obtain ⟨W1,hW1⟩:∃ W1,W1=w.drew:=⟨_,rfl⟩
 rw [<- hW1] at HB HD ⊢
 clear hW1
 repeat still_step
 refine wpStill_nil ?_
 have c0:=HB.out.1
 have c1:=HB.out.2
 go_wp2_with fail
 refine HD.out.mono ?_
 rintro e w2 ⟨rfl,hp⟩
 have HP:=ay hp
 clear hp
 go_wp2_with fail
 go_ret
 exact HP.out
end
section
variable {o:Ow} {w w':World} {G:fU} {g:MG} {s:Sh} {m:MS} {nv:Value}
theorem mV:∀ (fn:Fn) (first aO:Array Value) (w:World),(Instr.makeFunc fn first aO).run aA w = .ok (.func fn first aO) w:=fun _ _ _ _=>rfl
end
section
variable {w w':World} {R X aO:Nat} {c:bK} {K:List Nat}
structure nU (w:World) (R X aO:Nat) (c:bK) (K:List Nat):Prop where
 aH:aF w R (c.cells++[.slice (some ⟨X,0,none⟩) K.length aO]) 145
 jh:∃ cur:List Value,aF w X cur 3/\∀ (j:Nat) (u:Value),(aS K)[j]?=some u->cur[j]?=some u
 len:c.b=(K.length:Int)
 ok:c.ok=true
 aO:K.length<=aO
theorem nU.lU (h:nU w R X aO c K):1<=K.length/\K.length<=4096:=by
 have h1:=(jC h.ok).1
 have h2:=h.len
 omega
theorem Sm (h:nU w R X aO c K) (B k:Nat) (hB:B<K.length) (hk:K.getD B 0=k+1) (h4:k<4):Calls aA 102 #[au R,ah (B:Int)] w fun e w'=>e = .returned (.tuple #[ah (k:Int),.bool true])/\w=w':=by
 have hb:=h.aH
 obtain ⟨c0,c1,c2,c3,c4,c5,c6⟩:=c
 simp only [bK.cells,List.cons_append,akr] at hb
 have y7:=hb.cell 7 rfl
 obtain ⟨cur,OX,hcv⟩:=h.jh
 have z:=OX.cell B (hcv _ _ (uw hB))
 rw [hk] at z
 have hs:=h.lU
 have hcap:=h.aO
 have d1:decide ((K.length:Int)<=(B:Int))=false:=gJ (by omega)
 have d2:((((k+1:Nat):Int))==0)=false:=by simp;omega
 have d3:IntKind.i64.wrap ((((k+1:Nat):Int)) - 1)=(k:Int):=by rw [IntWalk.i64_in _ (by omega)];omega
 obtain ⟨q,hq⟩:∃ q:Int,q=((k+1:Nat):Int):=⟨_,rfl⟩
 rw [<- hq] at z d2 d3
 have hBI:(B:Int)<(K.length:Int):=by omega
 have Jh:(0:Int)<=(B:Int):=by omega
 generalize K.length=L at *
 clear h hb hk hs hq hB
 go_enter func102,ntmps102
 go_wp2_with fail
 go_ret2
 exact ⟨rfl,rfl⟩
theorem JV (h:nU w R X aO c K) (ww B k:Nat) (hw:c.w=ww) (hB:B<K.length) (hk:K.getD B 0=k+1) (h4:k<4) (hT:lu w) (hS:jk w):Calls aA 63 #[au R,ah (B:Int)] w fun e w'=>∃ v,e = .returned v/\w'.ownsRow w.heap.size 3 1 v (ww/2^(k+1)) ((mP (ww/2^(k+1)) (2^(k+1)) (B*ww)).map fun x:Nat => ah (x:Int))/\aj aB w w':=by
 have HA:=ay (KR h.ok h.len hw k B h4 hB w hT hS)
 have uN:=ay (Sm h B k hB hk h4)
 have hb:=h.aH
 obtain ⟨c0,c1,c2,c3,c4,c5,c6⟩:=c
 simp only [bK.cells,List.cons_append,akr] at *
 have y0:=hb.cell 0 rfl;have y1:=hb.cell 1 rfl;have y2:=hb.cell 2 rfl;have y3:=hb.cell 3 rfl;have y4:=hb.cell 4 rfl;have y5:=hb.cell 5 rfl;have y6:=hb.cell 6 rfl
 generalize mP (ww/2^(k+1)) (2^(k+1)) (B*ww)=sl at *
 generalize ww/2^(k+1)=per at *
 clear h hb hB hk h4 hT hS hw
 go_enter func63,ntmps63
 go_wp2_with (first
  | (go_at_call 102;refine uN.out.mono ?_;rintro e w1 ⟨rfl,rfl⟩)
  | (go_at_call 103;refine HA.out.mono ?_;rintro e w1 ⟨v,rfl,ho,hk1⟩;have HO:=ay ho;have HKK:=ay hk1;clear ho hk1))
 go_ret
 exact ⟨_,rfl,HO.out,HKK.out⟩
theorem OY (h:iF w R X c K):Calls aA 101 #[au R] w fun e w'=>∃ R' X' aO,e = .returned (au R')/\nU w' R' X' aO c K/\aj aB w w':=by
 have hb:=h.aH
 have hlen:=h.lU
 have HC:=ay (CO (some ⟨X,0,none⟩) K.length K.length (aS K) w.drew ⟨by simp [aS],fun _=>⟨X,0,rfl,fun j u hj=>by
  rw [Nat.zero_add]
  exact ((aj.refl aB w).drew.aH h.jh (fun f=>f)).cell j hj⟩⟩ (fun e=>by cases e) (by omega) (fun u hu=>by obtain ⟨z,_,rfl⟩:=List.mem_map.1 hu;rfl))
 have H:=ay h
 have EI:Hid (1<=K.length):=hlen.1
 obtain ⟨c0,c1,c2,c3,c4,c5,c6⟩:=c
 simp only [bK.cells,List.cons_append,akr] at hb
 have y0:=hb.cell 0 rfl;have y1:=hb.cell 1 rfl;have y2:=hb.cell 2 rfl;have y3:=hb.cell 3 rfl;have y4:=hb.cell 4 rfl;have y5:=hb.cell 5 rfl;have y6:=hb.cell 6 rfl;have y7:=hb.cell 7 rfl
 generalize hKL:K.length=kl at *
 have HKL:=ay hKL
 clear h hb hlen hKL
 go_enter func101,ntmps101
 go_wp2_with fail
 go_region_held3 (fun w'=>w'.cell? ⟨R,0,none⟩=some (ah c0)/\w'.cell? ⟨R,1,none⟩=some (ah c1)/\w'.cell? ⟨R,2,none⟩=some (ah c2)/\w'.cell? ⟨R,3,none⟩=some (ah c3)/\w'.cell? ⟨R,4,none⟩=some (ah c4)/\w'.cell? ⟨R,5,none⟩=some (ah c5)/\w'.cell? ⟨R,6,none⟩=some (ah c6)/\w'.cell? ⟨R,7,none⟩=some (.slice (some ⟨X,0,none⟩) kl kl))
  (first | exact ⟨y0, y1, y2, y3, y4, y5, y6, y7⟩ | exact ⟨bI.out.still y0, bI.out.still y1, bI.out.still y2, bI.out.still y3, bI.out.still y4, bI.out.still y5, bI.out.still y6, bI.out.still y7⟩ | exact ⟨(bI.out.alloc _).still y0, (bI.out.alloc _).still y1, (bI.out.alloc _).still y2, (bI.out.alloc _).still y3, (bI.out.alloc _).still y4, (bI.out.alloc _).still y5, (bI.out.alloc _).still y6, (bI.out.alloc _).still y7⟩ | fail "nR")
  ((go_at_call 85
    refine HC.out.mono ?_
    rintro e w1 ⟨v,rfl,hown,hk1⟩
    obtain ⟨g,cp,rfl,hge⟩:=JQ hown EI.out
    have HGE:=ay hge
    have HOWN:=ay hown
    have bI:=ay ((aj.refl aB w).drew.trans hk1)
    clear hown hk1 hge))
 obtain ⟨W2,hW2⟩:∃ W',W'=w1.alloc (.cells #[ah c0,ah c1,ah c2,ah c3,ah c4,ah c5,ah c6,.slice (some ⟨g,0,none⟩) kl cp] 145):=⟨_,rfl⟩
 rw [<- hW2]
 go_wp2_with fail
 go_ret
 have hk2:aj aB w1 W2:=by rw [hW2];exact (aj.refl _ _).alloc _
 rcases HOWN.out.2 with ⟨h,_⟩|⟨g',cap',cur,hv,hb,hg,hn,hm,hs,hc⟩
 ·cases h
 ·cases hv
  refine ⟨w1.heap.size,g,cp,rfl,⟨?_,?_,H.out.len,H.out.ok,?_⟩,bI.out.trans hk2⟩
  ·rw [hW2,HKL.out];exact aF.bC w1 _ _
  ·refine ⟨cur.toList,hk2.aH (by unfold aF;simpa using hg) (fun f=>f),fun i v hi=>?_⟩
   rw [<- hc] at hi
   have hl:=(List.getElem?_eq_some_iff.1 hi).1
   rw [List.getElem?_take_of_lt (by simp at hl;omega)] at hi
   exact hi
  ·rw [HKL.out];exact hn
end
section
variable {w w':World} {D:Nat->Nat} {H:HS}
theorem Bo (h:aI w D H):Calls aA 62 #[au (D 0)] w fun e w'=>∃ R' X' aO,e = .returned (au R')/\nU w' R' X' aO H.c H.K/\aj aB w w':=by
 have y1:=h.aH.cell 1 rfl
 have HC:Hid (Calls aA 101 #[au (D 3)] w fun e w'=>∃ R' X' aO,e = .returned (au R')/\nU w' R' X' aO H.c H.K/\aj aB w w'):=OY h.ji
 clear h
 go_enter func62,ntmps62
 go_wp2_with fail
 refine HC.out.mono ?_
 rintro e w1 ⟨R',X',aO,rfl,h1,k1⟩
 have H1:=ay h1
 have K1:=ay k1
 clear h1 k1
 go_wp2_with fail
 go_ret
 exact ⟨_,_,_,rfl,H1.out,K1.out⟩
theorem Vp (c:Nat) (hc:c<2) (w:World):Calls aA 276 #[ah (c:Int)] w fun e w'=>e = .returned (.bool true)/\w=w':=by
 have:c=0\/c=1:=by omega
 rcases this with rfl|rfl
 all_goals
  clear hc
  go_enter func276,ntmps276
  go_wp2_with fail
  go_ret
  exact ⟨rfl,rfl⟩
theorem ach (h:aI w D H) (B c:Nat) (hB:H.K.getD B 0≠0) (hc:c<2):Calls aA 266 #[au (D 0),ah (B:Int),ah (c:Int)] w fun e w'=>∃ W g n cp,e = .returned (.tuple #[aJ W.heap.size,ah 0])/\aj aB w W/\W.ownsRow w.heap.size 3 1 (.slice (some ⟨g,0,none⟩) n cp) n (aS (H.bH B))/\n<=256/\aj aB W w'/\aF w' W.heap.size [aJ (D 0),.slice (some ⟨g,0,none⟩) n cp,ah (B:Int),ah (c:Int)] 266:=by
 have HT:=ay (Bo h)
 have hBl:B<H.K.length:=by
  rcases ajz B H.K.length with g|g
  ·exact g
  ·rw [ajg,List.getElem?_eq_none g] at hB
   simp at hB
 have hk4:H.K.getD B 0<=4:=by
  rw [ajg,List.getElem?_eq_getElem hBl]
  exact h.ji.le _ (List.getElem_mem hBl)
 have hn:=qH h.ji.ok h.ji.len h.cw
 have hpos:0<H.ww/2^(H.K.getD B 0):=by
  have h2:2^(H.K.getD B 0)<=16:=Nat.pow_le_pow_right (by decide) hk4
  exact Nat.div_pos (by omega) (Nat.two_pow_pos _)
 have hle:H.ww/2^(H.K.getD B 0)<=256:=Nat.le_trans (Nat.div_le_self _ _) hn.2.2.2.1
 have HS:Hid (∀ w1 R X aO,nU w1 R X aO H.c H.K->aj aB w w1->Calls aA 63 #[au R,ah (B:Int)] w1 fun e w'=>∃ g cp n,e = .returned (.slice (some ⟨g,0,none⟩) n cp)/\n=(H.bH B).length/\1<=n/\n<=256/\w'.ownsRow w.heap.size 3 1 (.slice (some ⟨g,0,none⟩) n cp) n (aS (H.bH B))/\aj aB w w'):=fun w1 R X aO ht k1=>by
  have h1:=JV ht H.ww B (H.K.getD B 0 - 1) h.cw hBl (by omega) (by omega) (h.qQ.aK k1) (h.sizes.aK k1)
  rw [show H.K.getD B 0 - 1+1=H.K.getD B 0 by omega] at h1
  refine h1.mono ?_
  rintro e w2 ⟨v,rfl,ho,k2⟩
  have e1:H.bH B=mP (H.ww/2^(H.K.getD B 0)) (2^(H.K.getD B 0)) (B*H.ww):=by unfold HS.bH;rw [aT hB]
  obtain ⟨g,cp,rfl,_⟩:=JQ ho hpos
  exact ⟨g,cp,_,rfl,by rw [e1,wL],hpos,hle,by rw [e1];exact bQ ho k1.size,k1.trans k2⟩
 have hcc:=hc
 clear h hB hBl hk4 hn hpos hle
 generalize H.bH B=sl at *
 go_enter func266,ntmps266
 go_wp2_with fail
 refine HT.out.mono ?_
 rintro e w1 ⟨R',X',aO,rfl,h1,k1⟩
 have mJ:=ay (HS.out _ _ _ _ h1 k1)
 clear h1 k1 HT
 go_wp2_with fail
 refine mJ.out.mono ?_
 rintro e w2 ⟨g,cp,n,rfl,hn,hn1,hn2,ho,k2⟩
 have HO:=ay ho
 have K2:=ay k2
 have HN:=ay hn
 have d0:((n:Int)==0)=false:=by simp;omega
 clear ho k2 mJ HS hn hn1
 go_wp2_with (go_at_call 276;refine (Vp c hcc _).mono ?_;rintro e w3 ⟨rfl,rfl⟩)
 obtain ⟨W3,hW3⟩:∃ W',W'=w2.alloc (.cells #[aJ (D 0),.slice (some ⟨g,0,none⟩) n cp,ah (B:Int),ah (c:Int)] 266):=⟨_,rfl⟩
 rw [<- hW3]
 go_ret2
 have k3:aj aB w2 W3:=by rw [hW3];exact (aj.refl _ _).alloc _
 have hb:aF W3 w2.heap.size [aJ (D 0),.slice (some ⟨g,0,none⟩) n cp,ah (B:Int),ah (c:Int)] 266:=by rw [hW3];exact aF.bC w2 _ _
 exact ⟨w2,g,n,cp,rfl,K2.out,HO.out,hn2,k3,hb⟩
end
section
variable {o:Ow} {w w':World} {G:fU} {s:Sh} {q:Nat} {v:Value} {sl:List Nat} {c:Nat}
theorem lF.form (h:lF o w (G.D 0) q v sl c):(v = .pointer none/\sl=[])\/∃ C b a cp,v=aJ C/\o C=q/\aF w C [aJ (G.D 0),.slice a sl.length cp,ah (b:Int),ah (c:Int)] 266/\dH o w 3 (.slice a sl.length cp) (aS sl)/\sl.length<=cp/\sl.length<=4000000000000:=by
 rcases h with h|⟨C,b,sv,h1,h2,h3,h4⟩
 ·exact .inl h
 ·obtain ⟨a,cp,rfl,hl,hm,_⟩:=h4.form
  rw [show (aS sl).length=sl.length by simp [aS]] at *
  exact .inr ⟨C,b,a,cp,h1,h2,h3,h4,hl,hm⟩
theorem lF.bg {I:List Nat} {D0:Nat} (h:lF o w D0 q v sl c) (k:aj (In o I) w w') (h0:I.contains 0=false) (hq:I.contains q=false):lF o w' D0 q v sl c:=by
 rcases h with h|⟨C,b,sv,h1,h2,h3,h4⟩
 ·exact .inl h
 ·exact .inr ⟨C,b,sv,h1,h2,h3.bg k h2 hq,h4.bg k h0⟩
theorem lF.still {D0:Nat} (h:lF o w D0 q v sl c) (k:aj aB w w'):lF o w' D0 q v sl c:=by
 rcases h with h|⟨C,b,sv,h1,h2,h3,h4⟩
 ·exact .inl h
 ·exact .inr ⟨C,b,sv,h1,h2,k.aH h3 (fun f=>f),h4.still k⟩
theorem lF.ext {o':Ow} {D0:Nat} (h:lF o w D0 q v sl c) (e:bZ w o o'):lF o' w D0 q v sl c:=by
 rcases h with h|⟨C,b,sv,h1,h2,h3,h4⟩
 ·exact .inl h
 ·exact .inr ⟨C,b,sv,h1,(e C h3.lt).trans h2,h3,h4.ext e⟩
theorem Vq (h:lF o w (G.D 0) q v sl c):Calls aA 287 #[v] w fun e w'=>e = .returned (ah (sl.length:Int))/\w=w':=by
 rcases h.form with ⟨rfl,rfl⟩|⟨C,b,a,cp,rfl,_,h3,_,_,hm⟩
 ·clear h
  go_enter func287,ntmps287
  go_wp2_with fail
  go_ret
  exact ⟨rfl,rfl⟩
 ·have y1:=h3.cell 1 rfl
  clear h h3
  generalize sl.length=n at *
  go_enter func287,ntmps287
  go_wp2_with fail
  go_ret
  exact ⟨rfl,rfl⟩
theorem Js (h:lF o w (G.D 0) q v sl c):Calls aA 278 #[v] w fun e w'=>e = .returned (.bool (decide (sl=[])))/\w=w':=by
 have HL:=ay (Vq h)
 have HD:Hid ((((sl.length:Int))==0)=decide (sl=[])):=by
  unfold Hid
  cases sl with
  | nil=>rfl
  | cons a r=>simp;omega
 have hf:(v = .pointer none)\/∃ C,v=aJ C:=by
  rcases h.form with ⟨h,_⟩|⟨C,_,_,_,h,_⟩
  ·exact .inl h
  ·exact .inr ⟨C,h⟩
 clear h
 generalize decide (sl=[])=b at *
 generalize sl.length=n at *
 rcases hf with rfl|⟨C,rfl⟩
 all_goals
  go_enter func278,ntmps278
  go_wp2_with fail
  refine HL.out.mono ?_
  rintro e w1 ⟨rfl,rfl⟩
  have HDD:=HD.out
  clear HL
  go_wp2_with fail
  go_ret
  exact ⟨rfl,rfl⟩
def Sh.uT (s:Sh) (c a:Nat):Bool := !(!s.H.bn a||s.H.iU a==c)
theorem aho (hq:20<=q\/q=5):([1,q]:List Nat).contains 0=false/\([1,q]:List Nat).contains 2=false/\([1,q]:List Nat).contains 3=false/\([1,q]:List Nat).contains 4=false/\([q]:List Nat).contains 0=false/\([q]:List Nat).contains 1=false/\∀ i,i<8->([1,q]:List Nat).contains (10+i)=false:=by
 refine ⟨?_,?_,?_,?_,?_,?_,fun i hi=>?_⟩<;>simp<;>omega
theorem Vr {a:Nat} {r:List Nat} (h:fH o w G s) (hc:lF o w (G.D 0) q v (a::r) c) (hq:20<=q\/q=5) (h8:s.aV.length<=8):Calls aA 280 #[v] w fun e w'=>e = .returned (.tuple #[ah ((if s.uT c a then a else 0:Nat):Int),.bool (s.uT c a)])/\fH o w' G { s with H:=if s.uT c a then s.H.jH a else s.H }/\lF o w' (G.D 0) q v r c/\aj (In o [1,q]) w w':=by
 have HDn:Hid (Calls aA 278 #[v] w fun e w'=>e = .returned (.bool false)/\w=w'):=Js hc
 obtain ⟨q1,q2,q3,q4,q5,q6,q7⟩:=aho hq
 rcases hc.form with ⟨_,h1⟩|⟨C,b,a0,cp,rfl,oC,hb,hr,hl,hm⟩
 ·cases h1
 simp only [List.length_cons] at hb hr hl hm
 have hcut:=hr.cut 1 (by omega)
 rw [show (aS (a::r)).drop 1=aS r from rfl] at hcut
 obtain ⟨a',c',ee,_,_,hcell⟩:=hr.form
 simp only [Value.slice.injEq] at ee
 obtain ⟨e1,e9,e2⟩:=ee
 subst e1;subst e2
 obtain ⟨b',off',rfl,hx⟩:=hcell 0 (ah (a:Int)) rfl
 rw [Nat.add_zero] at hx
 clear e9
 have XP:=fun w=>IV (P:=aA) (T:=32) (e:=3) (by kernel_rfl) (by kernel_rfl) (some ⟨b',off',none⟩) (r.length+1) cp 1 (by omega) w
 simp only [show (((1:Nat)):Int)=1 from rfl] at XP
 have hpos:(0:Int)<((r.length+1:Nat):Int):=by omega
 have y0:=hb.cell 0 rfl
 have y1:=hb.cell 1 rfl
 have f1:=hb.free 1
 generalize hL:r.length+1=L at *
 generalize hca:vw (some ⟨b',off',none⟩) cp 1=ca at *
 obtain ⟨W1,hW1⟩:∃ W1,W1=w.setCell ⟨C,1,none⟩ (.slice ca (L - 1) (cp - 1)):=⟨_,rfl⟩
 have kC:aj (only C) w W1:=by rw [hW1];exact (aj.refl (only C) _).put _ _
 have k1:aj (In o [q]) w W1:=kC.xI oC (by simp)
 have kk1:aj (In o [1,q]) w W1:=k1.oW (by simp)
 have hb1:aF W1 C [aJ (G.D 0),.slice ca (L - 1) (cp - 1),ah (b:Int),ah (c:Int)] 266:=by rw [hW1];exact hb.set 1 _
 have hH1:=h.zU k1 q5 q6
 have hr1:dH o W1 3 (.slice ca (L - 1) (cp - 1)) (aS r):=hcut.bg k1 q5
 have hcur1:lF o W1 (G.D 0) q (aJ C) r c := .inr ⟨C,b,_,rfl,oC,hb1,hr1⟩
 have z0:=hb1.cell 0 rfl
 have z3:=hb1.cell 3 rfl
 have HW:=ay hW1
 have hSh:∀ w' H,aI w' G.D H->aj (In o [1,q]) w w'->fH o w' G { s with H:=H }:=fun w' H hH k =>
  h.iZ (s':={ s with H:=H }) k q1 hH (h.rH.aK k (dR h.oB q2)) (h.sJ.bg k q1 h.oQ q3) (h.dw.bg k h.oF q4) rfl (h.JU k q1 (fun i hi=>q7 i (by omega)))
 have LD:=ay (FB hH1 a)
 by_cases hf:s.uT c a=true
 ·have hbn:s.H.bn a=true:=by unfold Sh.uT at hf;cases h9:s.H.bn a<;>simp_all
  have hne:s.H.iU a≠c:=fun e=>by unfold Sh.uT at hf;simp [e] at hf
  have d1:((s.H.iU a:Int)==(c:Int))=false:=by simp;omega
  have d1':decide (s.H.iU a=c)=false:=gJ hne
  rw [aZ hbn,aZ hbn] at LD
  rw [hf,aZ rfl,aZ rfl]
  have HFr:Hid (Calls aA 288 #[au (G.D 0),ah (a:Int)] W1 fun e w'=>(∃ er:Int,e = .returned (ah er))/\fH o w' G { s with H:=s.H.jH a }/\lF o w' (G.D 0) q (aJ C) r c/\aj (In o [1,q]) w w'):=by
   refine (ZN hH1 a).mono ?_
   rintro e w' ⟨⟨er,rfl⟩,g1,g2⟩
   have k2:aj (In o [1]) W1 w':=g2.mono (fun x _ hx=>by
    obtain ⟨i,hi,e⟩:=hx
    unfold In
    rw [e,h.oD i hi]
    simp)
   have k3:aj (In o [1,q]) w w':=kk1.trans (k2.oW (by simp))
   exact ⟨⟨_,rfl⟩,hSh w' _ g1 k3,hcur1.bg k2 rfl (by simp;omega),k3⟩
  generalize s.H.iU a=kc at *
  generalize { s with H:=s.H.jH a }=s' at *
  clear h hc hb hr hcut hcell kC k1 kk1 hb1 hH1 hr1 hcur1 hSh hbn hne hf hca hL hl hm hW1
  go_enter func280,ntmps280
  go_wp2_with fail
  refine HDn.out.mono ?_
  rintro e w2 ⟨rfl,rfl⟩
  clear HDn
  go_wp2_with fail
  rw [<- HW.out]
  refine LD.out.mono ?_
  rintro e w2 ⟨rfl,rfl⟩
  clear LD
  go_wp2_with fail
  refine HFr.out.mono ?_
  rintro e w2 ⟨⟨er,rfl⟩,g1,g2,g3⟩
  have HX:=ay (And.intro g1 (And.intro g2 g3))
  clear g1 g2 g3 y0 y1 f1 hx z0 z3 HFr
  go_wp2_with fail
  go_ret2
  exact ⟨rfl,HX.out.1,HX.out.2.1,HX.out.2.2⟩
 ·have hf':s.uT c a=false:=by simpa using hf
  rw [hf',aT (by decide),aT (by decide)]
  have HE:Hid (fH o W1 G { s with H:=s.H }/\lF o W1 (G.D 0) q (aJ C) r c/\aj (In o [1,q]) w W1):=⟨hSh W1 s.H hH1 kk1,hcur1,kk1⟩
  by_cases hbn:s.H.bn a=true
  ·have hce:s.H.iU a=c:=by
    unfold Sh.uT at hf'
    rw [hbn] at hf'
    simpa using hf'
   have d1:((s.H.iU a:Int)==(c:Int))=true:=by simp [hce]
   have d1':decide (s.H.iU a=c)=true:=fK hce
   rw [aZ hbn,aZ hbn] at LD
   generalize s.H.iU a=kc at *
   clear h hc hb hr hcut hcell kC k1 kk1 hb1 hH1 hr1 hcur1 hSh hbn hce hf hf' hca hL hl hm hW1
   go_enter func280,ntmps280
   go_wp2_with fail
   refine HDn.out.mono ?_
   rintro e w2 ⟨rfl,rfl⟩
   clear HDn
   go_wp2_with fail
   rw [<- HW.out]
   refine LD.out.mono ?_
   rintro e w2 ⟨rfl,rfl⟩
   clear LD
   go_wp2_with fail
   go_ret2
   exact ⟨rfl,HE.out.1,HE.out.2.1,HE.out.2.2⟩
  ·rw [aT hbn,aT hbn] at LD
   clear h hc hb hr hcut hcell kC k1 kk1 hb1 hH1 hr1 hcur1 hSh hbn hf hf' hca hL hl hm hW1
   go_enter func280,ntmps280
   go_wp2_with fail
   refine HDn.out.mono ?_
   rintro e w2 ⟨rfl,rfl⟩
   clear HDn
   go_wp2_with fail
   rw [<- HW.out]
   refine LD.out.mono ?_
   rintro e w2 ⟨rfl,rfl⟩
   clear LD
   go_wp2_with fail
   go_ret2
   exact ⟨rfl,HE.out.1,HE.out.2.1,HE.out.2.2⟩
end
section
variable {o:Ow} {w w':World} {G:fU} {g:MG} {s:Sh} {m:MS} {nv:Value}
theorem bM.DJ {ev:Option Ev} {o':Ow} (h:bM o w G g s m ev nv) (k:aj aB w w') (e:bZ w o o') (hf:kJ o' w'):bM o' w' G g s m ev nv:=by
 obtain ⟨pv,rv,h1,h2,h3⟩:=h.aH
 obtain ⟨_,v,hb,_⟩:=id h.aY
 have k0:aj (In o' []) w w':=k.bV
 have e1:=(e _ h1.lt).trans h.oM
 have e2:=(e _ h.aW.lt).trans h.oX
 have e3:=(e _ hb.lt).trans h.CU
 have e4:=(e _ h.nt.lt).trans h.zx
 exact ⟨h.sh.move (I:=[]) k.bV rfl h.box8 e hf,⟨pv,rv,h1.bg k0 e1 rfl,(h2.ext e).bg k0 rfl,(h3.ext e).bg k0 rfl⟩,e1,h.aW.bg k0 e2 rfl,e2,(h.aY.ext e).bg k0 rfl e3 rfl,e3,h.nt.bg k0 e4 rfl,e4,h.mF,h.box8,h.qE,h.uq,h.CV⟩
end
theorem afF {o:Ow} {w:World} {a b c d e:List Value × TypeId} {bs:List Nat} (h:tq o w [a,b,c,d,e] bs):∃ b0 b1 b2 b3 b4,bs=[b0,b1,b2,b3,b4]/\(o b0=0/\aF w b0 a.1 a.2)/\(o b1=0/\aF w b1 b.1 b.2)/\(o b2=0/\aF w b2 c.1 c.2)/\(o b3=0/\aF w b3 d.1 d.2)/\(o b4=0/\aF w b4 e.1 e.2):=by
 obtain ⟨b0,r0,rfl,o0,k0,b1,r1,rfl,o1,k1,b2,r2,rfl,o2,k2,b3,r3,rfl,o3,k3,b4,r4,rfl,o4,k4,rfl⟩:=h
 exact ⟨b0,b1,b2,b3,b4,rfl,⟨o0,k0⟩,⟨o1,k1⟩,⟨o2,k2⟩,⟨o3,k3⟩,⟨o4,k4⟩⟩
section
variable {o:Ow} {w w':World} {G:fU} {g:MG} {s:Sh} {m:MS} {nv:Value}
theorem bM.c12 {ev:Option Ev} (h:bM o w G g s m ev nv):w.cell? ⟨g.M,12,none⟩=some (ah (m.oq:Int)):=h.cell 12 _ (fun _ _=>rfl)
theorem bM.c11 {ev:Option Ev} (h:bM o w G g s m ev nv):w.cell? ⟨g.M,11,none⟩=some (au g.Nt):=h.cell 11 _ (fun _ _=>rfl)
theorem bM.c14 {ev:Option Ev} (h:bM o w G g s m ev nv):w.cell? ⟨g.M,14,none⟩=some (ah (m.dQ:Int)):=h.cell 14 _ (fun _ _=>rfl)
end
section
variable {o:Ow} {w w':World} {G:fU} {g:MG} {s:Sh} {m:MS} {nv:Value}
def JW:MD->Bool
 | .nil=>false
 | .eX _ _ _=>false
 | _=>true
theorem fE.aci {Nt M:Nat} {d:MD} {v:Value} (h:fE o w Nt M d v) (hd:JW d=true):∃ (fn:Nat) (caps:Array Value),v = .func (.func fn) #[] caps:=by
 rcases h.form with rfl|h1
 ·exfalso
  cases d
  case nil=>cases hd
  case eX=>cases hd
  case last rd=>obtain ⟨_,_,bs,e,_⟩:=h;cases e
  case kU=>obtain ⟨bs,e,_⟩:=h;cases e
  case once=>obtain ⟨_,⟨bs,e,_⟩,_⟩:=h;cases e
  case lH=>obtain ⟨_,_,_,_,bs,e,_⟩:=h;cases e
  case add=>obtain ⟨_,_,bs,e,_⟩:=h;cases e
  case nT=>obtain ⟨_,_,bs,e,_⟩:=h;cases e
  case iK=>obtain ⟨_,_,bs,e,_⟩:=h;cases e
  case kX=>obtain ⟨_,_,bs,e,_⟩:=h;cases e
  case field=>obtain ⟨_,_,bs,e,_⟩:=h;cases e
  case load=>obtain ⟨bs,e,_⟩:=h;cases e
  case get=>obtain ⟨bs,e,_⟩:=h;cases e
  case uj=>obtain ⟨_,_,_,_,bs,e,_⟩:=h;cases e
  case alloc=>obtain ⟨bs,e,_⟩:=h;cases e
  case assign=>obtain ⟨bs,e,_⟩:=h;cases e
  case xJ=>obtain ⟨_,_,_,bs,e,_⟩:=h;cases e
  case xK=>obtain ⟨bs,e,_⟩:=h;cases e
  case wP=>obtain ⟨bs,e,_⟩:=h;cases e
  case fill=>obtain ⟨bs,e,_⟩:=h;cases e
  case zero=>obtain ⟨bs,e,_⟩:=h;cases e
 ·exact h1
theorem OZ {v c:Nat} {t:MD} (h:JW t=true):JW (pJ v c t)=true:=by
 unfold pJ
 split
 ·exact h
 ·rfl
theorem X0 {Nt M:Nat} (hf:kJ o w) (v c:Nat) (t:MD) (tv:Value) (ht:fE o w Nt M t tv) (hd:JW t=true):Calls aA 135 #[au Nt,ah (v:Int),ah (c:Int),tv] w fun e w'=>∃ fn caps,e = .returned (.func (.func fn) #[] caps)/\fE o w' Nt M (pJ v c t) (.func (.func fn) #[] caps)/\aj aB w w':=by
 refine (XV hf v c t tv ht).mono ?_
 rintro e w' ⟨nv,rfl,h1,h2⟩
 obtain ⟨fn,caps,rfl⟩:=h1.aci (OZ hd)
 exact ⟨fn,caps,rfl,h1,h2⟩
end
theorem room4:pY 0=1/\pY 1=3/\pY 2=7/\pY 3=15:=by decide
theorem Wp (f:Int) (h0:0<=f) (h1:f<=15) (w:World) (hS:jk w):Calls aA 112 #[ah f] w fun e w'=>e = .returned (.tuple #[ah (oh f:Int),.bool true])/\w=w':=by
 have d0:decide (0<=f)=true:=fK h0
 go_enter func112,ntmps112
 go_wp2_with fail
 go_loop [5] (fun i=>∃ k:Nat,k<4/\i = ah k/\∀ j:Nat,j<k->pY (j:Int)<f) (fun i=>4 - (intOf i).toNat)
 case atStart=>exact ⟨0,by omega,rfl,fun j hj=>by omega⟩
 case round =>
  obtain ⟨k,hk,rfl,hl⟩:=hrel
  by_cases hle:f<=pY (k:Int)
  ·have HE:Hid (oh f=k):=by
    obtain ⟨r0,r1,r2,r3⟩:=room4
    have h4:k=0\/k=1\/k=2\/k=3:=by omega
    have l0:=hl 0;have l1:=hl 1;have l2:=hl 2
    unfold Hid oh
    have r0':pY ((0:Nat):Int)=1:=r0
    have r1':pY ((1:Nat):Int)=3:=r1
    have r2':pY ((2:Nat):Int)=7:=r2
    have r3':pY ((3:Nat):Int)=15:=r3
    rw [r0'] at l0;rw [r1'] at l1;rw [r2'] at l2
    rcases h4 with rfl|rfl|rfl|rfl
    ·rw [r0'] at hle
     rw [aT (by omega),aZ hle]
    ·rw [r1'] at hle
     rw [aT (by omega),aT (by omega),aZ hle]
    ·rw [r2'] at hle
     rw [aT (by omega),aT (by omega),aT (by omega),aZ hle]
    ·rw [r3'] at hle
     rw [aT (by omega),aT (by omega),aT (by omega),aT (by omega),aZ hle]
   have d1:decide (f<=pY (k:Int))=true:=fK hle
   have HR:=ay (E8 (k:Int) w hS)
   generalize pY (k:Int)=r at *
   clear hl hS
   go_wp2_with (go_at_call 158;refine HR.out.mono ?_;rintro e w1 ⟨rfl,rfl⟩)
   go_ret2
   rw [HE.out]
   exact ⟨rfl,rfl⟩
  ·have d1:decide (f<=pY (k:Int))=false:=gJ hle
   have HR:=ay (E8 (k:Int) w hS)
   have HL:Hid (k+1<4/\∀ j:Nat,j<k+1->pY (j:Int)<f):=by
    refine ⟨?_,fun j hj=>?_⟩
    ·have:=room4.2.2.2
     rcases ajz k 3 with h|h
     ·omega
     ·exfalso
      obtain rfl:k=3:=by omega
      exact hle (by rw [show pY ((3:Nat):Int)=15 from this];exact h1)
    ·rcases ajz j k with h|h
     ·exact hl j h
     ·obtain rfl:j=k:=by omega
      omega
   generalize pY (k:Int)=r at *
   clear hl hS
   go_wp2_with (go_at_call 158;refine HR.out.mono ?_;rintro e w1 ⟨rfl,rfl⟩)
   go_round
   case rel=>exact ⟨k+1,HL.out.1,by go_num,HL.out.2⟩
   case measure=>simp [intOf];omega
section
variable {o:Ow} {w w':World} {G:fU} {g:MG} {s:Sh} {m:MS} {nv:Value}
theorem bW.yJ {d:MD} {fn:Nat} {caps:Array Value} (h:bM o w G g s m none nv) (hc:fE o w' g.Nt g.M d (.func (.func fn) #[] caps)) (k:aj aB w w'):bW o w G g nv m.id ⟨s,m,d,none⟩ (.returned (.func (.func fn) #[] caps)) w' :=
 bW.same (r:=⟨s,m,d,none⟩) (h.still k) hc k.bV
theorem Z7 (h:bM o w G g s m none nv) (op:jy):Calls aA 187 #[au g.M,.agg op.cells.toArray] w (bW o w G g nv m.id ⟨s,m,.get op,none⟩):=by
 obtain ⟨ok,oa,ob,oc⟩:=op
 have hc:=kQ (o:=o) [([aJ g.M],56),([ah ok,ah oa,ah ob,ah oc],83)] w h.sh.iV
 have HE:Hid (bW o w G g nv m.id ⟨s,m,.get ⟨ok,oa,ob,oc⟩,none⟩ (.returned (.func (.func 230) #[] #[aJ w.heap.size,aJ (w.heap.size+1)])) (eG w [([aJ g.M],56),([ah ok,ah oa,ah ob,ah oc],83)])):=by
  obtain ⟨b0,b1,e,⟨o0,k0⟩,⟨o1,k1⟩⟩:=caps2 hc.1
  simp only [vY,List.cons.injEq] at e
  obtain ⟨rfl,rfl,_⟩:=e
  exact bW.yJ h ⟨[w.heap.size,w.heap.size+1],rfl,_,_,rfl,o0,k0,_,_,rfl,o1,k1,rfl⟩ hc.2
 have hmf:=mV
 generalize (⟨s,m,.get ⟨ok,oa,ob,oc⟩,none⟩:xM)=R at *
 generalize m.id=mi at *
 clear hc h
 simp only [jy.cells]
 go_enter func187,ntmps187
 go_wp2_with fail
 go_ret
 exact HE.out
end
end
section
open Go.RowKit Go.Sort
def CY:Value->Option (DataW Nat × List MemPlace)
 | .nilFunc=>some (.nil,[])
 | .func (.func f) a b=>if a.size=0/\b.size=0 then some (.held f,[]) else none
 | _=>none
theorem X3 {v:Value} {f:Nat} {ps:List MemPlace} (h:CY v=some (.held f,ps)):v = .func (.func f) #[] #[]:=by
 unfold CY at h
 split at h
 ·simp at h
 ·split at h
  ·rename_i h1
   simp at h
   obtain ⟨rfl,_⟩:=h
   obtain ⟨h1,h2⟩:=h1
   rw [akN h1,akN h2]
  ·simp at h
 ·simp at h
def Z8:DataW Nat:=((((((((DataW.map []).put (.int .i64 1) (.held 184)).put (.int .i64 2) (.held 185)).put (.int .i64 3) (.held 186)).put (.int .i64 4) (.held 187)).put (.int .i64 5) (.held 188)).put (.int .i64 6) (.held 189)).put (.int .i64 7) (.held 190)).put (.int .i64 8) (.held 191)
def EM (k:Int):Option Nat:=if k=1 then some 184 else if k=2 then some 185 else if k=3 then some 186 else if k=4 then some 187 else if k=5 then some 188 else if k=6 then some 189 else if k=7 then some 190 else if k=8 then some 191 else none
theorem adK:Maps.Keyed aA 3:=Maps.int_keyed (q := .i64) (by kernel_rfl)
theorem adL:aA.underlying 192=some (.map 3 191):=by kernel_rfl
theorem vZ {w:World} {b n:Nat} {D:DataW Nat} (h:w.ownsMap aA 3 CY b n D) (hn:n<=100) (k:Int) (hk:(Lit.int .i64 k).wf=true) (f:Nat) :
 ∃ w',(Instr.mapUpdate 192 (.map (some b)) (ah k) (.func (.func f) #[] #[])).run aA w = .ok () w'/\w'.ownsMap aA 3 CY b (n+1) (D.put (.int .i64 k) (.held f))/\w.grownBy w' (some b) :=
 h.update adK adL (by unfold maxLen;omega) (Maps.keyOf_int_mk (q := .i64) (by kernel_rfl) hk) (show CY (.func (.func f) #[] #[])=some (.held f,[]) from rfl)
theorem X4 {w:World} {b n:Nat} (h:w.ownsMap aA 3 CY b n Z8) (k:Int) (f:Nat) (hk:EM k=some f):(Instr.lookup 192 (.map (some b)) (ah k) false).run aA w = .ok (.func (.func f) #[] #[]) w:=by
 have key:∀ k f,(Lit.int .i64 k).wf=true->Z8.atKey (.int .i64 k) .nil = .held f->(Instr.lookup 192 (.map (some b)) (ah k) false).run aA w = .ok (.func (.func f) #[] #[]) w:=fun k f hwf hat=>by
  obtain ⟨v,ps,hr,hv⟩:=h.lookup (z := .nilFunc) adK adL (by kernel_rfl) (zd := .nil) (zp:=[]) rfl (Maps.keyOf_int_mk (q := .i64) (by kernel_rfl) hwf)
  rw [hat] at hv
  rw [hr,X3 hv]
 unfold EM at hk
 split at hk
 ·cases hk;subst k;exact key 1 _ (by decide) rfl
 split at hk
 ·cases hk;subst k;exact key 2 _ (by decide) rfl
 split at hk
 ·cases hk;subst k;exact key 3 _ (by decide) rfl
 split at hk
 ·cases hk;subst k;exact key 4 _ (by decide) rfl
 split at hk
 ·cases hk;subst k;exact key 5 _ (by decide) rfl
 split at hk
 ·cases hk;subst k;exact key 6 _ (by decide) rfl
 split at hk
 ·cases hk;subst k;exact key 7 _ (by decide) rfl
 split at hk
 ·cases hk;subst k;exact key 8 _ (by decide) rfl
 ·cases hk
theorem X5 (w:World):Calls aA 141 #[] w fun e w'=>∃ b,e = .returned (.map (some b))/\aj aB w w'/\∀ W,aj aB w' W->∀ k f,EM k=some f->(Instr.lookup 192 (.map (some b)) (ah k) false).run aA W = .ok (.func (.func f) #[] #[]) W:=by
 have hmm := @run_makeMap aA
 have h0:=World.ownsMap_made w aA 3 CY
 obtain ⟨w1,r1,h1,g1⟩:=vZ h0 (by decide) 1 (by decide) 184
 obtain ⟨w2,r2,h2,g2⟩:=vZ h1 (by decide) 2 (by decide) 185
 obtain ⟨w3,r3,h3,g3⟩:=vZ h2 (by decide) 3 (by decide) 186
 obtain ⟨w4,r4,h4,g4⟩:=vZ h3 (by decide) 4 (by decide) 187
 obtain ⟨w5,r5,h5,g5⟩:=vZ h4 (by decide) 5 (by decide) 188
 obtain ⟨w6,r6,h6,g6⟩:=vZ h5 (by decide) 6 (by decide) 189
 obtain ⟨w7,r7,h7,g7⟩:=vZ h6 (by decide) 7 (by decide) 190
 obtain ⟨w8,r8,h8,g8⟩:=vZ h7 (by decide) 8 (by decide) 191
 have hk0:aj aB w (w.alloc (.map #[] 0)):=(aj.refl _ _).alloc _
 have up:∀ {a b:World},aj aB w a->a.grownBy b (some w.heap.size)->aj aB w b:=fun ha hg=>ha.qh hg (fun k e hk=>by injection e with e;omega)
 have HK:=ay (up (up (up (up (up (up (up (up hk0 g1) g2) g3) g4) g5) g6) g7) g8)
 have HL:Hid (∀ W,aj aB w8 W->∀ k f,EM k=some f->(Instr.lookup 192 (.map (some w.heap.size)) (ah k) false).run aA W = .ok (.func (.func f) #[] #[]) W):=fun W hk k f hf =>
  X4 (h8.kept (row:=none) ⟨hk.os,hk.tape,hk.output,hk.size,fun i hi _=>hk.block i hi (fun f=>f)⟩ (by simp)) k f hf
 clear h0 h1 h2 h3 h4 h5 h6 h7 h8 g1 g2 g3 g4 g5 g6 g7 g8 hk0 up
 go_enter func141,ntmps141
 go_wp2_with fail
 go_ret
 exact ⟨_,rfl,HK.out,HL.out⟩
end
end Go.Proofs.YtanfphjoebobaaaGreatDoor
