/- Parts of a walk, put together and made shorter by a program of mine. No conditions. -/
import Derived.Test.YtanfphjoebobaaaGreatDoorZzcp
import Derived.Laws.OwnMore
namespace Go.Proofs.YtanfphjoebobaaaGreatDoor
set_option maxRecDepth 4000
set_option maxHeartbeats 8000000
section
attribute [local go_sem] Oper.semAt_some
open Go.RowKit
section
variable {o:Ow} {w w':World} {G:Geo} {g:MG} {s:Sh} {m:MS} {nv0:Value}
theorem MAt.lU {H:HS} (h:MAt o w G g s m none nv0) (k:Keep (HF G.D) w w') (hH:au w' G.D H) (hc:H.c=s.H.c):MAt o w' G g { s with H:=H } m none nv0∧Keep (In o (bg m.id)) w w':=by
 obtain ⟨h1,k1⟩:=h.sh.lU k hH h.box8
 exact ⟨h.share k1 rfl (by simp;omega) h1 rfl hc,k1.iI (by simp [bg])⟩
theorem GR (h:MAt o w G g s m none nv0) (t:MD) (v:Value) (hv:bH o w g.Nt g.M (.raise t) v):∃ bs:List Nat,v = .func (.func 217) #[] (bs.map ah).toArray∧Calls Tryz.prog 217 (bs.map ah).toArray w (aG o w G g nv0 m.id (stepM s m (.raise t))):=by
 obtain ⟨tv,ht,bs,hbs,hcap⟩:=hv
 refine ⟨bs,hbs,?_⟩
 obtain ⟨b0,b1,rfl,⟨o0,k0⟩,⟨o1,k1⟩⟩:=caps2 hcap
 have c0:w.cell? ⟨b0,0,none⟩=some (.pointer (some ⟨g.Nt,0,none⟩)):=k0.cell 0 rfl
 have n3:w.cell? ⟨g.Nt,3,none⟩=some (.pointer (some ⟨G.Fl,0,none⟩)):=h.nt.cell 3 rfl
 have hform:=ht.form
 have HR:Hid (Calls Tryz.prog 218 #[.pointer (some ⟨G.Fl,0,none⟩)] w fun e w'=>e = .returned (.tuple #[])∧aG o w G g nv0 m.id (stepM s m (.raise t)) (.returned tv) w'∧Blk w' b1 [tv] 88):=by
  refine (GL G.Fl s.flag h.sh.flag).mono ?_
  rintro e w' ⟨rfl,g1,g2⟩
  obtain ⟨h1,kk⟩:=h.sh.wJ g2 g1
  have km:Keep (In o (bg m.id)) w w':=kk.iI (by simp [bg])
  exact ⟨rfl,aG.same (r:=stepM s m (.raise t)) (h.share kk rfl (by simp;omega) h1 rfl rfl) (ht.ay kk rfl) km,k1.ay kk o1 rfl⟩
 show Calls Tryz.prog 217 #[.pointer (some ⟨b0,0,none⟩),.pointer (some ⟨b1,0,none⟩)] w _
 generalize stepM s m (.raise t)=R at *
 clear h ht hcap k0 k1 o0 o1 hbs
 rcases hform with rfl|⟨fn,caps,rfl⟩
 all_goals
  go_enter Tryz.func217,Tryz.ntmps217
  go_wp2_with fail
  refine HR.out.mono ?_
  rintro e w1 ⟨rfl,hp,hb⟩
  have HP:=Lib.hid hp
  have c1:=hb.cell 0 rfl
  clear hp hb c0 n3
  go_wp2_with fail
  go_ret
  exact HP.out
theorem JG (h:MAt o w G g s m none nv0) (c:Nat) (t:MD) (v:Value) (hv:bH o w g.Nt g.M (.pour c t) v):∃ bs:List Nat,v = .func (.func 176) #[] (bs.map ah).toArray∧Calls Tryz.prog 176 (bs.map ah).toArray w (aG o w G g nv0 m.id (stepM s m (.pour c t))):=by
 obtain ⟨tv,ht,bs,hbs,hcap⟩:=hv
 refine ⟨bs,hbs,?_⟩
 obtain ⟨b0,b1,b2,rfl,⟨o0,k0⟩,⟨o1,k1⟩,⟨o2,k2⟩⟩:=caps3 hcap
 have c0:w.cell? ⟨b0,0,none⟩=some (.pointer (some ⟨g.Nt,0,none⟩)):=k0.cell 0 rfl
 have n1:w.cell? ⟨g.Nt,1,none⟩=some (.pointer (some ⟨g.Bf,0,none⟩)):=h.nt.cell 1 rfl
 have n2:w.cell? ⟨g.Nt,2,none⟩=some (.pointer (some ⟨G.bx m.id,0,none⟩)):=h.nt.cell 2 rfl
 have hform:=ht.form
 have hkd:Keep none_ w w.drew:=(Keep.refl none_ w).drew
 have hd:=h.still hkd
 show Calls Tryz.prog 176 #[.pointer (some ⟨b0,0,none⟩),.pointer (some ⟨b1,0,none⟩),.pointer (some ⟨b2,0,none⟩)] w _
 by_cases hx:s.box m.id=[]
 ·have HR:Hid (Calls Tryz.prog 177 #[.pointer (some ⟨G.bx m.id,0,none⟩),.pointer (some ⟨g.Bf,0,none⟩)] w.drew fun e w'=>e = .returned (.bool true)∧aG o w G g nv0 m.id (stepM s m (.pour c t)) (.returned tv) w'∧Blk w' b1 [tv] 88):=by
   have hbx:=hd.QD
   rw [hx] at hbx
   have hne:G.bx m.id≠g.Bf:=fun e=>by have h1:=hbx.2;rw [e,h.oBf] at h1;omega
   refine (JC hd.buf hbx.1 hne hd.sh.fut).mono ?_
   rintro e w' ⟨rfl,g1,g2,g3⟩
   have kk:Keep (In o [10+m.id,20+m.id]) w.drew w':=g3.mono (fun i _ e=>by
    unfold In
    rcases e with e|e
    ·rw [e,hbx.2];simp
    ·rw [e,h.oBf];simp)
   have h0:([10+m.id,20+m.id]:List Nat).contains 0=false:=by simp;omega
   have km:Keep (In o (bg m.id)) w w':=(hkd.aF).trans (kk.iI (by simp [bg]))
   have hs':ShAt o w' G { s with boxes:=s.boxes.set m.id m.buf }:=by
    refine hd.sh.upd (s':={ s with boxes:=s.boxes.set m.id m.buf }) kk h0 (hd.sh.heapK kk h0 (by simp;omega)) (hd.sh.board.keep kk (aU hd.sh.oB (by simp;omega))) (hd.sh.queue.ay kk h0 hd.sh.oQ (by simp;omega)) (hd.sh.flag.ay kk hd.sh.oF (by simp;omega)) (by simp) (fun i l hi=>?_)
    by_cases e:m.id=i
    ·rw [← e,List.getElem?_set_self h.idl] at hi
     cases hi
     rw [← e];exact g2
    ·rw [List.getElem?_set_ne e] at hi
     have hil:=(List.getElem?_eq_some_iff.1 hi).1
     have h8:=h.box8
     have Tz:=h.idl
     exact (hd.sh.box i l hi).1.ay kk h0 (hd.sh.box i l hi).2 (by simp;omega)
   obtain ⟨pv,rv,p1,p2,p3⟩:=hd.blk
   have ap:=hd.apart
   have nM:¬ (g.M=G.bx m.id∨g.M=g.Bf):=by
    rintro (e|e)
    ·have h1:=hbx.2;rw [← e,h.oM] at h1;omega
    ·exact ap.2.1 e
   have nX:¬ (g.X=G.bx m.id∨g.X=g.Bf):=by
    rintro (e|e)
    ·have h1:=hbx.2;rw [← e,h.oX] at h1;omega
    ·exact ap.2.2.1 e
   have hm:MAt o w' G g { s with boxes:=s.boxes.set m.id m.buf } { m with buf:=[] } none nv0:=by
    refine ⟨hs',⟨pv,rv,g3.blk p1 nM,p2.ay kk h0,⟨fD p3.1 g3 (fun b hb e=>?_),p3.2⟩⟩,h.oM,g3.blk hd.regs nX,h.oX,g1,h.oBf,hd.nt.ay kk h.oNt h0,h.oNt,by simpa using h.idl,by simpa using h.box8,h.conf,h.rlen,by have:=h.cl;simp;omega⟩
    rcases e with e|e
    ·have h1:=hbx.2;rw [← e,p3.2 b hb] at h1;omega
    ·exact (ap.2.2.2 rv _ b p3 hb).2.2 e
   have e1:stepM s m (.pour c t)=⟨{ s with boxes:=s.boxes.set m.id m.buf },{ m with buf:=[] },t,none⟩:=by simp only [stepM,if_pos hx]
   rw [e1]
   exact ⟨rfl,aG.same hm (ht.ay km (je _)) km,k1.ay km o1 (je _)⟩
  generalize stepM s m (.pour c t)=R at *
  clear h ht hcap k0 k1 k2 o0 o1 o2 hbs hkd hd hx
  rcases hform with rfl|⟨fn,caps,rfl⟩
  all_goals
   go_enter Tryz.func176,Tryz.ntmps176
   go_wp2_with fail
   refine aA 8 rfl (by kernel_rfl) (by kernel_rfl) (fun K hK=>?_)
   change wpStill _ _ (World.drew _) _ _ _
   simp only [List.take_succ_cons,List.take_zero,List.drop_succ_cons,List.drop_zero] at hK ⊢
   repeat still_step
   refine wpStill_nil ?_
   change ite _ (Oper.wp _ _ _ w.drew _ _) _
   go_simp
   refine HR.out.mono ?_
   rintro e w1 ⟨rfl,hp,hb⟩
   refine hK _ _ ?_
   clear hK K
   have HP:=Lib.hid hp
   have c1:=hb.cell 0 rfl
   clear hp hb c0 n1 n2
   refine wpStill_nil ?_
   go_wp2_with fail
   go_ret
   exact HP.out
 ·have HR:Hid (Calls Tryz.prog 177 #[.pointer (some ⟨G.bx m.id,0,none⟩),.pointer (some ⟨g.Bf,0,none⟩)] w.drew fun e w'=>e = .returned (.bool false)∧w.drew=w'):=MO hd.buf hd.QD.1 hx
  have d0:w.drew.cell? ⟨b0,0,none⟩=some (.pointer (some ⟨g.Nt,0,none⟩)):=(hkd.blk k0 (fun f=>f)).cell 0 rfl
  have d1:=(hkd.blk k1 (fun f=>f)).cell 0 rfl
  have d2:=(hkd.blk k2 (fun f=>f)).cell 0 rfl
  have HP:Hid (Calls Tryz.prog 178 #[.pointer (some ⟨g.Nt,0,none⟩),.int .i64 (c:Int),.bool false,tv] w.drew (aG o w G g nv0 m.id (stepM s m (.pour c t)))):=by
   refine (xA (M:=g.M) hd.sh.fut c false t tv (ht.still hkd)).mono ?_
   rintro e w' ⟨nv,rfl,h1,h2⟩
   have e1:stepM s m (.pour c t)=⟨s,m,.dG c false t,none⟩:=by simp only [stepM,if_neg hx]
   rw [e1]
   exact aG.same (hd.still h2) h1 (hkd.trans h2).aF
  generalize stepM s m (.pour c t)=R at *
  clear h ht hcap k0 k1 k2 o0 o1 o2 hbs hkd hd hx
  rcases hform with rfl|⟨fn,caps,rfl⟩
  all_goals
   go_enter Tryz.func176,Tryz.ntmps176
   go_wp2_with fail
   refine aA 8 rfl (by kernel_rfl) (by kernel_rfl) (fun K hK=>?_)
   change wpStill _ _ (World.drew _) _ _ _
   simp only [List.take_succ_cons,List.take_zero,List.drop_succ_cons,List.drop_zero] at hK ⊢
   repeat still_step
   refine wpStill_nil ?_
   change ite _ (Oper.wp _ _ _ w.drew _ _) _
   go_simp
   refine HR.out.mono ?_
   rintro e w1 ⟨rfl,rfl⟩
   refine hK _ _ ?_
   clear hK K c0 n1 n2 HR
   refine wpStill_nil ?_
   obtain ⟨W1,hW1⟩:∃ W1,W1=w.drew:=⟨_,rfl⟩
   rw [← hW1] at d0 d1 d2 HP ⊢
   clear hW1
   go_wp2_with fail
   refine HP.out.mono ?_
   rintro e w2 ⟨o',nv,rfl,hp⟩
   have HPP:Hid (aG o w G g nv0 m.id R (.returned nv) w2):=⟨o',nv,rfl,hp⟩
   have hfm:=hp.2.2.1.form
   clear hp d0 d1 d2
   rcases hfm with rfl|⟨fn,caps,rfl⟩
   all_goals
    go_wp2_with fail
    go_ret
    exact HPP.out
end
section
variable {o:Ow} {w w':World} {G:Geo} {g:MG} {s:Sh} {m:MS} {nv0:Value}
theorem GU (h:MAt o w G g s m none nv0) (c:Nat) (f:Bool) (t:MD) (v:Value) (hv:bH o w g.Nt g.M (.dG c f t) v):∃ bs:List Nat,v = .func (.func 214) #[] (bs.map ah).toArray∧Calls Tryz.prog 214 (bs.map ah).toArray w (aG o w G g nv0 m.id (stepM s m (.dG c f t))):=by
 obtain ⟨tv,ht,bs,hbs,hcap⟩:=hv
 refine ⟨bs,hbs,?_⟩
 obtain ⟨b0,b1,b2,b3,rfl,⟨o0,k0⟩,⟨o1,k1⟩,⟨o2,k2⟩,⟨o3,k3⟩⟩:=caps4 hcap
 have c0:w.cell? ⟨b0,0,none⟩=some (.pointer (some ⟨g.Nt,0,none⟩)):=k0.cell 0 rfl
 have n1:w.cell? ⟨g.Nt,1,none⟩=some (.pointer (some ⟨g.Bf,0,none⟩)):=h.nt.cell 1 rfl
 have hform:=ht.form
 show Calls Tryz.prog 214 #[.pointer (some ⟨b0,0,none⟩),.pointer (some ⟨b1,0,none⟩),.pointer (some ⟨b2,0,none⟩),.pointer (some ⟨b3,0,none⟩)] w _
 have HB:Hid (∀ I W,Keep (In o I) w W→I.contains 0=false→W.cell? ⟨b0,0,none⟩=some (.pointer (some ⟨g.Nt,0,none⟩))∧W.cell? ⟨b1,0,none⟩=some (.int .i64 (c:Int))∧W.cell? ⟨b2,0,none⟩=some (.bool f)∧W.cell? ⟨b3,0,none⟩=some tv∧W.cell? ⟨g.Nt,1,none⟩=some (.pointer (some ⟨g.Bf,0,none⟩))∧W.cell? ⟨g.Nt,0,none⟩=some (.pointer (some ⟨G.D 0,0,none⟩))):=fun I W hW hI =>
  ⟨(k0.ay hW o0 hI).cell 0 rfl,(k1.ay hW o1 hI).cell 0 rfl,(k2.ay hW o2 hI).cell 0 rfl,(k3.ay hW o3 hI).cell 0 rfl,(h.nt.ay hW h.oNt hI).cell 1 rfl,(h.nt.ay hW h.oNt hI).cell 0 rfl⟩
 have HN:Hid (Calls Tryz.prog 215 #[.pointer (some ⟨g.Bf,0,none⟩)] w fun e w'=>e = .returned (.tuple #[.int .i64 (aJ m.buf:Int),.bool (!m.buf.isEmpty)])∧MAt o w' G g s { m with buf:=m.buf.tail } none nv0∧Keep (In o (bg m.id)) w w'):=by
  refine (JB h.buf).mono ?_
  rintro e w' ⟨rfl,g1,g2⟩
  have hl:(m.buf.tail.length:Int)≤m.c.l:=by have:=h.qF;simp;omega
  exact ⟨rfl,(h.zh g2 g1 hl).1,EI h g2⟩
 have HP:Hid (∀ W,MAt o W G g s { m with buf:=m.buf.tail } none nv0→Calls Tryz.prog 216 #[.pointer (some ⟨G.D 0,0,none⟩),.int .i64 (aJ m.buf:Int),.int .i64 (c:Int)] W fun e w'=>(∃ er:Int,e = .returned (.tuple #[.bool (s.H.dw (aJ m.buf) c),.int .i64 er]))∧MAt o w' G g { s with H:=s.H.aY (aJ m.buf) c } { m with buf:=m.buf.tail } none nv0∧Keep (In o (bg m.id)) W w'):=fun W hW=>by
  refine (yX hW.sh.heap (aJ m.buf) c).mono ?_
  rintro e w' ⟨rfl,g1,g2⟩
  have hc:(s.H.aY (aJ m.buf) c).c=s.H.c:=by unfold HS.aY;split<;>rfl
  obtain ⟨h1,h2⟩:=hW.lU g2 g1 hc
  exact ⟨⟨_,rfl⟩,h1,h2⟩
 have HL:Hid (∀ W,MAt o W G g { s with H:=s.H.aY (aJ m.buf) c } { m with buf:=m.buf.tail } none nv0→Calls Tryz.prog 175 #[.pointer (some ⟨g.Bf,0,none⟩)] W fun e w'=>e = .returned (.int .i64 (m.buf.tail.length:Int))∧W=w'):=fun W hW=>BH hW.buf
 have HDR:Hid (∀ W,MAt o W G g s { m with buf:=m.buf.tail } none nv0→MAt o W.drew G g s { m with buf:=m.buf.tail } none nv0):=fun W hW=>hW.still (Keep.refl none_ W).drew
 have HPT:Hid (m.buf.tail≠[]→∀ W,MAt o W G g { s with H:=s.H.aY (aJ m.buf) c } { m with buf:=m.buf.tail } none nv0→Keep (In o (bg m.id)) w W→Calls Tryz.prog 178 #[.pointer (some ⟨g.Nt,0,none⟩),.int .i64 (c:Int),.bool (f||s.H.dw (aJ m.buf) c),tv] W (aG o w G g nv0 m.id (stepM s m (.dG c f t)))):=fun hne W hW hk=>by
  refine (xA (M:=g.M) hW.sh.fut c _ t tv (ht.ay hk (je _))).mono ?_
  rintro e w' ⟨nv,rfl,h1,h2⟩
  have e1:stepM s m (.dG c f t)=⟨{ s with H:=s.H.aY (aJ m.buf) c },{ m with buf:=m.buf.tail },.dG c (f||s.H.dw (aJ m.buf) c) t,none⟩:=by simp only [stepM];rw [if_pos hne]
  rw [e1]
  exact aG.same (hW.still h2) h1 (hk.trans h2.aF)
 have HRT:Hid (m.buf.tail=[]→(f||s.H.dw (aJ m.buf) c)=true→∀ W,MAt o W G g { s with H:=s.H.aY (aJ m.buf) c } { m with buf:=m.buf.tail } none nv0→Keep (In o (bg m.id)) w W→aG o w G g nv0 m.id (stepM s m (.dG c f t)) (.returned (.func (.func 217) #[] #[.pointer (some ⟨b0,0,none⟩),.pointer (some ⟨b3,0,none⟩)])) W):=fun he hfr W hW hk=>by
  have e1:stepM s m (.dG c f t)=⟨{ s with H:=s.H.aY (aJ m.buf) c },{ m with buf:=m.buf.tail },.raise t,none⟩:=by simp only [stepM];rw [if_neg (by simpa using he),if_pos hfr]
  rw [e1]
  exact aG.same hW ⟨tv,ht.ay hk (je _),⟨[b0,b3],rfl,⟨_,_,rfl,o0,k0.ay hk o0 (je _),_,_,rfl,o3,k3.ay hk o3 (je _),rfl⟩⟩⟩ hk
 have HTT:Hid (m.buf.tail=[]→(f||s.H.dw (aJ m.buf) c)=false→∀ W,MAt o W G g { s with H:=s.H.aY (aJ m.buf) c } { m with buf:=m.buf.tail } none nv0→Keep (In o (bg m.id)) w W→aG o w G g nv0 m.id (stepM s m (.dG c f t)) (.returned tv) W):=fun he hfr W hW hk=>by
  have e1:stepM s m (.dG c f t)=⟨{ s with H:=s.H.aY (aJ m.buf) c },{ m with buf:=m.buf.tail },t,none⟩:=by simp only [stepM];rw [if_neg (by simpa using he),if_neg (by rw [hfr];decide)]
  rw [e1]
  exact aG.same hW (ht.ay hk (je _)) hk
 have hmf:∀ (fn:Fn) (first cap:Array Value) (w:World),(Instr.makeFunc fn first cap).run Tryz.prog w = .ok (.func fn first cap) w:=fun _ _ _ _=>rfl
 have H0I:Hid ((bg m.id).contains 0=false):=je _
 have hlen:m.buf.tail.length≤256:=by have h1:=h.qF;have h2:=h.cl;simp;omega
 generalize { s with H:=s.H.aY (aJ m.buf) c }=s' at *
 generalize s.H.dw (aJ m.buf) c=was at *
 generalize aJ m.buf=a at *
 generalize (!m.buf.isEmpty)=okb at *
 generalize hm':({ m with buf:=m.buf.tail }:MS)=m' at *
 generalize m.buf.tail=bt at *
 generalize stepM s m (.dG c f t)=R at *
 generalize bg m.id=II at *
 generalize m.id=mi at *
 clear h ht hcap k0 k1 k2 k3 o0 o1 o2 o3 hbs hm'
 have key:∀ (Q:Prop) ,Q→Q:=fun _ q=>q
 clear key
 rcases hform with rfl|⟨fn,caps,rfl⟩
 all_goals
  cases hb:bt with
  | nil =>
    rw [hb] at HL
    cases hf:(f||was) with
    | false =>
      obtain ⟨hf1,hf2⟩:=Bool.or_eq_false_iff.1 hf
      subst hf1
      subst hf2
      have HE:=Lib.hid (HTT.out hb rfl)
      clear HPT HRT HTT hb hf hlen
      go_enter Tryz.func214,Tryz.ntmps214
      go_wp2_with fail
      refine HN.out.mono ?_
      rintro e w1 ⟨rfl,g1,g2⟩
      have H1:=Lib.hid g1
      have K1:=Lib.hid g2
      clear g1 g2 c0 n1
      obtain ⟨c0,c1,c2,c3,n1,n0⟩:=HB.out _ w1 K1.out H0I.out
      have HP1:=Lib.hid (HP.out _ (HDR.out _ H1.out))
      go_wp2_with fail
      refine aA 6 rfl (by kernel_rfl) (by kernel_rfl) (fun K hK=>?_)
      change wpStill _ _ (World.drew _) _ _ _
      simp only [List.take_succ_cons,List.take_zero,List.drop_succ_cons,List.drop_zero] at hK ⊢
      repeat still_step
      refine wpStill_nil ?_
      change ite _ (Oper.wp _ _ _ w1.drew _ _) _
      go_simp
      refine HP1.out.mono ?_
      rintro e w2 ⟨⟨er,rfl⟩,g1,g2⟩
      refine hK _ _ ?_
      clear hK K
      have H2:=Lib.hid g1
      have K2:Hid (Keep (In o II) w w2):=K1.out.trans ((Keep.refl (In o II) w1).drew.trans g2)
      clear g1 g2 c0 c1 c2 c3 n0 n1
      repeat still_step
      refine wpStill_nil ?_
      obtain ⟨c0,c1,c2,c3,n1,n0⟩:=HB.out _ w2 K2.out H0I.out
      have HL2:=Lib.hid (HL.out _ H2.out)
      go_wp2_with fail
      refine HL2.out.mono ?_
      rintro e w3 ⟨rfl,rfl⟩
      go_wp2_with fail
      go_ret
      exact HE.out _ H2.out K2.out
    | true =>
      have HE:=Lib.hid (HRT.out hb hf)
      have HFW:Hid (f=true∨(f=false∧was=true)):=by revert hf;cases f<;>cases was<;>simp [Hid]
      clear HPT HRT HTT hb hf hlen
      rcases HFW.out with rfl|⟨rfl,rfl⟩
      all_goals
       clear HFW
       go_enter Tryz.func214,Tryz.ntmps214
       go_wp2_with fail
       refine HN.out.mono ?_
       rintro e w1 ⟨rfl,g1,g2⟩
       have H1:=Lib.hid g1
       have K1:=Lib.hid g2
       clear g1 g2 c0 n1
       obtain ⟨c0,c1,c2,c3,n1,n0⟩:=HB.out _ w1 K1.out H0I.out
       have HP1:=Lib.hid (HP.out _ (HDR.out _ H1.out))
       go_wp2_with fail
       refine aA 6 rfl (by kernel_rfl) (by kernel_rfl) (fun K hK=>?_)
       change wpStill _ _ (World.drew _) _ _ _
       simp only [List.take_succ_cons,List.take_zero,List.drop_succ_cons,List.drop_zero] at hK ⊢
       repeat still_step
       refine wpStill_nil ?_
       change ite _ (Oper.wp _ _ _ w1.drew _ _) _
       go_simp
       refine HP1.out.mono ?_
       rintro e w2 ⟨⟨er,rfl⟩,g1,g2⟩
       refine hK _ _ ?_
       clear hK K
       have H2:=Lib.hid g1
       have K2:Hid (Keep (In o II) w w2):=K1.out.trans ((Keep.refl (In o II) w1).drew.trans g2)
       clear g1 g2 c0 c1 c2 c3 n0 n1
       repeat still_step
       refine wpStill_nil ?_
       obtain ⟨c0,c1,c2,c3,n1,n0⟩:=HB.out _ w2 K2.out H0I.out
       have HL2:=Lib.hid (HL.out _ H2.out)
       go_wp2_with fail
       refine HL2.out.mono ?_
       rintro e w3 ⟨rfl,rfl⟩
       go_wp2_with fail
       go_ret
       exact HE.out _ H2.out K2.out
  | cons y ys =>
    have HE:=Lib.hid (HPT.out (by rw [hb];simp))
    have hpos:0<bt.length:=by rw [hb];simp
    have d0:decide ((0:Int)<(bt.length:Int))=true:=decide_eq_true (by omega)
    have d1:decide (0<bt.length)=true:=decide_eq_true hpos
    generalize bt.length=bl at *
    clear HPT HRT HTT hb hlen
    cases f
    all_goals
     simp only [Bool.false_or,Bool.true_or] at HE
     go_enter Tryz.func214,Tryz.ntmps214
     go_wp2_with fail
     refine HN.out.mono ?_
     rintro e w1 ⟨rfl,g1,g2⟩
     have H1:=Lib.hid g1
     have K1:=Lib.hid g2
     clear g1 g2 c0 n1
     obtain ⟨c0,c1,c2,c3,n1,n0⟩:=HB.out _ w1 K1.out H0I.out
     have HP1:=Lib.hid (HP.out _ (HDR.out _ H1.out))
     go_wp2_with fail
     refine aA 6 rfl (by kernel_rfl) (by kernel_rfl) (fun K hK=>?_)
     change wpStill _ _ (World.drew _) _ _ _
     simp only [List.take_succ_cons,List.take_zero,List.drop_succ_cons,List.drop_zero] at hK ⊢
     repeat still_step
     refine wpStill_nil ?_
     change ite _ (Oper.wp _ _ _ w1.drew _ _) _
     go_simp
     refine HP1.out.mono ?_
     rintro e w2 ⟨⟨er,rfl⟩,g1,g2⟩
     refine hK _ _ ?_
     clear hK K
     have H2:=Lib.hid g1
     have K2:Hid (Keep (In o II) w w2):=K1.out.trans ((Keep.refl (In o II) w1).drew.trans g2)
     clear g1 g2 c0 c1 c2 c3 n0 n1
     repeat still_step
     refine wpStill_nil ?_
     obtain ⟨c0,c1,c2,c3,n1,n0⟩:=HB.out _ w2 K2.out H0I.out
     have HL2:=Lib.hid (HL.out _ H2.out)
     go_wp2_with fail
     refine HL2.out.mono ?_
     rintro e w3 ⟨rfl,rfl⟩
     go_wp2_with fail
     refine (HE.out _ H2.out K2.out).mono ?_
     rintro e w4 ⟨o',nv,rfl,hp⟩
     have HPP:Hid (aG o w G g nv0 mi R (.returned nv) w4):=⟨o',nv,rfl,hp⟩
     have hfm:=hp.2.2.1.form
     clear hp c0 c1 c2 c3 n0 n1
     rcases hfm with rfl|⟨fn',VZ,rfl⟩
     all_goals
      go_wp2_with fail
      go_ret
      exact HPP.out
end
end
section
attribute [local go_sem ↓] jZ
attribute [local go_sem] Oper.semAt_some
open Go.RowKit
theorem Tryz.infoResult:(Tryz.prog.info? 225).map (fun i=>(i.zero,i.size,i.bytes))=some (some (.agg #[.int .i64 0,.int .i64 0]),2,16):=by kernel_rfl
theorem zk {P:Program} (w:World) (t ty e:TypeId) (ht:P.underlying t=some (.slice e)) {z:Value} {size bytes:Nat} (hi:(P.info? e).map (fun i=>(i.zero,i.size,i.bytes))=some (some z,size,bytes)) (hzs:z.cells.size=size) (h0:0<size)
 {v:Value} {n:Nat} {xs us:List Value} (hown:w.ownsRow 0 e size v n xs) {N:Nat} (hN:∀ j x,us[j]?=some x→w.cell? ⟨N,j,none⟩=some x) (hul:us.length=size) (hu:∀ u∈us,u.oneCell'=true) (hb:bytes≤1000) (hn:n≤100000000000) :
 ∃ g cap w',(Builtin.append_ #[t,t] ty #[v,.slice (some ⟨N,0,none⟩) 1 1]).run P w = .ok (.slice (some ⟨g,0,none⟩) (n+1) cap) w'∧w'.ownsRow 0 e size (.slice (some ⟨g,0,none⟩) (n+1) cap) (n+1) (xs++us) ∧
  w.grownBy w' v.ownBlock∧(v.ownBlock=some g∨w.heap.size≤g):=by
 obtain ⟨i,hi1,hi2,hi3,hi4⟩:=info_parts hi
 have hbytes:(n+1)*bytes≤140737488355328:=Nat.le_trans (Nat.mul_le_mul (show n+1≤100000000001 by omega) hb) (by decide)
 have hnews:∀ j x,us[j]?=some x→w.cell? ((⟨N,0,none⟩:Addr).add j)=some x:=by
  intro j x hj
  have ea:(⟨N,0,none⟩:Addr).add j=⟨N,j,none⟩:=by simp only [Addr.add];split<;>simp_all
  rw [ea];exact hN j x hj
 have hul1:us.length=1*size:=by omega
 have shape:∀ {v':Value} {W:World} {B:Nat},W.ownsRow B e size v' (n+1) (xs++us)→∃ g cap,v' = .slice (some ⟨g,0,none⟩) (n+1) cap∧B≤g:=by
  intro v' W B h
  rcases h.2 with ⟨_,h0'⟩|⟨g,cap,cur,rfl,hB,_⟩
  ·omega
  ·exact ⟨g,cap,rfl,hB⟩
 rcases hown.2 with ⟨rfl,rfl⟩|⟨g,cap,cur,rfl,hbg,hg,hnc,hcm,hcs,htake⟩
 ·have hown':w.ownsRow w.heap.size e size (.slice none 0 0) 0 xs:=⟨hown.1,.inl ⟨rfl,rfl⟩⟩
  obtain ⟨v',w',hr,h2,h3,_⟩:=run_append_own (P:=P) w w.heap.size t ty e i z size bytes ht hi1 hi2 hi3 hi4 hzs h0 _ 0 xs hown' ⟨N,0,none⟩ 1 1 us hul1 hnews hu (by unfold maxLen;omega) hbytes (Nat.le_refl _)
  obtain ⟨g,cap,rfl,hB⟩:=shape h2
  exact ⟨g,cap,w',hr,dP h2 (Nat.zero_le _),h3,.inr hB⟩
 ·by_cases hroom:n+1≤cap
  ·obtain ⟨w',hr,h2,h3⟩:=run_append_own_spare (P:=P) w 0 t ty e i size ht hi1 hi3 g n cap xs hown ⟨N,0,none⟩ 1 1 us hul1 hnews hu hroom
   exact ⟨g,cap,w',hr,h2,h3,.inl rfl⟩
  ·have holds:∀ j x,xs[j]?=some x→w.cell? ((⟨g,0,none⟩:Addr).add j)=some x:=hown.cells (g:=g) rfl
   obtain ⟨v',w',hr,h2,h3⟩:=run_append_arg_grows (P:=P) w t ty e i z size bytes ht hi1 hi2 hi3 hi4 hzs h0 ⟨g,0,none⟩ n cap xs hown.1 holds ⟨N,0,none⟩ 1 1 us hul1 hnews (by omega) (by unfold maxLen;omega) hbytes
   obtain ⟨g',cap',rfl,hB⟩:=shape h2
   exact ⟨g',cap',w',hr,dP h2 (Nat.zero_le _),⟨h3.os,h3.tape,h3.output,h3.size,fun k hk _=>h3.block k hk (by simp)⟩,.inr hB⟩
theorem Rl {w:World} {base n size q:Nat} {e:TypeId} {v:Value} {xs:List Value} (h:w.ownsRow base e size v n xs) (hq:v.ownBlock=some q):∃ cur:Array Value,w.heap[q]?=some (.cells cur e (0,0)):=by
 rcases h.2 with ⟨e1,_⟩|⟨g,cap,cur,e1,_,hg,_⟩
 ·rw [e1] at hq;simp [Value.ownBlock] at hq
 ·rw [e1] at hq;simp [Value.ownBlock] at hq;subst hq;exact ⟨cur,hg⟩
theorem MP {w:World} {base n size q:Nat} {e:TypeId} {v:Value} {xs:List Value} (h:w.ownsRow base e size v n xs) (hq:v.ownBlock=some q):q<w.heap.size:=by
 obtain ⟨cur,hc⟩:=Rl h hq
 exact lt_of_block hc
section
variable {o:Ow} {w w':World} {G:Geo} {g:MG} {s:Sh} {m:MS} {ev:Option Ev} {nv:Value}
theorem MAt.c8 (h:MAt o w G g s m ev nv):w.cell? ⟨g.M,8,none⟩=some (.int .i64 (m.id:Int)):=h.cell 8 _ (fun _ _=>rfl)
theorem wK (ev:Option Ev):∃ a b c d e f t,sD ev=[a,b,c,d,e,f,t]:=by
 cases ev with
 | none=>exact ⟨_,_,_,_,_,_,_,rfl⟩
 | some x=>exact ⟨_,_,_,_,_,_,_,rfl⟩
theorem MAt.evs (h:MAt o w G g s m ev nv):∃ a b c d e f t,w.cell? ⟨g.M,23,none⟩=some a∧w.cell? ⟨g.M,24,none⟩=some b∧w.cell? ⟨g.M,25,none⟩=some c∧w.cell? ⟨g.M,26,none⟩=some d∧w.cell? ⟨g.M,27,none⟩=some e∧w.cell? ⟨g.M,28,none⟩=some f∧w.cell? ⟨g.M,29,none⟩=some t:=by
 obtain ⟨a,b,c,d,e,f,t,he⟩:=wK ev
 refine ⟨a,b,c,d,e,f,t,?_,?_,?_,?_,?_,?_,?_⟩
 all_goals
  refine h.cell _ _ (fun pv rv=>?_)
  unfold jP
  rw [he]
  rfl
theorem MQ (h:MAt o w G g s m ev nv) (kind place:Nat) (code:Int) (value:Nat):Calls Tryz.prog 183 #[.pointer (some ⟨g.M,0,none⟩),.int .i64 (kind:Int),.int .i64 (place:Int),.int .i64 code,.int .i64 (value:Int)] w fun e w'=>e = .returned (.tuple #[])∧MAt o w' G g s m (some ⟨m.id,kind,place,code,value⟩) nv∧Keep (In o [20+m.id]) w w':=by
 have c8:=h.c8
 obtain ⟨x0,x1,x2,x3,x4,x5,x6,e0,e1,e2,e3,e4,e5,e6⟩:=h.evs
 have f0:=h.free 23;have f1:=h.free 24;have f2:=h.free 25;have f3:=h.free 26;have f4:=h.free 27;have f5:=h.free 28;have f6:=h.free 29
 have k:Keep (only g.M) w (((((((w.setCell ⟨g.M,23,none⟩ (.int .i64 0)).setCell ⟨g.M,24,none⟩ (.int .i64 (m.id:Int))).setCell ⟨g.M,25,none⟩ (.int .i64 (kind:Int))).setCell ⟨g.M,26,none⟩ (.int .i64 (place:Int))).setCell ⟨g.M,27,none⟩ (.int .i64 code)).setCell ⟨g.M,28,none⟩ (.int .i64 (value:Int))).setCell ⟨g.M,29,none⟩ (.bool true)):=(((((((Keep.refl _ _).put _ _).put _ _).put _ _).put _ _).put _ _).put _ _).put _ _
 have HE:=Lib.hid (h.struct k m (some ⟨m.id,kind,place,code,value⟩) nv (fun pv rv hb=>by
  have:=((((((hb.set 23 (.int .i64 0)).set 24 (.int .i64 (m.id:Int))).set 25 (.int .i64 (kind:Int))).set 26 (.int .i64 (place:Int))).set 27 (.int .i64 code)).set 28 (.int .i64 (value:Int))).set 29 (.bool true)
  obtain ⟨a,b,c,d,e,f,t,he⟩:=wK ev
  unfold jP at this ⊢
  rw [he] at this
  exact this) ⟨rfl,rfl,rfl,rfl,rfl,rfl⟩)
 generalize m.id=mi at *
 clear h k
 go_enter Tryz.func183,Tryz.ntmps183
 go_wp2_with fail
 go_end0
 exact ⟨rfl,HE.out.1,HE.out.2⟩
theorem MAt.Ag (h:MAt o w G g s m ev nv):∃ rv,w.cell? ⟨g.M,16,none⟩=some rv∧pR o w m.id rv m.res∧∃ a cap,rv = .slice a m.res.length cap:=by
 obtain ⟨pv,rv,h1,h2,h3⟩:=h.blk
 refine ⟨rv,h1.cell 16 rfl,h3,?_⟩
 rcases h3.1.2 with ⟨e1,e2⟩|⟨g',cap,cur,e1,_⟩
 ·exact ⟨none,0,by rw [e1,e2]⟩
 ·exact ⟨_,_,e1⟩
theorem Pm (l:List (Int × Nat)) (code:Int) (v:Nat):nU (l++[(code,v)])=nU l++[.int .i64 code,.int .i64 (v:Int)]:=by
 unfold nU
 simp
theorem MAt.grow (h:MAt o w G g s m ev nv) {rv:Value} (hrv:w.cell? ⟨g.M,16,none⟩=some rv) {q cap:Nat} {code:Int} {v:Nat} {w1:World} (hown:w1.ownsRow 0 225 2 (.slice (some ⟨q,0,none⟩) (m.res.length+1) cap) (m.res.length+1) (nU m.res++[.int .i64 code,.int .i64 (v:Int)]))
 (hg:w.grownBy w1 rv.ownBlock) (hq:rv.ownBlock=some q∨w.heap.size≤q) :
 ∃ o',aH w o o'∧MAt o' (w1.setCell ⟨g.M,16,none⟩ (.slice (some ⟨q,0,none⟩) (m.res.length+1) cap)) G g s { m with res:=m.res++[(code,v)] } ev nv∧Keep (In o [20+m.id]) w (w1.setCell ⟨g.M,16,none⟩ (.slice (some ⟨q,0,none⟩) (m.res.length+1) cap)):=by
 obtain ⟨pv,rv',h1,h2,h3⟩:=h.blk
 have e:rv'=rv:=by
  have:=h1.cell 16 (v:=rv') rfl
  rw [hrv] at this;injection this with this;exact this.symm
 subst e
 have ap:=h.apart
 have k1:Keep (In o [20+m.id]) w w1:=⟨hg.os,hg.tape,hg.output,hg.size,fun k hk hn=>hg.block k hk (fun e=>hn (by unfold In;rw [h3.2 k e.symm];simp))⟩
 have kB:Keep (fun i=>rv'.ownBlock=some i) w w1:=⟨hg.os,hg.tape,hg.output,hg.size,fun k hk hn=>hg.block k hk (fun e=>hn e.symm)⟩
 have hqb:∃ cur:Array Value,w1.heap[q]?=some (.cells cur 225 (0,0)):=by
  rcases hown.2 with ⟨e1,_⟩|⟨g',cap',cur,e1,_,hg',_⟩
  ·cases e1
  ·cases e1;exact ⟨cur,hg'⟩
 have Vp:q<w1.heap.size:=lt_of_block hqb.choose_spec
 have hext:aH w o (o.put q (20+m.id)):=Ow.iM (hq.elim (fun e => .inr (h3.2 q e)) .inl)
 have Pn:Fut (o.put q (20+m.id)) w1:=Ow.kD h.sh.fut hg.size Vp
 have nM:∀ b,rv'.ownBlock=some b→b≠g.M∧b≠g.X∧b≠g.Bf:=fun b hb=>ap.2.2.2 rv' _ b h3 hb
 have qM:q≠g.M:=hq.elim (fun e=>(nM q e).1) (fun e=>by have:=h1.lt;omega)
 have Vq:([20+m.id]:List Nat).all (fun i=>decide (20≤i))=true:=by simp
 have h0:([20+m.id]:List Nat).contains 0=false:=by simp;omega
 obtain ⟨w2,hw2⟩:∃ w2,w2=w1.setCell ⟨g.M,16,none⟩ (.slice (some ⟨q,0,none⟩) (m.res.length+1) cap):=⟨_,rfl⟩
 rw [← hw2]
 have kM:Keep (only g.M) w1 w2:=by rw [hw2];exact (Keep.refl _ _).put 16 _
 have kB2:Keep (fun i=>rv'.ownBlock=some i∨i=g.M) w w2:=(kB.mono (fun i _ e=>Or.inl e)).trans (kM.mono (fun i _ e=>Or.inr e))
 have k2:Keep (In o [20+m.id]) w w2:=kB2.mono (fun i _ e=>by
  unfold In
  rcases e with e|e
  ·rw [h3.2 i e];simp
  ·rw [e,h.oM];simp)
 have k2':=k2.nS hext
 obtain ⟨_,bv,hbb,_,_⟩:=id h.buf
 refine ⟨o.put q (20+m.id),hext,⟨h.sh.move k2 Vq h.box8 hext (Pn.keep kM),⟨pv,.slice (some ⟨q,0,none⟩) (m.res.length+1) cap,?_,(h2.ext hext).ay k2' h0,?_,fun b hb=>?_⟩,(hext _ h1.lt).trans h.oM,kB2.blk h.regs (fun e=>e.elim (fun e=>(nM _ e).2.1 rfl) (fun e=>ap.1 e.symm)),(hext _ h.regs.lt).trans h.oX,?_,(hext _ hbb.lt).trans h.oBf,h.nt.ay k2 h.oNt h0,(hext _ h.nt.lt).trans h.oNt,h.idl,h.box8,h.conf,h.rlen,h.qF⟩,k2⟩
 ·have hm1:=(kB.blk h1 (fun e=>(nM _ e).1 rfl)).set 16 (.slice (some ⟨q,0,none⟩) (m.res.length+1) cap)
  rw [hw2]
  exact hm1
 ·show w2.ownsRow 0 225 2 _ (m.res++[(code,v)]).length (nU (m.res++[(code,v)]))
  rw [Pm,List.length_append]
  exact fD hown kM (fun b hb e=>by simp [Value.ownBlock] at hb;unfold only at e;omega)
 ·simp [Value.ownBlock] at hb
  rw [← hb]
  exact Ow.jB _ _ _
 ·refine (h.buf.ext hext).keep kB2 (fun e=>e.elim (fun e=>(nM _ e).2.2 rfl) (fun e=>ap.2.1 e.symm)) (fun x hx e=>?_)
  rcases e with e|e
  ·have h9:=hext x (MP h3.1 e)
   rw [hx,h3.2 x e] at h9;omega
  ·have h9:=hext g.M h1.lt
   rw [← e,hx,e,h.oM] at h9;omega
theorem Po (h:MAt o w G g s m none nv) (code:Int) (v:Nat) (hr:m.res.length≤1000000000):Calls Tryz.prog 140 #[.pointer (some ⟨g.M,0,none⟩),.int .i64 code,.int .i64 (v:Int)] w fun e w'=>e = .returned .nilFunc∧∃ o',aH w o o'∧MAt o' w' G g s (m.did code v) (some (m.ev code v)) nv∧Keep (In o [20+m.id]) w w':=by
 have f18:=h.free 18
 have c18:=h.cell 18 (.int .i64 (m.held:Int)) (fun _ _=>rfl)
 obtain ⟨h1,k1⟩:=h.put 18 (.int .i64 0) { m with held:=0 } none nv (fun _ _=>rfl) ⟨rfl,rfl,rfl,rfl,rfl,rfl⟩
 obtain ⟨W1,hW1⟩:∃ W1,W1=w.setCell ⟨g.M,18,none⟩ (.int .i64 0):=⟨_,rfl⟩
 rw [← hW1] at h1 k1
 obtain ⟨rv1,r1,hrs1,a1,cap1,er1⟩:=h.Ag
 rw [er1] at r1
 have HT:=Lib.hid (MQ h1 1 m.res.length code v)
 have hTR:Hid (∀ W2,MAt o W2 G g s { m with held:=0 } (some ⟨m.id,1,m.res.length,code,v⟩) nv→Keep (In o [20+m.id]) W1 W2→∃ rv a cap q cp w5,rv = .slice a m.res.length cap∧W2.cell? ⟨g.M,16,none⟩=some rv∧(app9 #[105,105] 105 #[rv,.slice (some ⟨W2.heap.size,0,none⟩) 1 1]).run Tryz.prog (W2.alloc (.cells #[.int .i64 code,.int .i64 (v:Int)] 225)) = .ok (.slice (some ⟨q,0,none⟩) (m.res.length+1) cp) w5∧w5.frozen? ⟨g.M,16,none⟩=false∧w5.cell? ⟨g.M,16,none⟩=some rv∧∃ o',aH W2 o o'∧MAt o' (w5.setCell ⟨g.M,16,none⟩ (.slice (some ⟨q,0,none⟩) (m.res.length+1) cp)) G g s (m.did code v) (some (m.ev code v)) nv∧Keep (In o [20+m.id]) W2 (w5.setCell ⟨g.M,16,none⟩ (.slice (some ⟨q,0,none⟩) (m.res.length+1) cp))):=by
  intro W2 h2 k2
  have ka:Keep none_ W2 (W2.alloc (.cells #[.int .i64 code,.int .i64 (v:Int)] 225)):=(Keep.refl _ _).alloc _
  have h3:=h2.still ka
  obtain ⟨rv,r2,hrs,a,cap,er⟩:=h3.Ag
  have hNew:=Blk.new W2 [.int .i64 code,.int .i64 (v:Int)] 225
  obtain ⟨q,cp,w5,hrun,hown,hgr,hq⟩:=zk (P:=Tryz.prog) (W2.alloc (.cells #[.int .i64 code,.int .i64 (v:Int)] 225)) 105 105 225 (by kernel_rfl) Tryz.infoResult rfl (by decide) hrs.1 (N:=W2.heap.size) (us:=[.int .i64 code,.int .i64 (v:Int)]) (fun j x hj=>hNew.cell j hj) rfl (by simp [Value.oneCell']) (by decide) (by show m.res.length≤_;omega)
  obtain ⟨o',e1,h4,k4⟩:=h3.grow r2 hown hgr hq
  obtain ⟨pv,rv2,hb2,_,_⟩:=h3.blk
  have nM:rv.ownBlock≠some g.M:=fun e=>(h3.apart.2.2.2 rv _ g.M hrs e).1 rfl
  have hb5:=hb2.grown hgr nM
  obtain ⟨r2',_⟩:W2.cell? ⟨g.M,16,none⟩=some rv∧True:=by
   obtain ⟨pv',rv',hb',_,_⟩:=h2.blk
   have:=(hb'.alloc (.cells #[.int .i64 code,.int .i64 (v:Int)] 225)).cell 16 (v:=rv') rfl
   rw [r2] at this
   injection this with this
   exact ⟨by rw [this];exact hb'.cell 16 rfl,trivial⟩
  have e2:rv2=rv:=by
   have:=hb2.cell 16 (v:=rv2) rfl
   rw [r2] at this;injection this with this;exact this.symm
  refine ⟨rv,a,cap,q,cp,w5,er,r2',hrun,hb5.free 16,by rw [← e2];exact hb5.cell 16 rfl,o',?_,h4,(ka.aF).trans k4⟩
  intro b hb
  exact e1 b (Nat.lt_of_lt_of_le hb ka.size)
 generalize m.id=mi at *
 generalize m.res.length=rl at *
 have HK1:=Lib.hid k1
 clear h h1 hrs1 hr k1
 go_enter Tryz.func140,Tryz.ntmps140
 go_wp2_with fail
 rw [← hW1]
 clear hW1
 refine HT.out.mono ?_
 rintro e w2 ⟨rfl,g1,g2⟩
 obtain ⟨rv,a,cap,q,cp,w5,rfl,r2,hrun9,f16,c16,o',e1,h4,k4⟩:=hTR w2 g1 g2
 have HE:Hid (aH w2 o o'∧MAt o' (w5.setCell ⟨g.M,16,none⟩ (.slice (some ⟨q,0,none⟩) (rl+1) cp)) G g s (m.did code v) (some (m.ev code v)) nv∧Keep (In o [20+mi]) w2 (w5.setCell ⟨g.M,16,none⟩ (.slice (some ⟨q,0,none⟩) (rl+1) cp))):=⟨e1,h4,k4⟩
 have HK2:=Lib.hid (HK1.out.trans g2)
 have hlt:g.M<w2.heap.size:=World.block_lt_of_cell? _ _ r2
 clear hTR HT g1 g2 e1 h4 k4 r1 f18 c18 HK1
 go_wp2_with fail
 go_ret
 exact ⟨rfl,o',fun b hb=>HE.out.1 b (Nat.lt_of_lt_of_le hb HK2.out.size),HE.out.2.1,HK2.out.trans HE.out.2.2⟩
end
end
section
attribute [local go_sem] Oper.semAt_some
open Go.RowKit
section
variable {o:Ow} {w w':World} {G:Geo} {g:MG} {s:Sh} {m:MS} {nv:Value}
theorem aG.after {W:World} {i:Nat} {r:lT} {e:Ending} (k:Keep (In o (bg i)) w W) (h:aG o W G g nv i r e w'):aG o w G g nv i r e w':=by
 obtain ⟨o',nv',e1,e2,h1,h2,k2⟩:=h
 exact ⟨o',nv',e1,fun b hb=>e2 b (Nat.lt_of_lt_of_le hb k.size),h1,h2,k.trans k2⟩
theorem BK (h:MAt o w G g s m none nv) (code:Int) (v:Nat) (hr:m.res.length≤1000000000):Calls Tryz.prog 140 #[.pointer (some ⟨g.M,0,none⟩),.int .i64 code,.int .i64 (v:Int)] w (fun e w'=>e = .returned .nilFunc∧aG o w G g nv m.id (jS s m code v) e w'):=by
 refine (Po h code v hr).mono ?_
 rintro e w' ⟨rfl,o',e1,h1,k1⟩
 exact ⟨rfl,o',_,rfl,e1,h1,rfl,k1.iI (by simp [bg])⟩
theorem MAt.c9 {ev:Option Ev} (h:MAt o w G g s m ev nv):w.cell? ⟨g.M,9,none⟩=some (.slice (some ⟨g.X,0,none⟩) m.regs.length m.regs.length):=h.cell 9 _ (fun _ _=>rfl)
theorem MAt.reg {ev:Option Ev} (h:MAt o w G g s m ev nv) (j:Nat) (hj:j<m.regs.length):w.cell? ⟨g.X,j,none⟩=some (.int .i64 (m.regs.getD j 0:Nat)):=h.regs.cell j (kE hj)
theorem MAt.rle {ev:Option Ev} (h:MAt o w G g s m ev nv):m.regs.length≤64:=by
 have h1:=(dW h.sh.heap.table.ok).2.2.2.1
 have h2:=h.rlen
 rw [h.conf] at h2
 omega
theorem MV (h:MAt o w G g s m none nv) (r:Int) (v:Nat) (h0:0≤r) (hr:r<m.regs.length) (hres:m.res.length≤1000000000):Calls Tryz.prog 226 #[.pointer (some ⟨g.M,0,none⟩),.int .i64 r,.int .i64 (v:Int)] w (fun e w'=>e = .returned .nilFunc∧aG o w G g nv m.id (lW s m r v) e w'):=by
 obtain ⟨j,rfl⟩:∃ j:Nat,r=(j:Int):=⟨r.toNat,by omega⟩
 have hj:j<m.regs.length:=by omega
 have c9:=h.c9
 have cj:=h.reg j hj
 have fj:=h.regs.free j
 have hle:=h.rle
 obtain ⟨h1,k1⟩:=h.Tv j v
 have HD:Hid (Calls Tryz.prog 140 #[.pointer (some ⟨g.M,0,none⟩),.int .i64 0,.int .i64 (v:Int)] (w.setCell ⟨g.X,j,none⟩ (.int .i64 (v:Int))) (fun e w'=>e = .returned .nilFunc∧aG o w G g nv m.id (lW s m (j:Int) v) e w')):=by
  refine (BK h1 0 v hres).mono ?_
  rintro e w' ⟨rfl,hp⟩
  refine ⟨rfl,aG.after (k1.iI (by simp [bg])) ?_⟩
  unfold lW
  rw [Int.toNat_natCast]
  exact hp
 generalize lW s m (j:Int) v=R at *
 generalize m.regs.getD j 0=old at *
 generalize m.regs.length=n at *
 generalize m.id=mi at *
 clear h h1 k1
 go_enter Tryz.func226,Tryz.ntmps226
 go_wp2_with fail
 refine HD.out.mono ?_
 rintro e w1 ⟨rfl,hp⟩
 have HP:=Lib.hid hp
 clear hp
 go_wp2_with fail
 go_ret
 exact ⟨rfl,HP.out⟩
end
section
variable {o:Ow} {w w':World} {G:Geo} {g:MG} {s:Sh} {m:MS} {nv:Value}
theorem MAt.m0 {ev:Option Ev} (h:MAt o w G g s m ev nv):w.cell? ⟨g.M,0,none⟩=some (.pointer (some ⟨G.S,0,none⟩)):=h.cell 0 _ (fun _ _=>rfl)
theorem MAt.s0 {ev:Option Ev} (h:MAt o w G g s m ev nv):w.cell? ⟨G.S,0,none⟩=some (.pointer (some ⟨G.D 0,0,none⟩))∧w.cell? ⟨G.S,1,none⟩=some (.pointer (some ⟨G.B,0,none⟩))∧w.cell? ⟨G.S,2,none⟩=some (.pointer (some ⟨G.Q,0,none⟩)):=by
 obtain ⟨v,h1,_⟩:=h.sh.sh
 exact ⟨h1.cell 0 rfl,h1.cell 1 rfl,h1.cell 2 rfl⟩
theorem MW (h:MAt o w G g s m none nv) (op:OpR) (v:Value) (hv:bH o w g.Nt g.M (.get op) v) (h0:0≤op.a) (hr:op.a<m.regs.length) (hres:m.res.length≤1000000000):∃ bs:List Nat,v = .func (.func 230) #[] (bs.map ah).toArray∧Calls Tryz.prog 230 (bs.map ah).toArray w (aG o w G g nv m.id (stepM s m (.get op))):=by
 obtain ⟨bs,hbs,hcap⟩:=hv
 refine ⟨bs,hbs,?_⟩
 obtain ⟨b0,b1,rfl,⟨o0,k0⟩,⟨o1,k1⟩⟩:=caps2 hcap
 obtain ⟨ok,oa,ob,oc⟩:=op
 have c0:w.cell? ⟨b0,0,none⟩=some (.pointer (some ⟨g.M,0,none⟩)):=k0.cell 0 rfl
 have c1:w.cell? ⟨b1,2,none⟩=some (.int .i64 ob):=k1.cell 2 rfl
 have m0:=h.m0
 have s0:=h.s0.1
 show Calls Tryz.prog 230 #[.pointer (some ⟨b0,0,none⟩),.pointer (some ⟨b1,0,none⟩)] w _
 have hkd:Keep none_ w w.drew:=(Keep.refl none_ w).drew
 have hd:=h.still hkd
 have HF:Hid (Calls Tryz.prog 57 #[.pointer (some ⟨G.D 0,0,none⟩),.int .i64 ob] w.drew fun e w'=>(∃ er:Int,e = .returned (.tuple #[.int .i64 (s.H.cellP ob:Int),.int .i64 er]))∧w'=w.drew):=by
  refine (vg hd.sh.heap ob).mono ?_
  rintro e w' ⟨rfl,rfl⟩
  exact ⟨⟨_,rfl⟩,rfl⟩
 have HD:Hid (Calls Tryz.prog 226 #[.pointer (some ⟨g.M,0,none⟩),.int .i64 oa,.int .i64 (s.H.cellP ob:Int)] w.drew (fun e w'=>e = .returned .nilFunc∧aG o w G g nv m.id (stepM s m (.get ⟨ok,oa,ob,oc⟩)) e w')):=by
  refine (MV hd oa (s.H.cellP ob) h0 hr hres).mono ?_
  rintro e w' ⟨rfl,hp⟩
  exact ⟨rfl,hp.after hkd.aF⟩
 have HB:Hid (w.drew.cell? ⟨b0,0,none⟩=some (.pointer (some ⟨g.M,0,none⟩))∧w.drew.cell? ⟨b1,1,none⟩=some (.int .i64 oa)):=⟨(hkd.blk k0 (fun f=>f)).cell 0 rfl,(hkd.blk k1 (fun f=>f)).cell 1 rfl⟩
 generalize stepM s m (.get ⟨ok,oa,ob,oc⟩)=R at *
 generalize s.H.cellP ob=x at *
 generalize m.id=mi at *
 clear h hcap hbs hkd hd k0 k1 o0 o1 h0 hr hres
 go_enter Tryz.func230,Tryz.ntmps230
 go_wp2_with fail
 refine aA 9 rfl (by kernel_rfl) (by kernel_rfl) (fun K hK=>?_)
 change wpStill _ _ (World.drew _) _ _ _
 simp only [List.take_succ_cons,List.take_zero,List.drop_succ_cons,List.drop_zero] at hK ⊢
 repeat still_step
 refine wpStill_nil ?_
 change ite _ (Oper.wp _ _ _ _ _ _) _
 go_simp
 refine HF.out.mono ?_
 rintro e w1 ⟨⟨er,rfl⟩,rfl⟩
 refine hK _ _ ?_
 clear hK K
 clear c0 c1 m0 s0 HF
 obtain ⟨W1,hW1⟩:∃ W1,W1=w.drew:=⟨_,rfl⟩
 rw [← hW1] at HB HD ⊢
 clear hW1
 repeat still_step
 refine wpStill_nil ?_
 have c0:=HB.out.1
 have c1:=HB.out.2
 go_wp2_with fail
 refine HD.out.mono ?_
 rintro e w2 ⟨rfl,hp⟩
 have HP:=Lib.hid hp
 clear hp
 go_wp2_with fail
 go_ret
 exact HP.out
end
section
variable {o:Ow} {w w':World} {G:Geo} {g:MG} {s:Sh} {m:MS} {nv:Value}
theorem gV:∀ (fn:Fn) (first cap:Array Value) (w:World),(Instr.makeFunc fn first cap).run Tryz.prog w = .ok (.func fn first cap) w:=fun _ _ _ _=>rfl
end
end
end Go.Proofs.YtanfphjoebobaaaGreatDoor
