/- Parts of the walk. No conditions. -/
import Derived.Test.YtanfphjoebobaaaGreatDoorZzvag
namespace Go.Proofs.YtanfphjoebobaaaGreatDoor
open _root_.Go.Proofs.Tryz hiding prog
open _root_.Go.Proofs.Tryz renaming prog->ay
set_option maxRecDepth 100000
set_option maxHeartbeats 16000000
section
attribute [local go_sem] Oper.semAt_some
open Go.RowKit
section
variable {o o' o0:Ow} {w w' W W' W0:World} {G:Geo} {gs:List MG} {q:CG} {x y:WS} {v mv:Value} {N i n κ K:Nat} {l:List Nat} {d:Dm}
theorem bG.ints {a:Option Addr} {c:Nat} (h:bG o W 3 (.slice a l.length c) (aK l)):fH .i64 W a l.length (l.map fun x:Nat=>(x:Int))/\l.length<=4000000000000:=by
 obtain ⟨a',c',e,hl,hm,hc⟩:=h.form
 have hlen:(aK l).length=l.length:=by simp [aK]
 rw [hlen] at e
 cases e
 rw [hlen] at hm
 refine ⟨⟨by simp,fun h0=>?_⟩,hm⟩
 have h1:∀ j,j<l.length->(aK l)[j]?=some (ah ((l.map fun x:Nat=>(x:Int)).getD j 0)):=fun j hj=>by
  unfold aK
  rw [List.getElem?_map,List.getD_eq_getElem?_getD,List.getElem?_map,List.getElem?_eq_getElem hj]
  rfl
 obtain ⟨b,off,e1,_⟩:=hc 0 _ (h1 0 h0)
 refine ⟨b,off,e1,fun j hj=>?_⟩
 obtain ⟨b',off',e2,h2⟩:=hc j _ (h1 j hj)
 rw [e1] at e2
 cases e2
 exact h2
theorem xG (x:WS) (i:Nat):(aY x i).muts.length=x.muts.length:=by
 unfold aY
 cases hm:x.muts[i]? with
 | some m =>
   simp only
   rw [(WS.nK _ _).2.1]
   simp
 | none =>
   simp only
   split
   ·rw [(WS.nK _ _).2.1]
   ·rw [(WS.nK _ _).2.1]
theorem XE (j n:Nat) (x:WS):(fA j n x).muts.length=x.muts.length:=by
 induction n with
 | zero=>rfl
 | succ n ih =>
   unfold fA
   by_cases e:n=j
   ·rw [if_pos e];exact ih
   ·rw [if_neg e,<- ih]
    exact xG _ _
theorem gu.wish {W0:World} {fv pv:Value} {fr ph:List Nat} (h:gu w W0 o0 G gs q mv N W o x fv pv fr ph):Calls ay 14 #[aj q.C] W fun e W'=>e = .returned (.tuple #[])/\gu w W0 o0 G gs q mv (N+1) W' o (aY x (x.muts.length+1)) fv pv fr ph:=by
 refine h.cw.wish.mono ?_
 rintro e w' ⟨rfl,hc,k⟩
 exact ⟨rfl,hc,wM h.ok h.cw.coll.sh.heap.hbd _,qV h.few _,h.cx.step k (aO.refl _ _) (by decide),h.mv.keep k rfl (aO.refl _ _),h.f.keep k rfl (aO.refl _ _),h.p.keep k rfl (aO.refl _ _)⟩
def Qb (p:CP) (R B j:Nat) (x0:WS) (t:Nat) (z:WS):Prop:=(t=0->z=x0)/\(0<t->oG p R B j z)
theorem BL (x:mM) (a1 a2 a3 a4:Option Addr) (n1 n2 n3 n4 p1 p2 p3 p4:Nat) (k k2:Int) (w:World) (h:zK w x a1 a2 a3 a4 n1 n2 n3 n4) (hk:(Lit.int .u8 k).wf=true) (hk2:(Lit.int .u16 k2).wf=true) (hL:laidMetH ay Rows.collectorWaitsRow.laid w) :
 Calls ay 4 #[pR x.c a1 a2 a3 a4 n1 n2 n3 n4 p1 p2 p3 p4,.int .u8 k,.int .u16 k2] w fun e w'=>e = .returned (.bool true)/\Keep none_ w w':=by
 have hL' : laidMetH ay [("math/bits.deBruijn64tab", Rows.laid_math_bits_deBruijn64tab), ("dustpan/config.limits", Rows.laid_dustpan_config_limits), ("dustpan/class.sizes", Rows.laid_dustpan_class_sizes), ("dustpan/op.kinds", Rows.laid_dustpan_op_kinds)] w := hL
 rw [MakeChecks.laidMetH_plain _ _ _ (by kernel_rfl)] at hL'
 have rZ:=au (Qa hL')
 clear hL hL'
 obtain ⟨kk,rfl,hkk⟩:∃ m:Nat,k=(m:Int)/\m<=255:=by
  simp [Lit.wf] at hk
  have h1:IntKind.u8.min=0:=by decide
  have h2:IntKind.u8.max=255:=by decide
  exact ⟨k.toNat,by omega,by omega⟩
 obtain ⟨nn,rfl,hnn⟩:∃ m:Nat,k2=(m:Int)/\m<=65535:=by
  simp [Lit.wf] at hk2
  have h1:IntKind.u16.min=0:=by decide
  have h2:IntKind.u16.max=65535:=by decide
  exact ⟨k2.toNat,by omega,by omega⟩
 clear hk hk2
 obtain ⟨W0,hW0⟩:∃ W0,W0=w.alloc (.cells #[ah x.c.b,ah x.c.w,ah x.c.m,ah x.c.r,ah x.c.c,ah x.c.l,ah x.c.s,.slice a1 n1 p1,.slice a2 n2 p2,.slice a3 n3 p3,.slice a4 n4 p4] 26):=⟨_,rfl⟩
 have k0:Keep none_ w W0:=by rw [hW0];exact (Keep.refl _ _).alloc _
 have hb0:aA W0 w.heap.size [ah x.c.b,ah x.c.w,ah x.c.m,ah x.c.r,ah x.c.c,ah x.c.l,ah x.c.s,.slice a1 n1 p1,.slice a2 n2 p2,.slice a3 n3 p3,.slice a4 n4 p4] 26:=by rw [hW0];exact aA.new w _ _
 have HW0:=au hW0
 have dY:=au k0
 have HB0:=au hb0
 have HST:=au h
 clear hW0 k0 hb0 h
 go_enter func4,ntmps4
 go_wp2_with fail
 rw [<- HW0.out]
 refine (Jo x.c a1 a2 a3 a4 n1 n2 n3 n4 p1 p2 p3 p4 W0).mono ?_
 rintro e w1 ⟨rfl,k1⟩
 have aJ:Hid (Keep none_ w w1):=dY.out.trans k1
 have HB1:Hid (aA w1 w.heap.size [ah x.c.b,ah x.c.w,ah x.c.m,ah x.c.r,ah x.c.c,ah x.c.l,ah x.c.s,.slice a1 n1 p1,.slice a2 n2 p2,.slice a3 n3 p3,.slice a4 n4 p4] 26):=k1.blk HB0.out (fun f=>f)
 clear k1 dY HB0 HW0
 have Gh:Hid (Calls ay 10 #[] w1 fun e w'=>e = .returned (.bool true)/\Keep none_ w1 w'):=DF (rZ.out.still aJ.out)
 cases hg:yJ n1 n2 n3 n4 with
 | true =>
   go_wp2_with fail
   refine Gh.out.mono ?_
   rintro e w2 ⟨rfl,k2⟩
   have bP:Hid (Keep none_ w w2):=aJ.out.trans k2
   clear k2 Gh
   go_wp2_with fail
   go_ret
   exact ⟨rfl,bP.out⟩
 | false =>
   obtain ⟨m1,m2,m3,m4⟩:=Jm hg
   clear hg
   go_wp2_with fail
   refine Gh.out.mono ?_
   rintro e w2 ⟨rfl,k2⟩
   have bP:Hid (Keep none_ w w2):=aJ.out.trans k2
   have hb2:=k2.blk HB1.out (fun f=>f)
   have z0:=hb2.cell 0 rfl;have z1:=hb2.cell 1 rfl;have z2:=hb2.cell 2 rfl;have z3:=hb2.cell 3 rfl;have z4:=hb2.cell 4 rfl;have z5:=hb2.cell 5 rfl;have z6:=hb2.cell 6 rfl;have z7:=hb2.cell 7 rfl;have z8:=hb2.cell 8 rfl;have z9:=hb2.cell 9 rfl;have z10:=hb2.cell 10 rfl
   have DC:Hid (Calls ay 11 #[pR x.c a1 a2 a3 a4 n1 n2 n3 n4 p1 p2 p3 p4] w2 (Cm w2 x)):=NC (rZ.out.still bP.out) (HST.out.still bP.out) m1 m2 m3 m4
   have hrl:x.rg.length<=20:=by have:=HST.out.r.len;omega
   clear k2 Gh hb2 HB1 aJ
   go_wp2_with fail
   clear z0 z1 z2 z3 z4 z5 z6 z7 z8 z9 z10
   refine DC.out.mono ?_
   intro e2 w3 hm
   obtain ⟨o,G,q,gs,ma,mc,a,c,rfl,hcw,hok,hfw,hmv,hrow,hI,hgl⟩:=hm.get hrl
   clear hm DC
   obtain ⟨d,hd,hdk⟩:=Jp x.c
   have NJ:=CI.made hd hcw hok hfw hmv hI hgl
   have hob:=hI.objs
   have hn:gs.length=d.m:=NJ.len
   have hx0:mP d.m d.b d.ce 0 (aY (bJ x) ((bJ x).muts.length+1)):=by
    rw [pU]
    exact NJ.ji.congr rfl rfl ⟨rfl,rfl,rfl,rfl,rfl,rfl,rfl,rfl⟩
   have hw0:(aY (bJ x) ((bJ x).muts.length+1)).coll.wish=true:=by rw [pU]
   have hs0:(aY (bJ x) ((bJ x).muts.length+1)).s=(bJ x).s:=by rw [pU]
   have hr0:∀ (i:Nat) (m:MS),(aY (bJ x) ((bJ x).muts.length+1)).muts[i]?=some m->m.regs.length<=d.r:=by rw [pU];exact NJ.regs
   have hd0:kY (aY (bJ x) ((bJ x).muts.length+1)).coll:=by rw [pU];exact NJ.dr
   have hS3:gu w2 w3 o G gs q (.slice ma gs.length mc) 300 w3 o (bJ x) (.slice none 0 0) (.slice none 0 0) [] []:=⟨hcw,hok,hfw,CX.refl _ _,hmv,jT.nil _ _ _,jT.nil _ _ _⟩
   have hWI:=hS3.wish
   have hm4:=hdk.m
   have hob0:(aY (bJ x) ((bJ x).muts.length+1)).s.H.objs=oh x:=by rw [hs0];exact hob
   have XF:(aY (bJ x) ((bJ x).muts.length+1)).s.H.ww=d.w:=by rw [hs0];exact NJ.ww
   have hcf0:(aY (bJ x) ((bJ x).muts.length+1)).s.H.c=d.conf:=by rw [hs0];exact NJ.conf
   generalize aY (bJ x) ((bJ x).muts.length+1)=x0 at *
   obtain ⟨hmo1,hmo2⟩:=hdk.most
   obtain ⟨n,hnn2⟩:∃ n,n=gs.length:=⟨_,rfl⟩
   have hnm:n=d.m:=hnn2.trans hn
   obtain ⟨j,hj⟩:∃ j,j=kk%n:=⟨_,rfl⟩
   have hjn:j<n:=by rw [hj];exact Nat.mod_lt _ (by omega)
   have hxl:x0.muts.length=n:=by rw [hnm];exact hx0.muts
   obtain ⟨p,hp⟩:∃ p,p=eY d.m d.b d.ce 0 x0:=⟨_,rfl⟩
   have hpm:p.mu=n:=by rw [hp,hnm];rfl
   obtain ⟨g,SS,aaT⟩:=hx0.sil hw0 hr0 (j:=j) (by omega)
   rw [<- hp] at g SS
   rw [XF] at SS
   have VA:Hid (∀ t z,Qb p d.r (mW d.m d.b d.ce d.r (d.w/2)) j x0 t z->Qb p d.r (mW d.m d.b d.ce d.r (d.w/2)) j x0 (t+1) (Hg j n z)/\(Ez j n z=none\/∃ wh vl:Nat,Ez j n z=some ⟨wh,2,0,0,vl⟩)):=fun t z h=>by
    rcases Nat.eq_zero_or_pos t with e|e
    ·rw [h.1 e,hnm]
     exact ⟨⟨fun e=>absurd e (Nat.succ_ne_zero _),fun _=>SS⟩,.inr ⟨_,_,aaT⟩⟩
    ·have h1:=(h.2 e).round g (by omega)
     rw [hpm] at h1
     exact ⟨⟨fun e=>absurd e (Nat.succ_ne_zero _),fun _=>h1.1⟩,.inl h1.2⟩
   have yB:Hid (∀ t z,Qb p d.r (mW d.m d.b d.ce d.r (d.w/2)) j x0 t z->z.s.H.objs=oh x/\z.s.H.c=d.conf/\(0<t->z.coll.phase=1)/\(t=0->z.coll.phase=0)):=fun t z h=>by
    rcases Nat.eq_zero_or_pos t with e|e
    ·rw [h.1 e]
     exact ⟨hob0,hcf0,fun h=>absurd h (by omega),fun _=>hx0.ph⟩
    ·have h1:=h.2 e
     refine ⟨?_,?_,fun _=>h1.ph,fun e'=>absurd e' (by omega)⟩
     ·rw [h1.objs,hp];exact hob0
     ·obtain ⟨f,e⟩:=h1.inv.heap
      rw [e,hp];exact hcf0
   have HEN:Hid (∀ t z,Qb p d.r (mW d.m d.b d.ce d.r (d.w/2)) j x0 t z->∃ fr ph,(fG n d.most z fr ph).2.2.1=true):=fun t z h=>by
    rcases Nat.eq_zero_or_pos t with e|e
    ·rw [h.1 e,hnm]
     obtain ⟨out,ph,z,e,_⟩:=Gf hx0 hw0 hr0 d.most (by rw [XF];exact hmo1) hd0
     exact ⟨_,_,by rw [e]⟩
    ·obtain ⟨out,ph,z,e⟩:=(h.2 e).ends g (f:=d.most) (by omega)
     rw [hpm] at e
     exact ⟨_,_,by rw [e]⟩
   have sF:Hid (Qb p d.r (mW d.m d.b d.ce d.r (d.w/2)) j x0 0 x0):=⟨fun _=>rfl,fun h=>absurd h (Nat.lt_irrefl 0)⟩
   generalize hPP:Qb p d.r (mW d.m d.b d.ce d.r (d.w/2)) j x0=PP at *
   have kZ:Hid (n=gs.length):=hnn2
   have P8:=au hWI
   have sO:=au hrow
   have HDK:=au hdk
   have hmI:(d.most:Int)<=1000000:=by omega
   have hnI:(n:Int)<=4:=by omega
   have hn1:(1:Int)<=(n:Int):=by omega
   have hn0:¬ (n:Int)=0:=by omega
   have KR:(j:Int)<=4:=by omega
   have hje:(kk:Int).tmod (n:Int)=(j:Int):=by rw [Int.tmod_eq_emod_of_nonneg (by omega),hj];simp
   have hje2:(kk:Int)%(n:Int)=(j:Int):=by rw [hj];simp
   obtain ⟨r,hr⟩:∃ r,r=nn%2000:=⟨_,rfl⟩
   have hr1:(nn:Int).tmod 2000=(r:Int):=by rw [Int.tmod_eq_emod_of_nonneg (by omega)];omega
   have hr2:(nn:Int)%2000=(r:Int):=by omega
   have hr3:r<=1999:=by omega
   have HR1:=au hr1
   have HR2:=au hr2
   have HZL:Hid (x0.muts.length=n):=hxl
   rw [<- hnn2] at P8
   clear hPP hd NJ hob hn hx0 hw0 hs0 hr0 hd0 hS3 hWI hm4 hob0 XF hcf0 hmo1 hmo2 hnn2 hnm hj hxl hp hpm g SS aaT hcw hok hfw hmv hrow hI hgl hdk hr hjn p
   rw [<- kZ.out]
   go_wp2_with fail
   refine P8.out.mono ?_
   rintro e w4 ⟨rfl,hs4⟩
   have zV:=au hs4
   clear hs4 P8
   go_wp2_with fail
   clear hje hje2 hn0 hn1 hr1 hr2
   have hr1:(nn:Int).tmod 2000=(r:Int):=HR1.out
   have hr2:(nn:Int)%2000=(r:Int):=HR2.out
   go_loopw [12,13,14,15] (fun iv _ _ _ wr=>∃ (t:Nat) (o':Ow) (z:WS),t<=r/\iv = ah t/\gu w2 w3 o G gs q (.slice ma n mc) (301+t*(n+1)) wr o' z (.slice none 0 0) (.slice none 0 0) [] []/\z.muts.length=n/\PP t z) (fun iv _ _ _ _=>r - (intOf iv).toNat)
   case atStart=>exact ⟨0,o,x0,Nat.zero_le _,rfl,zV.out.more (by omega),HZL.out,sF.out⟩
   case round =>
    obtain ⟨t,o4,z,ht,rfl,hs,hzl,hpp⟩:=hrel
    have wo:=au hpp
    have HS:=au hs
    by_cases htr:t<r
    ·have MQ:(t:Int)<(r:Int):=by omega
     have hm2:(t+1)*(n+1)<=2000*5:=Nat.mul_le_mul (by omega) (by omega)
     rw [Nat.add_mul,Nat.one_mul] at hm2
     have nH:Hid (301+t*(n+1)+(n+1)<=1000000000):=by show _<=_;omega
     have qX:Hid (∀ u,(fA j u z).muts.length=n):=fun u=>(XE j u z).trans hzl
     clear hs hpp hm2 hzl
     go_wp2_with fail
     clear hr1 hr2 MQ
     go_loopw [13] (fun kv wr=>∃ (u:Nat) (o':Ow),u<=n/\kv = ah u/\gu w2 w3 o G gs q (.slice ma n mc) (301+t*(n+1)+u) wr o' (fA j u z) (.slice none 0 0) (.slice none 0 0) [] []) (fun kv _=>n - (intOf kv).toNat)
     case atStart=>exact ⟨0,o4,Nat.zero_le _,rfl,HS.out⟩
     case round =>
      obtain ⟨u,o5,hu,rfl,hs⟩:=hrel
      by_cases hun:u<n
      ·have VB:(u:Int)<(n:Int):=by omega
       have hu0:(0:Int)<=(u:Int):=by omega
       by_cases huj:u=j
       ·subst huj
        have e1:fA u (u+1) z=fA u u z:=by
         show (if u=u then _ else _)=_
         rw [if_pos rfl]
        have qx:Hid (gu w2 w3 o G gs q (.slice ma n mc) (301+t*(n+1)+(u+1)) wr o5 (fA u (u+1) z) (.slice none 0 0) (.slice none 0 0) [] []):=by rw [e1];exact hs.more (by omega)
        clear hs e1
        go_wp2_with fail
        exact ⟨⟨u+1,o5,by omega,by go_num,qx.out⟩,by simp [intOf];omega⟩
       ·have hd2:decide ((u:Int)=(j:Int))=false:=decide_eq_false (by omega)
        have hd1:((u:Int)==(j:Int))=false:=by simp;omega
        have e1:fA j (u+1) z=aY (fA j u z) u:=by
         show (if u=j then _ else _)=_
         rw [if_neg huj]
        obtain ⟨g0,hg0⟩:∃ g,gs[u]?=some g:=⟨gs[u]'(by have:=kZ.out;omega),List.getElem?_eq_getElem _⟩
        obtain ⟨m0,hm0⟩:∃ m,(fA j u z).muts[u]?=some m:=⟨(fA j u z).muts[u]'(by have:=qX.out u;omega),List.getElem?_eq_getElem _⟩
        obtain ⟨a',c',e2,hform⟩:=hs.mv.form
        rw [<- kZ.out] at e2
        cases e2
        obtain ⟨bA,e3,hcA⟩:=hform u g0 hg0
        have uh:=au (hs.pick (by have:=nH.out;omega) hg0 hm0)
        rw [<- e1] at uh
        cases e3
        clear hs hform hg0 hm0 e1 huj hr3 KR hmI hkk hnn hrl ht htr hu hun
        go_wp2_with fail
        refine uh.out.mono ?_
        rintro e w5 ⟨⟨v1,v2,rfl⟩,o6,hs5⟩
        have qx:=au hs5
        clear hs5 uh hcA
        go_wp2_with fail
        exact ⟨⟨u+1,o6,by omega,by go_num,qx.out⟩,by simp [intOf];omega⟩
      ·obtain rfl:u=n:=by omega
       have VB:¬ (u:Int)<(u:Int):=by omega
       have qF:Hid (Calls ay 12 #[aj q.C] wr fun e W'=>e = .returned (.tuple #[jJ (Ez j u z),iQ (Ez j u z)])/\∃ o',gu w2 w3 o G gs q (.slice ma u mc) (301+(t+1)*(u+1)) W' o' (Hg j u z) (.slice none 0 0) (.slice none 0 0) [] []):=by
        have h1:=hs.coll (by have:=nH.out;omega)
        rw [qX.out u] at h1
        refine h1.mono ?_
        rintro e W' ⟨e1,o',h2⟩
        exact ⟨e1,o',h2.more (by rw [Nat.add_mul t 1];omega)⟩
       obtain ⟨hp1,hev⟩:=VA.out t z wo.out
       have hrl:(Hg j u z).muts.length=u:=(xG _ _).trans (qX.out u)
       have zW:=au hp1
       clear hs qX hp1
       generalize Ez j u z=ev at *
       generalize Hg j u z=z2 at *
       go_wp2_with fail
       refine qF.out.mono ?_
       rintro e w6 ⟨rfl,o6,hs6⟩
       rcases hev with rfl|⟨wh,vl,rfl⟩
       ·have hag:jJ none = .agg #[ah 0,ah 0,ah 0,ah 0,ah 0,ah 0]:=rfl
        have htl:iQ none = .bool false:=rfl
        rw [hag,htl]
        obtain ⟨W7,iC⟩:∃ W7,W7=w6.alloc (.cells #[ah 0,ah 0,ah 0,ah 0,ah 0,ah 0] 37):=⟨_,rfl⟩
        have k7:Keep none_ w6 W7:=by rw [iC];exact (Keep.refl _ _).alloc _
        have hb7:aA W7 w6.heap.size [ah 0,ah 0,ah 0,ah 0,ah 0,ah 0] 37:=by rw [iC];exact aA.new w6 _ _
        have jm:=au (hs6.still k7)
        have y2:=hb7.cell 2 rfl
        rw [iC] at jm y2
        clear hs6 hb7 k7 iC qF
        go_wp2_with fail
        exact ⟨⟨t+1,o6,z2,by omega,by go_num,jm.out,hrl,zW.out⟩,by simp [intOf];omega⟩
       ·have hag:jJ (some ⟨wh,2,0,0,vl⟩) = .agg #[ah 0,ah (wh:Int),ah 2,ah 0,ah 0,ah (vl:Int)]:=rfl
        have htl:iQ (some ⟨wh,2,0,0,vl⟩) = .bool true:=rfl
        rw [hag,htl]
        obtain ⟨W7,iC⟩:∃ W7,W7=w6.alloc (.cells #[ah 0,ah (wh:Int),ah 2,ah 0,ah 0,ah (vl:Int)] 37):=⟨_,rfl⟩
        have k7:Keep none_ w6 W7:=by rw [iC];exact (Keep.refl _ _).alloc _
        have hb7:aA W7 w6.heap.size [ah 0,ah (wh:Int),ah 2,ah 0,ah 0,ah (vl:Int)] 37:=by rw [iC];exact aA.new w6 _ _
        have jm:=au (hs6.still k7)
        have y2:=hb7.cell 2 rfl
        rw [iC] at jm y2
        clear hs6 hb7 k7 iC qF
        go_wp2_with fail
        exact ⟨⟨t+1,o6,z2,by omega,by go_num,jm.out,hrl,zW.out⟩,by simp [intOf];omega⟩
    ·obtain rfl:t=r:=by omega
     have MQ:¬ (t:Int)<(t:Int):=by omega
     obtain ⟨hob,hcf,hph1,hph0⟩:=yB.out t z wo.out
     have hG:=hs.cw.coll.sh.qG.1
     have hkw:=hs.cw.keep
     have HRW:=au (hs.cx.row sO.out)
     have HZ:Hid (z.muts.length=n/\∃ fr ph,(fG n d.most z fr ph).2.2.1=true):=⟨hzl,HEN.out t z wo.out⟩
     have Yq:Hid (gu w2 w3 o G gs q (.slice ma n mc) 20000 wr o4 z (.slice none 0 0) (.slice none 0 0) [] []):=by
      have hm2:t*(n+1)<=2000*5:=Nat.mul_le_mul (by omega) (by omega)
      exact hs.more (by omega)
     have LM:=au hkw
     have HOJ:=au hob
     have rD:Hid (∀ W,Keep none_ wr W->Calls ay 26 #[aj (G.D 0)] W fun e w'=>e = .returned (.agg d.conf.cells.toArray)/\Keep none_ W w'):=fun W k=>by
      have:=sZ (Yq.out.still k).cw.coll.sh.heap
      rw [hcf] at this
      exact this
     have hpc:(z.coll.phase:Int)=if t=0 then 0 else 1:=by
      by_cases e:t=0
      ·rw [if_pos e,hph0 e];rfl
      ·rw [if_neg e,hph1 (by omega)];rfl
     clear hs hzl hpp wo VA HEN yB sO hob hcf hph1 hph0 hkw zV HZL sF HS
     go_wp2_with fail
     refine (wO Yq.out.cw.coll.sh.heap (rZ.out.still (bP.out.trans LM.out)).b).mono ?_
     rintro e w8 ⟨v8,rfl,ho8,k8⟩
     rw [HOJ.out] at ho8
     obtain ⟨a8,c8,rfl,hi8,_⟩:=fH.EF (k := .i64) (zs:=(oh x).map fun x:Nat=>(x:Int)) (by
      have e:aK (oh x)=((oh x).map fun x:Nat=>(x:Int)).map (Value.int .i64):=by simp [aK]
      rw [<- e];exact ho8)
     obtain ⟨hi9,hl9⟩:=(HRW.out.still k8).ints
     have Du:Hid (Calls ay 22 #[.slice a8 (oh x).length c8,.slice a (oh x).length c] w8 fun e w'=>e = .returned (.bool true)/\Keep none_ wr w'):=by
      refine (Ew a8 a (oh x).length (oh x).length c8 c _ _ w8 hi8 hi9 (by omega) (by omega)).mono ?_
      rintro e w' ⟨rfl,k⟩
      exact ⟨by rw [beq_self_eq_true],k8.trans k⟩
     clear hi8 hi9 ho8 k8 hl9 hG
     go_wp2_with fail
     refine Du.out.mono ?_
     rintro e w9 ⟨rfl,k9⟩
     have NK:=au (Yq.out.still k9)
     have SV:Hid (∀ W,Keep none_ w9 W->Calls ay 26 #[aj (G.D 0)] W fun e w'=>e = .returned (.agg d.conf.cells.toArray)/\Keep none_ W w'):=fun W k=>rD.out W (k9.trans k)
     clear Du k9 rD Yq HRW HOJ LM
     go_wp2_with fail
     refine (qp NK.out.cw.coll).mono ?_
     rintro e w10 ⟨rfl,rfl⟩
     have hG9:=NK.out.cw.coll.sh.qG.1
     have eX:Hid (Keep none_ w w9):=bP.out.trans NK.out.cw.keep
     have hcs:((z.coll.phase:Int)=0/\t=0)\/((z.coll.phase:Int)=1/\0<t):=by
      by_cases e:t=0
      ·rw [if_pos e] at hpc;exact .inl ⟨hpc,e⟩
      ·rw [if_neg e] at hpc;exact .inr ⟨hpc,by omega⟩
     clear hpc
     rcases hcs with ⟨e0,ht0⟩|⟨e0,ht0⟩
     ·have hz:decide (0<t)=false:=decide_eq_false (by omega)
      rw [e0]
      clear e0 ht0
      go_wp2_with fail
      refine (SV.out _ (by first|exact Keep.refl _ _|exact (Keep.refl _ _).drew)).mono ?_
      rintro e w11 ⟨rfl,k11⟩
      have NM:=au (NK.out.still k11)
      clear k11 SV hG9
      go_wp2_with fail
      refine (HDK.out.bound w11).mono ?_
      rintro e w12 ⟨rfl,k12⟩
      have Eu:=au (NM.out.still k12)
      clear k12 NM NK
      go_wp2_with fail
      go_loopw [17,18,19,20] (fun iv _ _ _ wr=>∃ (v:Nat) (o':Ow) (z:WS) (fr ph:List Nat),v<=d.most/\iv = ah v/\gu w2 w3 o G gs q (.slice ma n mc) (20000+v*(n+1)) wr o' z (.slice none 0 0) (.slice none 0 0) [] []/\z.muts.length=n/\(fG n (d.most - v) z fr ph).2.2.1=true) (fun iv _ _ _ _=>d.most - (intOf iv).toNat)
      case atStart =>
       obtain ⟨hzl,fr,ph,yK⟩:=HZ.out
       exact ⟨0,o4,z,fr,ph,Nat.zero_le _,rfl,Eu.out.more (by omega),hzl,yK⟩
      case round =>
       obtain ⟨v,o7,z7,fr,ph,hv,rfl,hs,hzl,yK⟩:=hrel
       have HKE:Hid (Keep none_ w wr):=bP.out.trans hs.cw.keep
       by_cases hvm:v<d.most
       ·have hvI:(v:Int)<(d.most:Int):=by omega
        have hm2:(v+1)*(n+1)<=1000000*5:=Nat.mul_le_mul (by omega) (by omega)
        rw [Nat.add_mul,Nat.one_mul] at hm2
        have nH:Hid (20000+v*(n+1)+(n+1)<=1000000000):=by show _<=_;omega
        have HS:=au hs
        have VD:=au yK
        have qX:Hid (∀ u,(aU u z7).muts.length=n):=fun u=>(xE u z7).trans hzl
        clear hs yK hm2 hzl
        go_wp2_with fail
        go_loopw [18] (fun kv wr=>∃ (u:Nat) (o':Ow),u<=n/\kv = ah u/\gu w2 w3 o G gs q (.slice ma n mc) (20000+v*(n+1)+u) wr o' (aU u z7) (.slice none 0 0) (.slice none 0 0) [] []) (fun kv _=>n - (intOf kv).toNat)
        case atStart=>exact ⟨0,o7,Nat.zero_le _,rfl,HS.out⟩
        case round =>
         obtain ⟨u,o5,hu,rfl,hs⟩:=hrel
         by_cases hun:u<n
         ·have VB:(u:Int)<(n:Int):=by omega
          have hu0:(0:Int)<=(u:Int):=by omega
          obtain ⟨g0,hg0⟩:∃ g,gs[u]?=some g:=⟨gs[u]'(by have:=kZ.out;omega),List.getElem?_eq_getElem _⟩
          obtain ⟨m0,hm0⟩:∃ m,(aU u z7).muts[u]?=some m:=⟨(aU u z7).muts[u]'(by have:=qX.out u;omega),List.getElem?_eq_getElem _⟩
          obtain ⟨a',c',e2,hform⟩:=hs.mv.form
          rw [<- kZ.out] at e2
          cases e2
          obtain ⟨bA,e3,hcA⟩:=hform u g0 hg0
          have uh:=au (hs.pick (by have:=nH.out;omega) hg0 hm0)
          cases e3
          clear hs hform hg0 hm0
          go_wp2_with fail
          refine uh.out.mono ?_
          rintro e w5 ⟨⟨v1,v2,rfl⟩,o6,hs5⟩
          have qx:=au hs5
          clear hs5 uh hcA
          go_wp2_with fail
          exact ⟨⟨u+1,o6,by omega,by go_num,qx.out⟩,by simp [intOf];omega⟩
         ·obtain rfl:u=n:=by omega
          have VB:¬ (u:Int)<(u:Int):=by omega
          have qF:Hid (Calls ay 12 #[aj q.C] wr fun e W'=>e = .returned (.tuple #[jJ (fE u z7),iQ (fE u z7)])/\∃ o',gu w2 w3 o G gs q (.slice ma u mc) (20000+(v+1)*(u+1)) W' o' (bV u z7) (.slice none 0 0) (.slice none 0 0) [] []):=by
           have h1:=hs.coll (by have:=nH.out;omega)
           rw [qX.out u] at h1
           refine h1.mono ?_
           rintro e W' ⟨e1,o',h2⟩
           exact ⟨e1,o',h2.more (by rw [Nat.add_mul v 1];omega)⟩
          have BM:Hid (yH (fE u z7)=false->∃ fr ph,(fG u (d.most - (v+1)) (bV u z7) fr ph).2.2.1=true):=fun h=>by
           have h1:=VD.out
           rw [show d.most - v=(d.most - (v+1))+1 by omega] at h1
           have h2:fG u (d.most - (v+1)+1) z7 fr ph=if yH (fE u z7) then (sH (fE u z7) fr,fZ ph (bV u z7).coll.phase,true,bV u z7) else fG u (d.most - (v+1)) (bV u z7) (sH (fE u z7) fr) (fZ ph (bV u z7).coll.phase):=rfl
           rw [h2,h,if_neg (by decide)] at h1
           exact ⟨_,_,h1⟩
          have hrl:(bV u z7).muts.length=u:=(xG _ _).trans (qX.out u)
          clear hs qX VD
          generalize fE u z7=ev at *
          generalize bV u z7=z8 at *
          go_wp2_with fail
          refine qF.out.mono ?_
          rintro e w6 ⟨rfl,o6,hs6⟩
          have NP:Hid (Keep none_ w w6):=bP.out.trans hs6.cw.keep
          cases ev with
          | none =>
            have hag:jJ none = .agg #[ah 0,ah 0,ah 0,ah 0,ah 0,ah 0]:=rfl
            have htl:iQ none = .bool false:=rfl
            rw [hag,htl]
            obtain ⟨fr',kT,hr'⟩:=BM.out rfl
            have HR':=au hr'
            obtain ⟨W7,iC⟩:∃ W7,W7=w6.alloc (.cells #[ah 0,ah 0,ah 0,ah 0,ah 0,ah 0] 37):=⟨_,rfl⟩
            have k7:Keep none_ w6 W7:=by rw [iC];exact (Keep.refl _ _).alloc _
            have jm:=au (hs6.still k7)
            rw [iC] at jm
            clear hs6 k7 iC qF hr' BM
            go_wp2_with fail
            exact ⟨⟨v+1,o6,z8,fr',kT,by omega,by go_num,jm.out,hrl,HR'.out⟩,by simp [intOf];omega⟩
          | some e =>
            have htl:iQ (some e) = .bool true:=rfl
            have hag:jJ (some e) = .agg #[ah 0,ah (e.who:Int),ah (e.kind:Int),ah (e.op:Int),ah e.code,ah (e.value:Int)]:=rfl
            rw [hag,htl]
            obtain ⟨W7,iC⟩:∃ W7,W7=w6.alloc (.cells #[ah 0,ah (e.who:Int),ah (e.kind:Int),ah (e.op:Int),ah e.code,ah (e.value:Int)] 37):=⟨_,rfl⟩
            have k7:Keep none_ w6 W7:=by rw [iC];exact (Keep.refl _ _).alloc _
            have hb7:aA W7 w6.heap.size [ah 0,ah (e.who:Int),ah (e.kind:Int),ah (e.op:Int),ah e.code,ah (e.value:Int)] 37:=by rw [iC];exact aA.new w6 _ _
            have jm:=au (hs6.still k7)
            have y2:=hb7.cell 2 rfl
            rw [iC] at jm y2
            by_cases hk4:e.kind=4
            ·have zO:(e.kind:Int)=4:=by omega
             rw [zO] at y2 ⊢
             have NQ:Hid (Keep none_ w W7):=NP.out.trans k7
             rw [iC,zO] at NQ
             clear hs6 k7 iC qF BM hb7 hk4 zO jm NP
             go_wp2_with fail
             go_ret
             exact ⟨rfl,NQ.out⟩
            ·obtain ⟨fr',kT,hr'⟩:=BM.out (by show (e.kind==4)=false;simpa using hk4)
             have HR':=au hr'
             clear hs6 k7 iC qF hr' BM hb7
             generalize e.kind=kd at *
             have zO:decide (kd=4)=false:=decide_eq_false hk4
             have aaO:((kd:Int)==4)=false:=by simp;omega
             clear hk4
             go_wp2_with fail
             exact ⟨⟨v+1,o6,z8,fr',kT,by omega,by go_num,jm.out,hrl,HR'.out⟩,by simp [intOf];omega⟩
       ·obtain rfl:v=d.most:=by omega
        rw [Nat.sub_self] at yK
        exact absurd yK (by show ¬ false=true;decide)
     ·rw [e0]
      clear e0 ht0
      go_wp2_with fail
      refine (SV.out _ (by first|exact Keep.refl _ _|exact (Keep.refl _ _).drew)).mono ?_
      rintro e w11 ⟨rfl,k11⟩
      have NM:=au (NK.out.still k11)
      clear k11 SV hG9
      go_wp2_with fail
      refine (HDK.out.bound w11).mono ?_
      rintro e w12 ⟨rfl,k12⟩
      have Eu:=au (NM.out.still k12)
      clear k12 NM NK
      go_wp2_with fail
      go_loopw [17,18,19,20] (fun iv _ _ _ wr=>∃ (v:Nat) (o':Ow) (z:WS) (fr ph:List Nat),v<=d.most/\iv = ah v/\gu w2 w3 o G gs q (.slice ma n mc) (20000+v*(n+1)) wr o' z (.slice none 0 0) (.slice none 0 0) [] []/\z.muts.length=n/\(fG n (d.most - v) z fr ph).2.2.1=true) (fun iv _ _ _ _=>d.most - (intOf iv).toNat)
      case atStart =>
       obtain ⟨hzl,fr,ph,yK⟩:=HZ.out
       exact ⟨0,o4,z,fr,ph,Nat.zero_le _,rfl,Eu.out.more (by omega),hzl,yK⟩
      case round =>
       obtain ⟨v,o7,z7,fr,ph,hv,rfl,hs,hzl,yK⟩:=hrel
       have HKE:Hid (Keep none_ w wr):=bP.out.trans hs.cw.keep
       by_cases hvm:v<d.most
       ·have hvI:(v:Int)<(d.most:Int):=by omega
        have hm2:(v+1)*(n+1)<=1000000*5:=Nat.mul_le_mul (by omega) (by omega)
        rw [Nat.add_mul,Nat.one_mul] at hm2
        have nH:Hid (20000+v*(n+1)+(n+1)<=1000000000):=by show _<=_;omega
        have HS:=au hs
        have VD:=au yK
        have qX:Hid (∀ u,(aU u z7).muts.length=n):=fun u=>(xE u z7).trans hzl
        clear hs yK hm2 hzl
        go_wp2_with fail
        go_loopw [18] (fun kv wr=>∃ (u:Nat) (o':Ow),u<=n/\kv = ah u/\gu w2 w3 o G gs q (.slice ma n mc) (20000+v*(n+1)+u) wr o' (aU u z7) (.slice none 0 0) (.slice none 0 0) [] []) (fun kv _=>n - (intOf kv).toNat)
        case atStart=>exact ⟨0,o7,Nat.zero_le _,rfl,HS.out⟩
        case round =>
         obtain ⟨u,o5,hu,rfl,hs⟩:=hrel
         by_cases hun:u<n
         ·have VB:(u:Int)<(n:Int):=by omega
          have hu0:(0:Int)<=(u:Int):=by omega
          obtain ⟨g0,hg0⟩:∃ g,gs[u]?=some g:=⟨gs[u]'(by have:=kZ.out;omega),List.getElem?_eq_getElem _⟩
          obtain ⟨m0,hm0⟩:∃ m,(aU u z7).muts[u]?=some m:=⟨(aU u z7).muts[u]'(by have:=qX.out u;omega),List.getElem?_eq_getElem _⟩
          obtain ⟨a',c',e2,hform⟩:=hs.mv.form
          rw [<- kZ.out] at e2
          cases e2
          obtain ⟨bA,e3,hcA⟩:=hform u g0 hg0
          have uh:=au (hs.pick (by have:=nH.out;omega) hg0 hm0)
          cases e3
          clear hs hform hg0 hm0
          go_wp2_with fail
          refine uh.out.mono ?_
          rintro e w5 ⟨⟨v1,v2,rfl⟩,o6,hs5⟩
          have qx:=au hs5
          clear hs5 uh hcA
          go_wp2_with fail
          exact ⟨⟨u+1,o6,by omega,by go_num,qx.out⟩,by simp [intOf];omega⟩
         ·obtain rfl:u=n:=by omega
          have VB:¬ (u:Int)<(u:Int):=by omega
          have qF:Hid (Calls ay 12 #[aj q.C] wr fun e W'=>e = .returned (.tuple #[jJ (fE u z7),iQ (fE u z7)])/\∃ o',gu w2 w3 o G gs q (.slice ma u mc) (20000+(v+1)*(u+1)) W' o' (bV u z7) (.slice none 0 0) (.slice none 0 0) [] []):=by
           have h1:=hs.coll (by have:=nH.out;omega)
           rw [qX.out u] at h1
           refine h1.mono ?_
           rintro e W' ⟨e1,o',h2⟩
           exact ⟨e1,o',h2.more (by rw [Nat.add_mul v 1];omega)⟩
          have BM:Hid (yH (fE u z7)=false->∃ fr ph,(fG u (d.most - (v+1)) (bV u z7) fr ph).2.2.1=true):=fun h=>by
           have h1:=VD.out
           rw [show d.most - v=(d.most - (v+1))+1 by omega] at h1
           have h2:fG u (d.most - (v+1)+1) z7 fr ph=if yH (fE u z7) then (sH (fE u z7) fr,fZ ph (bV u z7).coll.phase,true,bV u z7) else fG u (d.most - (v+1)) (bV u z7) (sH (fE u z7) fr) (fZ ph (bV u z7).coll.phase):=rfl
           rw [h2,h,if_neg (by decide)] at h1
           exact ⟨_,_,h1⟩
          have hrl:(bV u z7).muts.length=u:=(xG _ _).trans (qX.out u)
          clear hs qX VD
          generalize fE u z7=ev at *
          generalize bV u z7=z8 at *
          go_wp2_with fail
          refine qF.out.mono ?_
          rintro e w6 ⟨rfl,o6,hs6⟩
          have NP:Hid (Keep none_ w w6):=bP.out.trans hs6.cw.keep
          cases ev with
          | none =>
            have hag:jJ none = .agg #[ah 0,ah 0,ah 0,ah 0,ah 0,ah 0]:=rfl
            have htl:iQ none = .bool false:=rfl
            rw [hag,htl]
            obtain ⟨fr',kT,hr'⟩:=BM.out rfl
            have HR':=au hr'
            obtain ⟨W7,iC⟩:∃ W7,W7=w6.alloc (.cells #[ah 0,ah 0,ah 0,ah 0,ah 0,ah 0] 37):=⟨_,rfl⟩
            have k7:Keep none_ w6 W7:=by rw [iC];exact (Keep.refl _ _).alloc _
            have jm:=au (hs6.still k7)
            rw [iC] at jm
            clear hs6 k7 iC qF hr' BM
            go_wp2_with fail
            exact ⟨⟨v+1,o6,z8,fr',kT,by omega,by go_num,jm.out,hrl,HR'.out⟩,by simp [intOf];omega⟩
          | some e =>
            have htl:iQ (some e) = .bool true:=rfl
            have hag:jJ (some e) = .agg #[ah 0,ah (e.who:Int),ah (e.kind:Int),ah (e.op:Int),ah e.code,ah (e.value:Int)]:=rfl
            rw [hag,htl]
            obtain ⟨W7,iC⟩:∃ W7,W7=w6.alloc (.cells #[ah 0,ah (e.who:Int),ah (e.kind:Int),ah (e.op:Int),ah e.code,ah (e.value:Int)] 37):=⟨_,rfl⟩
            have k7:Keep none_ w6 W7:=by rw [iC];exact (Keep.refl _ _).alloc _
            have hb7:aA W7 w6.heap.size [ah 0,ah (e.who:Int),ah (e.kind:Int),ah (e.op:Int),ah e.code,ah (e.value:Int)] 37:=by rw [iC];exact aA.new w6 _ _
            have jm:=au (hs6.still k7)
            have y2:=hb7.cell 2 rfl
            rw [iC] at jm y2
            by_cases hk4:e.kind=4
            ·have zO:(e.kind:Int)=4:=by omega
             rw [zO] at y2 ⊢
             have NQ:Hid (Keep none_ w W7):=NP.out.trans k7
             rw [iC,zO] at NQ
             clear hs6 k7 iC qF BM hb7 hk4 zO jm NP
             go_wp2_with fail
             go_ret
             exact ⟨rfl,NQ.out⟩
            ·obtain ⟨fr',kT,hr'⟩:=BM.out (by show (e.kind==4)=false;simpa using hk4)
             have HR':=au hr'
             clear hs6 k7 iC qF hr' BM hb7
             generalize e.kind=kd at *
             have zO:decide (kd=4)=false:=decide_eq_false hk4
             have aaO:((kd:Int)==4)=false:=by simp;omega
             clear hk4
             go_wp2_with fail
             exact ⟨⟨v+1,o6,z8,fr',kT,by omega,by go_num,jm.out,hrl,HR'.out⟩,by simp [intOf];omega⟩
       ·obtain rfl:v=d.most:=by omega
        rw [Nat.sub_self] at yK
        exact absurd yK (by show ¬ false=true;decide)
end
end
section
def HS.wc (H:HS) (c:aI):HS:={ H with c:=c }
section
variable {H:HS} {c:aI}
theorem aaU (a:Nat):(H.wc c).fC a=(H.fC a).wc c:=by
 unfold HS.fC
 show (match H.owner a with|none=>H.wc c|some (_,k)=>if (H.bn a||H.inn a)=true then H.wc c else (H.wc c).put a k)=_
 cases H.owner a with
 | none=>rfl
 | some p =>
   obtain ⟨B,k⟩:=p
   show (if (H.bn a||H.inn a)=true then H.wc c else (H.wc c).put a k)=(if (H.bn a||H.inn a)=true then H else H.put a k).wc c
   split<;>rfl
theorem Zf (k:Nat):(H.wc c).dO k=((H.dO k).1,(H.dO k).2.1,(H.dO k).2.2.wc c):=by
 unfold HS.dO
 show (match H.row k with|[]=>(0,12,H.wc c)|a::_=>(a,0,(H.wc c).take k))=_
 cases H.row k<;>rfl
theorem VE (k:Nat):(H.wc c).cu k=((H.cu k).1,(H.cu k).2.1,(H.cu k).2.2.wc c):=by
 unfold HS.cu
 show (match H.K.findIdx? (fun x=>x==0) with|none=>([],10,H.wc c)|some B=>(((H.wc c).assign B k).slots B,0,(H.wc c).assign B k))=_
 cases H.K.findIdx? (fun x=>x==0)<;>rfl
theorem XG (a:Nat) (f:Int):(H.wc c).gJ a f=(H.gJ a f).wc c:=by
 unfold HS.gJ
 show (match H.owner a with|none=>H.wc c|some (_,k)=>if (H.hand a&&decide (0<=f)&&decide (iL k f.toNat))=true then (H.wc c).begin a k f.toNat else H.wc c)=_
 cases H.owner a with
 | none=>rfl
 | some p =>
   obtain ⟨B,k⟩:=p
   show (if (H.hand a&&decide (0<=f)&&decide (iL k f.toNat))=true then (H.wc c).begin a k f.toNat else H.wc c)=(if (H.hand a&&decide (0<=f)&&decide (iL k f.toNat))=true then H.begin a k f.toNat else H).wc c
   split<;>rfl
theorem Zg (a k:Nat):(H.wc c).jo a k=(H.jo a k).wc c:=by
 unfold HS.jo
 show (if (H.hand a&&decide (k<2)&&(H.hdr a).isSome)=true then (H.wc c).bear a (k==1) else H.wc c)=_
 split<;>rfl
theorem NR (a:Nat) (f:Int) (v:Nat):(H.wc c).dX a f v=(H.dX a f v).wc c:=by
 unfold HS.dX
 show (if H.nC a f v=0 then (H.wc c).lay (a+1+f.toNat) v else H.wc c)=_
 split<;>rfl
theorem aaV (i:Int) (v:Nat):(H.wc c).lI i v=(H.lI i v).wc c:=by
 unfold HS.lI
 show (if H.uo i v=0 then (H.wc c).setCell i.toNat v else H.wc c)=_
 split<;>rfl
theorem Qc:∀ (l:List Nat) (H:HS),(H.wc c).gQ l=(H.gQ l).wc c
 | [],_=>rfl
 | a::l,H=>by
   show ((H.wc c).fC a).gQ l=((H.fC a).gQ l).wc c
   rw [aaU,Qc l]
theorem Jq (a:Nat):∀ i,(H.wc c).jy a i=(H.jy a i).wc c
 | 0=>rfl
 | i+1=>by
   show ((H.wc c).jy a i).dX a (i:Int) 0=_
   rw [Jq a i,NR];rfl
theorem Zh (k:Nat):(H.wc c).dH k=((H.dH k).1,(H.dH k).2.1,(H.dH k).2.2.wc c):=by
 unfold HS.dH
 rw [Zf,VE]
 simp only
 split
 ·rfl
 ·split
  ·simp only [Qc]
  ·rfl
theorem Zi (f k:Nat):(H.wc c).jR f k=((H.jR f k).1,(H.jR f k).2.wc c):=by
 unfold HS.jR
 rw [Zh]
 simp only
 split
 ·simp only [XG,Jq,Zg]
 ·rfl
end
section
variable {c:aI}
theorem NS:∀ (sz:List Nat) (H:HS),bW (H.wc c) sz=(bW H sz).wc c
 | [],_=>rfl
 | z::l,H=>by
   show bW ((H.wc c).jR (z%4) 0).2 l=(bW (H.jR (z%4) 0).2 l).wc c
   rw [Zi,NS l]
theorem NT (all fl:List Nat) (a:Nat) (p:HS × Nat):∀ f,bI all fl a (p.1.wc c,p.2) f=((bI all fl a p f).1.wc c,(bI all fl a p f).2)
 | 0=>rfl
 | f+1=>by
   show (if (bI all fl a (p.1.wc c,p.2) f).2<fl.length then ((bI all fl a (p.1.wc c,p.2) f).1.dX a (f:Int) (jK all (fl.getD (bI all fl a (p.1.wc c,p.2) f).2 0)),(bI all fl a (p.1.wc c,p.2) f).2+1) else bI all fl a (p.1.wc c,p.2) f)=((if (bI all fl a p f).2<fl.length then ((bI all fl a p f).1.dX a (f:Int) (jK all (fl.getD (bI all fl a p f).2 0)),(bI all fl a p f).2+1) else bI all fl a p f).1.wc c,(if (bI all fl a p f).2<fl.length then ((bI all fl a p f).1.dX a (f:Int) (jK all (fl.getD (bI all fl a p f).2 0)),(bI all fl a p f).2+1) else bI all fl a p f).2)
   rw [NT all fl a p f]
   simp only [NR]
   split<;>rfl
theorem NU (all fl:List Nat) (p:HS × Nat):∀ i,iD all fl (p.1.wc c,p.2) i=((iD all fl p i).1.wc c,(iD all fl p i).2)
 | 0=>rfl
 | i+1=>by
   show bI all fl (all.getD i 0) (iD all fl (p.1.wc c,p.2) i) ((iD all fl (p.1.wc c,p.2) i).1.bg (all.getD i 0)).1=_
   rw [NU all fl p i]
   exact NT all fl _ (iD all fl p i) _
theorem Js (all ce:List Nat) (H:HS):∀ i,mJ all ce (H.wc c) i=(mJ all ce H i).wc c
 | 0=>rfl
 | i+1=>by
   show (mJ all ce (H.wc c) i).lI (i:Int) _=_
   rw [Js all ce H i,aaV];rfl
theorem XH (H:HS) (sz fl ce:List Nat):nZ (H.wc c) sz fl ce=(nZ H sz fl ce).wc c:=by
 unfold nZ
 rw [NS]
 have h:=NU (c:=c) (bW H sz).objs fl (bW H sz,0) (bW H sz).objs.length
 show mJ (bW H sz).objs ce (iD (bW H sz).objs fl ((bW H sz).wc c,0) (bW H sz).objs.length).1 ce.length=_
 rw [h,Js]
end
def rY (c:aI) (H:HS) (P:List fD):Nat->List Nat
 | 0=>List.replicate c.r.toNat 0
 | k+1=>match P[k]? with
   | some o=>if chk c o=0 then (rY c H P k).set o.a.toNat (H.cellP o.b) else rY c H P k
   | none=>rY c H P k
structure zQ (c:aI) (H:HS) (n:Nat) (P:List fD) (x:WS):Prop where
 gi:uD c H n P x
 rg:∀ m,x.muts[0]?=some m->m.regs=rY c H P m.res.length/\(∀ o,m.next = .start o->P[m.res.length]?=some o)/\∀ o,m.next = .get o->P[m.res.length]?=some o/\chk c o=0
section
variable {c:aI} {H:HS} {n:Nat} {P:List fD} {x:WS} {m:MS}
theorem Gi (M:MS):M.most.regs=M.regs/\M.most.res=M.res/\M.most.next=M.next:=by
 unfold MS.most
 split<;>exact ⟨rfl,rfl,rfl⟩
theorem zQ.pick (h:zQ c H n P x) (hP:∀ o∈P,o.k=4) (hm:x.muts[0]?=some m) (hd:gV m=false):zQ c H n P (aY x 0)/\∃ m',(aY x 0).muts[0]?=some m'/\iK m'+1<=iK m:=by
 obtain ⟨g1,m',g2,g3⟩:=h.gi.pick hP hm hd
 obtain ⟨r1,r2,r3⟩:=h.rg m hm
 obtain ⟨o1,o2,o3,o4,o5,o6,o7,o9,o10,o8⟩:=h.gi.one m hm
 obtain ⟨e1,e2,e3⟩:=mQ x hm
 have hlt:=(List.getElem?_eq_some_iff.1 hm).1
 have hm':m'=(aZ x.s m).2.1:=by
  rw [e2,List.getElem?_set_self hlt] at g2
  exact (Option.some.inj g2).symm
 have PN:x.s.B.pend (m.id:Int)=false:=by rw [h.gi.s,o1];exact Es c _ _ _ n H 0
 have hH:x.s.H=H:=by rw [h.gi.s]
 refine ⟨⟨g1,fun mi hi=>?_⟩,m',g2,g3⟩
 rw [g2] at hi
 cases hi
 rw [hm']
 rcases o8 with e|⟨o,e,hk,hl⟩
 ·have hl:m.res.length<P.length:=by
   unfold gV at hd
   rw [e] at hd
   have:decide (m.res.length=m.prog.length)=false:=by simpa [isNil] using hd
   have:=of_decide_eq_false this
   rw [o3] at this
   omega
  have hb:bY x.s m = .start (P[m.res.length]'hl):=by
   unfold bY
   rw [PN,if_neg (by decide),o3,List.getElem?_eq_getElem hl]
  have hp:(aZ x.s m).2.1={ m with spent:=1,ans:=x.s.B.pend (m.id:Int),next:=bY x.s m }:=by
   unfold aZ
   rw [if_pos (by rw [e];rfl)]
  rw [hp,hb]
  refine ⟨r1,fun o ho=>?_,fun o ho=>by cases ho⟩
  have ho':MD.start (P[m.res.length]'hl) = .start o:=ho
  cases ho'
  exact List.getElem?_eq_getElem hl
 ·have hgo:∀ r:oV,stepM x.s { m with spent:=m.spent+1 } m.next=r->isNil m.next=false->(aZ x.s m).2.1=if isNil r.next then { r.m with next := .nil }.most else { r.m with next:=r.next }:=fun r hr hn=>by
   unfold aZ
   rw [if_neg (by rw [hn];decide),<- hr]
  rcases e with e|e
  ·have Yr:=r2 o e
   have hst:stepM x.s { m with spent:=m.spent+1 } m.next=fV x.s { m with spent:=m.spent+1 } o:=by rw [e];rfl
   rw [hgo _ hst (by rw [e];rfl)]
   by_cases hc:chk m.c o=0
   ·have e0:fV x.s { m with spent:=m.spent+1 } o=⟨x.s,{ m with spent:=m.spent+1 },.get o,none⟩:=by
     unfold fV
     rw [if_neg (by simpa using hc),if_neg (by omega),if_neg (by omega),if_neg (by omega),if_pos hk]
    rw [e0]
    show (MS.regs { m with spent:=m.spent+1,next := .get o })=_/\_
    refine ⟨r1,?_,?_⟩
    ·intro o' ho
     have ho':MD.get o = .start o':=ho
     cases ho'
    ·intro o' ho
     have ho':MD.get o = .get o':=ho
     cases ho'
     exact ⟨Yr,by rw [<- o2];exact hc⟩
   ·have e0:fV x.s { m with spent:=m.spent+1 } o=lK x.s { m with spent:=m.spent+1 } (chk m.c o) 0:=by
     unfold fV
     rw [if_pos hc]
    rw [e0,if_pos (by rfl)]
    obtain ⟨q1,q2,q3⟩:=Gi { (lK x.s { m with spent:=m.spent+1 } (chk m.c o) 0).m with next := .nil }
    refine ⟨?_,fun o' ho=>(by rw [q3] at ho;cases ho),fun o' ho=>by rw [q3] at ho;cases ho⟩
    rw [q1,q2]
    show m.regs=rY c H P (m.res++[_]).length
    rw [List.length_append]
    show m.regs=rY c H P (m.res.length+1)
    unfold rY
    rw [Yr]
    simp only
    rw [if_neg (by rw [<- o2];exact hc)]
    exact r1
  ·obtain ⟨Yr,hc⟩:=r3 o e
   have hst:stepM x.s { m with spent:=m.spent+1 } m.next=oN x.s { m with spent:=m.spent+1 } o.a (x.s.H.cellP o.b):=by rw [e];rfl
   rw [hgo _ hst (by rw [e];rfl),if_pos (by rfl)]
   obtain ⟨q1,q2,q3⟩:=Gi { (oN x.s { m with spent:=m.spent+1 } o.a (x.s.H.cellP o.b)).m with next := .nil }
   refine ⟨?_,fun o' ho=>(by rw [q3] at ho;cases ho),fun o' ho=>by rw [q3] at ho;cases ho⟩
   rw [q1,q2,hH]
   show m.regs.set o.a.toNat (H.cellP o.b)=rY c H P (m.res++[_]).length
   rw [List.length_append]
   show m.regs.set o.a.toNat (H.cellP o.b)=rY c H P (m.res.length+1)
   unfold rY
   rw [Yr]
   simp only
   rw [if_pos hc,r1]
theorem zQ.run (hP:∀ o∈P,o.k=4) (hn:1<=n):∀ (f:Nat) (x:WS),zQ c H n P x->zQ c H n P (l9 f x)
 | 0,_,h=>h
 | f+1,x,h=>by
   obtain ⟨m,hm⟩:∃ m,x.muts[0]?=some m:=⟨x.muts[0]'(by rw [h.gi.len];omega),List.getElem?_eq_getElem _⟩
   cases hd:gV m with
   | true=>rw [xB hm hd];exact h
   | false =>
     rw [BF hm hd]
     exact zQ.run hP hn f _ (h.pick hP hm hd).1
end
theorem Gj (x:mM) (hr:x.rg.length<=20) (i:Nat) (m:MS) (hm:(bJ x).muts[i]?=some m) :
 m.regs=if i=0 then rY x.c.little (xC x) (jq x.c.little.r x.rg x.rg.length) x.rg.length else List.replicate x.c.little.r.toNat 0:=by
 obtain ⟨g,hd⟩:=BG x hr
 have hb:=fP (og x.c)
 by_cases hi:i=0
 ·subst hi
  rw [if_pos rfl]
  have h0:zQ x.c.little (xC x) x.c.little.m.toNat (jq x.c.little.r x.rg x.rg.length) (gB x.c.little x x.c.little.m.toNat):=by
   have hat:∀ m,(gB x.c.little x x.c.little.m.toNat).muts[0]?=some m->m=MS.new x.c.little 0 (lQ x.c.little.r x.rg 0):=fun m hm=>by
    have hm':((List.range x.c.little.m.toNat).map (fun j=>MS.new x.c.little j (lQ x.c.little.r x.rg j)))[0]?=some m:=hm
    rw [List.getElem?_map,List.getElem?_eq_getElem (by simp;omega)] at hm'
    simp at hm'
    exact hm'.symm
   refine ⟨(Jc x).1,fun m hm=>?_⟩
   rw [hat m hm]
   exact ⟨rfl,fun o ho=>(by cases ho),fun o ho=>(by cases ho)⟩
  have h1:=zQ.run (Jd _ _ _) (by omega) 300 _ h0
  obtain ⟨r1,_⟩:=h1.rg m hm
  obtain ⟨o1,o2,o3,_⟩:=g.one m hm
  have hdn:=hd m hm
  unfold gV at hdn
  rw [Bool.and_eq_true] at hdn
  have hl:=of_decide_eq_true hdn.2
  rw [o3,xu] at hl
  rw [r1,hl]
 ·rw [if_neg hi,g.Dv i m hm (by omega)]
  rfl
theorem CP.Jt {p q:CP} (hce:p.ce=q.ce) (hmu:p.mu=q.mu) (hcell:∀ j:Nat,p.H.cellP (j:Int)=q.H.cellP (j:Int)) (SH:∀ i,p.regs i=q.regs i) (hbn:∀ a,p.H.bn a=q.H.bn a) (hf:∀ a,p.H.bg a=q.H.bg a) (hl:∀ (a j:Nat),p.H.dF a (j:Int)=q.H.dF a (j:Int)) {a:Nat} (h:p.jL a):q.jL a:=by
 induction h with
 | root hr hb =>
   rename_i v
   refine CP.jL.root ?_ (by rw [<- hbn];exact hb)
   rcases hr with ⟨j,hj,e⟩|⟨i,hi,e⟩
   ·exact .inl ⟨j,by omega,by rw [<- hcell];exact e⟩
   ·exact .inr ⟨i,by omega,by rw [<- SH];exact e⟩
 | jM _ hj hb ih =>
   rename_i a j _
   have h1:=CP.jL.jM ih (j:=j) (by rw [<- hf];exact hj) (by rw [<- hl,<- hbn];exact hb)
   rw [<- hl] at h1
   exact h1
theorem VF {m b ce:Nat} {c:aI} {x y x0 y0 z z':WS} {o1 o2 p1 p2:List Nat} (h1:xU (eY m b ce 0 x) x0 o1 p1 z) (h2:xU (eY m b ce 0 y) y0 o2 p2 z') (hH:y.s.H=x.s.H.wc c) (hr:∀ i:Nat,((y.muts[i]?).map MS.regs).getD []=((x.muts[i]?).map MS.regs).getD []):z'.s.H.objs=z.s.H.objs:=by
 have hR:∀ a,(eY m b ce 0 y).jL a↔(eY m b ce 0 x).jL a:=fun a=>by
  have f1:∀ j:Nat,y.s.H.cellP (j:Int)=x.s.H.cellP (j:Int):=fun j=>by rw [hH];rfl
  have f2:∀ a,y.s.H.bn a=x.s.H.bn a:=fun a=>by rw [hH];rfl
  have f3:∀ a,y.s.H.bg a=x.s.H.bg a:=fun a=>by rw [hH];rfl
  have f4:∀ (a j:Nat),y.s.H.dF a (j:Int)=x.s.H.dF a (j:Int):=fun a j=>by rw [hH];rfl
  exact ⟨CP.Jt (p:=eY m b ce 0 y) (q:=eY m b ce 0 x) rfl rfl f1 hr f2 f3 f4,CP.Jt (p:=eY m b ce 0 x) (q:=eY m b ce 0 y) rfl rfl (fun j=>(f1 j).symm) (fun i=>(hr i).symm) (fun a=>(f2 a).symm) (fun a=>(f3 a).symm) (fun a j=>(f4 a j).symm)⟩
 have hbn:∀ a,z'.s.H.bn a=z.s.H.bn a:=fun a=>by
  rw [Bool.eq_iff_iff,h2.bn a,h1.bn a]
  exact hR a
 unfold HS.objs
 have hs:z'.s.H.sz=z.s.H.sz:=by
  unfold HS.sz
  rw [h2.geo.2.1,h2.geo.2.2.1,h1.geo.2.1,h1.geo.2.2.1]
  show y.s.H.b*y.s.H.ww+1=x.s.H.b*x.s.H.ww+1
  rw [hH];rfl
 rw [hs]
 exact FW (fun k _=>hbn k)
def mM.room (x:mM) (r:Int):mM:={ x with c:={ x.c with s:=r } }
theorem XI {c:aI} {t:Int} (h1:c.ok=true) (h2:({ c with s:=t }:aI).ok=true) (o:fD):chk { c with s:=t } o=chk c o:=by
 have hs:∀ (e:Int) (l:UInt8) (n:Int),dN { c with s:=t } e l n=dN c e l n:=fun e l n=>by
  unfold dN
  rfl
 have hn:∀ j,oL { c with s:=t } o j=oL c o j:=fun j=>by
  induction j with
  | zero=>rfl
  | succ j ih=>show dN _ _ _ _=dN _ _ _ _;rw [ih,hs]
 unfold chk
 rw [h1,h2,hn]
theorem VG (x:mM) (r t:Int) (hr:x.rg.length<=20) (h1:CJ (x.room r)) (h2:CJ (x.room t)):(bJ (x.room t)).s.H=(bJ (x.room r)).s.H.wc (x.room t).c.little/\∀ i:Nat,(((bJ (x.room t)).muts[i]?).map MS.regs).getD []=(((bJ (x.room r)).muts[i]?).map MS.regs).getD []:=by
 have hH:xC (x.room t)=(xC (x.room r)).wc (x.room t).c.little:=XH (c:=(x.room t).c.little) (HS.new (x.room r).c.little (x.room r).c.little.b.toNat (x.room r).c.little.w.toNat (x.room r).c.little.c.toNat) x.sz x.fl x.ce
 refine ⟨by rw [h2.H,h1.H];exact hH,fun i=>?_⟩
 have hl1:(bJ (x.room r)).muts.length=(x.room r).c.little.m.toNat:=h1.ji.muts
 have hl2:(bJ (x.room t)).muts.length=(x.room r).c.little.m.toNat:=h2.ji.muts
 by_cases hi:i<(x.room r).c.little.m.toNat
 ·rw [List.getElem?_eq_getElem (by omega),List.getElem?_eq_getElem (by omega)]
  show MS.regs _=MS.regs _
  rw [Gj (x.room t) hr i _ (List.getElem?_eq_getElem (by omega)),Gj (x.room r) hr i _ (List.getElem?_eq_getElem (by omega))]
  split
  ·have hg:∀ k,rY (x.room t).c.little (xC (x.room t)) (jq (x.room t).c.little.r x.rg x.rg.length) k=rY (x.room r).c.little (xC (x.room r)) (jq (x.room r).c.little.r x.rg x.rg.length) k:=fun k=>by
    induction k with
    | zero=>rfl
    | succ k ih =>
      unfold rY
      rw [show jq (x.room t).c.little.r x.rg x.rg.length=jq (x.room r).c.little.r x.rg x.rg.length from rfl] at ih ⊢
      cases (jq (x.room r).c.little.r x.rg x.rg.length)[k]? with
      | none=>exact ih
      | some o =>
        simp only
        have hc:chk (x.room t).c.little o=chk (x.room r).c.little o:=XI (c:=(x.room r).c.little) (t:=1+t%4) (og _) (og (x.room t).c) o
        rw [hc,ih,hH]
        rfl
   exact hg _
  ·rfl
 ·rw [List.getElem?_eq_none (by omega),List.getElem?_eq_none (by omega)]
theorem Zj (x:mM) (r t:Int):∃ d d2:Dm,(x.room r).c.little=d.conf/\d.Ok/\(x.room t).c.little=d2.conf/\d2.Ok/\d2.m=d.m/\d2.b=d.b/\d2.ce=d.ce:=by
 obtain ⟨d,h1,h2⟩:=Jp (x.room r).c
 refine ⟨d,{ d with s:=(1+t%4).toNat },h1,h2,?_,⟨h2.b,h2.w,h2.m,h2.r,h2.ce,h2.l⟩,rfl,rfl,rfl⟩
 have e:(x.room t).c.little={ (x.room r).c.little with s:=1+t%4 }:=rfl
 rw [e,h1]
 unfold Dm.conf
 simp only [aI.mk.injEq,true_and]
 omega
end
section
open Go.RowKit
section
variable {o o' o1 o2:Ow} {w w' W W' W0:World} {G:Geo} {gs:List MG} {q:CG} {x y:WS} {v mv:Value} {N κ K:Nat} {d:Dm}
theorem CW.moveF (h:CW w W o G gs q x) (k:Keep (In o [49]) W W') (kw:Keep none_ w W'):CW w W' o G gs q x:=by
 have hs:ShAt o W' G x.s:=h.coll.sh.move k (by decide) h.coll.box8 (aO.refl _ _) (h.coll.sh.dU.keep k)
 refine ⟨h.coll.kD k rfl rfl rfl (aO.refl _ _) hs rfl,h.len,fun i g m h1 h2=>?_,h.low,kw⟩
 obtain ⟨g1,g2⟩:=h.dJ i g m h1 h2
 have:=g1.ji
 exact ⟨g1.kD k rfl (by simp;omega) (by simp;omega) (aO.refl _ _) hs rfl rfl,g2⟩
theorem CI.moveF (h:CI d w W o G gs q mv N x κ K) (k:Keep (In o [49]) W W') (kw:Keep none_ w W'):CI d w W' o G gs q mv N x κ K :=
 ⟨h.cw.moveF k kw,h.ok,h.few,h.mv.keep k rfl (aO.refl _ _),h.ji,h.regs,h.ww,h.conf,h.dr,h.wish,h.iy,h.len⟩
theorem CI.abC (h:CI d w W o G gs q mv N x κ K) (k:Keep none_ W W') (e:aO W o o') (hf:gX o' W'):CI d w W' o' G gs q mv N x κ K :=
 ⟨h.cw.vF (I:=[]) k.aQ rfl e hf,h.ok,h.few,h.mv.keep (I:=[]) k.aQ rfl e,h.ji,h.regs,h.ww,h.conf,h.dr,h.wish,h.iy,h.len⟩
theorem CI.base (h:CI d w' W o G gs q mv N x κ K) (k:Keep none_ w w'):CI d w W o G gs q mv N x κ K :=
 ⟨h.cw.base k,h.ok,h.few,h.mv,h.ji,h.regs,h.ww,h.conf,h.dr,h.wish,h.iy,h.len⟩
def Apart (W:World) (o o':Ow):Prop:=∀ b,b<W.heap.size->o b∈Et->o' b=49
theorem Apart.ext (h:Apart W o o1) (e:aO W o1 o2):Apart W o o2:=fun b hb hi=>(e b hb).trans (h b hb hi)
theorem Apart.later (h:Apart W o o') (hf:gX o W):Apart W' o o':=fun b _ hi=>by
 rcases Nat.lt_or_ge b W.heap.size with g|g
 ·exact h b g hi
 ·rw [hf b g] at hi
  exact absurd hi (by decide)
theorem CI.aaW {d':Dm} {G':Geo} {gs':List MG} {q':CG} {mv':Value} {N' κ' K':Nat} {x':WS} (h:CI d w W o1 G gs q mv N x κ K) (h':CI d' w W o2 G' gs' q' mv' N' x' κ' K') (ha:Apart W o1 o2) (hb:Apart W o2 o1) (hd:d.Ok) (hN:N<=900000000) :
 Calls ay 27 #[aj q.C,mv,ah (d.most:Int)] W fun e W'=>∃ (fv pv:Value) (o':Ow) (z x0:WS) (out ph:List Nat),e = .returned (.tuple #[fv,pv,.bool true])/\CI d w W' o' G gs q mv (N+9000001) z (1 - κ) (K+1)/\CI d' w W' o2 G' gs' q' mv' N' x' κ' K'/\Apart W' o2 o'/\xU (eY d.m d.b d.ce κ x) x0 out ph z:=by
 refine (h.cycle hd hN).mono ?_
 rintro e W' ⟨fv,pv,o',z,x0,out,ph,rfl,h1,h2,_,_,h5⟩
 have k:Keep (In o2 [49]) W W':=h2.k.toO (fun b hb hi=>by rw [ha b hb hi];decide)
 exact ⟨fv,pv,o',z,x0,out,ph,rfl,h1,h'.moveF k h1.cw.keep,(hb.ext h2.e).later h'.cw.coll.sh.dU,h5⟩
theorem XJ {d':Dm} {G':Geo} {gs':List MG} {q':CG} {mv':Value} {N' κ' K':Nat} {x':WS} {o0:Ow} (h:CI d w W o1 G gs q mv N x κ K) (ho:∀ b,o0 b=if o1 b=0 then 0 else 49) (h':CI d' w W' o2 G' gs' q' mv' N' x' κ' K') (k:Keep none_ W W') (hx:∀ b,b<W.heap.size->o2 b=o0 b) :
 ∃ o',CI d w W' o' G gs q mv N x κ K/\Apart W' o' o2/\Apart W' o2 o':=by
 have hf2:=h'.cw.coll.sh.dU
 refine ⟨fun b=>if b<W.heap.size then o1 b else if o2 b=0 then 0 else 49,h.abC k (fun b hb=>if_pos hb) (fun b hb=>?_),fun b _ hi=>?_,fun b _ hi=>?_⟩
 ·show (if b<W.heap.size then o1 b else if o2 b=0 then 0 else 49)=0
  have:=k.size
  rw [if_neg (by omega),if_pos (hf2 b hb)]
 ·have hi':(if b<W.heap.size then o1 b else if o2 b=0 then 0 else 49)∈Et:=hi
  by_cases hlt:b<W.heap.size
  ·rw [if_pos hlt] at hi'
   rw [hx b hlt,ho b,if_neg (fun e=>by rw [e] at hi';exact absurd hi' (by decide))]
  ·rw [if_neg hlt] at hi'
   split at hi'<;>exact absurd hi' (by decide)
 ·show (if b<W.heap.size then o1 b else if o2 b=0 then 0 else 49)=49
  by_cases hlt:b<W.heap.size
  ·rw [hx b hlt,ho b] at hi
   split at hi<;>exact absurd hi (by decide)
  ·rw [if_neg hlt,if_neg (fun e=>by rw [e] at hi;exact absurd hi (by decide))]
theorem rV.get {o0:Ow} {X:mM} {e:Ending} (h:rV o0 w X e w') (hr:X.rg.length<=20):∃ (o:Ow) (G:Geo) (q:CG) (gs:List MG) (ma:Option Addr) (mc:Nat) (rv:Value),e = .returned (.tuple #[aj G.S,aj q.C,.slice ma gs.length mc,rv]) /\
 mV o0 w w' o G gs q (bJ X)/\CJ X/\∀ d:Dm,X.c.little=d.conf->CI d w w' o G gs q (.slice ma gs.length mc) 300 (bJ X) 0 0:=by
 obtain ⟨o,G,q,gs,mv,a,c,rfl,h1,h2,h3,h4⟩:=h
 obtain ⟨ma,mc,rfl,_⟩:=h3.form
 have hI:=Jh X hr h1.coll.sh.heap.inv
 exact ⟨o,G,q,gs,ma,mc,_,rfl,h1,hI,fun d hd=>CI.made hd h1.toCW h2 (Jk X) h3 hI (h1.len.trans hI.ji.muts)⟩
end
end
section
open Go.ChangeShapes Go.WideShapes Go.RowKit
variable {H:Type} {enc:TypeId × Value->H} {P:Program} {w:World} {base:Nat} {spare:Nat->Bool} {held:Bool}
theorem NV {r:Reach} {b0:Nat} {t e:TypeId} {n:Nat} {v:Value} (ht:P.underlying t=some (.array n e)) (h:Value.okWide P w r b0 t v):∃ cs,v = .agg cs/\cs.size=P.cellsOf t:=by
 simp only [Value.okWide,ht] at h
 obtain ⟨cs,h1,h2,_⟩:=h
 exact ⟨cs,h1,h2⟩
theorem XK {r:Reach} {b0 m n:Nat} {t e:TypeId} {v:Value} {d:DataW H} {p:List MemPlace} {ks:List Leaf} (hs:P.underlying t=some (.array n e)) (hk:flat P m t=some ks)
 (hv:Value.okWide P w r b0 t v) (h:DataW.Trod enc P w base spare held t v d p):∃ cs,v = .agg cs.toArray/\je ks cs:=by
 obtain ⟨cs,rfl,_⟩:=NV hs hv
 obtain ⟨fuel,hf⟩:=h
 exact ⟨cs.toList,by simp,OX m fuel t _ _ ks hf hk⟩
theorem je.two {k k':IntKind} {cs:List Value} (h:je [.int k,.int k'] cs):∃ x y,cs=[.int k x,.int k' y]/\(Lit.int k x).wf=true/\(Lit.int k' y).wf=true:=by
 obtain ⟨v,h1,x,rfl,hx⟩:=h.at_ 0 _ rfl
 obtain ⟨v',h2,y,rfl,hy⟩:=h.at_ 1 _ rfl
 have hl:=h.len
 match cs,hl with
 | [a,b],_ =>
   simp at h1 h2
   exact ⟨x,y,by rw [h1,h2],hx,hy⟩
end
end Go.Proofs.YtanfphjoebobaaaGreatDoor
