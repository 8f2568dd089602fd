/- Parts of the walk. No conditions. -/
import Derived.Test.YtanfphjoebobaaaGreatDoorZzev
namespace Go.Proofs.YtanfphjoebobaaaGreatDoor
open _root_.Go.Proofs.Tryz hiding prog
open _root_.Go.Proofs.Tryz renaming prog->ay
set_option maxRecDepth 10000
set_option maxHeartbeats 8000000
section
attribute [local go_sem] Oper.semAt_some
open Go.RowKit
section
variable {o o':Ow} {w w':World} {G:Geo} {g:MG} {s:Sh} {m:MS} {nv:Value} {ev:Option Ev}
theorem aN.aah (h:aN o w G g s m ev .nilFunc):aN o (w.setCell ⟨g.M,20+(if m.ans then 1 else 0),none⟩ (ah ((max (if m.ans then m.most1 else m.most0) m.spent:Nat):Int))) G g s { m with next := .nil }.most ev .nilFunc/\Keep (In o [20+m.id]) w (w.setCell ⟨g.M,20+(if m.ans then 1 else 0),none⟩ (ah ((max (if m.ans then m.most1 else m.most0) m.spent:Nat):Int))):=by
 obtain ⟨id,c,regs,buf,mode,color,want,prog,res,next,held,spent,most0,most1,ans⟩:=m
 cases ans with
 | true =>
   obtain ⟨h1,k1⟩:=h.put 21 (ah ((max most1 spent:Nat):Int)) ⟨id,c,regs,buf,mode,color,want,prog,res,next,held,spent,most0,max most1 spent,true⟩ ev .nilFunc (fun pv rv=>rfl) ⟨rfl,rfl,rfl,rfl,rfl,rfl⟩
   exact ⟨h1.withNext .nil,k1⟩
 | false =>
   obtain ⟨h1,k1⟩:=h.put 20 (ah ((max most0 spent:Nat):Int)) ⟨id,c,regs,buf,mode,color,want,prog,res,next,held,spent,max most0 spent,most1,false⟩ ev .nilFunc (fun pv rv=>rfl) ⟨rfl,rfl,rfl,rfl,rfl,rfl⟩
   exact ⟨h1.withNext .nil,k1⟩
theorem aN.acP (h:aN o w G g s m ev nv):w.cell? ⟨g.M,20+(if m.ans then 1 else 0),none⟩=some (ah ((if m.ans then m.most1 else m.most0:Nat):Int)):=by
 cases ha:m.ans with
 | true=>exact h.cell 21 _ (fun _ _=>rfl)
 | false=>exact h.cell 20 _ (fun _ _=>rfl)
theorem VA {N:Nat} (h:aN o w G g s m ev nv) (hn:jG o w (G.D 0) (g.Nt,g.M) (30+m.id) m.next nv) (ok:uX N s m) (hN:N<=1000000000) (hst:CQ m.next) (hnn:isNil m.next=false) (hgo:isNil (stepM s { m with spent:=m.spent+1 } m.next).next=true):Calls ay 24 #[aj g.M] w (jV o w G g s m):=by
 have i8:m.id<8:=Nat.lt_of_lt_of_le h.jm h.box8
 obtain ⟨o1,W2,hW2,hext,hR,h2,n2,k2,hB⟩:=h.pick0 hn
 obtain ⟨⟨x0,x1,x2,x3,x4,x5,x6,hx⟩,hsp0,hnx0,hfr0⟩:=h.behind
 have Ew:xC N s { m with spent:=m.spent+1 }:=⟨ok.color,ok.want,ok.opn,ok.res,ok.q,ok.rl⟩
 obtain ⟨fn,bs,MZ,hcf,hS⟩:=hst h2 Ew hN ok.nx nv n2 hnn
 have rk:=step_ok Ew m.next ok.nx
 have hp:bG s m=((stepM s { m with spent:=m.spent+1 } m.next).s,{ (stepM s { m with spent:=m.spent+1 } m.next).m with next := .nil }.most,(stepM s { m with spent:=m.spent+1 } m.next).ev):=by
  unfold bG
  rw [hnn,if_neg (by decide)]
  simp only [hgo,if_true]
 have hid:=rk.id
 simp only at hid
 obtain ⟨caps,Gh⟩:∃ caps,caps=(bs.map aB).toArray:=⟨_,rfl⟩
 rw [<- Gh] at MZ hS
 clear Gh
 generalize stepM s { m with spent:=m.spent+1 } m.next=R at *
 have HS:Hid (Calls ay fn caps W2 fun e w3=>e = .returned .nilFunc/\w3.frozen? ⟨g.M,17,none⟩=false/\w3.cell? ⟨g.M,17,none⟩=some nv /\
  ∃ (an:Bool) (mo Bj:Nat),∀ W4,W4=w3.setCell ⟨g.M,17,none⟩ .nilFunc->W4.cell? ⟨g.M,17,none⟩=some .nilFunc/\W4.cell? ⟨g.M,22,none⟩=some (.bool an)/\W4.cell? ⟨g.M,19,none⟩=some (ah (Bj:Int))/\W4.cell? ⟨g.M,20+(if an then 1 else 0),none⟩=some (ah (mo:Int))/\W4.frozen? ⟨g.M,20+(if an then 1 else 0),none⟩=false /\
  ∃ (a b c d e:Int) (t:Bool),∀ W5,W5=(W4.setCell ⟨g.M,20+(if an then 1 else 0),none⟩ (ah ((max mo Bj:Nat):Int))).drew->(W5.cell? ⟨g.M,23,none⟩=some (ah 0)/\W5.cell? ⟨g.M,24,none⟩=some (ah a)/\W5.cell? ⟨g.M,25,none⟩=some (ah b)/\W5.cell? ⟨g.M,26,none⟩=some (ah c)/\W5.cell? ⟨g.M,27,none⟩=some (ah d)/\W5.cell? ⟨g.M,28,none⟩=some (ah e)/\W5.cell? ⟨g.M,29,none⟩=some (.bool t)) /\
   aA W5 w.heap.size zero6.toList 37/\Hid (∀ w6,Keep (only w.heap.size) W5 w6->jV o w G g s m (.returned (.tuple #[.agg #[ah 0,ah a,ah b,ah c,ah d,ah e],.bool t])) w6)):=by
  refine hS.mono ?_
  rintro e w3 ⟨o2,v3,rfl,e2,h3,n3,k3⟩
  rcases n3.form2 with ⟨_,rfl⟩|⟨hc,_⟩
  rotate_left
  ·rw [hgo] at hc;cases hc
  refine ⟨rfl,h3.free 17,h3.c17,R.m.ans,(if R.m.ans then R.m.most1 else R.m.most0),R.m.spent,fun W4 iZ=>?_⟩
  obtain ⟨h4,k4⟩:=h3.MV .nilFunc
  rw [<- iZ] at h4 k4
  rw [hid] at k4
  refine ⟨h4.c17,h4.c22,h4.c19,h4.acP,h4.free _,?_⟩
  obtain ⟨h5,k5⟩:=h4.aah
  rw [hid] at k5
  obtain ⟨a,b,c,d,e,t,-,ea,et⟩:=h5.evs3
  refine ⟨a,b,c,d,e,t,fun W5 jX=>?_⟩
  have k5d:Keep none_ (W4.setCell ⟨g.M,20+(if R.m.ans then 1 else 0),none⟩ (ah ((max (if R.m.ans then R.m.most1 else R.m.most0) R.m.spent:Nat):Int))) W5:=by rw [jX];exact (Keep.refl none_ _).drew
  have h6:=h5.still k5d
  obtain ⟨a',b',c',d',e',t',hcs,ea',et'⟩:=h6.evs3
  have e9:(a=a'/\b=b'/\c=c'/\d=d'/\e=e')/\t=t':=by
   rw [ea] at ea';rw [et] at et'
   simp at ea' et'
   exact ⟨ea',et'⟩
  obtain ⟨⟨rfl,rfl,rfl,rfl,rfl⟩,rfl⟩:=e9
  have k24:Keep (In o1 (bW m.id)) W2 W5:=(k3.EX ((k4.trans k5).jP (by simp [bW])) e2).trans k5d.aS
  have hB4:aA W5 w.heap.size zero6.toList 37:=hB.aH k24 hR (by simp [bW]<;>omega)
  refine ⟨hcs,hB4,fun w6 k6=>?_⟩
  rw [<- ea,<- et]
  have er:({ R.m with next := .nil }:MS).most.id=m.id/\({ R.m with next := .nil }:MS).most.next = .nil:=by
   unfold MS.most
   split<;>exact ⟨hid,rfl⟩
  exact Nb hext hR hB.lt k2 e2 k24 h6 er.1 (by rw [er.2];rfl) hp k6
 have hsp:=ok.sp
 have MW:(m.spent:Int)<=1000000000:=by omega
 have Gg:(0:Int)<=(m.spent:Int):=by omega
 have lQ:=hW2
 unfold wS at lQ
 have HW2:=au lQ
 subst MZ
 have hnq:=Et fn caps
 have heq:=ZW
 have f17:=fun x=>hfr0 x 17
 have f19:=fun x=>hfr0 x 19
 have f23:=fun x=>hfr0 x 23
 have f24:=fun x=>hfr0 x 24
 have f25:=fun x=>hfr0 x 25
 have f26:=fun x=>hfr0 x 26
 have f27:=fun x=>hfr0 x 27
 have f28:=fun x=>hfr0 x 28
 have f29:=fun x=>hfr0 x 29
 have g23:=fun x=>(hx x).1
 have g24:=fun x=>(hx x).2.1
 have g25:=fun x=>(hx x).2.2.1
 have g26:=fun x=>(hx x).2.2.2.1
 have g27:=fun x=>(hx x).2.2.2.2.1
 have g28:=fun x=>(hx x).2.2.2.2.2.1
 have g29:=fun x=>(hx x).2.2.2.2.2.2
 generalize jV o w G g s m=PO at *
 generalize m.spent=sp at *
 clear h hn h2 n2 k2 hext hW2 lQ hx hfr0 hB hnn hgo hsp rk Ew hp ok hS hid
 go_enter func24,ntmps24
 go_wp2_with fail
 rw [<- HW2.out]
 refine HS.out.mono ?_
 rintro e w3 ⟨rfl,e17,d17,an,mo,Bj,hs⟩
 obtain ⟨W4,iZ⟩:∃ W4,W4=w3.setCell ⟨g.M,17,none⟩ .nilFunc:=⟨_,rfl⟩
 obtain ⟨z17,z22,z19,z20,zf20,a,b,c,d,e,t,hs5⟩:=hs W4 iZ
 have Y6:=au iZ
 have vw:=au hs5
 have zd19:W4.drew.cell? ⟨g.M,19,none⟩=some (ah (Bj:Int)):=(Keep.refl none_ W4).drew.still z19
 have zd20:=((Keep.refl none_ W4).drew).still z20
 rw [iZ] at z17 z22
 clear f17 f19 f23 f24 f25 f26 f27 f28 f29 g23 g24 g25 g26 g27 g28 g29 hsp0 hnx0 hs5 hs MW Gg HS hnq hcf iZ
 by_cases hle:Bj<=mo
 ·have hmx:max mo Bj=mo:=Nat.max_eq_left hle
  rw [hmx] at vw
  have Yb:(Bj:Int)<=(mo:Int):=by omega
  clear hmx hle
  cases an
  all_goals
   simp only [Bool.false_eq_true,if_false,if_true,Nat.add_zero,Nat.reduceAdd] at z20 zf20 zd20 vw
   obtain ⟨⟨y0,y1,y2,y3,y4,y5,y6⟩,dh,hend⟩:=vw.out _ rfl
   go_wp2_with fail
   rw [<- Y6.out]
   clear e17 d17 z17 z22
   go_region
   go_wp2_with fail
   have fD:=au hend
   have zf0:=dh.free 0
   have zf1:=dh.free 1
   have zf2:=dh.free 2
   have zf3:=dh.free 3
   have zf4:=dh.free 4
   have zf5:=dh.free 5
   have z0:=dh.cell 0 (v := ah 0) rfl
   have z1:=dh.cell 1 (v := ah 0) rfl
   have z2:=dh.cell 2 (v := ah 0) rfl
   have z3:=dh.cell 3 (v := ah 0) rfl
   have z4:=dh.cell 4 (v := ah 0) rfl
   have z5:=dh.cell 5 (v := ah 0) rfl
   clear hend dh vw zd19 zd20 z19 z20 zf20 Yb
   generalize (W4.setCell _ _).drew=W5 at *
   have Ba:=(Keep.refl none_ W5).drew.still y0;have x1':=(Keep.refl none_ W5).drew.still y1;have x2':=(Keep.refl none_ W5).drew.still y2;have x3':=(Keep.refl none_ W5).drew.still y3;have Bc:=(Keep.refl none_ W5).drew.still y4;have Bg:=(Keep.refl none_ W5).drew.still y5;have Bh:=(Keep.refl none_ W5).drew.still y6
   have r0:=(Keep.refl none_ W5).drew.still z0;have r1:=(Keep.refl none_ W5).drew.still z1;have r2:=(Keep.refl none_ W5).drew.still z2;have r3:=(Keep.refl none_ W5).drew.still z3;have r4:=(Keep.refl none_ W5).drew.still z4;have r5:=(Keep.refl none_ W5).drew.still z5
   go_region
   go_wp2_with fail
   refine bodyPost_ret (v := .tuple #[.agg #[ah 0,ah a,ah b,ah c,ah d,ah e],.bool t]) (by simp [results,Tryz.f24,go_sem,zf0,zf1,zf2,zf3,zf4,zf5,z0,z1,z2,z3,z4,z5]) rfl ?_
   exact fD.out _ ((((((((Keep.refl (only w.heap.size) _).put _ _).put _ _).put _ _).put _ _).put _ _).put _ _).drew)
 ·have hmx:max mo Bj=Bj:=Nat.max_eq_right (by omega)
  rw [hmx] at vw
  have Yb:¬ (Bj:Int)<=(mo:Int):=by omega
  have oV:(mo:Int)<(Bj:Int):=by omega
  clear hmx hle
  cases an
  all_goals
   simp only [Bool.false_eq_true,if_false,if_true,Nat.add_zero,Nat.reduceAdd] at z20 zf20 zd20 vw
   obtain ⟨⟨y0,y1,y2,y3,y4,y5,y6⟩,dh,hend⟩:=vw.out _ rfl
   go_wp2_with fail
   rw [<- Y6.out]
   clear e17 d17 z17 z22
   go_region
   go_wp2_with fail
   have fD:=au hend
   have zf0:=dh.free 0
   have zf1:=dh.free 1
   have zf2:=dh.free 2
   have zf3:=dh.free 3
   have zf4:=dh.free 4
   have zf5:=dh.free 5
   have z0:=dh.cell 0 (v := ah 0) rfl
   have z1:=dh.cell 1 (v := ah 0) rfl
   have z2:=dh.cell 2 (v := ah 0) rfl
   have z3:=dh.cell 3 (v := ah 0) rfl
   have z4:=dh.cell 4 (v := ah 0) rfl
   have z5:=dh.cell 5 (v := ah 0) rfl
   clear hend dh vw zd19 zd20 z19 z20 zf20 Yb
   generalize (W4.setCell _ _).drew=W5 at *
   have Ba:=(Keep.refl none_ W5).drew.still y0;have x1':=(Keep.refl none_ W5).drew.still y1;have x2':=(Keep.refl none_ W5).drew.still y2;have x3':=(Keep.refl none_ W5).drew.still y3;have Bc:=(Keep.refl none_ W5).drew.still y4;have Bg:=(Keep.refl none_ W5).drew.still y5;have Bh:=(Keep.refl none_ W5).drew.still y6
   have r0:=(Keep.refl none_ W5).drew.still z0;have r1:=(Keep.refl none_ W5).drew.still z1;have r2:=(Keep.refl none_ W5).drew.still z2;have r3:=(Keep.refl none_ W5).drew.still z3;have r4:=(Keep.refl none_ W5).drew.still z4;have r5:=(Keep.refl none_ W5).drew.still z5
   go_region
   go_wp2_with fail
   refine bodyPost_ret (v := .tuple #[.agg #[ah 0,ah a,ah b,ah c,ah d,ah e],.bool t]) (by simp [results,Tryz.f24,go_sem,zf0,zf1,zf2,zf3,zf4,zf5,z0,z1,z2,z3,z4,z5]) rfl ?_
   exact fD.out _ ((((((((Keep.refl (only w.heap.size) _).put _ _).put _ _).put _ _).put _ _).put _ _).put _ _).drew)
end
end
section
open Go.RowKit
theorem Tryz.infoOpC:(ay.info? 83).map (fun i=>(i.zero,i.size,i.bytes))=some (some (.agg #[ah 0,ah 0,ah 0,ah 0]),4,32):=by kernel_rfl
theorem Nc {sz:Nat} (h0:0<sz):∀ (rs:List (List Value)),(∀ r∈rs,r.length=sz)->∀ j u,rs.flatten[j]?=some u->∃ i r q,rs[i]?=some r/\r[q]?=some u/\j=i*sz+q
 | [],_,j,u,h=>by simp at h
 | r0::rs,hr,j,u,h=>by
   have hl:r0.length=sz:=hr r0 (by simp)
   rw [List.flatten_cons] at h
   rcases Nat.lt_or_ge j r0.length with h1|h1
   ·rw [List.getElem?_append_left h1] at h
    exact ⟨0,r0,j,rfl,h,by omega⟩
   ·rw [List.getElem?_append_right h1] at h
    obtain ⟨i,r,q,e1,e2,e3⟩:=Nc h0 rs (fun r h=>hr r (by simp [h])) _ u h
    refine ⟨i+1,r,q,by simpa using e1,e2,?_⟩
    rw [Nat.succ_mul];omega
theorem pz.VB {w:World} {a:Option Addr} {n sz:Nat} {rs:List (List Value)} (h:pz w a n sz rs) (hs:0<sz) (hr:∀ r∈rs,r.length=sz) {ad:Addr} (ha:a=some ad):∀ j u,rs.flatten[j]?=some u->w.cell? (ad.add j)=some u:=by
 intro j u hj
 obtain ⟨i,r,q,e1,e2,rfl⟩:=Nc hs rs hr j u hj
 have hi:=(List.getElem?_eq_some_iff.1 e1).1
 obtain ⟨b,off,e,hc⟩:=h.at_ (by have:=h.len;omega)
 rw [ha] at e
 injection e with e
 subst e
 have ea:(⟨b,off,none⟩:Addr).add (i*sz+q)=⟨b,off+i*sz+q,none⟩:=by simp only [Addr.add];split<;>simp_all<;>omega
 rw [ea]
 exact hc i r e1 q u e2
theorem O9 (a:Option Addr) (n c:Nat) (rs:List (List Value)) (w:World) (h:pz w a n 4 rs) (hr:∀ r∈rs,r.length=4) (hnil:a=none->c=0) (hm:n<=100000000) (h1:∀ r∈rs,∀ u∈r,u.oneCell'=true) :
 Calls ay 77 #[.slice a n c] w fun e w'=>∃ v',e = .returned v'/\w'.ownsRow w.heap.size 83 4 v' n rs.flatten/\Keep none_ w w':=by
 have hlen:=LJ rs hr
 have hnl:=h.len
 cases a with
 | none =>
   have h0:n=0:=by
    rcases Nat.eq_zero_or_pos n with h0|h0
    ·exact h0
    ·obtain ⟨b,off,e,_⟩:=h.at_ h0;cases e
   subst h0
   have:rs=[]:=List.eq_nil_of_length_eq_zero hnl
   subst this
   obtain rfl:=hnil rfl
   clear h hr hnil hm h1 hlen hnl
   have hn:=fun w=>Lib.run_eql_slice_nil (P:=ay) w 81 83 none 0 0 0 0 (by kernel_rfl)
   go_enter func77,ntmps77
   go_wp2
   go_ret
   exact ⟨_,rfl,World.ownsRow_nil _ _ _ _,Keep.refl _ _⟩
 | some ad =>
   have hn:=fun w=>Lib.run_eql_slice_nil (P:=ay) w 81 83 (some ad) n c 0 0 (by kernel_rfl)
   obtain ⟨i0,hi1,hi2,hi3,hi4⟩:=info_parts Tryz.infoOpC
   have hw0:∀ w:World,(w.alloc (.cells #[] 83)).ownsRow w.heap.size 83 4 (.slice (some ⟨w.heap.size,0,none⟩) 0 0) 0 []:=fun w=>World.ownsRow_made w #[] 0 (Nat.le_refl _) (by decide) rfl
   have HC:=au (fun j u hj=>(h.below ((Keep.refl none_ w).alloc (.cells #[] 83))).VB (by decide) hr rfl j u hj)
   have HU:Hid (∀ u∈rs.flatten,u.oneCell'=true):=fun u hu=>by
    obtain ⟨r,hr1,hr2⟩:=List.mem_flatten.1 hu
    exact h1 r hr1 u hr2
   rw [hnl] at hlen
   generalize rs.flatten=xs at *
   clear h hr hnil h1 hnl
   go_enter func77,ntmps77
   go_wp2_with (at_builtin;refine wpList_append_own _ rfl _ _ 81 rfl w.heap.size 83 i0 (.agg #[ah 0,ah 0,ah 0,ah 0]) 4 32 (by kernel_rfl) hi1 hi2 hi3 hi4 rfl (by decide) _ _ _ rfl (hw0 w) ad n c xs rfl hlen HC.out HU.out (by unfold maxLen;omega) (by omega) (by simp) ?_;intro v' w1 hown hgr _)
   have hown':w1.ownsRow w.heap.size 83 4 v' n xs:=by simpa using hown
   have hkeep:Keep none_ w w1:=((Keep.refl none_ w).alloc _).grown hgr (fun k e hk=>absurd hk (by have e':w.heap.size=k:=Option.some.inj e;omega))
   clear hown hgr
   go_wp2
   go_ret
   exact ⟨_,rfl,hown',hkeep⟩
end
section
attribute [local go_sem] Oper.semAt_some
open Go.RowKit
section
variable {o o':Ow} {w w':World} {G:Geo} {g:MG} {s:Sh} {m:MS} {nv:Value} {ev:Option Ev}
theorem VD {N:Nat} (h:kU o w G g s m) (ok:uX N s m) (hN:N<=1000000000) (hst:CQ m.next):Calls ay 24 #[aj g.M] w (jV o w G g s m):=by
 obtain ⟨ev,nv,h1,hn⟩:=h
 cases hnil:isNil m.next with
 | true=>exact SE h1 hn hnil (Nat.le_trans ok.sp hN)
 | false =>
   cases hgo:isNil (stepM s { m with spent:=m.spent+1 } m.next).next with
   | true=>exact VA h1 hn ok hN hst hnil hgo
   | false=>exact Ya h1 hn ok hN hst hnil hgo
theorem VE (h:kU o w G g s m):Calls ay 78 #[aj g.M] w fun e w'=>e = .returned (.bool (!isNil m.next))/\w=w':=by
 obtain ⟨ev,nv,h1,hn⟩:=h
 rcases hn.form2 with ⟨e,rfl⟩|⟨e,fn,caps,rfl⟩
 ·rw [e];exact X8 h1
 ·rw [e];exact Vt h1
theorem kU.still (h:kU o w G g s m) (k:Keep none_ w w'):kU o w' G g s m:=by
 obtain ⟨ev,nv,h1,hn⟩:=h
 exact ⟨ev,nv,h1.still k,hn.aH (I:=[]) k.aS rfl rfl⟩
theorem VF (h:kU o w G g s m):Calls ay 42 #[aj g.M] w fun e w'=>e = .returned (.bool (iI m))/\Keep none_ w w':=by
 have HB:Hid (∀ W,Keep none_ w W->Calls ay 78 #[aj g.M] W fun e w'=>e = .returned (.bool (!isNil m.next))/\W=w'):=fun W hW=>VE (h.still hW)
 obtain ⟨ev,nv,h1,hn⟩:=h
 have hkd:Keep none_ w w.drew:=(Keep.refl none_ w).drew
 obtain ⟨rv,er,_,ra,rc,FK⟩:=h1.G5
 rw [FK] at er
 obtain ⟨pa,pc,ep,_,_⟩:=h1.Ku
 have er':=hkd.still er
 have ep':=hkd.still ep
 have HK:Hid (Keep none_ w w.drew):=hkd
 cases hnil:isNil m.next with
 | false =>
   have HD:Hid (iI m=false):=by unfold Hid iI;rw [hnil];rfl
   rw [hnil] at HB
   simp only [Bool.not_false] at HB
   generalize iI m=dn at *
   generalize m.res.length=rl at *
   generalize m.prog.length=pl at *
   clear h1 hn hkd hnil
   go_enter func42,ntmps42
   go_wp2_with fail
   go_quiet (first|(go_at_call 78;exact Calls.quiet_of_same (eU (HB.out _ ((Keep.refl none_ w).drewN _)))))
   go_wp2_with fail
   go_ret
   exact ⟨by rw [HD.out];rfl,(Keep.refl none_ w).drewN _⟩
 | true =>
   rw [hnil] at HB
   simp only [Bool.not_true] at HB
   by_cases hl:m.res.length=m.prog.length
   ·have HD:Hid (iI m=true):=by unfold Hid iI;rw [hnil,hl];simp
    rw [hl] at er er'
    generalize iI m=dn at *
    generalize m.prog.length=pl at *
    clear h1 hn hkd hnil hl
    go_enter func42,ntmps42
    go_wp2_with fail
    go_quiet (first|(go_at_call 78;exact Calls.quiet_of_same (eU (HB.out _ ((Keep.refl none_ w).drewN _)))))
    go_wp2_with fail
    go_ret
    exact ⟨by rw [HD.out];rfl,(Keep.refl none_ w).drewN _⟩
   ·have HD:Hid (iI m=false):=by unfold Hid iI;rw [hnil];simp [hl]
    have hne:((m.res.length:Int)==(m.prog.length:Int))=false:=by simp;omega
    generalize iI m=dn at *
    generalize m.res.length=rl at *
    generalize m.prog.length=pl at *
    clear h1 hn hkd hnil hl
    go_enter func42,ntmps42
    go_wp2_with fail
    go_quiet (first|(go_at_call 78;exact Calls.quiet_of_same (eU (HB.out _ ((Keep.refl none_ w).drewN _)))))
    go_wp2_with fail
    go_ret
    exact ⟨by rw [HD.out];rfl,(Keep.refl none_ w).drewN _⟩
end
theorem aai (l:Int) (w:World) (h:1<=l) (h2:l<=256):Calls ay 75 #[ah l] w fun e w'=>e = .returned (.tuple #[aj w.heap.size,ah 0])/\w'=w.alloc (.cells #[.slice none 0 0,ah l] 179):=by
 have h3:¬ l<1:=by omega
 have h4:¬ 256<l:=by omega
 go_enter func75,ntmps75
 go_wp2_with fail
 go_ret2
 exact ⟨rfl,rfl⟩
theorem aaj (a b c d:Nat) (w:World):Calls ay 76 #[aj a,aj b,aj c,aj d] w fun e w'=>e = .returned (.tuple #[aj w.heap.size,ah 0])/\w'=w.alloc (.cells #[aj a,aj b,aj c,aj d] 181):=by
 go_enter func76,ntmps76
 go_wp2_with fail
 go_ret2
 exact ⟨rfl,rfl⟩
def iE (prog:List fE):List (List Value):=prog.map fE.cells
theorem yF {prog:List fE}:∀ r∈iE prog,r.length=4:=fun r hr=>by
 obtain ⟨op,_,rfl⟩:=List.mem_map.1 hr;rfl
theorem Pg {prog:List fE}:∀ r∈iE prog,∀ u∈r,u.oneCell'=true:=fun r hr u hu=>by
 obtain ⟨op,_,rfl⟩:=List.mem_map.1 hr
 simp [fE.cells] at hu
 rcases hu with rfl|rfl|rfl|rfl<;>rfl
theorem flat_get {sz:Nat}:∀ (rs:List (List Value)),(∀ r∈rs,r.length=sz)->∀ i r,rs[i]?=some r->∀ j v,r[j]?=some v->rs.flatten[i*sz+j]?=some v
 | [],_,i,r,h,_,_,_=>by simp at h
 | r0::rs,hr,i,r,hi,j,v,hj=>by
   have h0:r0.length=sz:=hr r0 (by simp)
   rw [List.flatten_cons]
   cases i with
   | zero =>
     simp at hi;subst hi
     have:=(List.getElem?_eq_some_iff.1 hj).1
     rw [Nat.zero_mul,Nat.zero_add,List.getElem?_append_left (by omega)];exact hj
   | succ i =>
     have e:(i+1)*sz+j=r0.length+(i*sz+j):=by rw [Nat.succ_mul,h0];omega
     rw [e,List.getElem?_append_right (by omega),Nat.add_sub_cancel_left]
     exact flat_get rs (fun r h=>hr r (by simp [h])) i r (by simpa using hi) j v hj
theorem qG.tV {o:Ow} {w:World} {base n:Nat} {v:Value} {prog:List fE} (h:w.ownsRow base 83 4 v n (iE prog).flatten) (hn:n=prog.length) (hm:n<=1000) (hf:∀ b,v.ownBlock=some b->o b=0):qG o w v prog:=by
 subst hn
 obtain ⟨hl,hf2⟩:=h
 rcases hf2 with ⟨rfl,h0⟩|⟨g,cap,cur,rfl,hg0,hg,hn,_,hs,hc⟩
 ·exact ⟨none,0,by rw [h0],hm,fun hp=>by omega⟩
 ·refine ⟨_,cap,rfl,hm,fun hp=>⟨g,0,cur.toList,rfl,hf g rfl,by unfold aA;simpa using hg,fun i op hi j u hj=>?_⟩⟩
  have h1:=flat_get (iE prog) yF i op.cells (by unfold iE;rw [List.getElem?_map,hi];rfl) j u hj
  rw [<- hc] at h1
  have hlt:=(List.getElem?_eq_some_iff.1 h1).1
  rw [Nat.zero_add]
  rw [List.getElem?_take_of_lt (by simp at hlt;omega)] at h1
  exact h1
theorem aak {o:Ow} {w0 V:World} {G:Geo} {s:Sh} {id M X Bf Nt n:Nat} {prog:List fE} {pv:Value} (h:ShAt o w0 G s) (hid:id<s.boxes.length) (h8:s.boxes.length<=8) (k:Keep none_ w0 V)
 (hM:aA V M (mP G ⟨M,X,Bf,Nt⟩ (MS.new s.H.c id prog) none pv (.slice none 0 0) .nilFunc) 108) (hX:aA V X (aG (List.replicate s.H.c.r.toNat 0)) 3) (hB:aA V Bf [.slice none 0 0,ah s.H.c.l] 179) (hN:aA V Nt [aB (G.D 0),aB Bf,aB (G.bx id),aB G.Fl] 181)
 (hp:V.ownsRow w0.heap.size 83 4 pv n (iE prog).flatten) (hn:n=prog.length) (hm:n<=1000) (g1:w0.heap.size<=M) (g2:w0.heap.size<=X) (g3:w0.heap.size<=Bf) (g4:w0.heap.size<=Nt) :
 ∃ o',aQ w0 o o'/\kU o' V G ⟨M,X,Bf,Nt⟩ s (MS.new s.H.c id prog)/\(∀ x,o' x=o x\/(w0.heap.size<=x/\o' x=20+id)):=by
 have nMX:M≠X:=fun e=>by rw [e] at hM;exact absurd (hM.uniq hX).2 (by decide)
 have nMB:M≠Bf:=fun e=>by rw [e] at hM;exact absurd (hM.uniq hB).2 (by decide)
 have nXB:X≠Bf:=fun e=>by rw [e] at hX;exact absurd (hX.uniq hB).2 (by decide)
 have nNM:Nt≠M:=fun e=>by rw [e] at hN;exact absurd (hN.uniq hM).2 (by decide)
 have nNX:Nt≠X:=fun e=>by rw [e] at hN;exact absurd (hN.uniq hX).2 (by decide)
 have nNB:Nt≠Bf:=fun e=>by rw [e] at hN;exact absurd (hN.uniq hB).2 (by decide)
 obtain ⟨o',ho⟩:∃ o':Ow,o'=((o.put M (20+id)).put X (20+id)).put Bf (20+id):=⟨_,rfl⟩
 have hM':o' M=20+id:=by rw [ho];unfold Ow.put;rw [if_neg nMB,if_neg nMX,if_pos rfl]
 have hX':o' X=20+id:=by rw [ho];unfold Ow.put;rw [if_neg nXB,if_pos rfl]
 have hB':o' Bf=20+id:=by rw [ho];unfold Ow.put;rw [if_pos rfl]
 have hoth:∀ x,x≠M->x≠X->x≠Bf->o' x=o x:=fun x h1 h2 h3=>by rw [ho];unfold Ow.put;rw [if_neg h3,if_neg h2,if_neg h1]
 have hext:aQ w0 o o':=fun b hb=>hoth b (by omega) (by omega) (by omega)
 have XI:gX o' V:=fun b hb=>by
  rw [hoth b (by have:=hM.lt;omega) (by have:=hX.lt;omega) (by have:=hB.lt;omega)]
  exact h.fC b (by have:=k.size;omega)
 have hsh:ShAt o' V G s:=h.move (I:=[]) k.aS rfl h8 hext XI
 have hbd:=fQ h.heap.table.ok
 refine ⟨o',hext,⟨none,.nilFunc,⟨hsh,⟨pv,.slice none 0 0,hM,?_,⟨rfl,.inl ⟨rfl,rfl⟩⟩,fun b hb=>by simp [Value.ownBlock] at hb⟩,hM',hX,hX',⟨by show o' Bf≠0;rw [hB'];omega,.slice none 0 0,hB,bC.nil _ _ _,fun _ _ e=>by cases e;rfl⟩,hB',hN,?_,hid,h8,rfl,?_,?_⟩,rfl⟩,fun x=>?_⟩
 ·refine qG.tV hp hn hm (fun b hb=>?_)
  have hlt:=(World.ownsRow.lt hp b hb).1
  have hlt2:=(World.ownsRow.lt hp b hb).2
  rw [hoth b (fun e=>own_ne hM hp (by decide) (by rw [hb,e])) (fun e=>own_ne hX hp (by decide) (by rw [hb,e])) (fun e=>own_ne hB hp (by decide) (by rw [hb,e]))]
  exact h.fC b hlt
 ·show o' Nt=0
  rw [hoth Nt nNM nNX nNB]
  exact h.fC Nt g4
 ·show ((List.replicate s.H.c.r.toNat 0).length:Int)=s.H.c.r
  rw [List.length_replicate];omega
 ·show (0:Int)<=s.H.c.l;omega
 ·by_cases e1:x=M
  ·right;rw [e1];exact ⟨g1,hM'⟩
  by_cases e2:x=X
  ·right;rw [e2];exact ⟨g2,hX'⟩
  by_cases e3:x=Bf
  ·right;rw [e3];exact ⟨g3,hB'⟩
  ·left;exact hoth x e1 e2 e3
section
variable {o o':Ow} {w w':World} {G:Geo} {s:Sh}
theorem ShAt.uD (h:ShAt o w G s):w.cell? ⟨G.S,0,none⟩=some (aj (G.D 0))/\w.cell? ⟨G.S,3,none⟩=some (aj G.Fl)/\∃ a c,w.cell? ⟨G.S,4,none⟩=some (.slice a s.boxes.length c)/\∀ i,i<s.boxes.length->∃ b off,a=some ⟨b,off,none⟩/\w.cell? ⟨b,off+i,none⟩=some (aj (G.bx i)):=by
 obtain ⟨v,hb,hr⟩:=h.sh
 obtain ⟨a,c,rfl,_,_,hc⟩:=hr.form
 simp only [List.length_map,List.length_range] at hb
 refine ⟨hb.cell 0 rfl,hb.cell 3 rfl,a,c,hb.cell 4 rfl,fun i hi=>?_⟩
 exact hc i (aB (G.bx i)) (by simp [hi])
theorem ShAt.still (h:ShAt o w G s) (k:Keep none_ w w') (h8:s.boxes.length<=8):ShAt o w' G s:=h.aH (I:=[]) k.aS rfl h8
theorem VG (h:ShAt o w G s) (h8:s.boxes.length<=8) (id:Nat) (hid:id<s.boxes.length) (prog:List fE) (n:Nat) (hn:n=prog.length) (hm:n<=1000) (a:Option Addr) (c:Nat) (hr:pz w a n 4 (iE prog)) (hnil:a=none->c=0) :
 Calls ay 41 #[aj G.S,ah (id:Int),.slice a n c] w fun e w'=>∃ (o':Ow) (g:MG),e = .returned (.tuple #[aj g.M,ah 0])/\aQ w o o'/\kU o' w' G g s (MS.new s.H.c id prog)/\(∀ x,o' x=o x\/(w.heap.size<=x/\o' x=20+id))/\Keep none_ w w':=by
 obtain ⟨s0,s3,sa,sc,s4,sbx⟩:=h.uD
 obtain ⟨sb,aei,rfl,bxc⟩:=sbx id hid
 have hbd:=fQ h.heap.table.ok
 have uy:=au (yu h.heap)
 have Ji:Hid (∀ W,Keep none_ w W->ShAt o W G s):=fun W hW=>h.still hW h8
 have HR:Hid (∀ W,Keep none_ w W->pz W a n 4 (iE prog)):=fun W hW=>hr.below hW
 have l9:Hid (∀ W,Keep none_ w W->Calls ay 77 #[.slice a n c] W fun e w'=>∃ v',e = .returned v'/\w'.ownsRow W.heap.size 83 4 v' n (iE prog).flatten/\Keep none_ W w'):=fun W hW=>O9 a n c (iE prog) W (hr.below hW) yF hnil (by omega) Pg
 obtain ⟨m9,hm9⟩:∃ m9,m9=MS.new s.H.c id prog:=⟨_,rfl⟩
 rw [<- hm9]
 have nN:Hid (∀ (V:World) (M X Bf Nt:Nat) (pv:Value),Keep none_ w V->aA V M (mP G ⟨M,X,Bf,Nt⟩ (MS.new s.H.c id prog) none pv (.slice none 0 0) .nilFunc) 108->aA V X (aG (List.replicate s.H.c.r.toNat 0)) 3->aA V Bf [.slice none 0 0,ah s.H.c.l] 179->aA V Nt [aB (G.D 0),aB Bf,aB (G.bx id),aB G.Fl] 181->V.ownsRow w.heap.size 83 4 pv n (iE prog).flatten->w.heap.size<=M->w.heap.size<=X->w.heap.size<=Bf->w.heap.size<=Nt ->
  ∃ (o':Ow) (g:MG),g.M=M/\aQ w o o'/\kU o' V G g s m9/\(∀ x,o' x=o x\/(w.heap.size<=x/\o' x=20+id))/\Keep none_ w V):=fun V M X Bf Nt pv k p1 p2 p3 p4 p5 p6 p7 p8 p9=>by
  obtain ⟨o',q1,q2,q3⟩:=aak h hid h8 k p1 p2 p3 p4 p5 hn hm p6 p7 p8 p9
  exact ⟨o',⟨M,X,Bf,Nt⟩,rfl,q1,by rw [hm9];exact q2,q3,k⟩
 obtain ⟨r,hrr⟩:∃ r:Nat,s.H.c.r=(r:Int):=⟨s.H.c.r.toNat,by omega⟩
 have hr64:(r:Int)<=64:=by omega
 have hmk:∀ w:World,(Instr.makeSlice 32 (ah (r:Int)) (ah (r:Int))).run ay w = .ok (.slice (some ⟨w.heap.size,0,none⟩) r r) (w.alloc (.cells (zeros (ah 0) r).toArray 3)) :=
  fun w=>run_mk (P:=ay) (by kernel_rfl) Tryz.infoInt rfl (by decide) r (by omega) _ rfl w
 have hzt:aG (List.replicate s.H.c.r.toNat 0)=zeros (ah 0) r:=by
  rw [hrr];simp [aG,zeros]
 have kP:Hid (∀ W,Calls ay 75 #[ah s.H.c.l] W fun e w'=>e = .returned (.tuple #[aj W.heap.size,ah 0])/\w'=W.alloc (.cells #[.slice none 0 0,ah s.H.c.l] 179)):=fun W=>aai _ W (by omega) (by omega)
 have aej:(id:Int)<(s.boxes.length:Int):=by omega
 have hid0:(0:Int)<=(id:Int):=by omega
 have hid1:¬ (s.boxes.length:Int)<=(id:Int):=by omega
 have hmI:(n:Int)<=1000:=by omega
 have hmN:¬ (1000:Int)<(n:Int):=by omega
 rw [hzt] at nN
 have HC:Hid (∃ c0 c1 c2 c4 c6,s.H.c=⟨c0,c1,c2,r,c4,s.H.c.l,c6⟩):=⟨s.H.c.b,s.H.c.w,s.H.c.m,s.H.c.c,s.H.c.s,by rw [<- hrr]⟩
 obtain ⟨c0,c1,c2,c4,c6,hcc⟩:=HC.out
 obtain ⟨l,hl⟩:∃ l,l=s.H.c.l:=⟨_,rfl⟩
 rw [<- hl] at hcc nN kP
 simp only [mP,MS.new,hcc,aK.cells] at nN uy
 generalize s.boxes.length=bl at *
 clear h hr hnil hn hbd hrr hzt hcc hl HC hm9
 go_enter func41,ntmps41
 go_wp2_with fail
 refine uy.out.mono ?_
 rintro e w1 ⟨rfl,k1⟩
 obtain ⟨W2,hW2⟩:∃ W2,W2=w1.alloc (.cells #[ah c0,ah c1,ah c2,ah (r:Int),ah c4,ah l,ah c6] 23):=⟨_,rfl⟩
 have k2:Keep none_ w W2:=by rw [hW2];exact k1.alloc _
 have hcb:aA W2 w1.heap.size [ah c0,ah c1,ah c2,ah (r:Int),ah c4,ah l,ah c6] 23:=by rw [hW2];exact aA.new w1 _ _
 have HW2:=au hW2
 have bJ:=au k2
 have abA:Hid (w.heap.size<=w1.heap.size):=k1.size
 have vC:=au hcb
 have xP:=au s0
 have Fe:=au s3
 have Fg:=au s4
 have Nh:=au bxc
 clear k1 uy hW2 k2 hcb s0 s3 s4 bxc
 go_wp2_with fail
 rw [<- HW2.out]
 refine (kP.out _).mono ?_
 rintro e w3 ⟨rfl,hw3⟩
 have k23:Keep none_ W2 w3:=by rw [hw3];exact (Keep.refl _ _).alloc _
 have hbf:aA w3 W2.heap.size [.slice none 0 0,ah l] 179:=by rw [hw3];exact aA.new W2 _ _
 have k3:Keep none_ w w3:=bJ.out.trans k23
 have s0:=k3.still xP.out
 have s3:=k3.still Fe.out
 have s4:=k3.still Fg.out
 have sx:=k3.still Nh.out
 have k3d:Keep none_ w w3.drew:=k3.drew
 have HNT:=au (aaj (G.D 0) W2.heap.size (G.bx id) G.Fl w3.drew)
 have HBF:=au hbf
 have gy:=au k3
 have abB:=au k23
 clear hw3 k23 hbf k3 k3d kP
 go_wp2_with fail
 refine aI 16 rfl (by kernel_rfl) (by kernel_rfl) (fun K hK=>?_)
 change wpStill _ _ (World.drew _) _ _ _
 simp only [List.take_succ_cons,List.take_zero,List.drop_succ_cons,List.drop_zero] at hK ⊢
 repeat still_step
 refine wpStill_nil ?_
 change ite _ (Oper.wp _ _ _ _ _ _) _
 go_simp
 refine HNT.out.mono ?_
 rintro e w4 ⟨rfl,hw4⟩
 refine hK _ _ ?_
 clear hK K
 have k34:Keep none_ w3 w4:=by rw [hw4];exact (Keep.refl none_ w3).drew.alloc _
 have hnt:aA w4 w3.heap.size [aj (G.D 0),aj W2.heap.size,aj (G.bx id),aj G.Fl] 181:=by rw [hw4];exact aA.new w3.drew _ _
 have e4:w4.heap.size=w3.heap.size+1:=by rw [hw4];simp
 have abC:=au (k34.blk HBF.out (fun f=>f))
 have Bl:=au ((abB.out.trans k34).blk vC.out (fun f=>f))
 have mM:=au (gy.out.trans k34)
 have abD:=au hnt
 have MK:Hid (w.heap.size<=w1.heap.size/\w1.heap.size<W2.heap.size/\W2.heap.size<w3.heap.size):=⟨abA.out,vC.out.lt,HBF.out.lt⟩
 clear hw4 k34 hnt s0 s3 s4 sx HNT HBF vC abB gy e4
 repeat still_step
 refine wpStill_nil ?_
 have Ht:Hid (∀ W',Keep none_ w4 W'->W'.cell? ⟨w1.heap.size,0,none⟩=some (ah c0)/\W'.cell? ⟨w1.heap.size,1,none⟩=some (ah c1)/\W'.cell? ⟨w1.heap.size,2,none⟩=some (ah c2)/\W'.cell? ⟨w1.heap.size,3,none⟩=some (ah (r:Int))/\W'.cell? ⟨w1.heap.size,4,none⟩=some (ah c4)/\W'.cell? ⟨w1.heap.size,5,none⟩=some (ah l)/\W'.cell? ⟨w1.heap.size,6,none⟩=some (ah c6)):=fun W' hW=>⟨hW.still (Bl.out.cell 0 rfl),hW.still (Bl.out.cell 1 rfl),hW.still (Bl.out.cell 2 rfl),hW.still (Bl.out.cell 3 rfl),hW.still (Bl.out.cell 4 rfl),hW.still (Bl.out.cell 5 rfl),hW.still (Bl.out.cell 6 rfl)⟩
 have abE:Hid (∀ W,Keep none_ w4 W->Calls ay 77 #[.slice a n c] W fun e w'=>∃ a8 c8,e = .returned (.slice a8 n c8)/\Hid (w'.ownsRow w.heap.size 83 4 (.slice a8 n c8) n (iE prog).flatten)/\Hid (Keep none_ W w')/\Hid (Keep none_ w4 w')/\(∀ x,Keep none_ w4 (w'.alloc x))):=fun W hW=>by
  refine (l9.out W (mM.out.trans hW)).mono ?_
  rintro e w' ⟨v',rfl,h1,h2⟩
  obtain ⟨a8,c8,rfl⟩:∃ a8 c8,v' = .slice a8 n c8:=by
   rcases h1.2 with ⟨e1,e2⟩|⟨q,cap,cur,e1,_⟩
   ·exact ⟨none,0,by rw [e1,e2]⟩
   ·exact ⟨_,_,e1⟩
  exact ⟨a8,c8,rfl,bD h1 (mM.out.trans hW).size,h2,hW.trans h2,fun x=>(hW.trans h2).alloc x⟩
 have fD:Hid (∀ (V:World) (X:Nat) (pv:Value),Keep none_ w4 V->w.heap.size<=X->aA V X (zeros (ah 0) r) 3->V.ownsRow w.heap.size 83 4 pv n (iE prog).flatten ->
  ∃ (o':Ow) (g:MG),g.M=V.heap.size/\aQ w o o'/\kU o' (V.alloc (.cells #[aj G.S,ah c0,ah c1,ah c2,ah (r:Int),ah c4,ah l,ah c6,ah (id:Int),.slice (some ⟨X,0,none⟩) r r,aj W2.heap.size,aj w3.heap.size,ah 0,ah 0,ah 0,pv,.slice none 0 0,.nilFunc,ah 0,ah 0,ah 0,ah 0,.bool false,ah 0,ah 0,ah 0,ah 0,ah 0,ah 0,.bool false] 108)) G g s m9/\(∀ x,o' x=o x\/(w.heap.size<=x/\o' x=20+id))/\Keep none_ w (V.alloc (.cells #[aj G.S,ah c0,ah c1,ah c2,ah (r:Int),ah c4,ah l,ah c6,ah (id:Int),.slice (some ⟨X,0,none⟩) r r,aj W2.heap.size,aj w3.heap.size,ah 0,ah 0,ah 0,pv,.slice none 0 0,.nilFunc,ah 0,ah 0,ah 0,ah 0,.bool false,ah 0,ah 0,ah 0,ah 0,ah 0,ah 0,.bool false] 108))):=fun V X pv k p1 p2 p3=>by
  have kv:Keep none_ V (V.alloc (.cells #[aj G.S,ah c0,ah c1,ah c2,ah (r:Int),ah c4,ah l,ah c6,ah (id:Int),.slice (some ⟨X,0,none⟩) r r,aj W2.heap.size,aj w3.heap.size,ah 0,ah 0,ah 0,pv,.slice none 0 0,.nilFunc,ah 0,ah 0,ah 0,ah 0,.bool false,ah 0,ah 0,ah 0,ah 0,ah 0,ah 0,.bool false] 108)):=(Keep.refl _ _).alloc _
  have he:=MK.out
  exact nN.out _ V.heap.size X W2.heap.size w3.heap.size pv ((mM.out.trans k).trans kv) (by refine Eq.mpr ?_ (aA.new V [aj G.S,ah c0,ah c1,ah c2,ah (r:Int),ah c4,ah l,ah c6,ah (id:Int),.slice (some ⟨X,0,none⟩) r r,aj W2.heap.size,aj w3.heap.size,ah 0,ah 0,ah 0,pv,.slice none 0 0,.nilFunc,ah 0,ah 0,ah 0,ah 0,.bool false,ah 0,ah 0,ah 0,ah 0,ah 0,ah 0,.bool false] 108);congr 1;simp [yP]) (kv.blk p2 (fun f=>f)) ((k.trans kv).blk abC.out (fun f=>f)) ((k.trans kv).blk abD.out (fun f=>f)) (bV p3 kv) (by have:=(mM.out.trans k).size;omega) p1 (by omega) (by omega)
 have uV:Hid (w.heap.size<=w4.heap.size):=mM.out.size
 have HCA:=au (abE.out w4.drew ((Keep.refl none_ w4).drew))
 have adx:=au (abE.out (w4.alloc (.cells (zeros (ah 0) r).toArray 3)).drew (((Keep.refl none_ w4).alloc _).drew))
 clear l9 nN MK mM Bl abD abC Ji HR HW2 bJ abA xP Fe Fg Nh
 go_wp2_with fail
 go_region_held3 (fun W'=>W'.cell? ⟨w1.heap.size,0,none⟩=some (ah c0)/\W'.cell? ⟨w1.heap.size,1,none⟩=some (ah c1)/\W'.cell? ⟨w1.heap.size,2,none⟩=some (ah c2)/\W'.cell? ⟨w1.heap.size,3,none⟩=some (ah (r:Int))/\W'.cell? ⟨w1.heap.size,4,none⟩=some (ah c4)/\W'.cell? ⟨w1.heap.size,5,none⟩=some (ah l)/\W'.cell? ⟨w1.heap.size,6,none⟩=some (ah c6))
  (first
   | exact Ht.out _ ((Keep.refl none_ w4).drew)
   | exact Ht.out _ (((Keep.refl none_ w4).drew).alloc _)
   | exact Ht.out _ (((Keep.refl none_ w4).alloc _).drew)
   | exact Ht.out _ hk48.out
   | exact Ht.out _ (SI _)
   | exact Ht.out _ ((SI _).alloc _)
   | fail "ji")
  (first
   | ((first|refine HCA.out.mono ?_|refine adx.out.mono ?_)
      rintro e w8 ⟨a8,c8,rfl,hown,hk8,hk48,SI⟩)
   | fail "jZ")
 all_goals
  go_wp2_with fail
  go_ret2
  first
   | (obtain ⟨o',g,q1,q2,q3,q4,q5⟩:=fD.out w8 w4.heap.size (.slice a8 n c8) hk48.out uV.out (hk8.out.blk ((aA.new w4 (zeros (ah 0) r) 3).drew) (fun f=>f)) hown.out
      exact ⟨o',g,by rw [q1];rfl,q2,q3,q4,q5⟩)
   | (obtain ⟨o',g,q1,q2,q3,q4,q5⟩:=fD.out (w8.alloc (.cells (zeros (ah 0) r).toArray 3)) w8.heap.size (.slice a8 n c8) (SI _) (Nat.le_trans uV.out hk48.out.size) (aA.new w8 (zeros (ah 0) r) 3) (bV hown.out ((Keep.refl none_ w8).alloc _))
      rw [World.size_alloc] at q1
      exact ⟨o',g,by rw [q1];rfl,q2,q3,q4,q5⟩)
end
def CS.new (c:aK) (n:Nat):CS:=⟨n,c.b.toNat,c.c.toNat,c.s.toNat,0,0,0,false,false,[],false,.nil,0,0⟩
section
variable {o o':Ow} {w w':World} {G:Geo} {s:Sh}
theorem VH (room:Int) (h1:1<=room) (h2:room<=4096) (w:World):Calls ay 44 #[ah room] w fun e w'=>e = .returned (.tuple #[aj w.heap.size,ah 0])/\w'=w.alloc (.cells #[.slice none 0 0,ah room,.bool false] 135):=by
 have d1:¬ room<1:=by omega
 have d2:¬ (4096:Int)<room:=by omega
 go_enter func44,ntmps44
 go_wp2_with fail
 go_ret2
 exact ⟨rfl,rfl⟩
theorem Yc (h:ShAt o w G s) (h8:s.boxes.length<=8) {V:World} {C K:Nat} (k:Keep none_ w V) (hb:1<=s.H.c.b) (hc:0<=s.H.c.c) (hs:1<=s.H.c.s)
 (hC:aA V C (jv G ⟨C,K⟩ (CS.new s.H.c s.boxes.length) none .nilFunc) 90) (hK:aA V K [.slice none 0 0,ah s.H.c.s,.bool false] 135) (h1:w.heap.size<=C) (h2:w.heap.size<=K) :
 ∃ (o':Ow),aQ w o o'/\gG o' V G ⟨C,K⟩ s (CS.new s.H.c s.boxes.length)/\∀ x,o' x=o x\/(w.heap.size<=x/\o' x=5):=by
 have e1:aQ w o (o.put K 5):=Ow.jU (.inl h2)
 have f1:gX (o.put K 5) V:=Ow.nJ h.fC k.size hK.lt
 have e2:aQ w (o.put K 5) ((o.put K 5).put C 5):=Ow.jU (.inl h1)
 have f2:gX ((o.put K 5).put C 5) V:=Ow.nJ f1 (Nat.le_refl _) hC.lt
 have e:aQ w o ((o.put K 5).put C 5):=fun b hb=>(e2 b hb).trans (e1 b hb)
 have oC:((o.put K 5).put C 5) C=5:=Ow.lM _ _ _
 have oK:((o.put K 5).put C 5) K=5:=by
  by_cases hx:K=C
  ·rw [hx];exact Ow.lM _ _ _
  ·unfold Ow.put
   simp [hx]
 have hs2:s.H.c.s=((CS.new s.H.c s.boxes.length).room:Int):=by show s.H.c.s=((s.H.c.s.toNat:Nat):Int);omega
 refine ⟨_,e,⟨none,.nilFunc,⟨h.move (I:=[]) k.aS rfl h8 e f2,hC,oC,⟨.slice none 0 0,?_,⟨rfl,.inl ⟨rfl,rfl⟩⟩,fun b hb=>by cases hb⟩,oK,h8⟩,rfl⟩,fun x=>?_⟩
 ·rw [<- hs2];exact hK
 ·unfold Ow.put
  by_cases hx:x=C
  ·exact .inr ⟨by omega,by simp [hx]⟩
  ·by_cases hy:x=K
   ·exact .inr ⟨by omega,by simp [hx,hy]⟩
   ·exact .inl (by simp [hx,hy])
theorem SL (h:ShAt o w G s) (h8:s.boxes.length<=8):Calls ay 13 #[aj G.S] w fun e w'=>∃ (o':Ow) (q:CG),e = .returned (.tuple #[aj q.C,ah 0])/\aQ w o o'/\gG o' w' G q s (CS.new s.H.c s.boxes.length)/\(∀ x,o' x=o x\/(w.heap.size<=x/\o' x=5))/\Keep none_ w w':=by
 obtain ⟨s0,s3,sa,sc,s4,sbx⟩:=h.uD
 have hbd:=fQ h.heap.table.ok
 have uy:=au (yu h.heap)
 obtain ⟨nb,hnb⟩:∃ n:Nat,s.H.c.b=(n:Int):=⟨s.H.c.b.toNat,by omega⟩
 obtain ⟨nc,hnc⟩:∃ n:Nat,s.H.c.c=(n:Int):=⟨s.H.c.c.toNat,by omega⟩
 have nN:Hid (∀ (V:World) (C K:Nat),Keep none_ w V->aA V C [aB G.S,ah (s.boxes.length:Int),ah s.H.c.b,ah s.H.c.c,ah 0,ah 0,ah 0,.bool false,.bool false,aB K,.nilFunc,ah 0,ah 0,ah 0,ah 0,ah 0,ah 0,ah 0,ah 0,.bool false] 90->aA V K [.slice none 0 0,ah s.H.c.s,.bool false] 135->w.heap.size<=C->w.heap.size<=K ->
  ∃ (o':Ow) (q:CG),q.C=C/\aQ w o o'/\gG o' V G q s (CS.new s.H.c s.boxes.length)/\(∀ x,o' x=o x\/(w.heap.size<=x/\o' x=5))/\Keep none_ w V):=fun V C K k p1 p2 p3 p4=>by
  obtain ⟨o',q1,q2,q3⟩:=Yc (C:=C) (K:=K) h h8 k (by omega) (by omega) (by omega) (by
   have:jv G ⟨C,K⟩ (CS.new s.H.c s.boxes.length) none .nilFunc=[aB G.S,ah (s.boxes.length:Int),ah s.H.c.b,ah s.H.c.c,ah 0,ah 0,ah 0,.bool false,.bool false,aB K,.nilFunc,ah 0,ah 0,ah 0,ah 0,ah 0,ah 0,ah 0,ah 0,.bool false]:=by
    rw [hnb,hnc]
    simp [jv,CS.new,yP,hnb,hnc]
   rw [this];exact p1) p2 p3 p4
  exact ⟨o',_,rfl,q1,q2,q3,k⟩
 have Qm:Hid (∀ W,Calls ay 44 #[ah s.H.c.s] W fun e w'=>e = .returned (.tuple #[aj W.heap.size,ah 0])/\w'=W.alloc (.cells #[.slice none 0 0,ah s.H.c.s,.bool false] 135)):=fun W=>VH _ (by omega) (by omega) W
 have HC:Hid (∃ c1 c2 c3 c5,s.H.c=⟨s.H.c.b,c1,c2,c3,s.H.c.c,c5,s.H.c.s⟩):=⟨s.H.c.w,s.H.c.m,s.H.c.r,s.H.c.l,rfl⟩
 obtain ⟨c1,c2,c3,c5,hcc⟩:=HC.out
 have Hu:s.H.c.cells=[ah s.H.c.b,ah c1,ah c2,ah c3,ah s.H.c.c,ah c5,ah s.H.c.s]:=by
  rw [hcc];rfl
 rw [Hu] at uy
 generalize CS.new s.H.c s.boxes.length=cs at *
 generalize s.H.c.b=kb at *
 generalize s.H.c.c=kc at *
 generalize s.H.c.s=ks at *
 generalize s.boxes.length=bl at *
 clear Hu hcc HC hbd hnb hnc sbx
 go_enter func13,ntmps13
 go_wp2_with fail
 refine uy.out.mono ?_
 rintro e w1 ⟨rfl,k1⟩
 obtain ⟨W2,hW2⟩:∃ W2,W2=w1.alloc (.cells #[ah kb,ah c1,ah c2,ah c3,ah kc,ah c5,ah ks] 23):=⟨_,rfl⟩
 have k2:Keep none_ w W2:=by rw [hW2];exact k1.alloc _
 have hcb:aA W2 w1.heap.size [ah kb,ah c1,ah c2,ah c3,ah kc,ah c5,ah ks] 23:=by rw [hW2];exact aA.new w1 _ _
 have HW2:=au hW2
 have bJ:=au k2
 have y0:=hcb.cell 6 (v := ah ks) rfl
 rw [hW2] at y0
 have vC:=au hcb
 have Fg:=au s4
 clear k1 uy hW2 k2 hcb s0 s3 s4
 go_wp2_with fail
 rw [<- HW2.out]
 refine (Qm.out _).mono ?_
 rintro e w3 ⟨rfl,hw3⟩
 have k23:Keep none_ W2 w3:=by rw [hw3];exact (Keep.refl _ _).alloc _
 have hst:aA w3 W2.heap.size [.slice none 0 0,ah ks,.bool false] 135:=by rw [hw3];exact aA.new W2 _ _
 have k3:Keep none_ w w3:=bJ.out.trans k23
 have z4:=k3.still Fg.out
 have z0:=k23.still (vC.out.cell 0 (v := ah kb) rfl)
 have z6:=k23.still (vC.out.cell 4 (v := ah kc) rfl)
 have HST:=au hst
 have gy:=au k3
 have uV:Hid (w.heap.size<=W2.heap.size):=bJ.out.size
 clear k23 hst k3 hw3 y0 Qm Fg vC HW2
 go_wp2_with fail
 go_region
 go_wp2_with fail
 go_ret2
 obtain ⟨o',q,q1,q2,q3,q4,q5⟩:=nN.out (w3.alloc (.cells #[aj G.S,ah (bl:Int),ah kb,ah kc,ah 0,ah 0,ah 0,.bool false,.bool false,aj W2.heap.size,.nilFunc,ah 0,ah 0,ah 0,ah 0,ah 0,ah 0,ah 0,ah 0,.bool false] 90)).drew w3.heap.size W2.heap.size ((gy.out.alloc _).drew) ((aA.new w3 [aB G.S,ah (bl:Int),ah kb,ah kc,ah 0,ah 0,ah 0,.bool false,.bool false,aB W2.heap.size,.nilFunc,ah 0,ah 0,ah 0,ah 0,ah 0,ah 0,ah 0,ah 0,.bool false] 90).drew) ((HST.out.alloc _).drew) gy.out.size uV.out
 exact ⟨o',q,by rw [q1];rfl,q2,q3,q4,q5⟩
end
section
variable {o o':Ow} {w w':World} {G:Geo} {q:CG} {s:Sh} {c:CS}
theorem gG.still (h:gG o w G q s c) (k:Keep none_ w w'):gG o w' G q s c:=by
 obtain ⟨ev,nv,h1,hn⟩:=h
 exact ⟨ev,nv,h1.still k,hn.still k⟩
theorem gG.cell (h:gG o w G q s c):w.cell? ⟨q.C,4,none⟩=some (ah (c.phase:Int))/\w.cell? ⟨q.C,5,none⟩=some (ah (c.color:Int))/\w.cell? ⟨q.C,6,none⟩=some (ah (c.cycles:Int))/\w.cell? ⟨q.C,7,none⟩=some (.bool c.wish)/\w.cell? ⟨q.C,11,none⟩=some (ah (c.drains:Int))/\w.cell? ⟨q.C,12,none⟩=some (ah (c.walks:Int))/\w.frozen? ⟨q.C,7,none⟩=false:=by
 obtain ⟨ev,nv,h1,hn⟩:=h
 exact ⟨h1.cell 4 _ rfl,h1.cell 5 _ rfl,h1.cell 6 _ rfl,h1.cell 7 _ rfl,h1.cell 11 _ rfl,h1.cell 12 _ rfl,h1.free 7⟩
theorem oH (h:gG o w G q s c):Calls ay 17 #[aj q.C] w fun e w'=>e = .returned (ah (c.phase:Int))/\w=w':=by
 obtain ⟨y4,y5,y6,y7,y11,y12,f7⟩:=h.cell
 clear h
 go_enter func17,ntmps17
 go_wp2_with fail
 go_ret
 exact ⟨rfl,rfl⟩
theorem Gi (h:gG o w G q s c):Calls ay 18 #[aj q.C] w fun e w'=>e = .returned (ah (c.color:Int))/\w=w':=by
 obtain ⟨y4,y5,y6,y7,y11,y12,f7⟩:=h.cell
 clear h
 go_enter func18,ntmps18
 go_wp2_with fail
 go_ret
 exact ⟨rfl,rfl⟩
theorem DK (h:gG o w G q s c):Calls ay 19 #[aj q.C] w fun e w'=>e = .returned (ah (c.cycles:Int))/\w=w':=by
 obtain ⟨y4,y5,y6,y7,y11,y12,f7⟩:=h.cell
 clear h
 go_enter func19,ntmps19
 go_wp2_with fail
 go_ret
 exact ⟨rfl,rfl⟩
theorem DL (h:gG o w G q s c):Calls ay 16 #[aj q.C] w fun e w'=>e = .returned (.bool c.wish)/\w=w':=by
 obtain ⟨y4,y5,y6,y7,y11,y12,f7⟩:=h.cell
 clear h
 go_enter func16,ntmps16
 go_wp2_with fail
 go_ret
 exact ⟨by simp,rfl⟩
theorem Ph (h:gG o w G q s c):Calls ay 15 #[aj q.C] w fun e w'=>e = .returned (.tuple #[ah (c.drains:Int),ah (c.walks:Int)])/\Keep none_ w w':=by
 obtain ⟨y4,y5,y6,y7,y11,y12,f7⟩:=h.cell
 clear h
 go_enter func15,ntmps15
 go_wp2_with fail
 go_quiet (fail)
 go_wp2_with fail
 go_ret2
 exact ⟨rfl,(Keep.refl none_ w).drewN _⟩
theorem VI (h:gG o w G q s c):Calls ay 14 #[aj q.C] w fun e w'=>e = .returned (.tuple #[])/\gG o w' G q s { c with wish:=true }/\Keep (In o [5]) w w':=by
 obtain ⟨y4,y5,y6,y7,y11,y12,f7⟩:=h.cell
 have HE:Hid (gG o (w.setCell ⟨q.C,7,none⟩ (.bool true)) G q s { c with wish:=true }/\Keep (In o [5]) w (w.setCell ⟨q.C,7,none⟩ (.bool true))):=by
  obtain ⟨ev,nv,h1,hn⟩:=h
  obtain ⟨h2,k2⟩:=h1.put 7 (.bool true) { c with wish:=true } ev nv rfl ⟨rfl,rfl,rfl⟩
  exact ⟨⟨ev,nv,h2,hn.aH k2 rfl rfl⟩,k2⟩
 clear h
 go_enter func14,ntmps14
 go_wp2_with fail
 go_end0
 exact ⟨rfl,HE.out.1,HE.out.2⟩
end
end
section
structure lG (s s':Sh):Prop where
 bl:s'.boxes.length=s.boxes.length
 ql:∀ k,(s'.Q.rw k).length<=(s.Q.rw k).length
 cnt:s'.B.count=s.B.count
 mu:s'.B.muts=s.B.muts
 c:s'.H.c=s.H.c
 ww:s'.H.ww=s.H.ww
theorem lG.refl (s:Sh):lG s s:=⟨rfl,fun _=>Nat.le_refl _,rfl,rfl,rfl,rfl⟩
theorem lG.heap (s:Sh) {H:HS} (h:H.ww=s.H.ww/\H.c=s.H.c):lG s { s with H:=H }:=⟨rfl,fun _=>Nat.le_refl _,rfl,rfl,h.2,h.1⟩
theorem Gj (b:Bd) (k:Int):(b.iT k).count=b.count/\(b.iT k).muts=b.muts:=by
 unfold Bd.iT
 split<;>exact ⟨rfl,rfl⟩
section
variable {N:Nat} {s:Sh} {m:MS}
theorem Yd (s:Sh) (m:MS) (o:fE):(iC s m o).s=s:=by
 unfold iC AB qB mY
 repeat' split
 all_goals rfl
theorem Ye (s:Sh) (m:MS) (d:MD):lG s (stepM s m d).s:=by
 cases d with
 | nil=>exact lG.refl s
 | start o=>show lG s (iC s m o).s;rw [Yd];exact lG.refl s
 | once k=>exact ⟨rfl,fun _=>Nat.le_refl _,(Gj _ _).1,(Gj _ _).2,rfl,rfl⟩
 | note v c t =>
   simp only [stepM]
   repeat' split
   all_goals exact lG.refl s
 | add v t =>
   simp only [stepM]
   split<;>exact lG.refl s
 | pour c t =>
   simp only [stepM]
   split
   ·exact ⟨by simp,fun _=>Nat.le_refl _,rfl,rfl,rfl,rfl⟩
   ·exact lG.refl s
 | eu c f t=>exact lG.heap s (Eu _ _)
 | raise t=>exact ⟨rfl,fun _=>Nat.le_refl _,rfl,rfl,rfl,rfl⟩
 | field base f t =>
   simp only [stepM]
   split<;>exact lG.refl s
 | load o base=>exact lG.refl s
 | get o=>exact lG.refl s
 | lay v rd=>exact lG.refl s
 | last rd=>exact lG.heap s (acO rd)
 | alloc o k =>
   simp only [stepM]
   split
   ·exact lG.heap s (Hq k)
   ·exact lG.refl s
 | assign o k =>
   simp only [stepM]
   split
   ·exact lG.heap s (Jf k)
   ·exact lG.refl s
 | qj o all=>exact lG.heap s (MO _)
 | claim o k =>
   simp only [stepM]
   split
   ·exact lG.refl s
   ·exact ⟨rfl,fun j=>PZ s.Q k j,rfl,rfl,rfl,rfl⟩
 | again o k =>
   simp only [stepM]
   split
   ·exact lG.heap s (Hq k)
   ·exact lG.refl s
 | sweep sl c t =>
   cases sl with
   | nil =>
     refine ⟨rfl,fun j=>?_,rfl,rfl,rfl,rfl⟩
     show ((if s.Q.opn=0 then s.Q else s.Q.qh).rw j).length<=_
     split<;>exact Nat.le_refl _
   | cons a r =>
     simp only [stepM]
     split
     ·exact lG.refl s
     ·exact lG.heap s (Hr a)
 | fill o a=>exact lG.heap s (MP _ _)
 | zero o a i =>
   simp only [stepM]
   split
   ·exact lG.heap s (Ql _ _)
   ·exact lG.heap s (zJ _ _ _)
theorem Nj (s:Sh) (m:MS):lG s (bG s m).1:=by
 unfold bG
 split
 ·exact lG.refl s
 ·exact Ye s _ _
theorem uX.sh {M:Nat} {s':Sh} (h:uX N s m) (hM:N<=M) (ho:s'.Q.opn<=M) (hq:l7 s'):uX M s' m:=⟨h.color,h.want,ho,Nat.le_trans h.res hM,hq,Nat.le_trans h.sp hM,h.rl,h.nx⟩
theorem CK.sh {M:Nat} {s':Sh} {c:CS} (h:CK N s c) (hM:N<=M) (k:lG s s') (ho:s'.Q.opn<=M) (hq:l7 s'):CK M s' c :=
 ⟨k.bl.trans h.mu,h.mu1,h.bl,h.ce,h.rm,h.stk,h.color,Nat.le_trans h.jd hM,Nat.le_trans h.dr hM,Nat.le_trans h.wa hM,ho,hq,fun j=>Nat.le_trans (k.ql j) (Nat.le_trans (h.ql j) hM),by rw [k.cnt];exact ⟨h.cnt.1,by have:=h.cnt.2;omega⟩,h.ph⟩
structure yT (s s':Sh):Prop where
 bl:s'.boxes.length=s.boxes.length
 mu:s'.B.muts=s.B.muts
 c:s'.H.c=s.H.c
 ww:s'.H.ww=s.H.ww
theorem yT.refl (s:Sh):yT s s:=⟨rfl,rfl,rfl,rfl⟩
theorem VJ (b:Bd) (k:Int):(b.oU k).muts=b.muts:=by
 unfold Bd.oU
 split<;>rfl
theorem yU (s:Sh) (c:CS) (p:Nat) (t:CD) (ev:Option Ev):yT s (uP s c p t ev).s:=⟨rfl,VJ _ _,rfl,rfl⟩
theorem Yf (s:Sh) (c:CS) (d:CD):yT s (aC s c d).s:=by
 cases d with
 | arm=>exact yU _ _ _ _ _
 | scan=>exact yU _ _ _ _ _
 | drain=>exact yU _ _ _ _ _
 | off=>exact yU _ _ _ _ _
 | look v t =>
   simp only [aC]
   split
   ·exact ⟨rfl,rfl,(Eu _ _).2,(Eu _ _).1⟩
   ·exact yT.refl s
 | work =>
   simp only [aC]
   split<;>exact yT.refl s
 | box m =>
   simp only [aC]
   split
   ·exact ⟨by simp,rfl,rfl,rfl⟩
   ·exact yT.refl s
 | over =>
   simp only [aC]
   repeat' split
   all_goals exact ⟨rfl,rfl,rfl,rfl⟩
 | enqueue b =>
   simp only [aC]
   split<;>exact ⟨rfl,rfl,rfl,rfl⟩
 | sweep =>
   simp only [aC]
   split<;>exact ⟨rfl,rfl,rfl,rfl⟩
 | block sl =>
   cases sl with
   | nil=>exact ⟨rfl,rfl,rfl,rfl⟩
   | cons a r =>
     simp only [aC]
     split
     ·exact yT.refl s
     ·exact ⟨rfl,rfl,(Hr a).2,(Hr a).1⟩
 | empty t =>
   simp only [aC]
   split<;>exact yT.refl s
 | _=>exact yT.refl s
theorem Yg (s:Sh) (c:CS):yT s (bM s c).s:=by
 unfold bM
 split
 ·exact Yf s c _
 ·split
  ·exact (yU s { c with wish:=false,cycles:=c.cycles+1,color:=1 - c.color } 1 .arm (some (c.ev 2 (c.cycles+1))):yT s (gY s c).s)
  ·exact yT.refl s
structure oq (N:Nat) (x:WS):Prop where
 len:x.muts.length=x.coll.muts
 dK:∀ i m,x.muts[i]?=some m->m.id=i/\uX N x.s m
 coll:Iq N x.s x.coll
 picks:x.picks<=N
 evs:x.evs.length<=N
theorem WS.nP (x:WS) (ev:Option Ev):(x.tell ev).s=x.s/\(x.tell ev).muts=x.muts/\(x.tell ev).coll=x.coll/\(x.tell ev).picks=x.picks+1/\(x.tell ev).evs.length<=x.evs.length+1:=by
 cases ev with
 | none=>exact ⟨rfl,rfl,rfl,rfl,Nat.le_succ _⟩
 | some e=>exact ⟨rfl,rfl,rfl,rfl,by simp [WS.tell]⟩
theorem oq.tell {x y:WS} {ev:Option Ev} (hl:y.muts.length=y.coll.muts) (hm:∀ i m,y.muts[i]?=some m->m.id=i/\uX (N+1) y.s m) (hc:Iq (N+1) y.s y.coll) (hp:y.picks<=N) (he:y.evs.length<=N):oq (N+1) (y.tell ev):=by
 obtain ⟨e1,e2,e3,e4,e5⟩:=y.nP ev
 exact ⟨by rw [e2,e3];exact hl,by rw [e1,e2];exact hm,by rw [e1,e3];exact hc,by rw [e4];omega,by omega⟩
theorem wX {x:WS} (h:oq N x) (hb:YP x.s.H) (who:Nat):oq (N+1) (bP x who):=by
 unfold bP
 cases hw:x.muts[who]? with
 | some m =>
   obtain ⟨hid,hp⟩:=h.dK who m hw
   have hk:=PY hp
   have hs:=Nj x.s m
   refine oq.tell (x:=x) (by show (x.muts.set who _).length=_;simpa using h.len) (fun i m' hi=>?_) ⟨h.coll.k.sh (Nat.le_succ N) hs hk.1.opn hk.1.q,h.coll.nx⟩ h.picks h.evs
   by_cases e:who=i
   ·subst e
    have hlt:=(List.getElem?_eq_some_iff.1 hw).1
    have hi':(x.muts.set who (bG x.s m).2.1)[who]?=some m':=hi
    rw [List.getElem?_set_self hlt] at hi'
    cases hi'
    exact ⟨hk.2.2.1.trans hid,hk.1⟩
   ·have hi':(x.muts.set who (bG x.s m).2.1)[i]?=some m':=hi
    rw [List.getElem?_set_ne e] at hi'
    obtain ⟨g1,g2⟩:=h.dK i m' hi'
    exact ⟨g1,g2.sh (Nat.le_succ N) hk.1.opn hk.1.q⟩
 | none =>
   simp only
   split
   ·have hc:=Xq h.coll hb
    refine oq.tell (x:=x) (by show x.muts.length=(bM x.s x.coll).c.muts;rw [hc.2.1];exact h.len) (fun i m' hi=>?_) hc.1 h.picks h.evs
    obtain ⟨g1,g2⟩:=h.dK i m' hi
    exact ⟨g1,g2.sh (Nat.le_succ N) hc.1.k.opn hc.1.k.q⟩
   ·refine oq.tell (x:=x) h.len (fun i m' hi=>?_) ?_ h.picks h.evs
    ·obtain ⟨g1,g2⟩:=h.dK i m' hi
     exact ⟨g1,g2.sh (Nat.le_succ N) (Nat.le_succ_of_le g2.opn) g2.q⟩
    ·have g:=h.coll.k.more (Nat.le_succ N)
     exact ⟨⟨g.mu,g.mu1,g.bl,g.ce,g.rm,g.stk,g.color,g.jd,g.dr,g.wa,g.opn,g.q,g.ql,g.cnt,g.ph⟩,h.coll.nx⟩
end
end
end Go.Proofs.YtanfphjoebobaaaGreatDoor
