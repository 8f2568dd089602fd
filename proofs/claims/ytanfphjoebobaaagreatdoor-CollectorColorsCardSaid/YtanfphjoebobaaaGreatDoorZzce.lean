/- Parts of a walk, put together and made shorter by a program of mine. No conditions. -/
import Derived.Test.YtanfphjoebobaaaGreatDoorZzcd
import Derived.WalkSpells
import Derived.WalkLawsBesides
import Derived.Test.YtanfphjoebobaaaGreatDoorZzcc
import Derived.Test.YtanfphjoebobaaaGreatDoorRows
import Derived.Test.YtanfphjoebobaaaGreatDoorZzca
import Derived.WalkKit
import Derived.Deep.QuietTactic
import Derived.BigQuiet
import Derived.Lib.Hide
namespace Go.Proofs.YtanfphjoebobaaaGreatDoor
set_option maxRecDepth 100000
set_option maxHeartbeats 1000000
section
attribute [local go_sem ↓] jZ
attribute [local go_sem] Oper.semAt_some
open Go.RowKit
section
variable {c:aB} {b ww:Nat} (hok:c.ok=true) (hb:c.b=b) (hw:c.w=ww)
include hok hb hw
theorem LH (k B0 s:Nat) (hk:k<4) (hB:B0<b) (hs:s<ww/2^(k+1)) (w:World) (hT:Tabs w) (hS:Sizes w):Calls Tryz.prog 147 #[.agg c.cells.toArray,.int .i64 (k:Int),.int .i64 (B0:Int),.int .i64 (s:Int)] w fun e w'=>e = .returned (.int .i64 (((B0*ww+s*2^(k+1):Nat):Int)+1))∧Keep none_ w w':=by
 obtain ⟨W0,hW0⟩:∃ W',W'=w.alloc (.cells c.cells.toArray 23):=⟨_,rfl⟩
 have HK:Hid (Keep none_ w W0):=by rw [hW0];exact (Keep.refl _ _).alloc _
 have HO:=Lib.hid (QW hok hb hw k B0 s hk hB hs W0 (hT.keep HK.out) (hS.keep HK.out))
 have hB:=show Blk W0 w.heap.size c.cells 23 by rw [hW0];exact Blk.new w _ _
 obtain ⟨R,hR⟩:∃ R:Int,R=((B0*ww+s*2^(k+1):Nat):Int)+1:=⟨_,rfl⟩
 rw [← hR] at HO ⊢
 clear hR
 obtain ⟨c0,c1,c2,c3,c4,c5,c6⟩:=c
 simp only [aB.cells] at *
 have y0:=hB.cell 0 rfl;have y1:=hB.cell 1 rfl;have y2:=hB.cell 2 rfl;have y3:=hB.cell 3 rfl;have y4:=hB.cell 4 rfl;have y5:=hB.cell 5 rfl;have y6:=hB.cell 6 rfl
 clear hT hS hok hb hw hs hB
 go_enter Tryz.func147,Tryz.ntmps147
 go_wp2_with fail
 rw [← hW0]
 clear hW0
 refine HO.out.mono ?_
 rintro e w1 ⟨rfl,hk1⟩
 have HK1:=Lib.hid (HK.out.trans hk1)
 clear hk1 HK HO y0 y1 y2 y3 y4 y5 y6
 go_wp2_with fail
 go_ret
 exact ⟨rfl,HK1.out⟩
end
def qp (per z:Nat):List (Nat × Nat):=(List.range per).map fun i=>(i,i*z)
theorem pG (per z:Nat):(qp per z).length=per:=by simp [qp]
theorem Ba {per z j:Nat} (h:j<per):(qp per z)[j]?=some (j,j*z):=by simp [qp,h]
def sW (_:World) (x:Nat × Nat) (args:Array Value):Prop:=args=#[.int .i64 (x.1:Int),.int .i64 (x.2:Int)]
theorem D8 (ww k:Int) (w:World):Calls Tryz.prog 146 #[.int .i64 ww,.int .i64 k] w fun e w'=>e = .returned (.func (.func 193) #[] #[.pointer (some ⟨w.heap.size,0,none⟩),.pointer (some ⟨w.heap.size+1,0,none⟩)])∧Blk w' w.heap.size [.int .i64 ww] 3∧Blk w' (w.heap.size+1) [.int .i64 k] 3∧Keep none_ w w':=by
 have hmf:∀ (fn:Fn) (first cap:Array Value) (w:World),(Instr.makeFunc fn first cap).run Tryz.prog w = .ok (.func fn first cap) w:=fun _ _ _ _=>rfl
 have hb:∀ w:World,Hid (Blk ((w.alloc (.cells #[.int .i64 ww] 3)).alloc (.cells #[.int .i64 k] 3)) w.heap.size [.int .i64 ww] 3∧Blk ((w.alloc (.cells #[.int .i64 ww] 3)).alloc (.cells #[.int .i64 k] 3)) (w.heap.size+1) [.int .i64 k] 3):=fun w =>
  ⟨(Blk.new w [.int .i64 ww] 3).alloc _,by have:=Blk.new (w.alloc (.cells #[.int .i64 ww] 3)) [.int .i64 k] 3;simpa using this⟩
 go_enter Tryz.func146,Tryz.ntmps146
 go_wp2
 go_ret
 exact ⟨rfl,(hb _).out.1,(hb _).out.2,((Keep.refl _ _).alloc _).alloc _⟩
def qw (pB kB:Nat):Nat→Prop:=fun i=>i=pB∨i=kB∨i=2
theorem I5 (ww k pB kB:Nat) (hw:16≤ww∧ww≤256) (hk:k<4) (m:Nat) (w:World) (hS:Sizes w) (hbp:Blk w pB [.int .i64 (ww:Int)] 3) (hbk:Blk w kB [.int .i64 (k:Int)] 3) :
 xH Fence.wide m Tryz.prog 193 #[.pointer (some ⟨pB,0,none⟩),.pointer (some ⟨kB,0,none⟩)] (qp (ww/2^(k+1)) (2^(k+1))) sW (qw pB kB) w:=by
 intro l J Jx W hW hJ hJx hY h0
 have hbk1:=hW.blk hbk (fun f=>f)
 have hbp1:=hW.blk hbp (fun f=>f)
 have hc0:=hbp1.cell 0 (v := .int .i64 (ww:Int)) rfl
 have hc1:=hbk1.cell 0 (v := .int .i64 (k:Int)) rfl
 have HP:=Lib.hid (qQ ww k hw hk W (hS.keep hW))
 have hsz:W.cell? ⟨2,k,none⟩=some (.int .i64 ((2^(k+1):Nat):Int)):=(hS.keep hW) k _ (show wG[k]?=some ((2^(k+1):Nat):Int) from by
  obtain rfl|rfl|rfl|rfl:k=0∨k=1∨k=2∨k=3:=by omega
  all_goals rfl)
 have hz:=mP hk
 have SI:∀ j,j<ww/2^(k+1)→j*2^(k+1)≤256:=fun j hj=>by
  have h1:j*2^(k+1)≤(ww/2^(k+1))*2^(k+1):=Nat.mul_le_mul_right _ (Nat.le_of_lt hj)
  have h2:=Nat.div_mul_le_self ww (2^(k+1))
  omega
 have hpl:ww/2^(k+1)≤256:=Nat.le_trans (Nat.div_le_self _ _) hw.2
 have hkI:(k:Int)<4:=by omega
 generalize 2^(k+1)=z at *
 generalize ww/z=per at *
 have U9:=Lib.hid SI
 clear SI hk hw hS
 refine callsIn_of_wp Tryz.func193 rfl trivial ?_ rfl
 simp only [Tryz.ntmps193,List.size_toArray,List.length_cons,List.length_nil,Nat.reduceAdd,Nat.reduceSub,Array.replicate_succ,Array.replicate_zero,List.push_toArray,List.append_toArray,List.nil_append,List.cons_append]
 gi_wp2_with fail
 refine ⟨trivial,fun h=>(by cases h),CallsIn.mono (callsIn_wide.2 HP.out) ?_⟩
 rintro e w1 ⟨rfl,rfl⟩
 gi_wp2_with fail
 gi_loopw [8] (fun i wr=>∃ j:Nat,j≤per∧i = .int .i64 j∧J j wr∧Holds (qw pB kB) W wr) (fun i _=>per - (intOf i).toNat)
 case atStart=>exact ⟨0,by omega,rfl,h0,Holds.refl _ _⟩
 case round =>
  obtain ⟨j,hj,rfl,hJj,hH⟩:=hrel
  have b1:=hH.blk (.inl rfl) hbp1
  have b2:=hH.blk (.inr (.inl rfl)) hbk1
  have c1:=b1.cell 0 (v := .int .i64 (ww:Int)) rfl
  have c2:=b2.cell 0 (v := .int .i64 (k:Int)) rfl
  have c3:wr.cell? ⟨2,k,none⟩=some (.int .i64 (z:Int)):=by
   rw [World.cell?_of_block (w:=W) (hH.same 2 (.inr (.inr rfl)))];exact hsz
  by_cases hlt:j<per
  ·have hmul:(j:Int)*(z:Int)=((j*z:Nat):Int):=by simp
   have Va:=U9.out j hlt
   obtain ⟨x2,hx2⟩:∃ x2,x2=j*z:=⟨_,rfl⟩
   rw [← hx2] at hmul Va
   have hwr:IntKind.i64.wrap (x2:Int)=(x2:Int):=IntWalk.i64_in _ (by omega)
   have HX:=Lib.hid hx2
   have HY:=Lib.hid hY
   have HJ:=Lib.hid hJj
   clear hx2 hY hJj
   obtain ⟨fn,tmps,assign,body,hy,hR⟩:=HY.out j (j,j*z) #[.int .i64 (j:Int),.int .i64 (x2:Int)] wr (Ba hlt) HJ.out (by rw [HX.out];rfl)
   gi_wp2_with fail
   refine ⟨fun h=>(by cases h),hR.mono ?_⟩
   rintro e W' (⟨rfl,hJ',hk⟩|⟨rfl,xI⟩)
   ·gi_wp2_with fail
    go_roundw
    case rel=>exact ⟨j+1,by omega,by go_num,hJ',hH.trans hk⟩
    case measure=>simp [intOf];omega
   ·gi_wp2_with fail
    refine bodyPost_ret (results_none rfl _ _ _) rfl ?_
    exact ⟨⟨_,rfl⟩,.inr ⟨j+1,by rw [pG];omega,xI⟩⟩
  ·clear hY
   have hje:j=per:=by omega
   have HJE:=Lib.hid hje
   clear hje
   gi_wp2_with fail
   go_end0
   exact ⟨⟨_,rfl⟩,.inl (by rw [pG,← HJE.out];exact hJj)⟩
def iV (per z base:Nat):List Nat:=(List.range per).map fun i=>base+i*z+1
theorem pI (per z base:Nat):(iV per z base).length=per:=by simp [iV]
theorem Gw (j z base:Nat):iV (j+1) z base=iV j z base++[base+j*z+1]:=by simp [iV,List.range_succ]
structure SlI (w:World) (N O:Nat) (cf:List Value) (k B0 z base:Nat) (j:Nat) (W:World):Prop where
 keep:Keep none_ w W
 cf:Blk W w.heap.size cf 23
 k:Blk W (w.heap.size+1) [.int .i64 (k:Int)] 3
 b:Blk W (w.heap.size+1+1) [.int .i64 (B0:Int)] 3
 big:N≤W.heap.size
 o:∃ v,Blk W O [v] 32∧W.ownsRow N 3 1 v j ((iV j z base).map fun x:Nat => .int .i64 (x:Int))
theorem SlI.own {w:World} {N O:Nat} {cf:List Value} {k B0 z base B:Nat} (hB:w.heap.size≤B):OwnFrom B (SlI w N O cf k B0 z base):=by
 rintro j W W' row ⟨h1,h2,h3,h4,hN,v,h5,h6⟩ hg hr
 refine ⟨ng (β:=Nat) hB j W W' row h1 hg hr,iy (β:=Nat) (cs:=fun _=>_) j W W' row h2 hg hr,iy (β:=Nat) (cs:=fun _=>_) j W W' row h3 hg hr,iy (β:=Nat) (cs:=fun _=>_) j W W' row h4 hg hr,Nat.le_trans hN hg.size,v,iy (β:=Nat) (cs:=fun _=>_) j W W' row h5 hg hr,?_⟩
 refine fD (S:=fun i=>row=some i) h6 ⟨hg.os,hg.tape,hg.output,hg.size,fun k hk n=>hg.block k hk (fun e=>n e.symm)⟩ (fun g hg' e=>?_)
 obtain ⟨_,_,ho,hc⟩:=hr g e
 obtain ⟨n,cap,rfl⟩:∃ n cap,v = .slice (some ⟨g,0,none⟩) n cap:=by
  obtain ⟨a,cap,rfl,_⟩:=jk (dP h6 (Nat.zero_le _))
  cases a with
  | none=>simp [Value.ownBlock] at hg'
  | some a =>
    rcases h6.2 with ⟨h,_⟩|⟨g2,cap2,cur2,hv,_⟩
    ·cases h
    ·cases hv
     simp [Value.ownBlock] at hg'
     subst hg'
     exact ⟨_,_,rfl⟩
 have h7:=dP h6 (Nat.zero_le _)
 have hn:n=j:=by
  rcases h6.2 with ⟨h,_⟩|⟨g2,cap2,cur2,hv,_⟩
  ·cases h
  ·cases hv;rfl
 subst hn
 obtain ⟨cur,hcur⟩:=LG h7
 rw [hcur] at ho
 cases ho
 simp [Obj.isCells] at hc
theorem SlI.later {w:World} {N O:Nat} {cf:List Value} {k B0 z base j:Nat} {W W':World} (h:SlI w N O cf k B0 z base j W) (hk:Keep none_ W W'):SlI w N O cf k B0 z base j W':=by
 obtain ⟨v,h5,h6⟩:=h.o
 exact ⟨h.keep.trans hk,hk.blk h.cf (fun f=>f),hk.blk h.k (fun f=>f),hk.blk h.b (fun f=>f),Nat.le_trans h.big hk.size,v,hk.blk h5 (fun f=>f),fA h6 hk⟩
theorem kJ {w:World} {e:TypeId} {v:Value} {n q:Nat} {xs:List Value} (h:w.ownsRow 0 e 1 v n xs) (hq:v.ownBlock=some q):∃ cur:Array Value,w.heap[q]?=some (.cells cur e (0,0)):=by
 rcases h.2 with ⟨rfl,_⟩|⟨g2,cap2,cur2,rfl,_,hg,_⟩
 ·simp [Value.ownBlock] at hq
 ·simp [Value.ownBlock] at hq
  subst hq
  exact ⟨_,hg⟩
theorem D9 {w:World} {e:TypeId} {base g n cap:Nat} {xs:List Value} (h:w.ownsRow 0 e 1 (.slice (some ⟨g,0,none⟩) n cap) n xs) (hg:base≤g):w.ownsRow base e 1 (.slice (some ⟨g,0,none⟩) n cap) n xs:=by
 refine ⟨h.1,?_⟩
 rcases h.2 with ⟨h,_⟩|⟨g',cap',cur,hv,_,rest⟩
 ·cases h
 ·cases hv
  exact .inr ⟨g,cap,cur,rfl,hg,rest⟩
end
section
def HS.dL (H:HS) (k:Nat):Nat × Nat × HS:=match H.row k with
 | []=>(0,12,H)
 | a::_=>(a,0,H.take k)
def ofK (f:Int):Nat:=if f<0 then 0 else if f≤1 then 0 else if f≤3 then 1 else if f≤7 then 2 else if f≤15 then 3 else 0
def HS.slots (H:HS) (B:Nat):List Nat:=if H.K.getD B 0=0 then [] else iV (H.ww/2^H.K.getD B 0) (2^H.K.getD B 0) (B*H.ww)
def HS.bJ (H:HS) (k:Nat):List Nat × Nat × HS:=match H.K.findIdx? (fun x=>x==0) with
 | none=>([],10,H)
 | some B=>((H.assign B k).slots B,0,H.assign B k)
def HS.dU (H:HS) (a:Nat):HS:=match H.owner a with
 | none=>H
 | some (_,k)=>if H.bn a||H.inn a then H else H.put a k
def HS.fJ (H:HS) (a:Nat) (f:Int):HS:=match H.owner a with
 | none=>H
 | some (_,k)=>if H.hand a&&decide (0≤f)&&decide (gY k f.toNat) then H.begin a k f.toNat else H
def HS.iH (H:HS) (a c:Nat):HS:=if H.hand a&&decide (c<2)&&(H.hdr a).isSome then H.bear a (c==1) else H
def HS.dX (H:HS) (a:Nat):HS:=if H.bn a then (H.kill a).dU a else H
def HS.aT (H:HS) (a:Nat):Nat × Nat:=if H.jy a=0 then (H.nf a,0) else (0,H.jy a)
def HS.iC (H:HS) (a:Nat) (f:Int):Nat:=if H.jy a=0 then (if f<0∨(H.nf a:Int)≤f then 7 else 0) else H.jy a
def HS.bQ (H:HS) (a:Nat) (f:Int):Nat:=if H.iC a f=0 then H.word (a+1+f.toNat) else 0
def HS.kQ (H:HS) (a:Nat) (f:Int) (v:Nat):Nat:=if H.iC a f=0 then (if v≤H.n then 0 else 4) else H.iC a f
def HS.dY (H:HS) (a:Nat) (f:Int) (v:Nat):HS:=if H.kQ a f v=0 then H.lay (a+1+f.toNat) v else H
def HS.dA (H:HS) (a:Nat):Nat:=if H.co a then 1 else 0
def HS.dw (H:HS) (a c:Nat):Bool:=H.bn a&&decide (c<2)&&(H.co a != (c==1))
def HS.aY (H:HS) (a c:Nat):HS:=if H.dw a c then H.dG a (c==1) else H
def HS.jo (H:HS) (i:Int):Nat:=if i<0∨(H.cells.length:Int)≤i then 9 else 0
def HS.cellP (H:HS) (i:Int):Nat:=if H.jo i=0 then H.cells.getD i.toNat 0 else 0
def HS.qx (H:HS) (i:Int) (v:Nat):Nat:=if H.jo i=0 then (if v≤H.n then 0 else 4) else 9
def HS.kN (H:HS) (i:Int) (v:Nat):HS:=if H.qx i v=0 then H.setCell i.toNat v else H
end
section
open Go.RowKit
structure Bd where
 muts:Int
 kind:Int
 count:Int
 os:List Bool
def Bd.cells (b:Bd):List Value := .int .i64 b.muts :: .int .i64 b.kind :: .int .i64 b.count::b.os.map Value.bool
structure eX (w:World) (B:Nat) (b:Bd):Prop where
 blk:Blk w B b.cells 169
 len:b.os.length=8
 lo:1≤b.muts
 hi:b.muts≤8
theorem eX.keep {S w w' B b} (h:eX w B b) (k:Keep S w w') (hs:¬ S B):eX w' B b:=⟨k.blk h.blk hs,h.len,h.lo,h.hi⟩
def Bd.is (b:Bd) (m:Int):Bool:=decide (0≤m)&&decide (m<b.muts)
def Bd.isOpen (b:Bd) (m:Int):Bool:=b.os.getD m.toNat false
def Bd.pend (b:Bd) (m:Int):Bool:=b.is m&&b.isOpen m
def Bd.lq (b:Bd) (m:Int):Int:=if b.pend m then b.kind else 0
theorem Bc (B:Nat) (b:Bd) (m:Int) (w:World) (hb:eX w B b) :
 Calls Tryz.prog 125 #[.pointer (some ⟨B,0,none⟩),.int .i64 m] w fun e w'=>e = .returned (.bool (b.is m))∧w=w':=by
 have hc:=hb.blk.cell 0 (v := .int .i64 b.muts) rfl
 clear hb
 go_enter Tryz.func125,Tryz.ntmps125
 go_wp2
 ·go_ret
  exact ⟨by simp [Bd.is, *],rfl⟩
 ·go_ret
  have:¬ (0≤m):=by omega
  exact ⟨by simp [Bd.is, *],rfl⟩
theorem oG (B:Nat) (b:Bd) (m:Int) (w:World) (hb:eX w B b) (h:b.is m=true) :
 Calls Tryz.prog 125 #[.pointer (some ⟨B,0,none⟩),.int .i64 m] w fun e w'=>e = .returned (.bool true)∧w=w':=by
 rw [← h];exact Bc B b m w hb
theorem xJ (B:Nat) (b:Bd) (m:Int) (w:World) (hb:eX w B b) (h:b.is m=false) :
 Calls Tryz.prog 125 #[.pointer (some ⟨B,0,none⟩),.int .i64 m] w fun e w'=>e = .returned (.bool false)∧w=w':=by
 rw [← h];exact Bc B b m w hb
theorem eX.xK {w B b} (hb:eX w B b) {m:Int} (h:b.is m=true):w.cell? ⟨B,3+m.toNat,none⟩=some (.bool (b.isOpen m)):=by
 have hl:=hb.len;have:=hb.hi
 simp [Bd.is] at h
 refine hb.blk.cell _ ?_
 rw [Nat.add_comm]
 simp [Bd.cells,Bd.isOpen,List.getD_eq_getElem?_getD]
 rw [List.getElem?_eq_getElem (by omega)];simp
theorem zX (B:Nat) (b:Bd) (m:Int) (w:World) (hb:eX w B b) :
 Calls Tryz.prog 90 #[.pointer (some ⟨B,0,none⟩),.int .i64 m] w fun e w'=>e = .returned (.tuple #[.int .i64 (b.lq m),.bool (b.pend m)])∧w=w':=by
 cases h:b.is m with
 | false =>
   have hp:b.pend m=false:=by simp [Bd.pend,h]
   have HP:=Lib.hid hp;clear hp
   go_enter Tryz.func90,Tryz.ntmps90
   go_wp2_with (go_at_call 125;refine (xJ B b m _ hb h).mono ?_;rintro e w' ⟨rfl,rfl⟩)
   go_ret2
   simp [HP.out,Bd.lq]
 | true =>
   have hco:=hb.xK h
   have hc1:=hb.blk.cell 1 (v := .int .i64 b.kind) rfl
   have hm1:0≤m:=by simp [Bd.is] at h;exact h.1
   have hm2:m<8:=by have:=hb.hi;simp [Bd.is] at h;omega
   have hp:b.pend m=b.isOpen m:=by simp [Bd.pend,h]
   have HP:=Lib.hid hp;clear hp
   cases ho:b.isOpen m with
   | false =>
     rw [ho] at hco
     go_enter Tryz.func90,Tryz.ntmps90
     go_wp2_with (go_at_call 125;refine (oG B b m _ hb h).mono ?_;rintro e w' ⟨rfl,rfl⟩)
     go_ret2
     simp [HP.out,ho,Bd.lq]
   | true =>
     rw [ho] at hco
     go_enter Tryz.func90,Tryz.ntmps90
     go_wp2_with (go_at_call 125;refine (oG B b m _ hb h).mono ?_;rintro e w' ⟨rfl,rfl⟩)
     go_ret2
     simp [HP.out,ho,Bd.lq]
theorem yM (B:Nat) (b:Bd) (m:Int) (w:World) (hb:eX w B b) :
 Calls Tryz.prog 167 #[.pointer (some ⟨B,0,none⟩),.int .i64 m] w fun e w'=>e = .returned (.bool (b.is m && !b.isOpen m))∧w=w':=by
 cases h:b.is m with
 | false =>
   go_enter Tryz.func167,Tryz.ntmps167
   go_wp2_with (go_at_call 125;refine (xJ B b m _ hb h).mono ?_;rintro e w' ⟨rfl,rfl⟩)
   go_ret
   exact ⟨rfl,rfl⟩
 | true =>
   have hco:=hb.xK h
   have hm1:0≤m:=by simp [Bd.is] at h;exact h.1
   have hm2:m<8:=by have:=hb.hi;simp [Bd.is] at h;omega
   go_enter Tryz.func167,Tryz.ntmps167
   go_wp2_with (go_at_call 125;refine (oG B b m _ hb h).mono ?_;rintro e w' ⟨rfl,rfl⟩)
   go_ret
   exact ⟨rfl,rfl⟩
def kK:List Bool→Int→Int
 | [],_ => -1
 | x::l,i=>if x then i else kK l (i+1)
def kT (l:List Bool):Bool:=l.any id
theorem yN (l:List Bool) (i:Int) (hi:0≤i):decide (0≤kK l i)=kT l:=by
 induction l generalizing i with
 | nil=>simp [kK,kT]
 | cons x l ih =>
   cases x
   ·simpa [kK,kT] using ih (i+1) (by omega)
   ·simp [kK,kT,hi]
theorem wY (x:Bool) (w:World) :
 Calls Tryz.prog 207 #[.bool x] w fun e w'=>e = .returned (.bool x)∧w=w':=by
 go_enter Tryz.func207,Tryz.ntmps207
 go_wp2
 go_ret
 exact ⟨rfl,rfl⟩
theorem Gx (B off:Nat) (l:List Bool) (w:World) (hc:∀ i,(h:i<l.length)→w.cell? ⟨B,off+i,none⟩=some (.bool l[i])) (hl:l.length≤1000) :
 Calls Tryz.prog 240 #[.slice (some ⟨B,off,none⟩) l.length l.length,.func (.func 207) #[] #[]] w fun e w'=>e = .returned (.int .i64 (kK l 0))∧w=w':=by
 go_enter Tryz.func240,Tryz.ntmps240
 go_wp2
 go_outline
 go_loop [8] (fun i=>∃ k:Nat,k≤l.length∧i = .int .i64 k∧kK l 0=kK (l.drop k) k) (fun i=>l.length - (intOf i).toNat)
 case atStart=>exact ⟨0,Nat.zero_le _,rfl,rfl⟩
 case round =>
  obtain ⟨k,hk,rfl,hr⟩:=hrel
  have HR:=Lib.hid hr;clear hr
  by_cases hlt:k<l.length
  ·have hk1:=hc k hlt
   have e1:l.drop k=l[k]::l.drop (k+1):=by simp
   cases hx:l[k] with
   | true =>
     rw [hx] at hk1
     rw [hx] at e1
     have HE:=Lib.hid e1;clear e1 hx hc
     go_wp2_with (go_at_call 207;refine (wY _ _).mono ?_;rintro e w' ⟨rfl,rfl⟩)
     go_ret
     refine ⟨?_,rfl⟩
     rw [HR.out,HE.out];rfl
   | false =>
     rw [hx] at hk1
     rw [hx] at e1
     have HE:=Lib.hid e1;clear e1 hx hc
     go_wp2_with (go_at_call 207;refine (wY _ _).mono ?_;rintro e w' ⟨rfl,rfl⟩)
     go_round
     case rel=>exact ⟨k+1,by omega,by go_num,by rw [HR.out,HE.out];rfl⟩
     case measure=>simp [intOf];omega
  ·have:l.drop k=[]:=List.drop_of_length_le (by omega)
   have HE:=Lib.hid this;clear this hc
   go_wp2
   go_ret
   refine ⟨?_,rfl⟩
   rw [HR.out,HE.out];rfl
theorem eX.LJ {w B b} (hb:eX w B b) (i:Nat) (h:i<b.os.length):w.cell? ⟨B,3+i,none⟩=some (.bool b.os[i]):=by
 refine hb.blk.cell _ ?_
 rw [Nat.add_comm]
 simp [Bd.cells,h]
theorem Ea (B off:Nat) (l:List Bool) (w:World) (hc:∀ i,(h:i<l.length)→w.cell? ⟨B,off+i,none⟩=some (.bool l[i])) (hl:l.length≤1000) :
 Calls Tryz.prog 206 #[.slice (some ⟨B,off,none⟩) l.length l.length,.func (.func 207) #[] #[]] w fun e w'=>e = .returned (.bool (kT l))∧w=w':=by
 have hge:=yN l 0 (by omega)
 have HC:=Lib.hid hc;have HG:=Lib.hid hge;clear hc hge
 go_enter Tryz.func206,Tryz.ntmps206
 go_wp2_with (go_at_call 240;refine (Gx _ _ _ _ HC.out hl).mono ?_;rintro e w' ⟨rfl,rfl⟩)
 go_ret
 exact ⟨by rw [← HG.out];rfl,rfl⟩
def Bd.all (b:Bd):Bool := !kT b.os
theorem yO (B:Nat) (b:Bd) (w:World) (hb:eX w B b) :
 Calls Tryz.prog 165 #[.pointer (some ⟨B,0,none⟩)] w fun e w'=>e = .returned (.bool b.all)∧w=w':=by
 have hc:=hb.LJ
 have hl:=hb.len
 have HC:=Lib.hid hc;have HL:=Lib.hid hl;clear hc hl hb
 have key:∀ w0,w0=w→Calls Tryz.prog 206 #[.slice (some ⟨B,3,none⟩) 8 8,.func (.func 207) #[] #[]] w0 fun e w'=>e = .returned (.bool (kT b.os))∧w0=w':=by
  intro w0 h0
  subst h0
  have:=Ea B 3 b.os w0 HC.out (by rw [HL.out];omega)
  rw [HL.out] at this;exact this
 have KEY:=Lib.hid key;clear key
 go_enter Tryz.func165,Tryz.ntmps165
 go_wp2_with (go_at_call 206;refine (KEY.out _ rfl).mono ?_;rintro e w' ⟨rfl,rfl⟩)
 go_ret
 exact ⟨rfl,rfl⟩
def Bd.close (b:Bd) (m:Int):Bd:={ b with os:=b.os.set m.toNat false }
def Bd.xM (b:Bd) (m:Int):Int:=if b.is m then (if b.isOpen m then 0 else 11) else 4
def Bd.gu (b:Bd) (m:Int):Bd:=if b.pend m then b.close m else b
theorem eX.close {w B b} (hb:eX w B b) (m:Int):eX (w.setCell ⟨B,3+m.toNat,none⟩ (.bool false)) B (b.close m):=by
 refine ⟨?_,by simp [Bd.close,hb.len],hb.lo,hb.hi⟩
 have:=hb.blk.set (3+m.toNat) (.bool false)
 rw [Nat.add_comm] at this ⊢
 simpa [Bd.cells,Bd.close,List.map_set] using this
theorem Dk (B:Nat) (b:Bd) (m:Int) (w:World) (hb:eX w B b) :
 Calls Tryz.prog 129 #[.pointer (some ⟨B,0,none⟩),.int .i64 m] w fun e w'=>e = .returned (.int .i64 (b.xM m))∧eX w' B (b.gu m)∧Keep (only B) w w':=by
 cases h:b.is m with
 | false =>
   have HE:Hid (b.xM m=4∧b.gu m=b):=by simp [Hid,Bd.xM,Bd.gu,Bd.pend,h]
   go_enter Tryz.func129,Tryz.ntmps129
   go_wp2_with (go_at_call 125;refine (xJ B b m _ hb h).mono ?_;rintro e w' ⟨rfl,rfl⟩)
   go_ret
   rw [HE.out.1,HE.out.2]
   exact ⟨rfl,hb,Keep.refl _ _⟩
 | true =>
   have hco:=hb.xK h
   have hm1:0≤m:=by simp [Bd.is] at h;exact h.1
   have hm2:m<8:=by have:=hb.hi;simp [Bd.is] at h;omega
   cases ho:b.isOpen m with
   | false =>
     have HE:Hid (b.xM m=11∧b.gu m=b):=by simp [Hid,Bd.xM,Bd.gu,Bd.pend,h,ho]
     rw [ho] at hco
     go_enter Tryz.func129,Tryz.ntmps129
     go_wp2_with (go_at_call 125;refine (oG B b m _ hb h).mono ?_;rintro e w' ⟨rfl,rfl⟩)
     go_ret
     rw [HE.out.1,HE.out.2]
     exact ⟨rfl,hb,Keep.refl _ _⟩
   | true =>
     have HE:Hid (b.xM m=0∧b.gu m=b.close m):=by simp [Hid,Bd.xM,Bd.gu,Bd.pend,h,ho]
     have hfz:=hb.blk.free (3+m.toNat)
     have HB:=Lib.hid (hb.close m)
     rw [ho] at hco
     go_enter Tryz.func129,Tryz.ntmps129
     go_wp2_with (go_at_call 125;refine (oG B b m _ hb h).mono ?_;rintro e w' ⟨rfl,rfl⟩)
     go_ret
     rw [HE.out.1,HE.out.2]
     exact ⟨rfl,HB.out,(Keep.refl (only B) _).put _ _⟩
def Bd.new (m:Int):Bd:=⟨m,0,0,List.replicate 8 false⟩
theorem I7 (m:Int) (w:World) (h:1≤m) (h8:m≤8) :
 Calls Tryz.prog 68 #[.int .i64 m] w fun e w'=>e = .returned (.tuple #[.pointer (some ⟨w.heap.size,0,none⟩),.int .i64 0])∧eX w' w.heap.size (Bd.new m)∧Keep none_ w w':=by
 have HN:∀ w:World,Hid (eX (w.alloc (.cells (Bd.new m).cells.toArray 169)) w.heap.size (Bd.new m)):=fun w=>⟨Blk.new w (Bd.new m).cells 169,rfl,h,h8⟩
 go_enter Tryz.func68,Tryz.ntmps68
 go_wp2
 go_ret2
 exact ⟨rfl,(HN w).out,(Keep.refl _ _).alloc _⟩
def lN:Nat→List Bool→List Bool
 | 0,l=>l
 | k+1,l=>(lN k l).set k true
def Bd.asked (b:Bd) (kind:Int) (k:Nat):Bd:=⟨b.muts,kind,b.count+1,lN k b.os⟩
def Bd.Eb (b:Bd):Int:=if b.all then 0 else 11
def Bd.kX (b:Bd) (kind:Int):Bd:=if b.all then b.asked kind b.muts.toNat else b
theorem eX.asked0 {w B b} (hb:eX w B b) (kind:Int):eX ((w.setCell ⟨B,1,none⟩ (.int .i64 kind)).setCell ⟨B,2,none⟩ (.int .i64 (b.count+1))) B (b.asked kind 0) :=
 ⟨by simpa [Bd.cells,Bd.asked,lN] using (hb.blk.set 1 (.int .i64 kind)).set 2 (.int .i64 (b.count+1)),hb.len,hb.lo,hb.hi⟩
theorem eX.SL {w B b kind k} (hb:eX w B (Bd.asked b kind k)):eX (w.setCell ⟨B,3+k,none⟩ (.bool true)) B (b.asked kind (k+1)):=by
 refine ⟨?_,by have:=hb.len;simp [Bd.asked,lN] at *;exact this,hb.lo,hb.hi⟩
 have:=hb.blk.set (3+k) (.bool true)
 rw [Nat.add_comm] at this ⊢
 simpa [Bd.cells,Bd.asked,lN,List.map_set] using this
theorem I8 (B:Nat) (b:Bd) (kind:Int) (w:World) (hb:eX w B b) (hk0:0≤b.count) (hk1:b.count≤1000000000) :
 Calls Tryz.prog 120 #[.pointer (some ⟨B,0,none⟩),.int .i64 kind] w fun e w'=>e = .returned (.int .i64 b.Eb)∧eX w' B (b.kX kind)∧Keep (only B) w w':=by
 cases h:b.all with
 | false =>
   have HE:Hid (b.Eb=11∧b.kX kind=b):=by simp [Hid,Bd.Eb,Bd.kX,h]
   have key:Calls Tryz.prog 165 #[.pointer (some ⟨B,0,none⟩)] w fun e w'=>e = .returned (.bool false)∧w=w':=by
    rw [← h];exact yO B b w hb
   have KEY:=Lib.hid key;clear key
   go_enter Tryz.func120,Tryz.ntmps120
   go_wp2_with (go_at_call 165;refine KEY.out.mono ?_;rintro e w' ⟨rfl,rfl⟩)
   go_ret
   rw [HE.out.1,HE.out.2]
   exact ⟨rfl,hb,Keep.refl _ _⟩
 | true =>
   have HE:Hid (b.Eb=0∧b.kX kind=b.asked kind b.muts.toNat):=by simp [Hid,Bd.Eb,Bd.kX,h]
   have key:Calls Tryz.prog 165 #[.pointer (some ⟨B,0,none⟩)] w fun e w'=>e = .returned (.bool true)∧w=w':=by
    rw [← h];exact yO B b w hb
   have KEY:=Lib.hid key;clear key
   have hc0:=hb.blk.cell 0 (v := .int .i64 b.muts) rfl
   have hc1:=hb.blk.cell 1 (v := .int .i64 b.kind) rfl
   have hc2:=hb.blk.cell 2 (v := .int .i64 b.count) rfl
   have hf1:=hb.blk.free 1
   have hf2:=hb.blk.free 2
   have hmu:=hb.hi
   have hml:=hb.lo
   have H0:=Lib.hid (hb.asked0 kind)
   go_enter Tryz.func120,Tryz.ntmps120
   go_wp2_with (go_at_call 165;refine KEY.out.mono ?_;rintro e w' ⟨rfl,rfl⟩)
   go_loopw [24] (fun i wr=>∃ k:Nat,k≤b.muts.toNat∧i = .int .i64 k∧eX wr B (b.asked kind k)∧Keep (only B) w wr) (fun i _=>b.muts.toNat - (intOf i).toNat)
   case atStart=>exact ⟨0,Nat.zero_le _,rfl,H0.out,((Keep.refl (only B) _).put _ _).put _ _⟩
   case round =>
    obtain ⟨k,hk,rfl,hbk,hkeep⟩:=hrel
    by_cases hlt:(k:Int)<b.muts
    ·have hfz:=hbk.blk.free (3+k)
     have hcl:wr.cell? ⟨B,3+k,none⟩=some (.bool (b.asked kind k).os[k]!):=by
      have hl:=hbk.len
      rw [hbk.LJ k (by omega)]
      rw [getElem!_pos _ _ (by omega)]
     have HB:=Lib.hid hbk.SL
     go_wp2
     go_roundw
     case rel=>exact ⟨k+1,by omega,by go_num,HB.out,hkeep.put _ _⟩
     case measure=>simp [intOf];omega
    ·have e1:k=b.muts.toNat:=by omega
     have HK:=Lib.hid e1;clear e1
     go_wp2
     go_ret
     rw [HE.out.1,HE.out.2,← HK.out]
     exact ⟨rfl,hbk,hkeep⟩
theorem oP {B:Nat} {b:Bd} {m:Int} {w:World} {p:Bool} {k:Int} (hb:eX w B b) (h1:b.pend m=p) (h2:b.lq m=k) :
 Calls Tryz.prog 90 #[.pointer (some ⟨B,0,none⟩),.int .i64 m] w fun e w'=>e = .returned (.tuple #[.int .i64 k,.bool p])∧w=w':=by
 rw [← h1,← h2];exact zX B b m w hb
def Ow:Type:=Nat→Nat
def In (o:Ow) (I:List Nat):Nat→Prop:=fun b=>o b∈I
def Fut (o:Ow) (w:World):Prop:=∀ b,w.heap.size≤b→o b=0
def aH (w:World) (o o':Ow):Prop:=∀ b,b<w.heap.size→o' b=o b
theorem aH.refl (w:World) (o:Ow):aH w o o:=fun _ _=>rfl
theorem aH.trans {w w':World} {o o' o'':Ow} (h:aH w o o') (hs:w.heap.size≤w'.heap.size) (h':aH w' o' o''):aH w o o'':=fun b hb=>(h' b (Nat.lt_of_lt_of_le hb hs)).trans (h b hb)
theorem Fut.later {o:Ow} {w w':World} (h:Fut o w) (hs:w.heap.size≤w'.heap.size):Fut o w':=fun b hb=>h b (Nat.le_trans hs hb)
theorem Fut.keep {S:Nat→Prop} {o:Ow} {w w':World} (h:Fut o w) (k:Keep S w w'):Fut o w':=h.later k.size
theorem SN {o:Ow} {I:List Nat} {b i:Nat} (h:o b=i) (hi:i∉I):¬ In o I b:=fun e=>by unfold In at e;rw [h] at e;exact hi e
theorem aU {o:Ow} {I:List Nat} {b i:Nat} (h:o b=i) (hi:I.contains i=false):¬ In o I b:=SN h (by simpa using hi)
theorem Keep.aF {o:Ow} {I:List Nat} {w w':World} (k:Keep none_ w w'):Keep (In o I) w w':=k.mono (fun _ _ f=>f.elim)
theorem Keep.mD {o:Ow} {I:List Nat} {w w':World} {B i:Nat} (k:Keep (only B) w w') (h:o B=i) (hi:I.contains i=true):Keep (In o I) w w':=k.mono (fun b _ e=>by unfold only at e;subst e;unfold In;rw [h];simpa using hi)
theorem Keep.iI {o:Ow} {I J:List Nat} {w w':World} (k:Keep (In o I) w w') (h:I.all (fun i=>J.contains i)=true):Keep (In o J) w w':=k.mono (fun b _ e=>by
 unfold In at *
 have:=List.all_eq_true.1 h _ e
 simpa using this)
theorem Keep.nS {o o':Ow} {I:List Nat} {w w':World} (k:Keep (In o I) w w') (h:aH w o o'):Keep (In o' I) w w':=k.mono (fun b hb e=>by unfold In at *;rw [h b hb];exact e)
theorem Keep.yP {o o':Ow} {I:List Nat} {a b c:World} (h:Keep (In o I) a b) (k:Keep (In o' I) b c) (e:aH a o o'):Keep (In o I) a c:=h.trans' k (fun i hi hin=>by unfold In at *;rw [← e i hi];exact hin)
def Ow.put (o:Ow) (g i:Nat):Ow:=fun b=>if b=g then i else o b
theorem Ow.iM {o:Ow} {w:World} {g i:Nat} (h:w.heap.size≤g∨o g=i):aH w o (o.put g i):=fun b hb=>by
 unfold Ow.put
 split
 ·rename_i e;subst e
  rcases h with h|h
  ·omega
  ·exact h.symm
 ·rfl
theorem Ow.kD {o:Ow} {w w':World} {g i:Nat} (h:Fut o w) (hs:w.heap.size≤w'.heap.size) (hg:g<w'.heap.size):Fut (o.put g i) w':=fun b hb=>by
 unfold Ow.put
 rw [if_neg (by omega)]
 exact h b (by omega)
theorem Ow.jB (o:Ow) (g i:Nat):(o.put g i) g=i:=by unfold Ow.put;rw [if_pos rfl]
def aV (o:Ow) (w:World) (T:TypeId) (v:Value) (xs:List Value):Prop :=
 ∃ a c,v = .slice a xs.length c∧xs.length≤c∧xs.length≤4000000000000∧(0<xs.length→∃ b off cs,a=some ⟨b,off,none⟩∧o b=0∧Blk w b cs T∧∀ j,j<xs.length→cs[off+j]?=xs[j]?)
section
variable {o o':Ow} {w w':World} {T:TypeId} {v:Value} {xs:List Value}
theorem aV.nil (o:Ow) (w:World) (T:TypeId):aV o w T (.slice none 0 0) []:=⟨none,0,rfl,Nat.le_refl _,by simp,fun h=>absurd h (Nat.lt_irrefl 0)⟩
theorem aV.keep {S:Nat→Prop} (h:aV o w T v xs) (k:Keep S w w') (hs:∀ b,o b=0→¬ S b):aV o w' T v xs:=by
 obtain ⟨a,c,rfl,hl,hm,hc⟩:=h
 refine ⟨a,c,rfl,hl,hm,fun h0=>?_⟩
 obtain ⟨b,off,cs,e,h0,hb,hj⟩:=hc h0
 exact ⟨b,off,cs,e,h0,k.blk hb (hs b h0),hj⟩
theorem aV.ay {I:List Nat} (h:aV o w T v xs) (k:Keep (In o I) w w') (hI:I.contains 0=false):aV o w' T v xs:=h.keep k (fun _ hb=>aU hb hI)
theorem aV.still (h:aV o w T v xs) (k:Keep none_ w w'):aV o w' T v xs:=h.keep k (fun _ _ f=>f)
theorem aV.ext (h:aV o w T v xs) (e:aH w o o'):aV o' w T v xs:=by
 obtain ⟨a,c,rfl,hl,hm,hc⟩:=h
 refine ⟨a,c,rfl,hl,hm,fun h0=>?_⟩
 obtain ⟨b,off,cs,e1,h0,hb,hj⟩:=hc h0
 exact ⟨b,off,cs,e1,(e b hb.lt).trans h0,hb,hj⟩
theorem aV.toV (h:aV o w T v xs):D6 w T v xs:=by
 obtain ⟨a,c,rfl,hl,hm,hc⟩:=h
 refine ⟨a,c,rfl,hl,hm,fun h0=>?_⟩
 obtain ⟨b,off,cs,e1,_,hb,hj⟩:=hc h0
 exact ⟨b,off,cs,e1,hb,hj⟩
theorem aV.pJ {base n:Nat} (h:w.ownsRow base T 1 v n xs) (hm:n≤4000000000000) (hf:∀ b,base≤b→o b=0):aV o w T v xs:=by
 obtain ⟨hl,hf2⟩:=h
 rcases hf2 with ⟨rfl,rfl⟩|⟨g,cap,cur,rfl,hg0,hg,hn,_,hs,hc⟩
 ·have:xs=[]:=List.eq_nil_of_length_eq_zero (by simpa using hl)
  subst this
  exact aV.nil _ _ _
 ·have hnl:n=xs.length:=by simpa using hl.symm
  subst hnl
  refine ⟨_,cap,rfl,hn,hm,fun _=>⟨g,0,cur.toList,rfl,hf g hg0,by unfold Blk;simpa using hg,fun j hj=>?_⟩⟩
  rw [← hc]
  simp [hj]
theorem aV.UJ {B:Nat} (h:Blk w B xs T) (hB:o B=0) {n:Nat} (hn:n=xs.length) (hm:n≤4000000000000):aV o w T (.slice (some ⟨B,0,none⟩) n n) xs:=by
 subst hn
 exact ⟨_,_,rfl,Nat.le_refl _,hm,fun _=>⟨B,0,xs,rfl,hB,h,fun j _=>by rw [Nat.zero_add]⟩⟩
theorem aV.cut {a:Option Addr} {n c:Nat} (h:aV o w T (.slice a n c) xs) (k:Nat) (hk:k≤n):aV o w T (.slice (kU a c k) (n - k) (c - k)) (xs.drop k):=by
 obtain ⟨a',c',e,hl,hm,hc⟩:=h
 simp at e
 obtain ⟨rfl,rfl,rfl⟩:=e
 refine ⟨kU a c k,c - k,by simp,by simp;omega,by simp;omega,fun h0=>?_⟩
 have h0':k<xs.length:=by simp at h0;omega
 obtain ⟨b,off,cs,rfl,h0,hb,hj⟩:=hc (by omega)
 refine ⟨b,off+k,cs,?_,h0,hb,fun j hjl=>?_⟩
 ·unfold kU
  rw [if_neg (by omega)]
  cases k with
  | zero=>simp [Addr.add]
  | succ k=>simp [Addr.add]
 ·simp only [List.length_drop] at hjl
  rw [List.getElem?_drop,Nat.add_assoc,hj (k+j) (by omega)]
theorem aV.form (h:aV o w T v xs):∃ a c,v = .slice a xs.length c∧xs.length≤c∧xs.length≤4000000000000∧∀ j u,xs[j]?=some u→∃ b off,a=some ⟨b,off,none⟩∧w.cell? ⟨b,off+j,none⟩=some u:=by
 obtain ⟨a,c,rfl,hl,hm,hc⟩:=h
 refine ⟨a,c,rfl,hl,hm,fun j u hj=>?_⟩
 have hlt:=(List.getElem?_eq_some_iff.1 hj).1
 obtain ⟨b,off,cs,e1,_,hb,hj2⟩:=hc (by omega)
 exact ⟨b,off,e1,hb.cell _ ((hj2 j hlt).trans hj)⟩
end
theorem Blk.ay {o:Ow} {I:List Nat} {w w':World} {B i:Nat} {cs:List Value} {T:TypeId} (h:Blk w B cs T) (k:Keep (In o I) w w') (hB:o B=i) (hI:I.contains i=false):Blk w' B cs T:=k.blk h (aU hB hI)
end
end Go.Proofs.YtanfphjoebobaaaGreatDoor
