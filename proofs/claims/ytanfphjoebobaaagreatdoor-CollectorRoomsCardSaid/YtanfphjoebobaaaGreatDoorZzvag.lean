/- Parts of the walk. No conditions. -/
import Derived.Test.YtanfphjoebobaaaGreatDoorZzvaf
namespace Go.Proofs.YtanfphjoebobaaaGreatDoor
open _root_.Go.Proofs.Tryz hiding prog
open _root_.Go.Proofs.Tryz renaming prog->ay
set_option maxRecDepth 8000
set_option maxHeartbeats 8000000
section
open Go.RowKit Go.ChangeShapes Go.WideShapes Go.Deep
theorem list11 {α:Type} {l:List α} (h:l.length=11):∃ a b c d e f g s1 s2 s3 s4,l=[a,b,c,d,e,f,g,s1,s2,s3,s4]:=by
 match l,h with
 | [a,b,c,d,e,f,g,s1,s2,s3,s4],_=>exact ⟨a,b,c,d,e,f,g,s1,s2,s3,s4,rfl⟩
theorem qR.ofInts {w:World} {a:Option Addr} {n:Nat} {zs:List Int} (h:Ints .u8 w a n zs):qR w a n (zs.map Int.toNat):=by
 have hz:∀ z∈zs,0<=z/\z<256:=fun z hz=>by
  obtain ⟨i,hi,rfl⟩:=List.mem_iff_getElem.1 hz
  have:=h.bound i (by have:=h.len;omega)
  rw [List.getD_eq_getElem?_getD,List.getElem?_eq_getElem hi] at this
  have m1:IntKind.u8.min=0:=rfl
  have m2:IntKind.u8.max=255:=rfl
  simp [Lit.wf] at this
  omega
 have e:(zs.map Int.toNat).map (fun x:Nat=>(x:Int))=zs:=by
  rw [List.map_map]
  conv=>rhs;rw [<- List.map_id zs]
  exact List.map_congr_left (fun z hm=>by have:=hz z hm;show ((z.toNat:Nat):Int)=z;omega)
 refine ⟨by rw [e];exact h.cells,fun x hx=>?_⟩
 obtain ⟨z,hm,rfl⟩:=List.mem_map.1 hx
 have:=hz z hm
 omega
section
variable {H:Type} {enc:TypeId × Value->H} {P:Program} {w:World} {base:Nat} {held:Bool}
theorem zN {t e:TypeId} {fuel:Nat} {v:Value} {x:DataW H × List MemPlace} (ht:P.underlying t=some (.slice e)) (he:P.underlying e=some (.int .u8)) (hc:P.cellsOf e=1) (h:DataW.trod enc P w base (fun _=>true) held fuel t [v]=some x):∃ a n c l,v = .slice a n c/\qR w a n l:=by
 rcases open_ints ht he hc h with ⟨hcs,_⟩|⟨x,l,c,zs,hcs,_,hl,hm,hz,_,hcell,hwz⟩
 ·simp at hcs
  exact ⟨none,0,0,[],hcs,⟨⟨rfl,fun h=>absurd h (Nat.lt_irrefl 0)⟩,fun x hx=>by cases hx⟩⟩
 ·simp at hcs
  exact ⟨some x,l,c,_,hcs,qR.ofInts (Ints.ofRow hl (by simpa using hz) hcell hwz)⟩
theorem Gg {r:Reach} {b0:Nat} {t e:TypeId} {fs:Array Field} {f0 f1 f2 f3 f4:Field} {v:Value} {d:DataW H} {p:List MemPlace} (hs:P.underlying t=some (.struct fs)) (e0:fs[0]?=some f0) (e1:fs[1]?=some f1) (e2:fs[2]?=some f2) (e3:fs[3]?=some f3) (e4:fs[4]?=some f4)
 (o:f0.offset=0/\f1.offset=7/\f2.offset=8/\f3.offset=9/\f4.offset=10) (k0:flat P 9 f0.type=some [.int .i64,.int .i64,.int .i64,.int .i64,.int .i64,.int .i64,.int .i64]) (c0:P.cellsOf f0.type=7)
 (u:P.underlying f1.type=some (.slice e)) (c1:P.cellsOf f1.type=1) (ty:f2.type=f1.type/\f3.type=f1.type/\f4.type=f1.type) (ue:P.underlying e=some (.int .u8)) (ce:P.cellsOf e=1) (ct:P.cellsOf t=11)
 (hv:Value.okWide P w r b0 t v) (h:DataW.Trod enc P w base (fun _=>true) held t v d p):∃ (x:mM) (a1 a2 a3 a4:Option Addr) (n1 n2 n3 n4 p1 p2 p3 p4:Nat),v=pR x.c a1 a2 a3 a4 n1 n2 n3 n4 p1 p2 p3 p4/\zK w x a1 a2 a3 a4 n1 n2 n3 n4:=by
 obtain ⟨cs,rfl,hsz⟩:=okWide_struct hs hv
 obtain ⟨fuel,hf⟩:=h
 obtain ⟨xs,n,_,_,hl,hxl,hfl⟩:=DataW.trod_struct hs hf
 rw [ct] at hl
 obtain ⟨o0,o1,o2,o3,o4⟩:=o
 obtain ⟨t2,t3,t4⟩:=ty
 have hl':cs.toList.length=11:=hl
 obtain ⟨q0,q1,q2,q3,q4,q5,q6,s1,s2,s3,s4,hc⟩:=list11 hl'
 have hlt:∀ (i:Nat) (f:Field),fs[i]?=some f->∃ x,DataW.trod enc P w base (fun _=>true) held n f.type ((cs.toList.drop f.offset).take (P.cellsOf f.type))=some x:=fun i f hi=>by
  have hlt:i<xs.length:=by rw [hxl];exact (Array.getElem?_eq_some_iff.1 hi).1
  exact ⟨xs[i],by
   have:=hfl i f hi
   rw [List.getElem?_eq_getElem hlt] at this
   exact this⟩
 obtain ⟨x0,g0⟩:=hlt 0 f0 e0
 obtain ⟨x1,g1⟩:=hlt 1 f1 e1
 obtain ⟨x2,g2⟩:=hlt 2 f2 e2
 obtain ⟨x3,g3⟩:=hlt 3 f3 e3
 obtain ⟨x4,g4⟩:=hlt 4 f4 e4
 rw [hc,o0,c0] at g0
 rw [hc,o1,c1] at g1
 rw [hc,o2,t2,c1] at g2
 rw [hc,o3,t3,c1] at g3
 rw [hc,o4,t4,c1] at g4
 have hF:=OX 9 n _ _ _ _ g0 k0
 obtain ⟨a1,n1,p1,l1,hs1,hu1⟩:=zN u ue ce g1
 obtain ⟨a2,n2,p2,l2,hs2,hu2⟩:=zN u ue ce g2
 obtain ⟨a3,n3,p3,l3,hs3,hu3⟩:=zN u ue ce g3
 obtain ⟨a4,n4,p4,l4,hs4,hu4⟩:=zN u ue ce g4
 obtain ⟨v0,w0,z0,r0,_⟩:=hF.at_ 0 (.int .i64) rfl
 obtain ⟨v1,w1,z1,r1,_⟩:=hF.at_ 1 (.int .i64) rfl
 obtain ⟨v2,w2,z2,r2,_⟩:=hF.at_ 2 (.int .i64) rfl
 obtain ⟨v3,w3,z3,r3,_⟩:=hF.at_ 3 (.int .i64) rfl
 obtain ⟨v4,w4,z4,r4,_⟩:=hF.at_ 4 (.int .i64) rfl
 obtain ⟨v5,w5,z5,r5,_⟩:=hF.at_ 5 (.int .i64) rfl
 obtain ⟨v6,w6,z6,r6,_⟩:=hF.at_ 6 (.int .i64) rfl
 refine ⟨⟨⟨z0,z1,z2,z3,z4,z5,z6⟩,l1,l2,l3,l4⟩,a1,a2,a3,a4,n1,n2,n3,n4,p1,p2,p3,p4,?_,⟨hu1,hu2,hu3,hu4⟩⟩
 have e:cs=#[q0,q1,q2,q3,q4,q5,q6,s1,s2,s3,s4]:=by
  have:=congrArg List.toArray hc
  simpa using this
 have w0':some q0=some v0:=w0
 have w1':some q1=some v1:=w1
 have w2':some q2=some v2:=w2
 have w3':some q3=some v3:=w3
 have w4':some q4=some v4:=w4
 have w5':some q5=some v5:=w5
 have w6':some q6=some v6:=w6
 cases w0';cases w1';cases w2';cases w3';cases w4';cases w5';cases w6'
 rw [e,r0,r1,r2,r3,r4,r5,r6,hs1,hs2,hs3,hs4]
end
end
section
attribute [local go_sem] Oper.semAt_some
open Go.RowKit
theorem XD {rest : List (String × DataW Unit)} {w : World} (h : laidMet ay (("math/bits.deBruijn64tab", Rows.laid_math_bits_deBruijn64tab) :: rest) w) : l7 w := by
 obtain ⟨ps,⟨g,t,cs,fuel,p,q,hg,ht,hvar,hd,_,_⟩,_⟩:=h
 obtain rfl : 1 = g := Option.some.inj ((show ay.globalNamed "math/bits.deBruijn64tab" = some 1 by kernel_rfl).symm.trans hg)
 obtain rfl:214=t:=Option.some.inj ((show (ay.globals[1]?).map (·.type)=some 214 by kernel_rfl).symm.trans ht)
 obtain ⟨cs,rfl⟩:∃ l:List Value,cs=l.toArray:=⟨cs.toList,by simp⟩
 have e:cs=(Lib.deBruijn64tab.map fun x:Nat=>(x:Int)).map (Value.int .u8):=Lib.cells_of_tab (zs:=Lib.deBruijn64tab.map fun x:Nat=>(x:Int)) (show ay.underlying 214=some (.array 64 5) by kernel_rfl) (show ay.underlying 5=some (.int .u8) by kernel_rfl) (by kernel_rfl) (by kernel_rfl) hd
 intro j hj
 rw [World.var?_cell (P:=ay) hg hvar j,e]
 rw [List.getD_eq_getElem?_getD,List.getElem?_eq_getElem hj]
 simp [hj]
theorem Qa {rest : List (String × DataW Unit)} {w : World} (h : laidMet ay (("math/bits.deBruijn64tab", Rows.laid_math_bits_deBruijn64tab) :: ("dustpan/config.limits", Rows.laid_dustpan_config_limits) :: ("dustpan/class.sizes", Rows.laid_dustpan_class_sizes) :: ("dustpan/op.kinds", Rows.laid_dustpan_op_kinds) :: rest) w) : Laid w := by
 have hb:=XD h
 have h1:=laidMet.tail h
 have hl:=Zk h1
 have hs:=VL (laidMet.tail h1)
 have hk:=Yu (laidMet.tail (laidMet.tail h1))
 refine ⟨⟨hl,hk⟩,hs,hb,?_,?_,?_⟩
 ·exact World.block_lt_of_cell? _ _ (hl 0 _ rfl)
 ·exact World.block_lt_of_cell? _ _ (hk 0 _ rfl)
 ·exact World.block_lt_of_cell? _ _ (hs 0 _ rfl)
def yJ (n1 n2 n3 n4:Nat):Bool:=decide (30<n1)||decide (100<n2)||decide (20<n3)||decide (20<n4)
theorem Jm {n1 n2 n3 n4:Nat} (h:yJ n1 n2 n3 n4=false):n1<=30/\n2<=100/\n3<=20/\n4<=20:=by
 unfold yJ at h
 simp only [Bool.or_eq_false_iff,decide_eq_false_iff_not] at h
 omega
section
variable {w:World} {c:aI} {a1 a2 a3 a4:Option Addr} {n1 n2 n3 n4 p1 p2 p3 p4:Nat}
theorem Jo (c:aI) (a1 a2 a3 a4:Option Addr) (n1 n2 n3 n4 p1 p2 p3 p4:Nat) (w:World):Calls ay 9 #[pR c a1 a2 a3 a4 n1 n2 n3 n4 p1 p2 p3 p4] w fun e w'=>e = .returned (.bool (yJ n1 n2 n3 n4))/\Keep none_ w w':=by
 obtain ⟨W0,hW0⟩:∃ W0,W0=w.alloc (.cells #[ah c.b,ah c.w,ah c.m,ah c.r,ah c.c,ah c.l,ah c.s,.slice a1 n1 p1,.slice a2 n2 p2,.slice a3 n3 p3,.slice a4 n4 p4] 26):=⟨_,rfl⟩
 have k0:Keep none_ w W0:=by rw [hW0];exact (Keep.refl _ _).alloc _
 have hb:aA W0 w.heap.size [ah c.b,ah c.w,ah c.m,ah c.r,ah c.c,ah c.l,ah c.s,.slice a1 n1 p1,.slice a2 n2 p2,.slice a3 n3 p3,.slice a4 n4 p4] 26:=by rw [hW0];exact aA.new w _ _
 have y7:=hb.cell 7 rfl;have y8:=hb.cell 8 rfl;have y9:=hb.cell 9 rfl;have y10:=hb.cell 10 rfl
 have dY:=au k0
 rw [hW0] at y7 y8 y9 y10
 rw [hW0] at dY
 unfold yJ
 clear hb hW0 k0
 by_cases h1:30<n1
 ·have hI:(30:Int)<(n1:Int):=by omega
  rw [decide_eq_true h1]
  go_enter func9,ntmps9
  go_wp2_with fail
  go_ret
  exact ⟨rfl,dY.out⟩
 ·have hI:¬ (30:Int)<(n1:Int):=by omega
  rw [decide_eq_false h1]
  by_cases h2:100<n2
  ·have hI2:(100:Int)<(n2:Int):=by omega
   rw [decide_eq_true h2]
   go_enter func9,ntmps9
   go_wp2_with fail
   go_ret
   exact ⟨rfl,dY.out⟩
  ·have hI2:¬ (100:Int)<(n2:Int):=by omega
   rw [decide_eq_false h2]
   by_cases h3:20<n3
   ·have XM:(20:Int)<(n3:Int):=by omega
    rw [decide_eq_true h3]
    go_enter func9,ntmps9
    go_wp2_with fail
    go_ret
    exact ⟨rfl,dY.out⟩
   ·have XM:¬ (20:Int)<(n3:Int):=by omega
    rw [decide_eq_false h3]
    by_cases h4:20<n4
    ·have hI4:(20:Int)<(n4:Int):=by omega
     rw [decide_eq_true h4]
     go_enter func9,ntmps9
     go_wp2_with fail
     go_ret
     exact ⟨rfl,dY.out⟩
    ·have hI4:¬ (20:Int)<(n4:Int):=by omega
     rw [decide_eq_false h4]
     go_enter func9,ntmps9
     go_wp2_with fail
     go_ret
     exact ⟨rfl,dY.out⟩
end
section
variable {w w':World}
theorem times_any (a b p:Nat) (ha:1<=a) (hp:a*b=p) (hp2:p<=1000000000000) (w:World):Calls ay 50 #[ah (a:Int),ah (b:Int)] w fun e w'=>e = .returned (ah (p:Int))/\w=w':=by
 obtain ⟨q,hq⟩:∃ q,q=4611686018427387904/a:=⟨_,rfl⟩
 have hbq:b<=q:=by
  rw [hq,Nat.le_div_iff_mul_le (by omega),Nat.mul_comm,hp];omega
 have hq1:(4611686018427387904:Int).tdiv (a:Int)=(q:Int):=by
  rw [Int.tdiv_eq_ediv_of_nonneg (by omega),hq];rfl
 have hq2:(4611686018427387904:Int)/(a:Int)=(q:Int):=by rw [hq];rfl
 have oZ:q<=4611686018427387904:=by rw [hq];exact Nat.div_le_self _ _
 have LG:(q:Int)<=4611686018427387904:=by omega
 have hI:(0:Int)<(a:Int):=by omega
 have h0:¬ (a:Int)=0:=by omega
 have hnb:¬ (q:Int)<(b:Int):=by omega
 have hm:(a:Int)*(b:Int)=(p:Int):=by rw [<- hp];simp
 have hpI:(p:Int)<=1000000000000:=by omega
 clear hq hp hbq
 go_enter func50,ntmps50
 go_wp2_with fail
 go_ret
 exact ⟨rfl,rfl⟩
abbrev qK (b w m r c l s:Nat):Value := .agg #[ah (b:Int),ah (w:Int),ah (m:Int),ah (r:Int),ah (c:Int),ah (l:Int),ah (s:Int)]
variable {b ww m r c l s:Nat}
theorem OT (hb:b<=4096) (hw:ww<=256) (n:Nat) (hn:b*(ww/2)=n) (w:World):Calls ay 94 #[qK b ww m r c l s] w fun e w'=>e = .returned (ah (n:Int))/\Keep none_ w w':=by
 obtain ⟨W0,hW0⟩:∃ W0,W0=w.alloc (.cells #[ah (b:Int),ah (ww:Int),ah (m:Int),ah (r:Int),ah (c:Int),ah (l:Int),ah (s:Int)] 23):=⟨_,rfl⟩
 have k0:Keep none_ w W0:=by rw [hW0];exact (Keep.refl _ _).alloc _
 have hbk:aA W0 w.heap.size [ah (b:Int),ah (ww:Int),ah (m:Int),ah (r:Int),ah (c:Int),ah (l:Int),ah (s:Int)] 23:=by rw [hW0];exact aA.new w _ _
 have y0:=hbk.cell 0 rfl;have y1:=hbk.cell 1 rfl
 have dY:=au k0
 rw [hW0] at y0 y1 dY
 obtain ⟨h,hh⟩:∃ h,h=ww/2:=⟨_,rfl⟩
 have e1:(ww:Int).tdiv 2=(h:Int):=by rw [Int.tdiv_eq_ediv_of_nonneg (by omega)];omega
 have e2:(ww:Int)/2=(h:Int):=by omega
 have hm2:(b:Int)*(h:Int)=(n:Int):=by rw [<- hn,hh];simp
 have hhI:(h:Int)<=128:=by omega
 have hnI:(n:Int)<=1000000:=by
  have:b*h<=4096*128:=Nat.mul_le_mul hb (by omega)
  rw [<- hh] at hn
  omega
 clear hbk hW0 k0 hn hh
 go_enter func94,ntmps94
 go_wp2_with fail
 go_ret
 exact ⟨rfl,dY.out⟩
theorem NI (hw:ww<=256) (hl:l<=256) (w:World):Calls ay 51 #[qK b ww m r c l s] w fun e w'=>e = .returned (ah ((64+4*l+ww:Nat):Int))/\Keep none_ w w':=by
 obtain ⟨W0,hW0⟩:∃ W0,W0=w.alloc (.cells #[ah (b:Int),ah (ww:Int),ah (m:Int),ah (r:Int),ah (c:Int),ah (l:Int),ah (s:Int)] 23):=⟨_,rfl⟩
 have k0:Keep none_ w W0:=by rw [hW0];exact (Keep.refl _ _).alloc _
 have hbk:aA W0 w.heap.size [ah (b:Int),ah (ww:Int),ah (m:Int),ah (r:Int),ah (c:Int),ah (l:Int),ah (s:Int)] 23:=by rw [hW0];exact aA.new w _ _
 have y5:=hbk.cell 5 rfl;have y1:=hbk.cell 1 rfl
 have dY:=au k0
 rw [hW0] at y5 y1 dY
 have hlI:(l:Int)<=256:=by omega
 have hwI:(ww:Int)<=256:=by omega
 clear hbk hW0 k0
 go_enter func51,ntmps51
 go_wp2_with fail
 go_ret
 exact ⟨by simp,dY.out⟩
theorem BK (hr:r<=64) (hl:l<=256) (q:Nat) (hq:r*(l+8)=q) (w:World):Calls ay 52 #[qK b ww m r c l s] w fun e w'=>e = .returned (ah ((16+q+4*l:Nat):Int))/\Keep none_ w w':=by
 obtain ⟨W0,hW0⟩:∃ W0,W0=w.alloc (.cells #[ah (b:Int),ah (ww:Int),ah (m:Int),ah (r:Int),ah (c:Int),ah (l:Int),ah (s:Int)] 23):=⟨_,rfl⟩
 have k0:Keep none_ w W0:=by rw [hW0];exact (Keep.refl _ _).alloc _
 have hbk:aA W0 w.heap.size [ah (b:Int),ah (ww:Int),ah (m:Int),ah (r:Int),ah (c:Int),ah (l:Int),ah (s:Int)] 23:=by rw [hW0];exact aA.new w _ _
 have y5:=hbk.cell 5 rfl;have y3:=hbk.cell 3 rfl
 have dY:=au k0
 rw [hW0] at y5 y3 dY
 have hlI:(l:Int)<=256:=by omega
 have hm2:(r:Int)*((l:Int)+8)=(q:Int):=by rw [<- hq];simp
 have LG:(q:Int)<=100000:=by
  have:r*(l+8)<=64*264:=Nat.mul_le_mul hr (by omega)
  omega
 clear hbk hW0 k0 hq
 go_enter func52,ntmps52
 go_wp2_with fail
 go_ret
 exact ⟨by simp,dY.out⟩
theorem Ey (E1 E2:Int) (a b p:Nat) (h1:E1=(a:Int)) (h2:E2=(b:Int)) (ha:1<=a) (hp:a*b=p) (hp2:p<=1000000000000) (w:World):Calls ay 50 #[ah E1,ah E2] w fun e w'=>e = .returned (ah (p:Int))/\w=w':=by
 subst h1 h2
 exact times_any a b p ha hp hp2 w
theorem JJ (hb:b<=4) (hw:ww<=40) (hm:m<=4) (hr:r<=5) (hc:c<=4) (hl:l<=4) (n o aa X mk:Nat) (hn:b*(ww/2)=n) (ho:o=64+4*l+ww) (zT:aa=16+r*(l+8)+4*l) (hX:X=40*n+2*m*(l+4)+2*c+o+aa+40) (hmk:(2*n+6)*X=mk) (w:World) :
 Calls ay 49 #[qK b ww m r c l s,ah 1] w fun e w'=>e = .returned (ah (mk:Int))/\Keep none_ w w':=by
 obtain ⟨W0,hW0⟩:∃ W0,W0=w.alloc (.cells #[ah (b:Int),ah (ww:Int),ah (m:Int),ah (r:Int),ah (c:Int),ah (l:Int),ah (s:Int)] 23):=⟨_,rfl⟩
 have k0:Keep none_ w W0:=by rw [hW0];exact (Keep.refl _ _).alloc _
 have hbk:aA W0 w.heap.size [ah (b:Int),ah (ww:Int),ah (m:Int),ah (r:Int),ah (c:Int),ah (l:Int),ah (s:Int)] 23:=by rw [hW0];exact aA.new w _ _
 have nT:Hid (∀ W,Keep none_ W0 W->W.cell? ⟨w.heap.size,0,none⟩=some (ah (b:Int))/\W.cell? ⟨w.heap.size,1,none⟩=some (ah (ww:Int))/\W.cell? ⟨w.heap.size,2,none⟩=some (ah (m:Int))/\W.cell? ⟨w.heap.size,3,none⟩=some (ah (r:Int))/\W.cell? ⟨w.heap.size,4,none⟩=some (ah (c:Int))/\W.cell? ⟨w.heap.size,5,none⟩=some (ah (l:Int))/\W.cell? ⟨w.heap.size,6,none⟩=some (ah (s:Int))):=fun W k=>by
  have h:=k.blk hbk (fun f=>f)
  exact ⟨h.cell 0 rfl,h.cell 1 rfl,h.cell 2 rfl,h.cell 3 rfl,h.cell 4 rfl,h.cell 5 rfl,h.cell 6 rfl⟩
 obtain ⟨y0,y1,y2,y3,y4,y5,y6⟩:=nT.out W0 (Keep.refl _ _)
 have dY:=au k0
 have HW0:=au hW0
 obtain ⟨ml,hml⟩:∃ ml,ml=2*m*(l+4):=⟨_,rfl⟩
 have aaR:2*(m:Int)*((l:Int)+4)=(ml:Int):=by rw [hml];simp
 have hml2:ml<=2*4*8:=by rw [hml];exact Nat.mul_le_mul (Nat.mul_le_mul_left 2 hm) (by omega)
 have hn2:n<=4*20:=by rw [<- hn];exact Nat.mul_le_mul hb (by omega)
 have hrl2:r*(l+8)<=5*12:=Nat.mul_le_mul hr (by omega)
 have haa2:aa<=100:=by omega
 have ho2:o<=120:=by omega
 rw [<- hml] at hX
 have hX2:X<=4000:=by omega
 have hmk2:mk<=166*4000:=by rw [<- hmk];exact Nat.mul_le_mul (by omega) hX2
 have HSL:Hid (∀ W,Calls ay 94 #[qK b ww m r c l s] W fun e w'=>e = .returned (ah (n:Int))/\Keep none_ W w'):=fun W=>OT (by omega) (by omega) n hn W
 have HOP:Hid (∀ W,Calls ay 51 #[qK b ww m r c l s] W fun e w'=>e = .returned (ah (o:Int))/\Keep none_ W w'):=fun W=>by
  have h:=NI (b:=b) (m:=m) (r:=r) (c:=c) (s:=s) (ww:=ww) (l:=l) (by omega) (by omega) W
  rw [<- ho] at h;exact h
 have uP:Hid (∀ W,Calls ay 52 #[qK b ww m r c l s] W fun e w'=>e = .returned (ah (aa:Int))/\Keep none_ W w'):=fun W=>by
  have h:=BK (b:=b) (m:=m) (r:=r) (c:=c) (s:=s) (ww:=ww) (l:=l) (by omega) (by omega) (r*(l+8)) rfl W
  rw [<- zT] at h;exact h
 obtain ⟨z,hz⟩:∃ z,z=2*n+6:=⟨_,rfl⟩
 rw [<- hz] at hmk
 have HT:Hid (∀ W (E1 E2 P:Int),((E1=1/\E2=(z:Int)/\P=(z:Int))\/(E1=(z:Int)/\E2=(X:Int)/\P=(mk:Int)))->Calls ay 50 #[ah E1,ah E2] W fun e w'=>e = .returned (ah P)/\W=w'):=fun W E1 E2 P h=>by
  rcases h with ⟨h1,h2,rfl⟩|⟨h1,h2,rfl⟩
  ·exact Ey E1 E2 1 z _ h1 h2 (by omega) (by omega) (by omega) W
  ·exact Ey E1 E2 z X mk h1 h2 (by omega) hmk (by omega) W
 have HZ:Hid (2*(n:Int)+6=(z:Int)):=by show _=_;omega
 have HX:Hid ((X:Int)=40*(n:Int)+(ml:Int)+2*(c:Int)+(o:Int)+(aa:Int)+40):=by show _=_;omega
 have i1:(n:Int)<=80:=by omega
 have i2:(ml:Int)<=64:=by omega
 have i3:(o:Int)<=120:=by omega
 have i4:(aa:Int)<=100:=by omega
 have i5:(c:Int)<=4:=by omega
 have i6:(l:Int)<=4:=by omega
 have i7:(m:Int)<=4:=by omega
 have g1:Hid (IntKind.i64.wrap (40*(n:Int))=40*(n:Int)):=IntWalk.i64_in _ (by omega)
 have g2:Hid (IntKind.i64.wrap (2*(m:Int))=2*(m:Int)):=IntWalk.i64_in _ (by omega)
 have g3:Hid (IntKind.i64.wrap ((l:Int)+4)=(l:Int)+4):=IntWalk.i64_in _ (by omega)
 have g4:Hid (IntKind.i64.wrap (2*(m:Int)*((l:Int)+4))=(ml:Int)):=by show _=_;rw [aaR];exact IntWalk.i64_in _ (by omega)
 have g5:Hid (IntKind.i64.wrap (40*(n:Int)+(ml:Int))=40*(n:Int)+(ml:Int)):=IntWalk.i64_in _ (by omega)
 have g6:Hid (IntKind.i64.wrap (2*(c:Int))=2*(c:Int)):=IntWalk.i64_in _ (by omega)
 have g7:Hid (IntKind.i64.wrap (40*(n:Int)+(ml:Int)+2*(c:Int))=40*(n:Int)+(ml:Int)+2*(c:Int)):=IntWalk.i64_in _ (by omega)
 have g8:Hid (IntKind.i64.wrap (40*(n:Int)+(ml:Int)+2*(c:Int)+(o:Int))=40*(n:Int)+(ml:Int)+2*(c:Int)+(o:Int)):=IntWalk.i64_in _ (by omega)
 have g9:Hid (IntKind.i64.wrap (40*(n:Int)+(ml:Int)+2*(c:Int)+(o:Int)+(aa:Int))=40*(n:Int)+(ml:Int)+2*(c:Int)+(o:Int)+(aa:Int)):=IntWalk.i64_in _ (by omega)
 have g10:Hid (IntKind.i64.wrap (40*(n:Int)+(ml:Int)+2*(c:Int)+(o:Int)+(aa:Int)+40)=40*(n:Int)+(ml:Int)+2*(c:Int)+(o:Int)+(aa:Int)+40):=IntWalk.i64_in _ (by omega)
 have f1:Hid (IntKind.i64.wrap (2*(n:Int))=2*(n:Int)):=IntWalk.i64_in _ (by omega)
 have f2:Hid (IntKind.i64.wrap (2*(n:Int)+6)=2*(n:Int)+6):=IntWalk.i64_in _ (by omega)
 rw [hW0] at y0 y1 y2 y3 y4 y5 y6
 clear aaR
 clear hbk hW0 k0 hn ho zT hX hmk hml hn2 hrl2 haa2 ho2 hX2 hmk2 hml2 hb hw hm hr hc hl hz
 go_enter func49,ntmps49
 go_wp2_with fail
 rw [<- HW0.out]
 refine (HSL.out W0).mono ?_
 rintro e w1 ⟨rfl,k1⟩
 have HK:=au k1.drew
 clear k1 y0 y1 y2 y3 y4 y5 y6 HSL HW0
 go_wp2_with fail
 go_region_held3 (fun W'=>W'.cell? ⟨w.heap.size,0,none⟩=some (ah (b:Int))/\W'.cell? ⟨w.heap.size,1,none⟩=some (ah (ww:Int))/\W'.cell? ⟨w.heap.size,2,none⟩=some (ah (m:Int))/\W'.cell? ⟨w.heap.size,3,none⟩=some (ah (r:Int))/\W'.cell? ⟨w.heap.size,4,none⟩=some (ah (c:Int))/\W'.cell? ⟨w.heap.size,5,none⟩=some (ah (l:Int))/\W'.cell? ⟨w.heap.size,6,none⟩=some (ah (s:Int)))
  (first
   | exact nT.out _ HK.out
   | fail "jB")
  (first
   | (go_at_call 51
      refine (HOP.out _).mono ?_
      rintro e w2 ⟨rfl,k2⟩
      have HK:=au (HK.out.trans k2)
      clear k2)
   | (go_at_call 52
      refine (uP.out _).mono ?_
      rintro e w2 ⟨rfl,k2⟩
      have HK:=au (HK.out.trans k2)
      clear k2)
   | (go_at_call 50
      refine (HT.out _ _ _ _ (by first|exact Or.inr ⟨rfl,(by rw [g1.out,g2.out,g3.out,g4.out,g5.out,g6.out,g7.out,g8.out,g9.out,g10.out];exact HX.out.symm),rfl⟩|exact Or.inl ⟨rfl,(by rw [f1.out,f2.out];exact HZ.out),rfl⟩)).mono ?_
      rintro e w2 ⟨rfl,rfl⟩)
   | fail "kG")
 all_goals
  go_wp2_with fail
  go_ret
  exact ⟨rfl,dY.out.trans HK.out⟩
theorem OU (hb:b<=4) (hw:ww<=40) (hm:m<=4) (hr:r<=5) (hc:c<=4) (hl:l<=4) (o aa mk bb:Nat) (ho:o=64+4*l+ww) (zT:aa=16+r*(l+8)+4*l) (hmk:(2*(b*(ww/2))+6)*(40*(b*(ww/2))+2*m*(l+4)+2*c+o+aa+40)=mk) (hbb:bb=2*b*(ww+8)+3*o+2*aa+4*m+60) (hmk2:mk<=1000000) (w:World) :
 Calls ay 25 #[qK b ww m r c l s,ah 1] w fun e w'=>e = .returned (ah ((mk+bb:Nat):Int))/\Keep none_ w w':=by
 obtain ⟨W0,hW0⟩:∃ W0,W0=w.alloc (.cells #[ah (b:Int),ah (ww:Int),ah (m:Int),ah (r:Int),ah (c:Int),ah (l:Int),ah (s:Int)] 23):=⟨_,rfl⟩
 have k0:Keep none_ w W0:=by rw [hW0];exact (Keep.refl _ _).alloc _
 have hbk:aA W0 w.heap.size [ah (b:Int),ah (ww:Int),ah (m:Int),ah (r:Int),ah (c:Int),ah (l:Int),ah (s:Int)] 23:=by rw [hW0];exact aA.new w _ _
 have nT:Hid (∀ W,Keep none_ W0 W->W.cell? ⟨w.heap.size,0,none⟩=some (ah (b:Int))/\W.cell? ⟨w.heap.size,1,none⟩=some (ah (ww:Int))/\W.cell? ⟨w.heap.size,2,none⟩=some (ah (m:Int))/\W.cell? ⟨w.heap.size,3,none⟩=some (ah (r:Int))/\W.cell? ⟨w.heap.size,4,none⟩=some (ah (c:Int))/\W.cell? ⟨w.heap.size,5,none⟩=some (ah (l:Int))/\W.cell? ⟨w.heap.size,6,none⟩=some (ah (s:Int))):=fun W k=>by
  have h:=k.blk hbk (fun f=>f)
  exact ⟨h.cell 0 rfl,h.cell 1 rfl,h.cell 2 rfl,h.cell 3 rfl,h.cell 4 rfl,h.cell 5 rfl,h.cell 6 rfl⟩
 obtain ⟨y0,y1,y2,y3,y4,y5,y6⟩:=nT.out W0 (Keep.refl _ _)
 have dY:=au k0
 have HW0:=au hW0
 obtain ⟨q,hq⟩:∃ q,q=2*b*(ww+8):=⟨_,rfl⟩
 have LG:2*(b:Int)*((ww:Int)+8)=(q:Int):=by rw [hq];simp
 have hq2:q<=2*4*48:=by rw [hq];exact Nat.mul_le_mul (Nat.mul_le_mul_left 2 hb) (by omega)
 have hrl2:r*(l+8)<=5*12:=Nat.mul_le_mul hr (by omega)
 have haa2:aa<=100:=by omega
 have ho2:o<=120:=by omega
 rw [<- hq] at hbb
 have hbb2:bb<=2000:=by omega
 have Yf:Hid (∀ W,Calls ay 49 #[qK b ww m r c l s,ah 1] W fun e w'=>e = .returned (ah (mk:Int))/\Keep none_ W w'):=fun W=>JJ hb hw hm hr hc hl _ o aa _ mk rfl ho zT rfl hmk W
 have HOP:Hid (∀ W,Calls ay 51 #[qK b ww m r c l s] W fun e w'=>e = .returned (ah (o:Int))/\Keep none_ W w'):=fun W=>by
  have h:=NI (b:=b) (m:=m) (r:=r) (c:=c) (s:=s) (ww:=ww) (l:=l) (by omega) (by omega) W
  rw [<- ho] at h;exact h
 have uP:Hid (∀ W,Calls ay 52 #[qK b ww m r c l s] W fun e w'=>e = .returned (ah (aa:Int))/\Keep none_ W w'):=fun W=>by
  have h:=BK (b:=b) (m:=m) (r:=r) (c:=c) (s:=s) (ww:=ww) (l:=l) (by omega) (by omega) (r*(l+8)) rfl W
  rw [<- zT] at h;exact h
 have HT:Hid (∀ W (E2:Int),E2=(bb:Int)->Calls ay 50 #[ah 1,ah E2] W fun e w'=>e = .returned (ah (bb:Int))/\W=w'):=fun W E2 h2=>Ey 1 E2 1 bb _ rfl h2 (by omega) (by omega) (by omega) W
 have HX:Hid ((bb:Int)=(q:Int)+3*(o:Int)+2*(aa:Int)+4*(m:Int)+60):=by show _=_;omega
 have i1:(q:Int)<=384:=by omega
 have i3:(o:Int)<=120:=by omega
 have i4:(aa:Int)<=100:=by omega
 have i5:(b:Int)<=4:=by omega
 have i6:(ww:Int)<=40:=by omega
 have i7:(m:Int)<=4:=by omega
 have i8:(mk:Int)<=1000000:=by omega
 have i9:(bb:Int)<=2000:=by omega
 have g1:Hid (IntKind.i64.wrap (2*(b:Int))=2*(b:Int)):=IntWalk.i64_in _ (by omega)
 have g2:Hid (IntKind.i64.wrap ((ww:Int)+8)=(ww:Int)+8):=IntWalk.i64_in _ (by omega)
 have g3:Hid (IntKind.i64.wrap (2*(b:Int)*((ww:Int)+8))=(q:Int)):=by show _=_;rw [LG];exact IntWalk.i64_in _ (by omega)
 have g4:Hid (IntKind.i64.wrap (3*(o:Int))=3*(o:Int)):=IntWalk.i64_in _ (by omega)
 have g5:Hid (IntKind.i64.wrap ((q:Int)+3*(o:Int))=(q:Int)+3*(o:Int)):=IntWalk.i64_in _ (by omega)
 have g6:Hid (IntKind.i64.wrap (2*(aa:Int))=2*(aa:Int)):=IntWalk.i64_in _ (by omega)
 have g7:Hid (IntKind.i64.wrap ((q:Int)+3*(o:Int)+2*(aa:Int))=(q:Int)+3*(o:Int)+2*(aa:Int)):=IntWalk.i64_in _ (by omega)
 have g8:Hid (IntKind.i64.wrap (4*(m:Int))=4*(m:Int)):=IntWalk.i64_in _ (by omega)
 have g9:Hid (IntKind.i64.wrap ((q:Int)+3*(o:Int)+2*(aa:Int)+4*(m:Int))=(q:Int)+3*(o:Int)+2*(aa:Int)+4*(m:Int)):=IntWalk.i64_in _ (by omega)
 have g10:Hid (IntKind.i64.wrap ((q:Int)+3*(o:Int)+2*(aa:Int)+4*(m:Int)+60)=(q:Int)+3*(o:Int)+2*(aa:Int)+4*(m:Int)+60):=IntWalk.i64_in _ (by omega)
 have hd:¬ (4611686018427387904 - (bb:Int))<(mk:Int):=by omega
 rw [hW0] at y0 y1 y2 y3 y4 y5 y6
 clear LG hq hbk hW0 k0 ho zT hmk hbb hrl2 haa2 ho2 hbb2 hq2 hb hw hm hr hc hl hmk2
 go_enter func25,ntmps25
 go_wp2_with fail
 rw [<- HW0.out]
 rw [<- HW0.out] at y0 y1 y2 y3 y4 y5 y6
 have HK:=au (Keep.refl none_ W0).drew
 clear HW0
 go_region_held3 (fun W'=>W'.cell? ⟨w.heap.size,0,none⟩=some (ah (b:Int))/\W'.cell? ⟨w.heap.size,1,none⟩=some (ah (ww:Int))/\W'.cell? ⟨w.heap.size,2,none⟩=some (ah (m:Int))/\W'.cell? ⟨w.heap.size,3,none⟩=some (ah (r:Int))/\W'.cell? ⟨w.heap.size,4,none⟩=some (ah (c:Int))/\W'.cell? ⟨w.heap.size,5,none⟩=some (ah (l:Int))/\W'.cell? ⟨w.heap.size,6,none⟩=some (ah (s:Int)))
  (first
   | exact nT.out _ HK.out
   | fail "jB")
  (first
   | (go_at_call 49
      refine (Yf.out _).mono ?_
      rintro e w2 ⟨rfl,k2⟩
      have HK:=au (HK.out.trans k2)
      clear k2)
   | (go_at_call 51
      refine (HOP.out _).mono ?_
      rintro e w2 ⟨rfl,k2⟩
      have HK:=au (HK.out.trans k2)
      clear k2)
   | (go_at_call 52
      refine (uP.out _).mono ?_
      rintro e w2 ⟨rfl,k2⟩
      have HK:=au (HK.out.trans k2)
      clear k2)
   | (go_at_call 50
      refine (HT.out _ _ (by rw [g1.out,g2.out,g3.out,g4.out,g5.out,g6.out,g7.out,g8.out,g9.out,g10.out];exact HX.out.symm)).mono ?_
      rintro e w2 ⟨rfl,rfl⟩)
   | fail "kG")
 all_goals
  go_wp2_with fail
  go_ret
  exact ⟨rfl,dY.out.trans HK.out⟩
theorem SQ (hb:b<=4) (hw:ww<=40) (hm:m<=4) (hr:r<=5) (hc:c<=4) (hl:l<=4) (hN:CB b ww m r c l<=1000000) (w:World) :
 Calls ay 25 #[qK b ww m r c l s,ah 1] w fun e w'=>e = .returned (ah ((CB b ww m r c l:Nat):Int))/\Keep none_ w w':=by
 have h:=OU (b:=b) (ww:=ww) (m:=m) (r:=r) (c:=c) (l:=l) (s:=s) hb hw hm hr hc hl _ _ _ _ rfl rfl rfl rfl (by unfold CB at hN;omega) w
 exact h
end
end
section
open Go.RowKit
structure Dm where
 b:Nat
 w:Nat
 m:Nat
 r:Nat
 ce:Nat
 l:Nat
 s:Nat
structure Dm.Ok (d:Dm):Prop where
 b:1<=d.b/\d.b<=4
 w:16<=d.w/\d.w<=35
 m:1<=d.m/\d.m<=4
 r:1<=d.r/\d.r<=5
 ce:d.ce<=3
 l:1<=d.l/\d.l<=4
def Dm.conf (d:Dm):aI:=⟨d.b,d.w,d.m,d.r,d.ce,d.l,d.s⟩
def Dm.most (d:Dm):Nat:=CB d.b d.w d.m d.r d.ce d.l
theorem Jp (c:aI):∃ d:Dm,c.little=d.conf/\d.Ok:=by
 obtain ⟨b,w,m,r,ce,l,s⟩:=c
 refine ⟨⟨(1+b%4).toNat,(16+w%20).toNat,(1+m%4).toNat,(1+r%5).toNat,(ce%4).toNat,(1+l%4).toNat,(1+s%4).toNat⟩,?_,⟨?_,?_,?_,?_,?_,?_⟩⟩
 ·simp only [aI.little,Dm.conf,aI.mk.injEq];omega
 all_goals
  simp only
  omega
section
variable {o o' o0:Ow} {w w' W W' W0:World} {G:Geo} {gs:List MG} {q:CG} {x y:WS} {v mv:Value} {N κ K:Nat} {d:Dm}
theorem Dm.Ok.most (h:d.Ok):mW d.m d.b d.ce d.r (d.w/2)+2<=d.most/\d.most<=1000000:=by
 obtain ⟨h1,_,h3⟩:=SG h.b h.w h.m h.r h.ce h.l
 exact ⟨h1,h3⟩
theorem Dm.Ok.bound (h:d.Ok) (w:World):Calls ay 25 #[.agg d.conf.cells.toArray,ah 1] w fun e w'=>e = .returned (ah (d.most:Int))/\Keep none_ w w':=by
 have h1:=h.b;have h2:=h.w;have h3:=h.m;have h4:=h.r;have h5:=h.ce;have h6:=h.l
 exact SQ (s:=d.s) (by omega) (by omega) (by omega) (by omega) (by omega) (by omega) h.most.2 w
structure CI (d:Dm) (w W:World) (o:Ow) (G:Geo) (gs:List MG) (q:CG) (mv:Value) (N:Nat) (x:WS) (κ K:Nat):Prop where
 cw:CW w W o G gs q x
 ok:nV N x
 few:rU x
 mv:iO o W mv gs
 ji:mP d.m d.b d.ce κ x
 regs:∀ (i:Nat) (m:MS),x.muts[i]?=some m->m.regs.length<=d.r
 ww:x.s.H.ww=d.w
 conf:x.s.H.c=d.conf
 dr:kY x.coll
 wish:x.coll.wish=false
 iy:x.coll.cycles=K
 len:gs.length=d.m
theorem CI.still (h:CI d w W o G gs q mv N x κ K) (k:Keep none_ W W'):CI d w W' o G gs q mv N x κ K :=
 ⟨h.cw.rH k,h.ok,h.few,h.mv.keep (I:=[]) k.aQ rfl (aO.refl _ _),h.ji,h.regs,h.ww,h.conf,h.dr,h.wish,h.iy,h.len⟩
theorem CI.made {X:mM} {ma:Option Addr} {mc:Nat} (hd:X.c.little=d.conf) (hcw:CW w W o G gs q (bJ X)) (hok:nV 300 (bJ X)) (hfw:rU (bJ X)) (hmv:iO o W (.slice ma gs.length mc) gs) (hI:CJ X) (hgl:gs.length=X.c.little.m.toNat):CI d w W o G gs q (.slice ma gs.length mc) 300 (bJ X) 0 0:=by
 obtain ⟨i1,i2,i3,i4,i5,i6,i7,i8,i9⟩:=hI
 rw [hd] at i1 i4 i6 i7 hgl
 refine ⟨hcw,hok,hfw,hmv,i1,i4,i6,i7,i8,?_,?_,hgl⟩
 ·rw [i3];rfl
 ·rw [i3];rfl
theorem CI.config (h:CI d w W o G gs q mv N x κ K):Calls ay 26 #[aj (G.D 0)] W fun e w'=>e = .returned (.agg d.conf.cells.toArray)/\Keep none_ W w':=by
 have:=sZ h.cw.coll.sh.heap
 rw [h.conf] at this
 exact this
theorem CI.cycle (h:CI d w W o G gs q mv N x κ K) (hd:d.Ok) (hN:N<=900000000):Calls ay 27 #[aj q.C,mv,ah (d.most:Int)] W fun e W'=>∃ (fv pv:Value) (o':Ow) (z x0:WS) (out ph:List Nat),e = .returned (.tuple #[fv,pv,.bool true])/\CI d w W' o' G gs q mv (N+9000001) z (1 - κ) (K+1)/\CX W o W' o'/\jT 98 o' W' fv out/\jT 99 o' W' pv ph/\xU (eY d.m d.b d.ce κ x) x0 out ph z:=by
 obtain ⟨hm1,hm2⟩:=hd.most
 refine (Ji h.cw h.ok h.few h.mv d.most (by omega)).mono ?_
 rintro e W' ⟨fv,pv,o',rfl,hs⟩
 rw [pU,h.len] at *
 have hI:mP d.m d.b d.ce κ { x with coll:={ x.coll with wish:=true },picks:=x.picks+1 }:=h.ji.congr rfl rfl ⟨rfl,rfl,rfl,rfl,rfl,rfl,rfl,rfl⟩
 obtain ⟨out,ph,z,hr,hc⟩:=Gf hI rfl h.regs d.most (by rw [show ({ x with coll:={ x.coll with wish:=true },picks:=x.picks+1 }:WS).s.H.ww=d.w from h.ww];exact hm1) h.dr
 have hr':fG d.m d.most { x with coll:={ x.coll with wish:=true },picks:=x.picks+1 } [] [x.coll.phase]=(out,ph,true,z):=hr
 rw [hr'] at hs ⊢
 obtain ⟨s1,s2,s3,s4,s5,s6,s7⟩:=hs
 have hk:N+1+d.most*(d.m+1)<=N+9000001:=by
  have h1:d.most*(d.m+1)<=d.most*9:=Nat.mul_le_mul_left _ (by have:=hd.m;omega)
  omega
 refine ⟨fv,pv,o',z,_,out,ph,rfl,⟨s1,s2.more hk,s3,s5,hc.ji,fun i m hm=>?_,hc.geo.2.2.1.trans h.ww,hc.geo.2.2.2.1.trans h.conf,hc.dr ?_,hc.cnt.1,?_,h.len⟩,s4,s6,s7,hc⟩
 ·rw [hc.regs i m hm]
  show (((x.muts[i]?).map MS.regs).getD []).length<=d.r
  cases hx:x.muts[i]? with
  | none=>exact Nat.zero_le _
  | some m'=>exact h.regs i m' hx
 ·refine NG rfl ?_
  have:=Jj h.ji.ph h.dr
  show x.coll.cycles+1<=x.coll.drains+1
  omega
 ·rw [hc.cnt.2,<- h.iy]
  rfl
end
end
section
def fA (j:Nat):Nat->WS->WS
 | 0,x=>x
 | k+1,x=>if k=j then fA j k x else aY (fA j k x) k
def Hg (j n:Nat) (x:WS):WS:=aY (fA j n x) n
def Ez (j n:Nat) (x:WS):Option Ev:=(bD (fA j n x).s (fA j n x).coll).ev
structure oG (p:CP) (R B j:Nat) (x:WS):Prop where
 inv:MInv p x
 at_:∃ m,x.coll.next = .wait m .arm/\m<=j
 pend:x.s.B.pend (j:Int)=true
 ph:x.coll.phase=1
 le:p.rest R x<=B
section
variable {p:CP} {x y z:WS} {m:MS} {i j n R B mu bl ce κ:Nat} {dead:List Nat}
theorem oG.iy (h:oG p R B j x):jD p x [] := .mark h.inv (by obtain ⟨m,e,_⟩:=h.at_;rw [e];exact trivial)
theorem oG.congr (h:oG p R B j x) (hs:y.s=x.s) (hm:y.muts=x.muts) (hc:y.coll=x.coll):oG p R B j y :=
 ⟨h.inv.congr hs hm hc,by rw [hc];exact h.at_,by rw [hs];exact h.pend,by rw [hc];exact h.ph,by rw [show p.rest R y=p.rest R x from uf hs hm hc];exact h.le⟩
theorem oG.mut (g:wP p R) (h:oG p R B j x) (hm:x.muts[i]?=some m) (hij:i≠j):oG p R B j (aY x i):=by
 obtain ⟨u,_,_⟩:=zF (g.inv.Dz g.bl) h.inv hm
 obtain ⟨e1,e2,e3⟩:=mQ x hm
 have h5:=PX (hf:=p.H.ww/2) (R:=R) g.inv g.bl h.iy hm
 have hle:p.phi (p.H.ww/2) R x<=B:=h.le
 refine ⟨(h.inv.mu hm u).congr e1 e2 e3,by rw [e3];exact h.at_,?_,by rw [e3];exact h.ph,?_⟩
 ·rw [(h.iy.pend g hm).1 j (fun e=>hij e.symm)];exact h.pend
 ·show p.phi (p.H.ww/2) R _<=_
  omega
theorem oG.muts (g:wP p R) (h:oG p R B j x):∀ k,k<=p.mu->oG p R B j (fA j k x)
 | 0,_=>h
 | k+1,hk=>by
   have ih:=oG.muts g h k (by omega)
   unfold fA
   by_cases e:k=j
   ·rw [if_pos e];exact ih
   ·rw [if_neg e]
    obtain ⟨m,hm⟩:∃ m,(fA j k x).muts[k]?=some m:=⟨(fA j k x).muts[k]'(by rw [ih.inv.muts];omega),List.getElem?_eq_getElem _⟩
    exact ih.mut g hm e
theorem oG.coll (g:wP p R) (h:oG p R B j x) (hj:j<p.mu):oG p R B j { x with s:=(bD x.s x.coll).s,coll:=(bD x.s x.coll).c }/\(bD x.s x.coll).ev=none:=by
 obtain ⟨m,e,hmj⟩:=h.at_
 obtain ⟨q1,q2⟩:=F7 h.iy
 rw [q1,q2]
 by_cases hp:x.s.B.pend (m:Int)=true
 ·obtain ⟨w1,w2⟩:=Je h.iy e hp
  rw [w1];exact ⟨h,w2⟩
 ·have hne:m≠j:=fun e=>hp (by rw [e];exact h.pend)
  obtain ⟨b1,_,b3,_,b5⟩:=h.iy.bd
  have sV:=vP b1 (b5 m _ e)
  have hp0:x.s.B.pend (m:Int)=false:=by simpa using hp
  have hst:∀ d,d=CD.wait m .arm->stepW x d={ x with coll:={ x.coll with next := .wait (m+1) .arm } }/\(aC x.s x.coll d).ev=none:=fun d e=>by
   rw [e]
   unfold stepW
   simp only [aC]
   rw [sV,hp0,if_neg (by decide),if_pos (by rw [b3];omega)]
   exact ⟨rfl,trivial⟩
  obtain ⟨hs1,hev⟩:=hst _ e
  obtain ⟨gW,ht⟩:=h.iy.step g.inv g.bl x.coll.next rfl
  have hle:=h.iy.le g
  rw [hs1] at ht hle ⊢
  have hc:jD p { x with coll:={ x.coll with next := .wait (m+1) .arm } } []:=by
   cases ht with
   | none h1 h2 h3=>rw [h2] at h3;exact h3
   | marked h1=>rw [hev] at h1;cases h1
   | freed h1=>rw [hev] at h1;cases h1
   | Nv h1=>rw [hev] at h1;cases h1
  have hI:MInv p { x with coll:={ x.coll with next := .wait (m+1) .arm } }:=by
   cases hc with
   | mark h1 h2=>exact h1
   | sweep h1 =>
     have h2:=h1.dD.1
     have h3:=h.ph
     exact absurd (h3.symm.trans h2) (by decide)
  exact ⟨⟨hI,⟨m+1,rfl,by omega⟩,h.pend,h.ph,Nat.le_trans hle h.le⟩,hev⟩
theorem oG.round (g:wP p R) (h:oG p R B j x) (hj:j<p.mu):oG p R B j (Hg j p.mu x)/\Ez j p.mu x=none:=by
 have h1:=h.muts g p.mu (Nat.le_refl _)
 obtain ⟨e1,e2,e3⟩:=vN (fA j p.mu x) h1.inv.muts
 obtain ⟨h2,h3⟩:=h1.coll g hj
 exact ⟨h2.congr e1 e2 e3,h3⟩
theorem oG.objs (h:oG p R B j x):x.s.H.objs=p.H.objs:=by
 obtain ⟨f,e⟩:=h.inv.heap
 rw [e];rfl
theorem oG.ends (g:wP p R) (h:oG p R B j x) {f:Nat} (hf:B+1<=f):∃ out ph z,fG p.mu f x [] [x.coll.phase]=(out,ph,true,z):=by
 have hp:=h.ph
 have hle:=h.le
 obtain ⟨out,ph,z,e,_⟩:=zM g (x0:=x) f x [] [x.coll.phase] h.iy (by omega) (vM.one (by omega)) rfl ⟨rfl,rfl⟩ (fun h=>h)
 exact ⟨out,ph,z,e⟩
theorem mP.aaS (h:mP mu bl ce κ x) (j:Nat):∀ k,k<=mu->mP mu bl ce κ (fA j k x)/\(fA j k x).s=x.s/\(fA j k x).coll=x.coll/\∀ i:Nat,((fA j k x).muts[i]?).map MS.regs=(x.muts[i]?).map MS.regs
 | 0,_=>⟨h,rfl,rfl,fun _=>rfl⟩
 | k+1,hk=>by
   obtain ⟨h1,h2,h3,h4⟩:=mP.aaS h j k (by omega)
   by_cases ej:k=j
   ·have e:fA j (k+1) x=fA j k x:=by
     show (if k=j then _ else _)=_
     rw [if_pos ej]
    rw [e]
    exact ⟨h1,h2,h3,h4⟩
   ·have e0:fA j (k+1) x=aY (fA j k x) k:=by
     show (if k=j then _ else _)=_
     rw [if_neg ej]
    rw [e0]
    obtain ⟨m,hm⟩:∃ m,(fA j k x).muts[k]?=some m:=⟨(fA j k x).muts[k]'(by rw [h1.muts];omega),List.getElem?_eq_getElem _⟩
    have hlt:=(List.getElem?_eq_some_iff.1 hm).1
    obtain ⟨e,h5⟩:=h1.Ci hm
    obtain ⟨e1,e2,e3⟩:=mQ (fA j k x) hm
    rw [e] at e1 e2
    refine ⟨h5.congr e1 e2 (by rw [e3];exact ⟨rfl,rfl,rfl,rfl,rfl,rfl,rfl,rfl⟩),e1.trans h2,e3.trans h3,fun i=>?_⟩
    rw [e2,<- h4 i]
    by_cases ei:i=k
    ·subst ei
     rw [List.getElem?_set_self hlt,hm];rfl
    ·rw [List.getElem?_set_ne (fun e=>ei e.symm)]
theorem mP.sil (h:mP mu bl ce κ x) (hw:x.coll.wish=true) (hR:∀ (i:Nat) (m:MS),x.muts[i]?=some m->m.regs.length<=R) (hj:j<mu):wP (eY mu bl ce κ x) R/\oG (eY mu bl ce κ x) R (mW mu bl ce R (x.s.H.ww/2)) j (Hg j mu x)/\Ez j mu x=some (x.coll.ev 2 (x.coll.cycles+1)):=by
 obtain ⟨h1,h2,h3,h4⟩:=h.aaS j mu (Nat.le_refl _)
 have hcp:eY mu bl ce κ (fA j mu x)=eY mu bl ce κ x:=by
  unfold eY
  rw [h2]
  have:(fun i=>(((fA j mu x).muts[i]?).map MS.regs).getD [])=fun i=>((x.muts[i]?).map MS.regs).getD []:=funext fun i=>by rw [h4 i]
  rw [this]
 have hR2:∀ (i:Nat) (m:MS),(fA j mu x).muts[i]?=some m->m.regs.length<=R:=fun i m hm=>by
  have:=h4 i
  rw [hm] at this
  cases hx:x.muts[i]? with
  | none=>rw [hx] at this;cases this
  | some m' =>
    rw [hx] at this
    simp at this
    rw [this]
    exact hR i m' hx
 obtain ⟨g,hb⟩:=h1.bound hR2
 obtain ⟨s1,s2,s3,s4,s5⟩:=h1.start
 rw [hcp] at g hb s1 s2
 rw [h2] at hb
 obtain ⟨e1,e2,e3⟩:=vN (fA j mu x) h1.muts
 have hpc:bD (fA j mu x).s (fA j mu x).coll=⟨(gK (fA j mu x).s (fA j mu x).coll).s,{ (gK (fA j mu x).s (fA j mu x).coll).c with next:=(gK (fA j mu x).s (fA j mu x).coll).next },(gK (fA j mu x).s (fA j mu x).coll).next,(gK (fA j mu x).s (fA j mu x).coll).ev⟩:=by
  unfold bD
  rw [h1.nx,if_neg (by decide),if_pos (by rw [h3];exact hw)]
 rw [hpc] at e1 e3
 have hS:oG (eY mu bl ce κ x) R (mW mu bl ce R (x.s.H.ww/2)) j (jh (fA j mu x)):=by
  refine ⟨s1,⟨0,rfl,Nat.zero_le _⟩,?_,rfl,hb⟩
  obtain ⟨_,b2,_⟩:=h1.bd.ask h1.Vo 1
  have:=b2 j
  rw [decide_eq_true hj] at this
  exact this
 refine ⟨g,hS.congr e1 e2 e3,?_⟩
 show (bD (fA j mu x).s (fA j mu x).coll).ev=_
 rw [hpc,<- h3]
 exact s3
end
end
end Go.Proofs.YtanfphjoebobaaaGreatDoor
