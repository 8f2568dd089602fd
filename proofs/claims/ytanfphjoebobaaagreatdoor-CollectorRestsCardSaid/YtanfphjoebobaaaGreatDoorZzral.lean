/- Parts of a walk, put together and made shorter by a small program of mine. No conditions but those that each theorem names. -/
import Derived.Test.YtanfphjoebobaaaGreatDoorZzrak
import Derived.Test.YtanfphjoebobaaaGreatDoorZzrai
import Derived.MakeChecks
import Derived.Test.YtanfphjoebobaaaGreatDoorZzrag
namespace Go.Proofs.YtanfphjoebobaaaGreatDoor
section
open Go.RowKit
attribute [local go_sem] Oper.semAt_some
attribute [local go_sem ↓] app9_of
section
variable {o o' o0:Ow} {w w' W W' W0:World} {G:Geo} {gs:List MG} {q:CG} {y:WS} {x:StP} {v:Value} {N i n:Nat} {l:List Nat} {I:List Nat} {e:Ending}
theorem madeP_few (x:StP):fewW (madeP x):=by
 have key:∀ f (y:WS),fewW y→fewW (runD f y):=fun f=>by
  induction f with
  | zero=>intro y h;exact h
  | succ f ih =>
    intro y h
    unfold runD
    split
    ·exact h
    ·split
     ·exact h
     ·exact ih _ (few_pickW h 0)
 exact key 300 _ (madeK_few _ _ _)
theorem MadeR.get (h:MadeR w x e w') (hr:x.rg.length≤20):∃ (o:Ow) (G:Geo) (q:CG) (gs:List MG) (ma:Option Addr) (mc:Nat) (a:Option Addr) (c:Nat),e = .returned (.tuple #[.pointer (some ⟨G.S,0,none⟩),.pointer (some ⟨q.C,0,none⟩),.slice ma gs.length mc,.slice a (madeO x).length c]) ∧
 CW w w' o G gs q (madeP x)∧WOk 300 (madeP x)∧fewW (madeP x)∧MutsV o w' (.slice ma gs.length mc) gs∧RowO o w' 3 (.slice a (madeO x).length c) (tabV (madeO x))∧MadeI x∧gs.length=x.c.little.m.toNat:=by
 obtain ⟨o,G,q,gs,mv,a,c,rfl,h1,h2,h3,h4⟩:=h
 obtain ⟨ma,mc,rfl,_⟩:=h3.form
 have hI:=madeP_idl x hr h1.coll.sh.heap.inv
 exact ⟨o,G,q,gs,ma,mc,a,c,rfl,h1,h2,madeP_few x,h3,h4,hI,h1.len.trans hI.idl.muts⟩
theorem IntsV.cells {a:Option Addr} {c:Nat} (h:IntsV i o W (.slice a l.length c) l):IntCells .i64 W a l.length (l.map fun x:Nat=>(x:Int)):=by
 have e:tabV l=(l.map fun x:Nat=>(x:Int)).map (Value.int .i64):=by simp [tabV]
 have h1:=h.1
 rw [e] at h1
 obtain ⟨a',c',ee,hi,_⟩:=IntCells.ofOwn' h1
 cases ee
 exact hi
theorem awZ_eq (hn:n=1):cycRun n 3000 (pickW (madeP awX) ((madeP awX).muts.length+1)) [] [(madeP awX).coll.phase]=awZ:=by
 rw [hn,wishW_eq]
 have hc:(madeP awX).coll.phase=0:=by
  obtain ⟨g,_⟩:=madeP_get awX (by decide)
  rw [g.coll];rfl
 rw [hc];rfl
set_option maxRecDepth 8000 in
set_option maxHeartbeats 8000000 in
theorem awake21_any (hL:Laid w):Calls Tryz.prog 10 #[] w fun e w'=>e = .returned (.bool true)∧Keep none_ w w':=by
 obtain ⟨W1,hW1⟩:∃ W1,W1=((w.alloc (.cells #[.int .u8 1,.int .u8 1] 5)).alloc (.cells #[.int .u8 1] 5)).alloc (.cells #[.int .i64 0,.int .i64 0,.int .i64 0,.int .i64 0,.int .i64 1,.int .i64 0,.int .i64 0,.slice (some ⟨w.heap.size,0,none⟩) 2 2,.slice none 0 0,.slice (some ⟨w.heap.size+1,0,none⟩) 1 1,.slice none 0 0] 26):=⟨_,rfl⟩
 have ka:Keep none_ w (w.alloc (.cells #[.int .u8 1,.int .u8 1] 5)):=(Keep.refl _ _).alloc _
 have kb:Keep none_ w ((w.alloc (.cells #[.int .u8 1,.int .u8 1] 5)).alloc (.cells #[.int .u8 1] 5)):=ka.alloc _
 have k1:Keep none_ w W1:=by rw [hW1];exact kb.alloc _
 have hb1:Blk W1 w.heap.size [.int .u8 1,.int .u8 1] 5:=by rw [hW1];exact ((Blk.new w [.int .u8 1,.int .u8 1] 5).alloc _).alloc _
 have hb2:Blk W1 (w.heap.size+1) [.int .u8 1] 5:=by
  have:=(Blk.new (w.alloc (.cells #[.int .u8 1,.int .u8 1] 5)) [.int .u8 1] 5).alloc (.cells #[.int .i64 0,.int .i64 0,.int .i64 0,.int .i64 0,.int .i64 1,.int .i64 0,.int .i64 0,.slice (some ⟨w.heap.size,0,none⟩) 2 2,.slice none 0 0,.slice (some ⟨w.heap.size+1,0,none⟩) 1 1,.slice none 0 0] 26)
  have hsz:∀ X:Obj,(w.alloc X).heap.size=w.heap.size+1:=fun X=>by simp
  rw [hsz] at this
  rw [hW1];exact this
 have hst:StAt W1 awX (some ⟨w.heap.size,0,none⟩) none (some ⟨w.heap.size+1,0,none⟩) none 2 0 1 0:=by
  refine ⟨⟨⟨rfl,fun _=>⟨_,0,rfl,fun j hj=>?_⟩⟩,by decide⟩,⟨⟨rfl,fun h=>absurd h (Nat.lt_irrefl 0)⟩,fun x hx=>by cases hx⟩,⟨⟨rfl,fun _=>⟨_,0,rfl,fun j hj=>?_⟩⟩,by decide⟩,⟨⟨rfl,fun h=>absurd h (Nat.lt_irrefl 0)⟩,fun x hx=>by cases hx⟩⟩
  ·rcases (by omega:j=0∨j=1) with rfl|rfl
   ·exact hb1.cell 0 rfl
   ·exact hb1.cell 1 rfl
  ·obtain rfl:j=0:=by omega
   exact hb2.cell 0 rfl
 have HMD:Hid (Calls Tryz.prog 11 #[startV awX.c (some ⟨w.heap.size,0,none⟩) none (some ⟨w.heap.size+1,0,none⟩) none 2 0 1 0 2 0 1 0] W1 (MadeR W1 awX)):=made_any (hL.still k1) hst (by omega) (by omega) (by omega) (by omega)
 have HK1:=Lib.hid k1
 have HW1:=Lib.hid hW1
 clear hW1 ka kb k1 hb1 hb2 hst hL
 go_enter Tryz.func10,Tryz.ntmps10
 go_wp2_with fail
 rw [← HW1.out]
 refine HMD.out.mono ?_
 intro e2 w2 hm
 obtain ⟨o,G,q,gs,ma,mc,a,c,rfl,hcw,hok,hfw,hmv,hrow,hI,hgl⟩:=hm.get (by decide)
 rw [awX_objs] at hrow
 have hl2:(madeO awX).length=2:=by rw [awX_objs];rfl
 rw [hl2]
 have HCY:Hid (Calls Tryz.prog 27 #[.pointer (some ⟨q.C,0,none⟩),.slice ma gs.length mc,.int .i64 (3000:Int)] w2 fun e w'=>∃ (fa pa:Option Addr) (fc pl pc:Nat),e = .returned (.tuple #[.slice fa 1 fc,.slice pa pl pc,.bool true])∧IntCells .i64 w' fa 1 [3]∧Keep none_ W1 w'∧w'.cell? ⟨G.S,0,none⟩=some (.pointer (some ⟨G.D 0,0,none⟩))∧∀ W,Keep none_ w' W→Calls Tryz.prog 33 #[.pointer (some ⟨G.D 0,0,none⟩),.int .i64 1] W fun e w''=>e = .returned (.bool true)∧W=w''):=by
  refine (cycle_any hcw hok hfw hmv 3000 (by omega)).mono ?_
  rintro e w' ⟨fv,pv,o',rfl,hs⟩
  rw [awZ_eq (hgl.trans rfl)] at hs ⊢
  obtain ⟨z1,z2,z3⟩:=awX_run
  rw [z1,z2] at *
  obtain ⟨fa,fc,rfl,_⟩:=hs.f.form
  obtain ⟨pa,pc,rfl,_⟩:=hs.p.form
  refine ⟨fa,pa,fc,_,pc,rfl,hs.f.cells,hs.cw.keep,hs.cw.coll.sh.sCells.1,?_⟩
  intro W kW
  have:=hIs_any (hs.cw.coll.sh.heap.still kW) 1
  rw [z3] at this
  exact this
 clear hm hcw hok hfw hmv hrow hI hgl hl2
 go_wp2_with fail
 refine HCY.out.mono ?_
 rintro e w5 ⟨fa,pa,fc,pl,pc,rfl,hF,k5,hS,hIS⟩
 obtain ⟨W6,hW6⟩:∃ W6,W6=w5.alloc (.cells #[.int .i64 3] 3):=⟨_,rfl⟩
 have k6:Keep none_ w5 W6:=by rw [hW6];exact (Keep.refl _ _).alloc _
 have hb6:Blk W6 w5.heap.size [.int .i64 3] 3:=by rw [hW6];exact Blk.new w5 _ _
 have hI6:IntCells .i64 W6 (some ⟨w5.heap.size,0,none⟩) 1 [3]:=⟨rfl,fun _=>⟨_,0,rfl,fun j hj=>by
  obtain rfl:j=0:=by omega
  exact hb6.cell 0 rfl⟩⟩
 have HSM:Hid (Calls Tryz.prog 22 #[.slice fa 1 fc,.slice (some ⟨w5.heap.size,0,none⟩) 1 1] W6 fun e w'=>e = .returned (.bool true)∧Keep none_ W6 w'):=by
  refine (same_any fa (some ⟨w5.heap.size,0,none⟩) 1 1 fc 1 [3] [3] W6 (hF.below k6) hI6 (by omega) (by omega)).mono ?_
  rintro e w' ⟨rfl,k⟩
  exact ⟨rfl,k⟩
 have HIS:Hid (∀ W,Keep none_ W6 W→Calls Tryz.prog 33 #[.pointer (some ⟨G.D 0,0,none⟩),.int .i64 1] W fun e w''=>e = .returned (.bool true)∧W=w''):=fun W kW=>hIS W (k6.trans kW)
 have HS:Hid (∀ W,Keep none_ W6 W→W.cell? ⟨G.S,0,none⟩=some (.pointer (some ⟨G.D 0,0,none⟩))):=fun W kW=>kW.still (k6.still hS)
 have HK6:Hid (Keep none_ w W6):=HK1.out.trans (k5.trans k6)
 have HW6:=Lib.hid hW6
 clear hF k5 hIS HCY HW1 HK1 HMD hS hW6 k6 hb6 hI6
 go_wp2_with fail
 rw [← HW6.out]
 refine HSM.out.mono ?_
 rintro e w7 ⟨rfl,k7⟩
 have hS7:=HS.out w7 k7
 have HIS7:=Lib.hid (HIS.out w7 k7)
 have HK7:Hid (Keep none_ w w7):=HK6.out.trans k7
 clear HS HIS HK6 HW6 HSM k7
 go_wp2_with fail
 refine HIS7.out.mono ?_
 rintro e w8 ⟨rfl,rfl⟩
 clear HIS7 hS7
 go_wp2_with fail
 go_ret
 exact ⟨rfl,HK7.out⟩
end
end
section
open Go.RowKit Go.ChangeShapes Go.WideShapes Go.Deep
theorem list11 {α:Type} {l:List α} (h:l.length=11):∃ a b c d e f g s1 s2 s3 s4,l=[a,b,c,d,e,f,g,s1,s2,s3,s4]:=by
 match l,h with
 | [a,b,c,d,e,f,g,s1,s2,s3,s4],_=>exact ⟨a,b,c,d,e,f,g,s1,s2,s3,s4,rfl⟩
theorem U8s.ofInts {w:World} {a:Option Addr} {n:Nat} {zs:List Int} (h:Ints .u8 w a n zs):U8s w a n (zs.map Int.toNat):=by
 have hz:∀ z∈zs,0≤z∧z<256:=fun z hz=>by
  obtain ⟨i,hi,rfl⟩:=List.mem_iff_getElem.1 hz
  have:=h.bound i (by have:=h.len;omega)
  rw [List.getD_eq_getElem?_getD,List.getElem?_eq_getElem hi] at this
  have m1:IntKind.u8.min=0:=rfl
  have m2:IntKind.u8.max=255:=rfl
  simp [Lit.wf] at this
  omega
 have e:(zs.map Int.toNat).map (fun x:Nat=>(x:Int))=zs:=by
  rw [List.map_map]
  conv=>rhs;rw [← List.map_id zs]
  exact List.map_congr_left (fun z hm=>by have:=hz z hm;show ((z.toNat:Nat):Int)=z;omega)
 refine ⟨by rw [e];exact h.cells,fun x hx=>?_⟩
 obtain ⟨z,hm,rfl⟩:=List.mem_map.1 hx
 have:=hz z hm
 omega
section
variable {H:Type} {enc:TypeId × Value→H} {P:Program} {w:World} {base:Nat} {held:Bool}
theorem u8s_open {t e:TypeId} {fuel:Nat} {v:Value} {x:DataW H × List MemPlace} (ht:P.underlying t=some (.slice e)) (he:P.underlying e=some (.int .u8)) (hc:P.cellsOf e=1) (h:DataW.trod enc P w base (fun _=>true) held fuel t [v]=some x):∃ a n c l,v = .slice a n c∧U8s w a n l:=by
 rcases open_ints ht he hc h with ⟨hcs,_⟩|⟨x,l,c,zs,hcs,_,hl,hm,hz,_,hcell,hwz⟩
 ·simp at hcs
  exact ⟨none,0,0,[],hcs,⟨⟨rfl,fun h=>absurd h (Nat.lt_irrefl 0)⟩,fun x hx=>by cases hx⟩⟩
 ·simp at hcs
  exact ⟨some x,l,c,_,hcs,U8s.ofInts (Ints.ofRow hl (by simpa using hz) hcell hwz)⟩
theorem start_open {r:Reach} {b0:Nat} {t e:TypeId} {fs:Array Field} {f0 f1 f2 f3 f4:Field} {v:Value} {d:DataW H} {p:List MemPlace} (hs:P.underlying t=some (.struct fs)) (e0:fs[0]?=some f0) (e1:fs[1]?=some f1) (e2:fs[2]?=some f2) (e3:fs[3]?=some f3) (e4:fs[4]?=some f4)
 (o:f0.offset=0∧f1.offset=7∧f2.offset=8∧f3.offset=9∧f4.offset=10) (k0:flat P 9 f0.type=some [.int .i64,.int .i64,.int .i64,.int .i64,.int .i64,.int .i64,.int .i64]) (c0:P.cellsOf f0.type=7)
 (u:P.underlying f1.type=some (.slice e)) (c1:P.cellsOf f1.type=1) (ty:f2.type=f1.type∧f3.type=f1.type∧f4.type=f1.type) (ue:P.underlying e=some (.int .u8)) (ce:P.cellsOf e=1) (ct:P.cellsOf t=11)
 (hv:Value.okWide P w r b0 t v) (h:DataW.Trod enc P w base (fun _=>true) held t v d p):∃ (x:StP) (a1 a2 a3 a4:Option Addr) (n1 n2 n3 n4 p1 p2 p3 p4:Nat),v=startV x.c a1 a2 a3 a4 n1 n2 n3 n4 p1 p2 p3 p4∧StAt w x a1 a2 a3 a4 n1 n2 n3 n4:=by
 obtain ⟨cs,rfl,hsz⟩:=okWide_struct hs hv
 obtain ⟨fuel,hf⟩:=h
 obtain ⟨xs,n,_,_,hl,hxl,hfl⟩:=DataW.trod_struct hs hf
 rw [ct] at hl
 obtain ⟨o0,o1,o2,o3,o4⟩:=o
 obtain ⟨t2,t3,t4⟩:=ty
 have hl':cs.toList.length=11:=hl
 obtain ⟨q0,q1,q2,q3,q4,q5,q6,s1,s2,s3,s4,hc⟩:=list11 hl'
 have hlt:∀ (i:Nat) (f:Field),fs[i]?=some f→∃ x,DataW.trod enc P w base (fun _=>true) held n f.type ((cs.toList.drop f.offset).take (P.cellsOf f.type))=some x:=fun i f hi=>by
  have hlt:i<xs.length:=by rw [hxl];exact (Array.getElem?_eq_some_iff.1 hi).1
  exact ⟨xs[i],by
   have:=hfl i f hi
   rw [List.getElem?_eq_getElem hlt] at this
   exact this⟩
 obtain ⟨x0,g0⟩:=hlt 0 f0 e0
 obtain ⟨x1,g1⟩:=hlt 1 f1 e1
 obtain ⟨x2,g2⟩:=hlt 2 f2 e2
 obtain ⟨x3,g3⟩:=hlt 3 f3 e3
 obtain ⟨x4,g4⟩:=hlt 4 f4 e4
 rw [hc,o0,c0] at g0
 rw [hc,o1,c1] at g1
 rw [hc,o2,t2,c1] at g2
 rw [hc,o3,t3,c1] at g3
 rw [hc,o4,t4,c1] at g4
 have hF:=flat_ok 9 n _ _ _ _ g0 k0
 obtain ⟨a1,n1,p1,l1,hs1,hu1⟩:=u8s_open u ue ce g1
 obtain ⟨a2,n2,p2,l2,hs2,hu2⟩:=u8s_open u ue ce g2
 obtain ⟨a3,n3,p3,l3,hs3,hu3⟩:=u8s_open u ue ce g3
 obtain ⟨a4,n4,p4,l4,hs4,hu4⟩:=u8s_open u ue ce g4
 obtain ⟨v0,w0,z0,r0,_⟩:=hF.at_ 0 (.int .i64) rfl
 obtain ⟨v1,w1,z1,r1,_⟩:=hF.at_ 1 (.int .i64) rfl
 obtain ⟨v2,w2,z2,r2,_⟩:=hF.at_ 2 (.int .i64) rfl
 obtain ⟨v3,w3,z3,r3,_⟩:=hF.at_ 3 (.int .i64) rfl
 obtain ⟨v4,w4,z4,r4,_⟩:=hF.at_ 4 (.int .i64) rfl
 obtain ⟨v5,w5,z5,r5,_⟩:=hF.at_ 5 (.int .i64) rfl
 obtain ⟨v6,w6,z6,r6,_⟩:=hF.at_ 6 (.int .i64) rfl
 refine ⟨⟨⟨z0,z1,z2,z3,z4,z5,z6⟩,l1,l2,l3,l4⟩,a1,a2,a3,a4,n1,n2,n3,n4,p1,p2,p3,p4,?_,⟨hu1,hu2,hu3,hu4⟩⟩
 have e:cs=#[q0,q1,q2,q3,q4,q5,q6,s1,s2,s3,s4]:=by
  have:=congrArg List.toArray hc
  simpa using this
 have w0':some q0=some v0:=w0
 have w1':some q1=some v1:=w1
 have w2':some q2=some v2:=w2
 have w3':some q3=some v3:=w3
 have w4':some q4=some v4:=w4
 have w5':some q5=some v5:=w5
 have w6':some q6=some v6:=w6
 cases w0';cases w1';cases w2';cases w3';cases w4';cases w5';cases w6'
 rw [e,r0,r1,r2,r3,r4,r5,r6,hs1,hs2,hs3,hs4]
end
end
section
open Go.RowKit
attribute [local go_sem] Oper.semAt_some
theorem tabB_of9 {rest : List (String × DataW Unit)} {w : World} (h : laidMet Tryz.prog (("math/bits.deBruijn64tab", Rows.laid_math_bits_deBruijn64tab) :: rest) w) : TabB w := by
 obtain ⟨ps,⟨g,t,cs,fuel,p,q,hg,ht,hvar,hd,_,_⟩,_⟩:=h
 obtain rfl : 1 = g := Option.some.inj ((show Tryz.prog.globalNamed "math/bits.deBruijn64tab" = some 1 by kernel_rfl).symm.trans hg)
 obtain rfl:214=t:=Option.some.inj ((show (Tryz.prog.globals[1]?).map (·.type)=some 214 by kernel_rfl).symm.trans ht)
 obtain ⟨cs,rfl⟩:∃ l:List Value,cs=l.toArray:=⟨cs.toList,by simp⟩
 have e:cs=(Lib.deBruijn64tab.map fun x:Nat=>(x:Int)).map (Value.int .u8):=Lib.cells_of_tab (zs:=Lib.deBruijn64tab.map fun x:Nat=>(x:Int)) (show Tryz.prog.underlying 214=some (.array 64 5) by kernel_rfl) (show Tryz.prog.underlying 5=some (.int .u8) by kernel_rfl) (by kernel_rfl) (by kernel_rfl) hd
 intro j hj
 rw [World.var?_cell (P:=Tryz.prog) hg hvar j,e]
 rw [List.getD_eq_getElem?_getD,List.getElem?_eq_getElem hj]
 simp [hj]
theorem laid_of {rest : List (String × DataW Unit)} {w : World} (h : laidMet Tryz.prog (("math/bits.deBruijn64tab", Rows.laid_math_bits_deBruijn64tab) :: ("dustpan/config.limits", Rows.laid_dustpan_config_limits) :: ("dustpan/class.sizes", Rows.laid_dustpan_class_sizes) :: ("dustpan/op.kinds", Rows.laid_dustpan_op_kinds) :: rest) w) : Laid w := by
 have hb:=tabB_of9 h
 have h1:=laidMet.tail h
 have hl:=lim_of h1
 have hs:=sizes_of (laidMet.tail h1)
 have hk:=kind_of (laidMet.tail (laidMet.tail h1))
 refine ⟨⟨hl,hk⟩,hs,hb,?_,?_,?_⟩
 ·exact World.block_lt_of_cell? _ _ (hl 0 _ rfl)
 ·exact World.block_lt_of_cell? _ _ (hk 0 _ rfl)
 ·exact World.block_lt_of_cell? _ _ (hs 0 _ rfl)
def greatB (n1 n2 n3 n4:Nat):Bool:=decide (30<n1)||decide (100<n2)||decide (20<n3)||decide (20<n4)
theorem greatB_no {n1 n2 n3 n4:Nat} (h:greatB n1 n2 n3 n4=false):n1≤30∧n2≤100∧n3≤20∧n4≤20:=by
 unfold greatB at h
 simp only [Bool.or_eq_false_iff,decide_eq_false_iff_not] at h
 omega
section
variable {w:World} {c:Conf} {a1 a2 a3 a4:Option Addr} {n1 n2 n3 n4 p1 p2 p3 p4:Nat}
set_option maxRecDepth 8000 in
set_option maxHeartbeats 4000000 in
theorem great_any (c:Conf) (a1 a2 a3 a4:Option Addr) (n1 n2 n3 n4 p1 p2 p3 p4:Nat) (w:World):Calls Tryz.prog 9 #[startV c a1 a2 a3 a4 n1 n2 n3 n4 p1 p2 p3 p4] w fun e w'=>e = .returned (.bool (greatB n1 n2 n3 n4))∧Keep none_ w w':=by
 obtain ⟨W0,hW0⟩:∃ W0,W0=w.alloc (.cells #[.int .i64 c.b,.int .i64 c.w,.int .i64 c.m,.int .i64 c.r,.int .i64 c.c,.int .i64 c.l,.int .i64 c.s,.slice a1 n1 p1,.slice a2 n2 p2,.slice a3 n3 p3,.slice a4 n4 p4] 26):=⟨_,rfl⟩
 have k0:Keep none_ w W0:=by rw [hW0];exact (Keep.refl _ _).alloc _
 have hb:Blk W0 w.heap.size [.int .i64 c.b,.int .i64 c.w,.int .i64 c.m,.int .i64 c.r,.int .i64 c.c,.int .i64 c.l,.int .i64 c.s,.slice a1 n1 p1,.slice a2 n2 p2,.slice a3 n3 p3,.slice a4 n4 p4] 26:=by rw [hW0];exact Blk.new w _ _
 have y7:=hb.cell 7 rfl;have y8:=hb.cell 8 rfl;have y9:=hb.cell 9 rfl;have y10:=hb.cell 10 rfl
 have HK0:=Lib.hid k0
 rw [hW0] at y7 y8 y9 y10
 rw [hW0] at HK0
 unfold greatB
 clear hb hW0 k0
 by_cases h1:30<n1
 ·have hI:(30:Int)<(n1:Int):=by omega
  rw [decide_eq_true h1]
  go_enter Tryz.func9,Tryz.ntmps9
  go_wp2_with fail
  go_ret
  exact ⟨rfl,HK0.out⟩
 ·have hI:¬ (30:Int)<(n1:Int):=by omega
  rw [decide_eq_false h1]
  by_cases h2:100<n2
  ·have hI2:(100:Int)<(n2:Int):=by omega
   rw [decide_eq_true h2]
   go_enter Tryz.func9,Tryz.ntmps9
   go_wp2_with fail
   go_ret
   exact ⟨rfl,HK0.out⟩
  ·have hI2:¬ (100:Int)<(n2:Int):=by omega
   rw [decide_eq_false h2]
   by_cases h3:20<n3
   ·have hI3:(20:Int)<(n3:Int):=by omega
    rw [decide_eq_true h3]
    go_enter Tryz.func9,Tryz.ntmps9
    go_wp2_with fail
    go_ret
    exact ⟨rfl,HK0.out⟩
   ·have hI3:¬ (20:Int)<(n3:Int):=by omega
    rw [decide_eq_false h3]
    by_cases h4:20<n4
    ·have hI4:(20:Int)<(n4:Int):=by omega
     rw [decide_eq_true h4]
     go_enter Tryz.func9,Tryz.ntmps9
     go_wp2_with fail
     go_ret
     exact ⟨rfl,HK0.out⟩
    ·have hI4:¬ (20:Int)<(n4:Int):=by omega
     rw [decide_eq_false h4]
     go_enter Tryz.func9,Tryz.ntmps9
     go_wp2_with fail
     go_ret
     exact ⟨rfl,HK0.out⟩
end
end
section
open Go.RowKit
attribute [local go_sem] Oper.semAt_some
section
variable {o o' o0:Ow} {w w' W W' W0:World} {G:Geo} {gs:List MG} {q:CG} {y:WS} {v:Value} {N i n:Nat} {l:List Nat}
theorem pickC_idle {s:Sh} {c:CS} (h1:c.next = .nil) (h2:c.wish=false):pickC s c=⟨s,c,.nil,none⟩:=by
 unfold pickC
 rw [h1,if_neg (by decide),h2,if_neg (by decide),← h1]
theorem RowO.ints {a:Option Addr} {c:Nat} (h:RowO o W 3 (.slice a l.length c) (tabV l)):IntCells .i64 W a l.length (l.map fun x:Nat=>(x:Int))∧l.length≤4000000000000:=by
 obtain ⟨a',c',e,hl,hm,hc⟩:=h.form
 have hlen:(tabV l).length=l.length:=by simp [tabV]
 rw [hlen] at e
 cases e
 rw [hlen] at hm
 refine ⟨⟨by simp,fun h0=>?_⟩,hm⟩
 have h1:∀ j,j<l.length→(tabV l)[j]?=some (.int .i64 ((l.map fun x:Nat=>(x:Int)).getD j 0)):=fun j hj=>by
  unfold tabV
  rw [List.getElem?_map,List.getD_eq_getElem?_getD,List.getElem?_map,List.getElem?_eq_getElem hj]
  rfl
 obtain ⟨b,off,e1,_⟩:=hc 0 _ (h1 0 h0)
 refine ⟨b,off,e1,fun j hj=>?_⟩
 obtain ⟨b',off',e2,h2⟩:=hc j _ (h1 j hj)
 rw [e1] at e2
 cases e2
 exact h2
set_option maxRecDepth 100000 in
set_option maxHeartbeats 16000000 in
theorem collectorRests_any (x:StP) (a1 a2 a3 a4:Option Addr) (n1 n2 n3 n4 p1 p2 p3 p4:Nat) (k:Int) (w:World) (h:StAt w x a1 a2 a3 a4 n1 n2 n3 n4) (hk:(Lit.int .u8 k).wf=true) (hL:laidMetH Tryz.prog Rows.collectorRestsRow.laid w) :
 Calls Tryz.prog 3 #[startV x.c a1 a2 a3 a4 n1 n2 n3 n4 p1 p2 p3 p4,.int .u8 k] w fun e w'=>e = .returned (.bool true)∧Keep none_ w w':=by
 have hL' : laidMetH Tryz.prog [("math/bits.deBruijn64tab", Rows.laid_math_bits_deBruijn64tab), ("dustpan/config.limits", Rows.laid_dustpan_config_limits), ("dustpan/class.sizes", Rows.laid_dustpan_class_sizes), ("dustpan/op.kinds", Rows.laid_dustpan_op_kinds)] w := hL
 rw [MakeChecks.laidMetH_plain _ _ _ (by kernel_rfl)] at hL'
 have HLA:=Lib.hid (laid_of hL')
 clear hL hL'
 obtain ⟨kk,rfl,hkk⟩:∃ m:Nat,k=(m:Int)∧m≤255:=by
  simp [Lit.wf] at hk
  have h1:IntKind.u8.min=0:=by decide
  have h2:IntKind.u8.max=255:=by decide
  exact ⟨k.toNat,by omega,by omega⟩
 clear hk
 obtain ⟨W0,hW0⟩:∃ W0,W0=w.alloc (.cells #[.int .i64 x.c.b,.int .i64 x.c.w,.int .i64 x.c.m,.int .i64 x.c.r,.int .i64 x.c.c,.int .i64 x.c.l,.int .i64 x.c.s,.slice a1 n1 p1,.slice a2 n2 p2,.slice a3 n3 p3,.slice a4 n4 p4] 26):=⟨_,rfl⟩
 have k0:Keep none_ w W0:=by rw [hW0];exact (Keep.refl _ _).alloc _
 have hb0:Blk W0 w.heap.size [.int .i64 x.c.b,.int .i64 x.c.w,.int .i64 x.c.m,.int .i64 x.c.r,.int .i64 x.c.c,.int .i64 x.c.l,.int .i64 x.c.s,.slice a1 n1 p1,.slice a2 n2 p2,.slice a3 n3 p3,.slice a4 n4 p4] 26:=by rw [hW0];exact Blk.new w _ _
 have HW0:=Lib.hid hW0
 have HK0:=Lib.hid k0
 have HB0:=Lib.hid hb0
 have HST:=Lib.hid h
 clear hW0 k0 hb0 h
 go_enter Tryz.func3,Tryz.ntmps3
 go_wp2_with fail
 rw [← HW0.out]
 refine (great_any x.c a1 a2 a3 a4 n1 n2 n3 n4 p1 p2 p3 p4 W0).mono ?_
 rintro e w1 ⟨rfl,k1⟩
 have HK1:Hid (Keep none_ w w1):=HK0.out.trans k1
 have HB1:Hid (Blk w1 w.heap.size [.int .i64 x.c.b,.int .i64 x.c.w,.int .i64 x.c.m,.int .i64 x.c.r,.int .i64 x.c.c,.int .i64 x.c.l,.int .i64 x.c.s,.slice a1 n1 p1,.slice a2 n2 p2,.slice a3 n3 p3,.slice a4 n4 p4] 26):=k1.blk HB0.out (fun f=>f)
 clear k1 HK0 HB0 HW0
 have HAW:Hid (Calls Tryz.prog 10 #[] w1 fun e w'=>e = .returned (.bool true)∧Keep none_ w1 w'):=awake21_any (HLA.out.still HK1.out)
 cases hg:greatB n1 n2 n3 n4 with
 | true =>
   go_wp2_with fail
   refine HAW.out.mono ?_
   rintro e w2 ⟨rfl,k2⟩
   have HK2:Hid (Keep none_ w w2):=HK1.out.trans k2
   clear k2 HAW
   go_wp2_with fail
   go_ret
   exact ⟨rfl,HK2.out⟩
 | false =>
   obtain ⟨m1,m2,m3,m4⟩:=greatB_no hg
   clear hg
   go_wp2_with fail
   refine HAW.out.mono ?_
   rintro e w2 ⟨rfl,k2⟩
   have HK2:Hid (Keep none_ w w2):=HK1.out.trans k2
   have hb2:=k2.blk HB1.out (fun f=>f)
   have z0:=hb2.cell 0 rfl;have z1:=hb2.cell 1 rfl;have z2:=hb2.cell 2 rfl;have z3:=hb2.cell 3 rfl;have z4:=hb2.cell 4 rfl;have z5:=hb2.cell 5 rfl;have z6:=hb2.cell 6 rfl;have z7:=hb2.cell 7 rfl;have z8:=hb2.cell 8 rfl;have z9:=hb2.cell 9 rfl;have z10:=hb2.cell 10 rfl
   have HMD:Hid (Calls Tryz.prog 11 #[startV x.c a1 a2 a3 a4 n1 n2 n3 n4 p1 p2 p3 p4] w2 (MadeR w2 x)):=made_any (HLA.out.still HK2.out) (HST.out.still HK2.out) m1 m2 m3 m4
   have hrl:x.rg.length≤20:=by have:=HST.out.r.len;omega
   clear k2 HAW hb2 HB1 HK1
   go_wp2_with fail
   clear z0 z1 z2 z3 z4 z5 z6 z7 z8 z9 z10
   refine HMD.out.mono ?_
   intro e2 w3 hm
   obtain ⟨o,G,q,gs,ma,mc,a,c,rfl,hcw,hok,hfw,hmv,hrow,hI,hgl⟩:=hm.get hrl
   clear hm HMD
   have HPK:Hid (∀ (W:World) (o:Ow),CW w2 W o G gs q (madeP x)→RowO o W 3 (.slice a (madeO x).length c) (tabV (madeO x))→Calls Tryz.prog 12 #[.pointer (some ⟨q.C,0,none⟩)] W fun e W'=>e = .returned (.tuple #[.agg #[.int .i64 0,.int .i64 0,.int .i64 0,.int .i64 0,.int .i64 0,.int .i64 0],.bool false])∧∃ o':Ow,CW w2 W' o' G gs q (madeP x)∧RowO o' W' 3 (.slice a (madeO x).length c) (tabV (madeO x))):=fun W o hc hr=>by
    have hidle:pickC (madeP x).s (madeP x).coll=⟨(madeP x).s,(madeP x).coll,.nil,none⟩:=pickC_idle hI.idl.nx (by rw [hI.coll];rfl)
    refine (hc.pickColl hok (by omega)).mono ?_
    rintro e W' ⟨rfl,o',eo,hc',kk⟩
    rw [hidle]
    obtain ⟨t1,t2,t3⟩:=pickW_coll (madeP x) (n:=(madeP x).muts.length) rfl
    rw [hidle] at t1 t3
    exact ⟨rfl,o',hc'.tell ⟨t1.symm,t2.symm,t3.symm⟩,(hr.ext eo).keepO (kk.extO eo) rfl⟩
   have HOI:Hid (∃ o:Ow,CW w2 w3 o G gs q (madeP x)∧RowO o w3 3 (.slice a (madeO x).length c) (tabV (madeO x))):=⟨o,hcw,hrow⟩
   have HII:=Lib.hid hI
   have hG:=hcw.coll.sh.sCells.1
   clear hcw hok hfw hmv hrow hI hgl hG
   go_wp2_with fail
   go_loopw [9,10,11] (fun iv _ _ wr=>∃ (t:Nat) (o:Ow),t≤kk∧iv = .int .i64 t∧CW w2 wr o G gs q (madeP x)∧RowO o wr 3 (.slice a (madeO x).length c) (tabV (madeO x))) (fun iv _ _ _=>kk - (intOf iv).toNat)
   case atStart =>
    obtain ⟨o,h1,h2⟩:=HOI.out
    exact ⟨0,o,Nat.zero_le _,rfl,h1,h2⟩
   case round =>
    obtain ⟨t,o1,ht,rfl,hc,hr⟩:=hrel
    by_cases htk:t<kk
    ·have htI:(t:Int)<(kk:Int):=by omega
     have HP:=Lib.hid (HPK.out wr o1 hc hr)
     clear hc hr
     go_wp2_with fail
     refine HP.out.mono ?_
     rintro e w4 ⟨rfl,o2,hc,hr⟩
     have HI2:=Lib.hid (And.intro hc hr)
     clear hc hr HP
     go_wp2_with fail
     have ka:Keep none_ w4 (w4.alloc (.cells #[.int .i64 0,.int .i64 0,.int .i64 0,.int .i64 0,.int .i64 0,.int .i64 0] 37)):=(Keep.refl _ _).alloc _
     exact ⟨⟨t+1,o2,by omega,by go_num,HI2.out.1.stillE ka,HI2.out.2.still ka⟩,by simp [intOf];omega⟩
    ·obtain rfl:t=kk:=by omega
     have htI:¬ (t:Int)<(t:Int):=by omega
     have HI2:=Lib.hid (And.intro hc hr)
     clear hc hr HPK HOI
     go_wp2_with fail
     refine (collNew_nil wr).mono ?_
     rintro e w5 ⟨rfl,rfl⟩
     go_wp2_with fail
     refine (cWish_nil wr).mono ?_
     rintro e w5 ⟨rfl,rfl⟩
     go_wp2_with fail
     refine (cPick_nil wr).mono ?_
     rintro e w5 ⟨rfl,k5⟩
     have ka:Keep none_ w5 (w5.alloc (.cells #[.int .i64 0,.int .i64 0,.int .i64 0,.int .i64 0,.int .i64 0,.int .i64 0] 37)):=(Keep.refl _ _).alloc _
     have hb5:Blk (w5.alloc (.cells #[.int .i64 0,.int .i64 0,.int .i64 0,.int .i64 0,.int .i64 0,.int .i64 0] 37)) w5.heap.size [.int .i64 0,.int .i64 0,.int .i64 0,.int .i64 0,.int .i64 0,.int .i64 0] 37:=Blk.new w5 _ _
     have hz:(Value.agg zero6) = .agg #[.int .i64 0,.int .i64 0,.int .i64 0,.int .i64 0,.int .i64 0,.int .i64 0]:=rfl
     rw [hz]
     obtain ⟨W6,hW6⟩:∃ W6,W6=w5.alloc (.cells #[.int .i64 0,.int .i64 0,.int .i64 0,.int .i64 0,.int .i64 0,.int .i64 0] 37):=⟨_,rfl⟩
     rw [← hW6] at ka hb5
     have k6:Keep none_ wr W6:=k5.trans ka
     have HI6:Hid (CW w2 W6 o1 G gs q (madeP x)∧RowO o1 W6 3 (.slice a (madeO x).length c) (tabV (madeO x))):=⟨HI2.out.1.stillE k6,HI2.out.2.still k6⟩
     have HB6:=Lib.hid hb5
     have HW6:=Lib.hid hW6
     clear k5 ka hz hb5 k6 HI2 hW6
     go_wp2_with fail
     rw [← HW6.out]
     have z0:=HB6.out.cell 0 rfl;have z1:=HB6.out.cell 1 rfl;have z2:=HB6.out.cell 2 rfl;have z3:=HB6.out.cell 3 rfl;have z4:=HB6.out.cell 4 rfl;have z5:=HB6.out.cell 5 rfl
     refine (cRounds_nil W6).mono ?_
     rintro e w7 ⟨rfl,rfl⟩
     go_wp2_with fail
     refine (cWishes_nil W6).mono ?_
     rintro e w7 ⟨rfl,rfl⟩
     go_wp2_with fail
     refine (cPhase_nil W6).mono ?_
     rintro e w7 ⟨rfl,rfl⟩
     go_wp2_with fail
     refine (cColor_nil W6).mono ?_
     rintro e w7 ⟨rfl,rfl⟩
     go_wp2_with fail
     refine (cCycles_nil W6).mono ?_
     rintro e w7 ⟨rfl,rfl⟩
     go_wp2_with fail
     refine (cBusy_nil W6).mono ?_
     rintro e w7 ⟨rfl,rfl⟩
     go_wp2_with fail
     refine (cStacked_nil W6).mono ?_
     rintro e w7 ⟨rfl,rfl⟩
     go_wp2_with fail
     refine (cBusy_any HI6.out.1.coll).mono ?_
     rintro e w7 ⟨rfl,rfl⟩
     have hc0:(madeP x).coll=CS.new x.c.little x.c.little.m.toNat:=HII.out.coll
     have hbz:(!isNilC (madeP x).coll.next)=false:=by rw [hc0];rfl
     rw [hbz]
     go_wp2_with fail
     refine (cCycles_any HI6.out.1.coll).mono ?_
     rintro e w7 ⟨rfl,rfl⟩
     have hcz:((madeP x).coll.cycles:Int)=0:=by rw [hc0];rfl
     rw [hcz]
     go_wp2_with fail
     refine (cPhase_any HI6.out.1.coll).mono ?_
     rintro e w7 ⟨rfl,rfl⟩
     have hpz:((madeP x).coll.phase:Int)=0:=by rw [hc0];rfl
     rw [hpz]
     have hS:=HI6.out.1.coll.sh.sCells.1
     go_wp2_with fail
     have hobj:(madeP x).s.H.objs=madeO x:=HII.out.objs
     have hkw:Keep none_ w2 W6:=HI6.out.1.keep
     refine (hObjects_any HI6.out.1.coll.sh.heap (HLA.out.still (HK2.out.trans hkw)).b).mono ?_
     rintro e w8 ⟨v8,rfl,ho8,k8⟩
     rw [hobj] at ho8
     obtain ⟨a8,c8,rfl,hi8,_⟩:=IntCells.ofOwn' (k := .i64) (zs:=(madeO x).map fun x:Nat=>(x:Int)) (by
      have e:tabV (madeO x)=((madeO x).map fun x:Nat=>(x:Int)).map (Value.int .i64):=by simp [tabV]
      rw [← e];exact ho8)
     obtain ⟨hi9,hl9⟩:=(HI6.out.2.still k8).ints
     have HSM:Hid (Calls Tryz.prog 22 #[.slice a8 (madeO x).length c8,.slice a (madeO x).length c] w8 fun e w'=>e = .returned (.bool true)∧Keep none_ w8 w'):=by
      refine (same_any a8 a (madeO x).length (madeO x).length c8 c _ _ w8 hi8 hi9 (by omega) (by omega)).mono ?_
      rintro e w' ⟨rfl,k⟩
      exact ⟨by rw [beq_self_eq_true],k⟩
     have HK8:Hid (Keep none_ w w8):=HK2.out.trans (hkw.trans k8)
     clear hi8 hi9 ho8 k8 hkw hS z0 z1 z2 z3 z4 z5 hobj hc0 hbz hcz hpz hl9
     go_wp2_with fail
     refine HSM.out.mono ?_
     rintro e w9 ⟨rfl,k9⟩
     have HK9:Hid (Keep none_ w w9):=HK8.out.trans k9
     clear k9 HK8 HSM
     go_wp2_with fail
     go_ret
     exact ⟨rfl,HK9.out⟩
end
end
end Go.Proofs.YtanfphjoebobaaaGreatDoor
