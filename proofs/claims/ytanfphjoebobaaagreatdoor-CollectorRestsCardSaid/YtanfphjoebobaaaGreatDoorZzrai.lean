/- Parts of a walk, put together and made shorter by a small program of mine. No conditions but those that each theorem names. -/
import Derived.Test.YtanfphjoebobaaaGreatDoorZzrah
namespace Go.Proofs.YtanfphjoebobaaaGreatDoor
section
open Go.RowKit
attribute [local go_sem] Oper.semAt_some
attribute [local go_sem ↓] app9_of
section
variable {o o':Ow} {w w' W W':World} {G:Geo} {gs:List MG} {q:CG} {x:StP} {v:Value} {a1 a2 a3 a4:Option Addr} {n1 n2 n3 n4 p1 p2 p3 p4:Nat}
theorem own_upS {e:TypeId} {base g n cap size:Nat} {xs:List Value} (h:w.ownsRow 0 e size (.slice (some ⟨g,0,none⟩) n cap) n xs) (hg:base≤g):w.ownsRow base e size (.slice (some ⟨g,0,none⟩) n cap) n xs:=by
 obtain ⟨h1,h2⟩:=h
 refine ⟨h1,?_⟩
 rcases h2 with ⟨e1,_⟩|⟨g',cap',cur,e1,_,rest⟩
 ·cases e1
 ·cases e1
  exact .inr ⟨g,cap,cur,rfl,hg,rest⟩
structure StAt (w:World) (x:StP) (a1 a2 a3 a4:Option Addr) (n1 n2 n3 n4:Nat):Prop where
 s:U8s w a1 n1 x.sz
 f:U8s w a2 n2 x.fl
 c:U8s w a3 n3 x.ce
 r:U8s w a4 n4 x.rg
theorem StAt.still (h:StAt w x a1 a2 a3 a4 n1 n2 n3 n4) (k:Keep none_ w w'):StAt w' x a1 a2 a3 a4 n1 n2 n3 n4:=⟨h.s.still k,h.f.still k,h.c.still k,h.r.still k⟩
abbrev startV (c:Conf) (a1 a2 a3 a4:Option Addr) (n1 n2 n3 n4 p1 p2 p3 p4:Nat):Value := .agg #[.int .i64 c.b,.int .i64 c.w,.int .i64 c.m,.int .i64 c.r,.int .i64 c.c,.int .i64 c.l,.int .i64 c.s,.slice a1 n1 p1,.slice a2 n2 p2,.slice a3 n3 p3,.slice a4 n4 p4]
theorem results_tmp4 {fn:Func} {t u v z:Tmp} (h:fn.results=#[.tmp t,.tmp u,.tmp v,.tmp z]) (tmps:Array Value) (P:Program) (w:World) :
 (results fn tmps).run P w = .ok (.tuple #[tmps.getD t undef,tmps.getD u undef,tmps.getD v undef,tmps.getD z undef]) w:=by
 simp [results,h]
theorem madeK_few (c:Conf) (x:StP) (n:Nat):fewW (madeK c x n):=by
 intro m hm
 have hm':m∈(List.range n).map (fun j=>MS.new c j (progOf c.r x.rg j)):=hm
 obtain ⟨j,_,rfl⟩:=List.mem_map.1 hm'
 refine ⟨trivial,fun o ho=>?_⟩
 have ho':o∈progOf c.r x.rg j:=ho
 unfold progOf at ho'
 split at ho'
 ·unfold progR at ho'
  obtain ⟨k,_,rfl⟩:=List.mem_map.1 ho'
  rfl
 ·cases ho'
def MadeR (w:World) (x:StP) (e:Ending) (w':World):Prop :=
 ∃ (o:Ow) (G:Geo) (q:CG) (gs:List MG) (mv:Value) (a:Option Addr) (c:Nat),e = .returned (.tuple #[.pointer (some ⟨G.S,0,none⟩),.pointer (some ⟨q.C,0,none⟩),mv,.slice a (mkAll (HS.new x.c.little x.c.little.b.toNat x.c.little.w.toNat x.c.little.c.toNat) x.sz).objs.length c]) ∧
  CW w w' o G gs q (madeP x)∧WOk 300 (madeP x)∧MutsV o w' mv gs ∧
  RowO o w' 3 (.slice a (mkAll (HS.new x.c.little x.c.little.b.toNat x.c.little.w.toNat x.c.little.c.toNat) x.sz).objs.length c) (tabV (mkAll (HS.new x.c.little x.c.little.b.toNat x.c.little.w.toNat x.c.little.c.toNat) x.sz).objs)
theorem HeapAt.hbd {D:Nat→Nat} {H:HS} (h:HeapAt w D H):HBd H:=by
 have hn:=h.nat
 refine ⟨fields_le H,fun b=>Nat.le_trans (slots_le H b) ?_⟩
 have:H.ww/2≤H.ww:=Nat.div_le_self _ _
 omega
theorem CW.base {y:WS} (h:CW W' W o G gs q y) (k:Keep none_ w W'):CW w W o G gs q y:=⟨h.coll,h.len,h.mut_,fun b hb=>h.low b (Nat.lt_of_lt_of_le hb k.size),k.trans h.keep⟩
theorem runD_done {y:WS} {m:MS} (hm:y.muts[0]?=some m) (hd:doneM m=true):∀ f,runD f y=y
 | 0=>rfl
 | f+1=>by
   unfold runD
   cases hl:y.muts with
   | nil=>rfl
   | cons m' r =>
     rw [hl] at hm
     cases hm
     simp only [hd,if_true]
theorem runD_step {y:WS} {m:MS} (hm:y.muts[0]?=some m) (hd:doneM m=false) (f:Nat):runD (f+1) y=runD f (pickW y 0):=by
 show (match y.muts with|[]=>y|m::_=>if doneM m then y else runD f (pickW y 0))=_
 cases hl:y.muts with
 | nil=>rw [hl] at hm;cases hm
 | cons m' r =>
   rw [hl] at hm
   cases hm
   simp only [hd,Bool.false_eq_true,if_false]
theorem madeK_ok {c:Conf} {x:StP} {n:Nat} (hok:c.ok=true) (hn:c.m=(n:Int)):WOk 0 (madeK c x n):=by
 have hb:=ok_bounds hok
 have hq:∀ k,(madeK c x n).s.Q.rw k=[]:=fun k=>by
  show ([[],[],[],[]]:List (List Int)).getD k []=[]
  match k with
  | 0=>rfl
  | 1=>rfl
  | 2=>rfl
  | 3=>rfl
  | k+4=>rfl
 have hqo:QOk (madeK c x n).s:=fun k b hx=>by rw [hq k] at hx;cases hx
 have hl:(madeK c x n).s.boxes.length=n:=by
  show (List.replicate c.m.toNat []).length=n
  rw [List.length_replicate];omega
 refine ⟨by show ((List.range n).map _).length=c.m.toNat;simp;omega,fun i m hm=>?_,?_,Nat.le_refl _,Nat.le_refl _⟩
 ·have hm':((List.range n).map (fun j=>MS.new c j (progOf c.r x.rg j)))[i]?=some m:=hm
  rw [List.getElem?_map] at hm'
  have hlt:i<n:=by
   rcases Nat.lt_or_ge i n with g|g
   ·exact g
   ·rw [List.getElem?_eq_none (by simpa using g)] at hm';cases hm'
  rw [List.getElem?_eq_getElem (by simpa using hlt)] at hm'
  simp at hm'
  subst hm'
  exact ⟨rfl,Pok.first i _ hqo rfl (by omega)⟩
 ·have:CS.new c c.m.toNat=CS.new c n:=by rw [show c.m.toNat=n by omega]
  show Cok 0 (madeK c x n).s (CS.new c c.m.toNat)
  rw [this]
  exact CK.first hok hn hl hqo rfl hq rfl
set_option maxRecDepth 8000 in
set_option maxHeartbeats 8000000 in
theorem made_any (hL:Laid w) (h:StAt w x a1 a2 a3 a4 n1 n2 n3 n4) (m1:n1≤30) (m2:n2≤100) (m3:n3≤20) (m4:n4≤20):Calls Tryz.prog 11 #[startV x.c a1 a2 a3 a4 n1 n2 n3 n4 p1 p2 p3 p4] w (MadeR w x):=by
 obtain ⟨W0,hW0⟩:∃ W',W'=w.alloc (.cells #[.int .i64 x.c.b,.int .i64 x.c.w,.int .i64 x.c.m,.int .i64 x.c.r,.int .i64 x.c.c,.int .i64 x.c.l,.int .i64 x.c.s,.slice a1 n1 p1,.slice a2 n2 p2,.slice a3 n3 p3,.slice a4 n4 p4] 26):=⟨_,rfl⟩
 have k0:Keep none_ w W0:=by rw [hW0];exact (Keep.refl _ _).alloc _
 have hbx:Blk W0 w.heap.size [.int .i64 x.c.b,.int .i64 x.c.w,.int .i64 x.c.m,.int .i64 x.c.r,.int .i64 x.c.c,.int .i64 x.c.l,.int .i64 x.c.s,.slice a1 n1 p1,.slice a2 n2 p2,.slice a3 n3 p3,.slice a4 n4 p4] 26:=by rw [hW0];exact Blk.new w _ _
 have y0:=hbx.cell 0 rfl;have y1:=hbx.cell 1 rfl;have y2:=hbx.cell 2 rfl;have y3:=hbx.cell 3 rfl;have y4:=hbx.cell 4 rfl;have y5:=hbx.cell 5 rfl;have y6:=hbx.cell 6 rfl
 have HLI:Hid (Calls Tryz.prog 38 #[.agg #[.int .i64 x.c.b,.int .i64 x.c.w,.int .i64 x.c.m,.int .i64 x.c.r,.int .i64 x.c.c,.int .i64 x.c.l,.int .i64 x.c.s]] W0 fun e w'=>e = .returned (.agg x.c.little.cells.toArray)∧Keep none_ W0 w'):=little_any x.c W0
 obtain ⟨qc,hqc⟩:∃ qc,qc=x.c.little:=⟨_,rfl⟩
 rw [← hqc] at HLI
 have hqok:qc.ok=true:=by rw [hqc];exact little_okC x.c
 have hqb:=ok_bounds hqok
 obtain ⟨b,hb⟩:∃ b:Nat,qc.b=b:=⟨qc.b.toNat,by omega⟩
 obtain ⟨ww,hw⟩:∃ b:Nat,qc.w=b:=⟨qc.w.toNat,by omega⟩
 obtain ⟨nc,hc⟩:∃ b:Nat,qc.c=b:=⟨qc.c.toNat,by omega⟩
 obtain ⟨n,hn⟩:∃ b:Nat,qc.m=b:=⟨qc.m.toNat,by omega⟩
 obtain ⟨r,hr⟩:∃ b:Nat,qc.r=b:=⟨qc.r.toNat,by omega⟩
 have HSH:Hid (∀ W,Keep none_ w W→Calls Tryz.prog 39 #[.agg qc.cells.toArray] W fun e w'=>∃ (o:Ow) (G:Geo),e = .returned (.tuple #[.pointer (some ⟨G.S,0,none⟩),.int .i64 0])∧ShAt o w' G (Sh.new qc b ww nc n)∧(∀ x,x<W.heap.size→o x=0)∧Keep none_ W w'):=fun W hW=>by
  have hl:=hL.still hW
  refine (share_ok qc b ww nc n hqok hb hw hc hn W hl.t hl.s hl.g).mono ?_
  rintro e w' ⟨o,G,rfl,g1,g2,_,g4⟩
  exact ⟨o,G,rfl,g1,g2,g4⟩
 have HNW:Hid (∀ (W2 W:World) (o:Ow) G,Keep none_ w W2→ShAt o W G (Sh.new qc b ww nc n)→(∀ x,x<W2.heap.size→o x=0)→Keep none_ W2 W→Calls Tryz.prog 13 #[.pointer (some ⟨G.S,0,none⟩)] W fun e w'=>∃ (o':Ow) (q:CG),e = .returned (.tuple #[.pointer (some ⟨q.C,0,none⟩),.int .i64 0])∧CW W2 w' o' G [] q ⟨Sh.new qc b ww nc n,[],CS.new qc n,[],0⟩∧Keep none_ W w'):=fun W2 W o G hk hsh hlow hk2=>by
  have hl8:(Sh.new qc b ww nc n).boxes.length=n:=by simp [Sh.new]
  refine (collNew_ok hsh (by rw [hl8];omega)).mono ?_
  rintro e w' ⟨o',q,rfl,e1,hc',_,k⟩
  rw [hl8] at hc'
  exact ⟨o',q,rfl,⟨hc',rfl,fun i g m hg _=>by simp at hg,fun b hb=>(e1 b (Nat.lt_of_lt_of_le hb hk2.size)).trans (hlow b hb),hk2.trans k⟩,k⟩
 have HLA:Hid (∀ (W2 W:World) (o:Ow) G q,Keep none_ w W2→CW W2 W o G [] q ⟨Sh.new qc b ww nc n,[],CS.new qc n,[],0⟩→Calls Tryz.prog 40 #[.pointer (some ⟨G.D 0,0,none⟩),startV x.c a1 a2 a3 a4 n1 n2 n3 n4 p1 p2 p3 p4] W fun e w'=>∃ a c,e = .returned (.slice a (mkAll (HS.new qc b ww nc) x.sz).objs.length c)∧RowO o w' 3 (.slice a (mkAll (HS.new qc b ww nc) x.sz).objs.length c) (tabV (mkAll (HS.new qc b ww nc) x.sz).objs)∧CW W2 w' o G [] q (madeK qc x 0)):=fun W2 W o G q hk hcw=>by
  have hkw:Keep none_ w W:=hk.trans hcw.keep
  have hlow:∀ b,b<w.heap.size→o b=0:=fun b hb=>hcw.low b (Nat.lt_of_lt_of_le hb hk.size)
  have hnd:∀ W',Keep (HF G.D) W W'→Keep none_ w W':=fun W' k=>hkw.trans' k (fun i hi hin=>absurd hin (hcw.coll.sh.notD hlow hi))
  have hb0:qc.b.toNat=b:=by omega
  have hw0:qc.w.toNat=ww:=by omega
  have hc0:qc.c.toNat=nc:=by omega
  have hm0:qc.m.toNat=n:=by omega
  refine (laid_any (p4:=p4) hcw.coll.sh.heap (fun W' k=>hL.b.still (hnd W' k)) x.c.b x.c.w x.c.m x.c.r x.c.c x.c.l x.c.s x.sz x.fl x.ce (fun W' k=>h.s.still (hnd W' k)) (fun W' k=>h.f.still (hnd W' k)) (fun W' k=>h.c.still (hnd W' k)) m1 m2 m3).mono ?_
  rintro e w' ⟨v,rfl,g1,g2,g3,g4⟩
  obtain ⟨a,c,rfl,_⟩:=own_form (own_low g1 (Nat.zero_le _))
  have h9:=(hcw.setH g3 g2 (laidP_c _ _ _ _)).1
  refine ⟨a,c,rfl,RowO.ofOwn g1 (by omega) (fun b hb=>hcw.coll.sh.fut b hb),?_⟩
  unfold madeK
  rw [hb0,hw0,hc0,hm0]
  exact h9
 have hce:qc.cells=[.int .i64 (b:Int),.int .i64 (ww:Int),.int .i64 (n:Int),.int .i64 (r:Int),.int .i64 (nc:Int),.int .i64 qc.l,.int .i64 qc.s]:=by unfold Conf.cells;rw [hb,hw,hn,hr,hc]
 rw [hce] at HLI HSH
 have HMD:Hid (∀ W e,(∃ (o:Ow) (G:Geo) (q:CG) (gs:List MG) (mv:Value) (a:Option Addr) (c:Nat),e = .returned (.tuple #[.pointer (some ⟨G.S,0,none⟩),.pointer (some ⟨q.C,0,none⟩),mv,.slice a (mkAll (HS.new qc b ww nc) x.sz).objs.length c])∧CW w W o G gs q (runD 300 (madeK qc x n))∧WOk 300 (runD 300 (madeK qc x n))∧MutsV o W mv gs∧RowO o W 3 (.slice a (mkAll (HS.new qc b ww nc) x.sz).objs.length c) (tabV (mkAll (HS.new qc b ww nc) x.sz).objs))→MadeR w x e W):=fun W e hh=>by
  unfold MadeR madeP
  rw [← hqc]
  have hb0:qc.b.toNat=b:=by omega
  have hw0:qc.w.toNat=ww:=by omega
  have hc0:qc.c.toNat=nc:=by omega
  have hm0:qc.m.toNat=n:=by omega
  rw [hb0,hw0,hc0,hm0]
  exact hh
 have hn8:n≤8∧1≤n:=by omega
 have hr64:1≤r∧r≤64:=by omega
 have HMN:Hid (qc.m.toNat=n):=by show _=_;omega
 have HOK0:Hid (WOk 0 (madeK qc x n)):=madeK_ok hqok hn
 have HRR:Hid (qc.r=(r:Int)):=hr
 have HK0:=Lib.hid k0
 have HBX0:=Lib.hid hbx
 have HW0:=Lib.hid hW0
 have HST:=Lib.hid h
 rw [hW0] at y0 y1 y2 y3 y4 y5 y6
 generalize MadeR w x=PO at *
 generalize (mkAll (HS.new qc b ww nc) x.sz).objs=objs at *
 clear hqok hqb hb hw hc hn hr hce hqc k0 hbx hW0 hL h
 go_enter Tryz.func11,Tryz.ntmps11
 go_wp2_with fail
 rw [← HW0.out]
 refine HLI.out.mono ?_
 rintro e w1 ⟨rfl,k1⟩
 obtain ⟨W2,hW2⟩:∃ W2,W2=w1.alloc (.cells #[.int .i64 (b:Int),.int .i64 (ww:Int),.int .i64 (n:Int),.int .i64 (r:Int),.int .i64 (nc:Int),.int .i64 qc.l,.int .i64 qc.s] 23):=⟨_,rfl⟩
 have k2:Keep none_ W0 W2:=by rw [hW2];exact k1.alloc _
 have hcb:Blk W2 w1.heap.size [.int .i64 (b:Int),.int .i64 (ww:Int),.int .i64 (n:Int),.int .i64 (r:Int),.int .i64 (nc:Int),.int .i64 qc.l,.int .i64 qc.s] 23:=by rw [hW2];exact Blk.new w1 _ _
 have z0:=hcb.cell 0 rfl;have z1:=hcb.cell 1 rfl;have z2:=hcb.cell 2 rfl;have z3:=hcb.cell 3 rfl;have z4:=hcb.cell 4 rfl;have z5:=hcb.cell 5 rfl;have z6:=hcb.cell 6 rfl
 have HK2:Hid (Keep none_ w W2):=HK0.out.trans k2
 have HBX2:Hid (Blk W2 w.heap.size [.int .i64 x.c.b,.int .i64 x.c.w,.int .i64 x.c.m,.int .i64 x.c.r,.int .i64 x.c.c,.int .i64 x.c.l,.int .i64 x.c.s,.slice a1 n1 p1,.slice a2 n2 p2,.slice a3 n3 p3,.slice a4 n4 p4] 26):=k2.blk HBX0.out (fun f=>f)
 have HCB:=Lib.hid hcb
 have HW2:=Lib.hid hW2
 rw [hW2] at z0 z1 z2 z3 z4 z5 z6
 clear y0 y1 y2 y3 y4 y5 y6 k1 k2 hcb hW2 HLI HK0 HBX0 HW0
 go_wp2_with fail
 rw [← HW2.out]
 clear z0 z1 z2 z3 z4 z5 z6
 refine (HSH.out W2 HK2.out).mono ?_
 rintro e w3 ⟨o3,G,rfl,hsh3,hlow3,k3⟩
 have HN3:=Lib.hid (HNW.out W2 w3 o3 G HK2.out hsh3 hlow3 k3)
 clear hsh3 hlow3 k3 HSH HNW
 go_wp2_with fail
 refine HN3.out.mono ?_
 rintro e w4 ⟨o4,q,rfl,hcw4,k4⟩
 have hG4:=hcw4.coll.sh.sCells.1
 have kw4:=hcw4.keep
 have hbx4:=kw4.blk HBX2.out (fun f=>f)
 have hcwd:CW W2 w4.drew o4 G [] q ⟨Sh.new qc b ww nc n,[],CS.new qc n,[],0⟩:=hcw4.stillE (Keep.refl none_ w4).drew
 have HLA4:=Lib.hid (HLA.out W2 w4.drew o4 G q HK2.out hcwd)
 have y0:=hbx4.cell 0 rfl;have y1:=hbx4.cell 1 rfl;have y2:=hbx4.cell 2 rfl;have y3:=hbx4.cell 3 rfl;have y4:=hbx4.cell 4 rfl;have y5:=hbx4.cell 5 rfl;have y6:=hbx4.cell 6 rfl;have y7:=hbx4.cell 7 rfl;have y8:=hbx4.cell 8 rfl;have y9:=hbx4.cell 9 rfl;have y10:=hbx4.cell 10 rfl
 clear hcw4 k4 HLA HN3 kw4 hbx4 hcwd
 go_wp2_with fail
 refine wp_region_still_mid 5 rfl (by kernel_rfl) (by kernel_rfl) (fun K hK=>?_)
 change wpStill _ _ (World.drew _) _ _ _
 simp only [List.take_succ_cons,List.take_zero,List.drop_succ_cons,List.drop_zero] at hK ⊢
 repeat still_step
 refine wpStill_nil ?_
 change ite _ (Oper.wp _ _ _ _ _ _) _
 go_simp
 refine HLA4.out.mono ?_
 rintro e w5 ⟨a,c,rfl,hrow5,hcw5⟩
 refine hK _ _ ?_
 clear hK K
 have HCW5:=Lib.hid hcw5
 have HROW5:=Lib.hid hrow5
 clear hcw5 hrow5 HLA4 hG4 y0 y1 y2 y3 y4 y5 y6 y7 y8 y9 y10
 repeat still_step
 refine wpStill_nil ?_
 go_wp2_with fail
 have HI0:Hid (∃ (o:Ow) (gs:List MG),CW W2 w5 o G gs q (madeK qc x 0)∧MutsV o w5 (.slice none 0 0) gs∧gs.length=0∧RowO o w5 3 (.slice a objs.length c) (tabV objs)):=⟨o4,[],HCW5.out,⟨⟨rfl,.inl ⟨rfl,rfl⟩⟩,fun b hb=>by cases hb⟩,rfl,HROW5.out⟩
 clear HCW5 HROW5
 go_loopw [12,13,14,15,16,17] (fun mv iv _ _ _ _ wr=>∃ (i:Nat) (o:Ow) (gs:List MG) (ma:Option Addr) (mc:Nat),i≤n∧iv = .int .i64 i∧mv = .slice ma i mc∧CW W2 wr o G gs q (madeK qc x i)∧MutsV o wr (.slice ma i mc) gs∧gs.length=i∧RowO o wr 3 (.slice a objs.length c) (tabV objs)) (fun _ iv _ _ _ _ _=>n - (intOf iv).toNat)
 case atStart =>
  obtain ⟨o,gs,h1,h2,h3,h4⟩:=HI0.out
  exact ⟨0,o,gs,none,0,Nat.zero_le _,rfl,rfl,h1,h2,h3,h4⟩
 case round =>
  obtain ⟨i,o,gs,ma,mc,hi,rfl,rfl,hcw,hmv,hgl,hrow⟩:=hrel
  have hbxr:=hcw.keep.blk HBX2.out (fun f=>f)
  have hcbr:=hcw.keep.blk HCB.out (fun f=>f)
  have z2:=hcbr.cell 2 (v := .int .i64 (n:Int)) rfl
  by_cases hlt:i<n
  ·have hltI:(i:Int)<(n:Int):=by omega
   have hi8:(i:Int)≤8:=by omega
   have HCW:=Lib.hid hcw
   have HMV:=Lib.hid hmv
   have HRO:=Lib.hid hrow
   have HBXR:=Lib.hid hbxr
   have HCBR:=Lib.hid hcbr
   have HP0:Hid (wr.ownsRow wr.heap.size 83 4 (.slice none 0 0) 0 (opCells (progR r x.rg 0)).flatten∧Keep none_ wr wr):=⟨⟨rfl,.inl ⟨rfl,rfl⟩⟩,Keep.refl _ _⟩
   clear hcw hmv hrow hbxr hcbr
   go_wp2_with fail
   clear z2
   generalize wr=Wo at *
   go_loopw [14,15] (fun pv kv wr=>∃ (j:Nat) (pa:Option Addr) (pc:Nat),(i≠0→j=0)∧j≤n4∧kv = .int .i64 j∧pv = .slice pa j pc∧wr.ownsRow Wo.heap.size 83 4 (.slice pa j pc) j (opCells (progR r x.rg j)).flatten∧Keep none_ Wo wr) (fun _ kv _=>n4 - (intOf kv).toNat)
   case atStart=>exact ⟨0,none,0,fun _=>rfl,Nat.zero_le _,rfl,rfl,HP0.out⟩
   case round =>
    obtain ⟨j,pa,pc,hj0,hj,rfl,rfl,hown,hk⟩:=hrel
    have y10:=(hk.blk HBXR.out (fun f=>f)).cell 10 (v := .slice a4 n4 p4) rfl
    by_cases hcond:j<n4∧i=0
    ·obtain ⟨hjn,rfl⟩:=hcond
     have hjI:(j:Int)<(n4:Int):=by omega
     have hj0I:(0:Int)≤(j:Int):=by omega
     have hst:=HST.out.still ((HK2.out.trans HCW.out.keep).trans hk)
     obtain ⟨b2,off2,rfl,hz,hz2⟩:=hst.r.cell hjn
     have y3:=(hk.blk HCBR.out (fun f=>f)).cell 3 (v := .int .i64 (r:Int)) rfl
     obtain ⟨jr,hj1,hj2⟩:∃ jr:Nat,(j:Int).tmod (r:Int)=(jr:Int)∧(j:Int)%(r:Int)=(jr:Int):=⟨j%r,by rw [Int.tmod_eq_emod_of_nonneg (by omega)];simp,by simp⟩
     have hprog:opCells (progR r x.rg (j+1))=opCells (progR r x.rg j)++[[.int .i64 4,.int .i64 (jr:Int),.int .i64 ((x.rg.getD j 0%4:Nat):Int),.int .i64 0]]:=by
      rw [progR_succ,hj2]
      unfold opCells
      rw [List.map_append]
      rfl
     obtain ⟨zr,hr1,hr2,hr3,hr4⟩:=byte_rem (z:=x.rg.getD j 0)
     rw [← hr3] at hprog
     have HPG:=Lib.hid hprog
     generalize x.rg.getD j 0=z at *
     obtain ⟨V1,hV1⟩:∃ V1,V1=(wr.alloc (.cells #[.int .i64 4,.int .i64 (jr:Int),.int .i64 (zr:Int),.int .i64 0] 83)).drew:=⟨_,rfl⟩
     have kv:Keep none_ wr V1:=by rw [hV1];exact ((Keep.refl _ _).alloc _).drew
     have hNew:Blk V1 wr.heap.size [.int .i64 4,.int .i64 (jr:Int),.int .i64 (zr:Int),.int .i64 0] 83:=by rw [hV1];exact (Blk.new wr _ _).drew
     have ho1:=own_still hown kv
     obtain ⟨g,cap,w7,hrun,hown7,hgr,hge⟩:=app_whereR (P:=Tryz.prog) V1 81 81 83 (by kernel_rfl) Tryz.infoOp rfl (by decide) (own_low ho1 (Nat.zero_le _)) (N:=wr.heap.size) (us:=[.int .i64 4,.int .i64 (jr:Int),.int .i64 (zr:Int),.int .i64 0]) (fun j x hj=>hNew.cell j hj) rfl (by simp [Value.oneCell']) (by decide) (by omega)
     have hrun9:(app9 #[81,81] 81 #[.slice pa j pc,.slice (some ⟨wr.heap.size,0,none⟩) 1 1]).run Tryz.prog (wr.alloc (.cells #[.int .i64 4,.int .i64 (jr:Int),.int .i64 (zr:Int),.int .i64 0] 83)).drew = .ok (.slice (some ⟨g,0,none⟩) (j+1) cap) w7:=by rw [← hV1];exact hrun
     have HI7:Hid (w7.ownsRow Wo.heap.size 83 4 (.slice (some ⟨g,0,none⟩) (j+1) cap) (j+1) (opCells (progR r x.rg (j+1))).flatten∧Keep none_ Wo w7):=by
      rw [HPG.out,List.flatten_append]
      have hge2:Wo.heap.size≤g:=by
       rcases hge with h9|h9
       ·exact (World.ownsRow.lt ho1 g h9).1
       ·have:=(hk.trans kv).size;omega
      exact ⟨own_upS (by simpa using hown7) hge2,(hk.trans kv).grew ho1 (Nat.le_refl _) hgr⟩
     have ca:=fun u=>(Blk.alloc (hk.blk HBXR.out (fun f=>f)) u).cell 10 (v := .slice (some ⟨b2,off2,none⟩) n4 p4) rfl
     have cb:=fun u=>(Blk.alloc (hk.blk HCBR.out (fun f=>f)) u).cell 3 (v := .int .i64 (r:Int)) rfl
     have cz:∀ u,(wr.alloc u).cell? ⟨b2,off2+j,none⟩=some (.int .u8 (z:Int)):=fun u=>((Keep.refl none_ wr).alloc u).still hz
     have hr0:¬ (r:Int)=0:=by omega
     clear hown hk hst hprog HPG hV1 kv hNew ho1 hrun hown7 hgr hge hr3
     go_wp2_with fail
     go_region
     go_wp2_with fail
     go_roundw
     case rel=>exact ⟨j+1,_,_,fun h=>absurd rfl h,by omega,by go_num,rfl,HI7.out⟩
     case measure=>simp [intOf]<;>omega
    ·have hjx:progR r x.rg j=progOf r x.rg i:=by
      unfold progOf
      by_cases hi0:i=0
      ·rw [if_pos hi0,show j=x.rg.length by have h9:=HST.out.r.len;have:¬ j<n4:=fun h=>hcond ⟨h,hi0⟩;omega]
      ·rw [if_neg hi0,hj0 hi0];rfl
     obtain ⟨_,_,e7,hra,hca⟩:=RecAt.ofOwn hown opCells_len (by unfold opCells;rw [List.length_map,progR_len])
     cases e7
     have hnil:pa=none→pc=0:=fun e=>by
      rcases hown.2 with ⟨e1,_⟩|⟨g',cap',cur,e1,_⟩
      ·cases e1;rfl
      ·cases e1;cases e
     rw [hjx] at hra
     have hcw2:=HCW.out.stillE hk
     have hmv2:MutsV o wr (.slice ma i mc) gs:=HMV.out.keep (I:=[]) hk.noneO rfl (OExt.refl _ _)
     have hro2:RowO o wr 3 (.slice a objs.length c) (tabV objs):=HRO.out.still hk
     have hlen9:(progOf r x.rg i).length=j:=by rw [← hjx,progR_len]
     have hml:(madeK qc x i).muts.length=i:=by simp [madeK]
     have hbl:(madeK qc x i).s.boxes.length=n:=by
      show (List.replicate qc.m.toNat []).length=n
      rw [List.length_replicate]
      exact HMN.out
     have HNEW:Hid (Calls Tryz.prog 41 #[.pointer (some ⟨G.S,0,none⟩),.int .i64 (i:Int),.slice pa j pc] wr fun e w'=>∃ (o':Ow) (g:MG),e = .returned (.tuple #[.pointer (some ⟨g.M,0,none⟩),.int .i64 0])∧CW W2 w' o' G (gs++[g]) q (madeK qc x (i+1))∧MutsV o' w' (.slice ma i mc) gs∧RowO o' w' 3 (.slice a objs.length c) (tabV objs)):=by
      refine (mutNew_ok hcw2.coll.sh hcw2.coll.box8 i (by rw [hbl];exact hlt) (progOf r x.rg i) j hlen9.symm (by omega) pa pc hra hnil).mono ?_
      rintro e w' ⟨o',g,rfl,e1,g1,_,g3⟩
      have hcc:(madeK qc x i).s.H.c=qc:=laidP_c _ _ _ _
      rw [hcc] at g1
      refine ⟨o',g,rfl,?_,hmv2.keep (I:=[]) g3.noneO rfl e1,(hro2.ext e1).still g3⟩
      rw [madeK_succ]
      rw [HRR.out]
      exact hcw2.addMut g3 e1 g1 (by rw [hml];rfl)
     have hc2:¬ j<n4∨(j<n4∧i≠0):=by
      by_cases h9:j<n4
      ·exact .inr ⟨h9,fun h8=>hcond ⟨h9,h8⟩⟩
      ·exact .inl h9
     have HAP:Hid (∀ (w6:World) (o6:Ow) (g:MG),CW W2 w6 o6 G (gs++[g]) q (madeK qc x (i+1))→MutsV o6 w6 (.slice ma i mc) gs→RowO o6 w6 3 (.slice a objs.length c) (tabV objs)→∃ b cap W8,(app9 #[31,31] 31 #[.slice ma i mc,.slice (some ⟨w6.heap.size,0,none⟩) 1 1]).run Tryz.prog (w6.alloc (.cells #[.pointer (some ⟨g.M,0,none⟩)] 56)) = .ok (.slice (some ⟨b,0,none⟩) (i+1) cap) W8 ∧
      ∃ o8,CW W2 W8 o8 G (gs++[g]) q (madeK qc x (i+1))∧MutsV o8 W8 (.slice (some ⟨b,0,none⟩) (i+1) cap) (gs++[g])∧RowO o8 W8 3 (.slice a objs.length c) (tabV objs)):=fun w6 o6 g hcw6 hmv6 hro6=>by
      have k7:Keep none_ w6 (w6.alloc (.cells #[.pointer (some ⟨g.M,0,none⟩)] 56)):=(Keep.refl _ _).alloc _
      obtain ⟨b,cap,W8,hrun,o8,e8,hcw8,hmv8,k8⟩:=(hmv6.keep (I:=[]) k7.noneO rfl (OExt.refl _ _)).grow (hcw6.stillE k7) (N:=w6.heap.size) ((Blk.new w6 [ptrV g.M] 56).cell 0 rfl) (by omega)
      rw [hgl] at hrun hmv8
      exact ⟨b,cap,W8,hrun,o8,hcw8,hmv8,((hro6.still k7).ext e8).keepO (k8.extO e8) rfl⟩
     clear hown hk hcw2 hmv2 hro2 hra hca hjx hcond
     rcases hc2 with hnl|⟨hl9,hi0⟩
     ·have hnlI:¬ (j:Int)<(n4:Int):=by omega
      go_wp2_with fail
      refine HNEW.out.mono ?_
      rintro e w6 ⟨o6,g,rfl,hcw6,hmv6,hro6⟩
      obtain ⟨b8,cap8,W8,hrun8,o8,hcw8,hmv8,hro8⟩:=HAP.out w6 o6 g hcw6 hmv6 hro6
      have HI8:=Lib.hid (And.intro hcw8 (And.intro hmv8 hro8))
      clear hcw6 hmv6 hro6 hcw8 hmv8 hro8 HNEW HAP
      go_wp2_with fail
      exact ⟨⟨i+1,o8,gs++[g],_,_,by omega,by go_num,rfl,HI8.out.1,HI8.out.2.1,by simp [hgl],HI8.out.2.2⟩,by simp [intOf];omega⟩
     ·obtain rfl:j=0:=hj0 hi0
      clear hj0
      have hlI:(0:Int)<(n4:Int):=by omega
      have hi0B:((i:Int)==0)=false:=by simp;omega
      have hi0N:decide (i=0)=false:=decide_eq_false hi0
      go_wp2_with fail
      refine HNEW.out.mono ?_
      rintro e w6 ⟨o6,g,rfl,hcw6,hmv6,hro6⟩
      obtain ⟨b8,cap8,W8,hrun8,o8,hcw8,hmv8,hro8⟩:=HAP.out w6 o6 g hcw6 hmv6 hro6
      have HI8:=Lib.hid (And.intro hcw8 (And.intro hmv8 hro8))
      clear hcw6 hmv6 hro6 hcw8 hmv8 hro8 HNEW HAP
      go_wp2_with fail
      exact ⟨⟨i+1,o8,gs++[g],_,_,by omega,by go_num,rfl,HI8.out.1,HI8.out.2.1,by simp [hgl],HI8.out.2.2⟩,by simp [intOf];omega⟩
  ·obtain rfl:i=n:=by omega
   have hltI:¬ (i:Int)<(i:Int):=by omega
   have hbd:=hcw.coll.sh.heap.hbd
   have HI9:Hid (∃ (t:Nat) (y:WS) (o:Ow),t=0∧CW W2 wr o G gs q y∧WOk t y∧fewW y∧MutsV o wr (.slice ma i mc) gs∧RowO o wr 3 (.slice a objs.length c) (tabV objs)∧runD (300 - t) y=runD 300 (madeK qc x i)):=⟨0,_,o,rfl,hcw,HOK0.out,madeK_few qc x i,hmv,hrow,rfl⟩
   clear hcw hmv hrow hbxr hcbr hbd
   go_wp2_with fail
   clear z2
   obtain ⟨g0,hg0⟩:∃ g0,gs[0]?=some g0:=⟨gs[0]'(by omega),List.getElem?_eq_getElem _⟩
   have HG0:=Lib.hid hg0
   have HGL:=Lib.hid hgl
   clear hg0 hgl
   go_loopw [18] (fun iv wr=>∃ (t:Nat) (y:WS) (o:Ow),t≤300∧iv = .int .i64 t∧CW W2 wr o G gs q y∧WOk t y∧fewW y∧MutsV o wr (.slice ma i mc) gs∧RowO o wr 3 (.slice a objs.length c) (tabV objs)∧runD (300 - t) y=runD 300 (madeK qc x i)) (fun iv _=>300 - (intOf iv).toNat)
   case atStart =>
    obtain ⟨t,y,o,h0,h1,h2,h3,h4,h5,h6⟩:=HI9.out
    subst h0
    exact ⟨0,y,o,Nat.zero_le _,rfl,h1,h2,h3,h4,h5,h6⟩
   case round =>
    obtain ⟨t,y,o',ht,rfl,hcw,hok,hfew,hmv,hrow,hrun⟩:=hrel
    obtain ⟨a',c',e1,hform⟩:=hmv.form
    rw [HGL.out] at e1
    cases e1
    obtain ⟨bA,e2,hcA⟩:=hform 0 g0 HG0.out
    have hyl:y.muts.length=i:=by rw [← hcw.len];exact HGL.out
    obtain ⟨m0,hm0⟩:∃ m0,y.muts[0]?=some m0:=⟨y.muts[0]'(by omega),List.getElem?_eq_getElem _⟩
    have HDN:Hid (Calls Tryz.prog 42 #[.pointer (some ⟨g0.M,0,none⟩)] wr fun e w'=>e = .returned (.bool (doneM m0))∧Keep none_ wr w'):=mDone_any (hcw.mut_ 0 g0 m0 HG0.out hm0).1
    have HFN:Hid (∀ W,Keep none_ wr W→t=300∨doneM m0=true→PO (.returned (.tuple #[.pointer (some ⟨G.S,0,none⟩),.pointer (some ⟨q.C,0,none⟩),.slice ma i mc,.slice a objs.length c])) W):=fun W k hh=>by
     refine HMD.out W _ ⟨o',G,q,gs,.slice ma i mc,a,c,rfl,?_,?_,hmv.keep (I:=[]) k.noneO rfl (OExt.refl _ _),hrow.still k⟩
     ·rw [← hrun]
      have e9:runD (300 - t) y=y:=by
       rcases hh with e|e
       ·rw [e];rfl
       ·exact runD_done hm0 e _
      rw [e9]
      exact (hcw.stillE k).base HK2.out
     ·rw [← hrun]
      have e9:runD (300 - t) y=y:=by
       rcases hh with e|e
       ·rw [e];rfl
       ·exact runD_done hm0 e _
      rw [e9]
      exact hok.more ht
    have HPK:Hid (∀ W,Keep none_ wr W→t<300→doneM m0=false→Calls Tryz.prog 24 #[.pointer (some ⟨g0.M,0,none⟩)] W fun e w'=>(∃ v1 v2,e = .returned (.tuple #[v1,v2]))∧∃ o2,CW W2 w' o2 G gs q (pickW y 0)∧WOk (t+1) (pickW y 0)∧fewW (pickW y 0)∧MutsV o2 w' (.slice ma i mc) gs∧RowO o2 w' 3 (.slice a objs.length c) (tabV objs)∧runD (300 - (t+1)) (pickW y 0)=runD 300 (madeK qc x i)):=fun W k h3 hd=>by
     have hcw2:=hcw.stillE k
     refine (hcw2.pick hok (by omega) HG0.out hm0 (stepH_few _ (hfew m0 (List.mem_of_getElem? hm0)).1)).mono ?_
     rintro e w' ⟨rfl,o2,eo,hc2,kk⟩
     refine ⟨⟨_,_,rfl⟩,o2,hc2,pickW_ok hok hcw2.coll.sh.heap.hbd 0,few_pickW hfew 0,(hmv.keep (I:=[]) k.noneO rfl (OExt.refl _ _)).keep kk rfl eo,((hrow.still k).ext eo).keepO (kk.extO eo) (stepI_0 0),?_⟩
     rw [← hrun,show 300 - t=(300 - (t+1))+1 by omega,runD_step hm0 hd]
    have htI:(t:Int)≤300:=by omega
    cases e2
    clear hcw hok hmv hrow hrun hform hyl hm0 hfew
    by_cases h3:t<300
    ·have h3I:(t:Int)<300:=by omega
     cases hd:doneM m0 with
     | true =>
       rw [hd] at HDN
       go_wp2_with fail
       refine HDN.out.mono ?_
       rintro e w5 ⟨rfl,k5⟩
       have HE:=Lib.hid (HFN.out w5 k5 (.inr hd))
       clear HFN HPK HDN
       go_wp2_with fail
       refine bodyPost_ret (results_tmp4 rfl _ _ _) rfl ?_
       exact HE.out
     | false =>
       rw [hd] at HDN
       have hcB:∀ W,Keep none_ wr W→W.cell? ⟨bA,0,none⟩=some (.pointer (some ⟨g0.M,0,none⟩)):=fun W k=>k.still hcA
       have HCB:=Lib.hid hcB
       clear hcB
       go_wp2_with fail
       refine HDN.out.mono ?_
       rintro e w5 ⟨rfl,k5⟩
       have HP:=Lib.hid (HPK.out w5 k5 h3 hd)
       have hcA5:=HCB.out w5 k5
       clear HFN HPK HDN HCB hcA
       go_wp2_with fail
       refine HP.out.mono ?_
       rintro e w6 ⟨⟨v1,v2,rfl⟩,o2,q1,q2,q3,q4,q5,q6⟩
       have HI6:=Lib.hid (And.intro q1 (And.intro q2 (And.intro q3 (And.intro q4 (And.intro q5 q6)))))
       clear q1 q2 q3 q4 q5 q6 HP hcA5
       go_wp2_with fail
       exact ⟨⟨t+1,pickW y 0,o2,by omega,by go_num,HI6.out⟩,by simp [intOf];omega⟩
    ·have h3I:¬ (t:Int)<300:=by omega
     have HE:=Lib.hid (HFN.out wr (Keep.refl _ _) (.inl (by omega)))
     clear HFN HPK HDN
     go_wp2_with fail
     refine bodyPost_ret (results_tmp4 rfl _ _ _) rfl ?_
     exact HE.out
end
end
section
structure MkR (H H':HS):Prop where
 b:H'.b=H.b
 ww:H'.ww=H.ww
 c:H'.c=H.c
 cells:H'.cells=H.cells
 co:(∀ a,H.co a=false)→∀ a,H'.co a=false
theorem MkR.refl (H:HS):MkR H H:=⟨rfl,rfl,rfl,rfl,fun h=>h⟩
theorem MkR.trans {H H' H'':HS} (h:MkR H H') (k:MkR H' H''):MkR H H'':=⟨k.b.trans h.b,k.ww.trans h.ww,k.c.trans h.c,k.cells.trans h.cells,fun g=>k.co (h.co g)⟩
section
variable {H:HS}
theorem MkR.put (a:Nat):MkR H (H.putP a):=by
 unfold HS.putP
 split
 ·exact MkR.refl H
 ·split
  ·exact MkR.refl H
  ·exact ⟨rfl,rfl,rfl,rfl,fun h=>h⟩
theorem MkR.putL:∀ (l:List Nat) (H:HS),MkR H (H.putL l)
 | [],H=>MkR.refl H
 | a::l,H=>(MkR.put a).trans (MkR.putL l (H.putP a))
theorem MkR.store (a:Nat) (f:Int) (v:Nat):MkR H (H.storeP a f v):=by
 unfold HS.storeP
 split
 ·exact ⟨rfl,rfl,rfl,rfl,fun h=>h⟩
 ·exact MkR.refl H
theorem MkR.storeL (a:Nat):∀ i,MkR H (H.storeL a i)
 | 0=>MkR.refl H
 | i+1=>(MkR.storeL a i).trans (MkR.store _ _ _)
theorem MkR.slot (k:Nat):MkR H (H.slotP k).2.2:=by
 unfold HS.slotP
 split
 ·unfold HS.takeP
  split
  ·exact MkR.refl H
  ·exact ⟨rfl,rfl,rfl,rfl,fun h=>h⟩
 ·split
  ·refine MkR.trans ?_ (MkR.putL _ _)
   unfold HS.assignP
   split
   ·exact MkR.refl H
   ·exact ⟨rfl,rfl,rfl,rfl,fun h=>h⟩
  ·exact MkR.refl H
theorem MkR.begin (a:Nat) (f:Int):MkR H (H.beginP a f):=by
 unfold HS.beginP
 split
 ·exact MkR.refl H
 ·split
  ·exact ⟨rfl,rfl,rfl,rfl,fun h=>h⟩
  ·exact MkR.refl H
theorem MkR.bear (a:Nat):MkR H (H.bearP a 0):=by
 unfold HS.bearP
 split
 ·refine ⟨rfl,rfl,rfl,rfl,fun h x=>?_⟩
  show upd H.co a (0==1) x=false
  unfold upd
  split
  ·rfl
  ·exact h x
 ·exact MkR.refl H
theorem MkR.make (f:Nat):MkR H (H.makeP f 0).2:=by
 unfold HS.makeP
 split
 ·exact ((MkR.slot _).trans (MkR.begin _ _)).trans ((MkR.storeL _ _).trans (MkR.bear _))
 ·exact MkR.slot _
end
theorem mkAll_R:∀ (sz:List Nat) (H:HS),MkR H (mkAll H sz)
 | [],H=>MkR.refl H
 | z::l,H=>(MkR.make (z%4)).trans (mkAll_R l (H.makeP (z%4) 0).2)
structure LyR (H H':HS):Prop where
 b:H'.b=H.b
 ww:H'.ww=H.ww
 c:H'.c=H.c
 cl:H'.cells.length=H.cells.length
 co:H'.co=H.co
 bn:H'.bn=H.bn
 K:H'.K=H.K
theorem LyR.refl (H:HS):LyR H H:=⟨rfl,rfl,rfl,rfl,rfl,rfl,rfl⟩
theorem LyR.trans {H H' H'':HS} (h:LyR H H') (k:LyR H' H''):LyR H H'':=⟨k.b.trans h.b,k.ww.trans h.ww,k.c.trans h.c,k.cl.trans h.cl,k.co.trans h.co,k.bn.trans h.bn,k.K.trans h.K⟩
section
variable {H:HS}
theorem LyR.store (a:Nat) (f:Int) (v:Nat):LyR H (H.storeP a f v):=by
 unfold HS.storeP
 split
 ·exact ⟨rfl,rfl,rfl,rfl,rfl,rfl,rfl⟩
 ·exact LyR.refl H
theorem LyR.set (i:Int) (v:Nat):LyR H (H.setP i v):=by
 unfold HS.setP
 split
 ·exact ⟨rfl,rfl,rfl,by show (H.cells.set _ _).length=_;rw [List.length_set],rfl,rfl,rfl⟩
 ·exact LyR.refl H
end
theorem fillO_R (all fl:List Nat) (a:Nat) (p:HS × Nat):∀ f,LyR p.1 (fillO all fl a p f).1
 | 0=>LyR.refl _
 | f+1=>by
   show LyR p.1 (if (fillO all fl a p f).2<fl.length then _ else fillO all fl a p f).1
   split
   ·exact (fillO_R all fl a p f).trans (LyR.store _ _ _)
   ·exact fillO_R all fl a p f
theorem fillA_R (all fl:List Nat) (p:HS × Nat):∀ i,LyR p.1 (fillA all fl p i).1
 | 0=>LyR.refl _
 | i+1=>(fillA_R all fl p i).trans (fillO_R _ _ _ _ _)
theorem setAll_R (all ce:List Nat) (H:HS):∀ i,LyR H (setAll all ce H i)
 | 0=>LyR.refl _
 | i+1=>(setAll_R all ce H i).trans (LyR.set _ _)
theorem laidP_R (H:HS) (sz fl ce:List Nat):LyR (mkAll H sz) (laidP H sz fl ce) :=
 (fillA_R (mkAll H sz).objs fl (mkAll H sz,0) (mkAll H sz).objs.length).trans (setAll_R _ _ _ _)
structure GetI (c:Conf) (H:HS) (n:Nat) (P:List OpR) (x:WS):Prop where
 s:x.s={ Sh.new c c.b.toNat c.w.toNat c.c.toNat n with H:=H }
 coll:x.coll=CS.new c n
 len:x.muts.length=n
 oth:∀ i m,x.muts[i]?=some m→1≤i→m=MS.new c i []
 one:∀ m,x.muts[0]?=some m→m.id=0∧m.c=c∧m.prog=P∧m.res.length≤P.length∧m.color=0∧m.buf=[]∧m.mode=0∧m.ans=false∧m.regs.length=c.r.toNat∧(m.next = .nil∨(∃ o,(m.next = .start o∨m.next = .get o)∧o.k=4∧m.res.length<P.length))
def getTodo (m:MS):Nat:=3*(m.prog.length - m.res.length) - (match m.next with
 | .start _=>1
 | .get _=>2
 | _=>0)
section
variable {c:Conf} {H:HS} {n:Nat} {P:List OpR} {x:WS} {m:MS}
theorem new_pend (c:Conf) (b w cc n:Nat) (H:HS) (i:Nat):({ Sh.new c b w cc n with H:=H }:Sh).B.pend (i:Int)=false:=by
 show (Bd.new (n:Int)).pend (i:Int)=false
 unfold Bd.pend Bd.isOpen Bd.new
 have:(List.replicate 8 false).getD (i:Int).toNat false=false:=by
  rw [List.getD_eq_getElem?_getD]
  rcases Nat.lt_or_ge (i:Int).toNat 8 with g|g
  ·rw [List.getElem?_eq_getElem (by simpa using g),List.getElem_replicate];rfl
  ·rw [List.getElem?_eq_none (by simpa using g)];rfl
 rw [this,Bool.and_false]
theorem GetI.pick (h:GetI c H n P x) (hP:∀ o∈P,o.k=4) (hm:x.muts[0]?=some m) (hd:doneM m=false):GetI c H n P (pickW x 0)∧∃ m',(pickW x 0).muts[0]?=some m'∧getTodo m'+1≤getTodo m:=by
 obtain ⟨o1,o2,o3,o4,o5,o6,o7,o9,o10,o8⟩:=h.one m hm
 obtain ⟨e1,e2,e3⟩:=pickW_mut x hm
 have hlt:=(List.getElem?_eq_some_iff.1 hm).1
 have key:∀ s' m',pickM x.s m=(s',m')→s'=x.s→∀ ev,m'=(m'.1,ev)→(m'.1.id=0∧m'.1.c=c∧m'.1.prog=P∧m'.1.res.length≤P.length∧m'.1.color=0∧m'.1.buf=[]∧m'.1.mode=0∧m'.1.ans=false∧m'.1.regs.length=c.r.toNat∧(m'.1.next = .nil∨(∃ o,(m'.1.next = .start o∨m'.1.next = .get o)∧o.k=4∧m'.1.res.length<P.length)))→getTodo m'.1+1≤getTodo m →
  GetI c H n P (pickW x 0)∧∃ m',(pickW x 0).muts[0]?=some m'∧getTodo m'+1≤getTodo m:=fun s' m' hp hs ev _ ho ht=>by
  rw [hp] at e1 e2
  have hm2:(pickW x 0).muts[0]?=some m'.1:=by rw [e2];exact List.getElem?_set_self hlt
  refine ⟨⟨e1.trans (hs.trans h.s),e3.trans h.coll,by rw [e2,List.length_set];exact h.len,fun i mi hi h1=>?_,fun mi hi=>?_⟩,m'.1,hm2,ht⟩
  ·rw [e2,List.getElem?_set_ne (by omega)] at hi
   exact h.oth i mi hi h1
  ·rw [hm2] at hi
   cases hi
   exact ho
 have hpd:x.s.B.pend (m.id:Int)=false:=by rw [h.s,o1];exact new_pend c _ _ _ n H 0
 rcases o8 with e|⟨o,e,hk,hl⟩
 ·have hl:m.res.length<P.length:=by
   unfold doneM at hd
   rw [e] at hd
   have:decide (m.res.length=m.prog.length)=false:=by simpa [isNil] using hd
   have:=of_decide_eq_false this
   rw [o3] at this
   omega
  have hb:beginD x.s m = .start (P[m.res.length]'hl):=by
   unfold beginD
   rw [hpd,if_neg (by decide),o3,List.getElem?_eq_getElem hl]
  have hp:pickM x.s m=(x.s,{ m with spent:=1,ans:=x.s.B.pend (m.id:Int),next:=beginD x.s m },none):=by
   unfold pickM
   rw [if_pos (by rw [e];rfl)]
  rw [hb] at hp
  refine key _ _ hp rfl none rfl ⟨o1,o2,o3,o4,o5,o6,o7,hpd,o10,.inr ⟨_,.inl rfl,hP _ (List.getElem_mem hl),hl⟩⟩ ?_
  show 3*(m.prog.length - m.res.length) - 1+1≤getTodo m
  unfold getTodo
  rw [e,o3]
  show _≤3*(P.length - m.res.length) - 0
  omega
 ·have hM:∀ M:MS,M.most.id=M.id∧M.most.c=M.c∧M.most.prog=M.prog∧M.most.res=M.res∧M.most.color=M.color∧M.most.buf=M.buf∧M.most.mode=M.mode∧M.most.ans=M.ans∧M.most.regs=M.regs∧M.most.next=M.next:=fun M=>by
   unfold MS.most
   split<;>exact ⟨rfl,rfl,rfl,rfl,rfl,rfl,rfl,rfl,rfl,rfl⟩
  have hgen:∀ (r:StepR),stepM x.s { m with spent:=m.spent+1 } m.next=r→isNil m.next=false→r.s=x.s →
   (r.next = .nil→r.m.id=0∧r.m.c=c∧r.m.prog=P∧r.m.res.length=m.res.length+1∧r.m.color=0∧r.m.buf=[]∧r.m.mode=0∧r.m.ans=false∧r.m.regs.length=c.r.toNat)→(r.next ≠ .nil→r.m={ m with spent:=m.spent+1 }∧m.next = .start o∧r.next = .get o) →
   GetI c H n P (pickW x 0)∧∃ m',(pickW x 0).muts[0]?=some m'∧getTodo m'+1≤getTodo m:=fun r hr hnn hs h1 h2=>by
   have hp:pickM x.s m=(r.s,(if isNil r.next then { r.m with next := .nil }.most else { r.m with next:=r.next }),r.ev):=by
    unfold pickM
    rw [if_neg (by rw [hnn];decide),← hr]
   by_cases hrn:isNil r.next=true
   ·have hrn':r.next = .nil:=by
     cases hd:r.next<;>rw [hd] at hrn<;>first|rfl|cases hrn
    rw [if_pos hrn] at hp
    obtain ⟨g1,g2,g3,g4,g5,g6,g7,g9,g10⟩:=h1 hrn'
    obtain ⟨q1,q2,q3,q4,q5,q6,q7,q9,q10,q8⟩:=hM { r.m with next := .nil }
    generalize MS.most { r.m with next := .nil }=M at *
    refine key _ _ hp hs r.ev rfl ⟨q1.trans g1,q2.trans g2,q3.trans g3,by show M.res.length≤_;rw [q4];show r.m.res.length≤_;omega,q5.trans g5,q6.trans g6,q7.trans g7,q9.trans g9,by show M.regs.length=_;rw [q10];exact g10,.inl q8⟩ ?_
    show getTodo M+1≤getTodo m
    have e1:M.prog=P:=q3.trans g3
    have e2:M.res.length=m.res.length+1:=by rw [q4];exact g4
    have e3:M.next = .nil:=q8
    unfold getTodo
    rw [e1,e2,e3,o3]
    show 3*(P.length - (m.res.length+1)) - 0+1≤_
    rcases e with e|e<;>rw [e]
    ·show _≤3*(P.length - m.res.length) - 1;omega
    ·show _≤3*(P.length - m.res.length) - 2;omega
   ·rw [if_neg hrn] at hp
    have hrn':r.next ≠ .nil:=by intro e;rw [e] at hrn;exact hrn rfl
    obtain ⟨g1,g2,g3⟩:=h2 hrn'
    rw [g1,g3] at hp
    refine key _ _ hp hs r.ev rfl ⟨o1,o2,o3,o4,o5,o6,o7,o9,o10,.inr ⟨o,.inr rfl,hk,hl⟩⟩ ?_
    show 3*(m.prog.length - m.res.length) - 2+1≤getTodo m
    unfold getTodo
    rw [g2,o3]
    show _≤3*(P.length - m.res.length) - 1
    omega
  rcases e with e|e
  ·have hst:∀ d,d=MD.start o→stepM x.s { m with spent:=m.spent+1 } d=startR x.s { m with spent:=m.spent+1 } o:=fun d e=>by rw [e];rfl
   have hR:(startR x.s { m with spent:=m.spent+1 } o).s=x.s∧((startR x.s { m with spent:=m.spent+1 } o).next = .nil∧(startR x.s { m with spent:=m.spent+1 } o).m=({ m with spent:=m.spent+1 }:MS).did (chk m.c o) 0∨(startR x.s { m with spent:=m.spent+1 } o).next = .get o∧(startR x.s { m with spent:=m.spent+1 } o).m={ m with spent:=m.spent+1 }):=by
    unfold startR
    rw [hk]
    split
    ·exact ⟨rfl,.inl ⟨rfl,rfl⟩⟩
    ·rw [if_neg (by decide),if_neg (by decide),if_neg (by decide),if_pos (by decide)]
     exact ⟨rfl,.inr ⟨rfl,rfl⟩⟩
   refine hgen _ (hst _ e) (by rw [e];rfl) hR.1 (fun hnil=>?_) (fun hne=>?_)
   ·rcases hR.2 with ⟨_,g⟩|⟨g,_⟩
    ·rw [g]
     exact ⟨o1,o2,o3,by show (m.res++[_]).length=_;simp,o5,o6,o7,o9,o10⟩
    ·rw [g] at hnil;cases hnil
   ·rcases hR.2 with ⟨g,_⟩|⟨g1,g2⟩
    ·exact absurd g hne
    ·exact ⟨g2,e,g1⟩
  ·have hst:∀ d,d=MD.get o→stepM x.s { m with spent:=m.spent+1 } d=gotR x.s { m with spent:=m.spent+1 } o.a (x.s.H.cellP o.b):=fun d e=>by rw [e];rfl
   refine hgen _ (hst _ e) (by rw [e];rfl) rfl (fun hnil=>?_) (fun hne=>absurd rfl hne)
   exact ⟨o1,o2,o3,by show (m.res++[_]).length=_;simp,o5,o6,o7,o9,by show (m.regs.set _ _).length=_;rw [List.length_set];exact o10⟩
end
theorem GetI.run {c:Conf} {H:HS} {n:Nat} {P:List OpR} (hP:∀ o∈P,o.k=4) (hn:1≤n):∀ (f:Nat) (x:WS),GetI c H n P x→(∀ m,x.muts[0]?=some m→getTodo m≤f)→GetI c H n P (runD f x)∧∀ m,(runD f x).muts[0]?=some m→doneM m=true
 | 0,x,h,ht=>by
   refine ⟨h,fun m hm=>?_⟩
   have h0:=ht m hm
   cases hd:doneM m with
   | true=>rfl
   | false =>
     obtain ⟨_,m',_,h2⟩:=h.pick hP hm hd
     omega
 | f+1,x,h,ht=>by
   obtain ⟨m,hm⟩:∃ m,x.muts[0]?=some m:=⟨x.muts[0]'(by rw [h.len];omega),List.getElem?_eq_getElem _⟩
   cases hd:doneM m with
   | true =>
     rw [runD_done hm hd]
     exact ⟨h,fun m' hm'=>by rw [hm] at hm';cases hm';exact hd⟩
   | false =>
     rw [runD_step hm hd]
     obtain ⟨h1,m',h2,h3⟩:=h.pick hP hm hd
     exact GetI.run hP hn f _ h1 (fun m2 hm2=>by rw [h2] at hm2;cases hm2;have:=ht m hm;omega)
theorem madeP_get (x:StP) (hr:x.rg.length≤20):GetI x.c.little (laidP (HS.new x.c.little x.c.little.b.toNat x.c.little.w.toNat x.c.little.c.toNat) x.sz x.fl x.ce) x.c.little.m.toNat (progR x.c.little.r x.rg x.rg.length) (madeP x)∧∀ m,(madeP x).muts[0]?=some m→doneM m=true:=by
 have hok:=ok_bounds (little_okC x.c)
 generalize hc:x.c.little=c at *
 have hP:∀ o∈progR c.r x.rg x.rg.length,o.k=4:=fun o ho=>by
  unfold progR at ho
  obtain ⟨k,_,rfl⟩:=List.mem_map.1 ho
  rfl
 have hat:∀ i m,(madeK c x c.m.toNat).muts[i]?=some m→m=MS.new c i (progOf c.r x.rg i):=fun i m hm=>by
  have hm':((List.range c.m.toNat).map (fun j=>MS.new c j (progOf c.r x.rg j)))[i]?=some m:=hm
  rw [List.getElem?_map] at hm'
  have hlt:i<c.m.toNat:=by
   rcases Nat.lt_or_ge i c.m.toNat with g|g
   ·exact g
   ·rw [List.getElem?_eq_none (by simpa using g)] at hm';cases hm'
  rw [List.getElem?_eq_getElem (by simpa using hlt)] at hm'
  simp at hm'
  exact hm'.symm
 have h0:GetI c (laidP (HS.new c c.b.toNat c.w.toNat c.c.toNat) x.sz x.fl x.ce) c.m.toNat (progR c.r x.rg x.rg.length) (madeK c x c.m.toNat):=by
  refine ⟨rfl,rfl,by show ((List.range c.m.toNat).map _).length=_;simp,fun i m hm hi=>?_,fun m hm=>?_⟩
  ·rw [hat i m hm]
   unfold progOf
   rw [if_neg (by omega)]
  ·rw [hat 0 m hm]
   exact ⟨rfl,rfl,rfl,Nat.zero_le _,rfl,rfl,rfl,rfl,by show (List.replicate c.r.toNat 0).length=_;simp,.inl rfl⟩
 have hm:madeP x=runD 300 (madeK c x c.m.toNat):=by unfold madeP;rw [hc]
 rw [hm]
 refine h0.run hP (by omega) 300 _ (fun m hm=>?_)
 rw [hat 0 m hm]
 unfold getTodo
 show 3*((progR c.r x.rg x.rg.length).length - 0) - 0≤300
 rw [progR_len];omega
end
section
section
variable {p:CP} {x y:WS} {s s':Sh} {m m':MS} {i j l l' ph ph' hf R mu bl ce κ:Nat} {H:HS} {dead:List Nat} {q:Qu}
structure CG0 (p:CP) (R:Nat):Prop where
 inv:HInv p.H
 bl:p.bl=p.H.b
 regs:∀ i,(p.regs i).length≤R
abbrev CP.rest (p:CP) (R:Nat) (x:WS):Nat:=p.phi (p.H.ww/2) R x
def mutsW:Nat→WS→WS
 | 0,x=>x
 | j+1,x=>pickW (mutsW j x) j
structure MR (p:CP) (R:Nat) (dead:List Nat) (x y:WS) (j:Nat):Prop where
 cyc:Cyc p y dead
 coll:y.coll=x.coll
 pend:∀ i:Nat,y.s.B.pend (i:Int)=true→x.s.B.pend (i:Int)=true
 le:p.rest R y≤p.rest R x
 lt:(∃ i:Nat,i<j∧x.s.B.pend (i:Int)=true)→p.rest R y+1≤p.rest R x
 same:∀ i:Nat,j≤i→y.s.B.pend (i:Int)=x.s.B.pend (i:Int)
end
end
section
def mayP (a b:Nat):Bool:=(a==b)||[(0,1),(1,2),(2,3),(3,4),(4,5),(5,4),(5,6),(6,7),(7,0)].contains (a,b)
def drOk (c:CS):Prop:=c.cycles≤c.drains+if c.phase=0∨5≤c.phase then 0 else 1
section
variable {p:CP} {x y:WS} {s s':Sh} {m m':MS} {i j l l' ph ph' hf R mu bl ce κ:Nat} {H:HS} {dead:List Nat} {q:Qu} {c:CS}
def startB (mu bl ce R hf:Nat):Nat :=
 let p:CP:=⟨⟨⟨0,0,0,0,0,0,0⟩,0,0,[],[],[],fun _=>false,fun _=>false,[]⟩,0,mu,bl,ce,0,fun _=>[]⟩
 mu*(8*R+5)+(mu+(2+p.ak R+p.ak R+p.rT hf R))+bl*hf*p.big hf R+p.dr R
end
def mostN (bl w mu R ce l:Nat):Nat :=
 (2*(bl*(w/2))+6)*(40*(bl*(w/2))+2*mu*(l+4)+2*ce+(64+4*l+w)+(16+R*(l+8)+4*l)+40)+(2*bl*(w+8)+3*(64+4*l+w)+2*(16+R*(l+8)+4*l)+4*mu+60)
end
end Go.Proofs.YtanfphjoebobaaaGreatDoor
