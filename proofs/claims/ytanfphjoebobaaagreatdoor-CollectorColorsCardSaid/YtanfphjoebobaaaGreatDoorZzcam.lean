/- Parts of a walk, put together and made shorter by a program of mine. No conditions. -/
import Derived.Test.YtanfphjoebobaaaGreatDoorZzcs
import Derived.Test.YtanfphjoebobaaaGreatDoorZzcg
import Derived.Test.YtanfphjoebobaaaGreatDoorZzcag
import Derived.Test.YtanfphjoebobaaaGreatDoorZzcal
namespace Go.Proofs.YtanfphjoebobaaaGreatDoor
set_option maxRecDepth 8000
set_option maxHeartbeats 8000000
section
attribute [local go_sem] Oper.semAt_some
open Go.RowKit
def lX:MD→Prop
 | .nil=>True
 | .once _=>True
 | .note _ _ t=>lX t
 | .add _ t=>lX t
 | .pour _ t=>lX t
 | .dG _ _ t=>lX t
 | .raise t=>lX t
 | .get _=>True
 | .start o=>o.k=4
 | _=>False
def Qp (m:MS):Prop:=lX m.next∧∀ o∈m.prog,o.k=4
section
variable {o:Ow} {w w':World} {G:Geo} {g:MG} {s:Sh} {m:MS} {nv:Value} {ev:Option Ev} {N:Nat}
theorem KP (h:MAt o w G g s m none nv) (op:OpR) (hk:op.k=4) (hres:m.res.length≤1000000000):Calls Tryz.prog 93 #[.pointer (some ⟨g.M,0,none⟩),.agg op.cells.toArray] w (aG o w G g nv m.id (fK s m op)):=by
 by_cases he:chk m.c op=0
 case neg =>
  have e1:fK s m op=jS s m (chk m.c op) 0:=by unfold fK;rw [if_pos he]
  rw [e1]
  exact JL h op he hres
 have e0:fK s m op=⟨s,m,.get op,none⟩:=by
  unfold fK
  rw [if_neg (by simpa using he),if_neg (by omega),if_neg (by omega),if_neg (by omega),if_pos hk]
 rw [e0]
 exact Nb h op he 187 (by rw [hk];rfl) (fun args w=>by simp [callFunc,Tryz.func187,go_sem];rfl) _ (fun W k=>by
  have h9:=MZ (h.still k) op
  exact h9)
theorem CO (d:MD) (hf:lX d):wL d:=by
 intro o w G g s m nv N h ok hN hd v hv hnil
 have hres:m.res.length≤1000000000:=Nat.le_trans ok.res hN
 cases d with
 | nil=>cases hnil
 | add x t =>
   obtain ⟨tv,ht,bs,e,hc⟩:=hv
   obtain ⟨b0,b1,b2,rfl,⟨o0,k0⟩,⟨o1,k1⟩,⟨o2,k2⟩⟩:=caps3 hc
   refine ⟨_,_,e,zl,(BJ h x t tv ht b0 b1 b2 o0 o1 o2 k0 k1 k2).mono ?_⟩
   rintro e w' ⟨rfl,h1,h2,h3⟩
   have ee:(stepM s m (.add x t)).next=t∧(stepM s m (.add x t)).ev=none:=by
    simp only [stepM]
    split<;>exact ⟨rfl,rfl⟩
   refine aG.same (by rw [ee.2];exact h1) (by rw [ee.1];exact h2) h3
 | start o =>
   obtain ⟨bs,e,hc⟩:=JM h o v hv (KP h o hf hres)
   exact ⟨_,bs,e,Ah,hc⟩
 | once k =>
   obtain ⟨bs,e,hc⟩:=JO h k v hv ok.color
   exact ⟨_,bs,e,Ai,hc⟩
 | note x c t =>
   obtain ⟨bs,e,hc⟩:=JF h x c t v hv
   exact ⟨_,bs,e,zo,hc⟩
 | pour c t =>
   obtain ⟨bs,e,hc⟩:=JG h c t v hv
   exact ⟨_,bs,e,zq,hc⟩
 | dG c f t =>
   obtain ⟨bs,e,hc⟩:=GU h c f t v hv
   exact ⟨_,bs,e,yg,hc⟩
 | raise t =>
   obtain ⟨bs,e,hc⟩:=GR h t v hv
   exact ⟨_,bs,e,vC,hc⟩
 | get o =>
   obtain ⟨bs,e,hc⟩:=MW h o v hv hd.1 hd.2 hres
   exact ⟨_,bs,e,EL,hc⟩
 | _=>exact hf.elim
end
theorem Oe {v c:Nat} {t:MD} (h:lX t):lX (iP v c t):=by
 unfold iP
 split<;>exact h
theorem CQ {m:MS} {c:Nat} {t:MD} (h:lX t):lX (m.iQ c t):=by
 unfold MS.iQ
 split<;>exact h
theorem CU (w:Nat):∀ l:List Nat,lX (iJ w l)
 | []=>trivial
 | v::l=>Oe (CU w l)
theorem KQ (s:Sh) {m:MS} (h:∀ o∈m.prog,o.k=4):lX (bI s m):=by
 unfold bI
 split
 ·split
  ·exact CU _ _
  ·split
   ·exact CQ trivial
   ·trivial
 ·split
  ·rename_i o ho
   exact h o (List.mem_of_getElem? ho)
  ·trivial
theorem Og (s:Sh) (m:MS) (d:MD) (h:lX d):lX (stepM s m d).next∧(stepM s m d).m.prog=m.prog:=by
 cases d with
 | nil=>exact ⟨trivial,rfl⟩
 | once k =>
   refine ⟨trivial,?_⟩
   show (dZ m k).prog=m.prog
   unfold dZ
   repeat' split
   all_goals rfl
 | note v c t =>
   simp only [stepM]
   split
   ·exact ⟨h,rfl⟩
   ·split
    ·exact ⟨CQ h,rfl⟩
    ·exact ⟨h,rfl⟩
 | add v t =>
   simp only [stepM]
   split<;>exact ⟨h,rfl⟩
 | pour c t =>
   simp only [stepM]
   split<;>exact ⟨h,rfl⟩
 | dG c f t =>
   simp only [stepM]
   refine ⟨?_,trivial⟩
   split
   ·exact h
   ·split<;>exact h
 | raise t=>exact ⟨h,rfl⟩
 | get o=>exact ⟨trivial,rfl⟩
 | start o =>
   have hk:o.k=4:=h
   have e:fK s m o=jS s m (chk m.c o) 0∨fK s m o=⟨s,m,.get o,none⟩:=by
    unfold fK
    by_cases hc:chk m.c o≠0
    ·rw [if_pos hc];exact .inl rfl
    ·rw [if_neg hc,if_neg (by omega),if_neg (by omega),if_neg (by omega),if_pos hk]
     exact .inr rfl
   show lX (fK s m o).next∧(fK s m o).m.prog=m.prog
   rcases e with e|e<;>rw [e]<;>exact ⟨True.intro,rfl⟩
 | _=>exact h.elim
theorem Qq (s:Sh) {m:MS} (h:Qp m):Qp (aQ s m).2.1:=by
 unfold aQ
 split
 ·exact ⟨KQ s h.2,h.2⟩
 ·obtain ⟨h1,h2⟩:=Og s { m with spent:=m.spent+1 } m.next h.1
  generalize stepM s { m with spent:=m.spent+1 } m.next=r at *
  simp only
  split
  ·have e:∀ M:MS,M.most.next=M.next∧M.most.prog=M.prog:=fun M=>by
    unfold MS.most
    split<;>exact ⟨rfl,rfl⟩
   refine ⟨by rw [(e _).1];trivial,by rw [(e _).2];intro o ho;exact h.2 o (by rw [← h2];exact ho)⟩
  ·exact ⟨h1,fun o ho=>h.2 o (by rw [← h2];exact ho)⟩
def nN (x:WS):Prop:=∀ m∈x.muts,Qp m
theorem oL {x:WS} (h:nN x) (i:Nat):nN (bC x i):=by
 have tl:∀ (y:WS) ev,(y.tell ev).muts=y.muts:=fun y ev=>by cases ev<;>rfl
 intro m hm
 unfold bC at hm
 cases hi:x.muts[i]? with
 | some m0 =>
   rw [hi] at hm
   simp only [tl] at hm
   rcases List.mem_or_eq_of_mem_set hm with g|g
   ·exact h m g
   ·rw [g];exact Qq _ (h m0 (List.mem_of_getElem? hi))
 | none =>
   rw [hi] at hm
   simp only at hm
   split at hm
   ·rw [tl] at hm;exact h m hm
   ·rw [tl] at hm;exact h m hm
end
section
attribute [local go_sem ↓] jZ
attribute [local go_sem] Oper.semAt_some
open Go.RowKit
section
variable {o o':Ow} {w w' W W':World} {G:Geo} {gs:List MG} {q:CG} {x:StP} {v:Value} {a1 a2 a3 a4:Option Addr} {n1 n2 n3 n4 p1 p2 p3 p4:Nat}
theorem Sm {e:TypeId} {base g n cap size:Nat} {xs:List Value} (h:w.ownsRow 0 e size (.slice (some ⟨g,0,none⟩) n cap) n xs) (hg:base≤g):w.ownsRow base e size (.slice (some ⟨g,0,none⟩) n cap) n xs:=by
 obtain ⟨h1,h2⟩:=h
 refine ⟨h1,?_⟩
 rcases h2 with ⟨e1,_⟩|⟨g',cap',cur,e1,_,rest⟩
 ·cases e1
 ·cases e1
  exact .inr ⟨g,cap,cur,rfl,hg,rest⟩
structure wu (w:World) (x:StP) (a1 a2 a3 a4:Option Addr) (n1 n2 n3 n4:Nat):Prop where
 s:U8s w a1 n1 x.sz
 f:U8s w a2 n2 x.fl
 c:U8s w a3 n3 x.ce
 r:U8s w a4 n4 x.rg
theorem wu.still (h:wu w x a1 a2 a3 a4 n1 n2 n3 n4) (k:Keep none_ w w'):wu w' x a1 a2 a3 a4 n1 n2 n3 n4:=⟨h.s.still k,h.f.still k,h.c.still k,h.r.still k⟩
abbrev oN (c:aB) (a1 a2 a3 a4:Option Addr) (n1 n2 n3 n4 p1 p2 p3 p4:Nat):Value := .agg #[.int .i64 c.b,.int .i64 c.w,.int .i64 c.m,.int .i64 c.r,.int .i64 c.c,.int .i64 c.l,.int .i64 c.s,.slice a1 n1 p1,.slice a2 n2 p2,.slice a3 n3 p3,.slice a4 n4 p4]
theorem wz {fn:Func} {t u v z:Tmp} (h:fn.results=#[.tmp t,.tmp u,.tmp v,.tmp z]) (tmps:Array Value) (P:Program) (w:World) :
 (results fn tmps).run P w = .ok (.tuple #[tmps.getD t undef,tmps.getD u undef,tmps.getD v undef,tmps.getD z undef]) w:=by
 simp [results,h]
theorem CV (c:aB) (x:StP) (n:Nat):nN (eH c x n):=by
 intro m hm
 have hm':m∈(List.range n).map (fun j=>MS.new c j (kG c.r x.rg j)):=hm
 obtain ⟨j,_,rfl⟩:=List.mem_map.1 hm'
 refine ⟨trivial,fun o ho=>?_⟩
 have ho':o∈kG c.r x.rg j:=ho
 unfold kG at ho'
 split at ho'
 ·unfold jH at ho'
  obtain ⟨k,_,rfl⟩:=List.mem_map.1 ho'
  rfl
 ·cases ho'
def wS (w:World) (x:StP) (e:Ending) (w':World):Prop :=
 ∃ (o:Ow) (G:Geo) (q:CG) (gs:List MG) (mv:Value) (a:Option Addr) (c:Nat),e = .returned (.tuple #[.pointer (some ⟨G.S,0,none⟩),.pointer (some ⟨q.C,0,none⟩),mv,.slice a (bP (HS.new x.c.little x.c.little.b.toNat x.c.little.w.toNat x.c.little.c.toNat) x.sz).objs.length c]) ∧
  CW w w' o G gs q (dN x)∧WOk 300 (dN x)∧fV o w' mv gs ∧
  aV o w' 3 (.slice a (bP (HS.new x.c.little x.c.little.b.toNat x.c.little.w.toNat x.c.little.c.toNat) x.sz).objs.length c) (aC (bP (HS.new x.c.little x.c.little.b.toNat x.c.little.w.toNat x.c.little.c.toNat) x.sz).objs)
theorem au.hbd {D:Nat→Nat} {H:HS} (h:au w D H):HBd H:=by
 have hn:=h.nat
 refine ⟨Ci H,fun b=>Nat.le_trans (yE H b) ?_⟩
 have:H.ww/2≤H.ww:=Nat.div_le_self _ _
 omega
theorem CW.base {y:WS} (h:CW W' W o G gs q y) (k:Keep none_ w W'):CW w W o G gs q y:=⟨h.coll,h.len,h.bV,fun b hb=>h.low b (Nat.lt_of_lt_of_le hb k.size),k.trans h.keep⟩
structure CWz (o0:Ow) (w W:World) (o:Ow) (G:Geo) (gs:List MG) (q:CG) (x:WS):Prop extends CW w W o G gs q x where
 ex:∀ b,b<w.heap.size→o b=o0 b
section
variable {y:WS} {o0:Ow}
theorem CWz.of {gs':List MG} {y':WS} (h:CWz o0 w W o G gs q y) (h':CW w W' o' G gs' q y') (e:aH W o o'):CWz o0 w W' o' G gs' q y':=⟨h',fun b hb=>(e b (Nat.lt_of_lt_of_le hb h.keep.size)).trans (h.ex b hb)⟩
theorem CWz.nG (h:CWz o0 w W o G gs q y) (k:Keep none_ W W'):CWz o0 w W' o G gs q y:=⟨h.toCW.nG k,h.ex⟩
theorem CWz.base (h:CWz o0 W' W o G gs q y) (k:Keep none_ w W'):CWz o0 w W o G gs q y:=⟨h.toCW.base k,fun b hb=>h.ex b (Nat.lt_of_lt_of_le hb k.size)⟩
theorem CWz.pick {N:Nat} (h:CWz o0 w W o G gs q y) (ok:WOk N y) (hN:N≤1000000000) {g:MG} {i:Nat} {m:MS} (hg:gs[i]?=some g) (hm:y.muts[i]?=some m) (hst:wL m.next):Calls Tryz.prog 24 #[.pointer (some ⟨g.M,0,none⟩)] W fun e W'=>e = .returned (.tuple #[lC (aQ y.s m).2.2,jQ (aQ y.s m).2.2])∧∃ o',aH W o o'∧CWz o0 w W' o' G gs q (bC y i)∧Keep (In o (bg i)) W W':=by
 refine (h.toCW.pick ok hN hg hm hst).mono ?_
 rintro e W' ⟨h1,o',h2,h3,h4⟩
 exact ⟨h1,o',h2,h.of h3 h2,h4⟩
theorem fV.U7 {g:MG} {gs2:List MG} (h:fV o W v gs) (hc:CWz o0 w W o G gs2 q y) {N:Nat} (hN:W.cell? ⟨N,0,none⟩=some (ah g.M)) (hl:gs.length≤100):∃ b cap W5,(app9 #[31,31] 31 #[v,.slice (some ⟨N,0,none⟩) 1 1]).run Tryz.prog W = .ok (.slice (some ⟨b,0,none⟩) (gs.length+1) cap) W5 ∧
 ∃ o',aH W o o'∧CWz o0 w W5 o' G gs2 q y∧fV o' W5 (.slice (some ⟨b,0,none⟩) (gs.length+1) cap) (gs++[g])∧Keep (In o [97]) W W5:=by
 obtain ⟨b,cap,W5,hrun,o',h1,h2,h3,h4⟩:=h.grow hc.toCW hN hl
 exact ⟨b,cap,W5,hrun,o',h1,hc.of h2 h1,h3,h4⟩
end
theorem wB {y:WS} {m:MS} (hm:y.muts[0]?=some m) (hd:fU m=true):∀ f,jV f y=y
 | 0=>rfl
 | f+1=>by
   unfold jV
   cases hl:y.muts with
   | nil=>rfl
   | cons m' r =>
     rw [hl] at hm
     cases hm
     simp only [hd,if_true]
theorem CY {y:WS} {m:MS} (hm:y.muts[0]?=some m) (hd:fU m=false) (f:Nat):jV (f+1) y=jV f (bC y 0):=by
 show (match y.muts with|[]=>y|m::_=>if fU m then y else jV f (bC y 0))=_
 cases hl:y.muts with
 | nil=>rw [hl] at hm;cases hm
 | cons m' r =>
   rw [hl] at hm
   cases hm
   simp only [hd,Bool.false_eq_true,if_false]
theorem Qr {c:aB} {x:StP} {n:Nat} (hok:c.ok=true) (hn:c.m=(n:Int)):WOk 0 (eH c x n):=by
 have hb:=dW hok
 have hq:∀ k,(eH c x n).s.Q.rw k=[]:=fun k=>by
  show ([[],[],[],[]]:List (List Int)).getD k []=[]
  match k with
  | 0=>rfl
  | 1=>rfl
  | 2=>rfl
  | 3=>rfl
  | k+4=>rfl
 have hqo:QOk (eH c x n).s:=fun k b hx=>by rw [hq k] at hx;cases hx
 have hl:(eH c x n).s.boxes.length=n:=by
  show (List.replicate c.m.toNat []).length=n
  rw [List.length_replicate];omega
 refine ⟨by show ((List.range n).map _).length=c.m.toNat;simp;omega,fun i m hm=>?_,?_,Nat.le_refl _,Nat.le_refl _⟩
 ·have hm':((List.range n).map (fun j=>MS.new c j (kG c.r x.rg j)))[i]?=some m:=hm
  rw [List.getElem?_map] at hm'
  have hlt:i<n:=by
   rcases Nat.lt_or_ge i n with g|g
   ·exact g
   ·rw [List.getElem?_eq_none (by simpa using g)] at hm';cases hm'
  rw [List.getElem?_eq_getElem (by simpa using hlt)] at hm'
  simp at hm'
  subst hm'
  exact ⟨rfl,Pok.first i _ hqo rfl (by omega)⟩
 ·have:CS.new c c.m.toNat=CS.new c n:=by rw [show c.m.toNat=n by omega]
  show Cok 0 (eH c x n).s (CS.new c c.m.toNat)
  rw [this]
  exact CK.first hok hn hl hqo rfl hq rfl
def uI (o0:Ow) (w:World) (x:StP) (e:Ending) (w':World):Prop :=
 ∃ (o:Ow) (G:Geo) (q:CG) (gs:List MG) (mv:Value) (a:Option Addr) (c:Nat),e = .returned (.tuple #[.pointer (some ⟨G.S,0,none⟩),.pointer (some ⟨q.C,0,none⟩),mv,.slice a (bP (HS.new x.c.little x.c.little.b.toNat x.c.little.w.toNat x.c.little.c.toNat) x.sz).objs.length c]) ∧
  CWz o0 w w' o G gs q (dN x)∧WOk 300 (dN x)∧fV o w' mv gs ∧
  aV o w' 3 (.slice a (bP (HS.new x.c.little x.c.little.b.toNat x.c.little.w.toNat x.c.little.c.toNat) x.sz).objs.length c) (aC (bP (HS.new x.c.little x.c.little.b.toNat x.c.little.w.toNat x.c.little.c.toNat) x.sz).objs)
theorem uI.r {o0:Ow} {e:Ending} (h:uI o0 w x e w'):wS w x e w':=by
 obtain ⟨o,G,q,gs,mv,a,c,h1,h2,h3,h4,h5⟩:=h
 exact ⟨o,G,q,gs,mv,a,c,h1,h2.toCW,h3,h4,h5⟩
theorem Qs (o0:Ow) (hz:∀ b,o0 b=0∨o0 b=49) (hz0:o0 3=0∧o0 4=0∧o0 2=0) (hL:Laid w) (h:wu w x a1 a2 a3 a4 n1 n2 n3 n4) (m1:n1≤30) (m2:n2≤100) (m3:n3≤20) (m4:n4≤20):Calls Tryz.prog 11 #[oN x.c a1 a2 a3 a4 n1 n2 n3 n4 p1 p2 p3 p4] w (uI o0 w x):=by
 obtain ⟨W0,hW0⟩:∃ W',W'=w.alloc (.cells #[.int .i64 x.c.b,.int .i64 x.c.w,.int .i64 x.c.m,.int .i64 x.c.r,.int .i64 x.c.c,.int .i64 x.c.l,.int .i64 x.c.s,.slice a1 n1 p1,.slice a2 n2 p2,.slice a3 n3 p3,.slice a4 n4 p4] 26):=⟨_,rfl⟩
 have k0:Keep none_ w W0:=by rw [hW0];exact (Keep.refl _ _).alloc _
 have hbx:Blk W0 w.heap.size [.int .i64 x.c.b,.int .i64 x.c.w,.int .i64 x.c.m,.int .i64 x.c.r,.int .i64 x.c.c,.int .i64 x.c.l,.int .i64 x.c.s,.slice a1 n1 p1,.slice a2 n2 p2,.slice a3 n3 p3,.slice a4 n4 p4] 26:=by rw [hW0];exact Blk.new w _ _
 have y0:=hbx.cell 0 rfl;have y1:=hbx.cell 1 rfl;have y2:=hbx.cell 2 rfl;have y3:=hbx.cell 3 rfl;have y4:=hbx.cell 4 rfl;have y5:=hbx.cell 5 rfl;have y6:=hbx.cell 6 rfl
 have HLI:Hid (Calls Tryz.prog 38 #[.agg #[.int .i64 x.c.b,.int .i64 x.c.w,.int .i64 x.c.m,.int .i64 x.c.r,.int .i64 x.c.c,.int .i64 x.c.l,.int .i64 x.c.s]] W0 fun e w'=>e = .returned (.agg x.c.little.cells.toArray)∧Keep none_ W0 w'):=IX x.c W0
 obtain ⟨qc,hqc⟩:∃ qc,qc=x.c.little:=⟨_,rfl⟩
 rw [← hqc] at HLI
 have KT:qc.ok=true:=by rw [hqc];exact pV x.c
 have hqb:=dW KT
 obtain ⟨b,hb⟩:∃ b:Nat,qc.b=b:=⟨qc.b.toNat,by omega⟩
 obtain ⟨ww,hw⟩:∃ b:Nat,qc.w=b:=⟨qc.w.toNat,by omega⟩
 obtain ⟨nc,hc⟩:∃ b:Nat,qc.c=b:=⟨qc.c.toNat,by omega⟩
 obtain ⟨n,hn⟩:∃ b:Nat,qc.m=b:=⟨qc.m.toNat,by omega⟩
 obtain ⟨r,hr⟩:∃ b:Nat,qc.r=b:=⟨qc.r.toNat,by omega⟩
 have HSH:Hid (∀ W,Keep none_ w W→Calls Tryz.prog 39 #[.agg qc.cells.toArray] W fun e w'=>∃ (o:Ow) (G:Geo),e = .returned (.tuple #[.pointer (some ⟨G.S,0,none⟩),.int .i64 0])∧ShAt o w' G (Sh.new qc b ww nc n)∧(∀ x,x<W.heap.size→o x=o0 x)∧Keep none_ W w'):=fun W hW=>by
  have hl:=hL.still hW
  refine (NH o0 hz0 qc b ww nc n KT hb hw hc hn W hl.t hl.s hl.g).mono ?_
  rintro e w' ⟨o,G,rfl,g1,g2,_,g4⟩
  exact ⟨o,G,rfl,g1,g2,g4⟩
 have HNW:Hid (∀ (W2 W:World) (o:Ow) G,Keep none_ w W2→ShAt o W G (Sh.new qc b ww nc n)→(∀ x,x<W2.heap.size→o x=o0 x)→Keep none_ W2 W→Calls Tryz.prog 13 #[.pointer (some ⟨G.S,0,none⟩)] W fun e w'=>∃ (o':Ow) (q:CG),e = .returned (.tuple #[.pointer (some ⟨q.C,0,none⟩),.int .i64 0])∧CWz o0 W2 w' o' G [] q ⟨Sh.new qc b ww nc n,[],CS.new qc n,[],0⟩∧Keep none_ W w'):=fun W2 W o G hk hsh hlow hk2=>by
  have hl8:(Sh.new qc b ww nc n).boxes.length=n:=by simp [Sh.new]
  refine (Kq hsh (by rw [hl8];omega)).mono ?_
  rintro e w' ⟨o',q,rfl,e1,hc',_,k⟩
  rw [hl8] at hc'
  exact ⟨o',q,rfl,⟨⟨hc',rfl,fun i g m hg _=>by simp at hg,fun b hb=>by rw [e1 b (Nat.lt_of_lt_of_le hb hk2.size),hlow b hb];exact hz b,hk2.trans k⟩,fun b hb=>(e1 b (Nat.lt_of_lt_of_le hb hk2.size)).trans (hlow b hb)⟩,k⟩
 have HLA:Hid (∀ (W2 W:World) (o:Ow) G q,Keep none_ w W2→CWz o0 W2 W o G [] q ⟨Sh.new qc b ww nc n,[],CS.new qc n,[],0⟩→Calls Tryz.prog 40 #[.pointer (some ⟨G.D 0,0,none⟩),oN x.c a1 a2 a3 a4 n1 n2 n3 n4 p1 p2 p3 p4] W fun e w'=>∃ a c,e = .returned (.slice a (bP (HS.new qc b ww nc) x.sz).objs.length c)∧aV o w' 3 (.slice a (bP (HS.new qc b ww nc) x.sz).objs.length c) (aC (bP (HS.new qc b ww nc) x.sz).objs)∧CWz o0 W2 w' o G [] q (eH qc x 0)):=fun W2 W o G q hk hcw=>by
  have hkw:Keep none_ w W:=hk.trans hcw.keep
  have hlow:∀ b,b<w.heap.size→o b=0∨o b=49:=fun b hb=>hcw.low b (Nat.lt_of_lt_of_le hb hk.size)
  have hnd:∀ W',Keep (HF G.D) W W'→Keep none_ w W':=fun W' k=>hkw.trans' k (fun i hi hin=>absurd hin (hcw.coll.sh.VF hlow hi))
  have hb0:qc.b.toNat=b:=by omega
  have hw0:qc.w.toNat=ww:=by omega
  have hc0:qc.c.toNat=nc:=by omega
  have hm0:qc.m.toNat=n:=by omega
  refine (Qk (p4:=p4) hcw.coll.sh.heap (fun W' k=>hL.b.still (hnd W' k)) x.c.b x.c.w x.c.m x.c.r x.c.c x.c.l x.c.s x.sz x.fl x.ce (fun W' k=>h.s.still (hnd W' k)) (fun W' k=>h.f.still (hnd W' k)) (fun W' k=>h.c.still (hnd W' k)) m1 m2 m3).mono ?_
  rintro e w' ⟨v,rfl,g1,g2,g3,g4⟩
  obtain ⟨a,c,rfl,_⟩:=jk (dP g1 (Nat.zero_le _))
  have h9:=hcw.of (hcw.setH g3 g2 (Iw _ _ _ _)).1 (aH.refl _ _)
  refine ⟨a,c,rfl,aV.pJ g1 (by omega) (fun b hb=>hcw.coll.sh.fut b hb),?_⟩
  unfold eH
  rw [hb0,hw0,hc0,hm0]
  exact h9
 have hce:qc.cells=[.int .i64 (b:Int),.int .i64 (ww:Int),.int .i64 (n:Int),.int .i64 (r:Int),.int .i64 (nc:Int),.int .i64 qc.l,.int .i64 qc.s]:=by unfold aB.cells;rw [hb,hw,hn,hr,hc]
 rw [hce] at HLI HSH
 have HMD:Hid (∀ W e,(∃ (o:Ow) (G:Geo) (q:CG) (gs:List MG) (mv:Value) (a:Option Addr) (c:Nat),e = .returned (.tuple #[.pointer (some ⟨G.S,0,none⟩),.pointer (some ⟨q.C,0,none⟩),mv,.slice a (bP (HS.new qc b ww nc) x.sz).objs.length c])∧CWz o0 w W o G gs q (jV 300 (eH qc x n))∧WOk 300 (jV 300 (eH qc x n))∧fV o W mv gs∧aV o W 3 (.slice a (bP (HS.new qc b ww nc) x.sz).objs.length c) (aC (bP (HS.new qc b ww nc) x.sz).objs))→uI o0 w x e W):=fun W e hh=>by
  unfold uI dN
  rw [← hqc]
  have hb0:qc.b.toNat=b:=by omega
  have hw0:qc.w.toNat=ww:=by omega
  have hc0:qc.c.toNat=nc:=by omega
  have hm0:qc.m.toNat=n:=by omega
  rw [hb0,hw0,hc0,hm0]
  exact hh
 have hn8:n≤8∧1≤n:=by omega
 have hr64:1≤r∧r≤64:=by omega
 have HMN:Hid (qc.m.toNat=n):=by show _=_;omega
 have VL:Hid (WOk 0 (eH qc x n)):=Qr KT hn
 have HRR:Hid (qc.r=(r:Int)):=hr
 have HK0:=Lib.hid k0
 have Ut:=Lib.hid hbx
 have HW0:=Lib.hid hW0
 have HST:=Lib.hid h
 rw [hW0] at y0 y1 y2 y3 y4 y5 y6
 generalize uI o0 w x=PO at *
 generalize (bP (HS.new qc b ww nc) x.sz).objs=objs at *
 clear KT hqb hb hw hc hn hr hce hqc k0 hbx hW0 hL h
 go_enter Tryz.func11,Tryz.ntmps11
 go_wp2_with fail
 rw [← HW0.out]
 refine HLI.out.mono ?_
 rintro e w1 ⟨rfl,k1⟩
 obtain ⟨W2,hW2⟩:∃ W2,W2=w1.alloc (.cells #[.int .i64 (b:Int),.int .i64 (ww:Int),.int .i64 (n:Int),.int .i64 (r:Int),.int .i64 (nc:Int),.int .i64 qc.l,.int .i64 qc.s] 23):=⟨_,rfl⟩
 have k2:Keep none_ W0 W2:=by rw [hW2];exact k1.alloc _
 have hcb:Blk W2 w1.heap.size [.int .i64 (b:Int),.int .i64 (ww:Int),.int .i64 (n:Int),.int .i64 (r:Int),.int .i64 (nc:Int),.int .i64 qc.l,.int .i64 qc.s] 23:=by rw [hW2];exact Blk.new w1 _ _
 have z0:=hcb.cell 0 rfl;have z1:=hcb.cell 1 rfl;have z2:=hcb.cell 2 rfl;have z3:=hcb.cell 3 rfl;have z4:=hcb.cell 4 rfl;have z5:=hcb.cell 5 rfl;have z6:=hcb.cell 6 rfl
 have HK2:Hid (Keep none_ w W2):=HK0.out.trans k2
 have Uu:Hid (Blk W2 w.heap.size [.int .i64 x.c.b,.int .i64 x.c.w,.int .i64 x.c.m,.int .i64 x.c.r,.int .i64 x.c.c,.int .i64 x.c.l,.int .i64 x.c.s,.slice a1 n1 p1,.slice a2 n2 p2,.slice a3 n3 p3,.slice a4 n4 p4] 26):=k2.blk Ut.out (fun f=>f)
 have HCB:=Lib.hid hcb
 have HW2:=Lib.hid hW2
 rw [hW2] at z0 z1 z2 z3 z4 z5 z6
 clear y0 y1 y2 y3 y4 y5 y6 k1 k2 hcb hW2 HLI HK0 Ut HW0
 go_wp2_with fail
 rw [← HW2.out]
 clear z0 z1 z2 z3 z4 z5 z6
 refine (HSH.out W2 HK2.out).mono ?_
 rintro e w3 ⟨o3,G,rfl,hsh3,hlow3,k3⟩
 have HN3:=Lib.hid (HNW.out W2 w3 o3 G HK2.out hsh3 hlow3 k3)
 clear hsh3 hlow3 k3 HSH HNW
 go_wp2_with fail
 refine HN3.out.mono ?_
 rintro e w4 ⟨o4,q,rfl,hcw4,k4⟩
 have hG4:=hcw4.coll.sh.qK.1
 have kw4:=hcw4.keep
 have hbx4:=kw4.blk Uu.out (fun f=>f)
 have Uw:CWz o0 W2 w4.drew o4 G [] q ⟨Sh.new qc b ww nc n,[],CS.new qc n,[],0⟩:=hcw4.nG (Keep.refl none_ w4).drew
 have Ux:=Lib.hid (HLA.out W2 w4.drew o4 G q HK2.out Uw)
 have y0:=hbx4.cell 0 rfl;have y1:=hbx4.cell 1 rfl;have y2:=hbx4.cell 2 rfl;have y3:=hbx4.cell 3 rfl;have y4:=hbx4.cell 4 rfl;have y5:=hbx4.cell 5 rfl;have y6:=hbx4.cell 6 rfl;have y7:=hbx4.cell 7 rfl;have y8:=hbx4.cell 8 rfl;have y9:=hbx4.cell 9 rfl;have y10:=hbx4.cell 10 rfl
 clear hcw4 k4 HLA HN3 kw4 hbx4 Uw
 go_wp2_with fail
 refine aA 5 rfl (by kernel_rfl) (by kernel_rfl) (fun K hK=>?_)
 change wpStill _ _ (World.drew _) _ _ _
 simp only [List.take_succ_cons,List.take_zero,List.drop_succ_cons,List.drop_zero] at hK ⊢
 repeat still_step
 refine wpStill_nil ?_
 change ite _ (Oper.wp _ _ _ _ _ _) _
 go_simp
 refine Ux.out.mono ?_
 rintro e w5 ⟨a,c,rfl,hrow5,hcw5⟩
 refine hK _ _ ?_
 clear hK K
 have Uy:=Lib.hid hcw5
 have QJ:=Lib.hid hrow5
 clear hcw5 hrow5 Ux hG4 y0 y1 y2 y3 y4 y5 y6 y7 y8 y9 y10
 repeat still_step
 refine wpStill_nil ?_
 go_wp2_with fail
 have HI0:Hid (∃ (o:Ow) (gs:List MG),CWz o0 W2 w5 o G gs q (eH qc x 0)∧fV o w5 (.slice none 0 0) gs∧gs.length=0∧aV o w5 3 (.slice a objs.length c) (aC objs)):=⟨o4,[],Uy.out,⟨⟨rfl,.inl ⟨rfl,rfl⟩⟩,fun b hb=>by cases hb⟩,rfl,QJ.out⟩
 clear Uy QJ
 go_loopw [12,13,14,15,16,17] (fun mv iv _ _ _ _ wr=>∃ (i:Nat) (o:Ow) (gs:List MG) (ma:Option Addr) (mc:Nat),i≤n∧iv = .int .i64 i∧mv = .slice ma i mc∧CWz o0 W2 wr o G gs q (eH qc x i)∧fV o wr (.slice ma i mc) gs∧gs.length=i∧aV o wr 3 (.slice a objs.length c) (aC objs)) (fun _ iv _ _ _ _ _=>n - (intOf iv).toNat)
 case atStart =>
  obtain ⟨o,gs,h1,h2,h3,h4⟩:=HI0.out
  exact ⟨0,o,gs,none,0,Nat.zero_le _,rfl,rfl,h1,h2,h3,h4⟩
 case round =>
  obtain ⟨i,o,gs,ma,mc,hi,rfl,rfl,hcw,hmv,hgl,hrow⟩:=hrel
  have Qv:=hcw.keep.blk Uu.out (fun f=>f)
  have KU:=hcw.keep.blk HCB.out (fun f=>f)
  have z2:=KU.cell 2 (v := .int .i64 (n:Int)) rfl
  by_cases hlt:i<n
  ·have oV:(i:Int)<(n:Int):=by omega
   have hi8:(i:Int)≤8:=by omega
   have HCW:=Lib.hid hcw
   have HMV:=Lib.hid hmv
   have HRO:=Lib.hid hrow
   have Uz:=Lib.hid Qv
   have UA:=Lib.hid KU
   have HP0:Hid (wr.ownsRow wr.heap.size 83 4 (.slice none 0 0) 0 (fP (jH r x.rg 0)).flatten∧Keep none_ wr wr):=⟨⟨rfl,.inl ⟨rfl,rfl⟩⟩,Keep.refl _ _⟩
   clear hcw hmv hrow Qv KU
   go_wp2_with fail
   clear z2
   generalize wr=Wo at *
   go_loopw [14,15] (fun pv kv wr=>∃ (j:Nat) (pa:Option Addr) (pc:Nat),(i≠0→j=0)∧j≤n4∧kv = .int .i64 j∧pv = .slice pa j pc∧wr.ownsRow Wo.heap.size 83 4 (.slice pa j pc) j (fP (jH r x.rg j)).flatten∧Keep none_ Wo wr) (fun _ kv _=>n4 - (intOf kv).toNat)
   case atStart=>exact ⟨0,none,0,fun _=>rfl,Nat.zero_le _,rfl,rfl,HP0.out⟩
   case round =>
    obtain ⟨j,pa,pc,hj0,hj,rfl,rfl,hown,hk⟩:=hrel
    have y10:=(hk.blk Uz.out (fun f=>f)).cell 10 (v := .slice a4 n4 p4) rfl
    by_cases hcond:j<n4∧i=0
    ·obtain ⟨hjn,rfl⟩:=hcond
     have hjI:(j:Int)<(n4:Int):=by omega
     have Wu:(0:Int)≤(j:Int):=by omega
     have hst:=HST.out.still ((HK2.out.trans HCW.out.keep).trans hk)
     obtain ⟨b2,off2,rfl,hz,hz2⟩:=hst.r.cell hjn
     have y3:=(hk.blk UA.out (fun f=>f)).cell 3 (v := .int .i64 (r:Int)) rfl
     obtain ⟨jr,hj1,hj2⟩:∃ jr:Nat,(j:Int).tmod (r:Int)=(jr:Int)∧(j:Int)%(r:Int)=(jr:Int):=⟨j%r,by rw [Int.tmod_eq_emod_of_nonneg (by omega)];simp,by simp⟩
     have hprog:fP (jH r x.rg (j+1))=fP (jH r x.rg j)++[[.int .i64 4,.int .i64 (jr:Int),.int .i64 ((x.rg.getD j 0%4:Nat):Int),.int .i64 0]]:=by
      rw [KF,hj2]
      unfold fP
      rw [List.map_append]
      rfl
     obtain ⟨zr,hr1,hr2,hr3,hr4⟩:=FC (z:=x.rg.getD j 0)
     rw [← hr3] at hprog
     have HPG:=Lib.hid hprog
     generalize x.rg.getD j 0=z at *
     obtain ⟨V1,hV1⟩:∃ V1,V1=(wr.alloc (.cells #[.int .i64 4,.int .i64 (jr:Int),.int .i64 (zr:Int),.int .i64 0] 83)).drew:=⟨_,rfl⟩
     have kv:Keep none_ wr V1:=by rw [hV1];exact ((Keep.refl _ _).alloc _).drew
     have hNew:Blk V1 wr.heap.size [.int .i64 4,.int .i64 (jr:Int),.int .i64 (zr:Int),.int .i64 0] 83:=by rw [hV1];exact (Blk.new wr _ _).drew
     have ho1:=fA hown kv
     obtain ⟨g,cap,w7,hrun,hown7,hgr,hge⟩:=zk (P:=Tryz.prog) V1 81 81 83 (by kernel_rfl) Tryz.infoOp rfl (by decide) (dP ho1 (Nat.zero_le _)) (N:=wr.heap.size) (us:=[.int .i64 4,.int .i64 (jr:Int),.int .i64 (zr:Int),.int .i64 0]) (fun j x hj=>hNew.cell j hj) rfl (by simp [Value.oneCell']) (by decide) (by omega)
     have hrun9:(app9 #[81,81] 81 #[.slice pa j pc,.slice (some ⟨wr.heap.size,0,none⟩) 1 1]).run Tryz.prog (wr.alloc (.cells #[.int .i64 4,.int .i64 (jr:Int),.int .i64 (zr:Int),.int .i64 0] 83)).drew = .ok (.slice (some ⟨g,0,none⟩) (j+1) cap) w7:=by rw [← hV1];exact hrun
     have HI7:Hid (w7.ownsRow Wo.heap.size 83 4 (.slice (some ⟨g,0,none⟩) (j+1) cap) (j+1) (fP (jH r x.rg (j+1))).flatten∧Keep none_ Wo w7):=by
      rw [HPG.out,List.flatten_append]
      have hge2:Wo.heap.size≤g:=by
       rcases hge with h9|h9
       ·exact (World.ownsRow.lt ho1 g h9).1
       ·have:=(hk.trans kv).size;omega
      exact ⟨Sm (by simpa using hown7) hge2,(hk.trans kv).grew ho1 (Nat.le_refl _) hgr⟩
     have ca:=fun u=>(Blk.alloc (hk.blk Uz.out (fun f=>f)) u).cell 10 (v := .slice (some ⟨b2,off2,none⟩) n4 p4) rfl
     have cb:=fun u=>(Blk.alloc (hk.blk UA.out (fun f=>f)) u).cell 3 (v := .int .i64 (r:Int)) rfl
     have cz:∀ u,(wr.alloc u).cell? ⟨b2,off2+j,none⟩=some (.int .u8 (z:Int)):=fun u=>((Keep.refl none_ wr).alloc u).still hz
     have hr0:¬ (r:Int)=0:=by omega
     clear hown hk hst hprog HPG hV1 kv hNew ho1 hrun hown7 hgr hge hr3
     go_wp2_with fail
     go_region
     go_wp2_with fail
     go_roundw
     case rel=>exact ⟨j+1,_,_,fun h=>absurd rfl h,by omega,by go_num,rfl,HI7.out⟩
     case measure=>simp [intOf]<;>omega
    ·have hjx:jH r x.rg j=kG r x.rg i:=by
      unfold kG
      by_cases hi0:i=0
      ·rw [if_pos hi0,show j=x.rg.length by have h9:=HST.out.r.len;have:¬ j<n4:=fun h=>hcond ⟨h,hi0⟩;omega]
      ·rw [if_neg hi0,hj0 hi0];rfl
     obtain ⟨_,_,e7,hra,hca⟩:=lu.pJ hown rV (by unfold fP;rw [List.length_map,vO])
     cases e7
     have hnil:pa=none→pc=0:=fun e=>by
      rcases hown.2 with ⟨e1,_⟩|⟨g',cap',cur,e1,_⟩
      ·cases e1;rfl
      ·cases e1;cases e
     rw [hjx] at hra
     have hcw2:=HCW.out.nG hk
     have hmv2:fV o wr (.slice ma i mc) gs:=HMV.out.keep (I:=[]) hk.aF rfl (aH.refl _ _)
     have hro2:aV o wr 3 (.slice a objs.length c) (aC objs):=HRO.out.still hk
     have hlen9:(kG r x.rg i).length=j:=by rw [← hjx,vO]
     have hml:(eH qc x i).muts.length=i:=by simp [eH]
     have hbl:(eH qc x i).s.boxes.length=n:=by
      show (List.replicate qc.m.toNat []).length=n
      rw [List.length_replicate]
      exact HMN.out
     have KW:Hid (Calls Tryz.prog 41 #[.pointer (some ⟨G.S,0,none⟩),.int .i64 (i:Int),.slice pa j pc] wr fun e w'=>∃ (o':Ow) (g:MG),e = .returned (.tuple #[.pointer (some ⟨g.M,0,none⟩),.int .i64 0])∧CWz o0 W2 w' o' G (gs++[g]) q (eH qc x (i+1))∧fV o' w' (.slice ma i mc) gs∧aV o' w' 3 (.slice a objs.length c) (aC objs)):=by
      refine (NQ hcw2.coll.sh hcw2.coll.box8 i (by rw [hbl];exact hlt) (kG r x.rg i) j hlen9.symm (by omega) pa pc hra hnil).mono ?_
      rintro e w' ⟨o',g,rfl,e1,g1,_,g3⟩
      have hcc:(eH qc x i).s.H.c=qc:=Iw _ _ _ _
      rw [hcc] at g1
      refine ⟨o',g,rfl,?_,hmv2.keep (I:=[]) g3.aF rfl e1,(hro2.ext e1).still g3⟩
      rw [KG]
      rw [HRR.out]
      exact hcw2.of (hcw2.Uj g3 e1 g1 (by rw [hml];rfl)) e1
     have hc2:¬ j<n4∨(j<n4∧i≠0):=by
      by_cases h9:j<n4
      ·exact .inr ⟨h9,fun h8=>hcond ⟨h9,h8⟩⟩
      ·exact .inl h9
     have HAP:Hid (∀ (w6:World) (o6:Ow) (g:MG),CWz o0 W2 w6 o6 G (gs++[g]) q (eH qc x (i+1))→fV o6 w6 (.slice ma i mc) gs→aV o6 w6 3 (.slice a objs.length c) (aC objs)→∃ b cap W8,(app9 #[31,31] 31 #[.slice ma i mc,.slice (some ⟨w6.heap.size,0,none⟩) 1 1]).run Tryz.prog (w6.alloc (.cells #[.pointer (some ⟨g.M,0,none⟩)] 56)) = .ok (.slice (some ⟨b,0,none⟩) (i+1) cap) W8 ∧
      ∃ o8,CWz o0 W2 W8 o8 G (gs++[g]) q (eH qc x (i+1))∧fV o8 W8 (.slice (some ⟨b,0,none⟩) (i+1) cap) (gs++[g])∧aV o8 W8 3 (.slice a objs.length c) (aC objs)):=fun w6 o6 g hcw6 hmv6 hro6=>by
      have k7:Keep none_ w6 (w6.alloc (.cells #[.pointer (some ⟨g.M,0,none⟩)] 56)):=(Keep.refl _ _).alloc _
      obtain ⟨b,cap,W8,hrun,o8,e8,hcw8,hmv8,k8⟩:=(hmv6.keep (I:=[]) k7.aF rfl (aH.refl _ _)).U7 (hcw6.nG k7) (N:=w6.heap.size) ((Blk.new w6 [ah g.M] 56).cell 0 rfl) (by omega)
      rw [hgl] at hrun hmv8
      exact ⟨b,cap,W8,hrun,o8,hcw8,hmv8,((hro6.still k7).ext e8).ay (k8.nS e8) rfl⟩
     clear hown hk hcw2 hmv2 hro2 hra hca hjx hcond
     rcases hc2 with hnl|⟨hl9,hi0⟩
     ·have Wv:¬ (j:Int)<(n4:Int):=by omega
      go_wp2_with fail
      refine KW.out.mono ?_
      rintro e w6 ⟨o6,g,rfl,hcw6,hmv6,hro6⟩
      obtain ⟨b8,cap8,W8,hrun8,o8,hcw8,hmv8,hro8⟩:=HAP.out w6 o6 g hcw6 hmv6 hro6
      have HI8:=Lib.hid (And.intro hcw8 (And.intro hmv8 hro8))
      clear hcw6 hmv6 hro6 hcw8 hmv8 hro8 KW HAP
      go_wp2_with fail
      exact ⟨⟨i+1,o8,gs++[g],_,_,by omega,by go_num,rfl,HI8.out.1,HI8.out.2.1,by simp [hgl],HI8.out.2.2⟩,by simp [intOf];omega⟩
     ·obtain rfl:j=0:=hj0 hi0
      clear hj0
      have hlI:(0:Int)<(n4:Int):=by omega
      have Wx:((i:Int)==0)=false:=by simp;omega
      have Wy:decide (i=0)=false:=decide_eq_false hi0
      go_wp2_with fail
      refine KW.out.mono ?_
      rintro e w6 ⟨o6,g,rfl,hcw6,hmv6,hro6⟩
      obtain ⟨b8,cap8,W8,hrun8,o8,hcw8,hmv8,hro8⟩:=HAP.out w6 o6 g hcw6 hmv6 hro6
      have HI8:=Lib.hid (And.intro hcw8 (And.intro hmv8 hro8))
      clear hcw6 hmv6 hro6 hcw8 hmv8 hro8 KW HAP
      go_wp2_with fail
      exact ⟨⟨i+1,o8,gs++[g],_,_,by omega,by go_num,rfl,HI8.out.1,HI8.out.2.1,by simp [hgl],HI8.out.2.2⟩,by simp [intOf];omega⟩
  ·obtain rfl:i=n:=by omega
   have oV:¬ (i:Int)<(i:Int):=by omega
   have hbd:=hcw.coll.sh.heap.hbd
   have HI9:Hid (∃ (t:Nat) (y:WS) (o:Ow),t=0∧CWz o0 W2 wr o G gs q y∧WOk t y∧nN y∧fV o wr (.slice ma i mc) gs∧aV o wr 3 (.slice a objs.length c) (aC objs)∧jV (300 - t) y=jV 300 (eH qc x i)):=⟨0,_,o,rfl,hcw,VL.out,CV qc x i,hmv,hrow,rfl⟩
   clear hcw hmv hrow Qv KU hbd
   go_wp2_with fail
   clear z2
   obtain ⟨g0,hg0⟩:∃ g0,gs[0]?=some g0:=⟨gs[0]'(by omega),List.getElem?_eq_getElem _⟩
   have HG0:=Lib.hid hg0
   have HGL:=Lib.hid hgl
   clear hg0 hgl
   go_loopw [18] (fun iv wr=>∃ (t:Nat) (y:WS) (o:Ow),t≤300∧iv = .int .i64 t∧CWz o0 W2 wr o G gs q y∧WOk t y∧nN y∧fV o wr (.slice ma i mc) gs∧aV o wr 3 (.slice a objs.length c) (aC objs)∧jV (300 - t) y=jV 300 (eH qc x i)) (fun iv _=>300 - (intOf iv).toNat)
   case atStart =>
    obtain ⟨t,y,o,h0,h1,h2,h3,h4,h5,h6⟩:=HI9.out
    subst h0
    exact ⟨0,y,o,Nat.zero_le _,rfl,h1,h2,h3,h4,h5,h6⟩
   case round =>
    obtain ⟨t,y,o',ht,rfl,hcw,hok,hfew,hmv,hrow,hrun⟩:=hrel
    obtain ⟨a',c',e1,hform⟩:=hmv.form
    rw [HGL.out] at e1
    cases e1
    obtain ⟨bA,e2,hcA⟩:=hform 0 g0 HG0.out
    have hyl:y.muts.length=i:=by rw [← hcw.len];exact HGL.out
    obtain ⟨m0,hm0⟩:∃ m0,y.muts[0]?=some m0:=⟨y.muts[0]'(by omega),List.getElem?_eq_getElem _⟩
    have HDN:Hid (Calls Tryz.prog 42 #[.pointer (some ⟨g0.M,0,none⟩)] wr fun e w'=>e = .returned (.bool (fU m0))∧Keep none_ wr w'):=NP (hcw.bV 0 g0 m0 HG0.out hm0).1
    have HFN:Hid (∀ W,Keep none_ wr W→t=300∨fU m0=true→PO (.returned (.tuple #[.pointer (some ⟨G.S,0,none⟩),.pointer (some ⟨q.C,0,none⟩),.slice ma i mc,.slice a objs.length c])) W):=fun W k hh=>by
     refine HMD.out W _ ⟨o',G,q,gs,.slice ma i mc,a,c,rfl,?_,?_,hmv.keep (I:=[]) k.aF rfl (aH.refl _ _),hrow.still k⟩
     ·rw [← hrun]
      have e9:jV (300 - t) y=y:=by
       rcases hh with e|e
       ·rw [e];rfl
       ·exact wB hm0 e _
      rw [e9]
      exact (hcw.nG k).base HK2.out
     ·rw [← hrun]
      have e9:jV (300 - t) y=y:=by
       rcases hh with e|e
       ·rw [e];rfl
       ·exact wB hm0 e _
      rw [e9]
      exact hok.more ht
    have HPK:Hid (∀ W,Keep none_ wr W→t<300→fU m0=false→Calls Tryz.prog 24 #[.pointer (some ⟨g0.M,0,none⟩)] W fun e w'=>(∃ v1 v2,e = .returned (.tuple #[v1,v2]))∧∃ o2,CWz o0 W2 w' o2 G gs q (bC y 0)∧WOk (t+1) (bC y 0)∧nN (bC y 0)∧fV o2 w' (.slice ma i mc) gs∧aV o2 w' 3 (.slice a objs.length c) (aC objs)∧jV (300 - (t+1)) (bC y 0)=jV 300 (eH qc x i)):=fun W k h3 hd=>by
     have hcw2:=hcw.nG k
     refine (hcw2.pick hok (by omega) HG0.out hm0 (CO _ (hfew m0 (List.mem_of_getElem? hm0)).1)).mono ?_
     rintro e w' ⟨rfl,o2,eo,hc2,kk⟩
     refine ⟨⟨_,_,rfl⟩,o2,hc2,um hok hcw2.coll.sh.heap.hbd 0,oL hfew 0,(hmv.keep (I:=[]) k.aF rfl (aH.refl _ _)).keep kk rfl eo,((hrow.still k).ext eo).ay (kk.nS eo) (je 0),?_⟩
     rw [← hrun,show 300 - t=(300 - (t+1))+1 by omega,CY hm0 hd]
    have htI:(t:Int)≤300:=by omega
    cases e2
    clear hcw hok hmv hrow hrun hform hyl hm0 hfew
    by_cases h3:t<300
    ·have h3I:(t:Int)<300:=by omega
     cases hd:fU m0 with
     | true =>
       rw [hd] at HDN
       go_wp2_with fail
       refine HDN.out.mono ?_
       rintro e w5 ⟨rfl,k5⟩
       have HE:=Lib.hid (HFN.out w5 k5 (.inr hd))
       clear HFN HPK HDN
       go_wp2_with fail
       refine bodyPost_ret (wz rfl _ _ _) rfl ?_
       exact HE.out
     | false =>
       rw [hd] at HDN
       have hcB:∀ W,Keep none_ wr W→W.cell? ⟨bA,0,none⟩=some (.pointer (some ⟨g0.M,0,none⟩)):=fun W k=>k.still hcA
       have HCB:=Lib.hid hcB
       clear hcB
       go_wp2_with fail
       refine HDN.out.mono ?_
       rintro e w5 ⟨rfl,k5⟩
       have HP:=Lib.hid (HPK.out w5 k5 h3 hd)
       have VN:=HCB.out w5 k5
       clear HFN HPK HDN HCB hcA
       go_wp2_with fail
       refine HP.out.mono ?_
       rintro e w6 ⟨⟨v1,v2,rfl⟩,o2,q1,q2,q3,q4,q5,q6⟩
       have HI6:=Lib.hid (And.intro q1 (And.intro q2 (And.intro q3 (And.intro q4 (And.intro q5 q6)))))
       clear q1 q2 q3 q4 q5 q6 HP VN
       go_wp2_with fail
       exact ⟨⟨t+1,bC y 0,o2,by omega,by go_num,HI6.out⟩,by simp [intOf];omega⟩
    ·have h3I:¬ (t:Int)<300:=by omega
     have HE:=Lib.hid (HFN.out wr (Keep.refl _ _) (.inl (by omega)))
     clear HFN HPK HDN
     go_wp2_with fail
     refine bodyPost_ret (wz rfl _ _ _) rfl ?_
     exact HE.out
theorem F9 (hL:Laid w) (h:wu w x a1 a2 a3 a4 n1 n2 n3 n4) (m1:n1≤30) (m2:n2≤100) (m3:n3≤20) (m4:n4≤20):Calls Tryz.prog 11 #[oN x.c a1 a2 a3 a4 n1 n2 n3 n4 p1 p2 p3 p4] w (wS w x) :=
 (Qs (fun _=>0) (fun _ => .inl rfl) ⟨rfl,rfl,rfl⟩ hL h m1 m2 m3 m4).mono (fun _ _=>uI.r)
end
end
end Go.Proofs.YtanfphjoebobaaaGreatDoor
