/- Parts of the walk. No conditions. -/
import Derived.Test.YtanfphjoebobaaaGreatDoorZzen
namespace Go.Proofs.YtanfphjoebobaaaGreatDoor
open _root_.Go.Proofs.Tryz hiding prog
open _root_.Go.Proofs.Tryz renaming prog->ay
set_option maxRecDepth 8000
set_option maxHeartbeats 4000000
section
open Go.RowKit
theorem G6:∀ args w,(callFunc 92 args).run ay w = .ok (.enter 92 args) w:=fun args w=>by simp [callFunc,func92,go_sem];rfl
theorem LW:∀ args w,(callFunc 230 args).run ay w = .ok (.enter 230 args) w:=fun args w=>by simp [callFunc,func230,go_sem];rfl
theorem FN:∀ args w,(callFunc 171 args).run ay w = .ok (.enter 171 args) w:=fun args w=>by simp [callFunc,func171,go_sem];rfl
theorem FP:∀ args w,(callFunc 173 args).run ay w = .ok (.enter 173 args) w:=fun args w=>by simp [callFunc,func173,go_sem];rfl
theorem FQ:∀ args w,(callFunc 176 args).run ay w = .ok (.enter 176 args) w:=fun args w=>by simp [callFunc,func176,go_sem];rfl
theorem Eo:∀ args w,(callFunc 214 args).run ay w = .ok (.enter 214 args) w:=fun args w=>by simp [callFunc,func214,go_sem];rfl
theorem AQ:∀ args w,(callFunc 217 args).run ay w = .ok (.enter 217 args) w:=fun args w=>by simp [callFunc,func217,go_sem];rfl
theorem G7:∀ args w,(callFunc 169 args).run ay w = .ok (.enter 169 args) w:=fun args w=>by simp [callFunc,func169,go_sem];rfl
section
variable {o:Ow} {w w':World} {G:Geo} {g:MG} {s:Sh} {m:MS} {nv:Value} {ev:Option Ev} {N:Nat}
def CQ (d:MD):Prop:=∀ {o:Ow} {w:World} {G:Geo} {g:MG} {s:Sh} {m:MS} {nv:Value} {N:Nat},aN o w G g s m none nv->xC N s m->N<=1000000000->mZ m.regs.length d->∀ v:Value,jG o w (G.D 0) (g.Nt,g.M) (30+m.id) d v->isNil d=false ->
 ∃ fn,∃ bs:List Nat,v = .func (.func fn) #[] (bs.map aB).toArray/\(∀ args w,(callFunc fn args).run ay w = .ok (.enter fn args) w)/\Calls ay fn (bs.map aB).toArray w (aT o w G g nv m.id (stepM s m d))
theorem aN.withNext (h:aN o w G g s m ev nv) (d:MD):aN o w G g s { m with next:=d } ev nv :=
 ⟨h.sh,h.blk,h.oM,h.regs,h.oX,h.buf,h.wO,h.nt,h.sN,h.jm,h.box8,h.conf,h.rlen,h.wP⟩
def kU (o:Ow) (w:World) (G:Geo) (g:MG) (s:Sh) (m:MS):Prop:=∃ ev nv,aN o w G g s m ev nv/\jG o w (G.D 0) (g.Nt,g.M) (30+m.id) m.next nv
end
end
section
attribute [local go_sem] Oper.semAt_some
open Go.RowKit
section
variable {o o':Ow} {w w':World} {G:Geo} {g:MG} {s:Sh} {m:MS} {nv:Value} {ev:Option Ev}
theorem jG.aH {D0 q:Nat} {gg:Nat × Nat} {d:MD} {v:Value} {I:List Nat} (h:jG o w D0 gg q d v) (k:Keep (In o I) w w') (h0:I.contains 0=false) (hq:I.contains q=false):jG o w' D0 gg q d v:=by
 cases d with
 | sweep sl c t =>
   obtain ⟨cv,tv,h1,h2,h3⟩:=h
   exact ⟨cv,tv,h1.aH k h0 hq,h2.aH k h0,h3.keep k (fun b hb=>bI hb h0)⟩
 | _=>exact jG.of (dw.aH (o:=o) (Nt:=gg.1) (M:=gg.2) h k h0)
theorem jG.ext {D0 q:Nat} {gg:Nat × Nat} {d:MD} {v:Value} (h:jG o w D0 gg q d v) (e:aQ w o o'):jG o' w D0 gg q d v:=by
 cases d with
 | sweep sl c t =>
   obtain ⟨cv,tv,h1,h2,h3⟩:=h
   exact ⟨cv,tv,h1.ext e,dw.ext e h2,h3.ext e⟩
 | _=>exact jG.of (dw.ext (o:=o) (Nt:=gg.1) (M:=gg.2) e h)
theorem jG.form2 {D0 q:Nat} {gg:Nat × Nat} {d:MD} {v:Value} (h:jG o w D0 gg q d v):(isNil d=true/\v = .nilFunc)\/(isNil d=false/\∃ fn caps,v = .func (.func fn) #[] caps):=by
 cases d with
 | nil=>exact .inl ⟨rfl,h⟩
 | sweep sl c t =>
   obtain ⟨cv,tv,h1,h2,bs,rfl,_⟩:=h
   exact .inr ⟨rfl,_,_,rfl⟩
 | _=>exact .inr ⟨rfl,dw.XL (o:=o) (Nt:=gg.1) (M:=gg.2) h rfl⟩
def kX:Option Ev->Value
 | none => .agg #[ah 0,ah 0,ah 0,ah 0,ah 0,ah 0]
 | some e => .agg #[ah 0,ah (e.who:Int),ah (e.kind:Int),ah (e.op:Int),ah e.code,ah (e.value:Int)]
def jq (ev:Option Ev):Value := .bool ev.isSome
abbrev zero6:Array Value:=#[ah 0,ah 0,ah 0,ah 0,ah 0,ah 0]
def wS (w:World) (M:Nat):World:=((((((w.setCell ⟨M,23,none⟩ (ah 0)).setCell ⟨M,24,none⟩ (ah 0)).setCell ⟨M,25,none⟩ (ah 0)).setCell ⟨M,26,none⟩ (ah 0)).setCell ⟨M,27,none⟩ (ah 0)).setCell ⟨M,28,none⟩ (ah 0)).setCell ⟨M,29,none⟩ (.bool false)
theorem aN.LX (h:aN o w G g s m ev nv):aN o (wS w g.M) G g s m none nv/\Keep (In o [20+m.id]) w (wS w g.M):=by
 have k:Keep (only g.M) w (wS w g.M):=(((((((Keep.refl _ _).put _ _).put _ _).put _ _).put _ _).put _ _).put _ _).put _ _
 exact h.struct k m none nv (fun pv rv hb=>by
  have:=((((((hb.set 23 (ah 0)).set 24 (ah 0)).set 25 (ah 0)).set 26 (ah 0)).set 27 (ah 0)).set 28 (ah 0)).set 29 (.bool false)
  obtain ⟨a,b,c,d,e,f,t,he⟩:=CO ev
  unfold mP at this ⊢
  rw [he] at this
  exact this) ⟨rfl,rfl,rfl,rfl,rfl,rfl⟩
theorem aN.pick0 (h:aN o w G g s m ev nv) {d:MD} (hn:jG o w (G.D 0) (g.Nt,g.M) (30+m.id) d nv):∃ o1 W2,W2=(wS (w.alloc (.cells zero6 37)) g.M).setCell ⟨g.M,19,none⟩ (ah ((m.spent:Int)+1))/\aQ w o o1/\o1 w.heap.size=99 /\
 aN o1 W2 G g s { m with spent:=m.spent+1 } none nv/\jG o1 W2 (G.D 0) (g.Nt,g.M) (30+m.id) d nv/\Keep (In o (bW m.id)) w W2/\aA W2 w.heap.size zero6.toList 37:=by
 obtain ⟨W0,hW0⟩:∃ W0,W0=w.alloc (.cells zero6 37):=⟨_,rfl⟩
 have k0:Keep none_ w W0:=by rw [hW0];exact (Keep.refl _ _).alloc _
 have hR:aA W0 w.heap.size zero6.toList 37:=by rw [hW0];exact aA.new w _ _
 have e0:W0.heap.size=w.heap.size+1:=by rw [hW0];simp
 obtain ⟨o1,ho1⟩:∃ o1,o1=o.put w.heap.size 99:=⟨_,rfl⟩
 have hext:aQ w o o1:=by rw [ho1];exact Ow.jU (.inl (Nat.le_refl _))
 have hR1:o1 w.heap.size=99:=by rw [ho1];exact Ow.lM _ _ _
 have hf1:gX o1 W0:=by rw [ho1];exact Ow.nJ h.sh.fC k0.size (by omega)
 have h0:aN o1 W0 G g s m ev nv:=h.xK k0 hext hf1
 have n0:jG o1 W0 (G.D 0) (g.Nt,g.M) (30+m.id) d nv:=(hn.ext hext).aH (I:=[]) k0.aS rfl rfl
 obtain ⟨h1,k1⟩:=h0.LX
 obtain ⟨h2,k2⟩:=h1.put 19 (ah ((m.spent:Int)+1)) { m with spent:=m.spent+1 } none nv (fun pv rv=>rfl) ⟨rfl,rfl,rfl,rfl,rfl,rfl⟩
 have i8:m.id<8:=Nat.lt_of_lt_of_le h.jm h.box8
 refine ⟨o1,_,by rw [hW0],hext,hR1,h2,?_,?_,?_⟩
 ·exact (n0.aH k1 (by simp<;>omega) (by simp<;>omega)).aH k2 (by simp<;>omega) (by simp<;>omega)
 ·refine (k0.aS (o:=o) (I:=bW m.id)).trans' (k1.trans k2) (fun i hi hin=>?_)
  unfold In at hin ⊢
  rw [hext i hi] at hin
  simp at hin
  simp [bW,hin]
 ·exact (hR.aH k1 hR1 (by simp<;>omega)).aH k2 hR1 (by simp<;>omega)
theorem aN.CU {R:Nat} (h:aN o w G g s m ev nv) {d:MD} {v:Value} (hn:jG o w (G.D 0) (g.Nt,g.M) (30+m.id) d v) (k:Keep (only R) w w') (hR:o R=99):aN o w' G g s m ev nv/\jG o w' (G.D 0) (g.Nt,g.M) (30+m.id) d v:=by
 have i8:m.id<8:=Nat.lt_of_lt_of_le h.jm h.box8
 have k1:Keep (In o [99]) w w':=k.qK hR rfl
 exact ⟨h.share k1 rfl (by simp<;>omega) (h.sh.aH k1 rfl h.box8) rfl rfl,hn.aH k1 rfl (by simp<;>omega)⟩
theorem XU (fn:Nat) (caps:Array Value):∀ w,(binOp .eql 88 (.func (.func fn) #[] caps) .nilFunc).run ay w = .ok (.bool false) w:=fun w=>by first|rfl|(simp [binOp,go_sem];done)|(simp [binOp,go_sem];rfl)
theorem ZW:∀ w,(binOp .eql 88 .nilFunc .nilFunc).run ay w = .ok (.bool true) w:=fun w=>by first|rfl|(simp [binOp,go_sem];done)|(simp [binOp,go_sem];rfl)
end
end
section
open Go.RowKit
abbrev bnd (fn C:Nat):Value := .func (.func fn) #[aB C] #[]
def bg (o:Ow) (w:World) (C:Nat):CD->Value->Prop
 | .nil,v=>v = .nilFunc
 | .wait m t,v=>∃ tv,bg o w C t tv/\bK o w 166 [([aB C],30),([ah (m:Int)],3),([tv],88)] v
 | .arm,v=>bK o w 81 [([aB C],30)] v
 | .scan,v=>v=bnd 82 C
 | .trace,v=>v=bnd 122 C
 | .work,v=>v=bnd 208 C
 | .over,v=>v=bnd 260 C
 | .drain,v=>v=bnd 283 C
 | .marked,v=>v=bnd 284 C
 | .sweep,v=>v=bnd 292 C
 | .rests,v=>v=bnd 297 C
 | .off,v=>bK o w 300 [([aB C],30)] v
 | .idle,v=>v=bnd 301 C
 | .look x t,v=>∃ tv,bg o w C t tv/\bK o w 244 [([aB C],30),([ah (x:Int)],3),([tv],88)] v
 | .cell i,v=>bK o w 209 [([aB C],30),([ah (i:Int)],3)] v
 | .object a t,v=>∃ tv,bg o w C t tv/\bK o w 256 [([aB C],30),([ah (a:Int)],3),([tv],88)] v
 | .field a i n t,v=>∃ tv,bg o w C t tv/\bK o w 271 [([aB C],30),([ah (a:Int)],3),([ah (i:Int)],3),([ah (n:Int)],3),([tv],88)] v
 | .box m,v=>bK o w 258 [([aB C],30),([ah (m:Int)],3)] v
 | .walk b,v=>bK o w 285 [([aB C],30),([ah (b:Int)],3)] v
 | .slots l t,v=>∃ tv lv,bg o w C t tv/\bC o w 3 lv (aG l)/\bK o w 290 [([aB C],30),([lv],32),([tv],88)] v
 | .empty t,v=>∃ tv,bg o w C t tv/\bK o w 295 [([aB C],30),([tv],88)] v
 | .enqueue b,v=>bK o w 293 [([aB C],30),([ah (b:Int)],3)] v
 | .block _,_=>False
def gJ (o:Ow) (w:World) (D0 C col:Nat):CD->Value->Prop
 | .block sl,v=>∃ cv,iH o w D0 40 cv sl col/\bK o w 302 [([cv],260),([aB C],30)] v
 | d,v=>bg o w C d v
theorem gJ.of {o:Ow} {w:World} {D0 C col:Nat} {d:CD} {v:Value} (h:bg o w C d v):gJ o w D0 C col d v:=by
 cases d<;>first|exact h|exact h.elim
section
variable {o o':Ow} {w w':World} {C:Nat}
theorem bg.keep {S:Nat->Prop} (k:Keep S w w') (h0:∀ b,o b=0->¬ S b):∀ {d:CD} {v:Value},bg o w C d v->bg o w' C d v:=by
 intro d
 induction d with
 | wait m t ih=>intro v h;obtain ⟨tv,h1,h2⟩:=h;exact ⟨tv,ih h1,h2.keep k h0⟩
 | arm=>intro v h;exact bK.keep h k h0
 | off=>intro v h;exact bK.keep h k h0
 | look x t ih=>intro v h;obtain ⟨tv,h1,h2⟩:=h;exact ⟨tv,ih h1,h2.keep k h0⟩
 | cell i=>intro v h;exact bK.keep h k h0
 | object a t ih=>intro v h;obtain ⟨tv,h1,h2⟩:=h;exact ⟨tv,ih h1,h2.keep k h0⟩
 | field a i n t ih=>intro v h;obtain ⟨tv,h1,h2⟩:=h;exact ⟨tv,ih h1,h2.keep k h0⟩
 | box m=>intro v h;exact bK.keep h k h0
 | walk b=>intro v h;exact bK.keep h k h0
 | enqueue b=>intro v h;exact bK.keep h k h0
 | slots l t ih=>intro v h;obtain ⟨tv,lv,h1,h2,h3⟩:=h;exact ⟨tv,lv,ih h1,h2.keep k h0,h3.keep k h0⟩
 | empty t ih=>intro v h;obtain ⟨tv,h1,h2⟩:=h;exact ⟨tv,ih h1,h2.keep k h0⟩
 | _=>intro v h;exact h
theorem bg.aH {I:List Nat} {d:CD} {v:Value} (h:bg o w C d v) (k:Keep (In o I) w w') (h0:I.contains 0=false):bg o w' C d v:=bg.keep k (fun b hb=>bI hb h0) h
theorem bg.still {d:CD} {v:Value} (h:bg o w C d v) (k:Keep none_ w w'):bg o w' C d v:=bg.keep k (fun _ _ f=>f) h
theorem bg.ext (e:aQ w o o'):∀ {d:CD} {v:Value},bg o w C d v->bg o' w C d v:=by
 intro d
 induction d with
 | wait m t ih=>intro v h;obtain ⟨tv,h1,h2⟩:=h;exact ⟨tv,ih h1,h2.ext e⟩
 | arm=>intro v h;exact bK.ext h e
 | off=>intro v h;exact bK.ext h e
 | look x t ih=>intro v h;obtain ⟨tv,h1,h2⟩:=h;exact ⟨tv,ih h1,h2.ext e⟩
 | cell i=>intro v h;exact bK.ext h e
 | object a t ih=>intro v h;obtain ⟨tv,h1,h2⟩:=h;exact ⟨tv,ih h1,h2.ext e⟩
 | field a i n t ih=>intro v h;obtain ⟨tv,h1,h2⟩:=h;exact ⟨tv,ih h1,h2.ext e⟩
 | box m=>intro v h;exact bK.ext h e
 | walk b=>intro v h;exact bK.ext h e
 | enqueue b=>intro v h;exact bK.ext h e
 | slots l t ih=>intro v h;obtain ⟨tv,lv,h1,h2,h3⟩:=h;exact ⟨tv,lv,ih h1,h2.ext e,h3.ext e⟩
 | empty t ih=>intro v h;obtain ⟨tv,h1,h2⟩:=h;exact ⟨tv,ih h1,h2.ext e⟩
 | _=>intro v h;exact h
theorem bg.form {d:CD} {v:Value} (h:bg o w C d v):(oJ d=true/\v = .nilFunc)\/(oJ d=false/\∃ fn first caps,v = .func (.func fn) first caps):=by
 cases d with
 | nil=>exact .inl ⟨rfl,h⟩
 | wait m t=>obtain ⟨tv,_,bs,rfl,_⟩:=h;exact .inr ⟨rfl,_,_,_,rfl⟩
 | arm=>obtain ⟨bs,rfl,_⟩:=h;exact .inr ⟨rfl,_,_,_,rfl⟩
 | off=>obtain ⟨bs,rfl,_⟩:=h;exact .inr ⟨rfl,_,_,_,rfl⟩
 | look x t=>obtain ⟨tv,_,bs,rfl,_⟩:=h;exact .inr ⟨rfl,_,_,_,rfl⟩
 | cell i=>obtain ⟨bs,rfl,_⟩:=h;exact .inr ⟨rfl,_,_,_,rfl⟩
 | object a t=>obtain ⟨tv,_,bs,rfl,_⟩:=h;exact .inr ⟨rfl,_,_,_,rfl⟩
 | field a i n t=>obtain ⟨tv,_,bs,rfl,_⟩:=h;exact .inr ⟨rfl,_,_,_,rfl⟩
 | box m=>obtain ⟨bs,rfl,_⟩:=h;exact .inr ⟨rfl,_,_,_,rfl⟩
 | walk b=>obtain ⟨bs,rfl,_⟩:=h;exact .inr ⟨rfl,_,_,_,rfl⟩
 | slots l t=>obtain ⟨tv,lv,_,_,bs,rfl,_⟩:=h;exact .inr ⟨rfl,_,_,_,rfl⟩
 | empty t=>obtain ⟨tv,_,bs,rfl,_⟩:=h;exact .inr ⟨rfl,_,_,_,rfl⟩
 | enqueue b=>obtain ⟨bs,rfl,_⟩:=h;exact .inr ⟨rfl,_,_,_,rfl⟩
 | block sl=>exact h.elim
 | _=>exact .inr ⟨rfl,_,_,_,h⟩
theorem gJ.aH {D0 col:Nat} {d:CD} {v:Value} {I:List Nat} (h:gJ o w D0 C col d v) (k:Keep (In o I) w w') (h0:I.contains 0=false) (h5:I.contains 40=false):gJ o w' D0 C col d v:=by
 cases d with
 | block sl =>
   obtain ⟨cv,h1,h2⟩:=h
   exact ⟨cv,h1.aH k h0 h5,h2.keep k (fun b hb=>bI hb h0)⟩
 | _=>exact gJ.of (bg.aH (o:=o) (C:=C) h k h0)
theorem gJ.still {D0 col:Nat} {d:CD} {v:Value} (h:gJ o w D0 C col d v) (k:Keep none_ w w'):gJ o w' D0 C col d v:=h.aH (I:=[]) k.aS rfl rfl
theorem gJ.ext {D0 col:Nat} {d:CD} {v:Value} (h:gJ o w D0 C col d v) (e:aQ w o o'):gJ o' w D0 C col d v:=by
 cases d with
 | block sl =>
   obtain ⟨cv,h1,h2⟩:=h
   exact ⟨cv,h1.ext e,h2.ext e⟩
 | _=>exact gJ.of (bg.ext (o:=o) (C:=C) e h)
theorem gJ.form {D0 col:Nat} {d:CD} {v:Value} (h:gJ o w D0 C col d v):(oJ d=true/\v = .nilFunc)\/(oJ d=false/\∃ fn first caps,v = .func (.func fn) first caps):=by
 cases d with
 | block sl=>obtain ⟨cv,_,bs,rfl,_⟩:=h;exact .inr ⟨rfl,_,_,_,rfl⟩
 | _=>exact bg.form (o:=o) (w:=w) (C:=C) h
end
structure CG where
 C:Nat
 K:Nat
def jv (G:Geo) (q:CG) (c:CS) (ev:Option Ev) (nv:Value):List Value :=
 [aB G.S,ah (c.muts:Int),ah (c.blocks:Int),ah (c.cells:Int),ah (c.phase:Int),ah (c.color:Int),ah (c.cycles:Int),.bool c.wish,.bool c.fresh,aB q.K,nv,ah (c.drains:Int),ah (c.walks:Int)]++yP ev
def fZ (o:Ow) (w:World) (K room:Nat) (over:Bool) (l:List Nat):Prop :=
 ∃ v,aA w K [v,ah (room:Int),.bool over] 135/\w.ownsRow 0 3 1 v l.length (aG l)/\∀ b,v.ownBlock=some b->o b=5
structure aP (o:Ow) (w:World) (G:Geo) (q:CG) (s:Sh) (c:CS) (ev:Option Ev) (nv:Value):Prop where
 sh:ShAt o w G s
 blk:aA w q.C (jv G q c ev nv) 90
 oC:o q.C=5
 stk:fZ o w q.K c.room c.over c.stk
 oK:o q.K=5
 box8:s.boxes.length<=8
def aY:List Nat:=[1,2,3,4,5,10,11,12,13,14,15,16,17,40]
section
variable {o o':Ow} {w w':World} {G:Geo} {q:CG} {s:Sh} {c:CS} {ev:Option Ev} {nv:Value}
theorem fZ.aH {K room:Nat} {over:Bool} {l:List Nat} {I:List Nat} (h:fZ o w K room over l) (hK:o K=5) (k:Keep (In o I) w w') (hI:I.contains 5=false):fZ o w' K room over l:=by
 obtain ⟨v,h1,h2,h3⟩:=h
 exact ⟨v,h1.aH k hK hI,dY h2 k (fun b hb=>bI (h3 b hb) hI),h3⟩
theorem fZ.ext {K room:Nat} {over:Bool} {l:List Nat} (h:fZ o w K room over l) (e:aQ w o o'):fZ o' w K room over l:=by
 obtain ⟨v,h1,h2,h3⟩:=h
 refine ⟨v,h1,h2,fun b hb=>?_⟩
 obtain ⟨cur,hc⟩:=jI h2 hb
 exact (e b (lt_of_block hc)).trans (h3 b hb)
theorem aP.share {s':Sh} {I:List Nat} (h:aP o w G q s c ev nv) (k:Keep (In o I) w w') (h5:I.contains 5=false) (hs:ShAt o w' G s') (hl:s'.boxes.length=s.boxes.length):aP o w' G q s' c ev nv :=
 ⟨hs,h.blk.aH k h.oC h5,h.oC,h.stk.aH h.oK k h5,h.oK,by rw [hl];exact h.box8⟩
theorem aP.still (h:aP o w G q s c ev nv) (k:Keep none_ w w'):aP o w' G q s c ev nv:=by
 have k0:Keep (In o []) w w':=k.aS
 exact h.share k0 rfl (h.sh.aH k0 rfl h.box8) rfl
theorem aP.xK (h:aP o w G q s c ev nv) (k:Keep none_ w w') (e:aQ w o o') (hf:gX o' w'):aP o' w' G q s c ev nv:=by
 obtain ⟨v,hs1,_⟩:=id h.stk
 have e1:=(e _ h.blk.lt).trans h.oC
 have e2:=(e _ hs1.lt).trans h.oK
 have k0:Keep (In o' []) w w':=k.aS
 exact ⟨h.sh.move (I:=[]) k.aS rfl h.box8 e hf,h.blk.aH k0 e1 rfl,e1,(h.stk.ext e).aH e2 k0 rfl,e2,h.box8⟩
theorem aP.LY (h:aP o w G q s c ev nv):q.C≠q.K/\∀ v xs n,w.ownsRow 0 3 1 v n xs->v.ownBlock≠some q.C/\v.ownBlock≠some q.K:=by
 obtain ⟨v,hs1,_⟩:=id h.stk
 refine ⟨fun e=>?_,fun v xs n hr=>⟨own_ne h.blk hr (by decide),own_ne hs1 hr (by decide)⟩⟩
 have h1:=h.blk
 rw [e] at h1
 exact absurd (h1.uniq hs1).2 (by decide)
theorem sh5 (h:ShAt o w G s) (k:Keep (In o [5]) w w') (h8:s.boxes.length<=8):ShAt o w' G s :=
 h.upd k rfl (h.heapK k rfl rfl) (h.board.keep k (bI h.oB rfl)) (h.queue.aH k rfl h.oQ rfl) (h.flag.aH k h.oF rfl) rfl (h.Em k rfl (fun i hi=>by simp<;>omega))
theorem aP.struct (h:aP o w G q s c ev nv) (kC:Keep (only q.C) w w') (c':CS) (ev':Option Ev) (jC:Value) (hc:aA w q.C (jv G q c ev nv) 90->aA w' q.C (jv G q c' ev' jC) 90)
 (e:c'.room=c.room/\c'.over=c.over/\c'.stk=c.stk):aP o w' G q s c' ev' jC/\Keep (In o [5]) w w':=by
 have k:Keep (In o [5]) w w':=kC.qK h.oC rfl
 obtain ⟨v,h1,h2,h3⟩:=id h.stk
 have ne:=h.LY
 refine ⟨⟨sh5 h.sh k h.box8,hc h.blk,h.oC,?_,h.oK,h.box8⟩,k⟩
 rw [e.1,e.2.1,e.2.2]
 exact ⟨v,kC.blk h1 (fun e=>ne.1 e.symm),dY h2 kC (fun b hb e=>(ne.2 _ _ _ h2).1 (by rw [hb];exact congrArg some e)),h3⟩
theorem aP.put (h:aP o w G q s c ev nv) (i:Nat) (u:Value) (c':CS) (ev':Option Ev) (jC:Value) (hc:(jv G q c ev nv).set i u=jv G q c' ev' jC)
 (e:c'.room=c.room/\c'.over=c.over/\c'.stk=c.stk):aP o (w.setCell ⟨q.C,i,none⟩ u) G q s c' ev' jC/\Keep (In o [5]) w (w.setCell ⟨q.C,i,none⟩ u) :=
 h.struct ((Keep.refl _ _).put i u) c' ev' jC (fun hb=>by
  have:=hb.set i u
  rwa [hc] at this) e
theorem aP.Vb (h:aP o w G q s c ev nv) {l:List Nat} {ov:Bool} (hs:fZ o w' q.K c.room ov l) (k:Keep (fun b=>b=q.K\/∃ v,w.cell? ⟨q.K,0,none⟩=some v/\v.ownBlock=some b) w w'):aP o w' G q s { c with stk:=l,over:=ov } ev nv/\Keep (In o [5]) w w':=by
 obtain ⟨v,h1,h2,h3⟩:=id h.stk
 have ne:=h.LY
 have hv:=h1.cell 0 (v:=v) rfl
 have k5:Keep (In o [5]) w w':=k.mono (fun b _ hb=>by
  unfold In
  rcases hb with rfl|⟨u,hu,hb⟩
  ·rw [h.oK];simp
  ·rw [hv] at hu;cases hu
   rw [h3 b hb];simp)
 refine ⟨⟨sh5 h.sh k5 h.box8,?_,h.oC,hs,h.oK,h.box8⟩,k5⟩
 exact k.blk h.blk (fun hb=>by
  rcases hb with e|⟨u,hu,hb⟩
  ·exact ne.1 e
  ·rw [hv] at hu;cases hu
   exact (ne.2 _ _ _ h2).1 hb)
theorem ShAt.acI {I:List Nat} (h:ShAt o w G s) (k:Keep (In o I) w w') (hge:∀ i,i<5\/(10<=i/\i<18)->I.contains i=false) (h8:s.boxes.length<=8) (e:aQ w o o') (hf:gX o' w'):ShAt o' w' G s:=by
 have k':=k.rO e
 obtain ⟨v,hs1,hs2⟩:=h.sh
 have hg:=h.heap.Fz
 have UW:(o' G.Q:Nat)=3:=by
  obtain ⟨ho,hl,vs,hv,hb,hr⟩:=h.queue
  exact (e _ hb.lt).trans h.oQ
 refine ⟨hf,⟨v,hs1.aH k h.oS (hge 0 (by decide)),(hs2.ext e).aH k' (hge 0 (by decide))⟩,(e _ hs1.lt).trans h.oS,h.heapK k (hge 0 (by decide)) (hge 1 (by decide)),fun i hi=>(e _ (h.heap.ltD i hi)).trans (h.oD i hi),⟨(e _ hg.1).trans h.qF.1,(e _ hg.2.1).trans h.qF.2.1,(e _ hg.2.2).trans h.qF.2.2⟩,
  h.board.keep k (bI h.oB (hge 2 (by decide))),(e _ h.board.blk.lt).trans h.oB,(h.queue.rO e).aH k' (hge 0 (by decide)) UW (hge 3 (by decide)),UW,h.flag.aH k h.oF (hge 4 (by decide)),(e _ h.flag.lt).trans h.oF,fun i l hi=>?_⟩
 obtain ⟨h1,h2⟩:=h.box i l hi
 obtain ⟨_,v',hb,_,_⟩:=id h1
 have h3:o' (G.bx i)=10+i:=(e _ hb.lt).trans h2
 exact ⟨(h1.ext e).aH k' (hge 0 (by decide)) h3 (hge _ (by have:=(List.getElem?_eq_some_iff.1 hi).1;omega)),h3⟩
theorem aP.Qe (h:aP o w G q s c ev nv) {l:List Nat} {ov:Bool} (hs:fZ o' w' q.K c.room ov l) (k:Keep (fun b=>b=q.K\/∃ v,w.cell? ⟨q.K,0,none⟩=some v/\v.ownBlock=some b) w w') (e:aQ w o o') (hf:gX o' w'):aP o' w' G q s { c with stk:=l,over:=ov } ev nv/\Keep (In o [5]) w w':=by
 obtain ⟨v,h1,h2,h3⟩:=id h.stk
 have ne:=h.LY
 have hv:=h1.cell 0 (v:=v) rfl
 have k5:Keep (In o [5]) w w':=k.mono (fun b _ hb=>by
  unfold In
  rcases hb with rfl|⟨u,hu,hb⟩
  ·rw [h.oK];simp
  ·rw [hv] at hu;cases hu
   rw [h3 b hb];simp)
 refine ⟨⟨h.sh.acI k5 (fun i hi=>by simp<;>omega) h.box8 e hf,?_,(e _ h.blk.lt).trans h.oC,hs,(e _ h1.lt).trans h.oK,h.box8⟩,k5⟩
 exact k.blk h.blk (fun hb=>by
  rcases hb with e|⟨u,hu,hb⟩
  ·exact ne.1 e
  ·rw [hv] at hu;cases hu
   exact (ne.2 _ _ _ h2).1 hb)
theorem aP.cell (h:aP o w G q s c ev nv) (i:Nat) (u:Value) (hu:(jv G q c ev nv)[i]?=some u):w.cell? ⟨q.C,i,none⟩=some u:=h.blk.cell i hu
theorem aP.qp {H:HS} (h:aP o w G q s c ev nv) (k:Keep (HF G.D) w w') (hH:aF w' G.D H):aP o w' G q { s with H:=H } c ev nv/\Keep (In o aY) w w':=by
 obtain ⟨h1,k1⟩:=h.sh.qp k hH h.box8
 exact ⟨h.share k1 rfl h1 rfl,k1.jP (by decide)⟩
theorem aP.tq {B:Bd} (h:aP o w G q s c ev nv) (k:Keep (only G.B) w w') (hB:gW w' G.B B):aP o w' G q { s with B:=B } c ev nv/\Keep (In o aY) w w':=by
 obtain ⟨h1,k1⟩:=h.sh.tq k hB
 exact ⟨h.share k1 rfl h1 rfl,k1.jP (by decide)⟩
theorem aP.wM {Q:Qu} (h:aP o w G q s c ev nv) (k:Keep (only G.Q) w w') (hQ:fP o w' G.Q Q):aP o w' G q { s with Q:=Q } c ev nv/\Keep (In o aY) w w':=by
 obtain ⟨h1,k1⟩:=h.sh.wM k hQ
 exact ⟨h.share k1 rfl h1 rfl,k1.jP (by decide)⟩
theorem aP.CJ {f:Bool} (h:aP o w G q s c ev nv) (k:Keep (only G.Fl) w w') (hF:aA w' G.Fl [.bool f] 121):aP o w' G q { s with flag:=f } c ev nv/\Keep (In o aY) w w':=by
 obtain ⟨h1,k1⟩:=h.sh.CJ k hF
 exact ⟨h.share k1 rfl h1 rfl,k1.jP (by decide)⟩
theorem aP.LK {j:Nat} {l:List Nat} (h:aP o w G q s c ev nv) (hj:j<s.boxes.length) (k:Keep (only (G.bx j)) w w') (hX:dS o w' (G.bx j) 176 [] l):aP o w' G q { s with boxes:=s.boxes.set j l } c ev nv/\Keep (In o aY) w w':=by
 obtain ⟨h1,k1⟩:=h.sh.LK hj k hX h.box8
 have h8:=h.box8
 have e:([10+j]:List Nat).all (fun i=>aY.contains i)=true:=by
  rcases (by omega:j=0\/j=1\/j=2\/j=3\/j=4\/j=5\/j=6\/j=7) with rfl|rfl|rfl|rfl|rfl|rfl|rfl|rfl<;>decide
 exact ⟨h.share k1 (by simp<;>omega) h1 (by simp),k1.jP e⟩
theorem qX (k:Keep (In o [5]) w w'):Keep (In o aY) w w':=k.jP (by decide)
def eG (o:Ow) (w:World) (G:Geo) (q:CG) (nv0:Value) (r:kF) (e:Ending) (w':World):Prop :=
 ∃ o' nv,e = .returned nv/\aQ w o o'/\aP o' w' G q r.s r.c r.ev nv0/\gJ o' w' (G.D 0) q.C r.c.color r.next nv/\Keep (In o aY) w w'
theorem eG.same {r:kF} {nv nv0:Value} (h:aP o w' G q r.s r.c r.ev nv0) (hc:bg o w' q.C r.next nv) (k:Keep (In o aY) w w'):eG o w G q nv0 r (.returned nv) w':=⟨o,nv,rfl,aQ.refl _ _,h,gJ.of hc,k⟩
theorem eG.after {r:kF} {e:Ending} {w1 w2:World} {nv0:Value} (k:Keep (In o aY) w w1) (h:eG o w1 G q nv0 r e w2):eG o w G q nv0 r e w2:=by
 obtain ⟨o',nv,e1,e2,h1,h2,k2⟩:=h
 exact ⟨o',nv,e1,fun b hb=>e2 b (Nat.lt_of_lt_of_le hb k.size),h1,h2,k.trans k2⟩
end
end
section
attribute [local go_sem] Oper.semAt_some
open Go.RowKit
theorem bg.forms {o:Ow} {w:World} {C:Nat} {d:CD} {v:Value} (h:bg o w C d v):v = .nilFunc\/∃ fn first caps,v = .func (.func fn) first caps:=by
 rcases h.form with ⟨_,h⟩|⟨_,h⟩
 ·exact .inl h
 ·exact .inr h
section
variable {o:Ow} {w w':World}
theorem AU (hf:gX o w) (C:Nat) (m:Nat) {t:CD} {tv:Value} (ht:bg o w C t tv):Calls ay 121 #[aj C,ah (m:Int),tv] w fun e w'=>∃ nv,e = .returned nv/\bg o w' C (.wait m t) nv/\Keep none_ w w':=by
 have hn:=iq (o:=o) [([aB C],30),([ah (m:Int)],3),([tv],88)] w hf
 have HE:Hid (bg o (bU w [([aB C],30),([ah (m:Int)],3),([tv],88)]) C (.wait m t) (.func (.func 166) #[] #[aB (w.heap.size),aB (w.heap.size+1),aB (w.heap.size+1+1)])/\Keep none_ w (bU w [([aB C],30),([ah (m:Int)],3),([tv],88)])):=by
  obtain ⟨b0,b1,b2,e,⟨o0,k0⟩,⟨o1,k1⟩,⟨o2,k2⟩⟩:=caps3 hn.1
  simp only [idxs,List.cons.injEq] at e
  obtain ⟨rfl,rfl,rfl,_⟩:=e
  exact ⟨⟨tv,ht.still hn.2,[w.heap.size,w.heap.size+1,w.heap.size+1+1],rfl,_,_,rfl,o0,k0,_,_,rfl,o1,k1,_,_,rfl,o2,k2,rfl⟩,hn.2⟩
 have hmf:=jc
 have hform:=ht.forms
 clear hn hf ht
 rcases hform with rfl|⟨fn,first,caps,rfl⟩
 all_goals
  go_enter func121,ntmps121
  go_wp2_with fail
  go_ret
  exact ⟨_,rfl,HE.out.1,HE.out.2⟩
theorem AV (hf:gX o w) (C:Nat) (v:Nat) {t:CD} {tv:Value} (ht:bg o w C t tv):Calls ay 210 #[aj C,ah (v:Int),tv] w fun e w'=>∃ nv,e = .returned nv/\bg o w' C (cZ v t) nv/\Keep none_ w w':=by
 have hn:=iq (o:=o) [([aB C],30),([ah (v:Int)],3),([tv],88)] w hf
 have HE:Hid (bg o (bU w [([aB C],30),([ah (v:Int)],3),([tv],88)]) C (.look v t) (.func (.func 244) #[] #[aB (w.heap.size),aB (w.heap.size+1),aB (w.heap.size+1+1)])/\Keep none_ w (bU w [([aB C],30),([ah (v:Int)],3),([tv],88)])):=by
  obtain ⟨b0,b1,b2,e,⟨o0,k0⟩,⟨o1,k1⟩,⟨o2,k2⟩⟩:=caps3 hn.1
  simp only [idxs,List.cons.injEq] at e
  obtain ⟨rfl,rfl,rfl,_⟩:=e
  exact ⟨⟨tv,ht.still hn.2,[w.heap.size,w.heap.size+1,w.heap.size+1+1],rfl,_,_,rfl,o0,k0,_,_,rfl,o1,k1,_,_,rfl,o2,k2,rfl⟩,hn.2⟩
 have hmf:=jc
 by_cases hs:v=0
 ·have HS:Hid (bg o (bU w [([aB C],30),([ah (v:Int)],3),([tv],88)]) C (cZ v t) tv/\Keep none_ w (bU w [([aB C],30),([ah (v:Int)],3),([tv],88)])):=⟨by unfold cZ;rw [if_pos hs];exact ht.still hn.2,hn.2⟩
  have d0:(((v:Nat):Int)==0)=true:=by rw [hs];rfl
  clear hs
  have hform:=ht.forms
  clear hn hf ht HE
  rcases hform with rfl|⟨fn,first,caps,rfl⟩
  all_goals
   go_enter func210,ntmps210
   go_wp2_with fail
   go_ret
   exact ⟨_,rfl,HS.out.1,HS.out.2⟩
 ·have HS:Hid (bg o (bU w [([aB C],30),([ah (v:Int)],3),([tv],88)]) C (cZ v t) (.func (.func 244) #[] #[aB (w.heap.size),aB (w.heap.size+1),aB (w.heap.size+1+1)])/\Keep none_ w (bU w [([aB C],30),([ah (v:Int)],3),([tv],88)])):=⟨by unfold cZ;rw [if_neg hs];exact HE.out.1,hn.2⟩
  have d0:((v:Int)==0)=false:=by simp;omega
  clear hs
  have hform:=ht.forms
  clear hn hf ht HE
  rcases hform with rfl|⟨fn,first,caps,rfl⟩
  all_goals
   go_enter func210,ntmps210
   go_wp2_with fail
   go_ret
   exact ⟨_,rfl,HS.out.1,HS.out.2⟩
theorem IX {c:CS} (hf:gX o w) (C:Nat) (i:Nat) (hc:w.cell? ⟨C,3,none⟩=some (ah (c.cells:Int))):Calls ay 168 #[aj C,ah (i:Int)] w fun e w'=>∃ nv,e = .returned nv/\bg o w' C (c.dZ i) nv/\Keep none_ w w':=by
 have hn:=iq (o:=o) [([aB C],30),([ah (i:Int)],3)] w hf
 have HE:Hid (bg o (bU w [([aB C],30),([ah (i:Int)],3)]) C (.cell i) (.func (.func 209) #[] #[aB (w.heap.size),aB (w.heap.size+1)])/\Keep none_ w (bU w [([aB C],30),([ah (i:Int)],3)])):=by
  obtain ⟨b0,b1,e,⟨o0,k0⟩,⟨o1,k1⟩⟩:=caps2 hn.1
  simp only [idxs,List.cons.injEq] at e
  obtain ⟨rfl,rfl,_⟩:=e
  exact ⟨⟨[w.heap.size,w.heap.size+1],rfl,_,_,rfl,o0,k0,_,_,rfl,o1,k1,rfl⟩,hn.2⟩
 have hmf:=jc
 have hcc:∀ x0 x1,((w.alloc x0).alloc x1).cell? ⟨C,3,none⟩=some (ah (c.cells:Int)):=fun x0 x1=>(((Keep.refl none_ w).alloc x0).alloc x1).still hc
 by_cases hs:i=c.cells
 ·have HS:Hid (bg o (bU w [([aB C],30),([ah (i:Int)],3)]) C (c.dZ i) (bnd 208 C)/\Keep none_ w (bU w [([aB C],30),([ah (i:Int)],3)])):=⟨by unfold CS.dZ;rw [if_pos hs];rfl,hn.2⟩
  have d0:((i:Int)==(c.cells:Int))=true:=by simp;omega
  generalize c.cells=cc at *
  clear hs
  clear hn hf HE hc
  go_enter func168,ntmps168
  go_wp2_with fail
  go_quiet (fail)
  go_wp2_with fail
  go_ret
  exact ⟨_,rfl,HS.out.1.still ((Keep.refl none_ _).drewN _),HS.out.2.trans ((Keep.refl none_ _).drewN _)⟩
 ·have HS:Hid (bg o (bU w [([aB C],30),([ah (i:Int)],3)]) C (c.dZ i) (.func (.func 209) #[] #[aB (w.heap.size),aB (w.heap.size+1)])/\Keep none_ w (bU w [([aB C],30),([ah (i:Int)],3)])):=⟨by unfold CS.dZ;rw [if_neg hs];exact HE.out.1,hn.2⟩
  have d0:((i:Int)==(c.cells:Int))=false:=by simp;omega
  generalize c.cells=cc at *
  clear hs
  clear hn hf HE hc
  go_enter func168,ntmps168
  go_wp2_with fail
  go_quiet (fail)
  go_wp2_with fail
  go_ret
  exact ⟨_,rfl,HS.out.1.still ((Keep.refl none_ _).drewN _),HS.out.2.trans ((Keep.refl none_ _).drewN _)⟩
theorem yC (hf:gX o w) (C:Nat) (a:Nat) {t:CD} {tv:Value} (ht:bg o w C t tv):Calls ay 242 #[aj C,ah (a:Int),tv] w fun e w'=>∃ nv,e = .returned nv/\bg o w' C (.object a t) nv/\Keep none_ w w':=by
 have hn:=iq (o:=o) [([aB C],30),([ah (a:Int)],3),([tv],88)] w hf
 have HE:Hid (bg o (bU w [([aB C],30),([ah (a:Int)],3),([tv],88)]) C (.object a t) (.func (.func 256) #[] #[aB (w.heap.size),aB (w.heap.size+1),aB (w.heap.size+1+1)])/\Keep none_ w (bU w [([aB C],30),([ah (a:Int)],3),([tv],88)])):=by
  obtain ⟨b0,b1,b2,e,⟨o0,k0⟩,⟨o1,k1⟩,⟨o2,k2⟩⟩:=caps3 hn.1
  simp only [idxs,List.cons.injEq] at e
  obtain ⟨rfl,rfl,rfl,_⟩:=e
  exact ⟨⟨tv,ht.still hn.2,[w.heap.size,w.heap.size+1,w.heap.size+1+1],rfl,_,_,rfl,o0,k0,_,_,rfl,o1,k1,_,_,rfl,o2,k2,rfl⟩,hn.2⟩
 have hmf:=jc
 have hform:=ht.forms
 clear hn hf ht
 rcases hform with rfl|⟨fn,first,caps,rfl⟩
 all_goals
  go_enter func242,ntmps242
  go_wp2_with fail
  go_ret
  exact ⟨_,rfl,HE.out.1,HE.out.2⟩
theorem FT (hf:gX o w) (C:Nat) (a:Nat) (i:Nat) (n:Nat) {t:CD} {tv:Value} (ht:bg o w C t tv):Calls ay 257 #[aj C,ah (a:Int),ah (i:Int),ah (n:Int),tv] w fun e w'=>∃ nv,e = .returned nv/\bg o w' C (cu a i n t) nv/\Keep none_ w w':=by
 have hn:=iq (o:=o) [([aB C],30),([ah (a:Int)],3),([ah (i:Int)],3),([ah (n:Int)],3),([tv],88)] w hf
 have HE:Hid (bg o (bU w [([aB C],30),([ah (a:Int)],3),([ah (i:Int)],3),([ah (n:Int)],3),([tv],88)]) C (.field a i n t) (.func (.func 271) #[] #[aB (w.heap.size),aB (w.heap.size+1),aB (w.heap.size+1+1),aB (w.heap.size+1+1+1),aB (w.heap.size+1+1+1+1)])/\Keep none_ w (bU w [([aB C],30),([ah (a:Int)],3),([ah (i:Int)],3),([ah (n:Int)],3),([tv],88)])):=by
  obtain ⟨b0,b1,b2,b3,b4,e,⟨o0,k0⟩,⟨o1,k1⟩,⟨o2,k2⟩,⟨o3,k3⟩,⟨o4,k4⟩⟩:=caps5 hn.1
  simp only [idxs,List.cons.injEq] at e
  obtain ⟨rfl,rfl,rfl,rfl,rfl,_⟩:=e
  exact ⟨⟨tv,ht.still hn.2,[w.heap.size,w.heap.size+1,w.heap.size+1+1,w.heap.size+1+1+1,w.heap.size+1+1+1+1],rfl,_,_,rfl,o0,k0,_,_,rfl,o1,k1,_,_,rfl,o2,k2,_,_,rfl,o3,k3,_,_,rfl,o4,k4,rfl⟩,hn.2⟩
 have hmf:=jc
 by_cases hs:i=n
 ·have HS:Hid (bg o (bU w [([aB C],30),([ah (a:Int)],3),([ah (i:Int)],3),([ah (n:Int)],3),([tv],88)]) C (cu a i n t) tv/\Keep none_ w (bU w [([aB C],30),([ah (a:Int)],3),([ah (i:Int)],3),([ah (n:Int)],3),([tv],88)])):=⟨by unfold cu;rw [if_pos hs];exact ht.still hn.2,hn.2⟩
  have d0:((i:Int)==(n:Int))=true:=by simp;omega
  clear hs
  have hform:=ht.forms
  clear hn hf ht HE
  rcases hform with rfl|⟨fn,first,caps,rfl⟩
  all_goals
   go_enter func257,ntmps257
   go_wp2_with fail
   go_ret
   exact ⟨_,rfl,HS.out.1,HS.out.2⟩
 ·have HS:Hid (bg o (bU w [([aB C],30),([ah (a:Int)],3),([ah (i:Int)],3),([ah (n:Int)],3),([tv],88)]) C (cu a i n t) (.func (.func 271) #[] #[aB (w.heap.size),aB (w.heap.size+1),aB (w.heap.size+1+1),aB (w.heap.size+1+1+1),aB (w.heap.size+1+1+1+1)])/\Keep none_ w (bU w [([aB C],30),([ah (a:Int)],3),([ah (i:Int)],3),([ah (n:Int)],3),([tv],88)])):=⟨by unfold cu;rw [if_neg hs];exact HE.out.1,hn.2⟩
  have d0:((i:Int)==(n:Int))=false:=by simp;omega
  clear hs
  have hform:=ht.forms
  clear hn hf ht HE
  rcases hform with rfl|⟨fn,first,caps,rfl⟩
  all_goals
   go_enter func257,ntmps257
   go_wp2_with fail
   go_ret
   exact ⟨_,rfl,HS.out.1,HS.out.2⟩
theorem Ep (hf:gX o w) (C:Nat) (m:Nat):Calls ay 243 #[aj C,ah (m:Int)] w fun e w'=>∃ nv,e = .returned nv/\bg o w' C (.box m) nv/\Keep none_ w w':=by
 have hn:=iq (o:=o) [([aB C],30),([ah (m:Int)],3)] w hf
 have HE:Hid (bg o (bU w [([aB C],30),([ah (m:Int)],3)]) C (.box m) (.func (.func 258) #[] #[aB (w.heap.size),aB (w.heap.size+1)])/\Keep none_ w (bU w [([aB C],30),([ah (m:Int)],3)])):=by
  obtain ⟨b0,b1,e,⟨o0,k0⟩,⟨o1,k1⟩⟩:=caps2 hn.1
  simp only [idxs,List.cons.injEq] at e
  obtain ⟨rfl,rfl,_⟩:=e
  exact ⟨⟨[w.heap.size,w.heap.size+1],rfl,_,_,rfl,o0,k0,_,_,rfl,o1,k1,rfl⟩,hn.2⟩
 have hmf:=jc
 clear hn hf
 go_enter func243,ntmps243
 go_wp2_with fail
 go_ret
 exact ⟨_,rfl,HE.out.1,HE.out.2⟩
theorem IY {c:CS} (hf:gX o w) (C:Nat) (b:Nat) (hc:w.cell? ⟨C,2,none⟩=some (ah (c.blocks:Int))):Calls ay 275 #[aj C,ah (b:Int)] w fun e w'=>∃ nv,e = .returned nv/\bg o w' C (c.eF b) nv/\Keep none_ w w':=by
 have hn:=iq (o:=o) [([aB C],30),([ah (b:Int)],3)] w hf
 have HE:Hid (bg o (bU w [([aB C],30),([ah (b:Int)],3)]) C (.walk b) (.func (.func 285) #[] #[aB (w.heap.size),aB (w.heap.size+1)])/\Keep none_ w (bU w [([aB C],30),([ah (b:Int)],3)])):=by
  obtain ⟨b0,b1,e,⟨o0,k0⟩,⟨o1,k1⟩⟩:=caps2 hn.1
  simp only [idxs,List.cons.injEq] at e
  obtain ⟨rfl,rfl,_⟩:=e
  exact ⟨⟨[w.heap.size,w.heap.size+1],rfl,_,_,rfl,o0,k0,_,_,rfl,o1,k1,rfl⟩,hn.2⟩
 have hmf:=jc
 have hcc:∀ x0 x1,((w.alloc x0).alloc x1).cell? ⟨C,2,none⟩=some (ah (c.blocks:Int)):=fun x0 x1=>(((Keep.refl none_ w).alloc x0).alloc x1).still hc
 by_cases hs:b=c.blocks
 ·have HS:Hid (bg o (bU w [([aB C],30),([ah (b:Int)],3)]) C (c.eF b) (bnd 208 C)/\Keep none_ w (bU w [([aB C],30),([ah (b:Int)],3)])):=⟨by unfold CS.eF;rw [if_pos hs];rfl,hn.2⟩
  have d0:((b:Int)==(c.blocks:Int))=true:=by simp;omega
  generalize c.blocks=cc at *
  clear hs
  clear hn hf HE hc
  go_enter func275,ntmps275
  go_wp2_with fail
  go_quiet (fail)
  go_wp2_with fail
  go_ret
  exact ⟨_,rfl,HS.out.1.still ((Keep.refl none_ _).drewN _),HS.out.2.trans ((Keep.refl none_ _).drewN _)⟩
 ·have HS:Hid (bg o (bU w [([aB C],30),([ah (b:Int)],3)]) C (c.eF b) (.func (.func 285) #[] #[aB (w.heap.size),aB (w.heap.size+1)])/\Keep none_ w (bU w [([aB C],30),([ah (b:Int)],3)])):=⟨by unfold CS.eF;rw [if_neg hs];exact HE.out.1,hn.2⟩
  have d0:((b:Int)==(c.blocks:Int))=false:=by simp;omega
  generalize c.blocks=cc at *
  clear hs
  clear hn hf HE hc
  go_enter func275,ntmps275
  go_wp2_with fail
  go_quiet (fail)
  go_wp2_with fail
  go_ret
  exact ⟨_,rfl,HS.out.1.still ((Keep.refl none_ _).drewN _),HS.out.2.trans ((Keep.refl none_ _).drewN _)⟩
theorem wU {c:CS} (hf:gX o w) (C:Nat) (b:Nat) (hc:w.cell? ⟨C,2,none⟩=some (ah (c.blocks:Int))):Calls ay 289 #[aj C,ah (b:Int)] w fun e w'=>∃ nv,e = .returned nv/\bg o w' C (c.iU b) nv/\Keep none_ w w':=by
 have hn:=iq (o:=o) [([aB C],30),([ah (b:Int)],3)] w hf
 have HE:Hid (bg o (bU w [([aB C],30),([ah (b:Int)],3)]) C (.enqueue b) (.func (.func 293) #[] #[aB (w.heap.size),aB (w.heap.size+1)])/\Keep none_ w (bU w [([aB C],30),([ah (b:Int)],3)])):=by
  obtain ⟨b0,b1,e,⟨o0,k0⟩,⟨o1,k1⟩⟩:=caps2 hn.1
  simp only [idxs,List.cons.injEq] at e
  obtain ⟨rfl,rfl,_⟩:=e
  exact ⟨⟨[w.heap.size,w.heap.size+1],rfl,_,_,rfl,o0,k0,_,_,rfl,o1,k1,rfl⟩,hn.2⟩
 have hmf:=jc
 have hcc:∀ x0 x1,((w.alloc x0).alloc x1).cell? ⟨C,2,none⟩=some (ah (c.blocks:Int)):=fun x0 x1=>(((Keep.refl none_ w).alloc x0).alloc x1).still hc
 by_cases hs:b=c.blocks
 ·have HS:Hid (bg o (bU w [([aB C],30),([ah (b:Int)],3)]) C (c.iU b) (bnd 292 C)/\Keep none_ w (bU w [([aB C],30),([ah (b:Int)],3)])):=⟨by unfold CS.iU;rw [if_pos hs];rfl,hn.2⟩
  have d0:((b:Int)==(c.blocks:Int))=true:=by simp;omega
  generalize c.blocks=cc at *
  clear hs
  clear hn hf HE hc
  go_enter func289,ntmps289
  go_wp2_with fail
  go_quiet (fail)
  go_wp2_with fail
  go_ret
  exact ⟨_,rfl,HS.out.1.still ((Keep.refl none_ _).drewN _),HS.out.2.trans ((Keep.refl none_ _).drewN _)⟩
 ·have HS:Hid (bg o (bU w [([aB C],30),([ah (b:Int)],3)]) C (c.iU b) (.func (.func 293) #[] #[aB (w.heap.size),aB (w.heap.size+1)])/\Keep none_ w (bU w [([aB C],30),([ah (b:Int)],3)])):=⟨by unfold CS.iU;rw [if_neg hs];exact HE.out.1,hn.2⟩
  have d0:((b:Int)==(c.blocks:Int))=false:=by simp;omega
  generalize c.blocks=cc at *
  clear hs
  clear hn hf HE hc
  go_enter func289,ntmps289
  go_wp2_with fail
  go_quiet (fail)
  go_wp2_with fail
  go_ret
  exact ⟨_,rfl,HS.out.1.still ((Keep.refl none_ _).drewN _),HS.out.2.trans ((Keep.refl none_ _).drewN _)⟩
theorem FU (hf:gX o w) (C:Nat)  {t:CD} {tv:Value} (ht:bg o w C t tv) {l:List Nat} {la:Option Addr} {lc:Nat} (hr:bC o w 3 (.slice la l.length lc) (aG l)):Calls ay 286 #[aj C,.slice la l.length lc,tv] w fun e w'=>∃ nv,e = .returned nv/\bg o w' C (dL l t) nv/\Keep none_ w w':=by
 have hn:=iq (o:=o) [([aB C],30),([.slice la l.length lc],32),([tv],88)] w hf
 have HE:Hid (bg o (bU w [([aB C],30),([.slice la l.length lc],32),([tv],88)]) C (.slots l t) (.func (.func 290) #[] #[aB (w.heap.size),aB (w.heap.size+1),aB (w.heap.size+1+1)])/\Keep none_ w (bU w [([aB C],30),([.slice la l.length lc],32),([tv],88)])):=by
  obtain ⟨b0,b1,b2,e,⟨o0,k0⟩,⟨o1,k1⟩,⟨o2,k2⟩⟩:=caps3 hn.1
  simp only [idxs,List.cons.injEq] at e
  obtain ⟨rfl,rfl,rfl,_⟩:=e
  exact ⟨⟨tv,_,ht.still hn.2,hr.still hn.2,[w.heap.size,w.heap.size+1,w.heap.size+1+1],rfl,_,_,rfl,o0,k0,_,_,rfl,o1,k1,_,_,rfl,o2,k2,rfl⟩,hn.2⟩
 have hmf:=jc
 by_cases hs:l=[]
 ·have HS:Hid (bg o (bU w [([aB C],30),([.slice la l.length lc],32),([tv],88)]) C (dL l t) tv/\Keep none_ w (bU w [([aB C],30),([.slice la l.length lc],32),([tv],88)])):=⟨by unfold dL;rw [if_pos hs];exact ht.still hn.2,hn.2⟩
  have d0:((l.length:Int)==0)=true:=by rw [hs];rfl
  generalize l.length=ll at *
  clear hs
  have hform:=ht.forms
  clear hn hf ht HE hr
  rcases hform with rfl|⟨fn,first,caps,rfl⟩
  all_goals
   go_enter func286,ntmps286
   go_wp2_with fail
   go_ret
   exact ⟨_,rfl,HS.out.1,HS.out.2⟩
 ·have HS:Hid (bg o (bU w [([aB C],30),([.slice la l.length lc],32),([tv],88)]) C (dL l t) (.func (.func 290) #[] #[aB (w.heap.size),aB (w.heap.size+1),aB (w.heap.size+1+1)])/\Keep none_ w (bU w [([aB C],30),([.slice la l.length lc],32),([tv],88)])):=⟨by unfold dL;rw [if_neg hs];exact HE.out.1,hn.2⟩
  have hlp:=List.length_pos_iff.2 hs
  have d0:((l.length:Int)==0)=false:=by simp;omega
  clear hs hlp
  generalize l.length=ll at *
  have hform:=ht.forms
  clear hn hf ht HE hr
  rcases hform with rfl|⟨fn,first,caps,rfl⟩
  all_goals
   go_enter func286,ntmps286
   go_wp2_with fail
   go_ret
   exact ⟨_,rfl,HS.out.1,HS.out.2⟩
theorem FV (hf:gX o w) (C:Nat)  {t:CD} {tv:Value} (ht:bg o w C t tv):Calls ay 291 #[aj C,tv] w fun e w'=>∃ nv,e = .returned nv/\bg o w' C (.empty t) nv/\Keep none_ w w':=by
 have hn:=iq (o:=o) [([aB C],30),([tv],88)] w hf
 have HE:Hid (bg o (bU w [([aB C],30),([tv],88)]) C (.empty t) (.func (.func 295) #[] #[aB (w.heap.size),aB (w.heap.size+1)])/\Keep none_ w (bU w [([aB C],30),([tv],88)])):=by
  obtain ⟨b0,b1,e,⟨o0,k0⟩,⟨o1,k1⟩⟩:=caps2 hn.1
  simp only [idxs,List.cons.injEq] at e
  obtain ⟨rfl,rfl,_⟩:=e
  exact ⟨⟨tv,ht.still hn.2,[w.heap.size,w.heap.size+1],rfl,_,_,rfl,o0,k0,_,_,rfl,o1,k1,rfl⟩,hn.2⟩
 have hmf:=jc
 have hform:=ht.forms
 clear hn hf ht
 rcases hform with rfl|⟨fn,first,caps,rfl⟩
 all_goals
  go_enter func291,ntmps291
  go_wp2_with fail
  go_ret
  exact ⟨_,rfl,HE.out.1,HE.out.2⟩
end
end
section
attribute [local go_sem ↓] jT
attribute [local go_sem] Oper.semAt_some
open Go.RowKit
theorem G8:∀ args w,(callFunc 270 args).run ay w = .ok (.enter 270 args) w:=fun args w=>by simp [callFunc,func270,go_sem];rfl
theorem FW:∀ args w,(callFunc 262 args).run ay w = .ok (.enter 262 args) w:=fun args w=>by simp [callFunc,func262,go_sem];rfl
theorem FX:∀ args w,(callFunc 282 args).run ay w = .ok (.enter 282 args) w:=fun args w=>by simp [callFunc,func282,go_sem];rfl
theorem IZ (K fn:Nat) (caps:Array Value) (hcf:∀ args w,(callFunc fn args).run ay w = .ok (.enter fn args) w) (w:World) (R:Bool->World->Prop) (h:Calls ay fn caps w fun e w'=>∃ b,e = .returned (.bool b)/\R b w') :
 Calls ay 261 #[aj K,.func (.func fn) #[] caps] w fun e w'=>∃ b,e = .returned (.bool b)/\R b w':=by
 have H:=au h
 clear h
 go_enter func261,ntmps261
 go_wp2_with fail
 refine H.out.mono ?_
 rintro e w1 ⟨b,rfl,hr⟩
 have HR:=au hr
 clear hr H
 go_wp2_with fail
 go_ret
 exact ⟨b,rfl,HR.out⟩
theorem Vd (K fn:Nat) (caps:Array Value) (hcf:∀ args w,(callFunc fn args).run ay w = .ok (.enter fn args) w) (w:World) (R:Int->World->Prop) (h:Calls ay fn caps w fun e w'=>∃ b,e = .returned (ah b)/\R b w') :
 Calls ay 269 #[aj K,.func (.func fn) #[] caps] w fun e w'=>∃ b,e = .returned (ah b)/\R b w':=by
 have H:=au h
 clear h
 go_enter func269,ntmps269
 go_wp2_with fail
 refine H.out.mono ?_
 rintro e w1 ⟨b,rfl,hr⟩
 have HR:=au hr
 clear hr H
 go_wp2_with fail
 go_ret
 exact ⟨b,rfl,HR.out⟩
section
variable {o:Ow} {w w':World} {K room:Nat} {ov:Bool} {l:List Nat}
theorem fZ.still (h:fZ o w K room ov l) (k:Keep none_ w w'):fZ o w' K room ov l:=by
 obtain ⟨v,h1,h2,h3⟩:=h
 exact ⟨v,k.blk h1 (fun f=>f),bV h2 k,h3⟩
theorem fZ.form (h:fZ o w K room ov l):∃ a c,w.cell? ⟨K,0,none⟩=some (.slice a l.length c):=by
 obtain ⟨v,h1,h2,h3⟩:=h
 obtain ⟨a,c,rfl,_⟩:=dP h2
 exact ⟨a,c,h1.cell 0 rfl⟩
theorem O1 (h:fZ o w K room ov l) (b:Nat) (hb:aA w b [aj K] 86):Calls ay 270 #[aj b] w fun e w'=>e = .returned (ah (l.length:Int))/\w=w':=by
 obtain ⟨a,c,y0⟩:=h.form
 have z0:=hb.cell 0 rfl
 generalize l.length=n at *
 clear h hb
 go_enter func270,ntmps270
 go_wp2_with fail
 go_ret
 exact ⟨rfl,rfl⟩
theorem zC (h:fZ o w K room ov l):Calls ay 255 #[aj K] w fun e w'=>e = .returned (ah (l.length:Int))/\Keep none_ w w':=by
 obtain ⟨W0,hW0⟩:∃ W',W'=w.alloc (.cells #[aj K] 86):=⟨_,rfl⟩
 have hk:Keep none_ w W0:=by rw [hW0];exact (Keep.refl _ _).alloc _
 have hb:aA W0 w.heap.size [aj K] 86:=by rw [hW0];exact aA.new w _ _
 have HC:=au (Vd K 270 #[aj w.heap.size] G8 W0 (fun b w'=>b=(l.length:Int)/\W0=w') ((O1 (h.still hk) w.heap.size hb).mono (fun e w' ⟨h1,h2⟩=>⟨_,h1,rfl,h2⟩)))
 have HK:=au hk
 have HW:=au hW0
 have z0:=hb.cell 0 rfl
 have hmf:=jc
 clear h hk hb hW0
 go_enter func255,ntmps255
 go_wp2_with fail
 rw [<- HW.out]
 go_wp2_with fail
 refine HC.out.mono ?_
 rintro e w1 ⟨b,rfl,rfl,rfl⟩
 go_wp2_with fail
 go_ret
 exact ⟨rfl,HK.out⟩
theorem RY (h:fZ o w K room ov []):Calls ay 241 #[aj K] w fun e w'=>e = .returned (.tuple #[ah 0,.bool false])/\Keep none_ w w':=by
 have HL:Hid (Calls ay 255 #[aj K] w fun e w'=>e = .returned (ah 0)/\Keep none_ w w'):=zC h
 clear h
 go_enter func241,ntmps241
 go_wp2_with fail
 refine HL.out.mono ?_
 rintro e w1 ⟨rfl,k1⟩
 have HK:=au k1
 clear k1 HL
 go_wp2_with fail
 go_ret2
 exact ⟨rfl,HK.out⟩
theorem LZ {base g c n:Nat} {T:TypeId} {xs:List Value} {x:Value} (h:w.ownsRow base T 1 (.slice (some ⟨g,0,none⟩) (n+1) c) (n+1) (xs++[x])):w.ownsRow base T 1 (.slice (some ⟨g,0,none⟩) n c) n xs:=by
 obtain ⟨h1,h2⟩:=h
 rcases h2 with ⟨h2,_⟩|⟨g',c',cur,h2,h3,h4,h5,h6,h7,h8⟩
 ·cases h2
 ·cases h2
  have hl:xs.length=n:=by simp at h1;omega
  refine ⟨by omega,.inr ⟨g,c,cur,rfl,h3,h4,by omega,h6,h7,?_⟩⟩
  have e:=congrArg (List.take n) h8
  rw [List.take_take] at e
  rw [show n*1=n by omega,<- show min n ((n+1)*1)=n by omega,e,List.take_append_of_le_length (by omega),List.take_of_length_le (by omega)]
theorem XV {α:Type} (l:List α) (x:α) (h:l.getLast?=some x):l=l.dropLast++[x]:=by
 have hne:l≠[]:=fun e=>by rw [e] at h;cases h
 have h2:=List.getLast?_eq_some_getLast hne
 rw [h] at h2
 injection h2 with h2
 rw [h2]
 exact (List.dropLast_concat_getLast hne).symm
theorem O3 (h:fZ o w K room ov l) (hm:l.length<=100000) (x:Nat) (hx:l.getLast?=some x):Calls ay 241 #[aj K] w fun e w'=>e = .returned (.tuple #[ah (x:Int),.bool true])/\fZ o w' K room ov l.dropLast/\Keep (only K) w w':=by
 have HL:=au (zC h)
 have el:=XV l x hx
 obtain ⟨xs,hxs⟩:∃ xs,xs=l.dropLast:=⟨_,rfl⟩
 rw [<- hxs] at el ⊢
 subst el
 clear hx hxs
 have HS:=au h
 obtain ⟨n,hn⟩:∃ n,n=xs.length:=⟨_,rfl⟩
 have hlen:(xs++[x]).length=n+1:=by simp [hn]
 rw [hlen] at HL
 have HST:Hid (∀ W,Keep none_ w W->∃ g c,W.cell? ⟨K,0,none⟩=some (.slice (some ⟨g,0,none⟩) (n+1) c)/\W.cell? ⟨g,n,none⟩=some (ah (x:Int))/\W.frozen? ⟨K,0,none⟩=false/\n+1<=c/\fZ o (W.setCell ⟨K,0,none⟩ (.slice (some ⟨g,0,none⟩) n c)) K room ov xs):=fun W hW=>by
  obtain ⟨v,h1,h2,h3⟩:=HS.out.still hW
  have h2':=h2
  rw [hlen] at h2'
  rcases h2'.2 with ⟨_,h4⟩|⟨g,c,cur,rfl,h4,h5,h6,h7,h8,h9⟩
  ·omega
  ·have e:aG (xs++[x])=aG xs++[ah (x:Int)]:=by simp [aG]
   rw [e] at h2'
   have hcell:=h2'.cells (g:=g) rfl n (ah (x:Int)) (by rw [List.getElem?_append_right (by simp [aG,hn])];simp [aG,hn])
   have ea:(⟨g,0,none⟩:Addr).add n=⟨g,n,none⟩:=by simp only [Addr.add];split<;>simp_all
   rw [ea] at hcell
   have hne:g≠K:=fun e=>own_ne h1 h2 (by decide) (by rw [<- e];rfl)
   refine ⟨g,c,h1.cell 0 rfl,hcell,h1.free 0,h6,.slice (some ⟨g,0,none⟩) n c,h1.set 0 _,?_,fun b hb=>?_⟩
   ·rw [<- hn]
    exact uo (LZ h2') (fun b hb=>by simp [Value.ownBlock] at hb;show b≠K;omega) _
   ·exact h3 b hb
 have hnb:n<=100000:=by omega
 have hw1:IntKind.i64.wrap ((n:Int)+1 - 1)=(n:Int):=by rw [show (n:Int)+1 - 1=(n:Int) by omega];exact IntWalk.i64_in _ (by omega)
 have hn0:¬ ((n:Int)<0):=by omega
 have d0:decide ((n:Int)<0)=false:=decide_eq_false hn0
 rw [show (((n+1:Nat)):Int)=(n:Int)+1 from by push_cast;rfl] at HL
 clear h HS hlen hn hm
 go_enter func241,ntmps241
 go_wp2_with fail
 refine HL.out.mono ?_
 rintro e w1 ⟨rfl,k1⟩
 obtain ⟨g,c,y0,y1,f0,hc,hst⟩:=HST.out w1 k1
 have hsl:∀ W:World,(Instr.slice 32 (.slice (some ⟨g,0,none⟩) (n+1) c) none (some (ah (n:Int))) none).run ay W = .ok (.slice (some ⟨g,0,none⟩) n c) W:=fun W=>by
  have ht:ay.underlying 32=some (.slice 3):=by kernel_rfl
  have hi:(ay.info? 3).map (·.size)=some 1:=by kernel_rfl
  obtain ⟨i,hi1,hi2⟩:=Option.map_eq_some_iff.1 hi
  have h1:¬ c<n:=by omega
  simp [Instr.slice,run_underlying ht,sizeOf,typeInfo,hi1,hi2,go_sem,h1,Addr.add]
 have HE:Hid (fZ o (w1.setCell ⟨K,0,none⟩ (.slice (some ⟨g,0,none⟩) n c)) K room ov xs/\Keep (only K) w (w1.setCell ⟨K,0,none⟩ (.slice (some ⟨g,0,none⟩) n c))):=⟨hst,(k1.mono (fun _ _ f=>f.elim)).put 0 _⟩
 have hlt:n<n+1:=Nat.lt_succ_self n
 clear hst k1 HL HST
 go_wp2_with fail
 go_ret2
 exact ⟨rfl,HE.out.1,HE.out.2⟩
theorem O4 (h:fZ o w K room ov l):Calls ay 273 #[aj K] w fun e w'=>e = .returned (.bool ov)/\fZ o w' K room false l/\Keep (only K) w w':=by
 obtain ⟨W0,hW0⟩:∃ W',W'=w.alloc (.cells #[aj K] 86):=⟨_,rfl⟩
 have hk:Keep none_ w W0:=by rw [hW0];exact (Keep.refl _ _).alloc _
 have hb:aA W0 w.heap.size [aj K] 86:=by rw [hW0];exact aA.new w _ _
 have hs0:=h.still hk
 have qW:Hid (Calls ay 282 #[aj w.heap.size] W0 fun e w'=>e = .returned (.bool ov)/\fZ o w' K room false l/\Keep (only K) W0 w'):=by
  obtain ⟨v,h1,h2,h3⟩:=hs0
  have y2:=h1.cell 2 rfl
  have f2:=h1.free 2
  have z0:=hb.cell 0 (v := aj K) rfl
  have hne:w.heap.size≠K:=fun e=>by
   rw [e] at hb
   exact absurd (hb.uniq h1).2 (by decide)
  have z1:∀ u,(W0.setCell ⟨K,2,none⟩ u).cell? ⟨w.heap.size,0,none⟩=some (aj K):=fun u=>(hb.other (a:=⟨K,2,none⟩) hne u).cell 0 rfl
  have HE:Hid (fZ o (W0.setCell ⟨K,2,none⟩ (.bool false)) K room false l/\Keep (only K) W0 (W0.setCell ⟨K,2,none⟩ (.bool false))) :=
   ⟨⟨v,h1.set 2 _,dY h2 ((Keep.refl (only K) _).put 2 _) (fun b hb e=>own_ne h1 h2 (by decide) (by rw [hb];exact congrArg some e)),h3⟩,(Keep.refl (only K) _).put 2 _⟩
  clear h h1 h2 h3 hk hb hW0 hne
  go_enter func282,ntmps282
  go_wp2_with fail
  go_ret
  exact ⟨rfl,HE.out.1,HE.out.2⟩
 have HC:=au (IZ K 282 #[aj w.heap.size] FX W0 (fun b w'=>b=ov/\fZ o w' K room false l/\Keep (only K) W0 w') (qW.out.mono (fun e w' ⟨h1,h2⟩=>⟨_,h1,rfl,h2⟩)))
 have HK:=au hk
 have HW:=au hW0
 have z0:=hb.cell 0 rfl
 have hmf:=jc
 clear h hk hb hW0 hs0 qW
 go_enter func273,ntmps273
 go_wp2_with fail
 rw [<- HW.out]
 go_wp2_with fail
 refine HC.out.mono ?_
 rintro e w1 ⟨b,rfl,rfl,h1,k1⟩
 have HE:=au (And.intro h1 ((HK.out.mono (fun _ _ f=>f.elim)).trans k1))
 clear h1 k1 HC
 go_wp2_with fail
 go_ret
 exact ⟨rfl,HE.out.1,HE.out.2⟩
end
end
end Go.Proofs.YtanfphjoebobaaaGreatDoor
