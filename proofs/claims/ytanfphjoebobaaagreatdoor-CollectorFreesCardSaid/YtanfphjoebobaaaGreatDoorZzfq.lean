/- Parts of the iy. No conditions. -/
import Derived.Test.YtanfphjoebobaaaGreatDoorZzfk
namespace Go.Proofs.YtanfphjoebobaaaGreatDoor
section
open Go.RowKit
def FN (o o':Ow) (w w':World):Prop:=∀ b cs T,o b=0->aF w b cs T->o' b=0/\aF w' b cs T
theorem tq.kN {o o':Ow} {w w':World} (k:FN o o' w w'):∀ {l:List (List Value × TypeId)} {bs:List Nat},tq o w l bs->tq o' w' l bs
 | [],_,h=>h
 | (cs,T)::l,bs,h=>by
   obtain ⟨b,r,e,h1,h2,h3⟩:=h
   obtain ⟨g1,g2⟩:=k b cs T h1 h2
   exact ⟨b,r,e,g1,g2,tq.kN k h3⟩
theorem dW.kN {o o':Ow} {w w':World} {fn:Nat} {l:List (List Value × TypeId)} {v:Value} (h:dW o w fn l v) (k:FN o o' w w'):dW o' w' fn l v:=by
 obtain ⟨bs,e,hc⟩:=h
 exact ⟨bs,e,hc.kN k⟩
theorem dH.kN {o o':Ow} {w w':World} {T:TypeId} {v:Value} {xs:List Value} (h:dH o w T v xs) (k:FN o o' w w'):dH o' w' T v xs:=by
 obtain ⟨a,c,rfl,hl,hm,hc⟩:=h
 refine ⟨a,c,rfl,hl,hm,fun h0=>?_⟩
 obtain ⟨b,off,cs,e,h0,hb,hj⟩:=hc h0
 obtain ⟨g1,g2⟩:=k b cs T h0 hb
 exact ⟨b,off,cs,e,g1,g2,hj⟩
theorem zS.kN {o o':Ow} {w w':World} {M:Nat} {rd:RD} {v:Value} (h:zS o w M rd v) (k:FN o o' w w'):zS o' w' M rd v:=by
 cases rd with
 | field bP f x=>obtain ⟨op,e,h1⟩:=h;exact ⟨op,e,h1.kN k⟩
 | cell i x=>obtain ⟨op,e,h1⟩:=h;exact ⟨op,e,h1.kN k⟩
theorem zT.kN {o o':Ow} {w w':World} {M:Nat} {rd:RD} {v:Value} (h:zT o w M rd v) (k:FN o o' w w'):zT o' w' M rd v:=by
 cases rd with
 | field bP f x=>obtain ⟨op,e,h1⟩:=h;exact ⟨op,e,h1.kN k⟩
 | cell i x=>obtain ⟨op,e,h1⟩:=h;exact ⟨op,e,h1.kN k⟩
theorem qo.kN {o o':Ow} {w w':World} {M:Nat} {rd:RD} {v:Value} (h:qo o w M rd v) (k:FN o o' w w'):qo o' w' M rd v:=by
 obtain ⟨wv,h1,h2⟩:=h
 exact ⟨wv,h1.kN k,h2.kN k⟩
theorem fE.kN {o o':Ow} {w w':World} {Nt M:Nat} (k:FN o o' w w'):∀ {d:MD} {v:Value},fE o w Nt M d v->fE o' w' Nt M d v:=by
 intro d
 induction d with
 | nil=>intro v h;exact h
 | kU op=>intro v h;exact dW.kN h k
 | once q =>
   intro v h
   obtain ⟨dv,h1,h2⟩:=h
   refine ⟨dv,h1.kN k,?_⟩
   revert h2
   split
   ·rintro ⟨lv,h2,h3⟩;exact ⟨lv,h2.kN k,h3.kN k⟩
   split
   ·rintro ⟨lv,h2,h3⟩;exact ⟨lv,h2.kN k,h3.kN k⟩
   split
   ·rintro ⟨lv,h2,h3⟩;exact ⟨lv,h2.kN k,h3.kN k⟩
   split
   ·rintro ⟨lv,h2,h3⟩;exact ⟨lv,h2.kN k,h3.kN k⟩
   ·rintro ⟨lv,h2,h3⟩;exact ⟨lv,h2.kN k,h3.kN k⟩
 | lH x c t ih =>
   intro v h
   obtain ⟨tv,av,h1,h2,h3⟩:=h
   exact ⟨tv,av,ih h1,h2.kN k,h3.kN k⟩
 | add x t ih=>intro v h;obtain ⟨tv,h1,h2⟩:=h;exact ⟨tv,ih h1,h2.kN k⟩
 | nT c t ih=>intro v h;obtain ⟨tv,h1,h2⟩:=h;exact ⟨tv,ih h1,h2.kN k⟩
 | iK c f t ih=>intro v h;obtain ⟨tv,h1,h2⟩:=h;exact ⟨tv,ih h1,h2.kN k⟩
 | kX t ih=>intro v h;obtain ⟨tv,h1,h2⟩:=h;exact ⟨tv,ih h1,h2.kN k⟩
 | field bP f t ih=>intro v h;obtain ⟨tv,h1,h2⟩:=h;exact ⟨tv,ih h1,h2.kN k⟩
 | load op bP=>intro v h;exact dW.kN h k
 | get op=>intro v h;exact dW.kN h k
 | uj x rd =>
   intro v h
   obtain ⟨rv,lv,h1,h2,h3⟩:=h
   exact ⟨rv,lv,h1.kN k,h2.kN k,h3.kN k⟩
 | last rd=>intro v h;exact qo.kN h k
 | alloc op q=>intro v h;exact dW.kN h k
 | assign op q=>intro v h;exact dW.kN h k
 | xJ op all =>
   intro v h
   obtain ⟨h1,av,h2,h3⟩:=h
   exact ⟨h1,av,h2.kN k,h3.kN k⟩
 | xK op q=>intro v h;exact dW.kN h k
 | wP op q=>intro v h;exact dW.kN h k
 | eX sl c t=>intro v h;exact h.elim
 | fill op a=>intro v h;exact dW.kN h k
 | zero op a i=>intro v h;exact dW.kN h k
end
end Go.Proofs.YtanfphjoebobaaaGreatDoor
