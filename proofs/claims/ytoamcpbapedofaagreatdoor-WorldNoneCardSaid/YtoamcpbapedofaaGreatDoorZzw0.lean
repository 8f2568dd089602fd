/- Short names for values. No conditions. -/
import Derived.Lib.Hide
import Derived.WalkKit
namespace Go.Proofs.YtoamcpbapedofaaGreatDoor
theorem aA {p:Prop} (h:p):RowKit.Hid p:=h
theorem uH {p:Prop} [h:Decidable p] (g:p):decide p=true:=decide_eq_true g
theorem rE {p:Prop} [h:Decidable p] (g:¬p):decide p=false:=decide_eq_false g
theorem jh.{u} {c:Prop} {h:Decidable c} (g:c) {α:Sort u} {t e:α}:ite c t e=t:=if_pos g
theorem bT.{u} {c:Prop} {h:Decidable c} (g:¬c) {α:Sort u} {t e:α}:ite c t e=e:=if_neg g
abbrev ah (x:Int):Value:=.int .i64 x
abbrev au (b:Nat):Value:=.pointer (some ⟨b,0,none⟩)
end Go.Proofs.YtoamcpbapedofaaGreatDoor
