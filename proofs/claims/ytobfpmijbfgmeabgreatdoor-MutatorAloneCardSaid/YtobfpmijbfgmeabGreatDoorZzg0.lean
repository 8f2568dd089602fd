/- Short names for values. No conditions. -/
import Derived.Lib.Hide
import Derived.WalkKit
namespace Go.Proofs.YtobfpmijbfgmeabGreatDoor
theorem au {p:Prop} (h:p):RowKit.Hid p:=h
theorem cZ {p:Prop} [h:Decidable p] (g:p):decide p=true:=decide_eq_true g
theorem dD {p:Prop} [h:Decidable p] (g:¬p):decide p=false:=decide_eq_false g
theorem aV.{u} {c:Prop} {h:Decidable c} (g:c) {α:Sort u} {t e:α}:ite c t e=t:=if_pos g
theorem aO.{u} {c:Prop} {h:Decidable c} (g:¬c) {α:Sort u} {t e:α}:ite c t e=e:=if_neg g
abbrev ah (x:Int):Value:=.int .i64 x
abbrev ak (b:Nat):Value:=.pointer (some ⟨b,0,none⟩)
end Go.Proofs.YtobfpmijbfgmeabGreatDoor
