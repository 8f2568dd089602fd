/- Parts of a walk, put together and made shorter by a program of mine. No conditions. -/
import Derived.Test.YtanfphjoebobaaaGreatDoorZzcl
import Derived.Test.YtanfphjoebobaaaGreatDoorZzck
namespace Go.Proofs.YtanfphjoebobaaaGreatDoor
set_option maxRecDepth 4000
set_option maxHeartbeats 4000000
section
attribute [local go_sem] Oper.semAt_some
open Go.RowKit
section
variable {w w':World} {D:Nat→Nat} {H:HS}
theorem vg (h:au w D H) (i:Int):Calls Tryz.prog 57 #[.pointer (some ⟨D 0,0,none⟩),.int .i64 i] w fun e w'=>e = .returned (.tuple #[.int .i64 (H.cellP i:Int),.int .i64 (H.jo i:Int)])∧w=w':=by
 have y5:=h.blk.cell 5 rfl
 have hlen:H.cells.length≤64:=by
  have h1:=(dW h.table.ok).2.2.2.2.1
  have h2:=h.cc
  omega
 by_cases h0:i<0
 ·have HE:Hid (H.jo i=9∧H.cellP i=0):=by
   have h1:H.jo i=9:=by unfold HS.jo;rw [if_pos (.inl h0)]
   exact ⟨h1,by unfold HS.cellP;rw [h1];rfl⟩
  rw [HE.out.1,HE.out.2]
  have d0:decide (i<0)=true:=decide_eq_true h0
  generalize H.cells.length=n at *
  clear h h0 HE
  go_enter Tryz.func57,Tryz.ntmps57
  go_wp2_with fail
  go_ret2
  exact ⟨rfl,rfl⟩
 ·have d0:decide (i<0)=false:=decide_eq_false h0
  by_cases h1:(H.cells.length:Int)≤i
  ·have HE:Hid (H.jo i=9∧H.cellP i=0):=by
    have h2:H.jo i=9:=by unfold HS.jo;rw [if_pos (.inr h1)]
    exact ⟨h2,by unfold HS.cellP;rw [h2];rfl⟩
   rw [HE.out.1,HE.out.2]
   have d1:decide ((H.cells.length:Int)≤i)=true:=decide_eq_true h1
   have h2:(0:Int)≤i:=by omega
   generalize H.cells.length=n at *
   clear h h0 HE
   go_enter Tryz.func57,Tryz.ntmps57
   go_wp2_with fail
   go_ret2
   exact ⟨rfl,rfl⟩
  ·obtain ⟨j,rfl⟩:∃ j:Nat,i=(j:Int):=⟨i.toNat,by omega⟩
   have hj:j<H.cells.length:=by omega
   have HE:Hid (H.jo (j:Int)=0∧H.cellP (j:Int)=H.cells.getD j 0):=by
    have h2:H.jo (j:Int)=0:=by unfold HS.jo;rw [if_neg (by omega)]
    exact ⟨h2,by unfold HS.cellP;rw [h2];rfl⟩
   rw [HE.out.1,HE.out.2]
   have d1:decide ((H.cells.length:Int)≤(j:Int))=false:=decide_eq_false h1
   have z:=h.cel.cell j (kE hj)
   have hjI:(j:Int)<(H.cells.length:Int):=by omega
   have h0I:(0:Int)≤(j:Int):=by omega
   generalize H.cells.getD j 0=x at *
   generalize H.cells.length=n at *
   clear h h0 h1 HE hj
   go_enter Tryz.func57,Tryz.ntmps57
   go_wp2_with fail
   go_ret2
   exact ⟨rfl,rfl⟩
theorem ED (h:au w D H) (i:Int) (v:Nat):Calls Tryz.prog 74 #[.pointer (some ⟨D 0,0,none⟩),.int .i64 i,.int .i64 (v:Int)] w fun e w'=>e = .returned (.int .i64 (H.qx i v:Int))∧au w' D (H.kN i v)∧Keep (HF D) w w':=by
 have y5:=h.blk.cell 5 rfl
 have hlen:H.cells.length≤64:=by
  have h1:=(dW h.table.ok).2.2.2.2.1
  have h2:=h.cc
  omega
 have HC:=Lib.hid (vg h i)
 have HV:=Lib.hid (tC h v)
 by_cases h0:H.jo i=0
 ·obtain ⟨j,rfl⟩:∃ j:Nat,i=(j:Int):=⟨i.toNat,by unfold HS.jo at h0;split at h0<;>omega⟩
  have hj:j<H.cells.length:=by unfold HS.jo at h0;split at h0<;>omega
  rw [h0] at HC
  by_cases hv:v≤H.n
  ·have HE:Hid (H.qx (j:Int) v=0∧H.kN (j:Int) v=H.setCell j v):=by
    have h2:H.qx (j:Int) v=0:=by unfold HS.qx;rw [h0,if_pos rfl,if_pos hv]
    exact ⟨h2,by unfold HS.kN;rw [h2,if_pos rfl];rfl⟩
   rw [HE.out.1,HE.out.2]
   rw [decide_eq_true hv] at HV
   have z:=h.cel.cell j (kE hj)
   have fz:=h.cel.free j
   have hjI:(j:Int)<(H.cells.length:Int):=by omega
   have h0I:(0:Int)≤(j:Int):=by omega
   have hk:Keep (only (D 12)) w (w.setCell ⟨D 12,j,none⟩ (.int .i64 (v:Int))):=(Keep.refl _ _).put _ _
   have hR:au (w.setCell ⟨D 12,j,none⟩ (.int .i64 (v:Int))) D (H.setCell j v):=by
    refine h.Tm (cl:=H.cells.set j v) (hk.sel1 rfl) ?_ (by simp) (h.inv.setCell j v hv)
    rw [tq]
    exact h.cel.set j _
   have HR:Hid (au (w.setCell ⟨D 12,j,none⟩ (.int .i64 (v:Int))) D (H.setCell j v)∧Keep (HF D) w (w.setCell ⟨D 12,j,none⟩ (.int .i64 (v:Int)))):=⟨hR,(hk.sel1 (I:=[12]) rfl).hf rfl⟩
   generalize H.setCell j v=H' at *
   generalize H.cellP (j:Int)=cp at *
   generalize H.cells.getD j 0=x at *
   generalize H.cells.length=n at *
   clear h h0 HE hj hv hk hR
   go_enter Tryz.func74,Tryz.ntmps74
   go_wp2_with (first|(go_at_call 57;refine HC.out.mono ?_;rintro e w1 ⟨rfl,rfl⟩)|(go_at_call 118;refine HV.out.mono ?_;rintro e w1 ⟨rfl,rfl⟩))
   go_ret
   exact ⟨rfl,HR.out.1,HR.out.2⟩
  ·have HE:Hid (H.qx (j:Int) v=4∧H.kN (j:Int) v=H):=by
    have h2:H.qx (j:Int) v=4:=by unfold HS.qx;rw [h0,if_pos rfl,if_neg hv]
    exact ⟨h2,by unfold HS.kN;rw [h2];rfl⟩
   rw [HE.out.1,HE.out.2]
   rw [decide_eq_false hv] at HV
   have HH:=Lib.hid h
   generalize H.cellP (j:Int)=cp at *
   generalize H.cells.length=n at *
   clear h h0 HE hj hv
   go_enter Tryz.func74,Tryz.ntmps74
   go_wp2_with (first|(go_at_call 57;refine HC.out.mono ?_;rintro e w1 ⟨rfl,rfl⟩)|(go_at_call 118;refine HV.out.mono ?_;rintro e w1 ⟨rfl,rfl⟩))
   go_ret
   exact ⟨rfl,HH.out,Keep.refl _ _⟩
 ·have h9:H.jo i=9:=by unfold HS.jo at h0 ⊢;split<;>simp_all
  have HE:Hid (H.qx i v=9∧H.kN i v=H):=by
   have h2:H.qx i v=9:=by unfold HS.qx;rw [if_neg h0]
   exact ⟨h2,by unfold HS.kN;rw [h2];rfl⟩
  rw [HE.out.1,HE.out.2]
  rw [h9] at HC
  have HH:=Lib.hid h
  generalize H.cellP i=cp at *
  generalize H.cells.length=n at *
  clear h h0 HE h9
  go_enter Tryz.func74,Tryz.ntmps74
  go_wp2_with (first|(go_at_call 57;refine HC.out.mono ?_;rintro e w1 ⟨rfl,rfl⟩)|(go_at_call 118;refine HV.out.mono ?_;rintro e w1 ⟨rfl,rfl⟩))
  go_ret
  exact ⟨rfl,HH.out,Keep.refl _ _⟩
def HS.cls (H:HS) (a:Nat):Nat:=match H.owner a with
 | none=>0
 | some (_,k)=>k
theorem au.Tn (h:au w D H) (a:Nat):∃ B:Nat,Calls Tryz.prog 149 #[.pointer (some ⟨D 3,0,none⟩),.int .i64 (a:Int)] w fun e w'=>e = .returned (.tuple #[.int .i64 (B:Int),.int .i64 (H.cls a:Int),.bool (H.owner a).isSome])∧Keep none_ w w':=by
 have e:=h.Ez a
 cases ho:H.owner a with
 | none =>
   rw [ho] at e
   refine ⟨0,?_⟩
   have h1:=BF h.table H.ww a h.cw e h.tabs h.sizes
   unfold HS.cls
   rw [ho];exact h1
 | some x =>
   obtain ⟨B,k⟩:=x
   rw [ho] at e
   refine ⟨B,?_⟩
   have h1:=yU h.table H.ww a B k h.cw e h.tabs h.sizes
   unfold HS.cls
   rw [ho];exact h1
theorem qR (h:au w D H) (a:Nat):Calls Tryz.prog 105 #[.pointer (some ⟨D 0,0,none⟩),.int .i64 (a:Int)] w fun e w'=>e = .returned (.tuple #[.int .i64 (H.cls a:Int),.bool (H.hand a)])∧Keep none_ w w':=by
 obtain ⟨B,hO⟩:=h.Tn a
 have HO:=Lib.hid hO
 have HB:Hid (∀ W,Keep none_ w W→Calls Tryz.prog 54 #[.pointer (some ⟨D 8,0,none⟩),.int .i64 (a:Int)] W fun e w'=>e = .returned (.bool (H.bn a))∧W=w'):=fun W hW=>(h.still hW).born.has a
 have HL:Hid (∀ W,Keep none_ w W→Calls Tryz.prog 150 #[.pointer (some ⟨D 5,0,none⟩),.int .i64 (a:Int)] W fun e w'=>e = .returned (.bool (H.inn a))∧W=w'):=fun W hW=>by
  obtain ⟨In,hl,hi⟩:=(h.still hW).lists
  rw [← hi a]
  exact O0 hl a
 have hY:∀ W,Keep none_ w W→W.cell? ⟨D 0,3,none⟩=some (.pointer (some ⟨D 8,0,none⟩))∧W.cell? ⟨D 0,2,none⟩=some (.pointer (some ⟨D 5,0,none⟩)):=fun W hW=>⟨(h.still hW).blk.cell 3 rfl,(h.still hW).blk.cell 2 rfl⟩
 have HY:=Lib.hid hY
 have y1:=h.blk.cell 1 rfl
 have HE:Hid (H.hand a=((H.owner a).isSome && !H.bn a && !H.inn a)):=rfl
 rw [HE.out]
 generalize (H.owner a).isSome=p at *
 generalize H.bn a=x at *
 generalize H.inn a=y at *
 generalize H.cls a=k at *
 clear h hO hY HE
 cases p<;>cases x<;>cases y
 all_goals
  go_enter Tryz.func105,Tryz.ntmps105
  go_wp2_with (go_at_call 149;refine HO.out.mono ?_;rintro e w1 ⟨rfl,hk1⟩;have HK1:=Lib.hid hk1;have z3:=(HY.out w1 hk1).1;have z2:=(HY.out w1 hk1).2;have HBW:=Lib.hid (HB.out w1 hk1);have HLW:=Lib.hid (HL.out w1 hk1);clear hk1)
  go_wp2_with (first|(go_at_call 54;refine HBW.out.mono ?_;rintro e w2 ⟨rfl,rfl⟩)|(go_at_call 150;refine HLW.out.mono ?_;rintro e w2 ⟨rfl,rfl⟩))
  go_ret2
  exact ⟨rfl,HK1.out⟩
theorem rH (h:au w D H) (a:Nat):Calls Tryz.prog 143 #[.pointer (some ⟨D 0,0,none⟩),.int .i64 (a:Int)] w fun e w'=>e = .returned (.tuple #[.int .i64 (H.nf a:Int),.bool (H.hdr a).isSome])∧au w' D H∧Keep (only (D 1)) w w':=by
 have hal:=h.inv.jY
 have hL:∃ er:Int,Calls Tryz.prog 99 #[.pointer (some ⟨D 1,0,none⟩),.int .i64 (a:Int)] w fun e w'=>e = .returned (.tuple #[.int .u64 (H.word a:Int),.int .i64 er])∧au w' D H∧Keep (only (D 1)) w w':=by
  by_cases ha:1≤a∧a≤H.A.length
  ·refine ⟨0,?_⟩
   have h1:=xU h.arena (a - 1) (by omega)
   rw [show ((a - 1:Nat):Int)+1=(a:Int) by omega] at h1
   refine h1.mono ?_
   rintro e w' ⟨rfl,h2,h3⟩
   refine ⟨?_,h.loaded h3 h2,h3⟩
   unfold HS.word lM
   rw [if_pos ha.1]
  ·refine ⟨atE a,?_⟩
   refine (Md h.arena (a:Int) (by omega)).mono ?_
   rintro e w' ⟨rfl,h3⟩
   refine ⟨?_,h.still h3,h3.mono (fun _ _ f=>f.elim)⟩
   have:H.word a=0:=by
    unfold HS.word lM
    split
    ·rw [List.getD_eq_getElem?_getD,List.getElem?_eq_none (by omega)];rfl
    ·rfl
   rw [this];rfl
 obtain ⟨er,hL⟩:=hL
 have HL:=Lib.hid hL
 have y0:=h.blk.cell 0 rfl
 have hP:∃ c:Nat,∀ W,Sizes W→Calls Tryz.prog 192 #[.int .u64 (H.word a:Int)] W fun e w'=>e = .returned (.tuple #[.int .i64 (c:Int),.int .i64 (H.nf a:Int),.bool (H.hdr a).isSome])∧W=w':=by
  have hx:=h.inv.wlt a
  unfold HS.nf HS.hdr
  cases hp:hdP (H.word a) with
  | none=>exact ⟨0,fun W hS=>DV _ hx hp W hS⟩
  | some cf =>
    obtain ⟨c,f⟩:=cf
    obtain ⟨h1,h2⟩:=sQ hp
    rw [h2]
    exact ⟨c,fun W hS=>Gq c f h1 W hS⟩
 obtain ⟨c,hP⟩:=hP
 have HP:=Lib.hid hP
 generalize H.word a=x at *
 generalize H.nf a=n at *
 generalize (H.hdr a).isSome=p at *
 clear h hL hP hal
 go_enter Tryz.func143,Tryz.ntmps143
 go_wp2_with (go_at_call 99;refine HL.out.mono ?_;rintro e w1 ⟨rfl,h1,k1⟩;have HH:=Lib.hid h1;have HK:=Lib.hid k1;clear h1 k1)
 have HP1:=Lib.hid (HP.out _ HH.out.sizes)
 go_wp2_with (go_at_call 192;refine HP1.out.mono ?_;rintro e w2 ⟨rfl,rfl⟩)
 go_ret2
 exact ⟨rfl,HH.out,HK.out⟩
end
section
variable {w w':World} {L iR iX aR aX tR sz:Nat} {In F A:List Nat}
theorem O9 (h:aS w L iR iX aR tR sz In F) (pp:Int) (k b1 b2:Nat) (hin:dU sz In pp true=false) (hb1:Blk w b1 [.pointer (some ⟨L,0,none⟩)] 98) (hb2:Blk w b2 [.int .i64 pp] 3) :
 Calls Tryz.prog 238 #[.int .i64 (k:Int),.pointer (some ⟨b1,0,none⟩),.pointer (some ⟨b2,0,none⟩)] w fun e w'=>e = .returned (.int .i64 11)∧aS w' L iR iX aR tR sz In F∧Keep (only iX) w w':=by
 obtain ⟨q0,q1,q2⟩:=h.ptrs
 have HBP:=Lib.hid (qy (h.set.still (k:=(Keep.refl none_ w).drew)) pp true)
 have hpl:fE sz In pp true=In:=by unfold fE;rw [if_neg (by rw [hin];decide)]
 rw [hin,hpl] at HBP
 have hLn:=h.ne
 have y1:=hb1.cell 0 rfl
 have y2:=hb2.cell 0 rfl
 have H:=Lib.hid h
 have HN:=Lib.hid hLn
 clear h hb1 hb2 hLn hpl hin
 go_enter Tryz.func238,Tryz.ntmps238
 go_wp2_with fail
 refine aA 5 rfl (by kernel_rfl) (by kernel_rfl) (fun K hK=>?_)
 change wpStill _ _ (World.drew _) _ _ _
 simp only [List.take_succ_cons,List.take_zero,List.drop_succ_cons,List.drop_zero] at hK ⊢
 repeat still_step
 refine wpStill_nil ?_
 change ite _ (Oper.wp _ _ _ w.drew _ _) _
 go_simp
 refine HBP.out.mono ?_
 rintro e w1 ⟨rfl,hs1,hk1⟩
 refine hK _ _ ?_
 clear hK K
 have hk01:Keep (only iX) w w1:=(Keep.refl _ _).drew.trans hk1
 have HS1:=Lib.hid (H.out.Eu hk01 HN.out.2 hs1)
 have HK1:=Lib.hid hk01
 clear hs1 hk1 hk01 y1 y2 q0 q1 q2 HBP
 repeat still_step
 refine wpStill_nil ?_
 go_wp2_with fail
 go_ret
 exact ⟨rfl,HS1.out,HK1.out⟩
theorem Ri (h:aS w L iR iX aR tR sz In F) (pp:Int)
 (hO:∀ W,Keep none_ w W→Calls Tryz.prog 149 #[.pointer (some ⟨tR,0,none⟩),.int .i64 pp] W fun e w'=>e = .returned (.tuple #[.int .i64 0,.int .i64 0,.bool false])∧Keep none_ W w') :
 Calls Tryz.prog 204 #[.pointer (some ⟨L,0,none⟩),.int .i64 pp] w fun e w'=>e = .returned (.int .i64 1)∧Keep none_ w w':=by
 obtain ⟨W0,hW0⟩:∃ W',W'=(w.alloc (.cells #[.pointer (some ⟨L,0,none⟩)] 98)).alloc (.cells #[.int .i64 pp] 3):=⟨_,rfl⟩
 have hk0:Keep none_ w W0:=by rw [hW0];exact ((Keep.refl _ _).alloc _).alloc _
 have HSL:Hid (Calls Tryz.prog 237 #[.pointer (some ⟨L,0,none⟩),.int .i64 pp,.func (.func 238) #[] #[.pointer (some ⟨w.heap.size,0,none⟩),.pointer (some ⟨w.heap.size+1,0,none⟩)]] W0 fun e w'=>e = .returned (.int .i64 1)∧Keep none_ w w'):=by
  have HO:=Lib.hid (hO W0 hk0)
  obtain ⟨q0,q1,q2⟩:=(h.still hk0).ptrs
  have HK0:=Lib.hid hk0
  clear h hO hW0 hk0
  unfold Hid
  go_enter Tryz.func237,Tryz.ntmps237
  go_wp2_with (go_at_call 149;refine HO.out.mono ?_;rintro e w1 ⟨rfl,hk1⟩;have HK1:=Lib.hid hk1;clear hk1)
  go_ret
  exact ⟨rfl,HK0.out.trans HK1.out⟩
 have hmf:∀ (fn:Fn) (first cap:Array Value) (w:World),(Instr.makeFunc fn first cap).run Tryz.prog w = .ok (.func fn first cap) w:=fun _ _ _ _=>rfl
 clear h hO hk0
 go_enter Tryz.func204,Tryz.ntmps204
 go_wp2_with fail
 rw [← hW0]
 clear hW0
 refine HSL.out.mono ?_
 rintro e w1 ⟨rfl,h1⟩
 have H1:=Lib.hid h1
 clear h1
 go_wp2_with fail
 go_ret
 exact ⟨rfl,H1.out⟩
theorem Rj (h:aS w L iR iX aR tR sz In F) (pp:Int) (k:Nat) (B0:Int) (hin:dU sz In pp true=false)
 (hO:∀ W,Keep none_ w W→Calls Tryz.prog 149 #[.pointer (some ⟨tR,0,none⟩),.int .i64 pp] W fun e w'=>e = .returned (.tuple #[.int .i64 B0,.int .i64 (k:Int),.bool true])∧Keep none_ W w') :
 Calls Tryz.prog 204 #[.pointer (some ⟨L,0,none⟩),.int .i64 pp] w fun e w'=>e = .returned (.int .i64 11)∧aS w' L iR iX aR tR sz In F∧Keep (only iX) w w':=by
 obtain ⟨W0,hW0⟩:∃ W',W'=(w.alloc (.cells #[.pointer (some ⟨L,0,none⟩)] 98)).alloc (.cells #[.int .i64 pp] 3):=⟨_,rfl⟩
 have hk0:Keep none_ w W0:=by rw [hW0];exact ((Keep.refl _ _).alloc _).alloc _
 have hb1:Blk W0 w.heap.size [.pointer (some ⟨L,0,none⟩)] 98:=by rw [hW0];exact (Blk.new w _ _).alloc _
 have hb2:Blk W0 (w.heap.size+1) [.int .i64 pp] 3:=by
  rw [hW0]
  have h:=Blk.new (w.alloc (.cells #[.pointer (some ⟨L,0,none⟩)] 98)) [.int .i64 pp] 3
  rw [World.size_alloc] at h
  exact h
 have HSL:Hid (Calls Tryz.prog 237 #[.pointer (some ⟨L,0,none⟩),.int .i64 pp,.func (.func 238) #[] #[.pointer (some ⟨w.heap.size,0,none⟩),.pointer (some ⟨w.heap.size+1,0,none⟩)]] W0 fun e w'=>e = .returned (.int .i64 11)∧aS w' L iR iX aR tR sz In F∧Keep (only iX) w w'):=by
  have HC:Hid (∀ W,Keep none_ W0 W→Calls Tryz.prog 238 #[.int .i64 (k:Int),.pointer (some ⟨w.heap.size,0,none⟩),.pointer (some ⟨w.heap.size+1,0,none⟩)] W fun e w'=>e = .returned (.int .i64 11)∧aS w' L iR iX aR tR sz In F∧Keep (only iX) W w'):=fun W hW =>
   O9 ((h.still hk0).still hW) pp k _ _ hin (hW.blk hb1 (fun f=>f)) (hW.blk hb2 (fun f=>f))
  have HO:=Lib.hid (hO W0 hk0)
  obtain ⟨q0,q1,q2⟩:=(h.still hk0).ptrs
  have HK0:=Lib.hid hk0
  clear h hin hO hW0 hk0 hb1 hb2
  unfold Hid
  go_enter Tryz.func237,Tryz.ntmps237
  go_wp2_with (first
   | (go_at_call 149;refine HO.out.mono ?_;rintro e w1 ⟨rfl,hk1⟩;have HK1:=Lib.hid hk1;clear hk1)
   | (go_at_call 238;refine (HC.out _ HK1.out).mono ?_;rintro e w2 ⟨rfl,h1,h3⟩;have H1:=Lib.hid h1;have H3:=Lib.hid h3;clear h1 h3))
  go_ret
  exact ⟨rfl,H1.out,(HK0.out.mono (fun _ _ f=>f.elim)).trans ((HK1.out.mono (fun _ _ f=>f.elim)).trans H3.out)⟩
 have hmf:∀ (fn:Fn) (first cap:Array Value) (w:World),(Instr.makeFunc fn first cap).run Tryz.prog w = .ok (.func fn first cap) w:=fun _ _ _ _=>rfl
 clear h hin hO hb1 hb2 hk0
 go_enter Tryz.func204,Tryz.ntmps204
 go_wp2_with fail
 rw [← hW0]
 clear hW0
 refine HSL.out.mono ?_
 rintro e w1 ⟨rfl,h1,h3⟩
 have H1:=Lib.hid h1;have H3:=Lib.hid h3
 clear h1 h3
 go_wp2_with fail
 go_ret
 exact ⟨rfl,H1.out,H3.out⟩
end
theorem Tq {In:List Nat} {sz:Nat} {H:HS} (hi:∀ n:Nat,iG sz In (n:Int)=H.inn n) {a:Nat} (ha:a<sz):dU sz In (a:Int) true = !H.inn a:=by
 unfold dU
 rw [hi,decide_eq_true (by omega),Bool.true_and]
 cases H.inn a<;>rfl
section
variable {w w':World} {D:Nat→Nat} {H:HS}
theorem QC {H:HS} {k:Nat} (l:List Nat) (H':HS) (hf:H'.fr=H.fr.set k l):H'.F=H.F.set k (l.headD 0):=by
 unfold HS.F
 rw [hf,List.map_set]
theorem Js (h:au w D H) (k:Nat) (hk:k<4):Calls Tryz.prog 202 #[.pointer (some ⟨D 5,0,none⟩),.int .i64 (k:Int)] w fun e w'=>e = .returned (.tuple #[.int .i64 ((H.dL k).1:Int),.int .i64 ((H.dL k).2.1:Int)])∧au w' D (H.dL k).2.2∧Keep (HF D) w w':=by
 obtain ⟨In,hl,hi⟩:=h.lists
 have hf:=H.SG h.inv.ji hk
 unfold HS.dL
 cases hr:H.row k with
 | nil =>
   rw [hr] at hf
   refine (Jo hl k hk hf).mono ?_
   rintro e w' ⟨rfl,rfl⟩
   exact ⟨rfl,h,Keep.refl _ _⟩
 | cons a l =>
   rw [hr] at hf
   obtain ⟨hw,⟨B,ho⟩,hb,hin,hn⟩:=h.inv.taken hk hr
   obtain ⟨o1,o2,_⟩:=dD ho
   have hal:=h.inv.jY
   have ha:a=(a - 1)+1:=by omega
   have hne:D 7≠D 2:=fun e=>absurd (h.inj 7 2 (by decide) (by decide) e) (by decide)
   have hwd:H.A.getD (a - 1) 0=bW (l.headD 0):=by
    unfold HS.word lM at hw
    rw [if_pos o1] at hw;exact hw
   refine (O8 hl h.arena hne (a - 1) k (l.headD 0) hk (hf.trans ha) (by omega) hwd hn).mono ?_
   rintro e w' ⟨rfl,h1,h2,h3⟩
   rw [show ((a - 1:Nat):Int)+1=(a:Int) by omega] at h1 ⊢
   refine ⟨rfl,?_,?_⟩
   ·refine h.xX (A:=H.A) (fr:=H.fr.set k (H.row k).tail) (In:=fE H.sz In (a:Int) false) (h3.mono (fun x _ hx=>?_)) h2 ?_ ?_ (h.inv.take hk)
    ·rcases hx with e|e|e
     ·exact ⟨5,by simp,e⟩
     ·exact ⟨7,by simp,e⟩
     ·exact ⟨1,by simp,e⟩
    ·rw [QC (H.row k).tail _ rfl,hr]
     exact h1
    ·intro n
     rw [Aa hl.set.len (by unfold HS.sz;omega),hi]
     exact (h.inv.OG hk hr n).symm
   ·refine h3.mono (fun x _ hx=>?_)
    rcases hx with e|e|e
    ·exact ⟨5,by decide,e⟩
    ·exact ⟨7,by decide,e⟩
    ·exact ⟨1,by decide,e⟩
theorem vk (h:au w D H) (k:Nat) (hk:k<4):Calls Tryz.prog 159 #[.pointer (some ⟨D 0,0,none⟩),.int .i64 (k:Int)] w fun e w'=>e = .returned (.tuple #[.int .i64 ((H.dL k).1:Int),.int .i64 ((H.dL k).2.1:Int)])∧au w' D (H.dL k).2.2∧Keep (HF D) w w':=by
 have HT:=Lib.hid (Js h k hk)
 have y2:=h.blk.cell 2 rfl
 generalize (H.dL k).1=r1 at *
 generalize (H.dL k).2.1=r2 at *
 generalize (H.dL k).2.2=H' at *
 clear h
 go_enter Tryz.func159,Tryz.ntmps159
 go_wp2_with (go_at_call 202;refine HT.out.mono ?_;rintro e w1 ⟨rfl,h1,k1⟩;have HH:=Lib.hid h1;have HK:=Lib.hid k1;clear h1 k1)
 go_ret2
 exact ⟨rfl,HH.out,HK.out⟩
theorem BG (h:au w D H) (a:Nat) (hb:H.bn a=false):Calls Tryz.prog 204 #[.pointer (some ⟨D 5,0,none⟩),.int .i64 (a:Int)] w fun e w'=>(∃ er:Int,e = .returned (.int .i64 er))∧au w' D (H.dU a)∧Keep (HF D) w w':=by
 obtain ⟨In,hl,hi⟩:=h.lists
 have eo:=h.Ez a
 unfold HS.dU
 cases ho:H.owner a with
 | none =>
   rw [ho] at eo
   refine (Ri hl (a:Int) (fun W hW=>BF (h.still hW).table H.ww a h.cw eo (h.still hW).tabs (h.still hW).sizes)).mono ?_
   rintro e w' ⟨rfl,h1⟩
   exact ⟨⟨_,rfl⟩,h.still h1,h1.eF⟩
 | some x =>
   obtain ⟨B,k⟩:=x
   rw [ho] at eo
   have hk:=h.inv.cls ho
   obtain ⟨o1,o2,_⟩:=dD ho
   have hal:=h.inv.jY
   have hsz:a<H.sz:=by unfold HS.sz;omega
   have hO:∀ W,Keep none_ w W→Calls Tryz.prog 149 #[.pointer (some ⟨D 3,0,none⟩),.int .i64 (a:Int)] W fun e w'=>e = .returned (.tuple #[.int .i64 (B:Int),.int .i64 (k:Int),.bool true])∧Keep none_ W w' :=
    fun W hW=>yU (h.still hW).table H.ww a B k h.cw eo (h.still hW).tabs (h.still hW).sizes
   cases hin:H.inn a with
   | true =>
     simp only [hb,Bool.or_true,if_true]
     refine (Rj hl (a:Int) k B (by rw [Tq hi hsz,hin];rfl) hO).mono ?_
     rintro e w' ⟨rfl,h1,h2⟩
     have hk2:Keep (sel D [1,2,5,7]) w w':=h2.sel1 (i:=7) rfl
     have n1:¬ only (D 7) (D 1):=fun e=>absurd (h.inj 1 7 (by decide) (by decide) e) (by decide)
     have n2:¬ only (D 7) (D 2):=fun e=>absurd (h.inj 2 7 (by decide) (by decide) e) (by decide)
     exact ⟨⟨_,rfl⟩,h.xX (A:=H.A) (fr:=H.fr) hk2 (h.arena.keep h2 n1 n2) h1 hi h.inv,hk2.hf rfl⟩
   | false =>
     simp only [hb,Bool.or_self,Bool.false_eq_true,if_false]
     have hne:D 7≠D 2:=fun e=>absurd (h.inj 7 2 (by decide) (by decide) e) (by decide)
     have ha:((a - 1:Nat):Int)+1=(a:Int):=by omega
     have hin':iG H.sz In (((a - 1:Nat):Int)+1)=false:=by rw [ha,hi];exact hin
     refine (show Calls _ _ _ _ _ by rw [← ha];exact O7 hl h.arena hne (a - 1) k B (by omega) (by unfold HS.sz;omega) hin' hk (by rw [ha];exact hO)).mono ?_
     rintro e w' ⟨rfl,h1,h2,h3⟩
     rw [ha,show a - 1+1=a by omega] at h1
     rw [H.SG h.inv.ji hk] at h2
     refine ⟨⟨_,rfl⟩,?_,?_⟩
     ·refine h.xX (A:=H.A.set (a - 1) (bW ((H.row k).headD 0))) (fr:=H.fr.set k (a::H.row k)) (In:=fE H.sz In (a:Int) true) (h3.mono (fun x _ hx=>?_)) h2 ?_ ?_ (h.inv.put ho hb hin)
      ·rcases hx with e|e|e|e
       ·exact ⟨5,by simp,e⟩
       ·exact ⟨7,by simp,e⟩
       ·exact ⟨1,by simp,e⟩
       ·exact ⟨2,by simp,e⟩
      ·rw [QC (a::H.row k) _ rfl]
       exact h1
      ·intro n
       rw [Aa hl.set.len hsz,hi]
       exact (h.inv.QV ho hb hin n).symm
     ·refine h3.mono (fun x _ hx=>?_)
      rcases hx with e|e|e|e
      ·exact ⟨5,by decide,e⟩
      ·exact ⟨7,by decide,e⟩
      ·exact ⟨1,by decide,e⟩
      ·exact ⟨2,by decide,e⟩
theorem Pg (h:au w D H) (a:Nat):Calls Tryz.prog 161 #[.pointer (some ⟨D 0,0,none⟩),.int .i64 (a:Int)] w fun e w'=>(∃ er:Int,e = .returned (.int .i64 er))∧au w' D (H.dU a)∧Keep (HF D) w w':=by
 have y3:=h.blk.cell 3 rfl
 have y2:=h.blk.cell 2 rfl
 have HB:=Lib.hid (h.born.has a)
 cases hb:H.bn a with
 | true =>
   have HE:Hid (H.dU a=H):=by
    unfold Hid HS.dU
    split
    ·rfl
    ·rw [hb];rfl
   rw [HE.out]
   rw [hb] at HB
   have HH:=Lib.hid h
   clear h hb HE
   go_enter Tryz.func161,Tryz.ntmps161
   go_wp2_with (go_at_call 54;refine HB.out.mono ?_;rintro e w1 ⟨rfl,rfl⟩)
   go_ret
   exact ⟨⟨_,rfl⟩,HH.out,Keep.refl _ _⟩
 | false =>
   have HP:=Lib.hid (BG h a hb)
   rw [hb] at HB
   generalize H.dU a=H' at *
   clear h hb
   go_enter Tryz.func161,Tryz.ntmps161
   go_wp2_with (first|(go_at_call 54;refine HB.out.mono ?_;rintro e w1 ⟨rfl,rfl⟩)|(go_at_call 204;refine HP.out.mono ?_;rintro e w1 ⟨⟨er,rfl⟩,h1,k1⟩;have HH:=Lib.hid h1;have HK:=Lib.hid k1;clear h1 k1))
   go_ret
   exact ⟨⟨_,rfl⟩,HH.out,HK.out⟩
theorem MH (h:au w D H) (a:Nat):Calls Tryz.prog 288 #[.pointer (some ⟨D 0,0,none⟩),.int .i64 (a:Int)] w fun e w'=>(∃ er:Int,e = .returned (.int .i64 er))∧au w' D (H.dX a)∧Keep (HF D) w w':=by
 have y3:=h.blk.cell 3 rfl
 cases hb:H.bn a with
 | false =>
   have HE:Hid (H.dX a=H):=by unfold Hid HS.dX;rw [hb];rfl
   rw [HE.out]
   have hBP:=h.born.Tj a hb
   have HBP:=Lib.hid hBP
   have HR:Hid (∀ w',jq w' (D 8) (D 9) H.sz H.bn→Keep (only (D 9)) w w'→au w' D H):=fun w' hs k=>h.Ac (s:=H.bn) (k.sel1 rfl) hs h.inv
   clear h hb HE hBP
   go_enter Tryz.func288,Tryz.ntmps288
   go_wp2_with (go_at_call 163;refine HBP.out.mono ?_;rintro e w1 ⟨rfl,hs,k1⟩;have HS:=Lib.hid hs;have HK:=Lib.hid k1;clear hs k1)
   go_ret
   exact ⟨⟨_,rfl⟩,HR.out _ HS.out HK.out,(HK.out.sel1 (I:=[9]) rfl).hf rfl⟩
 | true =>
   have HE:Hid (H.dX a=(H.kill a).dU a):=by unfold Hid HS.dX;rw [hb];rfl
   rw [HE.out]
   have ha:=h.born.low hb
   have hBP:=h.born.put a ha false
   rw [hb] at hBP
   have HBP:=Lib.hid hBP
   have HR:Hid (∀ w',jq w' (D 8) (D 9) H.sz (upd H.bn a false)→Keep (only (D 9)) w w'→au w' D (H.kill a)):=fun w' hs k=>h.Ac (s:=upd H.bn a false) (k.sel1 rfl) hs (h.inv.kill a)
   have HL:Hid (∀ w',au w' D (H.kill a)→Calls Tryz.prog 204 #[.pointer (some ⟨D 5,0,none⟩),.int .i64 (a:Int)] w' fun e w2=>(∃ er:Int,e = .returned (.int .i64 er))∧au w2 D ((H.kill a).dU a)∧Keep (HF D) w' w2):=fun w' h' =>
    BG h' a (by show upd H.bn a false a=false;unfold upd;rw [if_pos rfl])
   generalize (H.kill a).dU a=H2 at *
   clear h hb HE hBP ha
   go_enter Tryz.func288,Tryz.ntmps288
   go_wp2_with (go_at_call 163;refine HBP.out.mono ?_;rintro e w1 ⟨rfl,hs,k1⟩;have HH1:=Lib.hid (HR.out _ hs k1);have HK:=Lib.hid ((k1.sel1 (D:=D) (i:=9) (I:=[9]) rfl).hf rfl);have z2:=(HR.out _ hs k1).blk.cell 2 rfl;clear hs k1)
   have HL1:=Lib.hid (HL.out _ HH1.out)
   go_wp2_with (go_at_call 204;refine HL1.out.mono ?_;rintro e w2 ⟨⟨er,rfl⟩,h2,k2⟩;have HH2:=Lib.hid h2;have HK2:=Lib.hid k2;clear h2 k2)
   go_ret
   exact ⟨⟨_,rfl⟩,HH2.out,HK.out.trans HK2.out⟩
theorem GH (h:au w D H) (B:Nat) (hB:H.K.getD B 0≠0):Calls Tryz.prog 63 #[.pointer (some ⟨D 3,0,none⟩),.int .i64 (B:Int)] w fun e w'=>∃ v,e = .returned v∧w'.ownsRow w.heap.size 3 1 v (H.slots B).length ((H.slots B).map fun x:Nat => .int .i64 (x:Int))∧Keep none_ w w':=by
 have hBl:B<H.K.length:=by
  rcases Nat.lt_or_ge B H.K.length with g|g
  ·exact g
  ·rw [List.getD_eq_getElem?_getD,List.getElem?_eq_none g] at hB
   simp at hB
 have hk4:H.K.getD B 0≤4:=by
  rw [List.getD_eq_getElem?_getD,List.getElem?_eq_getElem hBl]
  exact h.table.le _ (List.getElem_mem hBl)
 have h1:=L6 h.table H.ww B (H.K.getD B 0 - 1) h.cw hBl (by omega) (by omega) h.tabs h.sizes
 rw [show H.K.getD B 0 - 1+1=H.K.getD B 0 by omega] at h1
 unfold HS.slots
 rw [if_neg hB,pI]
 exact h1
theorem xk (h:au w D H) (k:Nat) (hk:k<4):Calls Tryz.prog 160 #[.pointer (some ⟨D 0,0,none⟩),.int .i64 (k:Int)] w fun e w'=>∃ v,e = .returned (.tuple #[v,.int .i64 ((H.bJ k).2.1:Int)])∧w'.ownsRow w.heap.size 3 1 v (H.bJ k).1.length ((H.bJ k).1.map fun x:Nat => .int .i64 (x:Int))∧au w' D (H.bJ k).2.2∧Keep (HF D) w w':=by
 have y1:=h.blk.cell 1 rfl
 unfold HS.bJ
 cases hf:H.K.findIdx? (fun x=>x==0) with
 | none =>
   have hl:∀ j,j<H.K.length→H.K.getD j 0≠0:=fun j hj e=>by
    rw [List.findIdx?_eq_none_iff] at hf
    have:=hf _ (List.getElem_mem hj)
    rw [List.getD_eq_getElem?_getD,List.getElem?_eq_getElem hj] at e
    simp at e this
    exact this e
   have HA:=Lib.hid (En h.table k hl hk)
   have HH:=Lib.hid h
   have HN:Hid (w.ownsRow w.heap.size 3 1 (.slice none 0 0) 0 []):=⟨rfl,.inl ⟨rfl,rfl⟩⟩
   clear h hf hl
   go_enter Tryz.func160,Tryz.ntmps160
   go_wp2_with (go_at_call 203;refine HA.out.mono ?_;rintro e w1 ⟨rfl,rfl⟩)
   go_ret2
   exact ⟨_,rfl,HN.out,HH.out,Keep.refl _ _⟩
 | some B =>
   obtain ⟨hB,h0,hl⟩:=List.findIdx?_eq_some_iff_getElem.1 hf
   have h0':H.K.getD B 0=0:=by
    rw [List.getD_eq_getElem?_getD,List.getElem?_eq_getElem hB];simpa using h0
   have hl':∀ j,j<B→H.K.getD j 0≠0:=fun j hj e=>by
    have:=hl j hj
    rw [List.getD_eq_getElem?_getD,List.getElem?_eq_getElem (by omega)] at e
    simp at e this
    exact this e
   dsimp only
   have HA:=Lib.hid (Jg h.table B k hB h0' hl' hk)
   have HR:Hid (∀ w',dh w' (D 3) (D 4) H.c (H.K.set B (k+1))→Keep (only (D 4)) w w'→au w' D (H.assign B k)):=fun w' ht kk=>h.setTable (K:=H.K.set B (k+1)) (kk.sel1 rfl) ht (h.inv.assign h0' hk)
   have HL:Hid (∀ w',au w' D (H.assign B k)→Calls Tryz.prog 63 #[.pointer (some ⟨D 3,0,none⟩),.int .i64 (B:Int)] w' fun e w2=>∃ v,e = .returned v∧w2.ownsRow w'.heap.size 3 1 v ((H.assign B k).slots B).length (((H.assign B k).slots B).map fun x:Nat => .int .i64 (x:Int))∧Keep none_ w' w2):=fun w' h' =>
    GH h' B (by show (H.K.set B (k+1)).getD B 0≠0;rw [uS hB];omega)
   generalize (H.assign B k).slots B=sl at *
   generalize H.assign B k=H2 at *
   clear h hf hB h0 hl h0' hl'
   go_enter Tryz.func160,Tryz.ntmps160
   go_wp2_with (go_at_call 203;refine HA.out.mono ?_;rintro e w1 ⟨rfl,ht,k1⟩;have HH1:=Lib.hid (HR.out _ ht k1);have HK:=Lib.hid k1;have z1:=(HR.out _ ht k1).blk.cell 1 rfl;clear ht k1)
   have HL1:=Lib.hid (HL.out _ HH1.out)
   go_wp2_with (go_at_call 63;refine HL1.out.mono ?_;rintro e w2 ⟨v,rfl,ho,k2⟩;have HO:=Lib.hid ho;have HK2:=Lib.hid k2;clear ho k2)
   go_ret2
   exact ⟨v,rfl,dP HO.out HK.out.size,HH1.out.still HK2.out,((HK.out.sel1 (D:=D) (i:=4) (I:=[4]) rfl).hf rfl).trans HK2.out.eF⟩
end
section
variable {w w':World} {D:Nat→Nat} {H:HS}
theorem yY {a:Nat} (hh:H.hand a=true):∃ B k,H.owner a=some (B,k)∧H.bn a=false∧H.inn a=false∧H.cls a=k:=by
 unfold HS.hand at hh
 simp only [Bool.and_eq_true,Bool.not_eq_true'] at hh
 obtain ⟨⟨h1,h2⟩,h3⟩:=hh
 obtain ⟨⟨B,k⟩,ho⟩:=Option.isSome_iff_exists.1 h1
 exact ⟨B,k,ho,h2,h3,by unfold HS.cls;rw [ho]⟩
theorem xq (h:au w D H) (x v:Nat) (h1:1≤x) (h2:x≤H.b*H.ww) (hv:v<jL) (hi:bF (H.lay x v)):Calls Tryz.prog 119 #[.pointer (some ⟨D 1,0,none⟩),.int .i64 (x:Int),.int .u64 (v:Int)] w fun e w'=>e = .returned (.int .i64 0)∧au w' D (H.lay x v)∧Keep (HF D) w w':=by
 have hal:=h.inv.jY
 have hx:((x - 1:Nat):Int)+1=(x:Int):=by omega
 have h9:=Bq h.arena (x - 1) (by omega) v (by unfold jL at hv;omega)
 rw [hx] at h9
 refine h9.mono ?_
 rintro e w' ⟨rfl,g1,g2⟩
 have hk:Keep (sel D [1,2]) w w':=g2.mono (fun y _ hy=>by
  rcases hy with e|e
  ·exact ⟨1,by simp,e⟩
  ·exact ⟨2,by simp,e⟩)
 exact ⟨rfl,h.EC (A:=H.A.set (x - 1) v) hk g1 hi,hk.hf rfl⟩
theorem Jt (h:au w D H) (a f:Nat) (hf:f≤15):Calls Tryz.prog 115 #[.pointer (some ⟨D 0,0,none⟩),.int .i64 (a:Int),.int .i64 (f:Int)] w fun e w'=>(∃ er:Int,e = .returned (.int .i64 er))∧au w' D (H.fJ a (f:Int))∧Keep (HF D) w w':=by
 have HA:=Lib.hid (qR h a)
 have HH:=Lib.hid h
 have hY:∀ W,Keep none_ w W→W.cell? ⟨D 0,0,none⟩=some (.pointer (some ⟨D 1,0,none⟩)):=fun W hW=>(h.still hW).blk.cell 0 rfl
 have HY:=Lib.hid hY
 cases hh:H.hand a with
 | false =>
   have HE:Hid (H.fJ a (f:Int)=H):=by
    unfold Hid HS.fJ
    split
    ·rfl
    ·rw [hh];rfl
   rw [HE.out]
   rw [hh] at HA
   generalize H.cls a=k at *
   clear h hh HE hY
   go_enter Tryz.func115,Tryz.ntmps115
   go_wp2_with (go_at_call 105;refine HA.out.mono ?_;rintro e w1 ⟨rfl,k1⟩;have HK:=Lib.hid k1;clear k1)
   go_ret
   exact ⟨⟨_,rfl⟩,HH.out.still HK.out,HK.out.eF⟩
 | true =>
   obtain ⟨B,k,ho,hb,hi,hc⟩:=yY hh
   have hk:=h.inv.cls ho
   rw [hh,hc] at HA
   have HO:Hid (∀ W,Keep none_ w W→Calls Tryz.prog 162 #[.int .i64 (k:Int),.int .i64 (f:Int)] W fun e w'=>e = .returned (.tuple #[.int .u64 ((if gY k f then gq k f else 0:Nat):Int),.bool (decide (gY k f))])∧W=w'):=fun W hW=>qo k f (by omega) (by omega) W (h.sizes.keep hW)
   by_cases hok:gY k f
   ·have HE:Hid (H.fJ a (f:Int)=H.begin a k f):=by
     unfold Hid HS.fJ
     rw [ho]
     simp only [Int.toNat_natCast]
     rw [hh,decide_eq_true hok,decide_eq_true (Int.natCast_nonneg f)]
     rfl
    rw [HE.out]
    rw [if_pos hok,decide_eq_true hok] at HO
    obtain ⟨o1,o2,_⟩:=dD ho
    have hox:=(lK hok).2.2.1
    have HST:Hid (∀ W,Keep none_ w W→Calls Tryz.prog 119 #[.pointer (some ⟨D 1,0,none⟩),.int .i64 (a:Int),.int .u64 (gq k f:Int)] W fun e w'=>e = .returned (.int .i64 0)∧au w' D (H.begin a k f)∧Keep (HF D) W w'):=fun W hW =>
     xq (h.still hW) a (gq k f) o1 o2 (by unfold jL;omega) (h.inv.begin ho hb hi hok)
    generalize H.begin a k f=H2 at *
    generalize gq k f=ow at *
    clear h hh HE hY ho hok hb hi hc hox o1 o2
    go_enter Tryz.func115,Tryz.ntmps115
    go_wp2_with (go_at_call 105;refine HA.out.mono ?_;rintro e w1 ⟨rfl,k1⟩;have HK:=Lib.hid k1;have z0:=HY.out _ k1;clear k1)
    have HO1:=Lib.hid (HO.out _ HK.out)
    have Vm:=Lib.hid (HST.out _ HK.out)
    go_wp2_with (first|(go_at_call 162;refine HO1.out.mono ?_;rintro e w2 ⟨rfl,rfl⟩)|(go_at_call 119;refine Vm.out.mono ?_;rintro e w2 ⟨rfl,h2,k2⟩;have HH2:=Lib.hid h2;have HK2:=Lib.hid k2;clear h2 k2))
    go_ret
    exact ⟨⟨_,rfl⟩,HH2.out,HK.out.eF.trans HK2.out⟩
   ·have HE:Hid (H.fJ a (f:Int)=H):=by
     unfold Hid HS.fJ
     rw [ho]
     simp only [Int.toNat_natCast]
     rw [decide_eq_false hok]
     simp
    rw [HE.out]
    rw [if_neg hok,decide_eq_false hok] at HO
    clear h hh HE ho hok hb hi hc
    go_enter Tryz.func115,Tryz.ntmps115
    go_wp2_with (go_at_call 105;refine HA.out.mono ?_;rintro e w1 ⟨rfl,k1⟩;have HK:=Lib.hid k1;clear k1)
    have HO1:=Lib.hid (HO.out _ HK.out)
    go_wp2_with (go_at_call 162;refine HO1.out.mono ?_;rintro e w2 ⟨rfl,rfl⟩)
    go_ret
    exact ⟨⟨_,rfl⟩,HH.out.still HK.out,HK.out.eF⟩
def HS.pO (H:HS) (a c:Nat):Nat:=if H.hand a&&decide (c<2) then (if (H.hdr a).isSome then 0 else 11) else 1
theorem MJ (h:au w D H) (a c:Nat):Calls Tryz.prog 116 #[.pointer (some ⟨D 0,0,none⟩),.int .i64 (a:Int),.int .i64 (c:Int)] w fun e w'=>e = .returned (.int .i64 (H.pO a c:Int))∧au w' D (H.iH a c)∧Keep (HF D) w w':=by
 have HA:=Lib.hid (qR h a)
 have HCO:Hid (∀ W,Calls Tryz.prog 113 #[.int .i64 (c:Int)] W fun e w'=>e = .returned (.bool (decide (c<2)))∧W=w'):=fun W=>yV c W
 have HHD:Hid (∀ W,Keep none_ w W→Calls Tryz.prog 143 #[.pointer (some ⟨D 0,0,none⟩),.int .i64 (a:Int)] W fun e w'=>e = .returned (.tuple #[.int .i64 (H.nf a:Int),.bool (H.hdr a).isSome])∧au w' D H∧Keep (only (D 1)) W w'):=fun W hW=>rH (h.still hW) a
 have HH:=Lib.hid h
 generalize hn:H.nf a=n at HHD
 cases hh:H.hand a with
 | false =>
   have HE:Hid (H.iH a c=H∧H.pO a c=1):=by
    refine ⟨?_,?_⟩
    ·unfold HS.iH;rw [hh];rfl
    ·unfold HS.pO;rw [hh];rfl
   rw [HE.out.1,HE.out.2]
   rw [hh] at HA
   generalize H.cls a=k at *
   generalize decide (c<2)=cc at *
   clear h hh HE hn
   go_enter Tryz.func116,Tryz.ntmps116
   go_wp2_with (go_at_call 105;refine HA.out.mono ?_;rintro e w1 ⟨rfl,k1⟩;have HK:=Lib.hid k1;clear k1)
   go_ret
   exact ⟨rfl,HH.out.still HK.out,HK.out.eF⟩
 | true =>
   obtain ⟨B,k,ho,hb,hi,hc⟩:=yY hh
   rw [hh,hc] at HA
   by_cases hc2:c<2
   ·rw [decide_eq_true hc2] at HCO
    cases hm:H.hdr a with
    | none =>
      have HE:Hid (H.iH a c=H∧H.pO a c=11):=by
       refine ⟨?_,?_⟩
       ·unfold HS.iH;rw [hm];simp
       ·unfold HS.pO;rw [hh,hm,decide_eq_true hc2];rfl
      rw [HE.out.1,HE.out.2]
      rw [hm] at HHD
      clear h hh HE hn ho hb hi hc hc2 hm
      go_enter Tryz.func116,Tryz.ntmps116
      go_wp2_with (first|(go_at_call 105;refine HA.out.mono ?_;rintro e w1 ⟨rfl,k1⟩;have HK:=Lib.hid k1;have qC:=Lib.hid (HHD.out _ k1);clear k1)|(go_at_call 113;refine (HCO.out _).mono ?_;rintro e w1 ⟨rfl,rfl⟩)|(go_at_call 143;refine qC.out.mono ?_;rintro e w2 ⟨rfl,h2,k2⟩;have HH2:=Lib.hid h2;have HK2:=Lib.hid k2;clear h2 k2))
      go_ret
      exact ⟨rfl,HH2.out,HK.out.eF.trans ((HK2.out.sel1 (D:=D) (i:=1) (I:=[1]) rfl).hf rfl)⟩
    | some m =>
      have HE:Hid (H.iH a c=H.bear a (c==1)∧H.pO a c=0):=by
       refine ⟨?_,?_⟩
       ·unfold HS.iH;rw [hh,hm,decide_eq_true hc2];rfl
       ·unfold HS.pO;rw [hh,hm,decide_eq_true hc2];rfl
      rw [HE.out.1,HE.out.2]
      rw [hm] at HHD
      obtain ⟨o1,o2,_⟩:=dD ho
      have ha:a<H.sz:=by unfold HS.sz;omega
      have HP1:Hid (∀ W,au W D H→Calls Tryz.prog 163 #[.pointer (some ⟨D 8,0,none⟩),.int .i64 (a:Int),.bool true] W fun e w'=>(∃ r,e = .returned (.bool r))∧au w' D { H with bn:=upd H.bn a true }∧Keep (HF D) W w'):=fun W hW=>by
       refine (hW.born.put a ha true).mono ?_
       rintro e w' ⟨rfl,g1,g2⟩
       have hi2:bF { H with bn:=upd H.bn a true }:=by
        have:=h.inv.bear (H.co a) ho hi hm
        have e2:H.bear a (H.co a)={ H with bn:=upd H.bn a true }:=by
         unfold HS.bear
         congr 1
         funext x
         unfold upd
         split
         ·rename_i e;rw [e]
         ·rfl
        rw [e2] at this;exact this
       exact ⟨⟨_,rfl⟩,hW.Ac (g2.sel1 rfl) g1 hi2,(g2.sel1 (I:=[9]) rfl).hf rfl⟩
      have HP2:Hid (∀ W,au W D { H with bn:=upd H.bn a true }→Calls Tryz.prog 163 #[.pointer (some ⟨D 10,0,none⟩),.int .i64 (a:Int),.bool (c==1)] W fun e w'=>(∃ r,e = .returned (.bool r))∧au w' D (H.bear a (c==1))∧Keep (HF D) W w'):=fun W hW=>by
       refine (hW.cols.put a ha (c==1)).mono ?_
       rintro e w' ⟨rfl,g1,g2⟩
       exact ⟨⟨_,rfl⟩,hW.Ad (s:=upd H.co a (c==1)) (g2.sel1 rfl) g1 (h.inv.bear (c==1) ho hi hm),(g2.sel1 (I:=[11]) rfl).hf rfl⟩
      have HEQ:Hid (((c:Int)==1)=(c==1)):=by unfold Hid;rw [Bool.eq_iff_iff];simp;omega
      have Vl:=HEQ.out
      generalize { H with bn:=upd H.bn a true }=H1 at *
      generalize H.bear a (c==1)=H2 at *
      generalize (c==1)=cc at *
      clear h hh HE hn ho hb hi hc hc2 hm o1 o2 ha HEQ
      go_enter Tryz.func116,Tryz.ntmps116
      go_wp2_with (first|(go_at_call 105;refine HA.out.mono ?_;rintro e w1 ⟨rfl,k1⟩;have HK:=Lib.hid k1;have qC:=Lib.hid (HHD.out _ k1);clear k1)|(go_at_call 113;refine (HCO.out _).mono ?_;rintro e w1 ⟨rfl,rfl⟩)|(go_at_call 143;refine qC.out.mono ?_;rintro e w2 ⟨rfl,h2,k2⟩;have HH2:=Lib.hid h2;have HK2:=Lib.hid k2;have z3:=h2.blk.cell 3 rfl;clear h2 k2)|fail)
      refine (HP1.out _ HH2.out).mono ?_
      rintro e w3 ⟨⟨r,rfl⟩,h3,k3⟩
      have HH3:=Lib.hid h3
      have HK3:=Lib.hid k3
      have z4:=h3.blk.cell 4 rfl
      clear h3 k3 z3
      go_wp2_with fail
      refine (HP2.out _ HH3.out).mono ?_
      rintro e w4 ⟨⟨r4,rfl⟩,h4,k4⟩
      have HH4:=Lib.hid h4
      have HK4:=Lib.hid k4
      clear h4 k4 z4
      go_wp2_with fail
      go_ret
      exact ⟨rfl,HH4.out,HK.out.eF.trans (((HK2.out.sel1 (D:=D) (i:=1) (I:=[1]) rfl).hf rfl).trans (HK3.out.trans HK4.out))⟩
   ·have HE:Hid (H.iH a c=H∧H.pO a c=1):=by
     refine ⟨?_,?_⟩
     ·unfold HS.iH;rw [decide_eq_false hc2];simp
     ·unfold HS.pO;rw [decide_eq_false hc2];simp
    rw [HE.out.1,HE.out.2]
    rw [decide_eq_false hc2] at HCO
    clear h hh HE hn ho hb hi hc hc2
    go_enter Tryz.func116,Tryz.ntmps116
    go_wp2_with (first|(go_at_call 105;refine HA.out.mono ?_;rintro e w1 ⟨rfl,k1⟩;have HK:=Lib.hid k1;clear k1)|(go_at_call 113;refine (HCO.out _).mono ?_;rintro e w1 ⟨rfl,rfl⟩))
    go_ret
    exact ⟨rfl,HH.out.still HK.out,HK.out.eF⟩
end
end
end Go.Proofs.YtanfphjoebobaaaGreatDoor
