/- Parts of a walk, put together and made shorter by a program of mine. No conditions. -/
import Derived.Test.YtanfphjoebobaaaGreatDoorZzcm
import Derived.Deep.RegionHeld3
import Derived.Test.YtanfphjoebobaaaGreatDoorRows
import Derived.Test.YtanfphjoebobaaaGreatDoorZzcd
import Derived.Lib.SliceRun
import Derived.Lib.Hide
namespace Go.Proofs.YtanfphjoebobaaaGreatDoor
set_option maxRecDepth 10000
set_option maxHeartbeats 4000000
section
attribute [local go_sem] Oper.semAt_some
open Go.RowKit
section
variable {w w':World} {D:Nat→Nat} {H:HS}
theorem Af {a:Nat} (h:H.jy a=0):a≠0∧H.isO a=true:=by
 unfold HS.jy at h
 split at h
 ·cases h
 ·split at h
  ·rename_i h1 h2;exact ⟨h1,h2⟩
  ·cases h
theorem tH (h:au w D H) (a:Nat) (f:Value) (he:H.jy a≠0):Calls Tryz.prog 96 #[.pointer (some ⟨D 0,0,none⟩),.int .i64 (a:Int),f] w fun e w'=>e = .returned (.int .i64 (H.jy a:Int))∧au w' D H∧Keep (HF D) w w':=by
 have HH:=Lib.hid h
 by_cases h0:a=0
 ·subst h0
  have HE:Hid (H.jy 0=6):=rfl
  rw [HE.out]
  clear h he HE
  go_enter Tryz.func96,Tryz.ntmps96
  go_wp2_with fail
  go_ret
  exact ⟨rfl,HH.out,Keep.refl _ _⟩
 ·have ho:H.isO a=false:=by
   unfold HS.jy at he
   rw [if_neg h0] at he
   cases hx:H.isO a
   ·rfl
   ·rw [hx] at he;exact absurd rfl he
  have HE:Hid (H.jy a=1):=by unfold Hid HS.jy;rw [if_neg h0,ho];rfl
  rw [HE.out]
  have HA:=Lib.hid (qR h a)
  have HHD:Hid (∀ W,Keep none_ w W→Calls Tryz.prog 143 #[.pointer (some ⟨D 0,0,none⟩),.int .i64 (a:Int)] W fun e w'=>e = .returned (.tuple #[.int .i64 (H.nf a:Int),.bool (H.hdr a).isSome])∧au w' D H∧Keep (only (D 1)) W w'):=fun W hW=>rH (h.still hW) a
  have HB:Hid (∀ W,au W D H→Calls Tryz.prog 54 #[.pointer (some ⟨D 8,0,none⟩),.int .i64 (a:Int)] W fun e w'=>e = .returned (.bool (H.bn a))∧W=w'):=fun W hW=>hW.born.has a
  have d0:((a:Int)==0)=false:=by simp;omega
  unfold HS.isO at ho
  generalize hn:H.nf a=n at HHD
  generalize H.cls a=k at *
  generalize H.bn a=x at *
  generalize H.hand a=y at *
  generalize (H.hdr a).isSome=z at *
  clear h he HE h0 hn
  cases x
  ·cases y
   ·clear ho
    cases z
    all_goals
     go_enter Tryz.func96,Tryz.ntmps96
     go_wp2_with (first|(go_at_call 105;refine HA.out.mono ?_;rintro e w1 ⟨rfl,k1⟩;have HK:=Lib.hid k1;have qC:=Lib.hid (HHD.out _ k1);clear k1)|(go_at_call 143;refine qC.out.mono ?_;rintro e w2 ⟨rfl,h2,k2⟩;have HH2:=Lib.hid h2;have HK2:=Lib.hid k2;have z3:=h2.blk.cell 3 rfl;have HB2:=Lib.hid (HB.out _ h2);clear h2 k2)|(go_at_call 54;refine HB2.out.mono ?_;rintro e w3 ⟨rfl,rfl⟩))
     go_ret
     exact ⟨rfl,HH2.out,HK.out.eF.trans ((HK2.out.sel1 (D:=D) (i:=1) (I:=[1]) rfl).hf rfl)⟩
   ·cases z
    ·clear ho
     go_enter Tryz.func96,Tryz.ntmps96
     go_wp2_with (first|(go_at_call 105;refine HA.out.mono ?_;rintro e w1 ⟨rfl,k1⟩;have HK:=Lib.hid k1;have qC:=Lib.hid (HHD.out _ k1);clear k1)|(go_at_call 143;refine qC.out.mono ?_;rintro e w2 ⟨rfl,h2,k2⟩;have HH2:=Lib.hid h2;have HK2:=Lib.hid k2;have z3:=h2.blk.cell 3 rfl;have HB2:=Lib.hid (HB.out _ h2);clear h2 k2)|(go_at_call 54;refine HB2.out.mono ?_;rintro e w3 ⟨rfl,rfl⟩))
     go_ret
     exact ⟨rfl,HH2.out,HK.out.eF.trans ((HK2.out.sel1 (D:=D) (i:=1) (I:=[1]) rfl).hf rfl)⟩
    ·cases ho
  ·cases ho
theorem rJ (h:au w D H) (a:Nat) (fn:Nat) (hf:∀ args w,(callFunc fn args).run Tryz.prog w = .ok (.enter fn args) w) (caps:Array Value) (er:Int) (P:World→Prop) (he:H.jy a=0)
 (hc:∀ W,au W D H→Keep (HF D) w W→Calls Tryz.prog fn (#[.int .i64 (H.nf a:Int)]++caps) W fun e w'=>e = .returned (.int .i64 er)∧P w') :
 Calls Tryz.prog 96 #[.pointer (some ⟨D 0,0,none⟩),.int .i64 (a:Int),.func (.func fn) #[] caps] w fun e w'=>e = .returned (.int .i64 er)∧P w':=by
 obtain ⟨h0,ho⟩:=Af he
 have HA:=Lib.hid (qR h a)
 have HHD:Hid (∀ W,Keep none_ w W→Calls Tryz.prog 143 #[.pointer (some ⟨D 0,0,none⟩),.int .i64 (a:Int)] W fun e w'=>e = .returned (.tuple #[.int .i64 (H.nf a:Int),.bool (H.hdr a).isSome])∧au w' D H∧Keep (only (D 1)) W w'):=fun W hW=>rH (h.still hW) a
 have HB:Hid (∀ W,au W D H→Calls Tryz.prog 54 #[.pointer (some ⟨D 8,0,none⟩),.int .i64 (a:Int)] W fun e w'=>e = .returned (.bool (H.bn a))∧W=w'):=fun W hW=>hW.born.has a
 have d0:((a:Int)==0)=false:=by simp;omega
 have HC:=Lib.hid hc
 unfold HS.isO at ho
 generalize H.nf a=n at *
 generalize H.cls a=k at *
 generalize H.bn a=x at *
 generalize H.hand a=y at *
 generalize (H.hdr a).isSome=z at *
 clear h he h0 hc
 cases x
 ·cases y
  ·cases ho
  ·cases z
   ·cases ho
   ·clear ho
    go_enter Tryz.func96,Tryz.ntmps96
    go_wp2_with (first|(go_at_call 105;refine HA.out.mono ?_;rintro e w1 ⟨rfl,k1⟩;have HK:=Lib.hid k1;have qC:=Lib.hid (HHD.out _ k1);clear k1)|(go_at_call 143;refine qC.out.mono ?_;rintro e w2 ⟨rfl,h2,k2⟩;have HH2:=Lib.hid h2;have HK2:=Lib.hid k2;have z3:=h2.blk.cell 3 rfl;have HB2:=Lib.hid (HB.out _ h2);clear h2 k2)|(go_at_call 54;refine HB2.out.mono ?_;rintro e w3 ⟨rfl,rfl⟩))
    refine (HC.out _ HH2.out (HK.out.eF.trans ((HK2.out.sel1 (D:=D) (i:=1) (I:=[1]) rfl).hf rfl))).mono ?_
    rintro e w4 ⟨rfl,hp⟩
    have HP:=Lib.hid hp
    clear hp
    go_wp2_with fail
    go_ret
    exact ⟨rfl,HP.out⟩
 ·clear ho
  cases y<;>cases z
  all_goals
   go_enter Tryz.func96,Tryz.ntmps96
   go_wp2_with (first|(go_at_call 105;refine HA.out.mono ?_;rintro e w1 ⟨rfl,k1⟩;have HK:=Lib.hid k1;have qC:=Lib.hid (HHD.out _ k1);clear k1)|(go_at_call 143;refine qC.out.mono ?_;rintro e w2 ⟨rfl,h2,k2⟩;have HH2:=Lib.hid h2;have HK2:=Lib.hid k2;have z3:=h2.blk.cell 3 rfl;have HB2:=Lib.hid (HB.out _ h2);clear h2 k2)|(go_at_call 54;refine HB2.out.mono ?_;rintro e w3 ⟨rfl,rfl⟩))
   refine (HC.out _ HH2.out (HK.out.eF.trans ((HK2.out.sel1 (D:=D) (i:=1) (I:=[1]) rfl).hf rfl))).mono ?_
   rintro e w4 ⟨rfl,hp⟩
   have HP:=Lib.hid hp
   clear hp
   go_wp2_with fail
   go_ret
   exact ⟨rfl,HP.out⟩
theorem xu (h:au w D H) (a:Nat):Calls Tryz.prog 55 #[.pointer (some ⟨D 0,0,none⟩),.int .i64 (a:Int)] w fun e w'=>e = .returned (.tuple #[.int .i64 ((H.aT a).1:Int),.int .i64 ((H.aT a).2:Int)])∧au w' D H∧Keep (HF D) w w':=by
 obtain ⟨W0,hW0⟩:∃ W',W'=w.alloc (.cells #[.int .i64 0] 3):=⟨_,rfl⟩
 have hk0:Keep none_ w W0:=by rw [hW0];exact (Keep.refl _ _).alloc _
 have hb0:Blk W0 w.heap.size [.int .i64 0] 3:=by rw [hW0];exact Blk.new w _ _
 have h0:=h.still hk0
 have hD:∀ i,i<13→D i<w.heap.size:=fun i hi=>by
  have hl:=h.lists
  obtain ⟨In,hl,_⟩:=hl
  obtain ⟨cap,hs1⟩:=hl.set.blk
  obtain ⟨cur,hs2,_⟩:=hl.set.wds
  obtain ⟨W1,hbn,_⟩:=h.born
  obtain ⟨W2,hco,_⟩:=h.cols
  obtain ⟨cap1,hb1⟩:=hbn.blk
  obtain ⟨cur1,hb2,_⟩:=hbn.wds
  obtain ⟨cap2,hc1⟩:=hco.blk
  obtain ⟨cur2,hc2,_⟩:=hco.wds
  obtain ⟨ld,st,ha⟩:=h.arena.blk
  match i,hi with
  | 0,_=>exact h.blk.lt
  | 1,_=>exact ha.lt
  | 2,_=>exact h.arena.wds.lt
  | 3,_=>exact h.table.blk.lt
  | 4,_=>exact h.table.cls.lt
  | 5,_=>exact hl.lt
  | 6,_=>exact hs1.lt
  | 7,_=>exact hs2.lt
  | 8,_=>exact hb1.lt
  | 9,_=>exact hb2.lt
  | 10,_=>exact hc1.lt
  | 11,_=>exact hc2.lt
  | 12,_=>exact h.cel.lt
 have hnew:¬ HF D w.heap.size:=by
  rintro ⟨i,hi,e⟩
  have:=hD i hi
  omega
 have hmf:∀ (fn:Fn) (first cap:Array Value) (w:World),(Instr.makeFunc fn first cap).run Tryz.prog w = .ok (.func fn first cap) w:=fun _ _ _ _=>rfl
 unfold HS.aT
 by_cases he:H.jy a=0
 ·have HC1:∀ W,au W D H→Keep (HF D) W0 W→Calls Tryz.prog 97 (#[.int .i64 (H.nf a:Int)]++#[.pointer (some ⟨w.heap.size,0,none⟩)]) W fun e w'=>e = .returned (.int .i64 0)∧(au w' D H∧Keep (HF D) w w'∧w'.cell? ⟨w.heap.size,0,none⟩=some (.int .i64 (H.nf a:Int))):=fun W hW hk=>by
   have hbW:=hk.blk hb0 hnew
   have hlt:=hbW.lt
   have c0:=hbW.cell 0 rfl
   have f0:=hbW.free 0
   have hR:au (W.setCell ⟨w.heap.size,0,none⟩ (.int .i64 (H.nf a:Int))) D H:=hW.keep ((Keep.refl (only w.heap.size) W).put 0 _) (fun i hi e=>hnew ⟨i,hi,e.symm⟩) (fun e=>by
    have h9:=World.block_lt_of_cell? _ _ (h.tabs.lim 0 1 rfl);unfold only at e;rw [e] at h9;exact Nat.lt_irrefl _ h9) (fun e=>by
    have h9:=World.block_lt_of_cell? _ _ (h.tabs.kind 0 [] rfl);unfold only at e;rw [e] at h9;exact Nat.lt_irrefl _ h9) (fun e=>by
    have h9:=World.block_lt_of_cell? _ _ (h.sizes 0 2 rfl);unfold only at e;rw [e] at h9;exact Nat.lt_irrefl _ h9)
   have hK:Keep (HF D) w (W.setCell ⟨w.heap.size,0,none⟩ (.int .i64 (H.nf a:Int))):=(hk0.eF.trans hk).dJ (Nat.le_refl _) 0 _
   have hb2:=(hbW.set 0 (.int .i64 (H.nf a:Int))).cell 0 (v := .int .i64 (H.nf a:Int)) rfl
   have HR:Hid (au (W.setCell ⟨w.heap.size,0,none⟩ (.int .i64 (H.nf a:Int))) D H∧Keep (HF D) w (W.setCell ⟨w.heap.size,0,none⟩ (.int .i64 (H.nf a:Int)))∧(W.setCell ⟨w.heap.size,0,none⟩ (.int .i64 (H.nf a:Int))).cell? ⟨w.heap.size,0,none⟩=some (.int .i64 (H.nf a:Int))):=⟨hR,hK,hb2⟩
   generalize H.nf a=n at *
   generalize w.heap.size=O at *
   clear h h0 hk0 hb0 hD hnew hmf he hW hk hbW hlt hR hK hb2 hW0
   show Calls Tryz.prog 97 #[.int .i64 (n:Int),.pointer (some ⟨O,0,none⟩)] W _
   go_enter Tryz.func97,Tryz.ntmps97
   go_wp2_with fail
   go_ret
   exact ⟨rfl,HR.out⟩
  have HO:=Lib.hid (rJ h0 a 97 (fun args w=>by simp [callFunc,Tryz.func97,go_sem];rfl) #[.pointer (some ⟨w.heap.size,0,none⟩)] 0 _ he HC1)
  rw [if_pos he]
  generalize H.nf a=n at *
  clear h h0 hk0 hb0 hD hnew he HC1
  go_enter Tryz.func55,Tryz.ntmps55
  go_wp2_with fail
  rw [← hW0]
  clear hW0
  refine HO.out.mono ?_
  rintro e w1 ⟨rfl,h1,k1,c1⟩
  have HH1:=Lib.hid h1
  have HK1:=Lib.hid k1
  clear h1 k1
  go_wp2_with fail
  go_ret2
  exact ⟨rfl,HH1.out,HK1.out⟩
 ·have HO:=Lib.hid (tH h0 a (.func (.func 97) #[] #[.pointer (some ⟨w.heap.size,0,none⟩)]) he)
  rw [if_neg he]
  have HB0:=Lib.hid hb0
  have HNW:=Lib.hid hnew
  have HK0:=Lib.hid hk0
  generalize H.jy a=n at *
  clear h h0 hk0 hb0 hD hnew he
  go_enter Tryz.func55,Tryz.ntmps55
  go_wp2_with fail
  rw [← hW0]
  clear hW0
  refine HO.out.mono ?_
  rintro e w1 ⟨rfl,h1,k1⟩
  have HH1:=Lib.hid h1
  have HK1:=Lib.hid k1
  have c1:=(k1.blk HB0.out HNW.out).cell 0 rfl
  clear h1 k1
  go_wp2_with fail
  go_ret2
  exact ⟨rfl,HH1.out,HK0.out.eF.trans HK1.out⟩
end
section
variable {w w':World} {D:Nat→Nat} {H:HS}
theorem au.ltD (h:au w D H) (i:Nat) (hi:i<13):D i<w.heap.size:=by
 obtain ⟨In,hl,_⟩:=h.lists
 obtain ⟨cap,hs1⟩:=hl.set.blk
 obtain ⟨cur,hs2,_⟩:=hl.set.wds
 obtain ⟨W1,hbn,_⟩:=h.born
 obtain ⟨W2,hco,_⟩:=h.cols
 obtain ⟨cap1,hb1⟩:=hbn.blk
 obtain ⟨cur1,hb2,_⟩:=hbn.wds
 obtain ⟨cap2,hc1⟩:=hco.blk
 obtain ⟨cur2,hc2,_⟩:=hco.wds
 obtain ⟨ld,st,ha⟩:=h.arena.blk
 match i,hi with
 | 0,_=>exact h.blk.lt
 | 1,_=>exact ha.lt
 | 2,_=>exact h.arena.wds.lt
 | 3,_=>exact h.table.blk.lt
 | 4,_=>exact h.table.cls.lt
 | 5,_=>exact hl.lt
 | 6,_=>exact hs1.lt
 | 7,_=>exact hs2.lt
 | 8,_=>exact hb1.lt
 | 9,_=>exact hb2.lt
 | 10,_=>exact hc1.lt
 | 11,_=>exact hc2.lt
 | 12,_=>exact h.cel.lt
theorem au.qU (h:au w D H) {b:Nat} (hb:w.heap.size≤b):¬ HF D b:=by
 rintro ⟨i,hi,e⟩
 have:=h.ltD i hi
 omega
theorem au.DK (h:au w D H):3<w.heap.size∧4<w.heap.size∧2<w.heap.size :=
 ⟨World.block_lt_of_cell? _ _ (h.tabs.lim 0 1 rfl),World.block_lt_of_cell? _ _ (h.tabs.kind 0 [] rfl),World.block_lt_of_cell? _ _ (h.sizes 0 2 rfl)⟩
theorem au.Tt {w0:World} (h0:au w0 D H) (h:au w D H) {b:Nat} (hb:w0.heap.size≤b) (v:Value):au (w.setCell ⟨b,0,none⟩ v) D H:=by
 have g:=h0.DK
 refine h.keep ((Keep.refl (only b) w).put 0 v) (fun i hi e=>?_) (fun e=>?_) (fun e=>?_) (fun e=>?_)
 ·have:=h0.ltD i hi;unfold only at e;omega
 ·unfold only at e;omega
 ·unfold only at e;omega
 ·unfold only at e;omega
theorem Ju (h:au w D H) (x:Nat) (h1:1≤x) (h2:x≤H.b*H.ww):Calls Tryz.prog 99 #[.pointer (some ⟨D 1,0,none⟩),.int .i64 (x:Int)] w fun e w'=>e = .returned (.tuple #[.int .u64 (H.word x:Int),.int .i64 0])∧au w' D H∧Keep (only (D 1)) w w':=by
 have hal:=h.inv.jY
 have h9:=xU h.arena (x - 1) (by omega)
 rw [show ((x - 1:Nat):Int)+1=(x:Int) by omega] at h9
 refine h9.mono ?_
 rintro e w' ⟨rfl,g2,g3⟩
 refine ⟨?_,h.loaded g3 g2,g3⟩
 unfold HS.word lM
 rw [if_pos h1]
theorem Jv (n:Nat) (f:Int) (bf bh ba bw:Nat) (w:World) (hf:f<0∨(n:Int)≤f) (hb:Blk w bf [.int .i64 f] 3) :
 Calls Tryz.prog 98 #[.int .i64 (n:Int),.pointer (some ⟨bf,0,none⟩),.pointer (some ⟨bh,0,none⟩),.pointer (some ⟨ba,0,none⟩),.pointer (some ⟨bw,0,none⟩)] w fun e w'=>e = .returned (.int .i64 7)∧w=w':=by
 have c0:=hb.cell 0 rfl
 by_cases h0:f<0
 ·have d0:decide (f<0)=true:=decide_eq_true h0
  clear hf hb h0
  go_enter Tryz.func98,Tryz.ntmps98
  go_wp2_with fail
  go_ret
  exact ⟨rfl,rfl⟩
 ·have d0:decide (f<0)=false:=decide_eq_false h0
  have d1:decide ((n:Int)≤f)=true:=decide_eq_true (by omega)
  clear hf hb h0
  go_enter Tryz.func98,Tryz.ntmps98
  go_wp2_with fail
  go_ret
  exact ⟨rfl,rfl⟩
theorem GI (h:au w D H) (n f a bf bh ba bw:Nat) (hf:f<n) (ha:1≤a+1+f) (hx:a+1+f≤H.b*H.ww) (hb1:Blk w bf [.int .i64 (f:Int)] 3) (hb2:Blk w bh [.pointer (some ⟨D 0,0,none⟩)] 47) (hb3:Blk w ba [.int .i64 (a:Int)] 3) (hb4:Blk w bw [.int .u64 0] 146) (hnw:¬ only (D 1) bw) (hn2:¬ only (D 1) bh∧¬ only (D 1) ba∧¬ only (D 1) bf) :
 Calls Tryz.prog 98 #[.int .i64 (n:Int),.pointer (some ⟨bf,0,none⟩),.pointer (some ⟨bh,0,none⟩),.pointer (some ⟨ba,0,none⟩),.pointer (some ⟨bw,0,none⟩)] w fun e w'=>e = .returned (.int .i64 0)∧∃ w1,Keep (only (D 1)) w w1∧au w1 D H∧w'=w1.setCell ⟨bw,0,none⟩ (.int .u64 (H.word (a+1+f):Int)):=by
 have Ph:=h.inv.nle
 have c1:=hb1.cell 0 rfl
 have c2:=hb2.cell 0 rfl
 have c3:=hb3.cell 0 rfl
 have c4:=hb4.cell 0 rfl
 have f4:=hb4.free 0
 have y0:=h.blk.cell 0 rfl
 have d0:decide ((f:Int)<0)=false:=decide_eq_false (by omega)
 have d1:decide (n≤f)=false:=decide_eq_false (by omega)
 have HL:=Lib.hid (Ju (h.still (k:=(Keep.refl none_ w).drew)) (a+1+f) ha hx)
 have e1:IntKind.i64.wrap ((a:Int)+1)=(a:Int)+1:=IntWalk.i64_in _ (by omega)
 have e2:IntKind.i64.wrap ((a:Int)+1+(f:Int))=((a+1+f:Nat):Int):=by rw [IntWalk.i64_in _ (by omega)];omega
 obtain ⟨pp,hpp⟩:∃ pp:Int,pp=((a+1+f:Nat):Int):=⟨_,rfl⟩
 rw [← hpp] at e2 HL
 generalize H.word (a+1+f)=x at *
 have HH:=Lib.hid h
 have HB4:=Lib.hid hb4
 have HNW:=Lib.hid hnw
 have HN2:=Lib.hid hn2
 have HN3:Hid (¬ only bw bh∧¬ only bw (D 0)∧¬ only bw ba∧¬ only bw bf):=by
  refine ⟨fun e=>?_,fun e=>?_,fun e=>?_,fun e=>?_⟩
  all_goals unfold only at e
  ·rw [e] at hb2;exact absurd (hb2.uniq hb4).2 (by decide)
  ·have h9:=h.blk;rw [e] at h9;exact absurd (h9.uniq hb4).2 (by decide)
  ·rw [e] at hb3;exact absurd (hb3.uniq hb4).2 (by decide)
  ·rw [e] at hb1;exact absurd (hb1.uniq hb4).2 (by decide)
 have hge:(0:Int)≤(a:Int)+1:=by omega
 clear h hb1 hb2 hb3 hb4 hf ha hx hnw hn2 hpp Ph
 go_enter Tryz.func98,Tryz.ntmps98
 go_wp2_with fail
 go_region_held3 (fun w'=>w'.cell? ⟨bh,0,none⟩=some (.pointer (some ⟨D 0,0,none⟩))∧w'.cell? ⟨D 0,0,none⟩=some (.pointer (some ⟨D 1,0,none⟩))∧w'.cell? ⟨ba,0,none⟩=some (.int .i64 (a:Int))∧w'.cell? ⟨bf,0,none⟩=some (.int .i64 (f:Int)))
  (first | exact ⟨c2, y0, c3, c1⟩ | exact HS1.out | exact HS2.out _ | fail "iw")
  ((go_at_call 99
    refine HL.out.mono ?_
    rintro e w1 ⟨rfl,h1,k1⟩
    have HS1:Hid (w1.cell? ⟨bh,0,none⟩=some (.pointer (some ⟨D 0,0,none⟩))∧w1.cell? ⟨D 0,0,none⟩=some (.pointer (some ⟨D 1,0,none⟩))∧w1.cell? ⟨ba,0,none⟩=some (.int .i64 (a:Int))∧w1.cell? ⟨bf,0,none⟩=some (.int .i64 (f:Int))):=⟨k1.iY c2 HN2.out.1,h1.blk.cell 0 rfl,k1.iY c3 HN2.out.2.1,k1.iY c1 HN2.out.2.2⟩
    have HS2:Hid (∀ v,(w1.setCell ⟨bw,0,none⟩ v).cell? ⟨bh,0,none⟩=some (.pointer (some ⟨D 0,0,none⟩))∧(w1.setCell ⟨bw,0,none⟩ v).cell? ⟨D 0,0,none⟩=some (.pointer (some ⟨D 1,0,none⟩))∧(w1.setCell ⟨bw,0,none⟩ v).cell? ⟨ba,0,none⟩=some (.int .i64 (a:Int))∧(w1.setCell ⟨bw,0,none⟩ v).cell? ⟨bf,0,none⟩=some (.int .i64 (f:Int))):=fun v=>by
     have kk:=(Keep.refl (only bw) w1).put 0 v
     exact ⟨kk.iY HS1.out.1 HN3.out.1,kk.iY HS1.out.2.1 HN3.out.2.1,kk.iY HS1.out.2.2.1 HN3.out.2.2.1,kk.iY HS1.out.2.2.2 HN3.out.2.2.2⟩
    have HH1:=Lib.hid h1
    have HK1:=Lib.hid ((Keep.refl _ w).drew.trans k1)
    have c41:=(((Keep.refl _ w).drew.trans k1).blk HB4.out HNW.out).cell 0 rfl
    have f41:=(((Keep.refl _ w).drew.trans k1).blk HB4.out HNW.out).free 0
    clear h1 k1))
 go_wp2_with fail
 go_ret
 exact ⟨rfl,w1,HK1.out,HH1.out,rfl⟩
theorem MK (h:au w D H) (a:Nat) (f:Int):Calls Tryz.prog 56 #[.pointer (some ⟨D 0,0,none⟩),.int .i64 (a:Int),.int .i64 f] w fun e w'=>e = .returned (.tuple #[.int .i64 (H.bQ a f:Int),.int .i64 (H.iC a f:Int)])∧au w' D H∧Keep (HF D) w w':=by
 obtain ⟨W0,hW0⟩:∃ W',W'=(((w.alloc (.cells #[.pointer (some ⟨D 0,0,none⟩)] 47)).alloc (.cells #[.int .i64 (a:Int)] 3)).alloc (.cells #[.int .i64 f] 3)).alloc (.cells #[.int .u64 0] 146):=⟨_,rfl⟩
 have hk0:Keep none_ w W0:=by rw [hW0];exact ((((Keep.refl _ _).alloc _).alloc _).alloc _).alloc _
 have hb1:Blk W0 w.heap.size [.pointer (some ⟨D 0,0,none⟩)] 47:=by rw [hW0];exact (((Blk.new w _ _).alloc _).alloc _).alloc _
 have hb2:Blk W0 (w.heap.size+1) [.int .i64 (a:Int)] 3:=by
  rw [hW0]
  have h:=Blk.new (w.alloc (.cells #[.pointer (some ⟨D 0,0,none⟩)] 47)) [.int .i64 (a:Int)] 3
  rw [World.size_alloc] at h
  exact (h.alloc _).alloc _
 have hb3:Blk W0 (w.heap.size+1+1) [.int .i64 f] 3:=by
  rw [hW0]
  have h:=Blk.new ((w.alloc (.cells #[.pointer (some ⟨D 0,0,none⟩)] 47)).alloc (.cells #[.int .i64 (a:Int)] 3)) [.int .i64 f] 3
  rw [World.size_alloc,World.size_alloc] at h
  exact h.alloc _
 have hb4:Blk W0 (w.heap.size+1+1+1) [.int .u64 0] 146:=by
  rw [hW0]
  have h:=Blk.new (((w.alloc (.cells #[.pointer (some ⟨D 0,0,none⟩)] 47)).alloc (.cells #[.int .i64 (a:Int)] 3)).alloc (.cells #[.int .i64 f] 3)) [.int .u64 0] 146
  rw [World.size_alloc,World.size_alloc,World.size_alloc] at h
  exact h
 have h0:=h.still hk0
 have n1:=h.qU (b:=w.heap.size) (Nat.le_refl _)
 have n2:=h.qU (b:=w.heap.size+1) (by omega)
 have n3:=h.qU (b:=w.heap.size+1+1) (by omega)
 have n4:=h.qU (b:=w.heap.size+1+1+1) (by omega)
 have hmf:∀ (fn:Fn) (first cap:Array Value) (w:World),(Instr.makeFunc fn first cap).run Tryz.prog w = .ok (.func fn first cap) w:=fun _ _ _ _=>rfl
 have key:Hid (Calls Tryz.prog 96 #[.pointer (some ⟨D 0,0,none⟩),.int .i64 (a:Int),.func (.func 98) #[] #[.pointer (some ⟨w.heap.size+1+1,0,none⟩),.pointer (some ⟨w.heap.size,0,none⟩),.pointer (some ⟨w.heap.size+1,0,none⟩),.pointer (some ⟨w.heap.size+1+1+1,0,none⟩)]] W0 fun e w'=>e = .returned (.int .i64 (H.iC a f:Int))∧(au w' D H∧Keep (HF D) w w'∧w'.cell? ⟨w.heap.size+1+1+1,0,none⟩=some (.int .u64 (H.bQ a f:Int)))):=by
  by_cases he:H.jy a=0
  ·refine rJ h0 a 98 (fun args w=>by simp [callFunc,Tryz.func98,go_sem];rfl) _ _ _ he (fun W hW hk=>?_)
   have g1:=hk.blk hb1 n1
   have g2:=hk.blk hb2 n2
   have g3:=hk.blk hb3 n3
   have g4:=hk.blk hb4 n4
   by_cases hf:f<0∨(H.nf a:Int)≤f
   ·have hE:H.iC a f=7:=by unfold HS.iC;rw [if_pos he,if_pos hf]
    have hP:H.bQ a f=0:=by unfold HS.bQ;rw [hE];rfl
    rw [hE,hP]
    refine (Jv (H.nf a) f _ _ _ _ W hf g3).mono ?_
    rintro e w' ⟨rfl,rfl⟩
    exact ⟨rfl,hW,hk0.eF.trans hk,g4.cell 0 rfl⟩
   ·obtain ⟨j,rfl⟩:∃ j:Nat,f=(j:Int):=⟨f.toNat,by omega⟩
    have hE:H.iC a (j:Int)=0:=by unfold HS.iC;rw [if_pos he,if_neg hf]
    have hP:H.bQ a (j:Int)=H.word (a+1+j):=by unfold HS.bQ;rw [hE,if_pos rfl,Int.toNat_natCast]
    rw [hE,hP]
    have hfl:=h.inv.field (Af he).2 (f:=j) (by omega)
    refine (GI hW (H.nf a) j a _ _ _ _ (by omega) (by omega) hfl.2.1 g3 g1 g2 g4 (fun e=>n4 ⟨1,by decide,e⟩) ⟨fun e=>n1 ⟨1,by decide,e⟩,fun e=>n2 ⟨1,by decide,e⟩,fun e=>n3 ⟨1,by decide,e⟩⟩).mono ?_
    rintro e w' ⟨rfl,w1,k1,hh1,rfl⟩
    have k1':Keep (HF D) w w1:=(hk0.eF.trans hk).trans ((k1.sel1 (D:=D) (i:=1) (I:=[1]) rfl).hf rfl)
    have g41:=k1.blk g4 (fun e=>n4 ⟨1,by decide,e⟩)
    exact ⟨rfl,h.Tt hh1 (by omega) _,k1'.dJ (by omega) 0 _,(g41.set 0 _).cell 0 rfl⟩
  ·have hE:H.iC a f=H.jy a:=by unfold HS.iC;rw [if_neg he]
   have hP:H.bQ a f=0:=by unfold HS.bQ;rw [hE,if_neg he]
   rw [hE,hP]
   refine (tH h0 a _ he).mono ?_
   rintro e w' ⟨rfl,g1,g2⟩
   exact ⟨rfl,g1,hk0.eF.trans g2,(g2.blk hb4 n4).cell 0 rfl⟩
 have hlt:H.bQ a f<jL:=by
  unfold HS.bQ
  split
  ·exact h.inv.wlt _
  ·decide
 have oV:(H.bQ a f:Int)<216172782113783808:=by unfold jL at hlt;omega
 have HWR:Hid (wrap64 (H.bQ a f:Int)=(H.bQ a f:Int)):=IntWalk.wrap64_in _ (by omega)
 generalize H.bQ a f=x at *
 generalize H.iC a f=er at *
 clear h h0 hk0 hb1 hb2 hb3 hb4 n1 n2 n3 n4 hlt
 go_enter Tryz.func56,Tryz.ntmps56
 go_wp2_with fail
 rw [← hW0]
 clear hW0
 refine key.out.mono ?_
 rintro e w1 ⟨rfl,h1,k1,c1⟩
 have HH1:=Lib.hid h1
 have HK1:=Lib.hid k1
 clear h1 k1 key
 go_wp2_with fail
 go_ret2
 exact ⟨by first|rfl|rw [HWR.out],HH1.out,HK1.out⟩
end
section
variable {w w':World} {D:Nat→Nat} {H:HS}
theorem GK (n:Nat) (f:Int) (bf bh bv ba:Nat) (w:World) (hf:f<0∨(n:Int)≤f) (hb:Blk w bf [.int .i64 f] 3) :
 Calls Tryz.prog 117 #[.int .i64 (n:Int),.pointer (some ⟨bf,0,none⟩),.pointer (some ⟨bh,0,none⟩),.pointer (some ⟨bv,0,none⟩),.pointer (some ⟨ba,0,none⟩)] w fun e w'=>e = .returned (.int .i64 7)∧w=w':=by
 have c0:=hb.cell 0 rfl
 by_cases h0:f<0
 ·have d0:decide (f<0)=true:=decide_eq_true h0
  clear hf hb h0
  go_enter Tryz.func117,Tryz.ntmps117
  go_wp2_with fail
  go_ret
  exact ⟨rfl,rfl⟩
 ·have d0:decide (f<0)=false:=decide_eq_false h0
  have d1:decide ((n:Int)≤f)=true:=decide_eq_true (by omega)
  clear hf hb h0
  go_enter Tryz.func117,Tryz.ntmps117
  go_wp2_with fail
  go_ret
  exact ⟨rfl,rfl⟩
theorem Dl (h:au w D H) (n f v bf bh bv ba:Nat) (hf:f<n) (hv:¬ v≤H.n) (hb1:Blk w bf [.int .i64 (f:Int)] 3) (hb2:Blk w bh [.pointer (some ⟨D 0,0,none⟩)] 47) (hb3:Blk w bv [.int .i64 (v:Int)] 3) :
 Calls Tryz.prog 117 #[.int .i64 (n:Int),.pointer (some ⟨bf,0,none⟩),.pointer (some ⟨bh,0,none⟩),.pointer (some ⟨bv,0,none⟩),.pointer (some ⟨ba,0,none⟩)] w fun e w'=>e = .returned (.int .i64 4)∧w=w':=by
 have c1:=hb1.cell 0 rfl
 have c2:=hb2.cell 0 rfl
 have c3:=hb3.cell 0 rfl
 have d0:decide ((f:Int)<0)=false:=decide_eq_false (by omega)
 have d1:decide (n≤f)=false:=decide_eq_false (by omega)
 have HV:=Lib.hid (tC h v)
 rw [decide_eq_false hv] at HV
 clear h hb1 hb2 hb3 hf hv
 go_enter Tryz.func117,Tryz.ntmps117
 go_wp2_with (go_at_call 118;refine HV.out.mono ?_;rintro e w1 ⟨rfl,rfl⟩)
 go_ret
 exact ⟨rfl,rfl⟩
theorem EF (h:au w D H) (n f a v bf bh bv ba:Nat) (hf:f<n) (hv:v≤H.n) (ha:1≤a+1+f) (hx:a+1+f≤H.b*H.ww) (hi:bF (H.lay (a+1+f) v)) (hb1:Blk w bf [.int .i64 (f:Int)] 3) (hb2:Blk w bh [.pointer (some ⟨D 0,0,none⟩)] 47) (hb3:Blk w bv [.int .i64 (v:Int)] 3) (hb4:Blk w ba [.int .i64 (a:Int)] 3) :
 Calls Tryz.prog 117 #[.int .i64 (n:Int),.pointer (some ⟨bf,0,none⟩),.pointer (some ⟨bh,0,none⟩),.pointer (some ⟨bv,0,none⟩),.pointer (some ⟨ba,0,none⟩)] w fun e w'=>e = .returned (.int .i64 0)∧au w' D (H.lay (a+1+f) v)∧Keep (HF D) w w':=by
 have Ph:=h.inv.nle
 have hvn:v≤1048576:=by unfold HS.n at hv;omega
 have c1:=hb1.cell 0 rfl
 have c2:=hb2.cell 0 rfl
 have c3:=hb3.cell 0 rfl
 have c4:=hb4.cell 0 rfl
 have y0:=h.blk.cell 0 rfl
 have d0:decide ((f:Int)<0)=false:=decide_eq_false (by omega)
 have d1:decide (n≤f)=false:=decide_eq_false (by omega)
 have HV:=Lib.hid (tC h v)
 rw [decide_eq_true hv] at HV
 have HL:=Lib.hid (xq (h.still (k:=(Keep.refl none_ w).drew)) (a+1+f) v ha hx (by unfold jL;omega) hi)
 have e1:IntKind.i64.wrap ((a:Int)+1)=(a:Int)+1:=IntWalk.i64_in _ (by omega)
 have e2:IntKind.i64.wrap ((a:Int)+1+(f:Int))=((a+1+f:Nat):Int):=by rw [IntWalk.i64_in _ (by omega)];omega
 have HEU:Hid (IntKind.u64.wrap (v:Int)=(v:Int)):=IntWalk.u64_in _ (by omega)
 obtain ⟨pp,hpp⟩:∃ pp:Int,pp=((a+1+f:Nat):Int):=⟨_,rfl⟩
 rw [← hpp] at e2 HL
 generalize H.lay (a+1+f) v=H2 at *
 have hge:(0:Int)≤(a:Int)+1:=by omega
 clear h hb1 hb2 hb3 hb4 hf ha hx hpp Ph hi hv hvn
 go_enter Tryz.func117,Tryz.ntmps117
 go_wp2_with (go_at_call 118;refine HV.out.mono ?_;rintro e w1 ⟨rfl,rfl⟩)
 refine aA 10 rfl (by kernel_rfl) (by kernel_rfl) (fun K hK=>?_)
 change wpStill _ _ (World.drew _) _ _ _
 simp only [List.take_succ_cons,List.take_zero,List.drop_succ_cons,List.drop_zero] at hK ⊢
 repeat still_step
 refine wpStill_nil ?_
 change ite _ (Oper.wp _ _ _ w.drew _ _) _
 go_simp
 rw [HEU.out]
 refine HL.out.mono ?_
 rintro e w1 ⟨rfl,h1,k1⟩
 refine hK _ _ ?_
 clear hK K
 have HH1:=Lib.hid h1
 have HK1:=Lib.hid ((Keep.refl (HF D) w).drew.trans k1)
 clear h1 k1 c1 c2 c3 c4 y0
 repeat still_step
 refine wpStill_nil ?_
 go_wp2_with fail
 go_ret
 exact ⟨rfl,HH1.out,HK1.out⟩
theorem yZ (h:au w D H) (a:Nat) (f:Int) (v:Nat):Calls Tryz.prog 72 #[.pointer (some ⟨D 0,0,none⟩),.int .i64 (a:Int),.int .i64 f,.int .i64 (v:Int)] w fun e w'=>e = .returned (.int .i64 (H.kQ a f v:Int))∧au w' D (H.dY a f v)∧Keep (HF D) w w':=by
 obtain ⟨W0,hW0⟩:∃ W',W'=(((w.alloc (.cells #[.pointer (some ⟨D 0,0,none⟩)] 47)).alloc (.cells #[.int .i64 (a:Int)] 3)).alloc (.cells #[.int .i64 f] 3)).alloc (.cells #[.int .i64 (v:Int)] 3):=⟨_,rfl⟩
 have hk0:Keep none_ w W0:=by rw [hW0];exact ((((Keep.refl _ _).alloc _).alloc _).alloc _).alloc _
 have hb1:Blk W0 w.heap.size [.pointer (some ⟨D 0,0,none⟩)] 47:=by rw [hW0];exact (((Blk.new w _ _).alloc _).alloc _).alloc _
 have hb2:Blk W0 (w.heap.size+1) [.int .i64 (a:Int)] 3:=by
  rw [hW0]
  have h:=Blk.new (w.alloc (.cells #[.pointer (some ⟨D 0,0,none⟩)] 47)) [.int .i64 (a:Int)] 3
  rw [World.size_alloc] at h
  exact (h.alloc _).alloc _
 have hb3:Blk W0 (w.heap.size+1+1) [.int .i64 f] 3:=by
  rw [hW0]
  have h:=Blk.new ((w.alloc (.cells #[.pointer (some ⟨D 0,0,none⟩)] 47)).alloc (.cells #[.int .i64 (a:Int)] 3)) [.int .i64 f] 3
  rw [World.size_alloc,World.size_alloc] at h
  exact h.alloc _
 have hb4:Blk W0 (w.heap.size+1+1+1) [.int .i64 (v:Int)] 3:=by
  rw [hW0]
  have h:=Blk.new (((w.alloc (.cells #[.pointer (some ⟨D 0,0,none⟩)] 47)).alloc (.cells #[.int .i64 (a:Int)] 3)).alloc (.cells #[.int .i64 f] 3)) [.int .i64 (v:Int)] 3
  rw [World.size_alloc,World.size_alloc,World.size_alloc] at h
  exact h
 have h0:=h.still hk0
 have n1:=h.qU (b:=w.heap.size) (Nat.le_refl _)
 have n2:=h.qU (b:=w.heap.size+1) (by omega)
 have n3:=h.qU (b:=w.heap.size+1+1) (by omega)
 have n4:=h.qU (b:=w.heap.size+1+1+1) (by omega)
 have hmf:∀ (fn:Fn) (first cap:Array Value) (w:World),(Instr.makeFunc fn first cap).run Tryz.prog w = .ok (.func fn first cap) w:=fun _ _ _ _=>rfl
 have key:Hid (Calls Tryz.prog 96 #[.pointer (some ⟨D 0,0,none⟩),.int .i64 (a:Int),.func (.func 117) #[] #[.pointer (some ⟨w.heap.size+1+1,0,none⟩),.pointer (some ⟨w.heap.size,0,none⟩),.pointer (some ⟨w.heap.size+1+1+1,0,none⟩),.pointer (some ⟨w.heap.size+1,0,none⟩)]] W0 fun e w'=>e = .returned (.int .i64 (H.kQ a f v:Int))∧(au w' D (H.dY a f v)∧Keep (HF D) w w')):=by
  by_cases he:H.jy a=0
  ·refine rJ h0 a 117 (fun args w=>by simp [callFunc,Tryz.func117,go_sem];rfl) _ _ _ he (fun W hW hk=>?_)
   have g1:=hk.blk hb1 n1
   have g2:=hk.blk hb2 n2
   have g3:=hk.blk hb3 n3
   have g4:=hk.blk hb4 n4
   by_cases hf:f<0∨(H.nf a:Int)≤f
   ·have hE:H.kQ a f v=7:=by unfold HS.kQ HS.iC;rw [if_pos he,if_pos hf];rfl
    have hP:H.dY a f v=H:=by unfold HS.dY;rw [hE];rfl
    rw [hE,hP]
    refine (GK (H.nf a) f _ _ _ _ W hf g3).mono ?_
    rintro e w' ⟨rfl,rfl⟩
    exact ⟨rfl,hW,hk0.eF.trans hk⟩
   ·obtain ⟨j,rfl⟩:∃ j:Nat,f=(j:Int):=⟨f.toNat,by omega⟩
    have hE0:H.iC a (j:Int)=0:=by unfold HS.iC;rw [if_pos he,if_neg hf]
    have hfl:=h.inv.field (Af he).2 (f:=j) (by omega)
    by_cases hv:v≤H.n
    ·have hE:H.kQ a (j:Int) v=0:=by unfold HS.kQ;rw [hE0,if_pos rfl,if_pos hv]
     have hP:H.dY a (j:Int) v=H.lay (a+1+j) v:=by unfold HS.dY;rw [hE,if_pos rfl,Int.toNat_natCast]
     rw [hE,hP]
     have hvn:v≤1048576:=by have:=h.inv.nle;unfold HS.n at hv;omega
     refine (EF hW (H.nf a) j a v _ _ _ _ (by omega) hv (by omega) hfl.2.1 (h.inv.lay (by omega) hfl.2.1 hfl.1 hfl.2.2.2 (by unfold jL;omega)) g3 g1 g4 g2).mono ?_
     rintro e w' ⟨rfl,hh1,k1⟩
     exact ⟨rfl,hh1,(hk0.eF.trans hk).trans k1⟩
    ·have hE:H.kQ a (j:Int) v=4:=by unfold HS.kQ;rw [hE0,if_pos rfl,if_neg hv]
     have hP:H.dY a (j:Int) v=H:=by unfold HS.dY;rw [hE];rfl
     rw [hE,hP]
     refine (Dl hW (H.nf a) j v _ _ _ _ (by omega) hv g3 g1 g4).mono ?_
     rintro e w' ⟨rfl,rfl⟩
     exact ⟨rfl,hW,hk0.eF.trans hk⟩
  ·have hE:H.kQ a f v=H.jy a:=by unfold HS.kQ HS.iC;rw [if_neg he,if_neg he]
   have hP:H.dY a f v=H:=by unfold HS.dY;rw [hE,if_neg he]
   rw [hE,hP]
   refine (tH h0 a _ he).mono ?_
   rintro e w' ⟨rfl,g1,g2⟩
   exact ⟨rfl,g1,hk0.eF.trans g2⟩
 generalize H.dY a f v=H2 at *
 generalize H.kQ a f v=er at *
 clear h h0 hk0 hb1 hb2 hb3 hb4 n1 n2 n3 n4
 go_enter Tryz.func72,Tryz.ntmps72
 go_wp2_with fail
 rw [← hW0]
 clear hW0
 refine key.out.mono ?_
 rintro e w1 ⟨rfl,h1,k1⟩
 have HH1:=Lib.hid h1
 have HK1:=Lib.hid k1
 clear h1 k1 key
 go_wp2_with fail
 go_ret
 exact ⟨rfl,HH1.out,HK1.out⟩
end
end
section
open Go.RowKit
theorem Tryz.infoI:(Tryz.prog.info? 3).map (fun i=>(i.zero,i.size,i.bytes))=some (some (.int .i64 0),1,8):=by kernel_rfl
theorem vw (a:Option Addr) (n c:Nat) (xs:List Value) (w:World) (h:Cells w a n xs) (hnil:a=none→c=0) (hm:n≤4000000000000) (h1:∀ u∈xs,u.oneCell'=true) :
 Calls Tryz.prog 85 #[.slice a n c] w fun e w'=>∃ v',e = .returned v'∧w'.ownsRow w.heap.size 3 1 v' n xs∧Keep none_ w w':=by
 obtain ⟨rfl,hc⟩:=h
 cases a with
 | none =>
   have h0:xs=[]:=by
    cases xs with
    | nil=>rfl
    | cons x xs=>obtain ⟨b,off,e,_⟩:=hc (by simp);cases e
   subst h0
   obtain rfl:=hnil rfl
   simp only [List.length_nil]
   clear hc hm hnil h1
   have hn:=fun w=>Lib.run_eql_slice_nil (P:=Tryz.prog) w 32 3 none 0 0 0 0 Tryz.underlying32
   go_enter Tryz.func85,Tryz.ntmps85
   go_wp2
   go_ret
   exact ⟨_,rfl,World.ownsRow_nil _ _ _ _,Keep.refl _ _⟩
 | some ad =>
   have hn:=fun w=>Lib.run_eql_slice_nil (P:=Tryz.prog) w 32 3 (some ad) xs.length c 0 0 Tryz.underlying32
   obtain ⟨i0,hi1,hi2,hi3,hi4⟩:=info_parts Tryz.infoI
   have hw0:∀ w:World,(w.alloc (.cells #[] 3)).ownsRow w.heap.size 3 1 (.slice (some ⟨w.heap.size,0,none⟩) 0 0) 0 []:=fun w=>World.ownsRow_made w #[] 0 (Nat.le_refl _) (by decide) rfl
   have hcell:∀ (j:Nat) (u:Value),xs[j]?=some u→(w.alloc (.cells #[] 3)).cell? (ad.add j)=some u:=fun j u hj=>by
    have hjl:=(List.getElem?_eq_some_iff.1 hj).1
    obtain ⟨b,off,e,hx⟩:=hc (by omega)
    injection e with e
    subst e
    have hcl:=hx j u hj
    have ea:(⟨b,off,none⟩:Addr).add j=⟨b,off+j,none⟩:=by simp only [Addr.add];split<;>simp_all
    rw [ea,World.cell?_alloc_lt _ _ _ (World.block_lt_of_cell? _ _ hcl)]
    exact hcl
   have HC:=Lib.hid hcell
   have HU:=Lib.hid h1
   clear hcell hc h1
   go_enter Tryz.func85,Tryz.ntmps85
   go_wp2_with (at_builtin;refine wpList_append_own _ rfl _ _ 32 rfl w.heap.size 3 i0 (.int .i64 0) 1 8 Tryz.underlying32 hi1 hi2 hi3 hi4 rfl (by decide) _ _ _ rfl (hw0 w) ad xs.length c xs rfl (by simp) HC.out HU.out (by unfold maxLen;omega) (by omega) (by simp) ?_;intro v' w1 hown hgr _)
   have hown':w1.ownsRow w.heap.size 3 1 v' xs.length xs:=by simpa using hown
   have hkeep:Keep none_ w w1:=((Keep.refl none_ w).alloc _).grown hgr (fun k e hk=>absurd hk (by have e':w.heap.size=k:=Option.some.inj e;omega))
   clear hown hgr
   go_wp2
   go_ret
   exact ⟨_,rfl,hown',hkeep⟩
end
end Go.Proofs.YtanfphjoebobaaaGreatDoor
