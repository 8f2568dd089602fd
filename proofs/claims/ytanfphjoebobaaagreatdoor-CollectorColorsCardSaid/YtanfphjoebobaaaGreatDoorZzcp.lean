/- Parts of a walk, put together and made shorter by a program of mine. No conditions. -/
import Derived.Test.YtanfphjoebobaaaGreatDoorZzco
import Derived.Laws.EntriesVeiled
import Derived.Deep.RegionHeld3
import Derived.Deep.QuietTactic
import Derived.BigQuiet
namespace Go.Proofs.YtanfphjoebobaaaGreatDoor
set_option maxRecDepth 4000
set_option maxHeartbeats 4000000
section
attribute [local go_sem] Oper.semAt_some
open Go.RowKit
section
variable {o:Ow} {w w':World} {b:Nat} {room:Int} {xs:List Nat}
theorem cZ.UO (h:cZ o w b 179 [.int .i64 room] xs):w.cell? ⟨b,1,none⟩=some (.int .i64 room):=by
 obtain ⟨_,v,h1,_⟩:=h
 exact h1.cell 1 rfl
theorem tJ (h:cZ o w b 179 [.int .i64 room] xs):Calls Tryz.prog 174 #[.pointer (some ⟨b,0,none⟩)] w fun e w'=>e = .returned (.bool ((xs.length:Int)==room))∧Keep none_ w w':=by
 have HC:Hid (∀ W,Keep none_ w W→Calls Tryz.prog 212 #[.pointer (some ⟨b,0,none⟩)] W fun e w'=>e = .returned (.int .i64 (xs.length:Int))∧W=w'):=fun W hW=>nZ (h.still hW)
 have c1:=h.UO
 have hlen:(xs.length:Int)≤4000000000000:=by obtain ⟨a,c,_,_,_,_,hm,_⟩:=h.form;omega
 generalize xs.length=n at *
 clear h
 go_enter Tryz.func174,Tryz.ntmps174
 go_wp2_with fail
 go_quiet (first|(go_at_call 212;exact Calls.quiet_of_same (dK (HC.out _ ((Keep.refl none_ w).drewN _)))))
 go_wp2_with fail
 go_ret
 exact ⟨rfl,(Keep.refl _ _).drewN _⟩
theorem BH (h:cZ o w b 179 [.int .i64 room] xs):Calls Tryz.prog 175 #[.pointer (some ⟨b,0,none⟩)] w fun e w'=>e = .returned (.int .i64 (xs.length:Int))∧w=w':=by
 have HC:=Lib.hid (nZ h)
 clear h
 go_enter Tryz.func175,Tryz.ntmps175
 go_wp2_with (go_at_call 212;refine HC.out.mono ?_;rintro e w1 ⟨rfl,rfl⟩)
 go_ret
 exact ⟨rfl,rfl⟩
theorem Jz (h:cZ o w b 179 [.int .i64 room] xs) (x:Nat) (hf:((xs.length:Int)==room)=true):Calls Tryz.prog 172 #[.pointer (some ⟨b,0,none⟩),.int .i64 (x:Int)] w fun e w'=>e = .returned (.bool false)∧Keep none_ w w':=by
 have HF:=Lib.hid (tJ h)
 rw [hf] at HF
 clear h hf
 go_enter Tryz.func172,Tryz.ntmps172
 go_wp2_with (go_at_call 174;refine HF.out.mono ?_;rintro e w1 ⟨rfl,k1⟩;have HK:=Lib.hid k1;clear k1)
 go_ret
 exact ⟨rfl,HK.out⟩
theorem JA (h:cZ o w b 179 [.int .i64 room] xs) (x:Nat) (hf:((xs.length:Int)==room)=false) (hf0:Fut o w) (hm:xs.length≤100000):Calls Tryz.prog 172 #[.pointer (some ⟨b,0,none⟩),.int .i64 (x:Int)] w fun e w'=>e = .returned (.bool true)∧cZ o w' b 179 [.int .i64 room] (xs++[x])∧Keep (only b) w w':=by
 have HF:=Lib.hid (tJ h)
 rw [hf] at HF
 have HA:Hid (∀ W,Keep none_ w W→Calls Tryz.prog 211 #[.pointer (some ⟨b,0,none⟩),.int .i64 (x:Int)] W fun e w'=>e = .returned (.tuple #[])∧cZ o w' b 179 [.int .i64 room] (xs++[x])∧Keep (only b) W w'):=fun W hW=>MN (h.still hW) x (hf0.keep hW) hm
 clear h hf hf0 hm
 go_enter Tryz.func172,Tryz.ntmps172
 go_wp2_with (go_at_call 174;refine HF.out.mono ?_;rintro e w1 ⟨rfl,k1⟩;have HK:=Lib.hid k1;have HA1:=Lib.hid (HA.out _ k1);clear k1)
 go_wp2_with (go_at_call 211;refine HA1.out.mono ?_;rintro e w2 ⟨rfl,h2,k2⟩;have HH:=Lib.hid h2;have HK2:=Lib.hid k2;clear h2 k2)
 go_ret
 exact ⟨rfl,HH.out,(HK.out.mono (fun _ _ f=>f.elim)).trans HK2.out⟩
theorem JB (h:cZ o w b 179 [.int .i64 room] xs):Calls Tryz.prog 215 #[.pointer (some ⟨b,0,none⟩)] w fun e w'=>e = .returned (.tuple #[.int .i64 (aJ xs:Int),.bool (!xs.isEmpty)])∧cZ o w' b 179 [.int .i64 room] xs.tail∧Keep (only b) w w':=by
 have HT:Hid (Calls Tryz.prog 246 #[.pointer (some ⟨b,0,none⟩)] w fun e w'=>e = .returned (.tuple #[.int .i64 (aJ xs:Int),.bool (!xs.isEmpty)])∧cZ o w' b 179 [.int .i64 room] xs.tail∧Keep (only b) w w'):=by
  cases xs with
  | nil =>
    refine (zf h).mono ?_
    rintro e w' ⟨rfl,rfl⟩
    exact ⟨rfl,h,Keep.refl _ _⟩
  | cons x xs=>exact xw x h
 generalize aJ xs=hd at *
 generalize (!xs.isEmpty)=ok at *
 clear h
 go_enter Tryz.func215,Tryz.ntmps215
 go_wp2_with (go_at_call 246;refine HT.out.mono ?_;rintro e w1 ⟨rfl,h1,k1⟩;have HH:=Lib.hid h1;have HK:=Lib.hid k1;clear h1 k1)
 go_ret2
 exact ⟨rfl,HH.out,HK.out⟩
theorem rO (h:cZ o w b 179 [.int .i64 room] xs):Calls Tryz.prog 131 #[.pointer (some ⟨b,0,none⟩)] w fun e w'=>e = .returned (.tuple #[])∧cZ o w' b 179 [.int .i64 room] []∧Keep (only b) w w':=by
 obtain ⟨a,c,hc,_,_,_,_,hf,_⟩:=h.form
 have HS:=Lib.hid (h.set (aV.nil o w 3) (ys:=[]) (fun _ _ e=>by cases e;rfl))
 clear h
 go_enter Tryz.func131,Tryz.ntmps131
 go_wp2_with fail
 go_end0
 exact ⟨rfl,HS.out,(Keep.refl (only b) _).put _ _⟩
theorem Pj (F:Nat) (f:Bool) (h:Blk w F [.bool f] 121):Calls Tryz.prog 281 #[.pointer (some ⟨F,0,none⟩)] w fun e w'=>e = .returned (.bool f)∧w=w':=by
 have c0:=h.cell 0 rfl
 clear h
 cases f
 all_goals
  go_enter Tryz.func281,Tryz.ntmps281
  go_wp2_with fail
  go_ret
  exact ⟨rfl,rfl⟩
theorem GL (F:Nat) (f:Bool) (h:Blk w F [.bool f] 121):Calls Tryz.prog 218 #[.pointer (some ⟨F,0,none⟩)] w fun e w'=>e = .returned (.tuple #[])∧Blk w' F [.bool true] 121∧Keep (only F) w w':=by
 have c0:=h.cell 0 rfl
 have f0:=h.free 0
 have HS:=Lib.hid (h.set 0 (.bool true))
 clear h
 go_enter Tryz.func218,Tryz.ntmps218
 go_wp2_with fail
 go_end0
 exact ⟨rfl,HS.out,(Keep.refl (only F) _).put _ _⟩
theorem GN (F:Nat) (f:Bool) (h:Blk w F [.bool f] 121):Calls Tryz.prog 272 #[.pointer (some ⟨F,0,none⟩)] w fun e w'=>e = .returned (.bool f)∧Blk w' F [.bool false] 121∧Keep (only F) w w':=by
 have c0:=h.cell 0 rfl
 have f0:=h.free 0
 have HS:=Lib.hid (h.set 0 (.bool false))
 have HU:=Lib.hid (Pj F f h)
 have HH:=Lib.hid h
 clear h
 cases f
 ·go_enter Tryz.func272,Tryz.ntmps272
  go_wp2_with (go_at_call 281;refine HU.out.mono ?_;rintro e w1 ⟨rfl,rfl⟩)
  go_ret
  exact ⟨rfl,HH.out,Keep.refl _ _⟩
 ·go_enter Tryz.func272,Tryz.ntmps272
  go_wp2_with (go_at_call 281;refine HU.out.mono ?_;rintro e w1 ⟨rfl,rfl⟩)
  go_ret
  exact ⟨rfl,HS.out,(Keep.refl (only F) _).put _ _⟩
theorem MO {B:Nat} {ys:List Nat} (h:cZ o w b 179 [.int .i64 room] xs) (hb:cZ o w B 176 [] ys) (hy:ys≠[]):Calls Tryz.prog 177 #[.pointer (some ⟨B,0,none⟩),.pointer (some ⟨b,0,none⟩)] w fun e w'=>e = .returned (.bool false)∧w=w':=by
 have HC:=Lib.hid (nZ hb)
 have hpos:0<ys.length:=List.length_pos_iff.2 hy
 have d0:decide ((0:Int)<(ys.length:Int))=true:=decide_eq_true (by omega)
 have d1:decide (0<ys.length)=true:=decide_eq_true hpos
 generalize ys.length=n at *
 clear h hb hy
 go_enter Tryz.func177,Tryz.ntmps177
 go_wp2_with (go_at_call 212;refine HC.out.mono ?_;rintro e w1 ⟨rfl,rfl⟩)
 go_ret
 exact ⟨rfl,rfl⟩
theorem JC {B:Nat} (h:cZ o w b 179 [.int .i64 room] xs) (hb:cZ o w B 176 [] []) (hne:B≠b) (hf0:Fut o w):Calls Tryz.prog 177 #[.pointer (some ⟨B,0,none⟩),.pointer (some ⟨b,0,none⟩)] w fun e w'=>e = .returned (.bool true)∧cZ o w' b 179 [.int .i64 room] []∧cZ o w' B 176 [] xs∧Keep (fun i=>i=B∨i=b) w w':=by
 have HC:=Lib.hid (nZ hb)
 have hlen:xs.length≤4000000000000:=by obtain ⟨a,c,_,_,_,_,hm,_⟩:=h.form;exact hm
 have HA:=Lib.hid (ML h)
 have HH:=Lib.hid h
 have HB:=Lib.hid hb
 have HN:=Lib.hid hne
 have HF:=Lib.hid hf0
 have HL:=Lib.hid hlen
 clear h hb hne hf0 hlen
 go_enter Tryz.func177,Tryz.ntmps177
 go_wp2_with (go_at_call 212;refine HC.out.mono ?_;rintro e w1 ⟨rfl,rfl⟩)
 refine HA.out.mono ?_
 rintro e w1 ⟨v,rfl,ho,k1⟩
 obtain ⟨a',cap',rfl,_,_,hnl,_⟩:=jk (dP ho (Nat.zero_le _))
 have HNL:=Lib.hid hnl
 have HO:=Lib.hid ho
 have HK1:=Lib.hid k1
 obtain ⟨_,_,cB,_,_,_,_,fB,_⟩:=(HB.out.still k1).form
 clear ho k1 hnl
 go_wp2_with fail
 have hrow:aV o w1 3 (.slice a' xs.length cap') (aC xs):=aV.pJ HO.out HL.out (fun x hx=>HF.out x hx)
 have hnil:Jw (.slice a' xs.length cap'):=fun n c e=>by injection e with e1 e2 e3;rw [← e3];exact HNL.out e1
 have hS2:=(HB.out.still HK1.out).set hrow hnil
 have k2:Keep (only B) w1 (w1.setCell ⟨B,0,none⟩ (.slice a' xs.length cap')):=(Keep.refl _ _).put 0 _
 have hb2:cZ o (w1.setCell ⟨B,0,none⟩ (.slice a' xs.length cap')) b 179 [.int .i64 room] xs:=(HH.out.still HK1.out).keep k2 (fun e=>HN.out e.symm) (fun x hx e=>by unfold only at e;subst e;exact HB.out.1 hx)
 have HS2:=Lib.hid hS2
 have HK2:=Lib.hid k2
 have HCL:=Lib.hid (rO hb2)
 clear hS2 k2 hb2 hrow hnil
 refine HCL.out.mono ?_
 rintro e w3 ⟨rfl,h3,k3⟩
 have HH3:=Lib.hid h3
 have HK3:=Lib.hid k3
 clear h3 k3
 go_wp2_with fail
 go_ret
 refine ⟨rfl,HH3.out,HS2.out.keep HK3.out (fun e=>HN.out e) (fun x hx e=>by unfold only at e;subst e;exact HH.out.1 hx),?_⟩
 exact (HK1.out.mono (fun _ _ f=>f.elim)).trans ((HK2.out.mono (fun _ _ e=>Or.inl e)).trans (HK3.out.mono (fun _ _ e=>Or.inr e)))
end
def aZ (w:World):List (List Value × TypeId)→World
 | []=>w
 | (cs,T)::l=>aZ (w.alloc (.cells cs.toArray T)) l
def idxs (n:Nat):List (List Value × TypeId)→List Nat
 | []=>[]
 | _::l=>n::idxs (n+1) l
theorem fG {o:Ow}:∀ (l:List (List Value × TypeId)) (w:World),Fut o w→Caps o (aZ w l) l (idxs w.heap.size l)∧Keep none_ w (aZ w l)
 | [],w,_=>⟨rfl,Keep.refl _ _⟩
 | (cs,T)::l,w,hf=>by
   have k:Keep none_ w (w.alloc (.cells cs.toArray T)):=(Keep.refl _ _).alloc _
   obtain ⟨h1,h2⟩:=fG l (w.alloc (.cells cs.toArray T)) (hf.keep k)
   rw [World.size_alloc] at h1
   exact ⟨⟨w.heap.size,_,rfl,hf _ (Nat.le_refl _),h2.blk (Blk.new w cs T) (fun f=>f),h1⟩,k.trans h2⟩
theorem og.keep {o:Ow} {w w':World} {M:Nat} {S:Nat→Prop} {rd:RD} {v:Value} (h:og o w M rd v) (k:Keep S w w') (h0:∀ b,o b=0→¬ S b):og o w' M rd v:=by
 cases rd with
 | field base f x=>obtain ⟨op,e,h1⟩:=h;exact ⟨op,e,h1.keep k h0⟩
 | cell i x=>obtain ⟨op,e,h1⟩:=h;exact ⟨op,e,h1.keep k h0⟩
theorem oh.keep {o:Ow} {w w':World} {M:Nat} {S:Nat→Prop} {rd:RD} {v:Value} (h:oh o w M rd v) (k:Keep S w w') (h0:∀ b,o b=0→¬ S b):oh o w' M rd v:=by
 cases rd with
 | field base f x=>obtain ⟨op,e,h1⟩:=h;exact ⟨op,e,h1.keep k h0⟩
 | cell i x=>obtain ⟨op,e,h1⟩:=h;exact ⟨op,e,h1.keep k h0⟩
theorem jd.keep {o:Ow} {w w':World} {M:Nat} {S:Nat→Prop} {rd:RD} {v:Value} (h:jd o w M rd v) (k:Keep S w w') (h0:∀ b,o b=0→¬ S b):jd o w' M rd v:=by
 obtain ⟨wv,h1,h2⟩:=h
 exact ⟨wv,h1.keep k h0,h2.keep k h0⟩
theorem og.ext {o o':Ow} {w:World} {M:Nat} {rd:RD} {v:Value} (h:og o w M rd v) (e:aH w o o'):og o' w M rd v:=by
 cases rd with
 | field base f x=>obtain ⟨op,e1,h1⟩:=h;exact ⟨op,e1,h1.ext e⟩
 | cell i x=>obtain ⟨op,e1,h1⟩:=h;exact ⟨op,e1,h1.ext e⟩
theorem oh.ext {o o':Ow} {w:World} {M:Nat} {rd:RD} {v:Value} (h:oh o w M rd v) (e:aH w o o'):oh o' w M rd v:=by
 cases rd with
 | field base f x=>obtain ⟨op,e1,h1⟩:=h;exact ⟨op,e1,h1.ext e⟩
 | cell i x=>obtain ⟨op,e1,h1⟩:=h;exact ⟨op,e1,h1.ext e⟩
theorem jd.ext {o o':Ow} {w:World} {M:Nat} {rd:RD} {v:Value} (h:jd o w M rd v) (e:aH w o o'):jd o' w M rd v:=by
 obtain ⟨wv,h1,h2⟩:=h
 exact ⟨wv,h1.ext e,h2.ext e⟩
theorem bH.keep {o:Ow} {w w':World} {Nt M:Nat} {S:Nat→Prop} (k:Keep S w w') (h0:∀ b,o b=0→¬ S b):∀ {d:MD} {v:Value},bH o w Nt M d v→bH o w' Nt M d v:=by
 intro d
 induction d with
 | nil=>intro v h;exact h
 | start op=>intro v h;exact Clo.keep h k h0
 | once q =>
   intro v h
   obtain ⟨dv,h1,h2⟩:=h
   refine ⟨dv,h1.keep k h0,?_⟩
   revert h2
   split
   ·rintro ⟨lv,h2,h3⟩;exact ⟨lv,h2.keep k h0,h3.keep k h0⟩
   split
   ·rintro ⟨lv,h2,h3⟩;exact ⟨lv,h2.keep k h0,h3.keep k h0⟩
   split
   ·rintro ⟨lv,h2,h3⟩;exact ⟨lv,h2.keep k h0,h3.keep k h0⟩
   split
   ·rintro ⟨lv,h2,h3⟩;exact ⟨lv,h2.keep k h0,h3.keep k h0⟩
   ·rintro ⟨lv,h2,h3⟩;exact ⟨lv,h2.keep k h0,h3.keep k h0⟩
 | note x c t ih =>
   intro v h
   obtain ⟨tv,av,h1,h2,h3⟩:=h
   exact ⟨tv,av,ih h1,h2.keep k h0,h3.keep k h0⟩
 | add x t ih=>intro v h;obtain ⟨tv,h1,h2⟩:=h;exact ⟨tv,ih h1,h2.keep k h0⟩
 | pour c t ih=>intro v h;obtain ⟨tv,h1,h2⟩:=h;exact ⟨tv,ih h1,h2.keep k h0⟩
 | dG c f t ih=>intro v h;obtain ⟨tv,h1,h2⟩:=h;exact ⟨tv,ih h1,h2.keep k h0⟩
 | raise t ih=>intro v h;obtain ⟨tv,h1,h2⟩:=h;exact ⟨tv,ih h1,h2.keep k h0⟩
 | field base f t ih=>intro v h;obtain ⟨tv,h1,h2⟩:=h;exact ⟨tv,ih h1,h2.keep k h0⟩
 | load op base=>intro v h;exact Clo.keep h k h0
 | get op=>intro v h;exact Clo.keep h k h0
 | lay x rd =>
   intro v h
   obtain ⟨rv,lv,h1,h2,h3⟩:=h
   exact ⟨rv,lv,h1.keep k h0,h2.keep k h0,h3.keep k h0⟩
 | last rd=>intro v h;exact jd.keep h k h0
 | alloc op q=>intro v h;exact Clo.keep h k h0
 | assign op q=>intro v h;exact Clo.keep h k h0
 | lS op all =>
   intro v h
   obtain ⟨h1,av,h2,h3⟩:=h
   exact ⟨h1,av,h2.keep k h0,h3.keep k h0⟩
 | claim op q=>intro v h;exact Clo.keep h k h0
 | again op q=>intro v h;exact Clo.keep h k h0
 | sweep sl c t=>intro v h;exact h.elim
 | fill op a=>intro v h;exact Clo.keep h k h0
 | zero op a i=>intro v h;exact Clo.keep h k h0
theorem bH.ext {o o':Ow} {w:World} {Nt M:Nat} (e:aH w o o'):∀ {d:MD} {v:Value},bH o w Nt M d v→bH o' w Nt M d v:=by
 intro d
 induction d with
 | nil=>intro v h;exact h
 | start op=>intro v h;exact Clo.ext h e
 | once q =>
   intro v h
   obtain ⟨dv,h1,h2⟩:=h
   refine ⟨dv,h1.ext e,?_⟩
   revert h2
   split
   ·rintro ⟨lv,h2,h3⟩;exact ⟨lv,h2.ext e,h3.ext e⟩
   split
   ·rintro ⟨lv,h2,h3⟩;exact ⟨lv,h2.ext e,h3.ext e⟩
   split
   ·rintro ⟨lv,h2,h3⟩;exact ⟨lv,h2.ext e,h3.ext e⟩
   split
   ·rintro ⟨lv,h2,h3⟩;exact ⟨lv,h2.ext e,h3.ext e⟩
   ·rintro ⟨lv,h2,h3⟩;exact ⟨lv,h2.ext e,h3.ext e⟩
 | note x c t ih =>
   intro v h
   obtain ⟨tv,av,h1,h2,h3⟩:=h
   exact ⟨tv,av,ih h1,h2.ext e,h3.ext e⟩
 | add x t ih=>intro v h;obtain ⟨tv,h1,h2⟩:=h;exact ⟨tv,ih h1,h2.ext e⟩
 | pour c t ih=>intro v h;obtain ⟨tv,h1,h2⟩:=h;exact ⟨tv,ih h1,h2.ext e⟩
 | dG c f t ih=>intro v h;obtain ⟨tv,h1,h2⟩:=h;exact ⟨tv,ih h1,h2.ext e⟩
 | raise t ih=>intro v h;obtain ⟨tv,h1,h2⟩:=h;exact ⟨tv,ih h1,h2.ext e⟩
 | field base f t ih=>intro v h;obtain ⟨tv,h1,h2⟩:=h;exact ⟨tv,ih h1,h2.ext e⟩
 | load op base=>intro v h;exact Clo.ext h e
 | get op=>intro v h;exact Clo.ext h e
 | lay x rd =>
   intro v h
   obtain ⟨rv,lv,h1,h2,h3⟩:=h
   exact ⟨rv,lv,h1.ext e,h2.ext e,h3.ext e⟩
 | last rd=>intro v h;exact jd.ext h e
 | alloc op q=>intro v h;exact Clo.ext h e
 | assign op q=>intro v h;exact Clo.ext h e
 | lS op all =>
   intro v h
   obtain ⟨h1,av,h2,h3⟩:=h
   exact ⟨h1,av,h2.ext e,h3.ext e⟩
 | claim op q=>intro v h;exact Clo.ext h e
 | again op q=>intro v h;exact Clo.ext h e
 | sweep sl c t=>intro v h;exact h.elim
 | fill op a=>intro v h;exact Clo.ext h e
 | zero op a i=>intro v h;exact Clo.ext h e
theorem Clo.form {o:Ow} {w:World} {fn:Nat} {l:List (List Value × TypeId)} {v:Value} (h:Clo o w fn l v):v = .nilFunc∨∃ (fn:Nat) (caps:Array Value),v = .func (.func fn) #[] caps:=by
 obtain ⟨bs,e,_⟩:=h
 exact .inr ⟨_,_,e⟩
theorem bH.form {o:Ow} {w:World} {Nt M:Nat} {d:MD} {v:Value} (h:bH o w Nt M d v):v = .nilFunc∨∃ (fn:Nat) (caps:Array Value),v = .func (.func fn) #[] caps:=by
 cases d with
 | nil=>exact .inl h
 | start op=>exact Clo.form h
 | once q=>obtain ⟨dv,h1,_⟩:=h;exact h1.form
 | note x c t=>obtain ⟨tv,av,_,_,h3⟩:=h;exact h3.form
 | add x t=>obtain ⟨tv,_,h3⟩:=h;exact h3.form
 | pour c t=>obtain ⟨tv,_,h3⟩:=h;exact h3.form
 | dG c f t=>obtain ⟨tv,_,h3⟩:=h;exact h3.form
 | raise t=>obtain ⟨tv,_,h3⟩:=h;exact h3.form
 | field base f t=>obtain ⟨tv,_,h3⟩:=h;exact h3.form
 | load op base=>exact Clo.form h
 | get op=>exact Clo.form h
 | lay x rd=>obtain ⟨_,_,_,_,h3⟩:=h;exact h3.form
 | last rd=>obtain ⟨_,_,h3⟩:=h;exact h3.form
 | alloc op q=>exact Clo.form h
 | assign op q=>exact Clo.form h
 | lS op all=>obtain ⟨_,_,_,h3⟩:=h;exact h3.form
 | claim op q=>exact Clo.form h
 | again op q=>exact Clo.form h
 | sweep sl c t=>exact h.elim
 | fill op a=>exact Clo.form h
 | zero op a i=>exact Clo.form h
theorem iD.form {o:Ow} {w:World} {D0:Nat} {g:Nat × Nat} {q:Nat} {d:MD} {v:Value} (h:iD o w D0 g q d v):v = .nilFunc∨∃ (fn:Nat) (caps:Array Value),v = .func (.func fn) #[] caps:=by
 cases d with
 | sweep sl c t=>obtain ⟨_,_,_,_,h3⟩:=h;exact h3.form
 | _=>exact bH.form h
section
variable {o:Ow} {w w':World} {Nt M:Nat}
theorem bH.ay {I:List Nat} {d:MD} {v:Value} (h:bH o w Nt M d v) (k:Keep (In o I) w w') (h0:I.contains 0=false):bH o w' Nt M d v:=h.keep k (fun b hb=>aU hb h0)
theorem bH.still {d:MD} {v:Value} (h:bH o w Nt M d v) (k:Keep none_ w w'):bH o w' Nt M d v:=h.keep k (fun _ _ f=>f)
theorem JD (hf:Fut o w) (v c:Nat) (t:MD) (tv:Value) (ht:bH o w Nt M t tv):Calls Tryz.prog 135 #[.pointer (some ⟨Nt,0,none⟩),.int .i64 (v:Int),.int .i64 (c:Int),tv] w fun e w'=>∃ nv,e = .returned nv∧bH o w' Nt M (iP v c t) nv∧Keep none_ w w':=by
 by_cases h0:v=0
 ·subst h0
  have hc:=fG (o:=o) [([ah Nt],104),([.int .i64 0],3),([.int .i64 (c:Int)],3),([tv],88)] w hf
  have HE:Hid (bH o (aZ w [([ah Nt],104),([.int .i64 0],3),([.int .i64 (c:Int)],3),([tv],88)]) Nt M (iP 0 c t) tv∧Keep none_ w (aZ w [([ah Nt],104),([.int .i64 0],3),([.int .i64 (c:Int)],3),([tv],88)])):=⟨ht.still hc.2,hc.2⟩
  have hform:=ht.form
  clear hc ht hf
  rcases hform with rfl|⟨fn,caps,rfl⟩
  all_goals
   go_enter Tryz.func135,Tryz.ntmps135
   go_wp2_with fail
   go_ret
   exact ⟨_,rfl,HE.out.1,HE.out.2⟩
 ·have d0:((v:Int)==0)=false:=by simp;omega
  obtain ⟨n,hn⟩:∃ n,n=w.heap.size:=⟨_,rfl⟩
  obtain ⟨av,hav⟩:∃ av:Value,av = .func (.func 171) #[] #[ah n,ah (n+1),ah (n+1+1+1)]:=⟨_,rfl⟩
  have hc:=fG (o:=o) [([ah Nt],104),([.int .i64 (v:Int)],3),([.int .i64 (c:Int)],3),([tv],88),([av],87)] w hf
  obtain ⟨W,hW⟩:∃ W,W=aZ w [([ah Nt],104),([.int .i64 (v:Int)],3),([.int .i64 (c:Int)],3),([tv],88),([av],87)]:=⟨_,rfl⟩
  rw [← hW,← hn] at hc
  have HE:Hid (bH o W Nt M (iP v c t) (.func (.func 173) #[] #[ah n,ah (n+1),ah (n+1+1),ah (n+1+1+1),ah (n+1+1+1+1)])∧Keep none_ w W):=by
   refine ⟨?_,hc.2⟩
   unfold iP
   rw [if_neg h0]
   refine ⟨tv,av,ht.still hc.2,⟨[n,n+1,n+1+1+1],hav,?_⟩,⟨_,rfl,hc.1⟩⟩
   obtain ⟨b0,r0,e0,o0,k0,hc1⟩:=hc.1
   obtain ⟨b1,r1,e1,o1,k1,hc2⟩:=hc1
   obtain ⟨b2,r2,e2,o2,k2,hc3⟩:=hc2
   obtain ⟨b3,r3,e3,o3,k3,hc4⟩:=hc3
   simp only [idxs,List.cons.injEq] at e0
   obtain ⟨rfl,rfl⟩:=e0
   simp only [List.cons.injEq] at e1
   obtain ⟨rfl,rfl⟩:=e1
   simp only [List.cons.injEq] at e2
   obtain ⟨rfl,rfl⟩:=e2
   simp only [List.cons.injEq] at e3
   obtain ⟨rfl,rfl⟩:=e3
   exact ⟨_,_,rfl,o0,k0,_,_,rfl,o1,k1,_,_,rfl,o3,k3,rfl⟩
  have hWE:W=((((w.alloc (.cells #[.pointer (some ⟨Nt,0,none⟩)] 104)).alloc (.cells #[.int .i64 (v:Int)] 3)).alloc (.cells #[.int .i64 (c:Int)] 3)).alloc (.cells #[tv] 88)).alloc (.cells #[.func (.func 171) #[] #[.pointer (some ⟨w.heap.size,0,none⟩),.pointer (some ⟨w.heap.size+1,0,none⟩),.pointer (some ⟨w.heap.size+1+1+1,0,none⟩)]] 87):=by rw [hW,hav,hn];rfl
  have HWE:=Lib.hid hWE
  have HN:=Lib.hid hn
  have hmf:∀ (fn:Fn) (first cap:Array Value) (w:World),(Instr.makeFunc fn first cap).run Tryz.prog w = .ok (.func fn first cap) w:=fun _ _ _ _=>rfl
  have hform:=ht.form
  clear hc ht hf h0 hW hWE hav hn
  rcases hform with rfl|⟨fn,caps,rfl⟩
  all_goals
   go_enter Tryz.func135,Tryz.ntmps135
   go_wp2_with fail
   go_ret
   rw [HWE.out,HN.out] at HE
   exact ⟨_,rfl,HE.out.1,HE.out.2⟩
theorem xA (hf:Fut o w) (c:Nat) (f:Bool) (t:MD) (tv:Value) (ht:bH o w Nt M t tv):Calls Tryz.prog 178 #[.pointer (some ⟨Nt,0,none⟩),.int .i64 (c:Int),.bool f,tv] w fun e w'=>∃ nv,e = .returned nv∧bH o w' Nt M (.dG c f t) nv∧Keep none_ w w':=by
 have hc:=fG (o:=o) [([ah Nt],104),([.int .i64 (c:Int)],3),([.bool f],4),([tv],88)] w hf
 have HE:Hid (bH o (aZ w [([ah Nt],104),([.int .i64 (c:Int)],3),([.bool f],4),([tv],88)]) Nt M (.dG c f t) (.func (.func 214) #[] #[ah w.heap.size,ah (w.heap.size+1),ah (w.heap.size+1+1),ah (w.heap.size+1+1+1)])∧Keep none_ w (aZ w [([ah Nt],104),([.int .i64 (c:Int)],3),([.bool f],4),([tv],88)])):=⟨⟨tv,ht.still hc.2,⟨_,rfl,hc.1⟩⟩,hc.2⟩
 have hmf:∀ (fn:Fn) (first cap:Array Value) (w:World),(Instr.makeFunc fn first cap).run Tryz.prog w = .ok (.func fn first cap) w:=fun _ _ _ _=>rfl
 have hform:=ht.form
 clear hc ht hf
 rcases hform with rfl|⟨fn,caps,rfl⟩
 all_goals
  go_enter Tryz.func178,Tryz.ntmps178
  go_wp2_with fail
  go_ret
  exact ⟨_,rfl,HE.out.1,HE.out.2⟩
end
def bg (i:Nat):List Nat:=[1,2,3,4,10+i,20+i,30+i]
def aG (o:Ow) (w:World) (G:Geo) (g:MG) (nv0:Value) (i:Nat) (r:lT) (e:Ending) (w':World):Prop :=
 ∃ o' nv,e = .returned nv∧aH w o o'∧MAt o' w' G g r.s r.m r.ev nv0∧iD o' w' (G.D 0) (g.Nt,g.M) (30+i) r.next nv∧Keep (In o (bg i)) w w'
theorem je (i:Nat):(bg i).contains 0=false:=by simp [bg];omega
section
variable {o:Ow} {w w':World} {G:Geo} {g:MG} {s:Sh} {m:MS} {ev:Option Ev} {nv0:Value}
theorem MAt.cl (h:MAt o w G g s m ev nv0):1≤m.c.l∧m.c.l≤256:=by
 have h1:=(dW h.sh.heap.table.ok).2.2.2.2.2.1
 rw [← h.conf] at h1;exact h1
theorem MAt.full (h:MAt o w G g s m ev nv0):((m.buf.length:Int)==m.c.l)=decide (m.buf.length=m.c.l.toNat):=by
 have:=h.cl
 rw [Bool.eq_iff_iff]
 simp;omega
theorem MAt.Vo (h:MAt o w G g s m ev nv0):(m.buf.length:Int)≤m.c.l:=h.qF
theorem MAt.QD (h:MAt o w G g s m ev nv0):cZ o w (G.bx m.id) 176 [] (s.box m.id)∧o (G.bx m.id)=10+m.id:=by
 have:=h.sh.box m.id (s.boxes[m.id]'h.idl) (List.getElem?_eq_getElem h.idl)
 unfold Sh.box
 rw [List.getD_eq_getElem?_getD,List.getElem?_eq_getElem h.idl]
 exact this
theorem aG.same {r:lT} {nv:Value} {w':World} {i:Nat} (h:MAt o w' G g r.s r.m r.ev nv0) (hc:bH o w' g.Nt g.M r.next nv) (k:Keep (In o (bg i)) w w'):aG o w G g nv0 i r (.returned nv) w':=⟨o,nv,rfl,aH.refl _ _,h,iD.of (g:=(g.Nt,g.M)) hc,k⟩
theorem EI (h:MAt o w G g s m ev nv0) (k:Keep (only g.Bf) w w'):Keep (In o (bg m.id)) w w':=k.mD h.oBf (by simp [bg])
theorem BJ (h:MAt o w G g s m ev nv0) (x:Nat) (t:MD) (tv:Value) (ht:bH o w g.Nt g.M t tv) (b0 b1 b2:Nat) (o0:o b0=0) (o1:o b1=0) (o2:o b2=0) (h0:Blk w b0 [ah g.Nt] 104) (h1:Blk w b1 [.int .i64 (x:Int)] 3) (h2:Blk w b2 [tv] 88) :
 Calls Tryz.prog 171 #[.pointer (some ⟨b0,0,none⟩),.pointer (some ⟨b1,0,none⟩),.pointer (some ⟨b2,0,none⟩)] w fun e w'=>e = .returned tv∧MAt o w' G g (stepM s m (.add x t)).s (stepM s m (.add x t)).m ev nv0∧bH o w' g.Nt g.M t tv∧Keep (In o (bg m.id)) w w':=by
 have c0:w.cell? ⟨b0,0,none⟩=some (.pointer (some ⟨g.Nt,0,none⟩)):=h0.cell 0 rfl
 have c1:=h1.cell 0 rfl
 have n1:w.cell? ⟨g.Nt,1,none⟩=some (.pointer (some ⟨g.Bf,0,none⟩)):=h.nt.cell 1 rfl
 have hcl:=h.cl
 have UQ:=h.qF
 have dO:Hid (Calls Tryz.prog 172 #[.pointer (some ⟨g.Bf,0,none⟩),.int .i64 (x:Int)] w.drew fun e w'=>(∃ r,e = .returned (.bool r))∧MAt o w' G g (stepM s m (.add x t)).s (stepM s m (.add x t)).m ev nv0∧bH o w' g.Nt g.M t tv∧Keep (In o (bg m.id)) w w'∧Blk w' b2 [tv] 88):=by
  have hd:=h.still (k:=(Keep.refl none_ w).drew)
  have htd:=ht.still (k:=(Keep.refl none_ w).drew)
  have hkd:Keep none_ w w.drew:=(Keep.refl none_ w).drew
  have JE:=h.full
  by_cases hf:m.buf.length=m.c.l.toNat
  ·rw [decide_eq_true hf] at JE
   refine (Jz hd.buf x JE).mono ?_
   rintro e w' ⟨rfl,k⟩
   have e1:stepM s m (.add x t)=⟨s,m,t,none⟩:=by simp only [stepM,if_pos hf]
   rw [e1]
   exact ⟨⟨_,rfl⟩,hd.still k,htd.still k,(hkd.trans k).aF,(hkd.trans k).blk h2 (fun f=>f)⟩
  ·rw [decide_eq_false hf] at JE
   refine (JA hd.buf x JE hd.sh.fut (by omega)).mono ?_
   rintro e w' ⟨rfl,hb,k⟩
   have e1:stepM s m (.add x t)=⟨s,{ m with buf:=m.buf++[x] },t,none⟩:=by simp only [stepM,if_neg hf]
   rw [e1]
   have kk:Keep (In o (bg m.id)) w w':=(hkd.aF).trans (EI hd k)
   have hlen:((m.buf++[x]).length:Int)≤m.c.l:=by
    have h9:=h.Vo
    simp only [List.length_append,List.length_cons,List.length_nil]
    omega
   exact ⟨⟨_,rfl⟩,(hd.zh k hb hlen).1,ht.ay kk (je _),kk,h2.ay kk o2 (je _)⟩
 have _:=o0
 have _:=o1
 have hform:=ht.form
 generalize (stepM s m (.add x t)).s=s' at *
 generalize (stepM s m (.add x t)).m=m' at *
 clear h ht o0 o1 o2 h0 h1 h2 hcl UQ
 rcases hform with rfl|⟨fn,caps,rfl⟩
 all_goals
  go_enter Tryz.func171,Tryz.ntmps171
  go_wp2_with fail
  refine aA 5 rfl (by kernel_rfl) (by kernel_rfl) (fun K hK=>?_)
  change wpStill _ _ (World.drew _) _ _ _
  simp only [List.take_succ_cons,List.take_zero,List.drop_succ_cons,List.drop_zero] at hK ⊢
  repeat still_step
  refine wpStill_nil ?_
  change ite _ (Oper.wp _ _ _ w.drew _ _) _
  go_simp
  refine dO.out.mono ?_
  rintro e w1 ⟨⟨r,rfl⟩,g1,g2,g3,g4⟩
  refine hK _ _ ?_
  clear hK K
  have HR:=Lib.hid (And.intro g1 (And.intro g2 g3))
  have c2:=g4.cell 0 rfl
  clear g1 g2 g3 g4 c0 c1 n1 dO
  refine wpStill_nil ?_
  go_wp2_with fail
  go_ret
  exact ⟨rfl,HR.out.1,HR.out.2.1,HR.out.2.2⟩
end
section
variable {o:Ow} {w w':World} {G:Geo} {g:MG} {s:Sh} {m:MS} {ev:Option Ev} {nv0:Value}
theorem zi (h:MAt o w G g s m ev nv0) (c:Nat) (t:MD) (tv:Value) (ht:bH o w g.Nt g.M t tv):Calls Tryz.prog 136 #[.pointer (some ⟨g.Nt,0,none⟩),.int .i64 (c:Int),tv] w fun e w'=>∃ nv,e = .returned nv∧bH o w' g.Nt g.M (m.iQ c t) nv∧Keep none_ w w':=by
 have hc:=fG (o:=o) [([ah g.Nt],104),([.int .i64 (c:Int)],3),([tv],88)] w h.sh.fut
 obtain ⟨W,hW⟩:∃ W,W=aZ w [([ah g.Nt],104),([.int .i64 (c:Int)],3),([tv],88)]:=⟨_,rfl⟩
 rw [← hW] at hc
 have HL:=Lib.hid (BH (h.still hc.2).buf)
 have n1:∀ a b c,(((w.alloc a).alloc b).alloc c).cell? ⟨g.Nt,1,none⟩=some (.pointer (some ⟨g.Bf,0,none⟩)):=fun a b c=>(h.still ((((Keep.refl none_ w).alloc a).alloc b).alloc c)).nt.cell 1 rfl
 have hWE:W=((w.alloc (.cells #[.pointer (some ⟨g.Nt,0,none⟩)] 104)).alloc (.cells #[.int .i64 (c:Int)] 3)).alloc (.cells #[tv] 88):=by rw [hW];rfl
 have HWE:=Lib.hid hWE
 clear hWE
 have hform:=ht.form
 obtain ⟨b0,r0,e0,o0,k0,hc1⟩:=hc.1
 obtain ⟨b1,r1,e1,o1,k1,hc2⟩:=hc1
 obtain ⟨b2,r2,e2,o2,k2,hc3⟩:=hc2
 simp only [idxs,List.cons.injEq] at e0
 obtain ⟨rfl,rfl⟩:=e0
 simp only [List.cons.injEq] at e1
 obtain ⟨rfl,rfl⟩:=e1
 simp only [List.cons.injEq] at e2
 obtain ⟨rfl,rfl⟩:=e2
 have c0:W.cell? ⟨w.heap.size,0,none⟩=some (.pointer (some ⟨g.Nt,0,none⟩)):=k0.cell 0 rfl
 have c2:=k2.cell 0 rfl
 have hmf:∀ (fn:Fn) (first cap:Array Value) (w:World),(Instr.makeFunc fn first cap).run Tryz.prog w = .ok (.func fn first cap) w:=fun _ _ _ _=>rfl
 by_cases hb:m.buf=[]
 ·have HE:Hid (bH o W g.Nt g.M (m.iQ c t) tv∧Keep none_ w W):=by
   refine ⟨?_,hc.2⟩
   unfold MS.iQ
   rw [if_pos hb]
   exact ht.still hc.2
  rw [hb] at HL
  clear h ht hc hW k0 k1 k2 o0 o1 o2 hb
  rcases hform with rfl|⟨fn,caps,rfl⟩
  all_goals
   go_enter Tryz.func136,Tryz.ntmps136
   go_wp2_with fail
   rw [← HWE.out]
   refine HL.out.mono ?_
   rintro e w2 ⟨rfl,rfl⟩
   go_wp2_with fail
   go_ret
   exact ⟨_,rfl,HE.out.1,HE.out.2⟩
 ·have HE:Hid (bH o W g.Nt g.M (m.iQ c t) (.func (.func 176) #[] #[ah w.heap.size,ah (w.heap.size+1+1),ah (w.heap.size+1)])∧Keep none_ w W):=by
   refine ⟨?_,hc.2⟩
   unfold MS.iQ
   rw [if_neg hb]
   exact ⟨tv,ht.still hc.2,⟨[w.heap.size,w.heap.size+1+1,w.heap.size+1],rfl,⟨_,_,rfl,o0,k0,_,_,rfl,o2,k2,_,_,rfl,o1,k1,rfl⟩⟩⟩
  have hpos:0<m.buf.length:=List.length_pos_iff.2 hb
  have d0:((m.buf.length:Int)==0)=false:=by simp;omega
  generalize m.buf.length=n at *
  clear h ht hc hW k0 k1 k2 o0 o1 o2 hb
  rcases hform with rfl|⟨fn,caps,rfl⟩
  all_goals
   go_enter Tryz.func136,Tryz.ntmps136
   go_wp2_with fail
   rw [← HWE.out]
   refine HL.out.mono ?_
   rintro e w2 ⟨rfl,rfl⟩
   go_wp2_with fail
   go_ret
   exact ⟨_,rfl,HE.out.1,HE.out.2⟩
theorem caps3 {l0 l1 l2:List Value × TypeId} {bs:List Nat} (h:Caps o w [l0,l1,l2] bs):∃ b0 b1 b2,bs=[b0,b1,b2]∧(o b0=0∧Blk w b0 l0.1 l0.2)∧(o b1=0∧Blk w b1 l1.1 l1.2)∧(o b2=0∧Blk w b2 l2.1 l2.2):=by
 obtain ⟨b0,r0,rfl,o0,k0,b1,r1,rfl,o1,k1,b2,r2,rfl,o2,k2,rfl⟩:=h
 exact ⟨b0,b1,b2,rfl,⟨o0,k0⟩,⟨o1,k1⟩,⟨o2,k2⟩⟩
theorem caps2 {l0 l1:List Value × TypeId} {bs:List Nat} (h:Caps o w [l0,l1] bs):∃ b0 b1,bs=[b0,b1]∧(o b0=0∧Blk w b0 l0.1 l0.2)∧(o b1=0∧Blk w b1 l1.1 l1.2):=by
 obtain ⟨b0,r0,rfl,o0,k0,b1,r1,rfl,o1,k1,rfl⟩:=h
 exact ⟨b0,b1,rfl,⟨o0,k0⟩,⟨o1,k1⟩⟩
theorem caps1 {l0:List Value × TypeId} {bs:List Nat} (h:Caps o w [l0] bs):∃ b0,bs=[b0]∧(o b0=0∧Blk w b0 l0.1 l0.2):=by
 obtain ⟨b0,r0,rfl,o0,k0,rfl⟩:=h
 exact ⟨b0,rfl,⟨o0,k0⟩⟩
theorem caps4 {l0 l1 l2 l3:List Value × TypeId} {bs:List Nat} (h:Caps o w [l0,l1,l2,l3] bs):∃ b0 b1 b2 b3,bs=[b0,b1,b2,b3]∧(o b0=0∧Blk w b0 l0.1 l0.2)∧(o b1=0∧Blk w b1 l1.1 l1.2)∧(o b2=0∧Blk w b2 l2.1 l2.2)∧(o b3=0∧Blk w b3 l3.1 l3.2):=by
 obtain ⟨b0,r0,rfl,o0,k0,b1,r1,rfl,o1,k1,b2,r2,rfl,o2,k2,b3,r3,rfl,o3,k3,rfl⟩:=h
 exact ⟨b0,b1,b2,b3,rfl,⟨o0,k0⟩,⟨o1,k1⟩,⟨o2,k2⟩,⟨o3,k3⟩⟩
theorem caps5 {l0 l1 l2 l3 l4:List Value × TypeId} {bs:List Nat} (h:Caps o w [l0,l1,l2,l3,l4] bs):∃ b0 b1 b2 b3 b4,bs=[b0,b1,b2,b3,b4]∧(o b0=0∧Blk w b0 l0.1 l0.2)∧(o b1=0∧Blk w b1 l1.1 l1.2)∧(o b2=0∧Blk w b2 l2.1 l2.2)∧(o b3=0∧Blk w b3 l3.1 l3.2)∧(o b4=0∧Blk w b4 l4.1 l4.2):=by
 obtain ⟨b0,r0,rfl,o0,k0,b1,r1,rfl,o1,k1,b2,r2,rfl,o2,k2,b3,r3,rfl,o3,k3,b4,r4,rfl,o4,k4,rfl⟩:=h
 exact ⟨b0,b1,b2,b3,b4,rfl,⟨o0,k0⟩,⟨o1,k1⟩,⟨o2,k2⟩,⟨o3,k3⟩,⟨o4,k4⟩⟩
theorem JF (h:MAt o w G g s m none nv0) (x c:Nat) (t:MD) (v:Value) (hv:bH o w g.Nt g.M (.note x c t) v):∃ bs:List Nat,v = .func (.func 173) #[] (bs.map ah).toArray∧Calls Tryz.prog 173 (bs.map ah).toArray w (aG o w G g nv0 m.id (stepM s m (.note x c t))):=by
 obtain ⟨tv,av,ht,ha,bs,hbs,hcap⟩:=hv
 refine ⟨bs,hbs,?_⟩
 obtain ⟨b0,b1,b2,b3,b4,rfl,⟨o0,k0⟩,⟨o1,k1⟩,⟨o2,k2⟩,⟨o3,k3⟩,⟨o4,k4⟩⟩:=caps5 hcap
 obtain ⟨al,rfl,hca⟩:=ha
 obtain ⟨a0,a1,a2,rfl,⟨p0,q0⟩,⟨p1,q1⟩,⟨p2,q2⟩⟩:=caps3 hca
 have c0:w.cell? ⟨b0,0,none⟩=some (.pointer (some ⟨g.Nt,0,none⟩)):=k0.cell 0 rfl
 have c1:=k1.cell 0 rfl
 have c2:=k2.cell 0 rfl
 have c3:=k3.cell 0 rfl
 have n0:w.cell? ⟨g.Nt,0,none⟩=some (.pointer (some ⟨G.D 0,0,none⟩)):=h.nt.cell 0 rfl
 have HC:Hid (∀ W,Keep none_ w W→Calls Tryz.prog 28 #[.pointer (some ⟨G.D 0,0,none⟩),.int .i64 (x:Int)] W fun e w'=>e = .returned (.tuple #[.int .i64 ((if s.H.bn x then s.H.dA x else 0:Nat):Int),.int .i64 (if s.H.bn x then 0 else 1)])∧W=w'):=fun W hW=>pK (h.sh.heap.still hW) x
 have hform:=ht.form
 show Calls Tryz.prog 173 #[.pointer (some ⟨b0,0,none⟩),.pointer (some ⟨b1,0,none⟩),.pointer (some ⟨b2,0,none⟩),.pointer (some ⟨b3,0,none⟩),.pointer (some ⟨b4,0,none⟩)] w _
 obtain ⟨n,hn⟩:∃ n,n=w:=⟨_,rfl⟩
 clear hn n
 cases hb:s.H.bn x with
 | false =>
   have HE:Hid (∀ W,Keep none_ w W→aG o w G g nv0 m.id (stepM s m (.note x c t)) (.returned tv) W):=fun W hW=>by
    have e1:stepM s m (.note x c t)=⟨s,m,t,none⟩:=by simp only [stepM,hb];rfl
    rw [e1]
    exact aG.same (h.still hW) (ht.still hW) hW.aF
   simp only [hb,Bool.false_eq_true,if_false] at HC
   clear h ht hcap hca k0 k1 k2 k3 k4 q0 q1 q2 o0 o1 o2 o3 o4 p0 p1 p2 hbs hb
   rcases hform with rfl|⟨fn,caps,rfl⟩
   all_goals
    go_enter Tryz.func173,Tryz.ntmps173
    go_wp2_with fail
    go_quiet (first|(go_at_call 28;exact Calls.quiet_of_same (dK (HC.out _ ((Keep.refl none_ w).drewN _)))))
    have HK:Hid (Keep none_ w (w.drewN nq)):=(Keep.refl _ _).drewN _
    go_wp2_with fail
    go_ret
    exact HE.out _ HK.out
 | true =>
   simp only [hb,if_true] at HC
   by_cases gU:s.H.dA x=c
   ·have HE:Hid (∀ W,Keep none_ w W→aG o w G g nv0 m.id (stepM s m (.note x c t)) (.returned tv) W):=fun W hW=>by
     have e1:stepM s m (.note x c t)=⟨s,m,t,none⟩:=by simp only [stepM,hb,gU];simp
     rw [e1]
     exact aG.same (h.still hW) (ht.still hW) hW.aF
    rw [gU] at HC
    clear h ht hcap hca k0 k1 k2 k3 k4 q0 q1 q2 o0 o1 o2 o3 o4 p0 p1 p2 hbs hb gU
    rcases hform with rfl|⟨fn,caps,rfl⟩
    all_goals
     go_enter Tryz.func173,Tryz.ntmps173
     go_wp2_with fail
     go_quiet (first|(go_at_call 28;exact Calls.quiet_of_same (dK (HC.out _ ((Keep.refl none_ w).drewN _)))))
     have HK:Hid (Keep none_ w (w.drewN nq)):=(Keep.refl _ _).drewN _
     go_wp2_with fail
     go_ret
     exact HE.out _ HK.out
   ·have d1:((s.H.dA x:Int)==(c:Int))=false:=int_ne gU
    have HN1:Hid (∀ W,Keep none_ w W→W.cell? ⟨g.Nt,1,none⟩=some (.pointer (some ⟨g.Bf,0,none⟩))):=fun W hW=>(h.still hW).nt.cell 1 rfl
    have HF:Hid (∀ W,Keep none_ w W→Calls Tryz.prog 174 #[.pointer (some ⟨g.Bf,0,none⟩)] W fun e w'=>e = .returned (.bool (decide (m.buf.length=m.c.l.toNat)))∧Keep none_ W w'):=fun W hW=>by
     have h9:=tJ (h.still hW).buf
     rw [h.full] at h9;exact h9
    have HC4:Hid (∀ W,Keep none_ w W→W.cell? ⟨b4,0,none⟩=some (.func (.func 171) #[] #[.pointer (some ⟨a0,0,none⟩),.pointer (some ⟨a1,0,none⟩),.pointer (some ⟨a2,0,none⟩)])):=fun W hW=>(hW.blk k4 (fun f=>f)).cell 0 rfl
    by_cases hf:m.buf.length=m.c.l.toNat
    ·have HP:Hid (∀ W,Keep none_ w W→Calls Tryz.prog 136 #[.pointer (some ⟨g.Nt,0,none⟩),.int .i64 (c:Int),.func (.func 171) #[] #[.pointer (some ⟨a0,0,none⟩),.pointer (some ⟨a1,0,none⟩),.pointer (some ⟨a2,0,none⟩)]] W (aG o w G g nv0 m.id (stepM s m (.note x c t)))):=fun W hW=>by
      have hav:bH o W g.Nt g.M (.add x t) (.func (.func 171) #[] #[.pointer (some ⟨a0,0,none⟩),.pointer (some ⟨a1,0,none⟩),.pointer (some ⟨a2,0,none⟩)]) :=
       bH.still (d := .add x t) ⟨tv,ht,⟨[a0,a1,a2],rfl,hca⟩⟩ hW
      refine (zi (h.still hW) c (.add x t) _ hav).mono ?_
      rintro e w' ⟨nv,rfl,hm,hk⟩
      have e1:stepM s m (.note x c t)=⟨s,m,m.iQ c (.add x t),none⟩:=by
       simp only [stepM,hb]
       rw [if_neg (by simpa using gU),if_pos hf]
      rw [e1]
      exact aG.same ((h.still hW).still hk) hm (hW.trans hk).aF
     rw [decide_eq_true hf] at HF
     have H0:Hid (∀ W,Keep none_ w W→W.cell? ⟨b0,0,none⟩=some (.pointer (some ⟨g.Nt,0,none⟩))∧W.cell? ⟨b2,0,none⟩=some (.int .i64 (c:Int))):=fun W hW=>⟨(hW.blk k0 (fun f=>f)).cell 0 rfl,(hW.blk k2 (fun f=>f)).cell 0 rfl⟩
     generalize s.H.dA x=col at *
     generalize stepM s m (.note x c t)=R at *
     clear h ht hcap hca k0 k1 k2 k3 k4 q0 q1 q2 o0 o1 o2 o3 o4 p0 p1 p2 hbs hb gU hf hform
     go_enter Tryz.func173,Tryz.ntmps173
     go_wp2_with fail
     go_quiet (first|(go_at_call 28;exact Calls.quiet_of_same (dK (HC.out _ ((Keep.refl none_ w).drewN _)))))
     obtain ⟨W1,hW1⟩:∃ W1,W1=w.drewN nq:=⟨_,rfl⟩
     rw [← hW1]
     have HK1:Hid (Keep none_ w W1):=by rw [hW1];exact (Keep.refl _ _).drewN _
     clear hW1 c0 c1 c2 c3 n0
     have c0:=(H0.out _ HK1.out).1
     have c2:=(H0.out _ HK1.out).2
     have z1:=HN1.out _ HK1.out
     have HF1:=Lib.hid (HF.out _ HK1.out)
     go_wp2_with fail
     refine HF1.out.mono ?_
     rintro e w2 ⟨rfl,hk2⟩
     have HK2:=Lib.hid (HK1.out.trans hk2)
     clear hk2 c0 c2 z1
     have c0:=(H0.out _ HK2.out).1
     have c2:=(H0.out _ HK2.out).2
     have c4:=HC4.out _ HK2.out
     go_wp2_with fail
     refine (HP.out _ HK2.out).mono ?_
     rintro e w3 hp
     obtain ⟨o',nv,rfl,hp⟩:=hp
     have HPP:Hid (aG o w G g nv0 m.id R (.returned nv) w3):=⟨o',nv,rfl,hp⟩
     have hfm:=hp.2.2.1.form
     clear hp c0 c2 c4
     rcases hfm with rfl|⟨fn,caps,rfl⟩
     all_goals
      go_wp2_with fail
      go_ret
      exact HPP.out
    ·have HA:Hid (∀ W,Keep none_ w W→Calls Tryz.prog 171 #[.pointer (some ⟨a0,0,none⟩),.pointer (some ⟨a1,0,none⟩),.pointer (some ⟨a2,0,none⟩)] W fun e w'=>e = .returned tv∧aG o w G g nv0 m.id (stepM s m (.note x c t)) (.returned tv) w'):=fun W hW=>by
      refine (BJ (h.still hW) x t tv (ht.still hW) a0 a1 a2 p0 p1 p2 (hW.blk q0 (fun f=>f)) (hW.blk q1 (fun f=>f)) (hW.blk q2 (fun f=>f))).mono ?_
      rintro e w' ⟨rfl,g1,g2,g3⟩
      have e1:stepM s m (.note x c t)=⟨s,{ m with buf:=m.buf++[x] },t,none⟩:=by
       simp only [stepM,hb]
       rw [if_neg (by simpa using gU),if_neg hf]
      have e2:stepM s m (.add x t)=⟨s,{ m with buf:=m.buf++[x] },t,none⟩:=by simp only [stepM,if_neg hf]
      rw [e2] at g1
      rw [e1]
      exact ⟨rfl,aG.same g1 g2 (hW.aF.trans g3)⟩
     rw [decide_eq_false hf] at HF
     have H0:Hid (∀ W,Keep none_ w W→W.cell? ⟨b0,0,none⟩=some (.pointer (some ⟨g.Nt,0,none⟩))∧W.cell? ⟨b2,0,none⟩=some (.int .i64 (c:Int))):=fun W hW=>⟨(hW.blk k0 (fun f=>f)).cell 0 rfl,(hW.blk k2 (fun f=>f)).cell 0 rfl⟩
     generalize s.H.dA x=col at *
     generalize stepM s m (.note x c t)=R at *
     clear h ht hcap hca k0 k1 k2 k3 k4 q0 q1 q2 o0 o1 o2 o3 o4 p0 p1 p2 hbs hb gU hf
     rcases hform with rfl|⟨fn,caps,rfl⟩
     all_goals
      go_enter Tryz.func173,Tryz.ntmps173
      go_wp2_with fail
      go_quiet (first|(go_at_call 28;exact Calls.quiet_of_same (dK (HC.out _ ((Keep.refl none_ w).drewN _)))))
      obtain ⟨W1,hW1⟩:∃ W1,W1=w.drewN nq:=⟨_,rfl⟩
      rw [← hW1]
      have HK1:Hid (Keep none_ w W1):=by rw [hW1];exact (Keep.refl _ _).drewN _
      clear hW1 c0 c1 c2 c3 n0
      have c0:=(H0.out _ HK1.out).1
      have c2:=(H0.out _ HK1.out).2
      have z1:=HN1.out _ HK1.out
      have HF1:=Lib.hid (HF.out _ HK1.out)
      go_wp2_with fail
      refine HF1.out.mono ?_
      rintro e w2 ⟨rfl,hk2⟩
      have HK2:=Lib.hid (HK1.out.trans hk2)
      clear hk2 c0 c2 z1
      have c4:=HC4.out _ HK2.out
      go_wp2_with fail
      refine (HA.out _ HK2.out).mono ?_
      rintro e w3 ⟨rfl,hp⟩
      have HPP:=Lib.hid hp
      clear hp c4
      go_wp2_with fail
      go_ret
      exact HPP.out
end
end
end Go.Proofs.YtanfphjoebobaaaGreatDoor
