/- Parts of a walk, put together and made shorter by a program of mine. No conditions. -/
import Derived.Test.YtanfphjoebobaaaGreatDoorZzca
import Derived.Deep.LoopGhost
import Derived.IntWalk
import Derived.Deep.QuietTactic
import Derived.BigQuiet
import Derived.Deep.RegionHeld3
namespace Go.Proofs.YtanfphjoebobaaaGreatDoor
set_option maxRecDepth 4000
set_option maxHeartbeats 4000000
section
open Go.RowKit Go.Sort
def uQ (B:Nat):List Value:=[.pointer (some ⟨B,0,none⟩),.pointer (some ⟨B,1,none⟩),.pointer (some ⟨B,2,none⟩),.pointer (some ⟨B,3,none⟩),.pointer (some ⟨B,4,none⟩),.pointer (some ⟨B,5,none⟩),.pointer (some ⟨B,6,none⟩)]
theorem Gm (B:Nat) (w:World):Calls Tryz.prog 236 #[.pointer (some ⟨B,0,none⟩)] w fun e w'=>e = .returned (.agg (uQ B).toArray)∧Keep none_ w w':=by
 obtain ⟨W0,hW0⟩:∃ W',W'=w.alloc (.cells #[.pointer none,.pointer none,.pointer none,.pointer none,.pointer none,.pointer none,.pointer none] 247):=⟨_,rfl⟩
 have HB:Hid (Blk W0 w.heap.size [.pointer none,.pointer none,.pointer none,.pointer none,.pointer none,.pointer none,.pointer none] 247):=by rw [hW0];exact Blk.new w _ _
 have HK:Hid (Keep none_ w W0):=by rw [hW0];exact (Keep.refl _ _).alloc _
 go_enter Tryz.func236,Tryz.ntmps236
 go_wp2_with fail
 rw [← hW0]
 clear hW0
 refine wp_region_still_tail 22 (by kernel_rfl) (by kernel_rfl) ?_
 change wpStill _ _ (World.drew _) _ _ _
 simp only [List.take_succ_cons,List.take_zero,List.drop_succ_cons,List.drop_zero]
 repeat still_step
 refine wpStill_nil ?_
 change wpList _ _ _ _ _ W0.drew
 have z0:=HB.out.free 0;have z1:=HB.out.free 1;have z2:=HB.out.free 2;have z3:=HB.out.free 3;have z4:=HB.out.free 4;have z5:=HB.out.free 5;have z6:=HB.out.free 6
 have y0:=HB.out.cell 0 rfl;have y1:=HB.out.cell 1 rfl;have y2:=HB.out.cell 2 rfl;have y3:=HB.out.cell 3 rfl;have y4:=HB.out.cell 4 rfl;have y5:=HB.out.cell 5 rfl;have y6:=HB.out.cell 6 rfl
 go_wp2_with fail
 have hB:=((((((HB.out.set 0 (.pointer (some ⟨B,0,none⟩))).set 1 (.pointer (some ⟨B,1,none⟩))).set 2 (.pointer (some ⟨B,2,none⟩))).set 3 (.pointer (some ⟨B,3,none⟩))).set 4 (.pointer (some ⟨B,4,none⟩))).set 5 (.pointer (some ⟨B,5,none⟩))).set 6 (.pointer (some ⟨B,6,none⟩))
 have hk:=((((((HK.out.dJ (B:=w.heap.size) (Nat.le_refl _) 0 (.pointer (some ⟨B,0,none⟩))).dJ (B:=w.heap.size) (Nat.le_refl _) 1 (.pointer (some ⟨B,1,none⟩))).dJ (B:=w.heap.size) (Nat.le_refl _) 2 (.pointer (some ⟨B,2,none⟩))).dJ (B:=w.heap.size) (Nat.le_refl _) 3 (.pointer (some ⟨B,3,none⟩))).dJ (B:=w.heap.size) (Nat.le_refl _) 4 (.pointer (some ⟨B,4,none⟩))).dJ (B:=w.heap.size) (Nat.le_refl _) 5 (.pointer (some ⟨B,5,none⟩))).dJ (B:=w.heap.size) (Nat.le_refl _) 6 (.pointer (some ⟨B,6,none⟩))
 have k0:=hB.cell 0 rfl;have k1:=hB.cell 1 rfl;have k2:=hB.cell 2 rfl;have k3:=hB.cell 3 rfl;have k4:=hB.cell 4 rfl;have k5:=hB.cell 5 rfl;have k6:=hB.cell 6 rfl
 exact bodyPost_ret (by simp [results,uQ,Tryz.f236,go_sem,k0,k1,k2,k3,k4,k5,k6]) rfl ⟨rfl,hk.drew⟩
def near (lo hi x:Int):Int:=max lo (min hi x)
def aB.clamp (c:aB):aB:=⟨near 1 4096 c.b,near 16 256 c.w,near 1 8 c.m,near 1 64 c.r,near 0 64 c.c,near 1 256 c.l,near 1 4096 c.s⟩
def aB.ok (c:aB):Bool:=decide (1≤c.b∧c.b≤4096)&&decide (16≤c.w∧c.w≤256)&&decide (1≤c.m∧c.m≤8)&&decide (1≤c.r∧c.r≤64)&&decide (0≤c.c∧c.c≤64)&&decide (1≤c.l∧c.l≤256)&&decide (1≤c.s∧c.s≤4096)
def aB.part (c:aB) (k:Nat):List Value:=c.clamp.cells.take k++c.cells.drop k
theorem Lr (c:aB) (w:World) (hT:Tabs w):Calls Tryz.prog 200 #[.agg c.cells.toArray] w fun e w'=>e = .returned (.agg c.clamp.cells.toArray)∧Keep none_ w w':=by
 obtain ⟨b,ww,m,r,cc,l,s⟩:=c
 have HT:=Lib.hid hT
 clear hT
 obtain ⟨W0,hW0⟩:∃ W',W'=(w.alloc (.cells #[.int .i64 b,.int .i64 ww,.int .i64 m,.int .i64 r,.int .i64 cc,.int .i64 l,.int .i64 s] 23)).alloc (.cells #[.int .i64 0,.int .i64 0,.int .i64 0,.int .i64 0,.int .i64 0,.int .i64 0,.int .i64 0] 23):=⟨_,rfl⟩
 have HA:Hid (Blk W0 w.heap.size (aB.part ⟨b,ww,m,r,cc,l,s⟩ 0) 23):=by rw [hW0];exact (Blk.new w _ _).alloc _
 have HB:Hid (Blk W0 (w.heap.size+1) [.int .i64 0,.int .i64 0,.int .i64 0,.int .i64 0,.int .i64 0,.int .i64 0,.int .i64 0] 23):=by rw [hW0];have h:=Blk.new (w.alloc (.cells #[.int .i64 b,.int .i64 ww,.int .i64 m,.int .i64 r,.int .i64 cc,.int .i64 l,.int .i64 s] 23)) [.int .i64 0,.int .i64 0,.int .i64 0,.int .i64 0,.int .i64 0,.int .i64 0,.int .i64 0] 23;simp only [World.size_alloc] at h;exact h
 have HK:Hid (Keep none_ w W0):=by rw [hW0];exact ((Keep.refl _ _).alloc _).alloc _
 simp only [aB.cells]
 go_enter Tryz.func200,Tryz.ntmps200
 go_wp2_with fail
 rw [← hW0]
 clear hW0
 refine (Gm _ _).mono ?_
 rintro e w1 ⟨rfl,hk1⟩
 have HA1:=Lib.hid (hk1.blk HA.out (fun f=>f))
 have HB1:=Lib.hid (hk1.blk HB.out (fun f=>f))
 have HK1:=Lib.hid (HK.out.trans hk1)
 clear hk1 HA HB HK
 simp only [uQ]
 go_wp2_with fail
 go_loopg [3,4,6] 7 (fun g x y i wr=>∃ k:Nat,g+k=7∧i = .int .i64 k∧Hid (Blk wr w.heap.size (aB.part ⟨b,ww,m,r,cc,l,s⟩ k) 23)∧Hid (Blk wr (w.heap.size+1) [.int .i64 0,.int .i64 0,.int .i64 0,.int .i64 0,.int .i64 0,.int .i64 0,.int .i64 0] 23)∧Hid (Keep none_ w wr))
 case atStart=>exact ⟨0,rfl,rfl,HA1,HB1,HK1⟩
 case round =>
  obtain ⟨k,hg,rfl,HA2,HB2,HK2⟩:=hrel
  clear HA1 HB1 HK1
  have e:k=0∨k=1∨k=2∨k=3∨k=4∨k=5∨k=6∨k=7:=by omega
  rcases e with rfl|rfl|rfl|rfl|rfl|rfl|rfl|rfl
  ·have hix:∀ w':World,(Instr.index 247 (.agg (#[.pointer (some ⟨w.heap.size,0,none⟩),.pointer (some ⟨w.heap.size,1,none⟩),.pointer (some ⟨w.heap.size,2,none⟩),.pointer (some ⟨w.heap.size,3,none⟩),.pointer (some ⟨w.heap.size,4,none⟩),.pointer (some ⟨w.heap.size,5,none⟩),.pointer (some ⟨w.heap.size,6,none⟩)])) (.int .i64 0)).run Tryz.prog w' = .ok (.pointer (some ⟨w.heap.size,0,none⟩)) w':=fun w'=>by kernel_rfl
   simp only [show (((0:Nat):Int))=0 from rfl]
   have d:=HA2.out.cell 0 (v := .int .i64 b) rfl
   have z:=HA2.out.free 0
   have m0:=(HT.out.keep HK2.out).lim 0 _ rfl
   have m1:=(HT.out.keep HK2.out).lim 1 _ rfl
   have HN:Hid (Blk ((wr.setCell ⟨w.heap.size,0,none⟩ (.int .i64 (near 1 4096 b))).drew) w.heap.size (aB.part ⟨b,ww,m,r,cc,l,s⟩ 1) 23):=(HA2.out.set 0 (.int .i64 (near 1 4096 b))).drew
   have HBN:Hid (Blk ((wr.setCell ⟨w.heap.size,0,none⟩ (.int .i64 (near 1 4096 b))).drew) (w.heap.size+1) [.int .i64 0,.int .i64 0,.int .i64 0,.int .i64 0,.int .i64 0,.int .i64 0,.int .i64 0] 23):=(HB2.out.other (a:=⟨w.heap.size,0,none⟩) (by simp) _).drew
   have HKN:Hid (Keep none_ w ((wr.setCell ⟨w.heap.size,0,none⟩ (.int .i64 (near 1 4096 b))).drew)):=(HK2.out.dJ (Nat.le_refl _) _ _).drew
   go_wp2_with fail
   refine wp_region_still_tail 15 (by kernel_rfl) (by kernel_rfl) ?_
   change wpStill _ _ (World.drew _) _ _ _
   simp only [List.take_succ_cons,List.take_zero,List.drop_succ_cons,List.drop_zero]
   repeat still_step
   refine wpStill_nil ?_
   change wpList _ _ _ _ _ wr.drew
   go_wp2_with fail
   all_goals first
    | (have hv:near 1 4096 b=b:=by unfold near;omega
       rw [hv] at HN HBN HKN
       go_roundg (gk - 1)
       case measure=>omega
       case rel=>exact ⟨1,by omega,rfl,HN,HBN,HKN⟩)
    | (have hv:near 1 4096 b=1:=by unfold near;omega
       rw [hv] at HN HBN HKN
       go_roundg (gk - 1)
       case measure=>omega
       case rel=>exact ⟨1,by omega,rfl,HN,HBN,HKN⟩)
    | (have hv:near 1 4096 b=4096:=by unfold near;omega
       rw [hv] at HN HBN HKN
       go_roundg (gk - 1)
       case measure=>omega
       case rel=>exact ⟨1,by omega,rfl,HN,HBN,HKN⟩)
  ·have hix:∀ w':World,(Instr.index 247 (.agg (#[.pointer (some ⟨w.heap.size,0,none⟩),.pointer (some ⟨w.heap.size,1,none⟩),.pointer (some ⟨w.heap.size,2,none⟩),.pointer (some ⟨w.heap.size,3,none⟩),.pointer (some ⟨w.heap.size,4,none⟩),.pointer (some ⟨w.heap.size,5,none⟩),.pointer (some ⟨w.heap.size,6,none⟩)])) (.int .i64 1)).run Tryz.prog w' = .ok (.pointer (some ⟨w.heap.size,1,none⟩)) w':=fun w'=>by kernel_rfl
   simp only [show (((1:Nat):Int))=1 from rfl]
   have d:=HA2.out.cell 1 (v := .int .i64 ww) rfl
   have z:=HA2.out.free 1
   have m0:=(HT.out.keep HK2.out).lim 2 _ rfl
   have m1:=(HT.out.keep HK2.out).lim 3 _ rfl
   have HN:Hid (Blk ((wr.setCell ⟨w.heap.size,1,none⟩ (.int .i64 (near 16 256 ww))).drew) w.heap.size (aB.part ⟨b,ww,m,r,cc,l,s⟩ 2) 23):=(HA2.out.set 1 (.int .i64 (near 16 256 ww))).drew
   have HBN:Hid (Blk ((wr.setCell ⟨w.heap.size,1,none⟩ (.int .i64 (near 16 256 ww))).drew) (w.heap.size+1) [.int .i64 0,.int .i64 0,.int .i64 0,.int .i64 0,.int .i64 0,.int .i64 0,.int .i64 0] 23):=(HB2.out.other (a:=⟨w.heap.size,1,none⟩) (by simp) _).drew
   have HKN:Hid (Keep none_ w ((wr.setCell ⟨w.heap.size,1,none⟩ (.int .i64 (near 16 256 ww))).drew)):=(HK2.out.dJ (Nat.le_refl _) _ _).drew
   go_wp2_with fail
   refine wp_region_still_tail 15 (by kernel_rfl) (by kernel_rfl) ?_
   change wpStill _ _ (World.drew _) _ _ _
   simp only [List.take_succ_cons,List.take_zero,List.drop_succ_cons,List.drop_zero]
   repeat still_step
   refine wpStill_nil ?_
   change wpList _ _ _ _ _ wr.drew
   go_wp2_with fail
   all_goals first
    | (have hv:near 16 256 ww=ww:=by unfold near;omega
       rw [hv] at HN HBN HKN
       go_roundg (gk - 1)
       case measure=>omega
       case rel=>exact ⟨2,by omega,rfl,HN,HBN,HKN⟩)
    | (have hv:near 16 256 ww=16:=by unfold near;omega
       rw [hv] at HN HBN HKN
       go_roundg (gk - 1)
       case measure=>omega
       case rel=>exact ⟨2,by omega,rfl,HN,HBN,HKN⟩)
    | (have hv:near 16 256 ww=256:=by unfold near;omega
       rw [hv] at HN HBN HKN
       go_roundg (gk - 1)
       case measure=>omega
       case rel=>exact ⟨2,by omega,rfl,HN,HBN,HKN⟩)
  ·have hix:∀ w':World,(Instr.index 247 (.agg (#[.pointer (some ⟨w.heap.size,0,none⟩),.pointer (some ⟨w.heap.size,1,none⟩),.pointer (some ⟨w.heap.size,2,none⟩),.pointer (some ⟨w.heap.size,3,none⟩),.pointer (some ⟨w.heap.size,4,none⟩),.pointer (some ⟨w.heap.size,5,none⟩),.pointer (some ⟨w.heap.size,6,none⟩)])) (.int .i64 2)).run Tryz.prog w' = .ok (.pointer (some ⟨w.heap.size,2,none⟩)) w':=fun w'=>by kernel_rfl
   simp only [show (((2:Nat):Int))=2 from rfl]
   have d:=HA2.out.cell 2 (v := .int .i64 m) rfl
   have z:=HA2.out.free 2
   have m0:=(HT.out.keep HK2.out).lim 4 _ rfl
   have m1:=(HT.out.keep HK2.out).lim 5 _ rfl
   have HN:Hid (Blk ((wr.setCell ⟨w.heap.size,2,none⟩ (.int .i64 (near 1 8 m))).drew) w.heap.size (aB.part ⟨b,ww,m,r,cc,l,s⟩ 3) 23):=(HA2.out.set 2 (.int .i64 (near 1 8 m))).drew
   have HBN:Hid (Blk ((wr.setCell ⟨w.heap.size,2,none⟩ (.int .i64 (near 1 8 m))).drew) (w.heap.size+1) [.int .i64 0,.int .i64 0,.int .i64 0,.int .i64 0,.int .i64 0,.int .i64 0,.int .i64 0] 23):=(HB2.out.other (a:=⟨w.heap.size,2,none⟩) (by simp) _).drew
   have HKN:Hid (Keep none_ w ((wr.setCell ⟨w.heap.size,2,none⟩ (.int .i64 (near 1 8 m))).drew)):=(HK2.out.dJ (Nat.le_refl _) _ _).drew
   go_wp2_with fail
   refine wp_region_still_tail 15 (by kernel_rfl) (by kernel_rfl) ?_
   change wpStill _ _ (World.drew _) _ _ _
   simp only [List.take_succ_cons,List.take_zero,List.drop_succ_cons,List.drop_zero]
   repeat still_step
   refine wpStill_nil ?_
   change wpList _ _ _ _ _ wr.drew
   go_wp2_with fail
   all_goals first
    | (have hv:near 1 8 m=m:=by unfold near;omega
       rw [hv] at HN HBN HKN
       go_roundg (gk - 1)
       case measure=>omega
       case rel=>exact ⟨3,by omega,rfl,HN,HBN,HKN⟩)
    | (have hv:near 1 8 m=1:=by unfold near;omega
       rw [hv] at HN HBN HKN
       go_roundg (gk - 1)
       case measure=>omega
       case rel=>exact ⟨3,by omega,rfl,HN,HBN,HKN⟩)
    | (have hv:near 1 8 m=8:=by unfold near;omega
       rw [hv] at HN HBN HKN
       go_roundg (gk - 1)
       case measure=>omega
       case rel=>exact ⟨3,by omega,rfl,HN,HBN,HKN⟩)
  ·have hix:∀ w':World,(Instr.index 247 (.agg (#[.pointer (some ⟨w.heap.size,0,none⟩),.pointer (some ⟨w.heap.size,1,none⟩),.pointer (some ⟨w.heap.size,2,none⟩),.pointer (some ⟨w.heap.size,3,none⟩),.pointer (some ⟨w.heap.size,4,none⟩),.pointer (some ⟨w.heap.size,5,none⟩),.pointer (some ⟨w.heap.size,6,none⟩)])) (.int .i64 3)).run Tryz.prog w' = .ok (.pointer (some ⟨w.heap.size,3,none⟩)) w':=fun w'=>by kernel_rfl
   simp only [show (((3:Nat):Int))=3 from rfl]
   have d:=HA2.out.cell 3 (v := .int .i64 r) rfl
   have z:=HA2.out.free 3
   have m0:=(HT.out.keep HK2.out).lim 6 _ rfl
   have m1:=(HT.out.keep HK2.out).lim 7 _ rfl
   have HN:Hid (Blk ((wr.setCell ⟨w.heap.size,3,none⟩ (.int .i64 (near 1 64 r))).drew) w.heap.size (aB.part ⟨b,ww,m,r,cc,l,s⟩ 4) 23):=(HA2.out.set 3 (.int .i64 (near 1 64 r))).drew
   have HBN:Hid (Blk ((wr.setCell ⟨w.heap.size,3,none⟩ (.int .i64 (near 1 64 r))).drew) (w.heap.size+1) [.int .i64 0,.int .i64 0,.int .i64 0,.int .i64 0,.int .i64 0,.int .i64 0,.int .i64 0] 23):=(HB2.out.other (a:=⟨w.heap.size,3,none⟩) (by simp) _).drew
   have HKN:Hid (Keep none_ w ((wr.setCell ⟨w.heap.size,3,none⟩ (.int .i64 (near 1 64 r))).drew)):=(HK2.out.dJ (Nat.le_refl _) _ _).drew
   go_wp2_with fail
   refine wp_region_still_tail 15 (by kernel_rfl) (by kernel_rfl) ?_
   change wpStill _ _ (World.drew _) _ _ _
   simp only [List.take_succ_cons,List.take_zero,List.drop_succ_cons,List.drop_zero]
   repeat still_step
   refine wpStill_nil ?_
   change wpList _ _ _ _ _ wr.drew
   go_wp2_with fail
   all_goals first
    | (have hv:near 1 64 r=r:=by unfold near;omega
       rw [hv] at HN HBN HKN
       go_roundg (gk - 1)
       case measure=>omega
       case rel=>exact ⟨4,by omega,rfl,HN,HBN,HKN⟩)
    | (have hv:near 1 64 r=1:=by unfold near;omega
       rw [hv] at HN HBN HKN
       go_roundg (gk - 1)
       case measure=>omega
       case rel=>exact ⟨4,by omega,rfl,HN,HBN,HKN⟩)
    | (have hv:near 1 64 r=64:=by unfold near;omega
       rw [hv] at HN HBN HKN
       go_roundg (gk - 1)
       case measure=>omega
       case rel=>exact ⟨4,by omega,rfl,HN,HBN,HKN⟩)
  ·have hix:∀ w':World,(Instr.index 247 (.agg (#[.pointer (some ⟨w.heap.size,0,none⟩),.pointer (some ⟨w.heap.size,1,none⟩),.pointer (some ⟨w.heap.size,2,none⟩),.pointer (some ⟨w.heap.size,3,none⟩),.pointer (some ⟨w.heap.size,4,none⟩),.pointer (some ⟨w.heap.size,5,none⟩),.pointer (some ⟨w.heap.size,6,none⟩)])) (.int .i64 4)).run Tryz.prog w' = .ok (.pointer (some ⟨w.heap.size,4,none⟩)) w':=fun w'=>by kernel_rfl
   simp only [show (((4:Nat):Int))=4 from rfl]
   have d:=HA2.out.cell 4 (v := .int .i64 cc) rfl
   have z:=HA2.out.free 4
   have m0:=(HT.out.keep HK2.out).lim 8 _ rfl
   have m1:=(HT.out.keep HK2.out).lim 9 _ rfl
   have HN:Hid (Blk ((wr.setCell ⟨w.heap.size,4,none⟩ (.int .i64 (near 0 64 cc))).drew) w.heap.size (aB.part ⟨b,ww,m,r,cc,l,s⟩ 5) 23):=(HA2.out.set 4 (.int .i64 (near 0 64 cc))).drew
   have HBN:Hid (Blk ((wr.setCell ⟨w.heap.size,4,none⟩ (.int .i64 (near 0 64 cc))).drew) (w.heap.size+1) [.int .i64 0,.int .i64 0,.int .i64 0,.int .i64 0,.int .i64 0,.int .i64 0,.int .i64 0] 23):=(HB2.out.other (a:=⟨w.heap.size,4,none⟩) (by simp) _).drew
   have HKN:Hid (Keep none_ w ((wr.setCell ⟨w.heap.size,4,none⟩ (.int .i64 (near 0 64 cc))).drew)):=(HK2.out.dJ (Nat.le_refl _) _ _).drew
   go_wp2_with fail
   refine wp_region_still_tail 15 (by kernel_rfl) (by kernel_rfl) ?_
   change wpStill _ _ (World.drew _) _ _ _
   simp only [List.take_succ_cons,List.take_zero,List.drop_succ_cons,List.drop_zero]
   repeat still_step
   refine wpStill_nil ?_
   change wpList _ _ _ _ _ wr.drew
   go_wp2_with fail
   all_goals first
    | (have hv:near 0 64 cc=cc:=by unfold near;omega
       rw [hv] at HN HBN HKN
       go_roundg (gk - 1)
       case measure=>omega
       case rel=>exact ⟨5,by omega,rfl,HN,HBN,HKN⟩)
    | (have hv:near 0 64 cc=0:=by unfold near;omega
       rw [hv] at HN HBN HKN
       go_roundg (gk - 1)
       case measure=>omega
       case rel=>exact ⟨5,by omega,rfl,HN,HBN,HKN⟩)
    | (have hv:near 0 64 cc=64:=by unfold near;omega
       rw [hv] at HN HBN HKN
       go_roundg (gk - 1)
       case measure=>omega
       case rel=>exact ⟨5,by omega,rfl,HN,HBN,HKN⟩)
  ·have hix:∀ w':World,(Instr.index 247 (.agg (#[.pointer (some ⟨w.heap.size,0,none⟩),.pointer (some ⟨w.heap.size,1,none⟩),.pointer (some ⟨w.heap.size,2,none⟩),.pointer (some ⟨w.heap.size,3,none⟩),.pointer (some ⟨w.heap.size,4,none⟩),.pointer (some ⟨w.heap.size,5,none⟩),.pointer (some ⟨w.heap.size,6,none⟩)])) (.int .i64 5)).run Tryz.prog w' = .ok (.pointer (some ⟨w.heap.size,5,none⟩)) w':=fun w'=>by kernel_rfl
   simp only [show (((5:Nat):Int))=5 from rfl]
   have d:=HA2.out.cell 5 (v := .int .i64 l) rfl
   have z:=HA2.out.free 5
   have m0:=(HT.out.keep HK2.out).lim 10 _ rfl
   have m1:=(HT.out.keep HK2.out).lim 11 _ rfl
   have HN:Hid (Blk ((wr.setCell ⟨w.heap.size,5,none⟩ (.int .i64 (near 1 256 l))).drew) w.heap.size (aB.part ⟨b,ww,m,r,cc,l,s⟩ 6) 23):=(HA2.out.set 5 (.int .i64 (near 1 256 l))).drew
   have HBN:Hid (Blk ((wr.setCell ⟨w.heap.size,5,none⟩ (.int .i64 (near 1 256 l))).drew) (w.heap.size+1) [.int .i64 0,.int .i64 0,.int .i64 0,.int .i64 0,.int .i64 0,.int .i64 0,.int .i64 0] 23):=(HB2.out.other (a:=⟨w.heap.size,5,none⟩) (by simp) _).drew
   have HKN:Hid (Keep none_ w ((wr.setCell ⟨w.heap.size,5,none⟩ (.int .i64 (near 1 256 l))).drew)):=(HK2.out.dJ (Nat.le_refl _) _ _).drew
   go_wp2_with fail
   refine wp_region_still_tail 15 (by kernel_rfl) (by kernel_rfl) ?_
   change wpStill _ _ (World.drew _) _ _ _
   simp only [List.take_succ_cons,List.take_zero,List.drop_succ_cons,List.drop_zero]
   repeat still_step
   refine wpStill_nil ?_
   change wpList _ _ _ _ _ wr.drew
   go_wp2_with fail
   all_goals first
    | (have hv:near 1 256 l=l:=by unfold near;omega
       rw [hv] at HN HBN HKN
       go_roundg (gk - 1)
       case measure=>omega
       case rel=>exact ⟨6,by omega,rfl,HN,HBN,HKN⟩)
    | (have hv:near 1 256 l=1:=by unfold near;omega
       rw [hv] at HN HBN HKN
       go_roundg (gk - 1)
       case measure=>omega
       case rel=>exact ⟨6,by omega,rfl,HN,HBN,HKN⟩)
    | (have hv:near 1 256 l=256:=by unfold near;omega
       rw [hv] at HN HBN HKN
       go_roundg (gk - 1)
       case measure=>omega
       case rel=>exact ⟨6,by omega,rfl,HN,HBN,HKN⟩)
  ·have hix:∀ w':World,(Instr.index 247 (.agg (#[.pointer (some ⟨w.heap.size,0,none⟩),.pointer (some ⟨w.heap.size,1,none⟩),.pointer (some ⟨w.heap.size,2,none⟩),.pointer (some ⟨w.heap.size,3,none⟩),.pointer (some ⟨w.heap.size,4,none⟩),.pointer (some ⟨w.heap.size,5,none⟩),.pointer (some ⟨w.heap.size,6,none⟩)])) (.int .i64 6)).run Tryz.prog w' = .ok (.pointer (some ⟨w.heap.size,6,none⟩)) w':=fun w'=>by kernel_rfl
   simp only [show (((6:Nat):Int))=6 from rfl]
   have d:=HA2.out.cell 6 (v := .int .i64 s) rfl
   have z:=HA2.out.free 6
   have m0:=(HT.out.keep HK2.out).lim 12 _ rfl
   have m1:=(HT.out.keep HK2.out).lim 13 _ rfl
   have HN:Hid (Blk ((wr.setCell ⟨w.heap.size,6,none⟩ (.int .i64 (near 1 4096 s))).drew) w.heap.size (aB.part ⟨b,ww,m,r,cc,l,s⟩ 7) 23):=(HA2.out.set 6 (.int .i64 (near 1 4096 s))).drew
   have HBN:Hid (Blk ((wr.setCell ⟨w.heap.size,6,none⟩ (.int .i64 (near 1 4096 s))).drew) (w.heap.size+1) [.int .i64 0,.int .i64 0,.int .i64 0,.int .i64 0,.int .i64 0,.int .i64 0,.int .i64 0] 23):=(HB2.out.other (a:=⟨w.heap.size,6,none⟩) (by simp) _).drew
   have HKN:Hid (Keep none_ w ((wr.setCell ⟨w.heap.size,6,none⟩ (.int .i64 (near 1 4096 s))).drew)):=(HK2.out.dJ (Nat.le_refl _) _ _).drew
   go_wp2_with fail
   refine wp_region_still_tail 15 (by kernel_rfl) (by kernel_rfl) ?_
   change wpStill _ _ (World.drew _) _ _ _
   simp only [List.take_succ_cons,List.take_zero,List.drop_succ_cons,List.drop_zero]
   repeat still_step
   refine wpStill_nil ?_
   change wpList _ _ _ _ _ wr.drew
   go_wp2_with fail
   all_goals first
    | (have hv:near 1 4096 s=s:=by unfold near;omega
       rw [hv] at HN HBN HKN
       go_roundg (gk - 1)
       case measure=>omega
       case rel=>exact ⟨7,by omega,rfl,HN,HBN,HKN⟩)
    | (have hv:near 1 4096 s=1:=by unfold near;omega
       rw [hv] at HN HBN HKN
       go_roundg (gk - 1)
       case measure=>omega
       case rel=>exact ⟨7,by omega,rfl,HN,HBN,HKN⟩)
    | (have hv:near 1 4096 s=4096:=by unfold near;omega
       rw [hv] at HN HBN HKN
       go_roundg (gk - 1)
       case measure=>omega
       case rel=>exact ⟨7,by omega,rfl,HN,HBN,HKN⟩)
  ·simp only [show (((7:Nat):Int))=7 from rfl]
   have a0:=HA2.out.cell 0 rfl;have a1:=HA2.out.cell 1 rfl;have a2:=HA2.out.cell 2 rfl;have a3:=HA2.out.cell 3 rfl;have a4:=HA2.out.cell 4 rfl;have a5:=HA2.out.cell 5 rfl;have a6:=HA2.out.cell 6 rfl
   have y0:=HB2.out.cell 0 rfl;have y1:=HB2.out.cell 1 rfl;have y2:=HB2.out.cell 2 rfl;have y3:=HB2.out.cell 3 rfl;have y4:=HB2.out.cell 4 rfl;have y5:=HB2.out.cell 5 rfl;have y6:=HB2.out.cell 6 rfl
   have z0:=HB2.out.free 0;have z1:=HB2.out.free 1;have z2:=HB2.out.free 2;have z3:=HB2.out.free 3;have z4:=HB2.out.free 4;have z5:=HB2.out.free 5;have z6:=HB2.out.free 6
   clear hg
   go_wp2_with fail
   obtain ⟨q,hq⟩:∃ q,q=aB.clamp ⟨b,ww,m,r,cc,l,s⟩:=⟨_,rfl⟩
   rw [← hq]
   have hB:=((((((HB2.out.set 0 (.int .i64 q.b)).set 1 (.int .i64 q.w)).set 2 (.int .i64 q.m)).set 3 (.int .i64 q.r)).set 4 (.int .i64 q.c)).set 5 (.int .i64 q.l)).set 6 (.int .i64 q.s)
   have hk:=((((((HK2.out.dJ (B:=w.heap.size+1) (Nat.le_succ _) 0 (.int .i64 q.b)).dJ (B:=w.heap.size+1) (Nat.le_succ _) 1 (.int .i64 q.w)).dJ (B:=w.heap.size+1) (Nat.le_succ _) 2 (.int .i64 q.m)).dJ (B:=w.heap.size+1) (Nat.le_succ _) 3 (.int .i64 q.r)).dJ (B:=w.heap.size+1) (Nat.le_succ _) 4 (.int .i64 q.c)).dJ (B:=w.heap.size+1) (Nat.le_succ _) 5 (.int .i64 q.l)).dJ (B:=w.heap.size+1) (Nat.le_succ _) 6 (.int .i64 q.s)
   have k0:=hB.cell 0 rfl;have k1:=hB.cell 1 rfl;have k2:=hB.cell 2 rfl;have k3:=hB.cell 3 rfl;have k4:=hB.cell 4 rfl;have k5:=hB.cell 5 rfl;have k6:=hB.cell 6 rfl
   exact bodyPost_ret (by simp [results,Tryz.f200,go_sem,k0,k1,k2,k3,k4,k5,k6]) rfl ⟨rfl,hk⟩
theorem nP {lo hi x:Int} (h:lo≤x∧x≤hi):near lo hi x=x:=by unfold near;omega
theorem nR {lo hi x:Int} (hl:lo≤hi) (h:near lo hi x=x):lo≤x∧x≤hi:=by unfold near at h;omega
theorem aB.OB (c:aB):c.ok=decide (c.clamp=c):=by
 obtain ⟨b,ww,m,r,cc,l,s⟩:=c
 rw [Bool.eq_iff_iff,decide_eq_true_eq]
 simp only [aB.ok,aB.clamp,aB.mk.injEq,Bool.and_eq_true,decide_eq_true_eq]
 constructor
 ·rintro ⟨⟨⟨⟨⟨⟨h0,h1⟩,h2⟩,h3⟩,h4⟩,h5⟩,h6⟩
  exact ⟨nP h0,nP h1,nP h2,nP h3,nP h4,nP h5,nP h6⟩
 ·rintro ⟨h0,h1,h2,h3,h4,h5,h6⟩
  exact ⟨⟨⟨⟨⟨⟨nR (by decide) h0,nR (by decide) h1⟩,nR (by decide) h2⟩,nR (by decide) h3⟩,nR (by decide) h4⟩,nR (by decide) h5⟩,nR (by decide) h6⟩
theorem qP (c:aB) (w:World) (hT:Tabs w):Calls Tryz.prog 154 #[.agg c.cells.toArray] w fun e w'=>e = .returned (.bool c.ok)∧Keep none_ w w':=by
 obtain ⟨W0,hW0⟩:∃ W',W'=w.alloc (.cells c.cells.toArray 23):=⟨_,rfl⟩
 have HA:Hid (Blk W0 w.heap.size c.cells 23):=by rw [hW0];exact Blk.new w _ _
 have HK:Hid (Keep none_ w W0):=by rw [hW0];exact (Keep.refl _ _).alloc _
 have HT:=Lib.hid (hT.keep HK.out)
 clear hT
 have HQ:Hid (∀ w':World,(binOp .eql 23 (.agg c.clamp.cells.toArray) (.agg c.cells.toArray)).run Tryz.prog w' = .ok (.bool c.ok) w'):=fun w'=>by
  rw [aB.OB]
  obtain ⟨b,ww,m,r,cc,l,s⟩:=c
  simp only [aB.clamp,aB.cells,aB.mk.injEq]
  generalize near 1 4096 b=q0
  generalize near 16 256 ww=q1
  generalize near 1 8 m=q2
  generalize near 1 64 r=q3
  generalize near 0 64 cc=q4
  generalize near 1 256 l=q5
  generalize near 1 4096 s=q6
  clear HT HK HA hW0
  go_simp
  by_cases e0:q0=b
  ·by_cases e1:q1=ww
   ·by_cases e2:q2=m
    ·by_cases e3:q3=r
     ·by_cases e4:q4=cc
      ·by_cases e5:q5=l
       ·by_cases e6:q6=s
        ·simp [e0,e1,e2,e3,e4,e5,e6]
        ·simp [e0,e1,e2,e3,e4,e5,e6]
       ·simp [e0,e1,e2,e3,e4,e5]
      ·simp [e0,e1,e2,e3,e4]
     ·simp [e0,e1,e2,e3]
    ·simp [e0,e1,e2]
   ·simp [e0,e1]
  ·simp [e0]
 have HC:=Lib.hid (fun w' (h:Keep none_ W0 w')=>Lr c w' (HT.out.keep h))
 obtain ⟨cl,hcl⟩:∃ cl,cl=c.clamp:=⟨_,rfl⟩
 rw [← hcl] at HC HQ
 clear hcl
 obtain ⟨ok,hok⟩:∃ ok,ok=c.ok:=⟨_,rfl⟩
 rw [← hok] at HQ ⊢
 clear hok
 have hQ:=HQ.out
 have q0:=cell_regrown (HA.out.cell 0 rfl)
 have q1:=cell_regrown (HA.out.cell 1 rfl)
 have q2:=cell_regrown (HA.out.cell 2 rfl)
 have q3:=cell_regrown (HA.out.cell 3 rfl)
 have q4:=cell_regrown (HA.out.cell 4 rfl)
 have q5:=cell_regrown (HA.out.cell 5 rfl)
 have q6:=cell_regrown (HA.out.cell 6 rfl)
 obtain ⟨b,ww,m,r,cc,l,s⟩:=c
 simp only [aB.cells] at *
 go_enter Tryz.func154,Tryz.ntmps154
 go_wp2_with fail
 rw [← hW0]
 clear hW0 HQ
 refine wp_region_quiet_below (by kernel_rfl) (by kernel_rfl) ?_
 repeat (quiet_step (exact Dj (HC.out _ (uP _ _ _))))
 refine wpQuiet_nil ?_
 intro _ hw9
 obtain ⟨⟨dq,osq⟩,hw8⟩:=hw9
 subst hw8
 have hk3:=HK.out.trans (uP W0 dq osq)
 generalize grow (redrawn W0 dq) osq=w3 at hk3 ⊢
 go_wp2_with fail
 go_ret
 exact ⟨rfl,hk3⟩
end
section
open Go.RowKit
def wG:List Int:=[2,4,8,16]
def Sizes (w:World):Prop:=∀ i r,wG[i]?=some r→w.cell? ⟨2,i,none⟩=some (.int .i64 r)
theorem Sizes.keep {w w':World} (h:Sizes w) (k:Keep none_ w w'):Sizes w':=fun i r hr=>k.still (h i r hr)
theorem OC {rest : List (String × DataW Unit)} {w : World} (h : laidMet Tryz.prog (("dustpan/class.sizes", Rows.laid_dustpan_class_sizes) :: rest) w) : Sizes w := by
 obtain ⟨ps,⟨g,t,cs,fuel,p,q,hg,ht,hvar,hd,_,_⟩,_⟩:=h
 obtain rfl : 2 = g := Option.some.inj ((show Tryz.prog.globalNamed "dustpan/class.sizes" = some 2 by kernel_rfl).symm.trans hg)
 obtain rfl:206=t:=Option.some.inj ((show (Tryz.prog.globals[2]?).map (·.type)=some 206 by kernel_rfl).symm.trans ht)
 obtain ⟨cs,rfl⟩:∃ l:List Value,cs=l.toArray:=⟨cs.toList,by simp⟩
 have e:cs=wG.map (Value.int .i64):=Lib.cells_of_tab (zs:=wG) (show Tryz.prog.underlying 206=some (.array 4 3) by kernel_rfl) Tryz.tabU6 (by kernel_rfl) (by kernel_rfl) hd
 intro i r hr
 rw [World.var?_cell (P:=Tryz.prog) hg hvar i,e]
 simp [hr]
def szP (k:Int):Int:=if 0≤k∧k<4 then wG.getD k.toNat 0 else 0
theorem yK {k:Nat} (h:k<4):szP (k:Int)=2^(k+1):=by
 obtain rfl|rfl|rfl|rfl:k=0∨k=1∨k=2∨k=3:=by omega
 all_goals rfl
theorem jv (k:Int) (w:World):Calls Tryz.prog 198 #[.int .i64 k] w fun e w'=>e = .returned (.bool (decide (0≤k∧k<4)))∧w=w':=by
 by_cases h0:0≤k
 ·have d0:decide (0≤k)=true:=decide_eq_true h0
  have HE:Hid (decide (0≤k∧k<4)=decide (k<4)):=by simp [Hid,h0]
  rw [HE.out]
  clear HE h0
  go_enter Tryz.func198,Tryz.ntmps198
  go_wp2_with fail
  go_ret
  exact ⟨rfl,rfl⟩
 ·have d0:decide (0≤k)=false:=decide_eq_false h0
  have HE:Hid (decide (0≤k∧k<4)=false):=by simp [Hid,h0]
  rw [HE.out]
  clear HE h0
  go_enter Tryz.func198,Tryz.ntmps198
  go_wp2_with fail
  go_ret
  exact ⟨rfl,rfl⟩
theorem pq (k:Int) (w:World) (hS:Sizes w):Calls Tryz.prog 201 #[.int .i64 k] w fun e w'=>e = .returned (.int .i64 (szP k))∧w=w':=by
 have HI:=Lib.hid (jv k w)
 by_cases h:0≤k∧k<4
 ·obtain ⟨i,rfl⟩:∃ i:Nat,k=i:=⟨k.toNat,by omega⟩
  have hi:i<4:=by omega
  have hc:w.cell? ⟨2,i,none⟩=some (.int .i64 (szP (i:Int))):=hS i _ (by
   unfold szP
   rw [if_pos h,Int.toNat_natCast]
   obtain rfl|rfl|rfl|rfl:i=0∨i=1∨i=2∨i=3:=by omega
   all_goals rfl)
  rw [decide_eq_true h] at HI
  generalize szP (i:Int)=z at *
  clear h hS
  go_enter Tryz.func201,Tryz.ntmps201
  go_wp2_with (go_at_call 198;refine HI.out.mono ?_;rintro e w1 ⟨rfl,rfl⟩)
  go_ret
  exact ⟨rfl,rfl⟩
 ·have HE:Hid (szP k=0):=by unfold Hid szP;rw [if_neg h]
  rw [decide_eq_false h] at HI
  rw [HE.out]
  clear h HE hS
  go_enter Tryz.func201,Tryz.ntmps201
  go_wp2_with (go_at_call 198;refine HI.out.mono ?_;rintro e w1 ⟨rfl,rfl⟩)
  go_ret
  exact ⟨rfl,rfl⟩
def iZ (k:Int):Int:=max 0 (szP k - 1)
theorem Ls (k:Int):0≤szP k∧szP k≤16:=by
 unfold szP
 split
 ·rename_i h
  obtain ⟨i,rfl⟩:∃ i:Nat,k=i:=⟨k.toNat,by omega⟩
  rw [Int.toNat_natCast]
  obtain rfl|rfl|rfl|rfl:i=0∨i=1∨i=2∨i=3:=by omega
  all_goals decide
 ·decide
theorem sN (k:Int) (w:World) (hS:Sizes w):Calls Tryz.prog 158 #[.int .i64 k] w fun e w'=>e = .returned (.int .i64 (iZ k))∧w=w':=by
 have HI:=Lib.hid (pq k w hS)
 have hb:=Ls k
 unfold iZ
 generalize szP k=z at *
 clear hS
 go_enter Tryz.func158,Tryz.ntmps158
 go_wp2_with (go_at_call 201;refine HI.out.mono ?_;rintro e w1 ⟨rfl,rfl⟩)
 all_goals
  go_ret
  exact ⟨by first|(rw [Int.max_eq_right (by omega)];rfl)|(rw [Int.max_eq_left (by omega)];rfl),rfl⟩
theorem dW {c:aB} (h:c.ok=true):(1≤c.b∧c.b≤4096)∧(16≤c.w∧c.w≤256)∧(1≤c.m∧c.m≤8)∧(1≤c.r∧c.r≤64)∧(0≤c.c∧c.c≤64)∧(1≤c.l∧c.l≤256)∧(1≤c.s∧c.s≤4096):=by
 simp [aB.ok] at h
 omega
theorem OD {b w:Nat} (hb:b≤4096) (hw:w≤256):b*w≤1048576:=Nat.mul_le_mul hb hw
section
variable {c:aB} {b ww:Nat} (hok:c.ok=true) (hb:c.b=b) (hw:c.w=ww)
include hok hb hw
theorem jm:1≤b∧b≤4096∧16≤ww∧ww≤256∧b*ww≤1048576:=by
 have h:=dW hok
 rw [hb,hw] at h
 exact ⟨by omega,by omega,by omega,by omega,OD (by omega) (by omega)⟩
theorem Gn (C:Nat) (w:World) (hC:Blk w C c.cells 23):Calls Tryz.prog 156 #[.pointer (some ⟨C,0,none⟩)] w fun e w'=>e = .returned (.int .i64 ((b*ww:Nat):Int))∧w=w':=by
 have hn:=jm hok hb hw
 have y0:=hC.cell 0 rfl
 have y1:=hC.cell 1 rfl
 rw [hb] at y0
 rw [hw] at y1
 obtain ⟨M,hM⟩:∃ M,M=b*ww:=⟨_,rfl⟩
 rw [← hM] at hn ⊢
 have hmul:(b:Int)*(ww:Int)=(M:Int):=by rw [hM];simp
 have hwr:IntKind.i64.wrap ((b:Int)*(ww:Int))=(M:Int):=by rw [hmul];exact IntWalk.i64_in _ (by omega)
 clear hC hM hmul hok hb hw hn
 go_enter Tryz.func156,Tryz.ntmps156
 go_wp2_with fail
 go_ret
 exact ⟨rfl,rfl⟩
theorem Lu (C:Nat) (w:World) (hT:Tabs w) (hC:Blk w C c.cells 23):Calls Tryz.prog 155 #[.agg c.cells.toArray,.func (.func 156) #[] #[.pointer (some ⟨C,0,none⟩)]] w fun e w'=>e = .returned (.int .i64 ((b*ww:Nat):Int))∧Keep none_ w w':=by
 obtain ⟨W0,hW0⟩:∃ W',W'=w.alloc (.cells c.cells.toArray 23):=⟨_,rfl⟩
 have HK:Hid (Keep none_ w W0):=by rw [hW0];exact (Keep.refl _ _).alloc _
 have HR:=Lib.hid (qP c W0 (hT.keep HK.out))
 rw [hok] at HR
 have HC:Hid (∀ W,Keep none_ w W→Calls Tryz.prog 156 #[.pointer (some ⟨C,0,none⟩)] W fun e w'=>e = .returned (.int .i64 ((b*ww:Nat):Int))∧W=w'):=fun W hW=>Gn hok hb hw C W (hW.blk hC (fun f=>f))
 obtain ⟨M,hM⟩:∃ M,M=b*ww:=⟨_,rfl⟩
 rw [← hM] at HC ⊢
 obtain ⟨c0,c1,c2,c3,c4,c5,c6⟩:=c
 simp only [aB.cells] at *
 clear hT hC hM hok hb hw
 go_enter Tryz.func155,Tryz.ntmps155
 go_wp2_with fail
 rw [← hW0]
 clear hW0
 refine HR.out.mono ?_
 rintro e w1 ⟨rfl,hk1⟩
 have HK1:=Lib.hid (HK.out.trans hk1)
 clear hk1 HK HR
 go_wp2_with (go_at_call 156;refine (HC.out _ HK1.out).mono ?_;rintro e w2 ⟨rfl,rfl⟩)
 go_ret
 exact ⟨rfl,HK1.out⟩
theorem pz (w:World) (hT:Tabs w):Calls Tryz.prog 108 #[.agg c.cells.toArray] w fun e w'=>e = .returned (.int .i64 ((b*ww:Nat):Int))∧Keep none_ w w':=by
 obtain ⟨W0,hW0⟩:∃ W',W'=w.alloc (.cells c.cells.toArray 23):=⟨_,rfl⟩
 have HK:Hid (Keep none_ w W0):=by rw [hW0];exact (Keep.refl _ _).alloc _
 have HC:=Lib.hid (Lu hok hb hw w.heap.size W0 (hT.keep HK.out) (by rw [hW0];exact Blk.new w _ _))
 generalize b*ww=M at *
 obtain ⟨c0,c1,c2,c3,c4,c5,c6⟩:=c
 simp only [aB.cells] at *
 clear hT hok hb hw
 go_enter Tryz.func108,Tryz.ntmps108
 go_wp2_with fail
 rw [← hW0]
 clear hW0
 refine HC.out.mono ?_
 rintro e w1 ⟨rfl,hk1⟩
 have HK1:=Lib.hid (HK.out.trans hk1)
 clear hk1 HK HC
 go_wp2_with fail
 go_ret
 exact ⟨rfl,HK1.out⟩
end
theorem qQ (ww k:Nat) (hw:16≤ww∧ww≤256) (hk:k<4) (w:World) (hS:Sizes w):Calls Tryz.prog 194 #[.int .i64 (ww:Int),.int .i64 (k:Int)] w fun e w'=>e = .returned (.int .i64 ((ww/2^(k+1):Nat):Int))∧w=w':=by
 have HI:=Lib.hid (jv (k:Int) w)
 rw [decide_eq_true (by omega)] at HI
 have hc:w.cell? ⟨2,k,none⟩=some (.int .i64 ((2^(k+1):Nat):Int)):=hS k _ (show wG[k]?=some ((2^(k+1):Nat):Int) from by
  obtain rfl|rfl|rfl|rfl:k=0∨k=1∨k=2∨k=3:=by omega
  all_goals rfl)
 have hkI:(k:Int)<4:=by omega
 have h2:2≤2^(k+1)∧2^(k+1)≤16:=by
  obtain rfl|rfl|rfl|rfl:k=0∨k=1∨k=2∨k=3:=by omega
  all_goals decide
 generalize 2^(k+1)=z at *
 clear hS hk
 go_enter Tryz.func194,Tryz.ntmps194
 have e:wrap64 ((ww:Int)/(z:Int))=((ww/z:Nat):Int):=by
  have h1:((ww:Int)/(z:Int))=((ww/z:Nat):Int):=by simp
  have h2:ww/z≤ww:=Nat.div_le_self _ _
  rw [h1]
  generalize ww/z=q at h2 ⊢
  exact IntWalk.wrap64_in _ (by omega)
 have HE:=Lib.hid e
 clear e
 go_wp2_with (go_at_call 198;refine HI.out.mono ?_;rintro e w1 ⟨rfl,rfl⟩)
 go_ret
 refine ⟨?_,rfl⟩
 rw [← HE.out];rfl
section
variable {c:aB} {b ww:Nat} (hok:c.ok=true) (hb:c.b=b) (hw:c.w=ww)
include hok hb hw
theorem pF (p:Nat) (hp:p<b*ww) (w:World) (hT:Tabs w):Calls Tryz.prog 196 #[.agg c.cells.toArray,.int .i64 ((p:Int)+1)] w fun e w'=>e = .returned (.tuple #[.int .i64 ((p/ww:Nat):Int),.bool true])∧Keep none_ w w':=by
 obtain ⟨W0,hW0⟩:∃ W',W'=w.alloc (.cells c.cells.toArray 23):=⟨_,rfl⟩
 have HK:Hid (Keep none_ w W0):=by rw [hW0];exact (Keep.refl _ _).alloc _
 have HC:=Lib.hid (pz hok hb hw W0 (hT.keep HK.out))
 have HB:=Lib.hid (show Blk W0 w.heap.size c.cells 23 by rw [hW0];exact Blk.new w _ _)
 have hn:=jm hok hb hw
 obtain ⟨c0,c1,c2,c3,c4,c5,c6⟩:=c
 simp only at hb hw
 subst hb hw
 generalize b*ww=M at *
 simp only [aB.cells] at *
 clear hT hok
 go_enter Tryz.func196,Tryz.ntmps196
 go_wp2_with fail
 rw [← hW0]
 clear hW0
 refine HC.out.mono ?_
 rintro e w1 ⟨rfl,hk1⟩
 have HK1:=Lib.hid (HK.out.trans hk1)
 have y1:=(hk1.blk HB.out (fun f=>f)).cell 1 rfl
 clear hk1 HK HC HB
 have e:wrap64 ((p:Int)/(ww:Int))=((p/ww:Nat):Int):=by
  have h1:((p:Int)/(ww:Int))=((p/ww:Nat):Int):=by simp
  have h2:p/ww≤p:=Nat.div_le_self _ _
  rw [h1]
  generalize p/ww=q at h2 ⊢
  exact IntWalk.wrap64_in _ (by omega)
 have HE:=Lib.hid e
 clear e
 go_wp2_with fail
 go_ret2
 refine ⟨?_,HK1.out⟩
 rw [← HE.out];rfl
theorem wX (a:Int) (ha:a<1∨((b*ww:Nat):Int)<a) (w:World) (hT:Tabs w):Calls Tryz.prog 196 #[.agg c.cells.toArray,.int .i64 a] w fun e w'=>e = .returned (.tuple #[.int .i64 0,.bool false])∧Keep none_ w w':=by
 obtain ⟨W0,hW0⟩:∃ W',W'=w.alloc (.cells c.cells.toArray 23):=⟨_,rfl⟩
 have HK:Hid (Keep none_ w W0):=by rw [hW0];exact (Keep.refl _ _).alloc _
 have HC:=Lib.hid (pz hok hb hw W0 (hT.keep HK.out))
 generalize b*ww=M at *
 obtain ⟨c0,c1,c2,c3,c4,c5,c6⟩:=c
 simp only [aB.cells] at *
 clear hT hok hb hw
 by_cases h1:a<1
 ·have d1:decide (a<1)=true:=decide_eq_true h1
  clear h1 ha
  go_enter Tryz.func196,Tryz.ntmps196
  go_wp2_with fail
  rw [← hW0]
  go_ret2
  exact ⟨rfl,HK.out⟩
 ·have d1:decide (a<1)=false:=decide_eq_false h1
  have d2:decide ((M:Int)<a)=true:=decide_eq_true (ha.resolve_left h1)
  clear h1 ha
  go_enter Tryz.func196,Tryz.ntmps196
  go_wp2_with fail
  rw [← hW0]
  clear hW0
  refine HC.out.mono ?_
  rintro e w1 ⟨rfl,hk1⟩
  have HK1:=Lib.hid (HK.out.trans hk1)
  clear hk1 HK HC
  go_wp2_with fail
  go_ret2
  exact ⟨rfl,HK1.out⟩
end
end
end Go.Proofs.YtanfphjoebobaaaGreatDoor
