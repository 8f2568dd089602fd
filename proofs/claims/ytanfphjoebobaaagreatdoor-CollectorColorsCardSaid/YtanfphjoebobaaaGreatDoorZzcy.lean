/- Parts of a walk, put together and made shorter by a program of mine. No conditions. -/
import Derived.Test.YtanfphjoebobaaaGreatDoorZzce
import Derived.Test.YtanfphjoebobaaaGreatDoorZzco
import Derived.Test.YtanfphjoebobaaaGreatDoorZzcp
namespace Go.Proofs.YtanfphjoebobaaaGreatDoor
set_option maxRecDepth 100000
set_option maxHeartbeats 1000000
section
attribute [local go_sem] Oper.semAt_some
open Go.RowKit
def lD (xs:List Nat):List (Nat × Nat):=(List.range xs.length).map fun j=>(xs.length - 1 - j,xs.getD (xs.length - 1 - j) 0)
theorem mV (xs:List Nat):(lD xs).length=xs.length:=by simp [lD]
theorem tV {xs:List Nat} {j:Nat} (h:j<xs.length):(lD xs)[j]?=some (xs.length - 1 - j,xs.getD (xs.length - 1 - j) 0):=by simp [lD,h]
def mG (pB X:Nat):Nat→Prop:=fun i=>i=pB∨i=X
theorem BR (a:Option Addr) (n c:Nat) (w:World):Calls Tryz.prog 134 #[.slice a n c] w fun e w'=>e = .returned (.func (.func 170) #[] #[.pointer (some ⟨w.heap.size,0,none⟩)])∧w'=w.alloc (.cells #[.slice a n c] 32):=by
 have hmf:∀ (fn:Fn) (first cap:Array Value) (w:World),(Instr.makeFunc fn first cap).run Tryz.prog w = .ok (.func fn first cap) w:=fun _ _ _ _=>rfl
 go_enter Tryz.func134,Tryz.ntmps134
 go_wp2_with fail
 go_ret
 exact ⟨rfl,rfl⟩
theorem PX (xs:List Nat) (pB X:Nat) (hn:xs.length≤64) (m:Nat) (w:World) (hbp:Blk w pB [.slice (some ⟨X,0,none⟩) xs.length xs.length] 32) (hbx:Blk w X (aC xs) 3) :
 xH Fence.wide m Tryz.prog 170 #[.pointer (some ⟨pB,0,none⟩)] (lD xs) sW (mG pB X) w:=by
 intro l J Jx W hW hJ hJx hY h0
 have hbp1:=hW.blk hbp (fun f=>f)
 have hbx1:=hW.blk hbx (fun f=>f)
 have hc0:=hbp1.cell 0 (v := .slice (some ⟨X,0,none⟩) xs.length xs.length) rfl
 have HLEN:=Lib.hid (mV xs)
 have HAT:Hid (∀ j q,j+q+1=xs.length→(lD xs)[j]?=some (q,xs.getD q 0)):=fun j q e=>by
  rw [tV (by omega),show xs.length - 1 - j=q by omega]
 have HV:Hid (∀ q wr,q<xs.length→Blk wr X (aC xs) 3→wr.cell? ⟨X,q,none⟩=some (.int .i64 ((xs.getD q 0:Nat):Int))):=fun q wr hq hb=>hb.cell q (kE hq)
 have hnI:(xs.length:Int)≤64:=by omega
 have hw0:IntKind.i64.wrap ((xs.length:Int) - 1)=(xs.length:Int) - 1:=IntWalk.i64_in _ (by omega)
 generalize lD xs=L at *
 obtain ⟨tv,htv⟩:∃ tv,tv=aC xs:=⟨_,rfl⟩
 rw [← htv] at hbx1 HV
 obtain ⟨at_,hat⟩:∃ f:Nat→Nat,f=fun q=>xs.getD q 0:=⟨_,rfl⟩
 have PY:Hid (∀ j q,j+q+1=xs.length→L[j]?=some (q,at_ q)):=fun j q e=>by rw [hat];exact HAT.out j q e
 have HV2:Hid (∀ q wr,q<xs.length→Blk wr X tv 3→wr.cell? ⟨X,q,none⟩=some (.int .i64 ((at_ q:Nat):Int))):=fun q wr h1 h2=>by rw [hat];exact HV.out q wr h1 h2
 clear HAT HV hat htv hbx hbp
 generalize xs.length=n at *
 refine callsIn_of_wp Tryz.func170 rfl trivial ?_ rfl
 simp only [Tryz.ntmps170,List.size_toArray,List.length_cons,List.length_nil,Nat.reduceAdd,Nat.reduceSub,Array.replicate_succ,Array.replicate_zero,List.push_toArray,List.append_toArray,List.nil_append,List.cons_append]
 gi_wp2_with fail
 gi_loopw [3] (fun v wr=>∃ (j:Nat) (i:Int),j≤n∧i=(n:Int) - 1 - j∧v = .int .i64 i∧J j wr∧Holds (mG pB X) W wr) (fun v _=>(intOf v+1).toNat)
 case atStart=>exact ⟨0,_,by omega,by omega,rfl,h0,Holds.refl _ _⟩
 case round =>
  obtain ⟨j,i,hj,hi,rfl,hJj,hH⟩:=hrel
  have b1:=hH.blk (.inl rfl) hbp1
  have b2:=hH.blk (.inr rfl) hbx1
  have c1:=b1.cell 0 (v := .slice (some ⟨X,0,none⟩) n n) rfl
  by_cases hlt:j<n
  ·obtain ⟨q,rfl⟩:∃ q:Nat,i=(q:Int):=⟨i.toNat,by omega⟩
   have hq:j+q+1=n:=by omega
   have hqn:q<n:=by omega
   have hq0:(0:Int)≤(q:Int):=by omega
   have hqI:(q:Int)<(n:Int):=by omega
   have c2:=HV2.out q wr hqn b2
   have hL:=PY.out j q hq
   have hwq:IntKind.i64.wrap ((q:Int) - 1)=(q:Int) - 1:=IntWalk.i64_in _ (by omega)
   generalize at_ q=x at *
   have HY:=Lib.hid hY
   have HJ:=Lib.hid hJj
   have HQ:=Lib.hid hq
   clear hY hJj hi hq
   obtain ⟨fn,tmps,assign,body,hy,hR⟩:=HY.out j (q,x) #[.int .i64 (q:Int),.int .i64 (x:Int)] wr hL HJ.out rfl
   gi_wp2_with fail
   refine ⟨fun h=>(by cases h),hR.mono ?_⟩
   rintro e W' (⟨rfl,hJ',hk⟩|⟨rfl,xI⟩)
   ·gi_wp2_with fail
    go_roundw
    case rel=>exact ⟨j+1,(q:Int) - 1,by omega,by have:=HQ.out;omega,by go_num,hJ',hH.trans hk⟩
    case measure=>simp [intOf]<;>omega
   ·gi_wp2_with fail
    refine bodyPost_ret (results_none rfl _ _ _) rfl ?_
    exact ⟨⟨_,rfl⟩,.inr ⟨j+1,by rw [HLEN.out];omega,xI⟩⟩
  ·clear hY
   obtain rfl:i = -1:=by omega
   have HJE:Hid (j=n):=by unfold Hid;omega
   clear hi
   gi_wp2_with fail
   go_end0
   exact ⟨⟨_,rfl⟩,.inl (by rw [HLEN.out,← HJE.out];exact hJj)⟩
end
section
open Go.RowKit
def tY (o o':Ow) (w w':World):Prop:=∀ b cs T,o b=0→Blk w b cs T→o' b=0∧Blk w' b cs T
theorem Caps.gen {o o':Ow} {w w':World} (k:tY o o' w w'):∀ {l:List (List Value × TypeId)} {bs:List Nat},Caps o w l bs→Caps o' w' l bs
 | [],_,h=>h
 | (cs,T)::l,bs,h=>by
   obtain ⟨b,r,e,h1,h2,h3⟩:=h
   obtain ⟨g1,g2⟩:=k b cs T h1 h2
   exact ⟨b,r,e,g1,g2,Caps.gen k h3⟩
theorem Clo.gen {o o':Ow} {w w':World} {fn:Nat} {l:List (List Value × TypeId)} {v:Value} (h:Clo o w fn l v) (k:tY o o' w w'):Clo o' w' fn l v:=by
 obtain ⟨bs,e,hc⟩:=h
 exact ⟨bs,e,hc.gen k⟩
theorem aV.gen {o o':Ow} {w w':World} {T:TypeId} {v:Value} {xs:List Value} (h:aV o w T v xs) (k:tY o o' w w'):aV o' w' T v xs:=by
 obtain ⟨a,c,rfl,hl,hm,hc⟩:=h
 refine ⟨a,c,rfl,hl,hm,fun h0=>?_⟩
 obtain ⟨b,off,cs,e,h0,hb,hj⟩:=hc h0
 obtain ⟨g1,g2⟩:=k b cs T h0 hb
 exact ⟨b,off,cs,e,g1,g2,hj⟩
theorem og.gen {o o':Ow} {w w':World} {M:Nat} {rd:RD} {v:Value} (h:og o w M rd v) (k:tY o o' w w'):og o' w' M rd v:=by
 cases rd with
 | field base f x=>obtain ⟨op,e,h1⟩:=h;exact ⟨op,e,h1.gen k⟩
 | cell i x=>obtain ⟨op,e,h1⟩:=h;exact ⟨op,e,h1.gen k⟩
theorem oh.gen {o o':Ow} {w w':World} {M:Nat} {rd:RD} {v:Value} (h:oh o w M rd v) (k:tY o o' w w'):oh o' w' M rd v:=by
 cases rd with
 | field base f x=>obtain ⟨op,e,h1⟩:=h;exact ⟨op,e,h1.gen k⟩
 | cell i x=>obtain ⟨op,e,h1⟩:=h;exact ⟨op,e,h1.gen k⟩
theorem jd.gen {o o':Ow} {w w':World} {M:Nat} {rd:RD} {v:Value} (h:jd o w M rd v) (k:tY o o' w w'):jd o' w' M rd v:=by
 obtain ⟨wv,h1,h2⟩:=h
 exact ⟨wv,h1.gen k,h2.gen k⟩
theorem bH.gen {o o':Ow} {w w':World} {Nt M:Nat} (k:tY o o' w w'):∀ {d:MD} {v:Value},bH o w Nt M d v→bH o' w' Nt M d v:=by
 intro d
 induction d with
 | nil=>intro v h;exact h
 | start op=>intro v h;exact Clo.gen h k
 | once q =>
   intro v h
   obtain ⟨dv,h1,h2⟩:=h
   refine ⟨dv,h1.gen k,?_⟩
   revert h2
   split
   ·rintro ⟨lv,h2,h3⟩;exact ⟨lv,h2.gen k,h3.gen k⟩
   split
   ·rintro ⟨lv,h2,h3⟩;exact ⟨lv,h2.gen k,h3.gen k⟩
   split
   ·rintro ⟨lv,h2,h3⟩;exact ⟨lv,h2.gen k,h3.gen k⟩
   split
   ·rintro ⟨lv,h2,h3⟩;exact ⟨lv,h2.gen k,h3.gen k⟩
   ·rintro ⟨lv,h2,h3⟩;exact ⟨lv,h2.gen k,h3.gen k⟩
 | note x c t ih =>
   intro v h
   obtain ⟨tv,av,h1,h2,h3⟩:=h
   exact ⟨tv,av,ih h1,h2.gen k,h3.gen k⟩
 | add x t ih=>intro v h;obtain ⟨tv,h1,h2⟩:=h;exact ⟨tv,ih h1,h2.gen k⟩
 | pour c t ih=>intro v h;obtain ⟨tv,h1,h2⟩:=h;exact ⟨tv,ih h1,h2.gen k⟩
 | dG c f t ih=>intro v h;obtain ⟨tv,h1,h2⟩:=h;exact ⟨tv,ih h1,h2.gen k⟩
 | raise t ih=>intro v h;obtain ⟨tv,h1,h2⟩:=h;exact ⟨tv,ih h1,h2.gen k⟩
 | field base f t ih=>intro v h;obtain ⟨tv,h1,h2⟩:=h;exact ⟨tv,ih h1,h2.gen k⟩
 | load op base=>intro v h;exact Clo.gen h k
 | get op=>intro v h;exact Clo.gen h k
 | lay x rd =>
   intro v h
   obtain ⟨rv,lv,h1,h2,h3⟩:=h
   exact ⟨rv,lv,h1.gen k,h2.gen k,h3.gen k⟩
 | last rd=>intro v h;exact jd.gen h k
 | alloc op q=>intro v h;exact Clo.gen h k
 | assign op q=>intro v h;exact Clo.gen h k
 | lS op all =>
   intro v h
   obtain ⟨h1,av,h2,h3⟩:=h
   exact ⟨h1,av,h2.gen k,h3.gen k⟩
 | claim op q=>intro v h;exact Clo.gen h k
 | again op q=>intro v h;exact Clo.gen h k
 | sweep sl c t=>intro v h;exact h.elim
 | fill op a=>intro v h;exact Clo.gen h k
 | zero op a i=>intro v h;exact Clo.gen h k
end
end Go.Proofs.YtanfphjoebobaaaGreatDoor
