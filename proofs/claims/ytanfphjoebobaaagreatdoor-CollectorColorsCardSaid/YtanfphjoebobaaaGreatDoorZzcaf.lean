/- Parts of a walk, put together and made shorter by a program of mine. No conditions. -/
import Derived.Test.YtanfphjoebobaaaGreatDoorZzck
import Derived.Shelf.Spec.TrailingZeros
import Derived.WalkSpells
import Derived.Scope
import Derived.BigFrame
import Derived.Lib.MinMax
import Derived.BigRegion
import Derived.WalkLawsBesides
import Derived.Test.YtanfphjoebobaaaGreatDoorZzcd
import Derived.Test.YtanfphjoebobaaaGreatDoorZzce
import Derived.Test.YtanfphjoebobaaaGreatDoorZzch
import Derived.Test.YtanfphjoebobaaaGreatDoorZzcl
namespace Go.Proofs.YtanfphjoebobaaaGreatDoor
set_option maxRecDepth 100000
set_option maxHeartbeats 4000000
section
open Go.RowKit
def nH (s:Nat→Bool) (size n:Nat):Option Nat:=(List.range size).find? fun k=>decide (n≤k)&&s k
theorem find_range (p:Nat→Bool):∀ (size k:Nat),k<size→p k=true→(∀ j,j<k→p j=false)→(List.range size).find? p=some k
 | 0,k,h,_,_=>absurd h (Nat.not_lt_zero k)
 | size+1,k,h,hp,hj=>by
   rw [List.range_succ,List.find?_append]
   by_cases e:k<size
   ·rw [find_range p size k e hp hj];rfl
   ·obtain rfl:k=size:=by omega
    have h0:(List.range k).find? p=none:=List.find?_eq_none.2 (fun x hx=>by rw [hj x (List.mem_range.1 hx)];decide)
    rw [h0]
    simp [hp]
theorem vK {s:Nat→Bool} {size n k:Nat} (h1:n≤k) (h2:k<size) (h3:s k=true) (h4:∀ j,n≤j→j<k→s j=false):nH s size n=some k:=by
 refine find_range _ size k h2 (by rw [decide_eq_true h1,h3];rfl) (fun j hj=>?_)
 by_cases e:n≤j
 ·rw [h4 j e hj,Bool.and_false]
 ·rw [decide_eq_false e];rfl
theorem qY {s:Nat→Bool} {size n:Nat} (h:∀ j,n≤j→j<size→s j=false):nH s size n=none :=
 List.find?_eq_none.2 (fun x hx=>by
  by_cases e:n≤x
  ·rw [h x e (List.mem_range.1 hx),Bool.and_false];exact Bool.false_ne_true
  ·rw [decide_eq_false e,Bool.false_and];exact Bool.false_ne_true)
theorem vM (W:List Nat) (n j:Nat) (hj:n%64+j<64):fZ W (n+j)=(W.getD (n/64) 0/2^(n%64)).testBit j:=by
 unfold fZ
 have e1:(n+j)/64=n/64:=by omega
 have e2:(n+j)%64=n%64+j:=by omega
 rw [e1,e2,Nat.testBit_div_two_pow]
 congr 1
 omega
theorem NY {W:List Nat} {n:Nat} (h:W.getD (n/64) 0/2^(n%64)=0) (j:Nat) (h1:n≤j) (h2:j<n+(64 - n%64)):fZ W j=false:=by
 obtain ⟨d,rfl⟩:∃ d,j=n+d:=⟨j - n,by omega⟩
 rw [vM W n d (by omega),h,Nat.zero_testBit]
theorem NZ {W:List Nat} {n t l:Nat} (hl:l=W.getD (n/64) 0/2^(n%64)) (hx:W.getD (n/64) 0<18446744073709551616) (h0:l≠0) (ht:t=Lib.ctz 64 l):n%64+t<64∧fZ W (n+t)=true∧∀ j,n≤j→j<n+t→fZ W j=false:=by
 have hl2:l<2^64:=by
  rw [hl]
  exact Nat.lt_of_le_of_lt (Nat.div_le_self _ _) hx
 obtain ⟨m,hm,hk⟩:=Lib.ctzFrom_spec 64 l (by omega) hl2
 have e:t=Lib.ctzFrom 64 l:=by rw [ht];unfold Lib.ctz;rw [if_neg h0]
 rw [← e] at hm hk
 have hmod:n%64<64:=Nat.mod_lt _ (by decide)
 have h64:n%64+t<64:=by
  have h1:2^t≤l:=by rw [hm];exact Nat.le_mul_of_pos_right _ (by omega)
  have h2:l*2^(n%64)≤W.getD (n/64) 0:=by rw [hl];exact Nat.div_mul_le_self _ _
  have h3:2^t*2^(n%64)≤l*2^(n%64):=Nat.mul_le_mul_right _ h1
  rw [← Nat.pow_add] at h3
  have h4:2^(t+n%64)<2^64:=by
   have:(2:Nat)^64=18446744073709551616:=by decide
   omega
  have:=(Nat.pow_lt_pow_iff_right (by decide:1<2)).1 h4
  omega
 have hbit:∀ j,l.testBit j=(decide (t≤j)&&(2*m+1).testBit (j - t)):=fun j=>by rw [hm,Nat.mul_comm,Nat.testBit_mul_two_pow]
 refine ⟨h64,?_,fun j h1 h2=>?_⟩
 ·rw [vM W n t h64,← hl,hbit,decide_eq_true (Nat.le_refl t),Nat.sub_self]
  simp [Nat.testBit_zero]
 ·obtain ⟨d,rfl⟩:∃ d,j=n+d:=⟨j - n,by omega⟩
  rw [vM W n d (by omega),← hl,hbit,decide_eq_false (by omega)];rfl
def jU (w:World):Prop:=TabAt 1 Lib.deBruijn64tab w
theorem jU.jO {S:Nat→Prop} {w w':World} (h:jU w) (k:Keep S w w') (h1:¬ S 1):jU w':=fun j hj=>k.iY (h j hj) h1
theorem jU.still {w w':World} (h:jU w) (k:Keep none_ w w'):jU w':=h.jO k (fun f=>f)
theorem tz64_core (x k idx:Nat) (w:World) (hx0:((x:Int)==0)=false)
 (key:IntKind.u64.wrap (bits BinOp.and IntKind.u64 (x:Int) (IntKind.u64.wrap (-(x:Int)))*285870213051353865)/288230376151711744=(idx:Int))
 (hi:idx<64) (hk:k<64) (hcell:w.cell? ⟨1,idx,none⟩=some (.int .u8 k)) :
 Calls Tryz.prog 124 #[.int .u64 (x:Int)] w fun e w'=>e = .returned (.int .i64 (k:Int))∧w=w':=by
 go_enter Tryz.func124,Tryz.ntmps124
 go_wp2_with (simp only [key])
 go_ret
 exact ⟨rfl,rfl⟩
theorem Qh (x:Nat) (hx:x<18446744073709551616) (h0:x≠0) (w:World) (hT:jU w):Calls Tryz.prog 124 #[.int .u64 (x:Int)] w fun e w'=>e = .returned (.int .i64 (Lib.ctz 64 x:Int))∧w=w':=by
 obtain ⟨hlow,hk⟩:=Lib.lowest_bit 64 x h0 hx
 obtain ⟨hi,htab⟩:=Lib.deBruijn64_at _ hk
 have hcell:=hT _ hi
 rw [htab] at hcell
 exact tz64_core x _ _ w (by simp;omega) (tz64_key x _ hx h0 hlow) hi hk hcell
section
variable {w w':World} {B X size:Nat} {W:List Nat}
def pU:Option Nat→Value
 | some k => .tuple #[.int .i64 (k:Int),.bool true]
 | none => .tuple #[.int .i64 0,.bool false]
theorem N7 (h:dR w B X size W) (hT:jU w) (n:Nat) (hn:n≤4194304):Calls Tryz.prog 89 #[.pointer (some ⟨B,0,none⟩),.int .i64 (n:Int)] w fun e w'=>e = .returned (pU (nH (fZ W) size n))∧w=w':=by
 have HM:Hid (∀ k:Nat,Calls Tryz.prog 95 #[.pointer (some ⟨B,0,none⟩),.int .i64 (k:Int)] w fun e w'=>e = .returned (.bool (decide (k<size)))∧w=w'):=fun k=>by
  have h9:=xQ h (k:Int)
  have e:decide (0≤(k:Int)∧(k:Int)<(size:Int))=decide (k<size):=by rw [Bool.eq_iff_iff];simp
  rw [e] at h9
  exact h9
 obtain ⟨cap,hblk⟩:=h.blk
 have y0:=hblk.cell 0 rfl
 have hsz:=h.sz
 have HX:=Lib.hid h
 have HTT:=Lib.hid hT
 have hn0:(0:Int)≤(n:Int):=by omega
 have hn1:¬ ((n:Int)<0):=by omega
 have hn2:¬ ((0:Int) > (n:Int)):=by omega
 have hn3:max (n:Int) 0=(n:Int):=by omega
 have HL:Hid (∀ k:Nat,k<size→k/64<W.length):=fun k hk=>(h.word hk).1
 generalize W.length=L at *
 clear h hT hblk
 go_enter Tryz.func89,Tryz.ntmps89
 go_wp2_with fail
 refine wp_scope_straight ?_
 go_wp2_with fail
 refine wp_label ?_
 go_wp2_with fail
 go_loopw [1,6] (fun v _ wr=>∃ k:Nat,v = .int .i64 (k:Int)∧n≤k∧k≤4194368∧wr=w∧∀ j,n≤j→j<k→fZ W j=false) (fun v _ _=>4194368 - (intOf v).toNat)
 case atStart=>exact ⟨n,rfl,Nat.le_refl _,by omega,rfl,fun j h1 h2=>by omega⟩
 case round =>
  obtain ⟨k,rfl,hk1,hk2,rfl,hk⟩:=hrel
  have HMk:=Lib.hid (HM.out k)
  by_cases hlt:k<size
  ·rw [decide_eq_true hlt] at HMk
   obtain ⟨_,hc,hx⟩:=HX.out.word hlt
   have hL:=HL.out k hlt
   obtain ⟨x,hxe⟩:∃ x,x=W.getD (k/64) 0:=⟨_,rfl⟩
   obtain ⟨lf,hlf⟩:∃ lf,lf=W.getD (k/64) 0/2^(k%64):=⟨_,rfl⟩
   rw [← hxe] at hc hx
   have hsh:((x:Int)/2^(k%64))=(lf:Int):=by rw [hlf,← hxe];simp
   have HLZ:Hid (lf=0→∀ j,k≤j→j<k+(64 - k%64)→fZ W j=false):=fun e=>NY (by rw [← hlf];exact e)
   have HLS:Hid (lf≠0→k%64+Lib.ctz 64 lf<64∧fZ W (k+Lib.ctz 64 lf)=true∧∀ j,k≤j→j<k+Lib.ctz 64 lf→fZ W j=false):=fun e=>NZ hlf (by rw [← hxe];exact hx) e rfl
   have VD:lf<18446744073709551616:=by rw [hlf,← hxe];exact Nat.lt_of_le_of_lt (Nat.div_le_self _ _) hx
   have HKB:=Lib.hid hk
   have HTZ:Hid (lf≠0→Calls Tryz.prog 124 #[.int .u64 (lf:Int)] wr fun e w'=>e = .returned (.int .i64 (Lib.ctz 64 lf:Int))∧wr=w'):=fun e=>Qh lf VD e wr HTT.out
   have hk62:k<2097152:=by omega
   generalize Lib.ctz 64 lf=t at *
   clear hk hlf hxe
   by_cases h0:lf=0
   ·subst h0
    have HZ:=Lib.hid (HLZ.out rfl)
    have d0:(((0:Nat):Int) != 0)=false:=rfl
    have hmod:k%64<64:=Nat.mod_lt _ (by decide)
    have hw1:IntKind.i64.wrap (64 - (k:Int)%64)=64 - (k:Int)%64:=IntWalk.i64_in _ (by omega)
    have hw2:IntKind.i64.wrap ((k:Int)+(64 - (k:Int)%64))=(k:Int)+(64 - (k:Int)%64):=IntWalk.i64_in _ (by omega)
    clear HLZ HLS HTZ
    go_wp2_with fail
    refine HMk.out.mono ?_
    rintro e w1 ⟨rfl,rfl⟩
    go_wp2_with fail
    go_roundw
    case rel =>
     refine ⟨k+(64 - k%64),by congr 1;omega,by omega,by omega,trivial,fun j h1 h2=>?_⟩
     by_cases e:j<k
     ·exact HKB.out j h1 e
     ·exact HZ.out j (by omega) h2
    case measure=>simp [intOf];omega
   ·have d0:((lf:Int)==0)=false:=by simp;omega
    have HT2:=Lib.hid (HTZ.out h0)
    obtain ⟨g1,g2,g3⟩:=HLS.out h0
    have HG2:=Lib.hid g2
    have HG3:=Lib.hid g3
    have hwr:IntKind.i64.wrap ((k:Int)+(t:Int))=(k:Int)+(t:Int):=IntWalk.i64_in _ (by omega)
    have HM2:Hid (Calls Tryz.prog 95 #[.pointer (some ⟨B,0,none⟩),.int .i64 ((k:Int)+(t:Int))] wr fun e w'=>e = .returned (.bool (decide (k+t<size)))∧wr=w'):=by
     have h9:=HM.out (k+t)
     rw [show (((k+t:Nat)):Int)=(k:Int)+(t:Int) from by push_cast;rfl] at h9
     exact h9
    have HNS:Hid (k+t<size→nH (fZ W) size n=some (k+t)):=fun h=>vK (by omega) h HG2.out (fun j h1 h2=>by
     by_cases e:j<k
     ·exact HKB.out j h1 e
     ·exact HG3.out j (by omega) h2)
    have HNN:Hid (¬ k+t<size→nH (fZ W) size n=none):=fun h=>qY (fun j h1 h2=>by
     by_cases e:j<k
     ·exact HKB.out j h1 e
     ·exact HG3.out j (by omega) (by omega))
    clear g2 g3 HLZ HLS HTZ
    by_cases hb:k+t<size
    ·rw [decide_eq_true hb] at HM2
     have HR:=Lib.hid (HNS.out hb)
     clear HNS HNN hb
     go_wp2_with fail
     refine HMk.out.mono ?_
     rintro e w1 ⟨rfl,rfl⟩
     go_wp2_with fail
     refine HT2.out.mono ?_
     rintro e w1 ⟨rfl,rfl⟩
     go_wp2_with fail
     refine HM2.out.mono ?_
     rintro e w1 ⟨rfl,rfl⟩
     go_wp2_with fail
     simp only [Exit.noGoto]
     go_ret2
     exact ⟨by rw [HR.out];simp [pU],rfl⟩
    ·rw [decide_eq_false hb] at HM2
     have HR:=Lib.hid (HNN.out hb)
     clear HNS HNN hb
     go_wp2_with fail
     refine HMk.out.mono ?_
     rintro e w1 ⟨rfl,rfl⟩
     go_wp2_with fail
     refine HT2.out.mono ?_
     rintro e w1 ⟨rfl,rfl⟩
     go_wp2_with fail
     refine HM2.out.mono ?_
     rintro e w1 ⟨rfl,rfl⟩
     go_wp2_with fail
     simp only [Exit.noGoto]
     go_ret2
     exact ⟨by rw [HR.out];rfl,rfl⟩
  ·rw [decide_eq_false hlt] at HMk
   have HR:Hid (nH (fZ W) size n=none):=qY (fun j h1 h2=>hk j h1 (by omega))
   clear hk
   go_wp2_with fail
   refine HMk.out.mono ?_
   rintro e w1 ⟨rfl,rfl⟩
   go_wp2_with fail
   refine HMk.out.mono ?_
   rintro e w1 ⟨rfl,rfl⟩
   go_wp2_with fail
   simp only [Exit.noGoto]
   go_ret2
   exact ⟨by rw [HR.out];rfl,rfl⟩
end
end
section
open Go.RowKit
structure Uf (N:Nat) (R:World→World→Prop):Prop where
 trans:∀ {A B C:World},R A B→R B C→R A C
 put:∀ (W:World) (L:Nat) (o o':Obj),N≤L→W.heap[L]?=some o→o.isCells=false→o'.isCells=false→R W (W.putObj L o')
def Kv {α:Type} (F:Fence) (n:Nat) (P:Program) (g:Nat) (lb:Array Value) (all:List α) (Enc:World→α→Array Value→Prop) (R:World→World→Prop) (w:World):Prop :=
 ∀ (l:Nat) (J Jx:Nat→World→Prop) (W:World),Keep none_ w W→(∀ k,DC (J k))→(∀ k,DC (Jx k)) →
  (∀ (k:Nat) (x:α) (args:Array Value) (W1:World),all[k]?=some x→J k W1→Enc W1 x args→YieldAt F (n - 1) P l args W1 fun e W' =>
   (e = .returned (.bool true)∧J (k+1) W'∧R W1 W')∨(e = .returned (.bool false)∧Jx (k+1) W')) →
  J 0 W →
  CallsIn F n P g (#[.func (.yield l) #[] #[]]++lb) W fun e W'=>(∃ v,e = .returned v)∧(J all.length W'∨∃ k,k≤all.length∧Jx k W')
def N8 (B:Nat) (R:World→World→Prop) (I:Nat→World→Prop) (Ix:Code→Nat→World→Prop) (k:Nat) (W:World):Exit→Act→World→Prop
 | .normal,_,W'=>KeepsFrom B W W'∧R W W'∧I k W'
 | .ret,_,W'=>KeepsFrom B W W'∧Ix .ret k W'
 | .exit id,_,W'=>KeepsFrom B W W'∧Ix (.exit id) k W'
 | .goto t,_,W'=>KeepsFrom B W W'∧Ix (.goto t) k W'
 | .panic _,_,_=>False
 | .outgrown,_,_=>False
variable {F:Fence} {n:Nat} {P:Program}
theorem Qi {α:Type} {g:Operand} {ps:Array Tmp} {assign body:Code} {Q:Exit→Act→World→Prop} {a:Act} {w:World}
 (hro:F.round=none) (h1:1≤n) {gf:Nat} {lb:Array Value} (hg:a.eval g = .func (.func gf) #[] lb) (hFg:F.fn gf) (eg:∀ args w,(callFunc gf args).run P w = .ok (.enter gf args) w)
 {all:List α} {Enc:World→α→Array Value→Prop} {R:World→World→Prop} {N:Nat} (hN:N≤w.heap.size) (hR:Uf N R) (hseq:Kv F (n - 1) P gf lb all Enc R w)
 (hps:∀ W x args,Enc W x args→args.size=ps.size)
 (I:Nat→World→Prop) (Ix:Code→Nat→World→Prop) (hI:OwnFrom w.heap.size I) (hIx:∀ c,OwnFrom w.heap.size (Ix c)) (h0:I 0 w)
 (DZ:∀ (l:Nat) (k:Nat) (x:α) (args:Array Value) (W:World),all[k]?=some x→Enc W x args→I k W →
  assign.wpIn (F.inRound l) (n - 1 - 1) P (Exit.then (fun a₁ W₁=>∃ J:World→Prop,KeepsFrom w.heap.size W W₁∧R W W₁∧J W₁∧OwnFrom w.heap.size (fun (_:Unit) W=>J W) ∧
   ∀ W₂,J W₂→body.wpIn (F.inRound l) (n - 1 - 1) P (N8 w.heap.size R I Ix (k+1) W₂) a₁ W₂) (fun _ _ _=>False))
   { tmps:=(ps.zip args).foldl (fun t (p,v)=>t.setIfInBounds p v) a.tmps,defers:=[] } W)
 (hdone:∀ (D:Nat) (W:World),w.heap.size≤D→I all.length W→W.heap[D]?=some (.deferred (some []))→Q .normal { a with defers:={ target := .collected D,args:=#[] }::a.defers } W)
 (hstop:∀ (D:Nat) (c:Code) (k:Nat) (W:World),w.heap.size≤D→k≤all.length→Ix c k W→W.heap[D]?=some (.deferred (some []))→c.wpIn F n P Q { a with defers:={ target := .collected D,args:=#[] }::a.defers } W) :
 (Code.rangeFunc g ps assign body).wpIn F n P Q a w:=by
 refine wpIn_rangeFunc fun fn hfn=>?_
 rw [hro]
 let jA:LoopState→Option Code→Loop:=fun st pe=>{ state:=st,pending:=pe,fn,tmps:=a.tmps,params:=ps,assign,body,defers:=w.heap.size }
 let D:=w.heap.size
 let L:=w.heap.size+1
 have hNL:N≤L:=by simp [L];omega
 let W1:=(w.alloc (.deferred (some []))).alloc (.loop (jA .ready none))
 have kW1:Keep none_ w W1:=((Keep.refl _ _).alloc _).alloc _
 have sW1:W1.heap.size=w.heap.size+2:=by simp [W1]
 have eL:W1.heap[L]?=some (.loop (jA .ready none)):=by
  have:=World.alloc_heap_new (w.alloc (.deferred (some []))) (.loop (jA .ready none))
  rwa [World.size_alloc] at this
 have eD:W1.heap[D]?=some (.deferred (some [])):=(Below.heap_alloc _ _ _ (by simp [D])).trans (World.alloc_heap_new w _)
 have grow:∀ {β:Type} {B:Nat} {K:β→World→Prop},OwnFrom B K→∀ {s:β} {A C:World},K s A→Keep none_ A C→K s C:=by
  intro β B K hK s A C hs k
  exact hK s A C none hs ⟨k.os,k.tape,k.output,k.size,fun i hi _=>k.block i hi (fun f=>f)⟩ (fun _ e=>by cases e)
 refine ⟨L,[{ target := .collected D,args:=#[] }],W1,{ target := .fn (.func gf) lb,args:=#[.func (.yield L) #[] #[]] },W1,gf,#[.func (.yield L) #[] #[]]++lb,W1,run_enterLoop_outer _ _ _ _ _,?_,?_,?_,fun _=>h1,?_⟩
 ·simp only [resolve,hg];simp [go_sem]
 ·intro f' hf';simp [Target.leads] at hf';subst hf';exact hFg
 ·simp [invoke,go_sem,eg]
 refine (hseq L (fun k W=>I k W∧W.heap[L]?=some (.loop (jA .ready none))∧W.heap[D]?=some (.deferred (some [])))
  (fun k W=>∃ c,Ix c k W∧W.heap[L]?=some (.loop (jA .done (some c)))∧W.heap[D]?=some (.deferred (some []))) W1 kW1 ?_ ?_ ?_ ⟨grow hI h0 kW1,eL,eD⟩).mono ?_
 ·rintro k A C ⟨h,hl,hd⟩ kk
  exact ⟨grow hI h kk,(kk.block L (Array.getElem?_eq_some_iff.1 hl).1 (fun f=>f)).trans hl,(kk.block D (Array.getElem?_eq_some_iff.1 hd).1 (fun f=>f)).trans hd⟩
 ·rintro k A C ⟨c,h,hl,hd⟩ kk
  exact ⟨c,grow (hIx c) h kk,(kk.block L (Array.getElem?_eq_some_iff.1 hl).1 (fun f=>f)).trans hl,(kk.block D (Array.getElem?_eq_some_iff.1 hd).1 (fun f=>f)).trans hd⟩
 ·
  rintro k x args W hx ⟨hi,hl,hd⟩ henc
  refine ⟨fn,_,assign,body,run_yield hl (hps _ _ _ henc),roundIn_of_wpIn hfn (wpIn_mono (DZ L k x args W hx henc hi) ?_)⟩
  rintro e a1 Wa hp1
  cases e<;>try exact hp1.elim
  obtain ⟨Jr,kr,gr,jr,hJr,hbd⟩:=hp1
  have hla:=kr.same L _ (by simp [L]) hl rfl
  have hda:=kr.same D _ (Nat.le_refl _) hd rfl
  have hlt:=(Array.getElem?_eq_some_iff.1 hla).1
  refine ⟨_,run_beginRound hla rfl,?_⟩
  let W2:=Wa.putObj L (.loop { jA .ready none with state := .busy })
  have hl2:W2.heap[L]?=some (.loop { jA .ready none with state := .busy }):=World.putObj_heap_same hlt
  have hd2:W2.heap[D]?=some (.deferred (some [])):=(World.putObj_heap_other (by simp [D,L])).trans hda
  have hj2:Jr W2:=hJr.putObj (s:=()) _ jr (by simp [L]) hla rfl
  refine wpIn_mono (hbd W2 hj2) ?_
  have fin:∀ (j:Option Code) (W3:World),KeepsFrom w.heap.size W2 W3→∃ W4:World,(Instr.endRound L j).run P W3 = .ok (.bool j.isNone) W4∧W4=W3.putObj L (.loop (jA (if j.isNone then .ready else .done) j)) ∧
   (∃ o:Obj,W3.heap[L]?=some o∧o.isCells=false)∧W4.heap[L]?=some (.loop (jA (if j.isNone then .ready else .done) j))∧W4.heap[D]?=some (.deferred (some [])):=fun j W3 k3=>by
   have hl3:=k3.same L _ (by simp [L]) hl2 rfl
   exact ⟨_,run_endRound j hl3,rfl,⟨_,hl3,rfl⟩,World.putObj_heap_same (Array.getElem?_eq_some_iff.1 hl3).1,(World.putObj_heap_other (by simp [D,L])).trans (k3.same D _ (Nat.le_refl _) hd2 rfl)⟩
  rintro e a3 W3 hp
  cases e with
  | normal =>
    obtain ⟨k3,g3,i3⟩:=hp
    obtain ⟨W4,hr,rfl,⟨o,ho,hoc⟩,hl4,hd4⟩:=fin none W3 k3
    exact ⟨_,_,hr,.inl ⟨rfl,⟨hI.putObj _ i3 (by simp [L]) ho hoc,hl4,hd4⟩,hR.trans (hR.trans (hR.trans gr (hR.put Wa L _ _ hNL hla rfl rfl)) g3) (hR.put W3 L o _ hNL ho hoc rfl)⟩⟩
  | ret =>
    obtain ⟨k3,i3⟩:=hp
    obtain ⟨W4,hr,rfl,⟨o,ho,hoc⟩,hl4,hd4⟩:=fin (some .ret) W3 k3
    exact ⟨_,_,hr,.inr ⟨rfl,.ret,(hIx _).putObj _ i3 (by simp [L]) ho hoc,hl4,hd4⟩⟩
  | exit id =>
    obtain ⟨k3,i3⟩:=hp
    obtain ⟨W4,hr,rfl,⟨o,ho,hoc⟩,hl4,hd4⟩:=fin (some (.exit id)) W3 k3
    exact ⟨_,_,hr,.inr ⟨rfl,.exit id,(hIx _).putObj _ i3 (by simp [L]) ho hoc,hl4,hd4⟩⟩
  | goto t =>
    obtain ⟨k3,i3⟩:=hp
    obtain ⟨W4,hr,rfl,⟨o,ho,hoc⟩,hl4,hd4⟩:=fin (some (.goto t)) W3 k3
    exact ⟨_,_,hr,.inr ⟨rfl,.goto t,(hIx _).putObj _ i3 (by simp [L]) ho hoc,hl4,hd4⟩⟩
  | panic ch=>exact hp.elim
  | outgrown=>exact hp.elim
 ·
  rintro e W ⟨⟨v,rfl⟩,(⟨hi,hl,hd⟩|⟨k,hk,c,hi,hl,hd⟩)⟩
  ·exact ⟨none,_,run_endLoop hl (by simp [jA]),hdone D _ (Nat.le_refl _) (hI.putObj _ hi (by simp [L]) hl rfl) ((World.putObj_heap_other (by simp [D,L])).trans hd)⟩
  ·exact ⟨some c,_,run_endLoop hl (by simp [jA]),hstop D c k _ (Nat.le_refl _) hk ((hIx c).putObj _ hi (by simp [L]) hl rfl) ((World.putObj_heap_other (by simp [D,L])).trans hd)⟩
end
section
attribute [local go_sem ↓] jZ
attribute [local go_sem] Oper.semAt_some
open Go.RowKit
def fH (s:Nat→Bool) (size:Nat):List Nat:=(List.range size).filter s
theorem kP {s:Nat→Bool} {size x:Nat}:x∈fH s size↔x<size∧s x=true:=by simp [fH]
theorem Hq (s:Nat→Bool) (size:Nat):(fH s size).Pairwise (· < ·):=(List.pairwise_lt_range (n:=size)).filter _
theorem yx (s:Nat→Bool) (size:Nat):(fH s size).length≤size:=by
 have h:=List.length_filter_le s (List.range size)
 simpa [fH] using h
theorem qh {s:Nat→Bool} {size i j:Nat} (h:i<j) (hj:j<(fH s size).length):(fH s size)[i]'(by omega)<(fH s size)[j]:=(List.pairwise_iff_getElem.1 (Hq s size)) i j (by omega) hj h
theorem Kw {s:Nat→Bool} {size i x y:Nat} (hx:(fH s size)[i]?=some x) (hy:(fH s size)[i+1]?=some y):x<y:=by
 obtain ⟨hi,rfl⟩:=List.getElem?_eq_some_iff.1 hx
 obtain ⟨hj,rfl⟩:=List.getElem?_eq_some_iff.1 hy
 exact qh (Nat.lt_succ_self i) hj
theorem Ky (s:Nat→Bool) (size:Nat):nH s size 0=(fH s size)[0]?:=by
 cases h:(fH s size)[0]? with
 | none =>
   refine qY (fun j _ hj=>?_)
   rw [Bool.eq_false_iff]
   intro hs
   have hm:j∈fH s size:=kP.2 ⟨hj,hs⟩
   have hl:=List.getElem?_eq_none_iff.1 h
   have hnil:fH s size=[]:=List.eq_nil_of_length_eq_zero (by omega)
   rw [hnil] at hm
   cases hm
 | some x =>
   obtain ⟨h0,hx⟩:=List.getElem?_eq_some_iff.1 h
   have hm:x∈fH s size:=by rw [← hx];exact List.getElem_mem h0
   obtain ⟨h1,h2⟩:=kP.1 hm
   refine vK (Nat.zero_le _) h1 h2 (fun j _ hj=>?_)
   rw [Bool.eq_false_iff]
   intro hs
   obtain ⟨i,hi,e⟩:=List.getElem_of_mem (kP.2 ⟨by omega,hs⟩:j∈fH s size)
   rcases Nat.eq_zero_or_pos i with rfl|hp
   ·omega
   ·have:=qh (s:=s) (size:=size) hp hi;omega
theorem N9 {s:Nat→Bool} {size i x:Nat} (hx:(fH s size)[i]?=some x):nH s size (x+1)=(fH s size)[i+1]?:=by
 obtain ⟨hi,rfl⟩:=List.getElem?_eq_some_iff.1 hx
 cases h:(fH s size)[i+1]? with
 | none =>
   refine qY (fun j hj1 hj=>?_)
   rw [Bool.eq_false_iff]
   intro hs
   obtain ⟨q,hq,e⟩:=List.getElem_of_mem (kP.2 ⟨hj,hs⟩:j∈fH s size)
   have hl:=List.getElem?_eq_none_iff.1 h
   rcases (by omega:q<i∨q=i) with h1|rfl
   ·have:=qh (s:=s) (size:=size) h1 hi;omega
   ·omega
 | some y =>
   obtain ⟨h0,hy⟩:=List.getElem?_eq_some_iff.1 h
   have hm:y∈fH s size:=by rw [← hy];exact List.getElem_mem h0
   obtain ⟨h1,h2⟩:=kP.1 hm
   have hlt:(fH s size)[i]<y:=by rw [← hy];exact qh (Nat.lt_succ_self i) h0
   refine vK hlt h1 h2 (fun j hj1 hj2=>?_)
   rw [Bool.eq_false_iff]
   intro hs
   obtain ⟨q,hq,e⟩:=List.getElem_of_mem (kP.2 ⟨by omega,hs⟩:j∈fH s size)
   rcases (by omega:q<i+1∨q=i+1∨i+1<q) with h3|rfl|h3
   ·rcases (by omega:q<i∨q=i) with h4|rfl
    ·have:=qh (s:=s) (size:=size) h4 hi;omega
    ·omega
   ·omega
   ·have:=qh (s:=s) (size:=size) h3 hq;omega
structure iU (Ts:List TypeId) (N:Nat) (W W':World):Prop where
 size:W.heap.size≤W'.heap.size
 old:∀ b,b<N→W'.heap[b]?=W.heap[b]?
 blk:∀ b cs T,Ts.contains T=true→Blk W b cs T→Blk W' b cs T
theorem iU.refl (Ts:List TypeId) (N:Nat) (W:World):iU Ts N W W:=⟨Nat.le_refl _,fun _ _=>rfl,fun _ _ _ _ h=>h⟩
theorem iU.trans {Ts:List TypeId} {N:Nat} {A B C:World} (h:iU Ts N A B) (k:iU Ts N B C):iU Ts N A C:=⟨Nat.le_trans h.size k.size,fun b hb=>(k.old b hb).trans (h.old b hb),fun b cs T' hT hb=>k.blk b cs T' hT (h.blk b cs T' hT hb)⟩
theorem iU.rel (Ts:List TypeId) (N:Nat):Uf N (iU Ts N):=⟨iU.trans,fun W L o o' hL ho hc _=>⟨by simp,fun b hb=>World.putObj_heap_other (by omega),fun b cs T' _ hb=>hb.putObj ho hc⟩⟩
theorem iU.set {Ts:List TypeId} {N:Nat} {W W':World} {B X size:Nat} {ws:List Nat} (h:iU Ts N W W') (h1:Ts.contains 149=true) (h2:Ts.contains 146=true) (hs:dR W B X size ws):dR W' B X size ws:=by
 obtain ⟨⟨cap,hb⟩,⟨cur,hc,hv⟩,hl,hlt,hsz⟩:=hs
 exact ⟨⟨cap,h.blk _ _ _ h1 hb⟩,⟨cur,h.blk _ _ _ h2 hc,hv⟩,hl,hlt,hsz⟩
theorem iU.tab {Ts:List TypeId} {N:Nat} {W W':World} (h:iU Ts N W W') (hN:1<N) (hs:jU W):jU W':=fun j hj=>by
 rw [World.cell?_of_block (w:=W) (h.old _ hN)];exact hs j hj
def Kz (_:World) (x:Nat) (args:Array Value):Prop:=args=#[.int .i64 (x:Int)]
def KA:List TypeId:=[149,146]
section
variable {w w':World} {B X size:Nat} {W:List Nat}
theorem Ug (B:Nat) (w:World):Calls Tryz.prog 47 #[.pointer (some ⟨B,0,none⟩)] w fun e w'=>e = .returned (.func (.func 87) #[] #[.pointer (some ⟨w.heap.size,0,none⟩)])∧w'=w.alloc (.cells #[.pointer (some ⟨B,0,none⟩)] 99):=by
 have hmf:∀ (fn:Fn) (first cap:Array Value) (w:World),(Instr.makeFunc fn first cap).run Tryz.prog w = .ok (.func fn first cap) w:=fun _ _ _ _=>rfl
 go_enter Tryz.func47,Tryz.ntmps47
 go_wp2_with fail
 go_ret
 exact ⟨rfl,rfl⟩
def allM (size:Nat) (v:Value):Value→Nat
 | .bool true=>size+1 - (intOf v).toNat
 | _=>0
theorem zO (x:Option Nat):∃ (a:Nat) (b:Bool),pU x = .tuple #[.int .i64 (a:Int),.bool b]:=by
 cases x with
 | none=>exact ⟨0,false,rfl⟩
 | some k=>exact ⟨k,true,rfl⟩
theorem RS {N:Nat} (h:dR w B X size W) (h1:1≤size) (hT:jU w) (hN:1<N) (pB:Nat) (hp:Blk w pB [.pointer (some ⟨B,0,none⟩)] 99) (m:Nat) :
 Kv Fence.wide m Tryz.prog 87 #[.pointer (some ⟨pB,0,none⟩)] (fH (fZ W) size) Kz (iU KA N) w:=by
 intro l J Jx W1 hW hJ hJx hY h0
 have hs1:=h.still hW
 have hp1:=hW.blk hp (fun f=>f)
 have hsz:=h.sz
 have c0:=hp1.cell 0 (v := .pointer (some ⟨B,0,none⟩)) rfl
 have HC:=Lib.hid (Bv hs1 h1)
 have HT1:=Lib.hid (hT.still hW)
 have HF:=Lib.hid (Ky (fZ W) size)
 have HTH:Hid (∀ i x,(fH (fZ W) size)[i]?=some x→nH (fZ W) size (x+1)=(fH (fZ W) size)[i+1]?∧x<size∧∀ y,(fH (fZ W) size)[i+1]?=some y→x<y∧y<size):=fun i x hx=>⟨N9 hx,(kP.1 (List.mem_of_getElem? hx)).1,fun y hy=>⟨Kw hx hy,(kP.1 (List.mem_of_getElem? hy)).1⟩⟩
 have HNX:Hid (∀ V B' X' (n:Nat),dR V B' X' size W→jU V→n≤4194304→Calls Tryz.prog 89 #[.pointer (some ⟨B',0,none⟩),.int .i64 (n:Int)] V fun e w'=>e = .returned (pU (nH (fZ W) size n))∧V=w'):=fun V B' X' n h2 h3 h4=>N7 h2 h3 n h4
 have HKT:Hid (∀ V V' B' X',iU KA N V V'→dR V B' X' size W→jU V→dR V' B' X' size W∧jU V'):=fun V V' B' X' k h2 h3=>⟨k.set (by decide) (by decide) h2,k.tab hN h3⟩
 have HJG:=Lib.hid hJ
 have H0:=Lib.hid h0
 have HY:=Lib.hid hY
 generalize nH (fZ W) size=nx at *
 generalize fH (fZ W) size=L at *
 clear h hT hp hs1 hp1 hW hJ hJx hY h0
 refine callsIn_of_wp Tryz.func87 rfl trivial ?_ rfl
 simp only [Tryz.ntmps87,List.size_toArray,List.length_cons,List.length_nil,Nat.reduceAdd,Nat.reduceSub,Array.replicate_succ,Array.replicate_zero,List.push_toArray,List.append_toArray,List.nil_append,List.cons_append]
 gi_wp2_with fail
 refine ⟨trivial,fun h=>(by cases h),CallsIn.mono (callsIn_wide.2 HC.out) ?_⟩
 rintro e w1 ⟨B',X',rfl,hs2,_,_,k2⟩
 have HT2:=Lib.hid (HT1.out.still k2)
 have HS2:=Lib.hid hs2
 have HJ2:=Lib.hid (HJG.out 0 _ _ H0.out k2)
 have HN2:=Lib.hid (HNX.out w1 B' X' 0 hs2 (HT1.out.still k2) (by decide))
 clear k2 hs2 HT1 HC H0 c0
 obtain ⟨a0,b0,hv0⟩:=zO (nx 0)
 rw [hv0] at HN2
 rw [HF.out] at hv0
 have HV0:=Lib.hid hv0
 clear hv0 HF
 gi_wp2_with fail
 refine ⟨trivial,fun h=>(by cases h),CallsIn.mono (callsIn_wide.2 HN2.out) ?_⟩
 rintro e w2 ⟨rfl,rfl⟩
 clear HN2
 gi_wp2_with fail
 gi_loopw [4,5] (fun v4 v5 wr=>∃ (j a:Nat) (b:Bool),v4 = .int .i64 (a:Int)∧v5 = .bool b∧pU L[j]? = .tuple #[.int .i64 (a:Int),.bool b]∧j≤L.length∧J j wr∧dR wr B' X' size W∧jU wr) (fun v4 v5 _=>allM size v4 v5)
 case atStart=>exact ⟨0,a0,b0,rfl,rfl,HV0.out,Nat.zero_le _,HJ2.out,HS2.out,HT2.out⟩
 case round =>
  obtain ⟨j,a,b,rfl,rfl,hv,hj,hJj,hs,ht⟩:=hrel
  cases hLj:L[j]? with
  | none =>
    rw [hLj] at hv
    obtain ⟨rfl,rfl⟩:a=0∧b=false:=by
     simp only [pU,Value.tuple.injEq,Array.mk.injEq,List.cons.injEq,Value.int.injEq,Value.bool.injEq] at hv
     exact ⟨by omega,by have:=hv.2.1;exact this.symm⟩
    have hlen:=List.getElem?_eq_none_iff.1 hLj
    have HJE:Hid (J L.length wr):=by
     have e:j=L.length:=by omega
     rw [← e];exact hJj
    clear hv hj hJj hs ht hLj hlen
    gi_wp2_with fail
    go_end0
    exact ⟨⟨_,rfl⟩,.inl HJE.out⟩
  | some x =>
    rw [hLj] at hv
    obtain ⟨rfl,rfl⟩:a=x∧b=true:=by
     simp only [pU,Value.tuple.injEq,Array.mk.injEq,List.cons.injEq,Value.int.injEq,Value.bool.injEq] at hv
     exact ⟨by omega,by have:=hv.2.1;exact this.symm⟩
    obtain ⟨hth,hxs,hys⟩:=HTH.out j a hLj
    have HYS:=Lib.hid hys
    have hjl:=(List.getElem?_eq_some_iff.1 hLj).1
    have HJ:=Lib.hid hJj
    have HXS:=Lib.hid hxs
    have HJL:=Lib.hid hjl
    have HST:=Lib.hid (And.intro hs ht)
    have HTX:=Lib.hid hth
    have hwr:IntKind.i64.wrap ((a:Int)+1)=(a:Int)+1:=IntWalk.i64_in _ (by omega)
    obtain ⟨fn,tmps,assign,body,hy,hR⟩:=HY.out j a #[.int .i64 (a:Int)] wr hLj HJ.out rfl
    clear hv hj hJj hs ht hLj hth hxs hjl hys
    gi_wp2_with fail
    refine ⟨fun h=>(by cases h),hR.mono ?_⟩
    rintro e W' (⟨rfl,hJ',hk⟩|⟨rfl,xI⟩)
    ·obtain ⟨hs',ht'⟩:=HKT.out _ _ _ _ hk HST.out.1 HST.out.2
     have HN3:=Lib.hid (HNX.out W' B' X' (a+1) hs' ht' (by have:=HXS.out;omega))
     rw [show (((a+1:Nat)):Int)=(a:Int)+1 from by push_cast;rfl] at HN3
     obtain ⟨a3,b3,hv3⟩:=zO (nx (a+1))
     rw [hv3] at HN3
     rw [HTX.out] at hv3
     have HV3:=Lib.hid hv3
     have HE:=Lib.hid (And.intro hJ' (And.intro hs' ht'))
     clear hJ' hk hs' ht' hv3
     gi_wp2_with fail
     refine ⟨trivial,fun h=>(by cases h),CallsIn.mono (callsIn_wide.2 HN3.out) ?_⟩
     rintro e w3 ⟨rfl,rfl⟩
     clear HN3
     gi_wp2_with fail
     go_roundw
     case rel=>exact ⟨j+1,a3,b3,rfl,rfl,HV3.out,HJL.out,HE.out.1,HE.out.2.1,HE.out.2.2⟩
     case measure =>
      have hxs:=HXS.out
      have hv3:=HV3.out
      cases b3 with
      | false=>simp [allM,intOf];omega
      | true =>
        cases hL2:L[j+1]? with
        | none=>rw [hL2] at hv3;simp [pU] at hv3
        | some y =>
          rw [hL2] at hv3
          have e9:y=a3:=by
           simp only [pU,Value.tuple.injEq,Array.mk.injEq,List.cons.injEq,Value.int.injEq] at hv3
           omega
          have h9:=HYS.out y hL2
          simp [allM,intOf];omega
    ·gi_wp2_with fail
     refine bodyPost_ret (results_none rfl _ _ _) rfl ?_
     exact ⟨⟨_,rfl⟩,.inr ⟨j+1,by have:=HJL.out;omega,xI⟩⟩
end
structure ClI (w:World) (N1 oB:Nat) (l:List Nat) (j:Nat) (W:World):Prop where
 keep:Keep none_ w W
 big:N1≤W.heap.size
 o:∃ v,Blk W oB [v] 32∧W.ownsRow N1 3 1 v j (aC (l.take j))
section
variable {w W W':World} {N1 oB j:Nat} {l:List Nat}
theorem ClI.own (hw:w.heap.size≤N1):OwnFrom N1 (ClI w N1 oB l):=by
 rintro s W W' row ⟨h1,h2,v,h3,h4⟩ hg hr
 refine ⟨ng (β:=Nat) hw s W W' row h1 hg hr,Nat.le_trans h2 hg.size,v,iy (β:=Nat) (cs:=fun _=>_) s W W' row h3 hg hr,?_⟩
 refine fD (S:=fun i=>row=some i) h4 ⟨hg.os,hg.tape,hg.output,hg.size,fun k hk n=>hg.block k hk (fun e=>n e.symm)⟩ (fun g hg' e=>?_)
 obtain ⟨_,o,ho,hc⟩:=hr g e
 obtain ⟨cur,hcur⟩:=kJ (dP h4 (Nat.zero_le _)) hg'
 rw [hcur] at ho
 cases ho
 simp [Obj.isCells] at hc
end
theorem KC (gf:Nat) (lb:Array Value) (l:List Nat) (Ts:List TypeId) (ht1:Ts.contains 3=false) (ht2:Ts.contains 32=false) (hl:l.length≤4000000) (w:World) (eg:∀ args w,(callFunc gf args).run Tryz.prog w = .ok (.enter gf args) w)
 (hseq:∀ W,Keep none_ w W→Kv Fence.wide 8 Tryz.prog gf lb l Kz (iU Ts w.heap.size) W) :
 Calls Tryz.prog 86 #[.slice none 0 0,.func (.func gf) #[] lb] w fun e w'=>∃ v,e = .returned v∧w'.ownsRow w.heap.size 3 1 v l.length (aC l)∧Keep none_ w w':=by
 obtain ⟨W0,hW0⟩:∃ W',W'=w.alloc (.cells #[.slice none 0 0] 32):=⟨_,rfl⟩
 have hk0:Keep none_ w W0:=by rw [hW0];exact (Keep.refl _ _).alloc _
 have hb0:Blk W0 w.heap.size [.slice none 0 0] 32:=by rw [hW0];exact Blk.new w _ _
 have hs0:W0.heap.size=w.heap.size+1:=by rw [hW0];simp
 have HSQ:=Lib.hid (hseq W0 hk0)
 have HI0:Hid (ClI w W0.heap.size w.heap.size l 0 W0):=⟨hk0,Nat.le_refl _,_,hb0,⟨rfl,.inl ⟨rfl,rfl⟩⟩⟩
 have HS0:Hid (w.heap.size<W0.heap.size):=by unfold Hid;omega
 have HL:=Lib.hid hl
 have HT1:=Lib.hid ht1
 have HT2:=Lib.hid ht2
 have HW0:=Lib.hid hW0
 clear hseq hk0 hb0 hs0 hW0 hl ht1 ht2
 refine (callsIn_wide (n:=9)).1 ?_
 refine callsIn_of_wp_marks Tryz.func86 rfl trivial ?_ rfl
 refine wpIn_wide.2 ?_
 simp only [Tryz.ntmps86,List.size_toArray,List.length_cons,List.length_nil,Nat.reduceAdd,Nat.reduceSub,Array.replicate_succ,Array.replicate_zero,List.push_toArray,List.append_toArray,List.nil_append,List.cons_append]
 go_wp2_with fail
 rw [← HW0.out]
 refine wpIn_wide (n:=9) |>.1 ?_
 refine Qi rfl (by decide) (gf:=gf) (lb:=lb) rfl trivial eg (all:=l) (Enc:=Kz) (R:=iU Ts w.heap.size) (N:=w.heap.size) (Nat.le_of_lt HS0.out) (iU.rel _ _)
  HSQ.out ?hps (fun j W=>ClI w W0.heap.size w.heap.size l j W) (fun _ _ _=>False) ?hI ?hIx ?h0 ?round ?done ?stop
 case hI=>exact ClI.own (Nat.le_of_lt HS0.out)
 case hIx=>exact fun c s W W' row h hg hr=>h
 case h0=>exact HI0.out
 case hps =>
  rintro W x args h
  rw [h];rfl
 case stop=>exact fun D c k W hD hk h=>h.elim
 case round =>
  rintro q j x args W hx henc hI
  have hj:j<l.length:=(List.getElem?_eq_some_iff.1 hx).1
  obtain rfl:args=#[.int .i64 (x:Int)]:=henc
  have HSN:Hid (l.take (j+1)=l.take j++[x]):=by unfold Hid;rw [List.take_add_one,hx];rfl
  have HJ:=Lib.hid hj
  have HI:=Lib.hid hI
  clear hI hx hj
  gi_wp2_with fail
  refine ⟨fun W=>ClI w W0.heap.size w.heap.size l j W,KeepsFrom.refl _ _,iU.refl _ _ _,HI.out,(fun _ W' W'' row h hg hr=>ClI.own (Nat.le_of_lt HS0.out) j W' W'' row h hg hr),?_⟩
  clear HI
  rintro w3 hI
  obtain ⟨v,hbo,hrow⟩:=hI.o
  have HI3:=Lib.hid hI
  obtain ⟨W4,hW4⟩:∃ W',W'=w3.alloc (.cells #[.int .i64 (x:Int)] 3):=⟨_,rfl⟩
  have hk4:Keep none_ w3 W4:=by rw [hW4];exact (Keep.refl _ _).alloc _
  obtain ⟨g,cap,w5,hrun,hown,hgr,hwh⟩:=mQ (P:=Tryz.prog) W4 32 32 3 (by kernel_rfl) Tryz.infoInt rfl (dP (fA hrow hk4) (Nat.zero_le _)) (N:=w3.heap.size) (u := .int .i64 (x:Int)) (by rw [hW4];exact (Blk.new w3 _ _).cell 0 rfl) rfl (by decide) (by have:=HL.out;have:=HJ.out;omega)
  have hrun9:(app9 #[32,32] 32 #[v,.slice (some ⟨w3.heap.size,0,none⟩) 1 1]).run Tryz.prog (w3.alloc (.cells #[.int .i64 (x:Int)] 3)) = .ok (.slice (some ⟨g,0,none⟩) (j+1) cap) w5:=by rw [← hW4];exact hrun
  have cO:=hbo.cell 0 (v:=v) rfl
  have hne:v.ownBlock≠some w.heap.size:=own_ne hbo hrow (by decide)
  have hbo5:=(hk4.blk hbo (fun f=>f)).grown hgr hne
  have cO4:∀ o,(w3.alloc o).cell? ⟨w.heap.size,0,none⟩=some v:=fun o=>(hbo.alloc o).cell 0 rfl
  have cO5:=hbo5.cell 0 (v:=v) rfl
  have fO5:=hbo5.free 0
  have hge:∀ q,v.ownBlock=some q→W0.heap.size≤q:=fun q hq=>(World.ownsRow.lt hrow q hq).1
  have hge':W0.heap.size≤g:=by
   rcases hwh with h|h
   ·exact hge g h
   ·have h1:=HI3.out.big;have h2:=hk4.size;omega
  have dO:Hid (ClI w W0.heap.size w.heap.size l (j+1) (w5.setCell ⟨w.heap.size,0,none⟩ (.slice (some ⟨g,0,none⟩) (j+1) cap))∧KeepsFrom W0.heap.size w3 (w5.setCell ⟨w.heap.size,0,none⟩ (.slice (some ⟨g,0,none⟩) (j+1) cap))∧iU Ts w.heap.size w3 (w5.setCell ⟨w.heap.size,0,none⟩ (.slice (some ⟨g,0,none⟩) (j+1) cap))):=by
   have hk5:Keep none_ w w5:=(HI3.out.keep.trans hk4).grew (fA hrow hk4) (Nat.le_of_lt HS0.out) hgr
   have h01:=HS0.out
   have hneq:∀ q,q<W0.heap.size→v.ownBlock≠some q:=fun q hq e=>by have:=hge q e;omega
   refine ⟨⟨hk5.dJ (Nat.le_refl _) _ _,?_,.slice (some ⟨g,0,none⟩) (j+1) cap,hbo5.set 0 _,?_⟩,?_,?_,fun b hb=>?_,fun b cs T hT hb=>?_⟩
   ·have h1:=HI3.out.big;have h2:=hk4.size;have h3:=hgr.size;simp;omega
   ·have e:aC (l.take (j+1))=aC (l.take j)++[.int .i64 (x:Int)]:=by rw [HSN.out];simp [aC]
    rw [e]
    exact D9 (oz (a:=⟨w.heap.size,0,none⟩) hown (fun q hq=>by simp [Value.ownBlock] at hq;show q≠w.heap.size;omega) _) hge'
   ·refine (KeepsFrom.mZ hk4).trans (KeepsFrom.trans (Y:=w5) ⟨hgr.size,fun q o hB hq ho=>(hgr.block q (Array.getElem?_eq_some_iff.1 hq).1 (fun e=>?_)).trans hq⟩ ((KeepsOthers.setCell _ _ _).from _))
    obtain ⟨cur,hcur⟩:=kJ (dP (fA hrow hk4) (Nat.zero_le _)) e.symm
    rw [hcur] at hq
    cases hq
    simp [Obj.isCells] at ho
   ·have h2:=hk4.size;have h3:=hgr.size;simp;omega
   ·have hb3:b<w3.heap.size:=by have:=HI3.out.big;omega
    rw [Below.heap_setCell _ _ _ _ (by simp;omega),hgr.block b (Nat.lt_of_lt_of_le hb3 hk4.size) (fun e=>hneq b (by omega) e.symm)]
    exact hk4.block b hb3 (fun f=>f)
   ·have hT1:=HT1.out
    have hT2:=HT2.out
    have n1:T≠3:=fun e=>by rw [e] at hT;rw [hT] at hT1;cases hT1
    have n2:T≠32:=fun e=>by rw [e] at hT;rw [hT] at hT2;cases hT2
    have hb4:=hk4.blk hb (fun f=>f)
    have hb5:Blk w5 b cs T:=hb4.grown hgr (own_ne hb4 (fA hrow hk4) (Ne.symm n1))
    refine hb5.other (fun e=>n2 ?_) _
    rw [e] at hb5
    exact (hb5.uniq hbo5).2
  clear hge hge' hne hbo hbo5 hgr hown hwh hrun hk4 hrow hW4 hI
  gi_wp2_with fail
  exact ⟨dO.out.2.1,dO.out.2.2,dO.out.1⟩
 case done =>
  rintro D W hD hI hKd
  obtain ⟨v,hbo,hrow⟩:=hI.o
  rw [List.take_length] at hrow
  have cO:=hbo.cell 0 (v:=v) rfl
  have hKp:=hI.keep.takeDeferred (D:=D) (by have:=HS0.out;omega) (.deferred none)
  have rF:=Lib.hid hrow
  clear hrow
  go_wp2_with fail
  refine ⟨by simp,.inl ⟨_,_,rfl,run_takeDeferred hKd,?_⟩⟩
  refine ⟨v,by simp [results,Tryz.f86,go_sem],v,rfl,dP (fD (S:=fun i=>i=D) rF.out ⟨rfl,rfl,rfl,by simp,fun q _ n=>World.putObj_heap_other n⟩ (fun q hq e=>?_)) (Nat.le_of_lt HS0.out),hKp⟩
  obtain ⟨cur,hcur⟩:=kJ (dP rF.out (Nat.zero_le _)) hq
  rw [e,hKd] at hcur
  cases hcur
theorem Hr (gf:Nat) (lb:Array Value) (l:List Nat) (Ts:List TypeId) (ht1:Ts.contains 3=false) (ht2:Ts.contains 32=false) (hl:l.length≤4000000) (w:World) (eg:∀ args w,(callFunc gf args).run Tryz.prog w = .ok (.enter gf args) w)
 (hseq:∀ W,Keep none_ w W→Kv Fence.wide 8 Tryz.prog gf lb l Kz (iU Ts w.heap.size) W) :
 Calls Tryz.prog 46 #[.func (.func gf) #[] lb] w fun e w'=>∃ v,e = .returned v∧w'.ownsRow w.heap.size 3 1 v l.length (aC l)∧Keep none_ w w':=by
 have HA:=Lib.hid (KC gf lb l Ts ht1 ht2 hl w eg hseq)
 clear hseq hl
 go_enter Tryz.func46,Tryz.ntmps46
 go_wp2_with fail
 refine HA.out.mono ?_
 rintro e w1 ⟨v,rfl,h1,k1⟩
 have HE:=Lib.hid (And.intro h1 k1)
 clear h1 k1 HA
 go_wp2_with fail
 go_ret
 exact ⟨v,rfl,HE.out.1,HE.out.2⟩
end
section
attribute [local go_sem] Oper.semAt_some
open Go.RowKit
def HS.objs (H:HS):List Nat:=fH H.bn H.sz
section
variable {w w':World} {D:Nat→Nat} {H:HS}
theorem KD {s s':Nat→Bool} {size:Nat} (h:∀ k,k<size→s k=s' k):fH s size=fH s' size:=List.filter_congr (fun x hx=>h x (List.mem_range.1 hx))
theorem Ht {B X size:Nat} {s:Nat→Bool} (h:jq w B X size s) (h1:1≤size) (hT:jU w):∀ W,W=w.alloc (.cells #[.pointer (some ⟨B,0,none⟩)] 99)→Calls Tryz.prog 46 #[.func (.func 87) #[] #[.pointer (some ⟨w.heap.size,0,none⟩)]] W fun e w'=>∃ v,e = .returned v∧w'.ownsRow w.heap.size 3 1 v (fH s size).length (aC (fH s size))∧Keep none_ w w':=by
 intro W hW
 obtain ⟨ws,hs,hb⟩:=h
 have hk:Keep none_ w W:=by rw [hW];exact (Keep.refl _ _).alloc _
 have hp:Blk W w.heap.size [.pointer (some ⟨B,0,none⟩)] 99:=by rw [hW];exact Blk.new w _ _
 have e:fH (fZ ws) size=fH s size:=KD (fun k hk=>by
  rw [← hb k]
  unfold iG
  rw [decide_eq_true (by omega),Bool.true_and,Int.toNat_natCast])
 have hsz:=hs.sz
 have hdB:1<w.heap.size:=World.block_lt_of_cell? _ _ (hT 0 (by decide))
 have hl:=yx s size
 refine (Hr 87 #[.pointer (some ⟨w.heap.size,0,none⟩)] (fH s size) KA (by decide) (by decide) (by omega) W (fun args w=>by simp [callFunc,Tryz.func87,go_sem];rfl) (fun V hV=>?_)).mono ?_
 ·rw [← e]
  exact RS ((hs.still hk).still hV) h1 ((hT.still hk).still hV) (Nat.lt_of_lt_of_le hdB hk.size) w.heap.size (hV.blk hp (fun f=>f)) 8
 ·rintro e w' ⟨v,rfl,h2,k2⟩
  exact ⟨v,rfl,dP h2 hk.size,hk.trans k2⟩
theorem vN (h:au w D H) (hT:jU w):Calls Tryz.prog 23 #[.pointer (some ⟨D 0,0,none⟩)] w fun e w'=>∃ v,e = .returned v∧w'.ownsRow w.heap.size 3 1 v H.objs.length (aC H.objs)∧Keep none_ w w':=by
 have c3:=h.blk.cell 3 rfl
 have HC:=Lib.hid (Ht h.born (by show 1≤H.b*H.ww+1;omega) hT)
 unfold HS.objs
 generalize fH H.bn H.sz=l at *
 clear h hT
 go_enter Tryz.func23,Tryz.ntmps23
 go_wp2_with fail
 refine (Ug _ _).mono ?_
 rintro e w1 ⟨rfl,hw⟩
 have HC1:=Lib.hid (HC.out w1 hw)
 clear HC hw c3
 go_wp2_with fail
 refine HC1.out.mono ?_
 rintro e w2 ⟨v,rfl,h1,k1⟩
 have HE:=Lib.hid (And.intro h1 k1)
 clear h1 k1 HC1
 go_wp2_with fail
 go_ret
 exact ⟨v,rfl,HE.out.1,HE.out.2⟩
end
end
end Go.Proofs.YtanfphjoebobaaaGreatDoor
