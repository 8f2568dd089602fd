/- Parts of a walk, put together and made shorter by a program of mine. No conditions. -/
import Derived.Test.YtanfphjoebobaaaGreatDoorZzcf
import Derived.Test.YtanfphjoebobaaaGreatDoorZzcn
import Derived.Test.YtanfphjoebobaaaGreatDoorZzch
import Derived.BigRegion
import Derived.Test.YtanfphjoebobaaaGreatDoorZzcg
import Derived.Test.YtanfphjoebobaaaGreatDoorZzca
import Derived.Test.YtanfphjoebobaaaGreatDoorZzcd
import Derived.Laws.OwnMore
namespace Go.Proofs.YtanfphjoebobaaaGreatDoor
set_option maxRecDepth 100000
set_option maxHeartbeats 4000000
section
attribute [local go_sem ↓] jZ
attribute [local go_sem] Oper.semAt_some
open Go.RowKit
theorem Rk {P:Program} {o:Ow} (w:World) (t ty e:TypeId) (ht:P.underlying t=some (.slice e)) {z:Value} {bytes:Nat} (hi:(P.info? e).map (fun i=>(i.zero,i.size,i.bytes))=some (some z,1,bytes)) (hzs:z.cells.size=1)
 {a:Option Addr} {n:Nat} {xs:List Value} (hrow:aV o w e (.slice a n n) xs) (hnil:a=none→n=0) {N:Nat} {u:Value} (hN:w.cell? ⟨N,0,none⟩=some u) (hu:u.oneCell'=true) (hb:bytes≤1000) (hn:n≤100000000000) :
 ∃ g cap w',(Builtin.append_ #[t,t] ty #[.slice a n n,.slice (some ⟨N,0,none⟩) 1 1]).run P w = .ok (.slice (some ⟨g,0,none⟩) (n+1) cap) w'∧w'.ownsRow w.heap.size e 1 (.slice (some ⟨g,0,none⟩) (n+1) cap) (n+1) (xs++[u])∧w.grownBy w' none∧w.heap.size≤g:=by
 obtain ⟨i,hi1,hi2,hi3,hi4⟩:=info_parts hi
 have hbytes:(n+1)*bytes≤140737488355328:=Nat.le_trans (Nat.mul_le_mul (show n+1≤100000000001 by omega) hb) (by decide)
 have hnews:∀ j x,[u][j]?=some x→w.cell? ((⟨N,0,none⟩:Addr).add j)=some x:=by
  intro j x hj
  cases j with
  | zero=>simp at hj;subst hj;simpa [Addr.add] using hN
  | succ j=>simp at hj
 have h1:∀ x∈[u],x.oneCell'=true:=by simpa using hu
 have shape:∀ {v':Value} {W:World} {B:Nat},W.ownsRow B e 1 v' (n+1) (xs++[u])→∃ g cap,v' = .slice (some ⟨g,0,none⟩) (n+1) cap∧B≤g:=by
  intro v' W B h
  rcases h.2 with ⟨_,h0⟩|⟨g,cap,cur,rfl,hB,_⟩
  ·omega
  ·exact ⟨g,cap,rfl,hB⟩
 obtain ⟨a',c',ee,hl,hm,hc⟩:=hrow
 simp only [Value.slice.injEq] at ee
 obtain ⟨rfl,hnx,rfl⟩:=ee
 cases a with
 | none =>
   have h0:=hnil rfl
   subst h0
   have hx:xs=[]:=List.eq_nil_of_length_eq_zero hnx.symm
   subst hx
   have hown':w.ownsRow w.heap.size e 1 (.slice none 0 0) 0 []:=⟨rfl,.inl ⟨rfl,rfl⟩⟩
   obtain ⟨v',w',hr,h2,h3,_⟩:=run_append_own (P:=P) w w.heap.size t ty e i z 1 bytes ht hi1 hi2 hi3 hi4 hzs (by decide) _ 0 [] hown' ⟨N,0,none⟩ 1 1 [u] rfl hnews h1 (by unfold maxLen;omega) hbytes (Nat.le_refl _)
   obtain ⟨g,cap,rfl,hB⟩:=shape h2
   exact ⟨g,cap,w',hr,h2,h3,hB⟩
 | some ad =>
   have holds:∀ j x,xs[j]?=some x→w.cell? (ad.add j)=some x:=fun j x hj=>by
    have hlt:=(List.getElem?_eq_some_iff.1 hj).1
    obtain ⟨b,off,cs,e1,_,hb1,hj2⟩:=hc (by omega)
    cases e1
    have ea:(⟨b,off,none⟩:Addr).add j=⟨b,off+j,none⟩:=by simp only [Addr.add];split<;>simp_all
    rw [ea]
    exact hb1.cell _ ((hj2 j hlt).trans hj)
   obtain ⟨v',w',hr,h2,h3⟩:=run_append_arg_grows (P:=P) w t ty e i z 1 bytes ht hi1 hi2 hi3 hi4 hzs (by decide) ad n n xs (by omega) holds ⟨N,0,none⟩ 1 1 [u] rfl hnews (by omega) (by unfold maxLen;omega) hbytes
   obtain ⟨g',cap',rfl,hB⟩:=shape h2
   exact ⟨g',cap',w',hr,h2,h3,hB⟩
def Jw (v:Value):Prop:=∀ n c,v = .slice none n c→c=0
def cZ (o:Ow) (w:World) (b:Nat) (T:TypeId) (rest:List Value) (xs:List Nat):Prop:=o b≠0∧∃ v,Blk w b (v::rest) T∧aV o w 3 v (aC xs)∧Jw v
section
variable {o:Ow} {w w':World} {b:Nat} {T:TypeId} {rest:List Value} {xs:List Nat}
theorem cZ.keep {S:Nat→Prop} (h:cZ o w b T rest xs) (k:Keep S w w') (hb:¬ S b) (h0:∀ x,o x=0→¬ S x):cZ o w' b T rest xs:=by
 obtain ⟨ho,v,h1,h2,h3⟩:=h
 exact ⟨ho,v,k.blk h1 hb,h2.keep k h0,h3⟩
theorem cZ.still (h:cZ o w b T rest xs) (k:Keep none_ w w'):cZ o w' b T rest xs:=h.keep k (fun f=>f) (fun _ _ f=>f)
theorem cZ.ext {o':Ow} (h:cZ o w b T rest xs) (e:aH w o o'):cZ o' w b T rest xs:=by
 obtain ⟨ho,v,h1,h2,h3⟩:=h
 exact ⟨by rw [e b h1.lt];exact ho,v,h1,h2.ext e,h3⟩
theorem cZ.form (h:cZ o w b T rest xs):∃ a c,w.cell? ⟨b,0,none⟩=some (.slice a xs.length c)∧aV o w 3 (.slice a xs.length c) (aC xs)∧Blk w b (.slice a xs.length c::rest) T∧xs.length≤c∧xs.length≤4000000000000∧w.frozen? ⟨b,0,none⟩=false∧(a=none→c=0):=by
 obtain ⟨ho,v,h1,h2,h3⟩:=h
 obtain ⟨a,c,rfl,hl,hm,hc⟩:=id h2
 have e:(aC xs).length=xs.length:=by simp [aC]
 rw [e] at h1 h2 hl hm
 exact ⟨a,c,h1.cell 0 rfl,h2,h1,hl,hm,h1.free 0,fun e=>h3 _ c (by rw [e])⟩
theorem cZ.set (h:cZ o w b T rest xs) {v:Value} {ys:List Nat} (hv:aV o w 3 v (aC ys)) (hn:Jw v):cZ o (w.setCell ⟨b,0,none⟩ v) b T rest ys:=by
 obtain ⟨ho,u,h1,h2,h3⟩:=h
 exact ⟨ho,v,h1.set 0 v,hv.DF ((Keep.refl _ _).put 0 v) ho,hn⟩
theorem nZ (h:cZ o w b T rest xs):Calls Tryz.prog 212 #[.pointer (some ⟨b,0,none⟩)] w fun e w'=>e = .returned (.int .i64 (xs.length:Int))∧w=w':=by
 obtain ⟨a,c,hc,_⟩:=h.form
 clear h
 go_enter Tryz.func212,Tryz.ntmps212
 go_wp2_with fail
 go_ret
 exact ⟨rfl,rfl⟩
theorem ML (h:cZ o w b T rest xs):Calls Tryz.prog 213 #[.pointer (some ⟨b,0,none⟩)] w fun e w'=>∃ v,e = .returned v∧w'.ownsRow w.heap.size 3 1 v xs.length (aC xs)∧Keep none_ w w':=by
 obtain ⟨a,c,hc,hr,hb,hl,hm,_,hnil⟩:=h.form
 have HC:=Lib.hid (vw a xs.length c (aC xs) w (hr.toV.QX) hnil hm (fun u hu=>by obtain ⟨z,_,rfl⟩:=List.mem_map.1 hu;rfl))
 clear h hnil hr hb hl hm
 go_enter Tryz.func213,Tryz.ntmps213
 go_wp2_with (go_at_call 85;refine HC.out.mono ?_;rintro e w1 ⟨v,rfl,ho,hk⟩;have HO:=Lib.hid ho;have HK:=Lib.hid hk;clear ho hk)
 go_ret
 exact ⟨v,rfl,HO.out,HK.out⟩
theorem zf (h:cZ o w b T rest []):Calls Tryz.prog 246 #[.pointer (some ⟨b,0,none⟩)] w fun e w'=>e = .returned (.tuple #[.int .i64 0,.bool false])∧w=w':=by
 obtain ⟨a,c,hc,_⟩:=h.form
 clear h
 go_enter Tryz.func246,Tryz.ntmps246
 go_wp2_with fail
 go_ret2
 exact ⟨rfl,rfl⟩
theorem xw (x:Nat) (h:cZ o w b T rest (x::xs)):Calls Tryz.prog 246 #[.pointer (some ⟨b,0,none⟩)] w fun e w'=>e = .returned (.tuple #[.int .i64 (x:Int),.bool true])∧cZ o w' b T rest xs∧Keep (only b) w w':=by
 obtain ⟨a,c,hc,hr,hb,hl,hm,hf,_⟩:=h.form
 simp only [List.length_cons] at hc hr hb hl hm
 have hcut:=hr.cut 1 (by omega)
 rw [show (aC (x::xs)).drop 1=aC xs from rfl] at hcut
 obtain ⟨a',c',ee,_,_,hcell⟩:=hr.form
 simp only [Value.slice.injEq] at ee
 obtain ⟨e1,e9,e2⟩:=ee
 subst e1;subst e2
 obtain ⟨b',off',rfl,hx⟩:=hcell 0 (.int .i64 (x:Int)) rfl
 rw [Nat.add_zero] at hx
 clear e9
 have hset:=h.set hcut (fun n c' e=>by unfold kU at e;split at e<;>cases e)
 have Jy:=fun w=>wH (P:=Tryz.prog) (T:=32) (e:=3) (by kernel_rfl) (by kernel_rfl) (some ⟨b',off',none⟩) (xs.length+1) c 1 (by omega) w
 have hne:(((xs.length+1:Nat):Int)==0)=false:=by simp;omega
 have hpos:(0:Int)<((xs.length+1:Nat):Int):=by omega
 have HS:Hid (cZ o (w.setCell ⟨b,0,none⟩ (.slice (kU (some ⟨b',off',none⟩) c 1) (xs.length+1 - 1) (c - 1))) b T rest xs):=hset
 simp only [show (((1:Nat)):Int)=1 from rfl] at Jy
 generalize hL:xs.length+1=L at *
 have HL:=Lib.hid hL
 generalize kU (some ⟨b',off',none⟩) c 1=ca at *
 clear h hr hb hl hm hcut hset hcell hL
 go_enter Tryz.func246,Tryz.ntmps246
 go_wp2_with fail
 go_ret2
 exact ⟨rfl,HS.out,(Keep.refl (only b) _).put _ _⟩
theorem MN (h:cZ o w b T rest xs) (x:Nat) (hf0:Fut o w) (hm:xs.length≤100000):Calls Tryz.prog 211 #[.pointer (some ⟨b,0,none⟩),.int .i64 (x:Int)] w fun e w'=>e = .returned (.tuple #[])∧cZ o w' b T rest (xs++[x])∧Keep (only b) w w':=by
 obtain ⟨a,c,hc,hr,hb,hl,_,hf,_⟩:=h.form
 obtain ⟨n,hn⟩:∃ n,n=xs.length:=⟨_,rfl⟩
 rw [← hn] at hc hr hb hl hm
 obtain ⟨W1,hW1⟩:∃ W',W'=(w.alloc (.cells #[.int .i64 (x:Int)] 3)).drew:=⟨_,rfl⟩
 have hk1:Keep none_ w W1:=by rw [hW1];exact ((Keep.refl _ _).alloc _).drew
 have hr1:aV o W1 3 (.slice a n n) (aC xs):=by
  obtain ⟨a',c',ee,_,hm2,hc2⟩:=hr.still hk1
  simp only [Value.slice.injEq] at ee
  obtain ⟨rfl,hnl,rfl⟩:=ee
  exact ⟨a,n,by rw [← hnl],by omega,by omega,hc2⟩
 have hnil:a=none→n=0:=fun e=>by
  rcases Nat.eq_zero_or_pos n with h0|h0
  ·exact h0
  ·obtain ⟨_,_,_,h1⟩:=hr.toV.cells
   obtain ⟨b',off,e2,_⟩:=h1 h0
   rw [e] at e2;cases e2
 have hsl:∀ W:World,(Instr.slice 32 (.slice a n c) none (some (.int .i64 (n:Int))) (some (.int .i64 (n:Int)))).run Tryz.prog W = .ok (.slice a n n) W:=fun W=>by
  have ht:Tryz.prog.underlying 32=some (.slice 3):=by kernel_rfl
  have hi:(Tryz.prog.info? 3).map (·.size)=some 1:=by kernel_rfl
  obtain ⟨i,hi1,hi2⟩:=Option.map_eq_some_iff.1 hi
  have h1:¬ c<n:=by omega
  cases a with
  | none =>
    simp [Instr.slice,run_underlying ht,sizeOf,typeInfo,hi1,go_sem,h1]
  | some ad =>
    simp [Instr.slice,run_underlying ht,sizeOf,typeInfo,hi1,hi2,go_sem,h1,Addr.add]
 obtain ⟨g,cap,w5,hrun,hown,hgr,hge⟩:=Rk (P:=Tryz.prog) W1 32 32 3 (by kernel_rfl) Tryz.infoInt rfl hr1 hnil (N:=w.heap.size) (u := .int .i64 (x:Int)) (by rw [hW1];exact ((Blk.new w _ _).drew).cell 0 rfl) rfl (by decide) (by omega)
 have hrun9:(app9 #[32,32] 32 #[.slice a n n,.slice (some ⟨w.heap.size,0,none⟩) 1 1]).run Tryz.prog (w.alloc (.cells #[.int .i64 (x:Int)] 3)).drew = .ok (.slice (some ⟨g,0,none⟩) (n+1) cap) w5:=by rw [← hW1];exact hrun
 have hk5:Keep none_ w w5:=hk1.trans ⟨hgr.os,hgr.tape,hgr.output,hgr.size,fun k hk _=>hgr.block k hk (by simp)⟩
 have hrow5:aV o w5 3 (.slice (some ⟨g,0,none⟩) (n+1) cap) (aC (xs++[x])):=by
  have h9:w5.ownsRow W1.heap.size 3 1 (.slice (some ⟨g,0,none⟩) (n+1) cap) (n+1) (aC (xs++[x])):=by
   have e:aC (xs++[x])=aC xs++[.int .i64 (x:Int)]:=by simp [aC]
   rw [e];exact hown
  exact aV.pJ h9 (by omega) (fun b hb=>hf0 b (Nat.le_trans hk1.size hb))
 have c5:=hk5.still hc
 have f5:=(hk5.blk hb (fun f=>f)).free 0
 have dO:Hid (cZ o (w5.setCell ⟨b,0,none⟩ (.slice (some ⟨g,0,none⟩) (n+1) cap)) b T rest (xs++[x])∧Keep (only b) w (w5.setCell ⟨b,0,none⟩ (.slice (some ⟨g,0,none⟩) (n+1) cap))) :=
  ⟨(h.still hk5).set hrow5 (fun _ _ e=>by cases e),(hk5.mono (fun _ _ f=>f.elim)).put 0 _⟩
 have hlt:b<w.heap.size:=hb.lt
 have hc1:∀ o,(w.alloc o).cell? ⟨b,0,none⟩=some (.slice a n c):=fun o=>((Keep.refl none_ w).alloc o).still hc
 have hn0:(n:Int)≤100000:=by omega
 clear h hr hb hl hf hk1 hr1 hnil hrun hown hgr hge hk5 hrow5 hf0 hm hn hW1
 go_enter Tryz.func211,Tryz.ntmps211
 go_region
 all_goals
  go_wp2_with fail
  go_end0
  exact ⟨rfl,dO.out.1,dO.out.2⟩
end
end
section
open Go.RowKit
def Caps (o:Ow) (w:World):List (List Value × TypeId)→List Nat→Prop
 | [],bs=>bs=[]
 | (cs,T)::l,bs=>∃ b r,bs=b::r∧o b=0∧Blk w b cs T∧Caps o w l r
abbrev ah (b:Nat):Value := .pointer (some ⟨b,0,none⟩)
def Clo (o:Ow) (w:World) (fn:Nat) (l:List (List Value × TypeId)) (v:Value):Prop:=∃ bs,v = .func (.func fn) #[] (bs.map ah).toArray∧Caps o w l bs
section
variable {o:Ow} {w w':World}
theorem Caps.keep {S:Nat→Prop} (k:Keep S w w') (h0:∀ b,o b=0→¬ S b):∀ {l:List (List Value × TypeId)} {bs:List Nat},Caps o w l bs→Caps o w' l bs
 | [],_,h=>h
 | (cs,T)::l,bs,h=>by
   obtain ⟨b,r,e,h1,h2,h3⟩:=h
   exact ⟨b,r,e,h1,k.blk h2 (h0 b h1),Caps.keep k h0 h3⟩
theorem Caps.ext {o':Ow} (e:aH w o o'):∀ {l:List (List Value × TypeId)} {bs:List Nat},Caps o w l bs→Caps o' w l bs
 | [],_,h=>h
 | (cs,T)::l,bs,h=>by
   obtain ⟨b,r,e1,h1,h2,h3⟩:=h
   exact ⟨b,r,e1,(e b h2.lt).trans h1,h2,Caps.ext e h3⟩
theorem Clo.keep {S:Nat→Prop} {fn:Nat} {l:List (List Value × TypeId)} {v:Value} (h:Clo o w fn l v) (k:Keep S w w') (h0:∀ b,o b=0→¬ S b):Clo o w' fn l v:=by
 obtain ⟨bs,e,hc⟩:=h
 exact ⟨bs,e,hc.keep k h0⟩
theorem Clo.ext {o':Ow} {fn:Nat} {l:List (List Value × TypeId)} {v:Value} (h:Clo o w fn l v) (e:aH w o o'):Clo o' w fn l v:=by
 obtain ⟨bs,e1,hc⟩:=h
 exact ⟨bs,e1,hc.ext e⟩
end
def og (o:Ow) (w:World) (M:Nat):RD→Value→Prop
 | .field base f _,v=>∃ op:OpR,op.b=f∧Clo o w 227 [([ah M],56),([.int .i64 (base:Int)],3),(op.cells,83)] v
 | .cell i _,v=>∃ op:OpR,op.a=i∧Clo o w 231 [([ah M],56),(op.cells,83)] v
def oh (o:Ow) (w:World) (M:Nat):RD→Value→Prop
 | .field base f x,v=>∃ op:OpR,op.b=f∧Clo o w 229 [([ah M],56),([.int .i64 (base:Int)],3),(op.cells,83),([.int .i64 (x:Int)],3)] v
 | .cell i x,v=>∃ op:OpR,op.a=i∧Clo o w 232 [([ah M],56),(op.cells,83),([.int .i64 (x:Int)],3)] v
def jd (o:Ow) (w:World) (M:Nat) (rd:RD) (v:Value):Prop:=∃ wv,oh o w M rd wv∧Clo o w 253 [([wv],1),([ah M],56)] v
def bH (o:Ow) (w:World) (Nt M:Nat):MD→Value→Prop
 | .nil,v=>v = .nilFunc
 | .start op,v=>Clo o w 92 [([ah M],56),(op.cells,83)] v
 | .once k,v=>∃ dv,Clo o w 169 [([dv],1)] v∧(if k=1 then ∃ lv,Clo o w 128 [([lv],1),([ah M],56)] dv∧Clo o w 130 [([ah M],56)] lv
  else if k=2 then ∃ lv,Clo o w 128 [([lv],1),([ah M],56)] dv∧Clo o w 132 [] lv
  else if k=3 then ∃ lv,Clo o w 128 [([lv],1),([ah M],56)] dv∧Clo o w 133 [([ah M],56)] lv
  else if k=5 then ∃ lv,Clo o w 128 [([lv],1),([ah M],56)] dv∧Clo o w 137 [([ah M],56)] lv
  else ∃ lv,Clo o w 128 [([lv],1),([ah M],56)] dv∧Clo o w 138 [([ah M],56)] lv)
 | .note x c t,v=>∃ tv av,bH o w Nt M t tv∧Clo o w 171 [([ah Nt],104),([.int .i64 (x:Int)],3),([tv],88)] av∧Clo o w 173 [([ah Nt],104),([.int .i64 (x:Int)],3),([.int .i64 (c:Int)],3),([tv],88),([av],87)] v
 | .add x t,v=>∃ tv,bH o w Nt M t tv∧Clo o w 171 [([ah Nt],104),([.int .i64 (x:Int)],3),([tv],88)] v
 | .pour c t,v=>∃ tv,bH o w Nt M t tv∧Clo o w 176 [([ah Nt],104),([tv],88),([.int .i64 (c:Int)],3)] v
 | .dG c f t,v=>∃ tv,bH o w Nt M t tv∧Clo o w 214 [([ah Nt],104),([.int .i64 (c:Int)],3),([.bool f],4),([tv],88)] v
 | .raise t,v=>∃ tv,bH o w Nt M t tv∧Clo o w 217 [([ah Nt],104),([tv],88)] v
 | .field base f t,v=>∃ tv,bH o w Nt M t tv∧Clo o w 252 [([ah M],56),([.int .i64 (base:Int)],3),([.int .i64 f],3),([tv],88)] v
 | .load op base,v=>Clo o w 225 [([ah M],56),([.int .i64 (base:Int)],3),(op.cells,83)] v
 | .get op,v=>Clo o w 230 [([ah M],56),(op.cells,83)] v
 | .lay x rd,v=>∃ rv lv,og o w M rd rv∧jd o w M rd lv∧Clo o w 254 [([rv],44),([ah M],56),([lv],87),([.int .i64 (x:Int)],3)] v
 | .last rd,v=>jd o w M rd v
 | .alloc op k,v=>Clo o w 220 [([ah M],56),([.int .i64 (k:Int)],3),(op.cells,83)] v
 | .assign op k,v=>Clo o w 222 [([ah M],56),(op.cells,83),([.int .i64 (k:Int)],3)] v
 | .lS op all,v=>2≤all.length∧∃ av,aV o w 3 av (aC all)∧Clo o w 268 [([ah M],56),([av],32),([.int .i64 ((all.length - 1:Nat):Int)],3),(op.cells,83)] v
 | .claim op k,v=>Clo o w 249 [([ah M],56),(op.cells,83),([.int .i64 (k:Int)],3)] v
 | .again op k,v=>Clo o w 264 [([ah M],56),([.int .i64 (k:Int)],3),(op.cells,83)] v
 | .sweep _ _ _,_=>False
 | .fill op a,v=>Clo o w 247 [([ah M],56),([.int .i64 (a:Int)],3),(op.cells,83)] v
 | .zero op a i,v=>Clo o w 263 [([.int .i64 (i:Int)],3),(op.cells,83),([ah M],56),([.int .i64 (a:Int)],3)] v
def fQ (o:Ow) (w:World) (D0 q:Nat) (v:Value) (sl:List Nat) (c:Nat):Prop :=
 (v = .pointer none∧sl=[])∨∃ C b sv,v=ah C∧o C=q∧Blk w C [ah D0,sv,.int .i64 (b:Int),.int .i64 (c:Int)] 266∧aV o w 3 sv (aC sl)
def iD (o:Ow) (w:World) (D0:Nat) (g:Nat × Nat) (q:Nat):MD→Value→Prop
 | .sweep sl c t,v=>∃ cv tv,fQ o w D0 q cv sl c∧bH o w g.1 g.2 t tv∧Clo o w 277 [([cv],260),([ah g.2],56),([tv],88)] v
 | d,v=>bH o w g.1 g.2 d v
theorem iD.of {o:Ow} {w:World} {D0:Nat} {g:Nat × Nat} {q:Nat} {d:MD} {v:Value} (h:bH o w g.1 g.2 d v):iD o w D0 g q d v:=by
 cases d<;>first|exact h|exact h.elim
structure lu (w:World) (a:Option Addr) (n sz:Nat) (rs:List (List Value)):Prop where
 len:rs.length=n
 at_:0<n→∃ b off,a=some ⟨b,off,none⟩∧∀ i r,rs[i]?=some r→∀ j v,r[j]?=some v→w.cell? ⟨b,off+i*sz+j,none⟩=some v
theorem lu.below {w w' a n sz rs} (h:lu w a n sz rs) (k:Keep none_ w w'):lu w' a n sz rs:=by
 refine ⟨h.len,fun h0=>?_⟩
 obtain ⟨b,off,e,hc⟩:=h.at_ h0
 exact ⟨b,off,e,fun i r hi j v hj=>k.still (hc i r hi j v hj)⟩
theorem lu.nil (w:World) (sz:Nat):lu w none 0 sz []:=⟨rfl,fun h=>absurd h (Nat.lt_irrefl 0)⟩
theorem lu.pJ {w:World} {base n sz:Nat} {T:TypeId} {v:Value} {rs:List (List Value)} (h:w.ownsRow base T sz v n rs.flatten) (hr:∀ r∈rs,r.length=sz) (hn:rs.length=n) :
 ∃ a c,v = .slice a n c∧lu w a n sz rs∧n≤c:=by
 obtain ⟨hl,hf⟩:=h
 have idx:∀ (rs:List (List Value)),(∀ r∈rs,r.length=sz)→∀ i r,rs[i]?=some r→∀ j v,r[j]?=some v→rs.flatten[i*sz+j]?=some v:=by
  intro rs
  induction rs with
  | nil=>intro _ i r h;simp at h
  | cons r0 rs ih =>
    intro hr i r hi j v hj
    have h0:r0.length=sz:=hr r0 (by simp)
    rw [List.flatten_cons]
    cases i with
    | zero =>
      simp at hi;subst hi
      have:=(List.getElem?_eq_some_iff.1 hj).1
      rw [Nat.zero_mul,Nat.zero_add,List.getElem?_append_left (by omega)];exact hj
    | succ i =>
      have e:(i+1)*sz+j=r0.length+(i*sz+j):=by rw [Nat.succ_mul,h0];omega
      rw [e,List.getElem?_append_right (by omega),Nat.add_sub_cancel_left]
      exact ih (fun r h=>hr r (by simp [h])) i r (by simpa using hi) j v hj
 rcases hf with ⟨rfl,h0⟩|⟨g,cap,cur,rfl,_,hg,hnc,_,hs,hc⟩
 ·rcases Nat.eq_zero_or_pos n with hz|hz
  ·subst hz
   have:rs=[]:=List.eq_nil_of_length_eq_zero hn
   subst this
   exact ⟨none,0,rfl,lu.nil _ _,Nat.le_refl _⟩
  ·omega
 ·refine ⟨_,cap,rfl,⟨hn,fun _=>⟨g,0,rfl,fun i r hi j v hj=>?_⟩⟩,hnc⟩
  have h1:=idx rs hr i r hi j v hj
  rw [← hc] at h1
  have hlt:i*sz+j<n*sz:=by
   have:=(List.getElem?_eq_some_iff.1 h1).1
   simp at this;omega
  have h2:cur[i*sz+j]?=some v:=by
   rw [List.getElem?_take_of_lt hlt] at h1
   simpa using h1
  simp [World.cell?,hg,h2]
end
section
open Go.RowKit Go.Deep
section
variable {P:Program} {w:World}
end
theorem EG {sz:Nat}:∀ (rs:List (List Value)),(∀ r∈rs,r.length=sz)→rs.flatten.length=rs.length*sz
 | [],_=>by simp
 | r::rs,h=>by
   have:=EG rs (fun r hr=>h r (by simp [hr]))
   have h0:=h r (by simp)
   simp [Nat.succ_mul,h0,this,Nat.add_comm]
end
section
open Go.RowKit
structure Geo where
 S:Nat
 D:Nat→Nat
 B:Nat
 Q:Nat
 Fl:Nat
 bx:Nat→Nat
structure ShAt (o:Ow) (w:World) (G:Geo) (s:Sh):Prop where
 fut:Fut o w
 sh:∃ v,Blk w G.S [ah (G.D 0),ah G.B,ah G.Q,ah G.Fl,v] 53∧aV o w 122 v ((List.range s.boxes.length).map fun i=>ah (G.bx i))
 oS:o G.S=0
 heap:au w G.D s.H
 oD:∀ i,i<13→o (G.D i)=1
 glo:o 3=0∧o 4=0∧o 2=0
 board:eX w G.B s.B
 oB:o G.B=2
 queue:dV o w G.Q s.Q
 oQ:o G.Q=3
 flag:Blk w G.Fl [.bool s.flag] 121
 oF:o G.Fl=4
 box:∀ i l,s.boxes[i]?=some l→cZ o w (G.bx i) 176 [] l∧o (G.bx i)=10+i
section
variable {o:Ow} {w w':World} {G:Geo} {s:Sh} {I:List Nat}
theorem dV.ay {B:Nat} {q:Qu} {i:Nat} (h:dV o w B q) (k:Keep (In o I) w w') (h0:I.contains 0=false) (hB:o B=i) (hI:I.contains i=false):dV o w' B q:=by
 obtain ⟨ho,hl,vs,hv,hb,hr⟩:=h
 exact ⟨ho,hl,vs,hv,hb.ay k hB hI,fun i v zs h1 h2=>(hr i v zs h1 h2).ay k h0⟩
theorem dV.nS {o':Ow} {B:Nat} {q:Qu} (h:dV o w B q) (e:aH w o o'):dV o' w B q:=by
 obtain ⟨ho,hl,vs,hv,hb,hr⟩:=h
 exact ⟨by rw [e B hb.lt];exact ho,hl,vs,hv,hb,fun i v zs h1 h2=>(hr i v zs h1 h2).ext e⟩
theorem cZ.ay {b:Nat} {T:TypeId} {rest:List Value} {xs:List Nat} {i:Nat} (h:cZ o w b T rest xs) (k:Keep (In o I) w w') (h0:I.contains 0=false) (hB:o b=i) (hI:I.contains i=false):cZ o w' b T rest xs :=
 h.keep k (aU hB hI) (fun x hx=>aU hx h0)
theorem ShAt.heapK (h:ShAt o w G s) (k:Keep (In o I) w w') (h0:I.contains 0=false) (h1:I.contains 1=false):au w' G.D s.H :=
 h.heap.keep k (fun i hi=>aU (h.oD i hi) h1) (aU h.glo.1 h0) (aU h.glo.2.1 h0) (aU h.glo.2.2 h0)
theorem ShAt.hfO (h:ShAt o w G s) (k:Keep (HF G.D) w w') (h1:I.contains 1=true):Keep (In o I) w w':=k.mono (fun x _ hx=>by
 obtain ⟨i,hi,e⟩:=hx
 unfold In
 rw [e,h.oD i hi]
 simpa using h1)
theorem ShAt.upd {s':Sh} (h:ShAt o w G s) (k:Keep (In o I) w w') (h0:I.contains 0=false) (hH:au w' G.D s'.H) (hB:eX w' G.B s'.B) (hQ:dV o w' G.Q s'.Q) (hF:Blk w' G.Fl [.bool s'.flag] 121)
 (hl:s'.boxes.length=s.boxes.length) (hX:∀ i l,s'.boxes[i]?=some l→cZ o w' (G.bx i) 176 [] l):ShAt o w' G s':=by
 obtain ⟨v,hs1,hs2⟩:=h.sh
 refine ⟨h.fut.keep k,⟨v,hs1.ay k h.oS h0,?_⟩,h.oS,hH,h.oD,h.glo,hB,h.oB,hQ,h.oQ,hF,h.oF,fun i l hi=>⟨hX i l hi,?_⟩⟩
 ·rw [hl];exact hs2.ay k h0
 ·have hlt:=(List.getElem?_eq_some_iff.1 hi).1
  exact (h.box i _ (List.getElem?_eq_getElem (by omega))).2
theorem ShAt.xY (h:ShAt o w G s) (k:Keep (In o I) w w') (h0:I.contains 0=false) (hI:∀ i,i<s.boxes.length→I.contains (10+i)=false):∀ i l,s.boxes[i]?=some l→cZ o w' (G.bx i) 176 [] l:=fun i l hi =>
 (h.box i l hi).1.ay k h0 (h.box i l hi).2 (hI i (List.getElem?_eq_some_iff.1 hi).1)
theorem ShAt.ay (h:ShAt o w G s) (k:Keep (In o I) w w') (hI:I.all (fun i=>decide (20≤i))=true) (h8:s.boxes.length≤8):ShAt o w' G s:=by
 have hge:∀ i,i<20→I.contains i=false:=fun i hi=>by
  rw [Bool.eq_false_iff]
  intro hc
  have:=List.all_eq_true.1 hI i (by simpa using hc)
  simp at this;omega
 exact h.upd k (hge 0 (by decide)) (h.heapK k (hge 0 (by decide)) (hge 1 (by decide))) (h.board.keep k (aU h.oB (hge 2 (by decide)))) (h.queue.ay k (hge 0 (by decide)) h.oQ (hge 3 (by decide))) (h.flag.ay k h.oF (hge 4 (by decide))) rfl (h.xY k (hge 0 (by decide)) (fun i hi=>hge _ (by omega)))
theorem ShAt.lU {H:HS} (h:ShAt o w G s) (k:Keep (HF G.D) w w') (hH:au w' G.D H) (h8:s.boxes.length≤8):ShAt o w' G { s with H:=H }∧Keep (In o [1]) w w':=by
 have k1:Keep (In o [1]) w w':=h.hfO k rfl
 exact ⟨h.upd (s':={ s with H:=H }) k1 rfl hH (h.board.keep k1 (aU h.oB rfl)) (h.queue.ay k1 rfl h.oQ rfl) (h.flag.ay k1 h.oF rfl) rfl (h.xY k1 rfl (fun i hi=>by simp;omega)),k1⟩
theorem ShAt.nT {B:Bd} (h:ShAt o w G s) (k:Keep (only G.B) w w') (hB:eX w' G.B B):ShAt o w' G { s with B:=B }∧Keep (In o [2]) w w':=by
 have k1:Keep (In o [2]) w w':=k.mD h.oB rfl
 exact ⟨h.upd (s':={ s with B:=B }) k1 rfl (h.heapK k1 rfl rfl) hB (h.queue.ay k1 rfl h.oQ rfl) (h.flag.ay k1 h.oF rfl) rfl (h.xY k1 rfl (fun i hi=>by simp;omega)),k1⟩
theorem ShAt.qE {Q:Qu} (h:ShAt o w G s) (k:Keep (only G.Q) w w') (hQ:dV o w' G.Q Q):ShAt o w' G { s with Q:=Q }∧Keep (In o [3]) w w':=by
 have k1:Keep (In o [3]) w w':=k.mD h.oQ rfl
 exact ⟨h.upd (s':={ s with Q:=Q }) k1 rfl (h.heapK k1 rfl rfl) (h.board.keep k1 (aU h.oB rfl)) hQ (h.flag.ay k1 h.oF rfl) rfl (h.xY k1 rfl (fun i hi=>by simp;omega)),k1⟩
theorem ShAt.wJ {f:Bool} (h:ShAt o w G s) (k:Keep (only G.Fl) w w') (hF:Blk w' G.Fl [.bool f] 121):ShAt o w' G { s with flag:=f }∧Keep (In o [4]) w w':=by
 have k1:Keep (In o [4]) w w':=k.mD h.oF rfl
 exact ⟨h.upd (s':={ s with flag:=f }) k1 rfl (h.heapK k1 rfl rfl) (h.board.keep k1 (aU h.oB rfl)) (h.queue.ay k1 rfl h.oQ rfl) hF rfl (h.xY k1 rfl (fun i hi=>by simp;omega)),k1⟩
theorem ShAt.EH {j:Nat} {l:List Nat} (h:ShAt o w G s) (hj:j<s.boxes.length) (k:Keep (only (G.bx j)) w w') (hX:cZ o w' (G.bx j) 176 [] l) (h8:s.boxes.length≤8):ShAt o w' G { s with boxes:=s.boxes.set j l }∧Keep (In o [10+j]) w w':=by
 have oj:=(h.box j _ (List.getElem?_eq_getElem hj)).2
 have k1:Keep (In o [10+j]) w w':=k.mD oj (by simp)
 have h0:([10+j]:List Nat).contains 0=false:=by simp;omega
 refine ⟨h.upd (s':={ s with boxes:=s.boxes.set j l }) k1 h0 (h.heapK k1 h0 (by simp;omega)) (h.board.keep k1 (aU h.oB (by simp;omega))) (h.queue.ay k1 h0 h.oQ (by simp;omega)) (h.flag.ay k1 h.oF (by simp;omega)) (by simp) (fun i l' hi=>?_),k1⟩
 by_cases e:j=i
 ·subst e
  rw [List.getElem?_set_self hj] at hi
  cases hi
  exact hX
 ·rw [List.getElem?_set_ne e] at hi
  exact (h.box i l' hi).1.ay k1 h0 (h.box i l' hi).2 (by simp;omega)
theorem ShAt.move {o':Ow} (h:ShAt o w G s) (k:Keep (In o I) w w') (hI:I.all (fun i=>decide (20≤i))=true) (h8:s.boxes.length≤8) (e:aH w o o') (hf:Fut o' w'):ShAt o' w' G s:=by
 have k':=k.nS e
 have hge:∀ i,i<20→I.contains i=false:=fun i hi=>by
  rw [Bool.eq_false_iff]
  intro hc
  have:=List.all_eq_true.1 hI i (by simpa using hc)
  simp at this;omega
 obtain ⟨v,hs1,hs2⟩:=h.sh
 have hg:=h.heap.DK
 have hQB:(o' G.Q:Nat)=3:=by
  obtain ⟨ho,hl,vs,hv,hb,hr⟩:=h.queue
  exact (e _ hb.lt).trans h.oQ
 refine ⟨hf,⟨v,hs1.ay k h.oS (hge 0 (by decide)),(hs2.ext e).ay k' (hge 0 (by decide))⟩,(e _ hs1.lt).trans h.oS,h.heapK k (hge 0 (by decide)) (hge 1 (by decide)),fun i hi=>(e _ (h.heap.ltD i hi)).trans (h.oD i hi),⟨(e _ hg.1).trans h.glo.1,(e _ hg.2.1).trans h.glo.2.1,(e _ hg.2.2).trans h.glo.2.2⟩,
  h.board.keep k (aU h.oB (hge 2 (by decide))),(e _ h.board.blk.lt).trans h.oB,(h.queue.nS e).ay k' (hge 0 (by decide)) hQB (hge 3 (by decide)),hQB,h.flag.ay k h.oF (hge 4 (by decide)),(e _ h.flag.lt).trans h.oF,fun i l hi=>?_⟩
 obtain ⟨h1,h2⟩:=h.box i l hi
 obtain ⟨_,v',hb,_,_⟩:=id h1
 have h3:o' (G.bx i)=10+i:=(e _ hb.lt).trans h2
 exact ⟨(h1.ext e).ay k' (hge 0 (by decide)) h3 (hge _ (by have:=(List.getElem?_eq_some_iff.1 hi).1;omega)),h3⟩
end
structure MG where
 M:Nat
 X:Nat
 Bf:Nat
 Nt:Nat
def sD:Option Ev→List Value
 | none=>[.int .i64 0,.int .i64 0,.int .i64 0,.int .i64 0,.int .i64 0,.int .i64 0,.bool false]
 | some e=>[.int .i64 0,.int .i64 (e.who:Int),.int .i64 (e.kind:Int),.int .i64 (e.op:Int),.int .i64 e.code,.int .i64 (e.value:Int),.bool true]
def jP (G:Geo) (g:MG) (m:MS) (ev:Option Ev) (pv rv nv:Value):List Value :=
 ah G.S::m.c.cells++[.int .i64 (m.id:Int),.slice (some ⟨g.X,0,none⟩) m.regs.length m.regs.length,ah g.Bf,ah g.Nt,.int .i64 (m.mode:Int),.int .i64 (m.color:Int),.int .i64 (m.want:Int),pv,rv,nv,.int .i64 (m.held:Int),.int .i64 (m.spent:Int),.int .i64 (m.most0:Int),.int .i64 (m.most1:Int),.bool m.ans]++sD ev
def lZ (o:Ow) (w:World) (v:Value) (prog:List OpR):Prop :=
 ∃ a c,v = .slice a prog.length c∧prog.length≤1000∧(0<prog.length→∃ b off cs,a=some ⟨b,off,none⟩∧o b=0∧Blk w b cs 83∧∀ i op,prog[i]?=some op→∀ j u,op.cells[j]?=some u→cs[off+i*4+j]?=some u)
def nU (res:List (Int × Nat)):List Value:=(res.map fun r=>[Value.int .i64 r.1,Value.int .i64 (r.2:Int)]).flatten
def pR (o:Ow) (w:World) (i:Nat) (v:Value) (res:List (Int × Nat)):Prop:=w.ownsRow 0 225 2 v res.length (nU res)∧∀ b,v.ownBlock=some b→o b=20+i
structure MAt (o:Ow) (w:World) (G:Geo) (g:MG) (s:Sh) (m:MS) (ev:Option Ev) (nv:Value):Prop where
 sh:ShAt o w G s
 blk:∃ pv rv,Blk w g.M (jP G g m ev pv rv nv) 108∧lZ o w pv m.prog∧pR o w m.id rv m.res
 oM:o g.M=20+m.id
 regs:Blk w g.X (aC m.regs) 3
 oX:o g.X=20+m.id
 buf:cZ o w g.Bf 179 [.int .i64 m.c.l] m.buf
 oBf:o g.Bf=20+m.id
 nt:Blk w g.Nt [ah (G.D 0),ah g.Bf,ah (G.bx m.id),ah G.Fl] 181
 oNt:o g.Nt=0
 idl:m.id<s.boxes.length
 box8:s.boxes.length≤8
 conf:m.c=s.H.c
 rlen:(m.regs.length:Int)=m.c.r
 qF:(m.buf.length:Int)≤m.c.l
section
variable {o:Ow} {w w':World} {G:Geo} {g:MG} {s:Sh} {m:MS} {ev:Option Ev} {nv:Value}
theorem lZ.ay {I:List Nat} {v:Value} {p:List OpR} (h:lZ o w v p) (k:Keep (In o I) w w') (h0:I.contains 0=false):lZ o w' v p:=by
 obtain ⟨a,c,e,h1,h2⟩:=h
 refine ⟨a,c,e,h1,fun hp=>?_⟩
 obtain ⟨b,off,cs,e1,e2,e3,e4⟩:=h2 hp
 exact ⟨b,off,cs,e1,e2,e3.ay k e2 h0,e4⟩
theorem lZ.ext {o':Ow} {v:Value} {p:List OpR} (h:lZ o w v p) (e:aH w o o'):lZ o' w v p:=by
 obtain ⟨a,c,e0,h1,h2⟩:=h
 refine ⟨a,c,e0,h1,fun hp=>?_⟩
 obtain ⟨b,off,cs,e1,e2,e3,e4⟩:=h2 hp
 exact ⟨b,off,cs,e1,(e b e3.lt).trans e2,e3,e4⟩
theorem pR.ay {I:List Nat} {i:Nat} {v:Value} {r:List (Int × Nat)} (h:pR o w i v r) (k:Keep (In o I) w w') (hI:I.contains (20+i)=false):pR o w' i v r :=
 ⟨fD h.1 k (fun b hb=>aU (h.2 b hb) hI),h.2⟩
theorem pR.ext {o':Ow} {i:Nat} {v:Value} {r:List (Int × Nat)} (h:pR o w i v r) (e:aH w o o'):pR o' w i v r:=by
 refine ⟨h.1,fun b hb=>?_⟩
 obtain ⟨cur,hc⟩:∃ cur:Array Value,w.heap[b]?=some (.cells cur 225 (0,0)):=by
  rcases h.1.2 with ⟨e1,_⟩|⟨g,cap,cur,e1,_,hg,_⟩
  ·rw [e1] at hb;simp [Value.ownBlock] at hb
  ·rw [e1] at hb;simp [Value.ownBlock] at hb;subst hb;exact ⟨cur,hg⟩
 exact (e b (lt_of_block hc)).trans (h.2 b hb)
theorem MAt.share {s':Sh} {I:List Nat} (h:MAt o w G g s m ev nv) (k:Keep (In o I) w w') (h0:I.contains 0=false) (hi:I.contains (20+m.id)=false) (hs:ShAt o w' G s') (hl:s'.boxes.length=s.boxes.length) (hc:s'.H.c=s.H.c):MAt o w' G g s' m ev nv:=by
 obtain ⟨pv,rv,h1,h2,h3⟩:=h.blk
 exact ⟨hs,⟨pv,rv,h1.ay k h.oM hi,h2.ay k h0,h3.ay k hi⟩,h.oM,h.regs.ay k h.oX hi,h.oX,h.buf.ay k h0 h.oBf hi,h.oBf,h.nt.ay k h.oNt h0,h.oNt,by rw [hl];exact h.idl,by rw [hl];exact h.box8,h.conf.trans hc.symm,h.rlen,h.qF⟩
theorem MAt.still (h:MAt o w G g s m ev nv) (k:Keep none_ w w'):MAt o w' G g s m ev nv:=by
 have k0:Keep (In o []) w w':=k.aF
 exact h.share k0 rfl rfl (h.sh.ay k0 rfl h.box8) rfl rfl
theorem MAt.apart (h:MAt o w G g s m ev nv):g.M≠g.X∧g.M≠g.Bf∧g.X≠g.Bf∧(∀ rv r b,pR o w m.id rv r→rv.ownBlock=some b→b≠g.M∧b≠g.X∧b≠g.Bf):=by
 obtain ⟨pv,rv,h1,h2,h3⟩:=h.blk
 obtain ⟨_,v,h4,_⟩:=h.buf
 have h5:=h.regs
 refine ⟨fun e=>?_,fun e=>?_,fun e=>?_,fun rv r b hr hb=>?_⟩
 ·rw [e] at h1;exact absurd (h1.uniq h5).2 (by decide)
 ·rw [e] at h1;exact absurd (h1.uniq h4).2 (by decide)
 ·rw [e] at h5;exact absurd (h5.uniq h4).2 (by decide)
 ·refine ⟨fun e=>?_,fun e=>?_,fun e=>?_⟩
  ·exact own_ne h1 hr.1 (by decide) (by rw [hb,e])
  ·exact own_ne h5 hr.1 (by decide) (by rw [hb,e])
  ·exact own_ne h4 hr.1 (by decide) (by rw [hb,e])
theorem MAt.struct (h:MAt o w G g s m ev nv) (kM:Keep (only g.M) w w') (m':MS) (ev':Option Ev) (nv':Value) (hc:∀ pv rv,Blk w g.M (jP G g m ev pv rv nv) 108→Blk w' g.M (jP G g m' ev' pv rv nv') 108)
 (e:m'.id=m.id∧m'.c=m.c∧m'.regs=m.regs∧m'.buf=m.buf∧m'.prog=m.prog∧m'.res=m.res):MAt o w' G g s m' ev' nv'∧Keep (In o [20+m.id]) w w':=by
 obtain ⟨pv,rv,h1,h2,h3⟩:=h.blk
 obtain ⟨e1,e2,e3,e4,e5,e6⟩:=e
 have ap:=h.apart
 have k:Keep (In o [20+m.id]) w w':=kM.mD h.oM (by simp)
 refine ⟨⟨h.sh.ay k (by simp) h.box8,⟨pv,rv,hc pv rv h1,?_,?_⟩,by rw [e1];exact h.oM,by rw [e3];exact kM.blk h.regs (fun e=>ap.1 e.symm),by rw [e1];exact h.oX,?_,by rw [e1];exact h.oBf,by rw [e1];exact h.nt.ay k h.oNt (by simp;omega),h.oNt,by rw [e1];exact h.idl,h.box8,by rw [e2];exact h.conf,by rw [e3,e2];exact h.rlen,by rw [e4,e2];exact h.qF⟩,k⟩
 ·rw [e5];exact h2.ay k (by simp;omega)
 ·rw [e1,e6]
  exact ⟨fD h3.1 kM (fun b hb e=>(ap.2.2.2 rv _ b h3 hb).1 e),h3.2⟩
 ·rw [e2,e4]
  exact h.buf.keep kM (fun e=>ap.2.1 e.symm) (fun x hx e=>by unfold only at e;rw [e,h.oM] at hx;omega)
theorem MAt.put (h:MAt o w G g s m ev nv) (i:Nat) (u:Value) (m':MS) (ev':Option Ev) (nv':Value) (hc:∀ pv rv,(jP G g m ev pv rv nv).set i u=jP G g m' ev' pv rv nv')
 (e:m'.id=m.id∧m'.c=m.c∧m'.regs=m.regs∧m'.buf=m.buf∧m'.prog=m.prog∧m'.res=m.res):MAt o (w.setCell ⟨g.M,i,none⟩ u) G g s m' ev' nv'∧Keep (In o [20+m.id]) w (w.setCell ⟨g.M,i,none⟩ u) :=
 h.struct ((Keep.refl _ _).put i u) m' ev' nv' (fun pv rv hb=>by
  have:=hb.set i u
  rwa [hc] at this) e
theorem MAt.zh (h:MAt o w G g s m ev nv) {b:List Nat} (k:Keep (only g.Bf) w w') (hb:cZ o w' g.Bf 179 [.int .i64 m.c.l] b) (hl:(b.length:Int)≤m.c.l):MAt o w' G g s { m with buf:=b } ev nv∧Keep (In o [20+m.id]) w w':=by
 obtain ⟨pv,rv,h1,h2,h3⟩:=h.blk
 have ap:=h.apart
 have k1:Keep (In o [20+m.id]) w w':=k.mD h.oBf (by simp)
 exact ⟨⟨h.sh.ay k1 (by simp) h.box8,⟨pv,rv,k.blk h1 (fun e=>ap.2.1 e),h2.ay k1 (by simp;omega),⟨fD h3.1 k (fun b hb e=>(ap.2.2.2 rv _ b h3 hb).2.2 e),h3.2⟩⟩,h.oM,k.blk h.regs (fun e=>ap.2.2.1 e),h.oX,hb,h.oBf,h.nt.ay k1 h.oNt (by simp;omega),h.oNt,h.idl,h.box8,h.conf,h.rlen,hl⟩,k1⟩
theorem MAt.Tv (h:MAt o w G g s m ev nv) (r v:Nat):MAt o (w.setCell ⟨g.X,r,none⟩ (.int .i64 (v:Int))) G g s { m with regs:=m.regs.set r v } ev nv∧Keep (In o [20+m.id]) w (w.setCell ⟨g.X,r,none⟩ (.int .i64 (v:Int))):=by
 obtain ⟨pv,rv,h1,h2,h3⟩:=h.blk
 have ap:=h.apart
 have k:Keep (only g.X) w (w.setCell ⟨g.X,r,none⟩ (.int .i64 (v:Int))):=(Keep.refl _ _).put r _
 have k1:Keep (In o [20+m.id]) w (w.setCell ⟨g.X,r,none⟩ (.int .i64 (v:Int))):=k.mD h.oX (by simp)
 refine ⟨⟨h.sh.ay k1 (by simp) h.box8,⟨pv,rv,?_,h2.ay k1 (by simp;omega),⟨fD h3.1 k (fun b hb e=>(ap.2.2.2 rv _ b h3 hb).2.1 e),h3.2⟩⟩,h.oM,?_,h.oX,?_,h.oBf,h.nt.ay k1 h.oNt (by simp;omega),h.oNt,h.idl,h.box8,h.conf,by simpa using h.rlen,h.qF⟩,k1⟩
 ·have:=k.blk h1 (fun e=>ap.1 e)
  unfold jP at this ⊢
  simpa using this
 ·rw [tq];exact h.regs.set r _
 ·exact h.buf.keep k (fun e=>ap.2.2.1 e.symm) (fun x hx e=>by unfold only at e;rw [e,h.oX] at hx;omega)
theorem MAt.cell (h:MAt o w G g s m ev nv) (i:Nat) (u:Value) (hu:∀ pv rv,(jP G g m ev pv rv nv)[i]?=some u):w.cell? ⟨g.M,i,none⟩=some u:=by
 obtain ⟨pv,rv,h1,_⟩:=h.blk
 exact h1.cell i (hu pv rv)
theorem MAt.free (h:MAt o w G g s m ev nv) (i:Nat):w.frozen? ⟨g.M,i,none⟩=false:=by
 obtain ⟨pv,rv,h1,_⟩:=h.blk
 exact h1.free i
end
end
end Go.Proofs.YtanfphjoebobaaaGreatDoor
