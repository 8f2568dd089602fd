/- Parts of the walk. No conditions. -/
import Derived.Test.YtanfphjoebobaaaGreatDoorZzer
namespace Go.Proofs.YtanfphjoebobaaaGreatDoor
open _root_.Go.Proofs.Tryz hiding prog
open _root_.Go.Proofs.Tryz renaming prog->ay
set_option maxRecDepth 100000
set_option maxHeartbeats 4000000
section
attribute [local go_sem] Oper.semAt_some
open Go.RowKit
section
variable {o:Ow} {w w':World} {G:Geo} {g:MG} {s:Sh} {m:MS} {nv:Value} {ev:Option Ev}
theorem Vq {c:Nat} {t:MD} (h:En t=true):En (m.kE c t)=true:=by
 unfold MS.kE
 split
 ·exact h
 ·rfl
theorem MH (h:aN o w G g s m ev nv):Calls ay 91 #[aj g.M,ah 5] w fun e w'=>∃ fn caps,e = .returned (.func (.func fn) #[] caps)/\dw o w' g.Nt g.M (m.kE m.want (.once 5)) (.func (.func fn) #[] caps)/\Keep none_ w w':=by
 obtain ⟨W1,hW1⟩:∃ W1,W1=w.alloc (.cells #[aB g.M] 56):=⟨_,rfl⟩
 have k1:Keep none_ w W1:=by rw [hW1];exact (Keep.refl _ _).alloc _
 have hb1:aA W1 w.heap.size [aB g.M] 56:=by rw [hW1];exact aA.new w _ _
 have ho:o w.heap.size=0:=h.sh.fC _ (Nat.le_refl _)
 have h1:=h.still k1
 have c0:W1.cell? ⟨w.heap.size,0,none⟩=some (aj g.M):=hb1.cell 0 rfl
 have c11:=h1.c11
 have c14:=h1.c14
 have hkd:Keep none_ W1 W1.drew:=(Keep.refl none_ W1).drew
 have HL:Hid (Calls ay 126 #[.func (.func 137) #[] #[aj w.heap.size],aj w.heap.size] W1.drew fun e w'=>∃ fn caps,e = .returned (.func (.func fn) #[] caps)/\(w'.cell? ⟨w.heap.size,0,none⟩=some (aj g.M)/\w'.cell? ⟨g.M,11,none⟩=some (aj g.Nt)/\w'.cell? ⟨g.M,14,none⟩=some (ah (m.want:Int))) /\
  Hid (Calls ay 136 #[aj g.Nt,ah (m.want:Int),.func (.func fn) #[] caps] w' fun e w2=>∃ fn caps,e = .returned (.func (.func fn) #[] caps)/\(w2.cell? ⟨w.heap.size,0,none⟩=some (aj g.M)/\w2.cell? ⟨g.M,11,none⟩=some (aj g.Nt)/\w2.cell? ⟨g.M,14,none⟩=some (ah (m.want:Int)))/\dw o w2 g.Nt g.M (m.kE m.want (.once 5)) (.func (.func fn) #[] caps)/\Keep none_ w w2)):=by
  refine (AZ (Nt:=g.Nt) (h1.sh.fC.keep hkd) 5 137 #[aj w.heap.size] (by unfold rQ;rw [if_neg (by decide),if_neg (by decide),if_neg (by decide),if_pos rfl];exact ⟨[w.heap.size],rfl,_,_,rfl,ho,hkd.blk hb1 (fun f=>f),rfl⟩) w.heap.size ho (hkd.blk hb1 (fun f=>f))).mono ?_
  rintro e w2 ⟨fn,caps,rfl,h2,k2⟩
  have k12:=hkd.trans k2
  have hM2:=h1.still k12
  refine ⟨fn,caps,rfl,⟨k12.still c0,k12.still c11,k12.still c14⟩,?_⟩
  refine (FH hM2 m.want (.once 5) _ h2).mono ?_
  rintro e w3 ⟨nv3,rfl,h3,k3⟩
  obtain ⟨fn3,caps3,rfl⟩:=h3.XL (Vq rfl)
  have k13:=k12.trans k3
  exact ⟨fn3,caps3,rfl,⟨k13.still c0,k13.still c11,k13.still c14⟩,h3,k1.trans k13⟩
 have HW1:=au hW1
 have hmf:=jc
 generalize m.kE m.want (.once 5)=d at *
 generalize m.want=mw at *
 clear h h1 hW1 k1 hb1 ho hkd
 go_enter func91,ntmps91
 go_wp2_with fail
 rw [<- HW1.out]
 go_region_held3 (fun w'=>w'.cell? ⟨w.heap.size,0,none⟩=some (aj g.M)/\w'.cell? ⟨g.M,11,none⟩=some (aj g.Nt)/\w'.cell? ⟨g.M,14,none⟩=some (ah (mw:Int)))
  (first | exact ⟨c0, c11, c14⟩ | exact h5.out | exact h6.out | fail "ji")
  (first
   | (refine HL.out.mono ?_
      rintro e w5 ⟨fn,caps,rfl,h5',HFi⟩
      have h5:=au h5'
      clear h5')
   | (refine HFi.out.mono ?_
      rintro e w6 ⟨fn6,caps6,rfl,h6',hp,hk⟩
      have h6:=au h6'
      have HP:=au (And.intro hp hk)
      clear h6' hp hk)
   | fail "jZ")
 clear HL HFi c0 c11 c14 h5 h6
 go_wp2_with fail
 go_ret
 exact ⟨_,_,rfl,HP.out.1,HP.out.2⟩
end
def pF (xs:List Nat):List (Nat × Nat):=(List.range xs.length).map fun j=>(xs.length - 1 - j,xs.getD (xs.length - 1 - j) 0)
theorem qY (xs:List Nat):(pF xs).length=xs.length:=by simp [pF]
theorem zD {xs:List Nat} {j:Nat} (h:j<xs.length):(pF xs)[j]?=some (xs.length - 1 - j,xs.getD (xs.length - 1 - j) 0):=by simp [pF,h]
def qN (pB X:Nat):Nat->Prop:=fun i=>i=pB\/i=X
theorem I8 (a:Option Addr) (n c:Nat) (w:World):Calls ay 134 #[.slice a n c] w fun e w'=>e = .returned (.func (.func 170) #[] #[aj w.heap.size])/\w'=w.alloc (.cells #[.slice a n c] 32):=by
 have hmf:∀ (fn:Fn) (first cap:Array Value) (w:World),(Instr.makeFunc fn first cap).run ay w = .ok (.func fn first cap) w:=fun _ _ _ _=>rfl
 go_enter func134,ntmps134
 go_wp2_with fail
 go_ret
 exact ⟨rfl,rfl⟩
theorem X4 (xs:List Nat) (pB X:Nat) (hn:xs.length<=64) (m:Nat) (w:World) (hbp:aA w pB [.slice (some ⟨X,0,none⟩) xs.length xs.length] 32) (hbx:aA w X (aG xs) 3) :
 D7 Fence.wide m ay 170 #[aj pB] (pF xs) zl (qN pB X) w:=by
 intro l J Jx W hW hJ hJx hY h0
 have hbp1:=hW.blk hbp (fun f=>f)
 have hbx1:=hW.blk hbx (fun f=>f)
 have hc0:=hbp1.cell 0 (v := .slice (some ⟨X,0,none⟩) xs.length xs.length) rfl
 have HLEN:=au (qY xs)
 have HAT:Hid (∀ j q,j+q+1=xs.length->(pF xs)[j]?=some (q,xs.getD q 0)):=fun j q e=>by
  rw [zD (by omega),show xs.length - 1 - j=q by omega]
 have HV:Hid (∀ q wr,q<xs.length->aA wr X (aG xs) 3->wr.cell? ⟨X,q,none⟩=some (ah ((xs.getD q 0:Nat):Int))):=fun q wr hq hb=>hb.cell q (nK hq)
 have I9:(xs.length:Int)<=64:=by omega
 have hw0:IntKind.i64.wrap ((xs.length:Int) - 1)=(xs.length:Int) - 1:=IntWalk.i64_in _ (by omega)
 generalize pF xs=L at *
 obtain ⟨tv,Ja⟩:∃ tv,tv=aG xs:=⟨_,rfl⟩
 rw [<- Ja] at hbx1 HV
 obtain ⟨at_,hat⟩:∃ f:Nat->Nat,f=fun q=>xs.getD q 0:=⟨_,rfl⟩
 have X5:Hid (∀ j q,j+q+1=xs.length->L[j]?=some (q,at_ q)):=fun j q e=>by rw [hat];exact HAT.out j q e
 have HV2:Hid (∀ q wr,q<xs.length->aA wr X tv 3->wr.cell? ⟨X,q,none⟩=some (ah ((at_ q:Nat):Int))):=fun q wr h1 h2=>by rw [hat];exact HV.out q wr h1 h2
 clear HAT HV hat Ja hbx hbp
 generalize xs.length=n at *
 refine callsIn_of_wp func170 rfl trivial ?_ rfl
 simp only [ntmps170,List.size_toArray,List.length_cons,List.length_nil,Nat.reduceAdd,Nat.reduceSub,Array.replicate_succ,Array.replicate_zero,List.push_toArray,List.append_toArray,List.nil_append,List.cons_append]
 gi_wp2_with fail
 gi_loopw [3] (fun v wr=>∃ (j:Nat) (i:Int),j<=n/\i=(n:Int) - 1 - j/\v = ah i/\J j wr/\Holds (qN pB X) W wr) (fun v _=>(intOf v+1).toNat)
 case atStart=>exact ⟨0,_,by omega,by omega,rfl,h0,Holds.refl _ _⟩
 case round =>
  obtain ⟨j,i,hj,hi,rfl,uU,hH⟩:=hrel
  have b1:=hH.blk (.inl rfl) hbp1
  have b2:=hH.blk (.inr rfl) hbx1
  have c1:=b1.cell 0 (v := .slice (some ⟨X,0,none⟩) n n) rfl
  by_cases hlt:j<n
  ·obtain ⟨q,rfl⟩:∃ q:Nat,i=(q:Int):=⟨i.toNat,by omega⟩
   have hq:j+q+1=n:=by omega
   have hqn:q<n:=by omega
   have hq0:(0:Int)<=(q:Int):=by omega
   have Jb:(q:Int)<(n:Int):=by omega
   have c2:=HV2.out q wr hqn b2
   have hL:=X5.out j q hq
   have hwq:IntKind.i64.wrap ((q:Int) - 1)=(q:Int) - 1:=IntWalk.i64_in _ (by omega)
   generalize at_ q=x at *
   have HY:=au hY
   have HJ:=au uU
   have HQ:=au hq
   clear hY uU hi hq
   obtain ⟨fn,tmps,assign,body,hy,hR⟩:=HY.out j (q,x) #[ah (q:Int),ah (x:Int)] wr hL HJ.out rfl
   gi_wp2_with fail
   refine ⟨fun h=>(by cases h),hR.mono ?_⟩
   rintro e W' (⟨rfl,hJ',hk⟩|⟨rfl,D8⟩)
   ·gi_wp2_with fail
    go_roundw
    case rel=>exact ⟨j+1,(q:Int) - 1,by omega,by have:=HQ.out;omega,by go_num,hJ',hH.trans hk⟩
    case measure=>simp [intOf]<;>omega
   ·gi_wp2_with fail
    refine bodyPost_ret (results_none rfl _ _ _) rfl ?_
    exact ⟨⟨_,rfl⟩,.inr ⟨j+1,by rw [HLEN.out];omega,D8⟩⟩
  ·clear hY
   obtain rfl:i = -1:=by omega
   have KI:Hid (j=n):=by unfold Hid;omega
   clear hi
   gi_wp2_with fail
   go_end0
   exact ⟨⟨_,rfl⟩,.inl (by rw [HLEN.out,<- KI.out];exact uU)⟩
end
section
open Go.RowKit
def zF (o o':Ow) (w w':World):Prop:=∀ b cs T,o b=0->aA w b cs T->o' b=0/\aA w' b cs T
theorem Caps.gen {o o':Ow} {w w':World} (k:zF o o' w w'):∀ {l:List (List Value × TypeId)} {bs:List Nat},Caps o w l bs->Caps o' w' l bs
 | [],_,h=>h
 | (cs,T)::l,bs,h=>by
   obtain ⟨b,r,e,h1,h2,h3⟩:=h
   obtain ⟨g1,g2⟩:=k b cs T h1 h2
   exact ⟨b,r,e,g1,g2,Caps.gen k h3⟩
theorem bK.gen {o o':Ow} {w w':World} {fn:Nat} {l:List (List Value × TypeId)} {v:Value} (h:bK o w fn l v) (k:zF o o' w w'):bK o' w' fn l v:=by
 obtain ⟨bs,e,hc⟩:=h
 exact ⟨bs,e,hc.gen k⟩
theorem bC.gen {o o':Ow} {w w':World} {T:TypeId} {v:Value} {xs:List Value} (h:bC o w T v xs) (k:zF o o' w w'):bC o' w' T v xs:=by
 obtain ⟨a,c,rfl,hl,hm,hc⟩:=h
 refine ⟨a,c,rfl,hl,hm,fun h0=>?_⟩
 obtain ⟨b,off,cs,e,h0,hb,hj⟩:=hc h0
 obtain ⟨g1,g2⟩:=k b cs T h0 hb
 exact ⟨b,off,cs,e,g1,g2,hj⟩
theorem uf.gen {o o':Ow} {w w':World} {M:Nat} {rd:RD} {v:Value} (h:uf o w M rd v) (k:zF o o' w w'):uf o' w' M rd v:=by
 cases rd with
 | field base f x=>obtain ⟨op,e,h1⟩:=h;exact ⟨op,e,h1.gen k⟩
 | cell i x=>obtain ⟨op,e,h1⟩:=h;exact ⟨op,e,h1.gen k⟩
theorem ug.gen {o o':Ow} {w w':World} {M:Nat} {rd:RD} {v:Value} (h:ug o w M rd v) (k:zF o o' w w'):ug o' w' M rd v:=by
 cases rd with
 | field base f x=>obtain ⟨op,e,h1⟩:=h;exact ⟨op,e,h1.gen k⟩
 | cell i x=>obtain ⟨op,e,h1⟩:=h;exact ⟨op,e,h1.gen k⟩
theorem kR.gen {o o':Ow} {w w':World} {M:Nat} {rd:RD} {v:Value} (h:kR o w M rd v) (k:zF o o' w w'):kR o' w' M rd v:=by
 obtain ⟨wv,h1,h2⟩:=h
 exact ⟨wv,h1.gen k,h2.gen k⟩
theorem dw.gen {o o':Ow} {w w':World} {Nt M:Nat} (k:zF o o' w w'):∀ {d:MD} {v:Value},dw o w Nt M d v->dw o' w' Nt M d v:=by
 intro d
 induction d with
 | nil=>intro v h;exact h
 | start op=>intro v h;exact bK.gen h k
 | once q =>
   intro v h
   obtain ⟨dv,h1,h2⟩:=h
   refine ⟨dv,h1.gen k,?_⟩
   revert h2
   split
   ·rintro ⟨lv,h2,h3⟩;exact ⟨lv,h2.gen k,h3.gen k⟩
   split
   ·rintro ⟨lv,h2,h3⟩;exact ⟨lv,h2.gen k,h3.gen k⟩
   split
   ·rintro ⟨lv,h2,h3⟩;exact ⟨lv,h2.gen k,h3.gen k⟩
   split
   ·rintro ⟨lv,h2,h3⟩;exact ⟨lv,h2.gen k,h3.gen k⟩
   ·rintro ⟨lv,h2,h3⟩;exact ⟨lv,h2.gen k,h3.gen k⟩
 | note x c t ih =>
   intro v h
   obtain ⟨tv,av,h1,h2,h3⟩:=h
   exact ⟨tv,av,ih h1,h2.gen k,h3.gen k⟩
 | add x t ih=>intro v h;obtain ⟨tv,h1,h2⟩:=h;exact ⟨tv,ih h1,h2.gen k⟩
 | pour c t ih=>intro v h;obtain ⟨tv,h1,h2⟩:=h;exact ⟨tv,ih h1,h2.gen k⟩
 | eu c f t ih=>intro v h;obtain ⟨tv,h1,h2⟩:=h;exact ⟨tv,ih h1,h2.gen k⟩
 | raise t ih=>intro v h;obtain ⟨tv,h1,h2⟩:=h;exact ⟨tv,ih h1,h2.gen k⟩
 | field base f t ih=>intro v h;obtain ⟨tv,h1,h2⟩:=h;exact ⟨tv,ih h1,h2.gen k⟩
 | load op base=>intro v h;exact bK.gen h k
 | get op=>intro v h;exact bK.gen h k
 | lay x rd =>
   intro v h
   obtain ⟨rv,lv,h1,h2,h3⟩:=h
   exact ⟨rv,lv,h1.gen k,h2.gen k,h3.gen k⟩
 | last rd=>intro v h;exact kR.gen h k
 | alloc op q=>intro v h;exact bK.gen h k
 | assign op q=>intro v h;exact bK.gen h k
 | qj op all =>
   intro v h
   obtain ⟨h1,av,h2,h3⟩:=h
   exact ⟨h1,av,h2.gen k,h3.gen k⟩
 | claim op q=>intro v h;exact bK.gen h k
 | again op q=>intro v h;exact bK.gen h k
 | sweep sl c t=>intro v h;exact h.elim
 | fill op a=>intro v h;exact bK.gen h k
 | zero op a i=>intro v h;exact bK.gen h k
end
end Go.Proofs.YtanfphjoebobaaaGreatDoor
