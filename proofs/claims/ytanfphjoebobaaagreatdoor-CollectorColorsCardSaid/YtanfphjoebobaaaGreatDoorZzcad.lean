/- Parts of a walk, put together and made shorter by a program of mine. No conditions. -/
import Derived.Test.YtanfphjoebobaaaGreatDoorZzcac
import Derived.Deep.QuietTactic
import Derived.BigQuiet
import Derived.Deep.RegionWith
import Derived.Test.YtanfphjoebobaaaGreatDoorZzcab
import Derived.Test.YtanfphjoebobaaaGreatDoorZzcg
namespace Go.Proofs.YtanfphjoebobaaaGreatDoor
set_option maxRecDepth 8000
set_option maxHeartbeats 8000000
section
attribute [local go_sem] Oper.semAt_some
open Go.RowKit
section
variable {o o':Ow} {w w':World} {G:Geo} {g:MG} {s:Sh} {m:MS} {nv:Value} {ev:Option Ev}
theorem NK {N:Nat} (h:jf o w G g s m) (ok:Pok N s m) (hN:N≤1000000000) (hst:wL m.next):Calls Tryz.prog 24 #[.pointer (some ⟨g.M,0,none⟩)] w (iO o w G g s m):=by
 obtain ⟨ev,nv,h1,hn⟩:=h
 cases hnil:isNil m.next with
 | true=>exact J7 h1 hn hnil (Nat.le_trans ok.sp hN)
 | false =>
   cases hgo:isNil (stepM s { m with spent:=m.spent+1 } m.next).next with
   | true=>exact NI h1 hn ok hN hst hnil hgo
   | false=>exact P8 h1 hn ok hN hst hnil hgo
theorem NM (h:jf o w G g s m):Calls Tryz.prog 78 #[.pointer (some ⟨g.M,0,none⟩)] w fun e w'=>e = .returned (.bool (!isNil m.next))∧w=w':=by
 obtain ⟨ev,nv,h1,hn⟩:=h
 rcases hn.form2 with ⟨e,rfl⟩|⟨e,fn,caps,rfl⟩
 ·rw [e];exact P6 h1
 ·rw [e];exact Ny h1
theorem jf.still (h:jf o w G g s m) (k:Keep none_ w w'):jf o w' G g s m:=by
 obtain ⟨ev,nv,h1,hn⟩:=h
 exact ⟨ev,nv,h1.still k,hn.ay (I:=[]) k.aF rfl rfl⟩
theorem NP (h:jf o w G g s m):Calls Tryz.prog 42 #[.pointer (some ⟨g.M,0,none⟩)] w fun e w'=>e = .returned (.bool (fU m))∧Keep none_ w w':=by
 have HB:Hid (∀ W,Keep none_ w W→Calls Tryz.prog 78 #[.pointer (some ⟨g.M,0,none⟩)] W fun e w'=>e = .returned (.bool (!isNil m.next))∧W=w'):=fun W hW=>NM (h.still hW)
 obtain ⟨ev,nv,h1,hn⟩:=h
 have hkd:Keep none_ w w.drew:=(Keep.refl none_ w).drew
 obtain ⟨rv,er,_,ra,rc,hrv⟩:=h1.Ag
 rw [hrv] at er
 obtain ⟨pa,pc,ep,_,_⟩:=h1.DN
 have er':=hkd.still er
 have ep':=hkd.still ep
 have HK:Hid (Keep none_ w w.drew):=hkd
 cases hnil:isNil m.next with
 | false =>
   have HD:Hid (fU m=false):=by unfold Hid fU;rw [hnil];rfl
   rw [hnil] at HB
   simp only [Bool.not_false] at HB
   generalize fU m=dn at *
   generalize m.res.length=rl at *
   generalize m.prog.length=pl at *
   clear h1 hn hkd hnil
   go_enter Tryz.func42,Tryz.ntmps42
   go_wp2_with fail
   go_quiet (first|(go_at_call 78;exact Calls.quiet_of_same (dK (HB.out _ ((Keep.refl none_ w).drewN _)))))
   go_wp2_with fail
   go_ret
   exact ⟨by rw [HD.out];rfl,(Keep.refl none_ w).drewN _⟩
 | true =>
   rw [hnil] at HB
   simp only [Bool.not_true] at HB
   by_cases hl:m.res.length=m.prog.length
   ·have HD:Hid (fU m=true):=by unfold Hid fU;rw [hnil,hl];simp
    rw [hl] at er er'
    generalize fU m=dn at *
    generalize m.prog.length=pl at *
    clear h1 hn hkd hnil hl
    go_enter Tryz.func42,Tryz.ntmps42
    go_wp2_with fail
    go_quiet (first|(go_at_call 78;exact Calls.quiet_of_same (dK (HB.out _ ((Keep.refl none_ w).drewN _)))))
    go_wp2_with fail
    go_ret
    exact ⟨by rw [HD.out];rfl,(Keep.refl none_ w).drewN _⟩
   ·have HD:Hid (fU m=false):=by unfold Hid fU;rw [hnil];simp [hl]
    have hne:((m.res.length:Int)==(m.prog.length:Int))=false:=by simp;omega
    generalize fU m=dn at *
    generalize m.res.length=rl at *
    generalize m.prog.length=pl at *
    clear h1 hn hkd hnil hl
    go_enter Tryz.func42,Tryz.ntmps42
    go_wp2_with fail
    go_quiet (first|(go_at_call 78;exact Calls.quiet_of_same (dK (HB.out _ ((Keep.refl none_ w).drewN _)))))
    go_wp2_with fail
    go_ret
    exact ⟨by rw [HD.out];rfl,(Keep.refl none_ w).drewN _⟩
end
theorem RN (l:Int) (w:World) (h:1≤l) (h2:l≤256):Calls Tryz.prog 75 #[.int .i64 l] w fun e w'=>e = .returned (.tuple #[.pointer (some ⟨w.heap.size,0,none⟩),.int .i64 0])∧w'=w.alloc (.cells #[.slice none 0 0,.int .i64 l] 179):=by
 have h3:¬ l<1:=by omega
 have h4:¬ 256<l:=by omega
 go_enter Tryz.func75,Tryz.ntmps75
 go_wp2_with fail
 go_ret2
 exact ⟨rfl,rfl⟩
theorem RP (a b c d:Nat) (w:World):Calls Tryz.prog 76 #[.pointer (some ⟨a,0,none⟩),.pointer (some ⟨b,0,none⟩),.pointer (some ⟨c,0,none⟩),.pointer (some ⟨d,0,none⟩)] w fun e w'=>e = .returned (.tuple #[.pointer (some ⟨w.heap.size,0,none⟩),.int .i64 0])∧w'=w.alloc (.cells #[.pointer (some ⟨a,0,none⟩),.pointer (some ⟨b,0,none⟩),.pointer (some ⟨c,0,none⟩),.pointer (some ⟨d,0,none⟩)] 181):=by
 go_enter Tryz.func76,Tryz.ntmps76
 go_wp2_with fail
 go_ret2
 exact ⟨rfl,rfl⟩
def fP (prog:List OpR):List (List Value):=prog.map OpR.cells
theorem rV {prog:List OpR}:∀ r∈fP prog,r.length=4:=fun r hr=>by
 obtain ⟨op,_,rfl⟩:=List.mem_map.1 hr;rfl
theorem Hg {prog:List OpR}:∀ r∈fP prog,∀ u∈r,u.oneCell'=true:=fun r hr u hu=>by
 obtain ⟨op,_,rfl⟩:=List.mem_map.1 hr
 simp [OpR.cells] at hu
 rcases hu with rfl|rfl|rfl|rfl<;>rfl
theorem flat_get {sz:Nat}:∀ (rs:List (List Value)),(∀ r∈rs,r.length=sz)→∀ i r,rs[i]?=some r→∀ j v,r[j]?=some v→rs.flatten[i*sz+j]?=some v
 | [],_,i,r,h,_,_,_=>by simp at h
 | r0::rs,hr,i,r,hi,j,v,hj=>by
   have h0:r0.length=sz:=hr r0 (by simp)
   rw [List.flatten_cons]
   cases i with
   | zero =>
     simp at hi;subst hi
     have:=(List.getElem?_eq_some_iff.1 hj).1
     rw [Nat.zero_mul,Nat.zero_add,List.getElem?_append_left (by omega)];exact hj
   | succ i =>
     have e:(i+1)*sz+j=r0.length+(i*sz+j):=by rw [Nat.succ_mul,h0];omega
     rw [e,List.getElem?_append_right (by omega),Nat.add_sub_cancel_left]
     exact flat_get rs (fun r h=>hr r (by simp [h])) i r (by simpa using hi) j v hj
theorem lZ.pJ {o:Ow} {w:World} {base n:Nat} {v:Value} {prog:List OpR} (h:w.ownsRow base 83 4 v n (fP prog).flatten) (hn:n=prog.length) (hm:n≤1000) (hf:∀ b,v.ownBlock=some b→o b=0):lZ o w v prog:=by
 subst hn
 obtain ⟨hl,hf2⟩:=h
 rcases hf2 with ⟨rfl,h0⟩|⟨g,cap,cur,rfl,hg0,hg,hn,_,hs,hc⟩
 ·exact ⟨none,0,by rw [h0],hm,fun hp=>by omega⟩
 ·refine ⟨_,cap,rfl,hm,fun hp=>⟨g,0,cur.toList,rfl,hf g rfl,by unfold Blk;simpa using hg,fun i op hi j u hj=>?_⟩⟩
  have h1:=flat_get (fP prog) rV i op.cells (by unfold fP;rw [List.getElem?_map,hi];rfl) j u hj
  rw [← hc] at h1
  have hlt:=(List.getElem?_eq_some_iff.1 h1).1
  rw [Nat.zero_add]
  rw [List.getElem?_take_of_lt (by simp at hlt;omega)] at h1
  exact h1
theorem RQ {o:Ow} {w0 V:World} {G:Geo} {s:Sh} {id M X Bf Nt n:Nat} {prog:List OpR} {pv:Value} (h:ShAt o w0 G s) (hid:id<s.boxes.length) (h8:s.boxes.length≤8) (k:Keep none_ w0 V)
 (hM:Blk V M (jP G ⟨M,X,Bf,Nt⟩ (MS.new s.H.c id prog) none pv (.slice none 0 0) .nilFunc) 108) (hX:Blk V X (aC (List.replicate s.H.c.r.toNat 0)) 3) (hB:Blk V Bf [.slice none 0 0,.int .i64 s.H.c.l] 179) (hN:Blk V Nt [ah (G.D 0),ah Bf,ah (G.bx id),ah G.Fl] 181)
 (hp:V.ownsRow w0.heap.size 83 4 pv n (fP prog).flatten) (hn:n=prog.length) (hm:n≤1000) (g1:w0.heap.size≤M) (g2:w0.heap.size≤X) (g3:w0.heap.size≤Bf) (g4:w0.heap.size≤Nt) :
 ∃ o',aH w0 o o'∧jf o' V G ⟨M,X,Bf,Nt⟩ s (MS.new s.H.c id prog)∧(∀ x,o' x=o x∨(w0.heap.size≤x∧o' x=20+id)):=by
 have nMX:M≠X:=fun e=>by rw [e] at hM;exact absurd (hM.uniq hX).2 (by decide)
 have nMB:M≠Bf:=fun e=>by rw [e] at hM;exact absurd (hM.uniq hB).2 (by decide)
 have nXB:X≠Bf:=fun e=>by rw [e] at hX;exact absurd (hX.uniq hB).2 (by decide)
 have nNM:Nt≠M:=fun e=>by rw [e] at hN;exact absurd (hN.uniq hM).2 (by decide)
 have nNX:Nt≠X:=fun e=>by rw [e] at hN;exact absurd (hN.uniq hX).2 (by decide)
 have nNB:Nt≠Bf:=fun e=>by rw [e] at hN;exact absurd (hN.uniq hB).2 (by decide)
 obtain ⟨o',ho⟩:∃ o':Ow,o'=((o.put M (20+id)).put X (20+id)).put Bf (20+id):=⟨_,rfl⟩
 have hM':o' M=20+id:=by rw [ho];unfold Ow.put;rw [if_neg nMB,if_neg nMX,if_pos rfl]
 have hX':o' X=20+id:=by rw [ho];unfold Ow.put;rw [if_neg nXB,if_pos rfl]
 have hB':o' Bf=20+id:=by rw [ho];unfold Ow.put;rw [if_pos rfl]
 have hoth:∀ x,x≠M→x≠X→x≠Bf→o' x=o x:=fun x h1 h2 h3=>by rw [ho];unfold Ow.put;rw [if_neg h3,if_neg h2,if_neg h1]
 have hext:aH w0 o o':=fun b hb=>hoth b (by omega) (by omega) (by omega)
 have Pn:Fut o' V:=fun b hb=>by
  rw [hoth b (by have:=hM.lt;omega) (by have:=hX.lt;omega) (by have:=hB.lt;omega)]
  exact h.fut b (by have:=k.size;omega)
 have hsh:ShAt o' V G s:=h.move (I:=[]) k.aF rfl h8 hext Pn
 have hbd:=dW h.heap.table.ok
 refine ⟨o',hext,⟨none,.nilFunc,⟨hsh,⟨pv,.slice none 0 0,hM,?_,⟨rfl,.inl ⟨rfl,rfl⟩⟩,fun b hb=>by simp [Value.ownBlock] at hb⟩,hM',hX,hX',⟨by show o' Bf≠0;rw [hB'];omega,.slice none 0 0,hB,aV.nil _ _ _,fun _ _ e=>by cases e;rfl⟩,hB',hN,?_,hid,h8,rfl,?_,?_⟩,rfl⟩,fun x=>?_⟩
 ·refine lZ.pJ hp hn hm (fun b hb=>?_)
  have hlt:=(World.ownsRow.lt hp b hb).1
  have hlt2:=(World.ownsRow.lt hp b hb).2
  rw [hoth b (fun e=>own_ne hM hp (by decide) (by rw [hb,e])) (fun e=>own_ne hX hp (by decide) (by rw [hb,e])) (fun e=>own_ne hB hp (by decide) (by rw [hb,e]))]
  exact h.fut b hlt
 ·show o' Nt=0
  rw [hoth Nt nNM nNX nNB]
  exact h.fut Nt g4
 ·show ((List.replicate s.H.c.r.toNat 0).length:Int)=s.H.c.r
  rw [List.length_replicate];omega
 ·show (0:Int)≤s.H.c.l;omega
 ·by_cases e1:x=M
  ·right;rw [e1];exact ⟨g1,hM'⟩
  by_cases e2:x=X
  ·right;rw [e2];exact ⟨g2,hX'⟩
  by_cases e3:x=Bf
  ·right;rw [e3];exact ⟨g3,hB'⟩
  ·left;exact hoth x e1 e2 e3
section
variable {o o':Ow} {w w':World} {G:Geo} {s:Sh}
theorem ShAt.qK (h:ShAt o w G s):w.cell? ⟨G.S,0,none⟩=some (.pointer (some ⟨G.D 0,0,none⟩))∧w.cell? ⟨G.S,3,none⟩=some (.pointer (some ⟨G.Fl,0,none⟩))∧∃ a c,w.cell? ⟨G.S,4,none⟩=some (.slice a s.boxes.length c)∧∀ i,i<s.boxes.length→∃ b off,a=some ⟨b,off,none⟩∧w.cell? ⟨b,off+i,none⟩=some (.pointer (some ⟨G.bx i,0,none⟩)):=by
 obtain ⟨v,hb,hr⟩:=h.sh
 obtain ⟨a,c,rfl,_,_,hc⟩:=hr.form
 simp only [List.length_map,List.length_range] at hb
 refine ⟨hb.cell 0 rfl,hb.cell 3 rfl,a,c,hb.cell 4 rfl,fun i hi=>?_⟩
 exact hc i (ah (G.bx i)) (by simp [hi])
theorem ShAt.still (h:ShAt o w G s) (k:Keep none_ w w') (h8:s.boxes.length≤8):ShAt o w' G s:=h.ay (I:=[]) k.aF rfl h8
theorem NQ (h:ShAt o w G s) (h8:s.boxes.length≤8) (id:Nat) (hid:id<s.boxes.length) (prog:List OpR) (n:Nat) (hn:n=prog.length) (hm:n≤1000) (a:Option Addr) (c:Nat) (hr:lu w a n 4 (fP prog)) (hnil:a=none→c=0) :
 Calls Tryz.prog 41 #[.pointer (some ⟨G.S,0,none⟩),.int .i64 (id:Int),.slice a n c] w fun e w'=>∃ (o':Ow) (g:MG),e = .returned (.tuple #[.pointer (some ⟨g.M,0,none⟩),.int .i64 0])∧aH w o o'∧jf o' w' G g s (MS.new s.H.c id prog)∧(∀ x,o' x=o x∨(w.heap.size≤x∧o' x=20+id))∧Keep none_ w w':=by
 obtain ⟨s0,s3,sa,sc,s4,sbx⟩:=h.qK
 obtain ⟨sb,Wj,rfl,bxc⟩:=sbx id hid
 have hbd:=dW h.heap.table.ok
 have HCF:=Lib.hid (rG h.heap)
 have HSH:Hid (∀ W,Keep none_ w W→ShAt o W G s):=fun W hW=>h.still hW h8
 have HR:Hid (∀ W,Keep none_ w W→lu W a n 4 (fP prog)):=fun W hW=>hr.below hW
 have HCL:Hid (∀ W,Keep none_ w W→Calls Tryz.prog 77 #[.slice a n c] W fun e w'=>∃ v',e = .returned v'∧w'.ownsRow W.heap.size 83 4 v' n (fP prog).flatten∧Keep none_ W w'):=fun W hW=>Hf a n c (fP prog) W (hr.below hW) rV hnil (by omega) Hg
 obtain ⟨m9,hm9⟩:∃ m9,m9=MS.new s.H.c id prog:=⟨_,rfl⟩
 rw [← hm9]
 have lH:Hid (∀ (V:World) (M X Bf Nt:Nat) (pv:Value),Keep none_ w V→Blk V M (jP G ⟨M,X,Bf,Nt⟩ (MS.new s.H.c id prog) none pv (.slice none 0 0) .nilFunc) 108→Blk V X (aC (List.replicate s.H.c.r.toNat 0)) 3→Blk V Bf [.slice none 0 0,.int .i64 s.H.c.l] 179→Blk V Nt [ah (G.D 0),ah Bf,ah (G.bx id),ah G.Fl] 181→V.ownsRow w.heap.size 83 4 pv n (fP prog).flatten→w.heap.size≤M→w.heap.size≤X→w.heap.size≤Bf→w.heap.size≤Nt →
  ∃ (o':Ow) (g:MG),g.M=M∧aH w o o'∧jf o' V G g s m9∧(∀ x,o' x=o x∨(w.heap.size≤x∧o' x=20+id))∧Keep none_ w V):=fun V M X Bf Nt pv k p1 p2 p3 p4 p5 p6 p7 p8 p9=>by
  obtain ⟨o',q1,q2,q3⟩:=RQ h hid h8 k p1 p2 p3 p4 p5 hn hm p6 p7 p8 p9
  exact ⟨o',⟨M,X,Bf,Nt⟩,rfl,q1,by rw [hm9];exact q2,q3,k⟩
 obtain ⟨r,hrr⟩:∃ r:Nat,s.H.c.r=(r:Int):=⟨s.H.c.r.toNat,by omega⟩
 have hr64:(r:Int)≤64:=by omega
 have hmk:∀ w:World,(Instr.makeSlice 32 (.int .i64 (r:Int)) (.int .i64 (r:Int))).run Tryz.prog w = .ok (.slice (some ⟨w.heap.size,0,none⟩) r r) (w.alloc (.cells (zeros (.int .i64 0) r).toArray 3)) :=
  fun w=>run_mk (P:=Tryz.prog) (by kernel_rfl) Tryz.infoInt rfl (by decide) r (by omega) _ rfl w
 have hzt:aC (List.replicate s.H.c.r.toNat 0)=zeros (.int .i64 0) r:=by
  rw [hrr];simp [aC,zeros]
 have HLN:Hid (∀ W,Calls Tryz.prog 75 #[.int .i64 s.H.c.l] W fun e w'=>e = .returned (.tuple #[.pointer (some ⟨W.heap.size,0,none⟩),.int .i64 0])∧w'=W.alloc (.cells #[.slice none 0 0,.int .i64 s.H.c.l] 179)):=fun W=>RN _ W (by omega) (by omega)
 have Wl:(id:Int)<(s.boxes.length:Int):=by omega
 have hid0:(0:Int)≤(id:Int):=by omega
 have hid1:¬ (s.boxes.length:Int)≤(id:Int):=by omega
 have hmI:(n:Int)≤1000:=by omega
 have hmN:¬ (1000:Int)<(n:Int):=by omega
 rw [hzt] at lH
 have HC:Hid (∃ c0 c1 c2 c4 c6,s.H.c=⟨c0,c1,c2,r,c4,s.H.c.l,c6⟩):=⟨s.H.c.b,s.H.c.w,s.H.c.m,s.H.c.c,s.H.c.s,by rw [← hrr]⟩
 obtain ⟨c0,c1,c2,c4,c6,hcc⟩:=HC.out
 obtain ⟨l,hl⟩:∃ l,l=s.H.c.l:=⟨_,rfl⟩
 rw [← hl] at hcc lH HLN
 simp only [jP,MS.new,hcc,aB.cells] at lH HCF
 generalize s.boxes.length=bl at *
 clear h hr hnil hn hbd hrr hzt hcc hl HC hm9
 go_enter Tryz.func41,Tryz.ntmps41
 go_wp2_with fail
 refine HCF.out.mono ?_
 rintro e w1 ⟨rfl,k1⟩
 obtain ⟨W2,hW2⟩:∃ W2,W2=w1.alloc (.cells #[.int .i64 c0,.int .i64 c1,.int .i64 c2,.int .i64 (r:Int),.int .i64 c4,.int .i64 l,.int .i64 c6] 23):=⟨_,rfl⟩
 have k2:Keep none_ w W2:=by rw [hW2];exact k1.alloc _
 have hcb:Blk W2 w1.heap.size [.int .i64 c0,.int .i64 c1,.int .i64 c2,.int .i64 (r:Int),.int .i64 c4,.int .i64 l,.int .i64 c6] 23:=by rw [hW2];exact Blk.new w1 _ _
 have HW2:=Lib.hid hW2
 have HK2:=Lib.hid k2
 have TY:Hid (w.heap.size≤w1.heap.size):=k1.size
 have HCB:=Lib.hid hcb
 have HS0:=Lib.hid s0
 have HS3:=Lib.hid s3
 have HS4:=Lib.hid s4
 have HBX:=Lib.hid bxc
 clear k1 HCF hW2 k2 hcb s0 s3 s4 bxc
 go_wp2_with fail
 rw [← HW2.out]
 refine (HLN.out _).mono ?_
 rintro e w3 ⟨rfl,hw3⟩
 have k23:Keep none_ W2 w3:=by rw [hw3];exact (Keep.refl _ _).alloc _
 have hbf:Blk w3 W2.heap.size [.slice none 0 0,.int .i64 l] 179:=by rw [hw3];exact Blk.new W2 _ _
 have k3:Keep none_ w w3:=HK2.out.trans k23
 have s0:=k3.still HS0.out
 have s3:=k3.still HS3.out
 have s4:=k3.still HS4.out
 have sx:=k3.still HBX.out
 have k3d:Keep none_ w w3.drew:=k3.drew
 have HNT:=Lib.hid (RP (G.D 0) W2.heap.size (G.bx id) G.Fl w3.drew)
 have HBF:=Lib.hid hbf
 have HK3:=Lib.hid k3
 have Ua:=Lib.hid k23
 clear hw3 k23 hbf k3 k3d HLN
 go_wp2_with fail
 refine aA 16 rfl (by kernel_rfl) (by kernel_rfl) (fun K hK=>?_)
 change wpStill _ _ (World.drew _) _ _ _
 simp only [List.take_succ_cons,List.take_zero,List.drop_succ_cons,List.drop_zero] at hK ⊢
 repeat still_step
 refine wpStill_nil ?_
 change ite _ (Oper.wp _ _ _ _ _ _) _
 go_simp
 refine HNT.out.mono ?_
 rintro e w4 ⟨rfl,hw4⟩
 refine hK _ _ ?_
 clear hK K
 have k34:Keep none_ w3 w4:=by rw [hw4];exact (Keep.refl none_ w3).drew.alloc _
 have hnt:Blk w4 w3.heap.size [.pointer (some ⟨G.D 0,0,none⟩),.pointer (some ⟨W2.heap.size,0,none⟩),.pointer (some ⟨G.bx id,0,none⟩),.pointer (some ⟨G.Fl,0,none⟩)] 181:=by rw [hw4];exact Blk.new w3.drew _ _
 have e4:w4.heap.size=w3.heap.size+1:=by rw [hw4];simp
 have Ub:=Lib.hid (k34.blk HBF.out (fun f=>f))
 have vJ:=Lib.hid ((Ua.out.trans k34).blk HCB.out (fun f=>f))
 have HK4:=Lib.hid (HK3.out.trans k34)
 have Uc:=Lib.hid hnt
 have HE4:Hid (w.heap.size≤w1.heap.size∧w1.heap.size<W2.heap.size∧W2.heap.size<w3.heap.size):=⟨TY.out,HCB.out.lt,HBF.out.lt⟩
 clear hw4 k34 hnt s0 s3 s4 sx HNT HBF HCB Ua HK3 e4
 repeat still_step
 refine wpStill_nil ?_
 have AA:Hid (∀ W',Keep none_ w4 W'→W'.cell? ⟨w1.heap.size,0,none⟩=some (.int .i64 c0)∧W'.cell? ⟨w1.heap.size,1,none⟩=some (.int .i64 c1)∧W'.cell? ⟨w1.heap.size,2,none⟩=some (.int .i64 c2)∧W'.cell? ⟨w1.heap.size,3,none⟩=some (.int .i64 (r:Int))∧W'.cell? ⟨w1.heap.size,4,none⟩=some (.int .i64 c4)∧W'.cell? ⟨w1.heap.size,5,none⟩=some (.int .i64 l)∧W'.cell? ⟨w1.heap.size,6,none⟩=some (.int .i64 c6)):=fun W' hW=>⟨hW.still (vJ.out.cell 0 rfl),hW.still (vJ.out.cell 1 rfl),hW.still (vJ.out.cell 2 rfl),hW.still (vJ.out.cell 3 rfl),hW.still (vJ.out.cell 4 rfl),hW.still (vJ.out.cell 5 rfl),hW.still (vJ.out.cell 6 rfl)⟩
 have Ud:Hid (∀ W,Keep none_ w4 W→Calls Tryz.prog 77 #[.slice a n c] W fun e w'=>∃ a8 c8,e = .returned (.slice a8 n c8)∧Hid (w'.ownsRow w.heap.size 83 4 (.slice a8 n c8) n (fP prog).flatten)∧Hid (Keep none_ W w')∧Hid (Keep none_ w4 w')∧(∀ x,Keep none_ w4 (w'.alloc x))):=fun W hW=>by
  refine (HCL.out W (HK4.out.trans hW)).mono ?_
  rintro e w' ⟨v',rfl,h1,h2⟩
  obtain ⟨a8,c8,rfl⟩:∃ a8 c8,v' = .slice a8 n c8:=by
   rcases h1.2 with ⟨e1,e2⟩|⟨q,cap,cur,e1,_⟩
   ·exact ⟨none,0,by rw [e1,e2]⟩
   ·exact ⟨_,_,e1⟩
  exact ⟨a8,c8,rfl,dP h1 (HK4.out.trans hW).size,h2,hW.trans h2,fun x=>(hW.trans h2).alloc x⟩
 have dO:Hid (∀ (V:World) (X:Nat) (pv:Value),Keep none_ w4 V→w.heap.size≤X→Blk V X (zeros (.int .i64 0) r) 3→V.ownsRow w.heap.size 83 4 pv n (fP prog).flatten →
  ∃ (o':Ow) (g:MG),g.M=V.heap.size∧aH w o o'∧jf o' (V.alloc (.cells #[.pointer (some ⟨G.S,0,none⟩),.int .i64 c0,.int .i64 c1,.int .i64 c2,.int .i64 (r:Int),.int .i64 c4,.int .i64 l,.int .i64 c6,.int .i64 (id:Int),.slice (some ⟨X,0,none⟩) r r,.pointer (some ⟨W2.heap.size,0,none⟩),.pointer (some ⟨w3.heap.size,0,none⟩),.int .i64 0,.int .i64 0,.int .i64 0,pv,.slice none 0 0,.nilFunc,.int .i64 0,.int .i64 0,.int .i64 0,.int .i64 0,.bool false,.int .i64 0,.int .i64 0,.int .i64 0,.int .i64 0,.int .i64 0,.int .i64 0,.bool false] 108)) G g s m9∧(∀ x,o' x=o x∨(w.heap.size≤x∧o' x=20+id))∧Keep none_ w (V.alloc (.cells #[.pointer (some ⟨G.S,0,none⟩),.int .i64 c0,.int .i64 c1,.int .i64 c2,.int .i64 (r:Int),.int .i64 c4,.int .i64 l,.int .i64 c6,.int .i64 (id:Int),.slice (some ⟨X,0,none⟩) r r,.pointer (some ⟨W2.heap.size,0,none⟩),.pointer (some ⟨w3.heap.size,0,none⟩),.int .i64 0,.int .i64 0,.int .i64 0,pv,.slice none 0 0,.nilFunc,.int .i64 0,.int .i64 0,.int .i64 0,.int .i64 0,.bool false,.int .i64 0,.int .i64 0,.int .i64 0,.int .i64 0,.int .i64 0,.int .i64 0,.bool false] 108))):=fun V X pv k p1 p2 p3=>by
  have kv:Keep none_ V (V.alloc (.cells #[.pointer (some ⟨G.S,0,none⟩),.int .i64 c0,.int .i64 c1,.int .i64 c2,.int .i64 (r:Int),.int .i64 c4,.int .i64 l,.int .i64 c6,.int .i64 (id:Int),.slice (some ⟨X,0,none⟩) r r,.pointer (some ⟨W2.heap.size,0,none⟩),.pointer (some ⟨w3.heap.size,0,none⟩),.int .i64 0,.int .i64 0,.int .i64 0,pv,.slice none 0 0,.nilFunc,.int .i64 0,.int .i64 0,.int .i64 0,.int .i64 0,.bool false,.int .i64 0,.int .i64 0,.int .i64 0,.int .i64 0,.int .i64 0,.int .i64 0,.bool false] 108)):=(Keep.refl _ _).alloc _
  have he:=HE4.out
  exact lH.out _ V.heap.size X W2.heap.size w3.heap.size pv ((HK4.out.trans k).trans kv) (by refine Eq.mpr ?_ (Blk.new V [.pointer (some ⟨G.S,0,none⟩),.int .i64 c0,.int .i64 c1,.int .i64 c2,.int .i64 (r:Int),.int .i64 c4,.int .i64 l,.int .i64 c6,.int .i64 (id:Int),.slice (some ⟨X,0,none⟩) r r,.pointer (some ⟨W2.heap.size,0,none⟩),.pointer (some ⟨w3.heap.size,0,none⟩),.int .i64 0,.int .i64 0,.int .i64 0,pv,.slice none 0 0,.nilFunc,.int .i64 0,.int .i64 0,.int .i64 0,.int .i64 0,.bool false,.int .i64 0,.int .i64 0,.int .i64 0,.int .i64 0,.int .i64 0,.int .i64 0,.bool false] 108);congr 1;simp [sD]) (kv.blk p2 (fun f=>f)) ((k.trans kv).blk Ub.out (fun f=>f)) ((k.trans kv).blk Uc.out (fun f=>f)) (fA p3 kv) (by have:=(HK4.out.trans k).size;omega) p1 (by omega) (by omega)
 have HSZ:Hid (w.heap.size≤w4.heap.size):=HK4.out.size
 have HCA:=Lib.hid (Ud.out w4.drew ((Keep.refl none_ w4).drew))
 have Vy:=Lib.hid (Ud.out (w4.alloc (.cells (zeros (.int .i64 0) r).toArray 3)).drew (((Keep.refl none_ w4).alloc _).drew))
 clear HCL lH HE4 HK4 vJ Uc Ub HSH HR HW2 HK2 TY HS0 HS3 HS4 HBX
 go_wp2_with fail
 go_region_held3 (fun W'=>W'.cell? ⟨w1.heap.size,0,none⟩=some (.int .i64 c0)∧W'.cell? ⟨w1.heap.size,1,none⟩=some (.int .i64 c1)∧W'.cell? ⟨w1.heap.size,2,none⟩=some (.int .i64 c2)∧W'.cell? ⟨w1.heap.size,3,none⟩=some (.int .i64 (r:Int))∧W'.cell? ⟨w1.heap.size,4,none⟩=some (.int .i64 c4)∧W'.cell? ⟨w1.heap.size,5,none⟩=some (.int .i64 l)∧W'.cell? ⟨w1.heap.size,6,none⟩=some (.int .i64 c6))
  (first
   | exact AA.out _ ((Keep.refl none_ w4).drew)
   | exact AA.out _ (((Keep.refl none_ w4).drew).alloc _)
   | exact AA.out _ (((Keep.refl none_ w4).alloc _).drew)
   | exact AA.out _ hk48.out
   | exact AA.out _ (Ko _)
   | exact AA.out _ ((Ko _).alloc _)
   | fail "iw")
  (first
   | ((first|refine HCA.out.mono ?_|refine Vy.out.mono ?_)
      rintro e w8 ⟨a8,c8,rfl,hown,hk8,hk48,Ko⟩)
   | fail "jc")
 all_goals
  go_wp2_with fail
  go_ret2
  first
   | (obtain ⟨o',g,q1,q2,q3,q4,q5⟩:=dO.out w8 w4.heap.size (.slice a8 n c8) hk48.out HSZ.out (hk8.out.blk ((Blk.new w4 (zeros (.int .i64 0) r) 3).drew) (fun f=>f)) hown.out
      exact ⟨o',g,by rw [q1];rfl,q2,q3,q4,q5⟩)
   | (obtain ⟨o',g,q1,q2,q3,q4,q5⟩:=dO.out (w8.alloc (.cells (zeros (.int .i64 0) r).toArray 3)) w8.heap.size (.slice a8 n c8) (Ko _) (Nat.le_trans HSZ.out hk48.out.size) (Blk.new w8 (zeros (.int .i64 0) r) 3) (fA hown.out ((Keep.refl none_ w8).alloc _))
      rw [World.size_alloc] at q1
      exact ⟨o',g,by rw [q1];rfl,q2,q3,q4,q5⟩)
end
def CS.new (c:aB) (n:Nat):CS:=⟨n,c.b.toNat,c.c.toNat,c.s.toNat,0,0,0,false,false,[],false,.nil,0,0⟩
section
variable {o o':Ow} {w w':World} {G:Geo} {s:Sh}
theorem NR (room:Int) (h1:1≤room) (h2:room≤4096) (w:World):Calls Tryz.prog 44 #[.int .i64 room] w fun e w'=>e = .returned (.tuple #[.pointer (some ⟨w.heap.size,0,none⟩),.int .i64 0])∧w'=w.alloc (.cells #[.slice none 0 0,.int .i64 room,.bool false] 135):=by
 have d1:¬ room<1:=by omega
 have d2:¬ (4096:Int)<room:=by omega
 go_enter Tryz.func44,Tryz.ntmps44
 go_wp2_with fail
 go_ret2
 exact ⟨rfl,rfl⟩
theorem Qa (h:ShAt o w G s) (h8:s.boxes.length≤8) {V:World} {C K:Nat} (k:Keep none_ w V) (hb:1≤s.H.c.b) (hc:0≤s.H.c.c) (hs:1≤s.H.c.s)
 (hC:Blk V C (ig G ⟨C,K⟩ (CS.new s.H.c s.boxes.length) none .nilFunc) 90) (hK:Blk V K [.slice none 0 0,.int .i64 s.H.c.s,.bool false] 135) (h1:w.heap.size≤C) (h2:w.heap.size≤K) :
 ∃ (o':Ow),aH w o o'∧eY o' V G ⟨C,K⟩ s (CS.new s.H.c s.boxes.length)∧∀ x,o' x=o x∨(w.heap.size≤x∧o' x=5):=by
 have e1:aH w o (o.put K 5):=Ow.iM (.inl h2)
 have f1:Fut (o.put K 5) V:=Ow.kD h.fut k.size hK.lt
 have e2:aH w (o.put K 5) ((o.put K 5).put C 5):=Ow.iM (.inl h1)
 have f2:Fut ((o.put K 5).put C 5) V:=Ow.kD f1 (Nat.le_refl _) hC.lt
 have e:aH w o ((o.put K 5).put C 5):=fun b hb=>(e2 b hb).trans (e1 b hb)
 have oC:((o.put K 5).put C 5) C=5:=Ow.jB _ _ _
 have oK:((o.put K 5).put C 5) K=5:=by
  by_cases hx:K=C
  ·rw [hx];exact Ow.jB _ _ _
  ·unfold Ow.put
   simp [hx]
 have hs2:s.H.c.s=((CS.new s.H.c s.boxes.length).room:Int):=by show s.H.c.s=((s.H.c.s.toNat:Nat):Int);omega
 refine ⟨_,e,⟨none,.nilFunc,⟨h.move (I:=[]) k.aF rfl h8 e f2,hC,oC,⟨.slice none 0 0,?_,⟨rfl,.inl ⟨rfl,rfl⟩⟩,fun b hb=>by cases hb⟩,oK,h8⟩,rfl⟩,fun x=>?_⟩
 ·rw [← hs2];exact hK
 ·unfold Ow.put
  by_cases hx:x=C
  ·exact .inr ⟨by omega,by simp [hx]⟩
  ·by_cases hy:x=K
   ·exact .inr ⟨by omega,by simp [hx,hy]⟩
   ·exact .inl (by simp [hx,hy])
theorem Kq (h:ShAt o w G s) (h8:s.boxes.length≤8):Calls Tryz.prog 13 #[.pointer (some ⟨G.S,0,none⟩)] w fun e w'=>∃ (o':Ow) (q:CG),e = .returned (.tuple #[.pointer (some ⟨q.C,0,none⟩),.int .i64 0])∧aH w o o'∧eY o' w' G q s (CS.new s.H.c s.boxes.length)∧(∀ x,o' x=o x∨(w.heap.size≤x∧o' x=5))∧Keep none_ w w':=by
 obtain ⟨s0,s3,sa,sc,s4,sbx⟩:=h.qK
 have hbd:=dW h.heap.table.ok
 have HCF:=Lib.hid (rG h.heap)
 obtain ⟨nb,hnb⟩:∃ n:Nat,s.H.c.b=(n:Int):=⟨s.H.c.b.toNat,by omega⟩
 obtain ⟨nc,hnc⟩:∃ n:Nat,s.H.c.c=(n:Int):=⟨s.H.c.c.toNat,by omega⟩
 have lH:Hid (∀ (V:World) (C K:Nat),Keep none_ w V→Blk V C [ah G.S,.int .i64 (s.boxes.length:Int),.int .i64 s.H.c.b,.int .i64 s.H.c.c,.int .i64 0,.int .i64 0,.int .i64 0,.bool false,.bool false,ah K,.nilFunc,.int .i64 0,.int .i64 0,.int .i64 0,.int .i64 0,.int .i64 0,.int .i64 0,.int .i64 0,.int .i64 0,.bool false] 90→Blk V K [.slice none 0 0,.int .i64 s.H.c.s,.bool false] 135→w.heap.size≤C→w.heap.size≤K →
  ∃ (o':Ow) (q:CG),q.C=C∧aH w o o'∧eY o' V G q s (CS.new s.H.c s.boxes.length)∧(∀ x,o' x=o x∨(w.heap.size≤x∧o' x=5))∧Keep none_ w V):=fun V C K k p1 p2 p3 p4=>by
  obtain ⟨o',q1,q2,q3⟩:=Qa (C:=C) (K:=K) h h8 k (by omega) (by omega) (by omega) (by
   have:ig G ⟨C,K⟩ (CS.new s.H.c s.boxes.length) none .nilFunc=[ah G.S,.int .i64 (s.boxes.length:Int),.int .i64 s.H.c.b,.int .i64 s.H.c.c,.int .i64 0,.int .i64 0,.int .i64 0,.bool false,.bool false,ah K,.nilFunc,.int .i64 0,.int .i64 0,.int .i64 0,.int .i64 0,.int .i64 0,.int .i64 0,.int .i64 0,.int .i64 0,.bool false]:=by
    rw [hnb,hnc]
    simp [ig,CS.new,sD,hnb,hnc]
   rw [this];exact p1) p2 p3 p4
  exact ⟨o',_,rfl,q1,q2,q3,k⟩
 have HSN:Hid (∀ W,Calls Tryz.prog 44 #[.int .i64 s.H.c.s] W fun e w'=>e = .returned (.tuple #[.pointer (some ⟨W.heap.size,0,none⟩),.int .i64 0])∧w'=W.alloc (.cells #[.slice none 0 0,.int .i64 s.H.c.s,.bool false] 135)):=fun W=>NR _ (by omega) (by omega) W
 have HC:Hid (∃ c1 c2 c3 c5,s.H.c=⟨s.H.c.b,c1,c2,c3,s.H.c.c,c5,s.H.c.s⟩):=⟨s.H.c.w,s.H.c.m,s.H.c.r,s.H.c.l,rfl⟩
 obtain ⟨c1,c2,c3,c5,hcc⟩:=HC.out
 have AB:s.H.c.cells=[.int .i64 s.H.c.b,.int .i64 c1,.int .i64 c2,.int .i64 c3,.int .i64 s.H.c.c,.int .i64 c5,.int .i64 s.H.c.s]:=by
  rw [hcc];rfl
 rw [AB] at HCF
 generalize CS.new s.H.c s.boxes.length=cs at *
 generalize s.H.c.b=kb at *
 generalize s.H.c.c=kc at *
 generalize s.H.c.s=ks at *
 generalize s.boxes.length=bl at *
 clear AB hcc HC hbd hnb hnc sbx
 go_enter Tryz.func13,Tryz.ntmps13
 go_wp2_with fail
 refine HCF.out.mono ?_
 rintro e w1 ⟨rfl,k1⟩
 obtain ⟨W2,hW2⟩:∃ W2,W2=w1.alloc (.cells #[.int .i64 kb,.int .i64 c1,.int .i64 c2,.int .i64 c3,.int .i64 kc,.int .i64 c5,.int .i64 ks] 23):=⟨_,rfl⟩
 have k2:Keep none_ w W2:=by rw [hW2];exact k1.alloc _
 have hcb:Blk W2 w1.heap.size [.int .i64 kb,.int .i64 c1,.int .i64 c2,.int .i64 c3,.int .i64 kc,.int .i64 c5,.int .i64 ks] 23:=by rw [hW2];exact Blk.new w1 _ _
 have HW2:=Lib.hid hW2
 have HK2:=Lib.hid k2
 have y0:=hcb.cell 6 (v := .int .i64 ks) rfl
 rw [hW2] at y0
 have HCB:=Lib.hid hcb
 have HS4:=Lib.hid s4
 clear k1 HCF hW2 k2 hcb s0 s3 s4
 go_wp2_with fail
 rw [← HW2.out]
 refine (HSN.out _).mono ?_
 rintro e w3 ⟨rfl,hw3⟩
 have k23:Keep none_ W2 w3:=by rw [hw3];exact (Keep.refl _ _).alloc _
 have hst:Blk w3 W2.heap.size [.slice none 0 0,.int .i64 ks,.bool false] 135:=by rw [hw3];exact Blk.new W2 _ _
 have k3:Keep none_ w w3:=HK2.out.trans k23
 have z4:=k3.still HS4.out
 have z0:=k23.still (HCB.out.cell 0 (v := .int .i64 kb) rfl)
 have z6:=k23.still (HCB.out.cell 4 (v := .int .i64 kc) rfl)
 have HST:=Lib.hid hst
 have HK3:=Lib.hid k3
 have HSZ:Hid (w.heap.size≤W2.heap.size):=HK2.out.size
 clear k23 hst k3 hw3 y0 HSN HS4 HCB HW2
 go_wp2_with fail
 go_region
 go_wp2_with fail
 go_ret2
 obtain ⟨o',q,q1,q2,q3,q4,q5⟩:=lH.out (w3.alloc (.cells #[.pointer (some ⟨G.S,0,none⟩),.int .i64 (bl:Int),.int .i64 kb,.int .i64 kc,.int .i64 0,.int .i64 0,.int .i64 0,.bool false,.bool false,.pointer (some ⟨W2.heap.size,0,none⟩),.nilFunc,.int .i64 0,.int .i64 0,.int .i64 0,.int .i64 0,.int .i64 0,.int .i64 0,.int .i64 0,.int .i64 0,.bool false] 90)).drew w3.heap.size W2.heap.size ((HK3.out.alloc _).drew) ((Blk.new w3 [ah G.S,.int .i64 (bl:Int),.int .i64 kb,.int .i64 kc,.int .i64 0,.int .i64 0,.int .i64 0,.bool false,.bool false,ah W2.heap.size,.nilFunc,.int .i64 0,.int .i64 0,.int .i64 0,.int .i64 0,.int .i64 0,.int .i64 0,.int .i64 0,.int .i64 0,.bool false] 90).drew) ((HST.out.alloc _).drew) HK3.out.size HSZ.out
 exact ⟨o',q,by rw [q1];rfl,q2,q3,q4,q5⟩
end
section
variable {o o':Ow} {w w':World} {G:Geo} {q:CG} {s:Sh} {c:CS}
theorem eY.still (h:eY o w G q s c) (k:Keep none_ w w'):eY o w' G q s c:=by
 obtain ⟨ev,nv,h1,hn⟩:=h
 exact ⟨ev,nv,h1.still k,hn.still k⟩
theorem eY.cell (h:eY o w G q s c):w.cell? ⟨q.C,4,none⟩=some (.int .i64 (c.phase:Int))∧w.cell? ⟨q.C,5,none⟩=some (.int .i64 (c.color:Int))∧w.cell? ⟨q.C,6,none⟩=some (.int .i64 (c.cycles:Int))∧w.cell? ⟨q.C,7,none⟩=some (.bool c.wish)∧w.cell? ⟨q.C,11,none⟩=some (.int .i64 (c.drains:Int))∧w.cell? ⟨q.C,12,none⟩=some (.int .i64 (c.walks:Int))∧w.frozen? ⟨q.C,7,none⟩=false:=by
 obtain ⟨ev,nv,h1,hn⟩:=h
 exact ⟨h1.cell 4 _ rfl,h1.cell 5 _ rfl,h1.cell 6 _ rfl,h1.cell 7 _ rfl,h1.cell 11 _ rfl,h1.cell 12 _ rfl,h1.free 7⟩
theorem nD (h:eY o w G q s c):Calls Tryz.prog 17 #[.pointer (some ⟨q.C,0,none⟩)] w fun e w'=>e = .returned (.int .i64 (c.phase:Int))∧w=w':=by
 obtain ⟨y4,y5,y6,y7,y11,y12,f7⟩:=h.cell
 clear h
 go_enter Tryz.func17,Tryz.ntmps17
 go_wp2_with fail
 go_ret
 exact ⟨rfl,rfl⟩
theorem uj (h:eY o w G q s c):Calls Tryz.prog 18 #[.pointer (some ⟨q.C,0,none⟩)] w fun e w'=>e = .returned (.int .i64 (c.color:Int))∧w=w':=by
 obtain ⟨y4,y5,y6,y7,y11,y12,f7⟩:=h.cell
 clear h
 go_enter Tryz.func18,Tryz.ntmps18
 go_wp2_with fail
 go_ret
 exact ⟨rfl,rfl⟩
theorem Hl (h:eY o w G q s c):Calls Tryz.prog 19 #[.pointer (some ⟨q.C,0,none⟩)] w fun e w'=>e = .returned (.int .i64 (c.cycles:Int))∧w=w':=by
 obtain ⟨y4,y5,y6,y7,y11,y12,f7⟩:=h.cell
 clear h
 go_enter Tryz.func19,Tryz.ntmps19
 go_wp2_with fail
 go_ret
 exact ⟨rfl,rfl⟩
theorem Ho (h:eY o w G q s c):Calls Tryz.prog 16 #[.pointer (some ⟨q.C,0,none⟩)] w fun e w'=>e = .returned (.bool c.wish)∧w=w':=by
 obtain ⟨y4,y5,y6,y7,y11,y12,f7⟩:=h.cell
 clear h
 go_enter Tryz.func16,Tryz.ntmps16
 go_wp2_with fail
 go_ret
 exact ⟨by simp,rfl⟩
theorem NS (h:eY o w G q s c):Calls Tryz.prog 14 #[.pointer (some ⟨q.C,0,none⟩)] w fun e w'=>e = .returned (.tuple #[])∧eY o w' G q s { c with wish:=true }∧Keep (In o [5]) w w':=by
 obtain ⟨y4,y5,y6,y7,y11,y12,f7⟩:=h.cell
 have HE:Hid (eY o (w.setCell ⟨q.C,7,none⟩ (.bool true)) G q s { c with wish:=true }∧Keep (In o [5]) w (w.setCell ⟨q.C,7,none⟩ (.bool true))):=by
  obtain ⟨ev,nv,h1,hn⟩:=h
  obtain ⟨h2,k2⟩:=h1.put 7 (.bool true) { c with wish:=true } ev nv rfl ⟨rfl,rfl,rfl⟩
  exact ⟨⟨ev,nv,h2,hn.ay k2 rfl rfl⟩,k2⟩
 clear h
 go_enter Tryz.func14,Tryz.ntmps14
 go_wp2_with fail
 go_end0
 exact ⟨rfl,HE.out.1,HE.out.2⟩
end
end
section
structure ShK (s s':Sh):Prop where
 bl:s'.boxes.length=s.boxes.length
 ql:∀ k,(s'.Q.rw k).length≤(s.Q.rw k).length
 cnt:s'.B.count=s.B.count
 mu:s'.B.muts=s.B.muts
 c:s'.H.c=s.H.c
 ww:s'.H.ww=s.H.ww
theorem ShK.refl (s:Sh):ShK s s:=⟨rfl,fun _=>Nat.le_refl _,rfl,rfl,rfl,rfl⟩
theorem ShK.heap (s:Sh) {H:HS} (h:H.ww=s.H.ww∧H.c=s.H.c):ShK s { s with H:=H }:=⟨rfl,fun _=>Nat.le_refl _,rfl,rfl,h.2,h.1⟩
theorem zN (b:Bd) (k:Int):(b.gu k).count=b.count∧(b.gu k).muts=b.muts:=by
 unfold Bd.gu
 split<;>exact ⟨rfl,rfl⟩
section
variable {N:Nat} {s:Sh} {m:MS}
theorem Qb (s:Sh) (m:MS) (o:OpR):(fK s m o).s=s:=by
 unfold fK uX lW jS
 repeat' split
 all_goals rfl
theorem Qc (s:Sh) (m:MS) (d:MD):ShK s (stepM s m d).s:=by
 cases d with
 | nil=>exact ShK.refl s
 | start o=>show ShK s (fK s m o).s;rw [Qb];exact ShK.refl s
 | once k=>exact ⟨rfl,fun _=>Nat.le_refl _,(zN _ _).1,(zN _ _).2,rfl,rfl⟩
 | note v c t =>
   simp only [stepM]
   repeat' split
   all_goals exact ShK.refl s
 | add v t =>
   simp only [stepM]
   split<;>exact ShK.refl s
 | pour c t =>
   simp only [stepM]
   split
   ·exact ⟨by simp,fun _=>Nat.le_refl _,rfl,rfl,rfl,rfl⟩
   ·exact ShK.refl s
 | dG c f t=>exact ShK.heap s (yu _ _)
 | raise t=>exact ⟨rfl,fun _=>Nat.le_refl _,rfl,rfl,rfl,rfl⟩
 | field base f t =>
   simp only [stepM]
   split<;>exact ShK.refl s
 | load o base=>exact ShK.refl s
 | get o=>exact ShK.refl s
 | lay v rd=>exact ShK.refl s
 | last rd=>exact ShK.heap s (U2 rd)
 | alloc o k =>
   simp only [stepM]
   split
   ·exact ShK.heap s (Aw k)
   ·exact ShK.refl s
 | assign o k =>
   simp only [stepM]
   split
   ·exact ShK.heap s (BX k)
   ·exact ShK.refl s
 | lS o all=>exact ShK.heap s (E8 _)
 | claim o k =>
   simp only [stepM]
   split
   ·exact ShK.refl s
   ·exact ⟨rfl,fun j=>Il s.Q k j,rfl,rfl,rfl,rfl⟩
 | again o k =>
   simp only [stepM]
   split
   ·exact ShK.heap s (Aw k)
   ·exact ShK.refl s
 | sweep sl c t =>
   cases sl with
   | nil =>
     refine ⟨rfl,fun j=>?_,rfl,rfl,rfl,rfl⟩
     show ((if s.Q.opn=0 then s.Q else s.Q.lQ).rw j).length≤_
     split<;>exact Nat.le_refl _
   | cons a r =>
     simp only [stepM]
     split
     ·exact ShK.refl s
     ·exact ShK.heap s (Az a)
 | fill o a=>exact ShK.heap s (Fa _ _)
 | zero o a i =>
   simp only [stepM]
   split
   ·exact ShK.heap s (Ir _ _)
   ·exact ShK.heap s (uh _ _ _)
theorem Fp (s:Sh) (m:MS):ShK s (aQ s m).1:=by
 unfold aQ
 split
 ·exact ShK.refl s
 ·exact Qc s _ _
theorem Pok.sh {M:Nat} {s':Sh} (h:Pok N s m) (hM:N≤M) (ho:s'.Q.opn≤M) (hq:QOk s'):Pok M s' m:=⟨h.color,h.want,ho,Nat.le_trans h.res hM,hq,Nat.le_trans h.sp hM,h.rl,h.nx⟩
theorem CK.sh {M:Nat} {s':Sh} {c:CS} (h:CK N s c) (hM:N≤M) (k:ShK s s') (ho:s'.Q.opn≤M) (hq:QOk s'):CK M s' c :=
 ⟨k.bl.trans h.mu,h.mu1,h.bl,h.ce,h.rm,h.stk,h.color,Nat.le_trans h.cyc hM,Nat.le_trans h.dr hM,Nat.le_trans h.wa hM,ho,hq,fun j=>Nat.le_trans (k.ql j) (Nat.le_trans (h.ql j) hM),by rw [k.cnt];exact ⟨h.cnt.1,by have:=h.cnt.2;omega⟩,h.ph⟩
structure ShC (s s':Sh):Prop where
 bl:s'.boxes.length=s.boxes.length
 mu:s'.B.muts=s.B.muts
 c:s'.H.c=s.H.c
 ww:s'.H.ww=s.H.ww
theorem ShC.refl (s:Sh):ShC s s:=⟨rfl,rfl,rfl,rfl⟩
theorem NT (b:Bd) (k:Int):(b.kX k).muts=b.muts:=by
 unfold Bd.kX
 split<;>rfl
theorem sH (s:Sh) (c:CS) (p:Nat) (t:CD) (ev:Option Ev):ShC s (oU s c p t ev).s:=⟨rfl,NT _ _,rfl,rfl⟩
theorem Qd (s:Sh) (c:CS) (d:CD):ShC s (aj s c d).s:=by
 cases d with
 | arm=>exact sH _ _ _ _ _
 | scan=>exact sH _ _ _ _ _
 | drain=>exact sH _ _ _ _ _
 | off=>exact sH _ _ _ _ _
 | look v t =>
   simp only [aj]
   split
   ·exact ⟨rfl,rfl,(yu _ _).2,(yu _ _).1⟩
   ·exact ShC.refl s
 | work =>
   simp only [aj]
   split<;>exact ShC.refl s
 | box m =>
   simp only [aj]
   split
   ·exact ⟨by simp,rfl,rfl,rfl⟩
   ·exact ShC.refl s
 | over =>
   simp only [aj]
   repeat' split
   all_goals exact ⟨rfl,rfl,rfl,rfl⟩
 | enqueue b =>
   simp only [aj]
   split<;>exact ⟨rfl,rfl,rfl,rfl⟩
 | sweep =>
   simp only [aj]
   split<;>exact ⟨rfl,rfl,rfl,rfl⟩
 | block sl =>
   cases sl with
   | nil=>exact ⟨rfl,rfl,rfl,rfl⟩
   | cons a r =>
     simp only [aj]
     split
     ·exact ShC.refl s
     ·exact ⟨rfl,rfl,(Az a).2,(Az a).1⟩
 | empty t =>
   simp only [aj]
   split<;>exact ShC.refl s
 | _=>exact ShC.refl s
theorem Qe (s:Sh) (c:CS):ShC s (aW s c).s:=by
 unfold aW
 split
 ·exact Qd s c _
 ·split
  ·exact (sH s { c with wish:=false,cycles:=c.cycles+1,color:=1 - c.color } 1 .arm (some (c.ev 2 (c.cycles+1))):ShC s (gI s c).s)
  ·exact ShC.refl s
structure WOk (N:Nat) (x:WS):Prop where
 len:x.muts.length=x.coll.muts
 bV:∀ i m,x.muts[i]?=some m→m.id=i∧Pok N x.s m
 coll:Cok N x.s x.coll
 picks:x.picks≤N
 evs:x.evs.length≤N
theorem WS.l7 (x:WS) (ev:Option Ev):(x.tell ev).s=x.s∧(x.tell ev).muts=x.muts∧(x.tell ev).coll=x.coll∧(x.tell ev).picks=x.picks+1∧(x.tell ev).evs.length≤x.evs.length+1:=by
 cases ev with
 | none=>exact ⟨rfl,rfl,rfl,rfl,Nat.le_succ _⟩
 | some e=>exact ⟨rfl,rfl,rfl,rfl,by simp [WS.tell]⟩
theorem WOk.tell {x y:WS} {ev:Option Ev} (hl:y.muts.length=y.coll.muts) (hm:∀ i m,y.muts[i]?=some m→m.id=i∧Pok (N+1) y.s m) (hc:Cok (N+1) y.s y.coll) (hp:y.picks≤N) (he:y.evs.length≤N):WOk (N+1) (y.tell ev):=by
 obtain ⟨e1,e2,e3,e4,e5⟩:=y.l7 ev
 exact ⟨by rw [e2,e3];exact hl,by rw [e1,e2];exact hm,by rw [e1,e3];exact hc,by rw [e4];omega,by omega⟩
theorem um {x:WS} (h:WOk N x) (hb:HBd x.s.H) (who:Nat):WOk (N+1) (bC x who):=by
 unfold bC
 cases hw:x.muts[who]? with
 | some m =>
   obtain ⟨hid,hp⟩:=h.bV who m hw
   have hk:=Ik hp
   have hs:=Fp x.s m
   refine WOk.tell (x:=x) (by show (x.muts.set who _).length=_;simpa using h.len) (fun i m' hi=>?_) ⟨h.coll.k.sh (Nat.le_succ N) hs hk.1.opn hk.1.q,h.coll.nx⟩ h.picks h.evs
   by_cases e:who=i
   ·subst e
    have hlt:=(List.getElem?_eq_some_iff.1 hw).1
    have hi':(x.muts.set who (aQ x.s m).2.1)[who]?=some m':=hi
    rw [List.getElem?_set_self hlt] at hi'
    cases hi'
    exact ⟨hk.2.2.1.trans hid,hk.1⟩
   ·have hi':(x.muts.set who (aQ x.s m).2.1)[i]?=some m':=hi
    rw [List.getElem?_set_ne e] at hi'
    obtain ⟨g1,g2⟩:=h.bV i m' hi'
    exact ⟨g1,g2.sh (Nat.le_succ N) hk.1.opn hk.1.q⟩
 | none =>
   simp only
   split
   ·have hc:=OW h.coll hb
    refine WOk.tell (x:=x) (by show x.muts.length=(aW x.s x.coll).c.muts;rw [hc.2.1];exact h.len) (fun i m' hi=>?_) hc.1 h.picks h.evs
    obtain ⟨g1,g2⟩:=h.bV i m' hi
    exact ⟨g1,g2.sh (Nat.le_succ N) hc.1.k.opn hc.1.k.q⟩
   ·refine WOk.tell (x:=x) h.len (fun i m' hi=>?_) ?_ h.picks h.evs
    ·obtain ⟨g1,g2⟩:=h.bV i m' hi
     exact ⟨g1,g2.sh (Nat.le_succ N) (Nat.le_succ_of_le g2.opn) g2.q⟩
    ·have g:=h.coll.k.more (Nat.le_succ N)
     exact ⟨⟨g.mu,g.mu1,g.bl,g.ce,g.rm,g.stk,g.color,g.cyc,g.dr,g.wa,g.opn,g.q,g.ql,g.cnt,g.ph⟩,h.coll.nx⟩
end
end
end Go.Proofs.YtanfphjoebobaaaGreatDoor
