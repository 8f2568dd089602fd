/- Parts of the walk. No conditions. -/
import Derived.Test.YtanfphjoebobaaaGreatDoorZzeag
namespace Go.Proofs.YtanfphjoebobaaaGreatDoor
open _root_.Go.Proofs.Tryz hiding prog
open _root_.Go.Proofs.Tryz renaming prog->ay
set_option maxRecDepth 8000
set_option maxHeartbeats 16000000
section
attribute [local go_sem ↓] jT
attribute [local go_sem] Oper.semAt_some
open Go.RowKit
theorem Pz:∃ fs,ay.underlying 23=some (.struct fs)/\∀ k,k<5->(fs[k]?).map (fun f=>(f.type,f.offset))=some (3,k):=by
 have hf:(match ay.underlying 23 with|some (.struct fs)=>(List.range 5).all (fun k=>(fs[k]?).map (fun f=>(f.type,f.offset))==some (3,k))|_=>false)=true:=by kernel_rfl
 cases h:ay.underlying 23 with
 | none=>rw [h] at hf;cases hf
 | some d =>
   rw [h] at hf
   cases d with
   | struct fs =>
     refine ⟨fs,rfl,fun k hk=>?_⟩
     have:=List.all_eq_true.1 hf k (List.mem_range.2 hk)
     simpa using this
   | _=>cases hf
theorem YC (a0 a1 a2 a3 a4 a5 a6:Int) (w:World):(Instr.field 23 (.agg #[ah a0,ah a1,ah a2,ah a3,ah a4,ah a5,ah a6]) 4).run ay w = .ok (ah a4) w:=by
 obtain ⟨fs,hfs,hf⟩:=Pz
 obtain ⟨f,hf1,hf2⟩:=Option.map_eq_some_iff.1 (hf 4 (by decide))
 simp only [Prod.mk.injEq] at hf2
 have hi:(ay.info? 3).map (·.size)=some 1:=by kernel_rfl
 obtain ⟨i,hi1,hi2⟩:=Option.map_eq_some_iff.1 hi
 simp [Instr.field,run_underlying hfs,hf1,hf2.1,hf2.2,part,asAgg,sizeOf,typeInfo,hi1,hi2,go_sem]
section
variable {w w' W W' W0:World} {s N:Nat} {v:Value} {l l2:List Nat}
theorem Oj {e:TypeId} {n:Nat} {xs:List Value} (h:w.ownsRow 0 e 1 v n xs) (hs:∀ k,v.ownBlock=some k->s<=k):w.ownsRow s e 1 v n xs:=by
 refine ⟨h.1,?_⟩
 rcases h.2 with h1|⟨g,cap,cur,rfl,_,h1⟩
 ·exact .inl h1
 ·exact .inr ⟨g,cap,cur,rfl,hs g rfl,h1⟩
theorem qU (l:List Nat):(aG l).length=l.length:=by simp [aG]
theorem zZ (l l2:List Nat):aG (l++l2)=aG l++aG l2:=by simp [aG]
theorem Ol {u:Value} (h:u∈aG l):u.oneCell'=true:=by
 unfold aG at h
 obtain ⟨z,_,rfl⟩:=List.mem_map.1 h
 rfl
theorem Om (h:w.ownsRow s 3 1 v l.length (aG l)):∃ a c,v = .slice a l.length c/\fU .i64 w a l.length (l.map fun x:Nat=>(x:Int))/\l.length<=c:=by
 have e:aG l=(l.map fun x:Nat=>(x:Int)).map (Value.int .i64):=by simp [aG]
 rw [e] at h
 exact fU.KG h
theorem lV {S:Nat->Prop} {e:TypeId} {n:Nat} {xs:List Value} (hown:w.ownsRow s e 1 v n xs) (g:w.grownBy w' v.ownBlock) (k:Keep S W0 w) (h:∀ b,s<=b->b<W0.heap.size->S b):Keep S W0 w':=k.grown g (fun b hb hl=>h b (World.ownsRow.lt hown b hb).1 hl)
theorem wo {u:Nat} (hown:w.ownsRow s 3 1 v l.length (aG l)) (hs:s<=w.heap.size) (hN:w.cell? ⟨N,0,none⟩=some (ah (u:Int))) (hn:l.length<=100000000) :
 ∃ g cap w',(app9 #[32,32] 32 #[v,.slice (some ⟨N,0,none⟩) 1 1]).run ay w = .ok (.slice (some ⟨g,0,none⟩) (l.length+1) cap) w'/\w'.ownsRow s 3 1 (.slice (some ⟨g,0,none⟩) (l++[u]).length cap) (l++[u]).length (aG (l++[u]))/\w.grownBy w' v.ownBlock/\(v.ownBlock=some g\/w.heap.size<=g):=by
 obtain ⟨g,cap,w',h1,h2,h3,h4⟩:=nY (P:=ay) w 32 32 3 (by kernel_rfl) Tryz.infoInt rfl (bD hown (Nat.zero_le _)) (N:=N) (u := ah (u:Int)) hN rfl (by decide) (by omega)
 refine ⟨g,cap,w',h1,?_,h3,h4⟩
 rw [zZ,List.length_append]
 refine Oj h2 (fun k hk=>?_)
 simp [Value.ownBlock] at hk
 subst hk
 rcases h4 with h4|h4
 ·exact (World.ownsRow.lt hown g h4).1
 ·omega
theorem EM {u:Value} (hown:w.ownsRow s 3 1 v l.length (aG l)) (hs:s<=w.heap.size) (hu:w.ownsRow 0 3 1 u l2.length (aG l2)) (hn:l.length+l2.length<=100000000) :
 ∃ v' w',(app9 #[32,32] 32 #[v,u]).run ay w = .ok v' w'/\w'.ownsRow s 3 1 v' (l++l2).length (aG (l++l2))/\w.grownBy w' v.ownBlock:=by
 obtain ⟨i,hi1,hi2,hi3,hi4⟩:=info_parts Tryz.infoInt
 obtain ⟨a,cap,rfl,hl,hnc,hnil,hc⟩:=dP hu
 rw [zZ,List.length_append]
 cases a with
 | none =>
   obtain rfl:=hnil rfl
   have h0:l2=[]:=by
    cases l2 with
    | nil=>rfl
    | cons y ys=>obtain ⟨g,e,_⟩:=hc 0 (ah (y:Int)) rfl;cases e
   subst h0
   exact ⟨v,w,run_append_owned_none (P:=ay) (w:=w) s 32 32 3 i 1 (by kernel_rfl) hi1 v _ _ hown,by simpa [aG] using hown,World.grownBy.refl w _⟩
 | some ad =>
   obtain ⟨v',w',h1,h2,h3,_⟩:=run_append_own (P:=ay) (w:=w) s 32 32 3 i (ah 0) 1 8 (by kernel_rfl) hi1 hi2 hi3 hi4 rfl (by decide) v _ _ hown ad l2.length cap (aG l2) (by rw [qU];omega)
    (fun j u hj=>by obtain ⟨g,e,_⟩:=hc j u hj;cases e;exact hu.cells (g:=g) rfl j u hj) (fun u hu=>Ol hu) (by unfold maxLen;omega) (by omega) hs
   exact ⟨v',w',h1,h2,h3⟩
end
section
variable {o o':Ow} {w w' W W':World} {G:Geo} {gs:List MG} {q:CG} {x:WS} {mv:Value} {N κ K:Nat} {d:Dm} {ma:Option Addr} {mc:Nat}
theorem JL {r:Nat} (h:∀ (i:Nat) (m:MS),x.muts[i]?=some m->m.regs.length<=r):∀ n,(xY x n).length<=n*r
 | 0=>by simp [xY]
 | n+1=>by
   have ih:=JL h n
   rw [Gz,List.length_append,Nat.add_mul,Nat.one_mul]
   have:(((x.muts[n]?).map MS.regs).getD []).length<=r:=by
    cases hm:x.muts[n]? with
    | none=>exact Nat.zero_le _
    | some m=>exact h n m hm
   omega
theorem GH (H:HS) (n:Nat):(kK H n).length=n:=by simp [kK]
theorem Dm.Ok.rlen (hd:d.Ok) (h:CI d w W o G gs q mv N x κ K) (n:Nat) (hn:n<=d.m):(jA x d.ce n).length<=100:=by
 unfold jA
 rw [List.length_append,GH]
 have h1:=JL h.regs n
 have h2:n*d.r<=4*5:=Nat.mul_le_mul (by have:=hd.m;omega) hd.r.2
 have:=hd.ce
 omega
theorem WL (h:CI d w W o G gs q (.slice ma gs.length mc) N x κ K) (hd:d.Ok):Calls ay 31 #[aj G.S,.slice ma gs.length mc] W fun e w'=>∃ v,e = .returned v/\w'.ownsRow W.heap.size 3 1 v (jA x d.ce d.m).length (aG (jA x d.ce d.m))/\Keep none_ W w':=by
 have hlen:=h.len
 have HB:Hid ((jA x d.ce d.m).length<=100/\d.ce<=3/\d.m<=4):=⟨hd.rlen h d.m (Nat.le_refl _),hd.ce,hd.m.2⟩
 have gq:Hid (∀ n,n<=d.m->(jA x d.ce n).length<=100):=fun n hn=>hd.rlen h n hn
 have HG:Hid (∀ W',Keep none_ W W'->W'.cell? ⟨G.S,0,none⟩=some (aj (G.D 0))):=fun W' k=>k.still h.cw.coll.sh.uD.1
 have uy:Hid (∀ W',Keep none_ W W'->Calls ay 26 #[aj (G.D 0)] W' fun e w'=>e = .returned (.agg #[ah (d.b:Int),ah (d.w:Int),ah (d.m:Int),ah (d.r:Int),ah (d.ce:Int),ah (d.l:Int),ah (d.s:Int)])/\Keep none_ W' w'):=fun W' k=>(h.still k).config
 have Vj:Hid (∀ (j:Nat) W',Keep none_ W W'->Calls ay 57 #[aj (G.D 0),ah (j:Int)] W' fun e w'=>(∃ z:Int,e = .returned (.tuple #[ah (x.s.H.cellP (j:Int):Int),ah z]))/\W'=w'):=fun j W' k=>by
  refine (xH (h.still k).cw.coll.sh.heap (j:Int)).mono ?_
  rintro e w' ⟨rfl,rfl⟩
  exact ⟨⟨_,rfl⟩,rfl⟩
 have HRG:Hid (∀ (i:Nat) W',i<d.m->Keep none_ W W'->∃ b gM,ma=some ⟨b,0,none⟩/\W'.cell? ⟨b,i,none⟩=some (aj gM)/\Calls ay 58 #[aj gM] W' fun e w'=>∃ v,e = .returned v/\w'.ownsRow 0 3 1 v (((x.muts[i]?).map MS.regs).getD []).length (aG (((x.muts[i]?).map MS.regs).getD []))/\Keep none_ W' w'):=fun i W' hi k=>by
  have h':=h.still k
  obtain ⟨g,hg⟩:∃ g,gs[i]?=some g:=⟨gs[i]'(by omega),List.getElem?_eq_getElem _⟩
  obtain ⟨m,hm⟩:∃ m,x.muts[i]?=some m:=⟨x.muts[i]'(by rw [<- h.cw.len];omega),List.getElem?_eq_getElem _⟩
  obtain ⟨a,c,e1,hf⟩:=h'.mv.form
  cases e1
  obtain ⟨b,rfl,hc⟩:=hf i g hg
  refine ⟨b,g.M,rfl,hc,?_⟩
  obtain ⟨⟨ev,nv,h1,_⟩,_⟩:=h'.cw.dK i g m hg hm
  rw [hm]
  refine (Vs h1).mono ?_
  rintro e w' ⟨v,rfl,ho,k2⟩
  exact ⟨v,rfl,bD ho (Nat.zero_le _),k2⟩
 have HI0:Hid (W.ownsRow W.heap.size 3 1 (.slice none 0 0) (kK x.s.H 0).length (aG (kK x.s.H 0))/\Keep none_ W W):=⟨⟨rfl,.inl ⟨rfl,rfl⟩⟩,Keep.refl _ _⟩
 have hfld:=YC (d.b:Int) (d.w:Int) (d.m:Int) (d.r:Int) (d.ce:Int) (d.l:Int) (d.s:Int)
 rw [hlen]
 generalize d.ce=ce at *
 generalize d.m=n at *
 clear h hd hlen
 go_enter func31,ntmps31
 go_wp2_with fail
 go_loopw [5,6,7,8] (fun ou iv _ _ wr=>∃ (j:Nat) (ov:Value),ov=ou/\j<=ce/\iv = ah j/\wr.ownsRow W.heap.size 3 1 ov (kK x.s.H j).length (aG (kK x.s.H j))/\Keep none_ W wr) (fun _ iv _ _ _=>ce - (intOf iv).toNat)
 case atStart=>exact ⟨0,_,rfl,Nat.zero_le _,rfl,HI0.out.1,HI0.out.2⟩
 case round =>
  obtain ⟨j,ov,hov,hj,rfl,hown,hk⟩:=hrel
  subst hov
  have HK:=au hk
  have hG:=HG.out _ hk
  have HOW:=au hown
  have aez:(ce:Int)<=3:=by have:=HB.out.2.1;omega
  by_cases hlt:j<ce
  ·have oV:(j:Int)<(ce:Int):=by omega
   clear hown hk
   go_wp2_with fail
   refine (uy.out _ (by first|exact HK.out|exact HK.out.drew)).mono ?_
   rintro e w2 ⟨rfl,k2⟩
   have bJ:Hid (Keep none_ W w2):=HK.out.trans k2
   have hG2:=HG.out _ bJ.out
   have Dk:=au (bV HOW.out k2)
   have aci:=au (Vj.out j w2 bJ.out)
   clear k2 hG HK HOW
   go_wp2_with fail
   refine aci.out.mono ?_
   rintro e w3 ⟨⟨z,rfl⟩,rfl⟩
   have hsz:W.heap.size<=w2.heap.size:=bJ.out.size
   have k7:Keep none_ w2 (w2.alloc (.cells #[ah (x.s.H.cellP (j:Int):Int)] 3)):=(Keep.refl _ _).alloc _
   have ho7:=bV Dk.out k7
   obtain ⟨g,cap,W8,hrun,hown8,hgr,_⟩:=wo ho7 (by simp;omega) (N:=w2.heap.size) ((aA.new w2 [ah (x.s.H.cellP (j:Int):Int)] 3).cell 0 rfl) (by have:=HB.out.2.1;rw [GH];omega)
   have lU:Hid (W8.ownsRow W.heap.size 3 1 (.slice (some ⟨g,0,none⟩) ((kK x.s.H j).length+1) cap) (kK x.s.H (j+1)).length (aG (kK x.s.H (j+1)))/\Keep none_ W W8):=by
    rw [Py]
    refine ⟨?_,lV ho7 hgr (bJ.out.trans k7) (fun b h1 h2=>by omega)⟩
    have e:(kK x.s.H j).length+1=(kK x.s.H j++[x.s.H.cellP (j:Int)]).length:=by simp
    rw [e]
    exact hown8
   clear hsz k7 ho7 hown8 hgr aci Dk bJ hG2
   go_wp2_with fail
   exact ⟨⟨j+1,_,rfl,by omega,by go_num,lU.out.1,lU.out.2⟩,by simp [intOf];omega⟩
  ·obtain rfl:j=ce:=by omega
   have oV:¬ (j:Int)<(j:Int):=by omega
   clear hown hk
   go_wp2_with fail
   refine (uy.out _ (by first|exact HK.out|exact HK.out.drew)).mono ?_
   rintro e w2 ⟨rfl,k2⟩
   have HI2:Hid (w2.ownsRow W.heap.size 3 1 ov (jA x j 0).length (aG (jA x j 0))/\Keep none_ W w2):=by
    have e:jA x j 0=kK x.s.H j:=by unfold jA xY;simp
    rw [e]
    exact ⟨bV HOW.out k2,HK.out.trans k2⟩
   clear k2 hG HK HOW Vj uy HG
   go_wp2_with fail
   go_loopw [5,9] (fun ou iv wr=>∃ (i:Nat) (ov:Value),ov=ou/\i<=n/\iv = ah i/\wr.ownsRow W.heap.size 3 1 ov (jA x j i).length (aG (jA x j i))/\Keep none_ W wr) (fun _ iv _=>n - (intOf iv).toNat)
   case atStart=>exact ⟨0,_,rfl,Nat.zero_le _,rfl,HI2.out.1,HI2.out.2⟩
   case round =>
    obtain ⟨i,ov,hov,hi,rfl,hown,hk⟩:=hrel
    subst hov
    have HK:=au hk
    have HOW:=au hown
    have I9:(n:Int)<=4:=by have:=HB.out.2.2;omega
    by_cases hin:i<n
    ·have adP:(i:Int)<(n:Int):=by omega
     have hi0:(0:Int)<=(i:Int):=by omega
     obtain ⟨b,gM,rfl,hc,hrg⟩:=HRG.out i _ hin hk
     have HRE:=au hrg
     clear hown hk hrg
     go_wp2_with fail
     refine HRE.out.mono ?_
     rintro e w4 ⟨v4,rfl,ho4,k4⟩
     have hb1:=gq.out (i+1) hin
     have hrp:jA x j (i+1)=jA x j i++((x.muts[i]?).map MS.regs).getD []:=by
      unfold jA
      rw [Gz,List.append_assoc]
     rw [hrp,List.length_append] at hb1
     have ho5:=bV HOW.out k4
     obtain ⟨v5,w5,hrun,hown5,hgr⟩:=EM ho5 (Nat.le_trans HK.out.size k4.size) ho4 (by omega)
     rw [<- hrp] at hown5
     have Zc:Hid (w5.ownsRow W.heap.size 3 1 v5 (jA x j (i+1)).length (aG (jA x j (i+1)))/\Keep none_ W w5):=⟨hown5,lV ho5 hgr (HK.out.trans k4) (fun b h1 h2=>by omega)⟩
     clear ho4 k4 hb1 hrp ho5 hown5 hgr HRE HK HOW hc
     go_wp2_with fail
     exact ⟨⟨i+1,_,rfl,by omega,by go_num,Zc.out.1,Zc.out.2⟩,by simp [intOf];omega⟩
    ·obtain rfl:i=n:=by omega
     have adP:¬ (i:Int)<(i:Int):=by omega
     clear hown hk
     go_wp2_with fail
     go_ret
     exact ⟨_,rfl,HOW.out,HK.out⟩
end
def nextL:List (Int × Int):=[(1,-1),(2,-1),(3,-1),(4,-1),(5,-1),(4,6),(7,-1),(0,-1)]
structure Oo (w:World):Prop where
 c:∀ (p:Nat) (a b:Int),nextL[p]?=some (a,b)->w.cell? ⟨0,4*p+1,none⟩=some (ah a)/\w.cell? ⟨0,4*p+2,none⟩=some (ah b)
theorem Oo.still {w w':World} (h:Oo w) (k:Keep none_ w w'):Oo w':=⟨fun p a b hp=>⟨k.still (h.c p a b hp).1,k.still (h.c p a b hp).2⟩⟩
theorem Oq:∃ fs f,ay.underlying 155=some (.struct fs)/\fs[1]?=some f/\f.type=106/\f.offset=1:=by
 have hf:(match ay.underlying 155 with|some (.struct fs)=>(fs[1]?).map (fun f=>(f.type,f.offset))|_=>none)=some (106,1):=by kernel_rfl
 cases h:ay.underlying 155 with
 | none=>rw [h] at hf;cases hf
 | some d =>
   rw [h] at hf
   cases d with
   | struct fs =>
     simp only at hf
     obtain ⟨f,h1,h2⟩:=Option.map_eq_some_iff.1 hf
     simp only [Prod.mk.injEq] at h2
     exact ⟨fs,f,rfl,h1,h2.1,h2.2⟩
   | _=>cases hf
theorem aaA {fuel:Nat} {w:World} {base:Nat} {sp:Nat->Bool} {held:Bool} {enc:TypeId × Value->Unit} {cs:List Value} {s:DataW Unit} {a b:Int} {t:DataW Unit} {p:List MemPlace}
 (h:DataW.trod enc ay w base sp held fuel 155 cs=some (.agg [s,.agg [.lit (.int .i64 a),.lit (.int .i64 b)],t],p)):(cs.drop 1).take 2=[ah a,ah b]:=by
 obtain ⟨fs,f,h1,h2,h3,h4⟩:=Oq
 obtain ⟨xs,n,_,hx,_,hxl,hfl⟩:=DataW.trod_struct h1 h
 have h5:=hfl 1 f h2
 have hc:ay.cellsOf 106=2:=by kernel_rfl
 rw [h3,h4,hc] at h5
 simp only [Prod.mk.injEq,DataW.agg.injEq] at hx
 have h6:(xs.map (·.1))[1]?=some (.agg [.lit (.int .i64 a),.lit (.int .i64 b)]):=by rw [<- hx.1];rfl
 rw [List.getElem?_map] at h6
 obtain ⟨x,h7,h8⟩:=Option.map_eq_some_iff.1 h6
 rw [h7] at h5
 obtain ⟨x1,x2⟩:=x
 simp only at h8
 subst h8
 exact nU Tryz.tabU2 Tryz.tabU6 (by kernel_rfl) (by kernel_rfl) h5
theorem YD {rest : List (String × DataW Unit)} {w : World} (h : laidMet ay (("dustpan/phase.known", Rows.laid_dustpan_phase_known) :: rest) w) : Oo w := by
 obtain ⟨ps,⟨g,t,cs,fuel,p,q,hg,ht,hvar,hd,_,_⟩,_⟩:=h
 obtain rfl : 0 = g := Option.some.inj ((show ay.globalNamed "dustpan/phase.known" = some 0 by kernel_rfl).symm.trans hg)
 obtain rfl:156=t:=Option.some.inj ((show (ay.globals[0]?).map (·.type)=some 156 by kernel_rfl).symm.trans ht)
 obtain ⟨cs,rfl⟩:∃ l:List Value,cs=l.toArray:=⟨cs.toList,by simp⟩
 obtain ⟨hl,_,m,hel⟩:=xu (s:=4) (n:=8) (e:=155) (by kernel_rfl) (by kernel_rfl) (by kernel_rfl) hd
 have key:∀ (p:Nat) (a b:Int),nextL[p]?=some (a,b)->(((cs.drop (p*4)).take 4).drop 1).take 2=[ah a,ah b]:=fun p a b hp=>by
  have h8:p<8:=(List.getElem?_eq_some_iff.1 hp).1
  have hh:∀ d q,Rows.laid_dustpan_phase_known (H:=Unit) = .agg d->d[p]?=some q->∃ q',DataW.trod _ ay w _ _ _ m 155 ((cs.drop (p*4)).take 4)=some (q,q'):=fun d q e hq=>by
   have e':d=_:=(DataW.agg.inj e).symm
   subst e'
   exact hel p q hq
  rcases (by omega:p=0\/p=1\/p=2\/p=3\/p=4\/p=5\/p=6\/p=7) with rfl|rfl|rfl|rfl|rfl|rfl|rfl|rfl <;>
  ·simp [nextL] at hp
   obtain ⟨rfl,rfl⟩:=hp
   obtain ⟨q',h9⟩:=hh _ _ rfl rfl
   exact aaA h9
 refine ⟨fun p a b hp=>?_⟩
 have h8:p<8:=(List.getElem?_eq_some_iff.1 hp).1
 have hk:=key p a b hp
 have hg1:∀ j,j<2->cs[4*p+1+j]?=[Value.int .i64 a,ah b][j]?:=fun j hj=>by
  rw [<- hk,List.getElem?_take_of_lt hj,List.getElem?_drop,List.getElem?_take_of_lt (by omega),List.getElem?_drop]
  congr 1;omega
 refine ⟨?_,?_⟩
 ·rw [World.var?_cell (P:=ay) hg hvar (4*p+1)]
  simpa using hg1 0 (by omega)
 ·rw [World.var?_cell (P:=ay) hg hvar (4*p+2)]
  simpa using hg1 1 (by omega)
section
variable {w:World}
theorem aaB (a:Option Addr) (n c:Nat) (zs:List Int) (m:Int) (w:World) (h:fU .i64 w a n zs) (hm:n<=1000000000) :
 Calls ay 100 #[.slice a n c,ah m] w fun e w'=>(∃ k:Int,e = .returned (ah k)/\decide (0<=k)=Gx zs m)/\w=w':=by
 go_enter func100,ntmps100
 go_wp2
 go_loop [5,8] (fun _ i=>∃ k:Nat,k<=n/\i = ah k/\∀ j,j<k->zs.getD j 0≠m) (fun _ i=>n - (intOf i).toNat)
 case atStart=>exact ⟨0,Nat.zero_le _,rfl,fun j hj=>absurd hj (by omega)⟩
 case round =>
  obtain ⟨k,hk,rfl,hr⟩:=hrel
  have hl:=h.len
  by_cases hlt:k<n
  ·obtain ⟨b,off,rfl,hc⟩:=h.at_ (by omega)
   have hck:=hc k hlt
   by_cases hx:zs.getD k 0=m
   ·rw [hx] at hck
    have HE:Hid (Gx zs m=true):=Oe.2 (by
     rw [<- hx,List.getD_eq_getElem?_getD,List.getElem?_eq_getElem (by omega)]
     exact List.getElem_mem _)
    clear hc hr h hx hl
    go_wp2
    go_ret
    exact ⟨⟨_,rfl,by rw [HE.out];exact decide_eq_true (by omega)⟩,rfl⟩
   ·have hne:(m==zs.getD k 0)=false:=by simpa using fun e:m=zs.getD k 0=>hx e.symm
    have HR:Hid (∀ j,j<k+1->zs.getD j 0≠m):=fun j hj=>by
     rcases Nat.lt_succ_iff_lt_or_eq.1 hj with h1|h1
     ·exact hr j h1
     ·rw [h1];exact hx
    generalize zs.getD k 0=x at hck hne
    clear hc hr h hx hl
    go_wp2
    go_round
    case rel=>exact ⟨k+1,by omega,by go_num,HR.out⟩
    case measure=>simp [intOf];omega
  ·have HE:Hid (Gx zs m=false):=by
    unfold Hid
    rw [Bool.eq_false_iff]
    intro e
    obtain ⟨j,hj,hje⟩:=List.getElem_of_mem (Oe.1 e)
    refine hr j (by omega) ?_
    rw [List.getD_eq_getElem?_getD,List.getElem?_eq_getElem hj]
    exact hje
   clear hr h hl
   go_wp2
   go_ret
   exact ⟨⟨_,rfl,by rw [HE.out];rfl⟩,rfl⟩
theorem Ot (a:Option Addr) (n c:Nat) (zs:List Int) (m:Int) (w:World) (h:fU .i64 w a n zs) (hm:n<=1000000000) :
 Calls ay 59 #[.slice a n c,ah m] w fun e w'=>e = .returned (.bool (Gx zs m))/\w=w':=by
 have HI:=au (aaB a n c zs m w h hm)
 generalize Gx zs m=x at *
 clear h
 go_enter func59,ntmps59
 go_wp2_with fail
 refine HI.out.mono ?_
 rintro e w1 ⟨⟨k,rfl,hk⟩,rfl⟩
 clear HI
 cases x with
 | true =>
   have h1:=of_decide_eq_true hk
   clear hk
   go_wp2_with fail
   go_ret
   exact ⟨rfl,rfl⟩
 | false =>
   have h1:=of_decide_eq_false hk
   have h2:decide (0<=k)=false:=hk
   clear hk
   go_wp2_with fail
   go_ret
   exact ⟨rfl,rfl⟩
def kL (p:Nat):List Nat:=[[1],[2],[3],[4],[5],[4,6],[7],[0]].getD p []
theorem YE (p:Nat) (hp:p<8) (w:World):Calls ay 61 #[ah (p:Int)] w fun e w'=>e = .returned (.bool true)/\w=w':=by
 have h1:(p:Int)<8:=by omega
 have h0:(0:Int)<=(p:Int):=by omega
 go_enter func61,ntmps61
 go_wp2_with fail
 go_ret
 exact ⟨rfl,rfl⟩
theorem WM (p:Nat) (hp:p<8) (w:World) (h:Oo w):Calls ay 60 #[ah (p:Int)] w fun e w'=>(∃ v,e = .returned v/\w'.ownsRow w.heap.size 3 1 v (kL p).length (aG (kL p)))/\Keep none_ w w':=by
 obtain ⟨a,b,hab⟩:∃ a b,nextL[p]?=some (a,b):=⟨_,_,List.getElem?_eq_getElem (by exact hp)⟩
 obtain ⟨c1,c2⟩:=h.c p a b hab
 have HP:Hid (0<=a/\a<=7 /\ -1<=b/\b<=6/\kL p=[a.toNat]++if 0<=b then [b.toNat] else []):=by
  rcases (by omega:p=0\/p=1\/p=2\/p=3\/p=4\/p=5\/p=6\/p=7) with rfl|rfl|rfl|rfl|rfl|rfl|rfl|rfl <;>
  ·simp [nextL] at hab
   obtain ⟨rfl,rfl⟩:=hab
   exact ⟨by decide,by decide,by decide,by decide,rfl⟩
 have HI:=au (YE p hp w)
 have h1:(p:Int)<8:=by omega
 have h0:(0:Int)<=(p:Int):=by omega
 rw [Nat.mul_comm] at c1 c2
 obtain ⟨a',rfl⟩:∃ a':Nat,a=(a':Int):=⟨a.toNat,by have:=HP.out.1;omega⟩
 have hix0:∀ w:World,(Instr.index 106 (.agg #[ah (a':Int),ah b]) (ah 0)).run ay w = .ok (ah (a':Int)) w:=fun _=>by kernel_rfl
 have hix1:∀ w:World,(Instr.index 106 (.agg #[ah (a':Int),ah b]) (ah 1)).run ay w = .ok (ah b) w:=fun _=>by kernel_rfl
 have HI0:Hid (w.ownsRow w.heap.size 3 1 (.slice none 0 0) ([]:List Nat).length (aG [])/\Keep none_ w w):=⟨⟨rfl,.inl ⟨rfl,rfl⟩⟩,Keep.refl _ _⟩
 clear h hab
 go_enter func60,ntmps60
 go_wp2_with fail
 refine HI.out.mono ?_
 rintro e w1 ⟨rfl,rfl⟩
 clear HI
 go_wp2_with fail
 clear c1 c2
 go_loopw [3,5,12] (fun ou _ iv wr=>∃ (i:Nat) (ov:Value) (l:List Nat),ov=ou/\i<=2/\iv = ah i/\wr.ownsRow w.heap.size 3 1 ov l.length (aG l)/\Keep none_ w wr/\l.length<=2/\(i=0->l=[])/\(i=1->l=[a'])/\(i=2->l=kL p)) (fun _ _ iv _=>2 - (intOf iv).toNat)
 case atStart=>exact ⟨0,_,[],rfl,by omega,rfl,HI0.out.1,HI0.out.2,by simp,fun _=>rfl,fun h=>by omega,fun h=>by omega⟩
 case round =>
  obtain ⟨i,ov,l,hov,hi,rfl,ho,hk,hl2,e0,e1,e2⟩:=hrel
  subst hov
  have HK:=au hk
  have hp:=HP.out
  rcases (by omega:i=0\/i=1\/i=2) with rfl|rfl|rfl
  ·have hl:=e0 rfl
   subst hl
   have ha0:(0:Int)<=(a':Int):=by omega
   have k7:Keep none_ wr (wr.alloc (.cells #[ah (a':Int)] 3)):=(Keep.refl _ _).alloc _
   have ho7:=bV ho k7
   obtain ⟨g,cap,W8,hrun,hown8,hgr,_⟩:=wo ho7 (by have:=hk.size;simp;omega) (N:=wr.heap.size) ((aA.new wr [ah (a':Int)] 3).cell 0 rfl) (by simp)
   have lU:Hid (W8.ownsRow w.heap.size 3 1 (.slice (some ⟨g,0,none⟩) 1 cap) [a'].length (aG [a'])/\Keep none_ w W8):=⟨hown8,lV ho7 hgr (hk.trans k7) (fun b h1 h2=>by omega)⟩
   clear ho hk k7 ho7 hown8 hgr hp e0 e1 e2 HK hl2
   go_wp2_with fail
   exact ⟨⟨1,_,[a'],rfl,by omega,rfl,lU.out.1,lU.out.2,by simp,fun h=>by omega,fun _=>rfl,fun h=>by omega⟩,by simp [intOf]⟩
  ·have hl:=e1 rfl
   subst hl
   by_cases hb:0<=b
   ·obtain ⟨b',rfl⟩:∃ b':Nat,b=(b':Int):=⟨b.toNat,by omega⟩
    have hnx:kL p=[a']++[b']:=by rw [hp.2.2.2.2,if_pos hb];simp
    have k7:Keep none_ wr (wr.alloc (.cells #[ah (b':Int)] 3)):=(Keep.refl _ _).alloc _
    have ho7:=bV ho k7
    obtain ⟨g,cap,W8,hrun,hown8,hgr,_⟩:=wo ho7 (by have:=hk.size;simp;omega) (N:=wr.heap.size) ((aA.new wr [ah (b':Int)] 3).cell 0 rfl) (by simp)
    rw [<- hnx] at hown8
    have lU:Hid (W8.ownsRow w.heap.size 3 1 (.slice (some ⟨g,0,none⟩) 2 cap) (kL p).length (aG (kL p))/\Keep none_ w W8/\(kL p).length=2):=by
     have e:(kL p).length=2:=by rw [hnx];rfl
     rw [e] at hown8 ⊢
     exact ⟨hown8,lV ho7 hgr (hk.trans k7) (fun b h1 h2=>by omega),rfl⟩
    clear ho hk k7 ho7 hown8 hgr hp e0 e1 e2 HK hl2 hnx
    go_wp2_with fail
    exact ⟨⟨2,_,kL p,rfl,by omega,rfl,lU.out.1,lU.out.2.1,by rw [lU.out.2.2];omega,fun h=>by omega,fun h=>by omega,fun _=>rfl⟩,by simp [intOf]⟩
   ·have hnx:kL p=[a']:=by rw [hp.2.2.2.2,if_neg hb];simp
    rw [<- hnx] at ho
    have HO:=au ho
    have hb2:decide (0<=b)=false:=decide_eq_false hb
    have HL2:Hid ((kL p).length<=2):=by show _<=2;rw [hnx];simp
    clear ho hk hp e0 e1 e2 hl2 hnx
    go_wp2_with fail
    exact ⟨⟨2,_,kL p,rfl,by omega,rfl,HO.out,HK.out,HL2.out,fun h=>by omega,fun h=>by omega,fun _=>rfl⟩,by simp [intOf]⟩
  ·have hl:=e2 rfl
   subst hl
   have HO:=au ho
   clear ho hk hp e0 e1 e2 hl2
   go_wp2_with fail
   go_ret
   exact ⟨⟨_,rfl,HO.out⟩,HK.out⟩
theorem aaC (p q:Nat) (hp:p<8) (w:World) (h:Oo w):Calls ay 32 #[ah (p:Int),ah (q:Int)] w fun e w'=>e = .returned (.bool (Gx ((kL p).map fun x:Nat=>(x:Int)) (q:Int)))/\Keep none_ w w':=by
 have HN:=au (WM p hp w h)
 have HL:Hid ((kL p).length<=2):=by
  rcases (by omega:p=0\/p=1\/p=2\/p=3\/p=4\/p=5\/p=6\/p=7) with rfl|rfl|rfl|rfl|rfl|rfl|rfl|rfl <;>
  ·show (kL _).length<=2
   decide
 generalize kL p=l at *
 obtain ⟨x,hx⟩:∃ x,x=Gx (l.map fun x:Nat=>(x:Int)) (q:Int):=⟨_,rfl⟩
 have HX:=au hx
 rw [<- hx]
 clear h hp hx
 go_enter func32,ntmps32
 go_wp2_with fail
 refine HN.out.mono ?_
 rintro e w1 ⟨⟨v,rfl,ho⟩,k1⟩
 obtain ⟨a,c,rfl,hi,_⟩:=Om ho
 have HC:=au (Ot a l.length c _ (q:Int) w1 hi (by have:=HL.out;omega))
 have HK:=au k1
 rw [<- HX.out] at HC
 clear ho hi k1 HN
 go_wp2_with fail
 refine HC.out.mono ?_
 rintro e w2 ⟨rfl,rfl⟩
 go_wp2_with fail
 go_ret
 exact ⟨rfl,HK.out⟩
end
theorem Tryz.infoSInt9:(ay.info? 32).map (fun i=>(i.zero,i.size,i.bytes))=some (some (.slice none 0 0),1,24):=by kernel_rfl
section
variable {w w' W W' W0:World} {s N n:Nat} {v:Value} {l l2:List Nat} {H:HS} {D:Nat->Nat}
theorem xZ (h:bZ H) {a:Nat} (ha:H.bn a=true):1<=a/\a<=H.b*H.ww/\H.aV a=(H.nf a,0)/\∀ k:Nat,k<H.nf a->H.jk a (k:Int)=0:=by
 obtain ⟨B,k,f,ho,_⟩:=h.born a ha
 obtain ⟨h1,h2,_⟩:=dV ho
 have hE:H.lq a=0:=by
  unfold HS.lq HS.xB
  rw [if_neg (by omega),ha];rfl
 refine ⟨h1,h2,by unfold HS.aV;rw [if_pos hE],fun j hj=>?_⟩
 unfold HS.jk
 rw [if_pos hE,if_neg (by omega)]
theorem aaD {us:List Value} {u:Value} (hown:w.ownsRow s 32 1 v n us) (hs:s<=w.heap.size) (hN:w.cell? ⟨N,0,none⟩=some u) (hu:u.oneCell'=true) (hn:n<=100000000) :
 ∃ g cap w',(app9 #[67,67] 67 #[v,.slice (some ⟨N,0,none⟩) 1 1]).run ay w = .ok (.slice (some ⟨g,0,none⟩) (n+1) cap) w'/\w'.ownsRow s 32 1 (.slice (some ⟨g,0,none⟩) (n+1) cap) (n+1) (us++[u])/\w.grownBy w' v.ownBlock:=by
 obtain ⟨g,cap,w',h1,h2,h3,h4⟩:=nY (P:=ay) w 67 67 32 (by kernel_rfl) Tryz.infoSInt9 rfl (bD hown (Nat.zero_le _)) (N:=N) (u:=u) hN hu (by decide) (by omega)
 refine ⟨g,cap,w',h1,Oj h2 (fun k hk=>?_),h3⟩
 simp [Value.ownBlock] at hk
 subst hk
 rcases h4 with h4|h4
 ·exact (World.ownsRow.lt hown g h4).1
 ·omega
structure vH (W:World) (s:Nat) (H:HS) (Av Tv:Value) (i:Nat):Prop where
 a:W.ownsRow s 3 1 Av (H.objs.take i).length (aG (H.objs.take i))
 t:∃ us:List Value,us.length=i/\W.ownsRow s 32 1 Tv i us/\∀ (j:Nat) (u:Value),us[j]?=some u->W.ownsRow s 3 1 u (toP H (H.objs.getD j 0)).length (aG (toP H (H.objs.getD j 0)))/\∀ k,u.ownBlock=some k->Av.ownBlock≠some k
theorem pW {S:Nat->Prop} {e:TypeId} {xs:List Value} (h:W.ownsRow s e 1 v n xs) (k:Keep S W W') (hS:∀ b,s<=b->¬ S b):W'.ownsRow s e 1 v n xs:=dY h k (fun b hb=>hS b (World.ownsRow.lt h b hb).1)
theorem vH.keep {S:Nat->Prop} {Av Tv:Value} {i:Nat} (h:vH W s H Av Tv i) (k:Keep S W W') (hS:∀ b,s<=b->¬ S b):vH W' s H Av Tv i:=by
 obtain ⟨us,h1,h2,h3⟩:=h.t
 exact ⟨pW h.a k hS,us,h1,pW h2 k hS,fun j u hj=>⟨pW (h3 j u hj).1 k hS,(h3 j u hj).2⟩⟩
theorem GI {row:Option Nat} (g:w.grownBy w' row):Keep (fun b=>row=some b) w w':=⟨g.os,g.tape,g.output,g.size,fun k hk n=>g.block k hk (fun e=>n e.symm)⟩
theorem vH.app1 {Av Tv:Value} {i g cap:Nat} {W8:World} (h:vH W s H Av Tv i) (h8:W8.ownsRow s 3 1 (.slice (some ⟨g,0,none⟩) (H.objs.take (i+1)).length cap) (H.objs.take (i+1)).length (aG (H.objs.take (i+1)))) (hg:W.grownBy W8 Av.ownBlock) (hw:Av.ownBlock=some g\/W.heap.size<=g)
 {u:Value} {z:List Nat} (hu:W.ownsRow s 3 1 u z.length (aG z)) (hne:∀ k,u.ownBlock=some k->Av.ownBlock≠some k) :
 W8.ownsRow s 3 1 (.slice (some ⟨g,0,none⟩) (H.objs.take (i+1)).length cap) (H.objs.take (i+1)).length (aG (H.objs.take (i+1)))/\(∃ us:List Value,us.length=i/\W8.ownsRow s 32 1 Tv i us/\∀ (j:Nat) (u:Value),us[j]?=some u->W8.ownsRow s 3 1 u (toP H (H.objs.getD j 0)).length (aG (toP H (H.objs.getD j 0)))/\∀ k,u.ownBlock=some k->g≠k)/\W8.ownsRow s 3 1 u z.length (aG z)/\∀ k,u.ownBlock=some k->g≠k:=by
 obtain ⟨us,h1,h2,h3⟩:=h.t
 have k:=GI hg
 have hoth:∀ {x:Value} {zs:List Nat},W.ownsRow s 3 1 x zs.length (aG zs)->(∀ k,x.ownBlock=some k->Av.ownBlock≠some k)->W8.ownsRow s 3 1 x zs.length (aG zs)/\∀ k,x.ownBlock=some k->g≠k:=fun {x zs} hx hn=>by
  refine ⟨dY hx k (fun b hb e=>hn b hb e),fun b hb e=>?_⟩
  subst e
  rcases hw with hw|hw
  ·exact hn g hb hw
  ·have:=(World.ownsRow.lt hx g hb).2;omega
 refine ⟨h8,⟨us,h1,dY h2 k (fun b hb e=>?_),fun j x hj=>hoth (h3 j x hj).1 (h3 j x hj).2⟩,hoth hu hne⟩
 obtain ⟨cur,hc⟩:=jI (bD h2 (Nat.zero_le _)) hb
 obtain ⟨cur2,hc2⟩:=jI (bD h.a (Nat.zero_le _)) e
 rw [hc] at hc2
 simp at hc2
theorem acj (h:aF w D H) (hT:lT w) (hL:H.objs.length<=1000000):Calls ay 30 #[aj (D 0)] w fun e w'=>∃ Av Tv:Value,e = .returned (.agg #[Av,Tv])/\vH w' w.heap.size H Av Tv H.objs.length/\aF w' D H/\Keep (HF D) w w':=by
 obtain ⟨W0,hW0⟩:∃ W0,W0=(w.alloc (.cells #[.slice none 0 0,.slice none 0 0] 69)).alloc (.cells #[.slice none 0 0,.slice none 0 0] 69):=⟨_,rfl⟩
 have k0:Keep none_ w W0:=by rw [hW0];exact ((Keep.refl _ _).alloc _).alloc _
 have hs0:W0.heap.size=w.heap.size+2:=by rw [hW0];simp
 have hR0:aA W0 w.heap.size [.slice none 0 0,.slice none 0 0] 69:=by rw [hW0];exact (aA.new w _ _).alloc _
 have hB0:aA W0 (w.heap.size+1) [.slice none 0 0,.slice none 0 0] 69:=by
  rw [hW0]
  have:=aA.new (w.alloc (.cells #[.slice none 0 0,.slice none 0 0] 69)) [.slice none 0 0,.slice none 0 0] 69
  simpa using this
 have hD:∀ i,i<13->D i<w.heap.size:=h.ltD
 have hnD:∀ b,w.heap.size<=b->¬ HF D b:=fun b hb hf=>by
  obtain ⟨i,hi,e⟩:=hf
  have:=hD i hi
  omega
 have DZ:=au hnD
 have hOB:=Bv (h.still k0) (hT.still k0)
 rw [hs0] at hOB
 have DF:=au hOB
 have HFL:Hid (∀ W i,i<H.objs.length->aF W D H->Calls ay 55 #[aj (D 0),ah ((H.objs.getD i 0:Nat):Int)] W fun e w'=>e = .returned (.tuple #[ah ((H.aV (H.objs.getD i 0)).1:Int),ah 0])/\aF w' D H/\Keep (HF D) W w'):=fun W i hi hW=>by
  refine (yA hW (H.objs.getD i 0)).mono ?_
  rintro e w' ⟨rfl,h2,h3⟩
  have hb:H.bn (H.objs.getD i 0)=true:=by
   rw [List.getD_eq_getElem?_getD,List.getElem?_eq_getElem hi]
   exact (lC.1 (List.getElem_mem hi)).2
  rw [(xZ h.inv hb).2.2.1]
  exact ⟨rfl,h2,h3⟩
 have HLD:Hid (∀ W i (j:Nat),i<H.objs.length->j<(H.aV (H.objs.getD i 0)).1->aF W D H->Calls ay 56 #[aj (D 0),ah ((H.objs.getD i 0:Nat):Int),ah (j:Int)] W fun e w'=>e = .returned (.tuple #[ah ((H.bY (H.objs.getD i 0) (j:Int):Nat):Int),ah 0])/\aF w' D H/\Keep (HF D) W w'):=fun W i j hi hj hW=>by
  refine (IL hW (H.objs.getD i 0) (j:Int)).mono ?_
  rintro e w' ⟨rfl,h2,h3⟩
  have hb:H.bn (H.objs.getD i 0)=true:=by
   rw [List.getD_eq_getElem?_getD,List.getElem?_eq_getElem hi]
   exact (lC.1 (List.getElem_mem hi)).2
  have hf:=xZ h.inv hb
  rw [hf.2.2.1] at hj
  rw [hf.2.2.2 j hj]
  exact ⟨rfl,h2,h3⟩
 have HAB:Hid (∀ W W',aF W D H->Keep (fun b=>w.heap.size<=b) W W'->aF W' D H):=fun W W' hW k=>by
  have hg:=h.Fz
  exact hW.keep k (fun i hi hh=>by have h1:w.heap.size<=D i:=hh;have:=hD i hi;omega) (fun hh=>by have h1:w.heap.size<=_:=hh;omega) (fun hh=>by have h1:w.heap.size<=_:=hh;omega) (fun hh=>by have h1:w.heap.size<=_:=hh;omega)
 have HFB:Hid (∀ a,(H.aV a).1<=100):=fun a=>xR H a
 have HH0:=au (h.still k0)
 have xP:=au hs0
 have dN:=au k0
 have HB0:=au hB0
 have HR0:=au hR0
 have HW0:=au hW0
 clear h hT k0 hs0 hB0 hR0 hD hnD hOB hW0
 go_enter func30,ntmps30
 go_wp2_with fail
 rw [<- HW0.out]
 refine DF.out.mono ?_
 rintro e w1 ⟨lv,rfl,ho1,k1⟩
 obtain ⟨la,lc,rfl,hi1,hlc⟩:=Om ho1
 obtain ⟨s1,hs1⟩:∃ s1,s1=w1.heap.size:=⟨_,rfl⟩
 have jJ:Hid (w.heap.size+2<=s1):=by show _<=_;rw [<- xP.out,hs1];exact k1.size
 have HLB:Hid (∀ b,la=some ⟨b,0,none⟩->b<s1):=fun b e=>by
  subst e
  rw [hs1]
  exact (World.ownsRow.lt ho1 b rfl).2
 have nN:Hid (∀ W Av Tv,vH W s1 H Av Tv H.objs.length->vH W w.heap.size H Av Tv H.objs.length):=fun W Av Tv ho=>by
  have hs1:=jJ.out
  obtain ⟨us,h1,h2,h3⟩:=ho.t
  exact ⟨bD ho.a (by omega),us,h1,bD h2 (by omega),fun j u hj=>⟨bD (h3 j u hj).1 (by omega),(h3 j u hj).2⟩⟩
 have HI1:Hid (aF w1 D H/\Keep (HF D) w w1/\w1.ownsRow (w.heap.size+2) 3 1 (.slice la H.objs.length lc) H.objs.length (aG H.objs)/\aA w1 w.heap.size [.slice none 0 0,.slice none 0 0] 69/\aA w1 (w.heap.size+1) [.slice none 0 0,.slice none 0 0] 69/\vH w1 s1 H (.slice none 0 0) (.slice none 0 0) 0/\s1<=w1.heap.size):=by
  refine ⟨HH0.out.still k1,(dN.out.trans k1).mono (fun _ _ f=>f.elim),ho1,k1.blk HR0.out (fun f=>f),k1.blk HB0.out (fun f=>f),⟨⟨rfl,.inl ⟨rfl,rfl⟩⟩,[],rfl,⟨rfl,.inl ⟨rfl,rfl⟩⟩,fun j u hj=>by simp at hj⟩,by omega⟩
 clear ho1 hi1 hlc k1 hs1 DF HH0 dN HB0 HR0 HW0 xP
 have hLI:(H.objs.length:Int)<=1000000:=by omega
 generalize hob:H.objs.length=L at *
 have Ou:Hid (H.objs.length=L):=hob
 clear hob
 go_wp2_with fail
 go_loopw [5,6,7,8,9,10,11] (fun iv _ _ _ _ _ _ wr=>∃ (i:Nat) (Av Tv:Value),i<=L/\iv = ah i/\aF wr D H/\Keep (HF D) w wr/\wr.ownsRow (w.heap.size+2) 3 1 (.slice la L lc) L (aG H.objs)/\aA wr w.heap.size [.slice none 0 0,.slice none 0 0] 69/\aA wr (w.heap.size+1) [Av,Tv] 69/\vH wr s1 H Av Tv i/\s1<=wr.heap.size) (fun iv _ _ _ _ _ _ _=>L - (intOf iv).toNat)
 case atStart=>exact ⟨0,_,_,Nat.zero_le _,rfl,HI1.out.1,HI1.out.2.1,HI1.out.2.2.1,HI1.out.2.2.2.1,HI1.out.2.2.2.2.1,HI1.out.2.2.2.2.2.1,HI1.out.2.2.2.2.2.2⟩
 case round =>
  obtain ⟨i,Av,Tv,hi,rfl,hH,hk,hlo,hR,hB,hof,hsz⟩:=hrel
  by_cases hlt:i<L
  ·have oV:(i:Int)<(L:Int):=by omega
   have hi0:(0:Int)<=(i:Int):=by omega
   have HLC:Hid (∃ b,la=some ⟨b,0,none⟩/\∀ W (S:Nat->Prop),Keep S wr W->(∀ b,w.heap.size+2<=b->b<wr.heap.size->¬ S b)->W.cell? ⟨b,i,none⟩=some (ah ((H.objs.getD i 0:Nat):Int))):=by
    obtain ⟨a',c',e1,_,_,_,hf⟩:=dP (bD hlo (Nat.zero_le _))
    cases e1
    obtain ⟨b,e2,hc,_⟩:=hf i (ah ((H.objs.getD i 0:Nat):Int)) (by
     unfold aG
     rw [List.getElem?_map,List.getD_eq_getElem?_getD,List.getElem?_eq_getElem (by rw [Ou.out];exact hlt)];rfl)
    refine ⟨b,e2,fun W S k hS=>?_⟩
    cases e2
    have hb:=World.ownsRow.lt hlo b rfl
    exact k.jM hc (hS b hb.1 hb.2)
   obtain ⟨bL,rfl,hlc⟩:=HLC.out
   have JE:Hid (∀ W (S:Nat->Prop),Keep S wr W->(∀ b,w.heap.size+2<=b->b<wr.heap.size->¬ S b)->W.cell? ⟨bL,i,none⟩=some (ah ((H.objs.getD i 0:Nat):Int))):=hlc
   have hc0:=hlc wr none_ (Keep.refl _ _) (fun _ _ _ f=>f)
   have wQ:=au (HFL.out wr i hlt hH)
   have TT:Hid (∀ W (j:Nat),j<(H.aV (H.objs.getD i 0)).1->aF W D H->Calls ay 56 #[aj (D 0),ah ((H.objs.getD i 0:Nat):Int),ah (j:Int)] W fun e w'=>e = .returned (.tuple #[ah ((H.bY (H.objs.getD i 0) (j:Int):Nat):Int),ah 0])/\aF w' D H/\Keep (HF D) W w'):=fun W j hj hW=>HLD.out W i j hlt hj hW
   have HST:Hid (Keep (HF D) w wr/\wr.ownsRow (w.heap.size+2) 3 1 (.slice (some ⟨bL,0,none⟩) L lc) L (aG H.objs)/\aA wr w.heap.size [.slice none 0 0,.slice none 0 0] 69/\aA wr (w.heap.size+1) [Av,Tv] 69/\vH wr s1 H Av Tv i/\s1<=wr.heap.size):=⟨hk,hlo,hR,hB,hof,hsz⟩
   have TU:=au (HFB.out (H.objs.getD i 0))
   have AX:Hid (H.objs.take (i+1)=H.objs.take i++[H.objs.getD i 0]/\(H.objs.take i).length=i):=by
    refine ⟨?_,by rw [List.length_take,Ou.out];omega⟩
    rw [List.take_add_one,List.getD_eq_getElem?_getD,List.getElem?_eq_getElem (by rw [Ou.out];exact hlt)];rfl
   obtain ⟨a,ha⟩:∃ a,a=H.objs.getD i 0:=⟨_,rfl⟩
   have HA:=au ha
   rw [<- ha] at hc0 wQ JE TT TU AX
   obtain ⟨n,hn⟩:∃ n,n=(H.aV a).1:=⟨_,rfl⟩
   have HN:=au hn
   rw [<- hn] at wQ TT TU
   clear hH hk hlo hR hB hof hsz HLC hlc ha hn
   go_wp2_with fail
   refine wQ.out.mono ?_
   rintro e w2 ⟨rfl,hH2,k2⟩
   have sK:=au hH2
   have bJ:=au k2
   have I9:(n:Int)<=100:=by have:=TU.out;omega
   clear hH2 k2 wQ hc0
   go_wp2_with fail
   generalize wr=Wo at *
   go_loopw [8,9,10,11] (fun tu kv _ _ wr=>∃ (k:Nat) (tv:Value),tv=tu/\k<=n/\kv = ah k/\aF wr D H/\Keep (HF D) w2 wr/\wr.ownsRow w2.heap.size 3 1 tv (toN H a k).length (aG (toN H a k))) (fun _ kv _ _ _=>n - (intOf kv).toNat)
   case atStart=>exact ⟨0,_,rfl,Nat.zero_le _,rfl,sK.out,Keep.refl _ _,⟨rfl,.inl ⟨rfl,rfl⟩⟩⟩
   case round =>
    obtain ⟨k,tv,Ja,hkn,rfl,hH3,k3,ho3⟩:=hrel
    subst Ja
    have LD:=au hH3
    have gy:=au k3
    have um:=au ho3
    have hc3:=JE.out _ (HF D) (bJ.out.trans k3) (fun b hb _=>DZ.out b (by omega))
    by_cases hkl:k<n
    ·have adQ:(k:Int)<(n:Int):=by omega
     have HL3:=au (TT.out _ k hkl hH3)
     have HTN:=au (toN_succ H a k)
     have sO:=au (toN_len H a k)
     clear hH3 k3 ho3
     generalize H.bY a (k:Int)=x at *
     go_wp2_with fail
     refine HL3.out.mono ?_
     rintro e w4 ⟨rfl,hH4,k4⟩
     have UQ:=au hH4
     have Ih:=au (pW um.out k4 (fun b hb=>DZ.out b (by have:=jJ.out;have:=HST.out.2.2.2.2.2;have:=bJ.out.size;omega)))
     have mM:Hid (Keep (HF D) w2 w4):=gy.out.trans k4
     clear hH4 k4 HL3 hc3 gy um LD
     by_cases hx0:x=0
     ·subst hx0
      have HO5:Hid (w4.ownsRow w2.heap.size 3 1 tv (toN H a (k+1)).length (aG (toN H a (k+1)))):=by
       rw [HTN.out,if_pos rfl];exact Ih.out
      clear Ih
      go_wp2_with fail
      exact ⟨⟨k+1,_,rfl,by omega,by go_num,UQ.out,mM.out,HO5.out⟩,by simp [intOf];omega⟩
     ·have hx1:((x:Int)==0)=false:=by simp;omega
      have hx2:((x:Int) != 0)=true:=by simp;omega
      have hx3:decide ((x:Int)=0)=false:=by simp;omega
      have hx4:decide (x=0)=false:=by simpa using hx0
      have k7:Keep none_ w4 (w4.alloc (.cells #[ah (x:Int)] 3)):=(Keep.refl _ _).alloc _
      have ho7:=bV Ih.out k7
      obtain ⟨g,cap,W8,hrun,hown8,hgr,_⟩:=wo ho7 (by have:=mM.out.size;simp;omega) (N:=w4.heap.size) ((aA.new w4 [ah (x:Int)] 3).cell 0 rfl) (by have:=sO.out;omega)
      have lU:Hid (aF W8 D H/\Keep (HF D) w2 W8/\W8.ownsRow w2.heap.size 3 1 (.slice (some ⟨g,0,none⟩) ((toN H a k).length+1) cap) (toN H a (k+1)).length (aG (toN H a (k+1)))):=by
       rw [HTN.out,if_neg hx0]
       refine ⟨HAB.out _ _ UQ.out (lV ho7 hgr (k7.mono (fun _ _ f=>f.elim)) (fun b h1 _=>?_)),lV ho7 hgr (mM.out.trans (k7.mono (fun _ _ f=>f.elim))) (fun b h1 h2=>by omega),?_⟩
       ·show w.heap.size<=b
        have:=jJ.out;have:=HST.out.2.2.2.2.2;have:=bJ.out.size
        omega
       ·have e:(toN H a k).length+1=(toN H a k++[x]).length:=by simp
        rw [e]
        exact hown8
      clear k7 ho7 hown8 hgr Ih UQ
      go_wp2_with fail
      exact ⟨⟨k+1,_,rfl,by omega,by go_num,lU.out.1,lU.out.2.1,lU.out.2.2⟩,by simp [intOf];omega⟩
    ·obtain rfl:k=n:=by omega
     have adQ:¬ (k:Int)<(k:Int):=by omega
     have Oh:Hid (wr.ownsRow w2.heap.size 3 1 tv (toP H a).length (aG (toP H a))):=by
      unfold toP
      rw [<- HN.out]
      exact ho3
     clear hH3 k3 ho3 um TT
     have hs1:=jJ.out
     obtain ⟨q1,q2,q3,q4,q5,q6⟩:=HST.out
     have h2s:=bJ.out.size
     have hwt:Keep (HF D) Wo wr:=bJ.out.trans gy.out
     have hts:=hwt.size
     have hBt:aA wr (w.heap.size+1) [Av,Tv] 69:=hwt.blk q4 (DZ.out _ (by omega))
     have hRt:aA wr w.heap.size [.slice none 0 0,.slice none 0 0] 69:=hwt.blk q3 (DZ.out _ (by omega))
     have YF:vH wr s1 H Av Tv i:=q5.keep hwt (fun b hb=>DZ.out b (by omega))
     have Ja:wr.ownsRow s1 3 1 tv (toP H a).length (aG (toP H a)):=bD Oh.out (by omega)
     have hdis:∀ k,tv.ownBlock=some k->Av.ownBlock≠some k:=fun b hb e=>by
      have h1:=(World.ownsRow.lt Oh.out b hb).1
      have h2:=(World.ownsRow.lt q5.a b e).2
      omega
     obtain ⟨W5,jX⟩:∃ W5,W5=(wr.alloc (.cells #[ah ((a:Nat):Int)] 3)).drew:=⟨_,rfl⟩
     have k5:Keep none_ wr W5:=by rw [jX];exact ((Keep.refl _ _).alloc _).drew
     have hN5:W5.cell? ⟨wr.heap.size,0,none⟩=some (ah ((a:Nat):Int)):=by rw [jX];exact (aA.new wr [ah ((a:Nat):Int)] 3).cell 0 rfl
     have hof5:=YF.keep k5 (fun _ _ f=>f)
     have htv5:=bV Ja k5
     obtain ⟨aa,ca,eA,_⟩:=dP (bD YF.a (Nat.zero_le _))
     rw [AX.out.2] at eA
     subst eA
     obtain ⟨us,u1,u2,u3⟩:=hof5.t
     obtain ⟨ta,tc,rfl,_⟩:=dP (bD u2 (Nat.zero_le _))
     obtain ⟨va,vc,rfl,_⟩:=dP (bD Ja (Nat.zero_le _))
     have h5s:=k5.size
     obtain ⟨g,cap,W8,hrun,hown8,hgr,hwh⟩:=wo hof5.a (by omega) hN5 (by rw [AX.out.2];omega)
     rw [AX.out.2] at hrun
     rw [<- AX.out.1] at hown8
     obtain ⟨g1,⟨us',v1,v2,v3⟩,g3,g4⟩:=hof5.app1 hown8 hgr hwh htv5 hdis
     have k8:Keep (fun b=>s1<=b) W5 W8:=lV hof5.a hgr (Keep.refl _ _) (fun b h1 _=>h1)
     have Zp:aA W8 (w.heap.size+1) [.slice aa i ca,.slice ta i tc] 69:=k8.blk (k5.blk hBt (fun f=>f)) (fun hh=>by have:s1<=w.heap.size+1:=hh;omega)
     have hR8:aA W8 w.heap.size [.slice none 0 0,.slice none 0 0] 69:=k8.blk (k5.blk hRt (fun f=>f)) (fun hh=>by have:s1<=w.heap.size:=hh;omega)
     have b8:=Zp.cell 0 rfl
     have f8:=Zp.free 0
     obtain ⟨W9,mD⟩:∃ W9,W9=W8.setCell ⟨w.heap.size+1,0,none⟩ (.slice (some ⟨g,0,none⟩) (i+1) cap):=⟨_,rfl⟩
     have k9:Keep (only (w.heap.size+1)) W8 W9:=by rw [mD];exact (Keep.refl _ _).put _ _
     have hle:(H.objs.take (i+1)).length=i+1:=by rw [AX.out.1,List.length_append,AX.out.2];rfl
     have hB9:aA W9 (w.heap.size+1) [.slice (some ⟨g,0,none⟩) (i+1) cap,.slice ta i tc] 69:=by rw [mD];exact Zp.set 0 _
     have hno:∀ b,s1<=b->¬ only (w.heap.size+1) b:=fun b hb e=>by unfold only at e;omega
     have b9:=hB9.cell 1 rfl
     obtain ⟨pI,YG⟩:∃ pI,pI=W9.alloc (.cells #[.slice va (toP H a).length vc] 32):=⟨_,rfl⟩
     have k10:Keep none_ W9 pI:=by rw [YG];exact (Keep.refl _ _).alloc _
     have acn:pI.cell? ⟨W9.heap.size,0,none⟩=some (.slice va (toP H a).length vc):=by rw [YG];exact (aA.new W9 [.slice va (toP H a).length vc] 32).cell 0 rfl
     have h8s:=k8.size;have h9s:=k9.size;have adR:=k10.size
     have t10:=bV (pW v2 k9 hno) k10
     obtain ⟨g2,cap2,vG,hrun2,hown11,hgr2⟩:=aaD t10 (by omega) acn rfl (by omega)
     have k11:Keep (fun b=>s1<=b) pI vG:=lV t10 hgr2 (Keep.refl _ _) (fun b h1 _=>h1)
     have TV:aA vG (w.heap.size+1) [.slice (some ⟨g,0,none⟩) (i+1) cap,.slice ta i tc] 69:=k11.blk (k10.blk hB9 (fun f=>f)) (fun hh=>by have:s1<=w.heap.size+1:=hh;omega)
     have b11:=TV.cell 1 rfl
     have f11:=TV.free 1
     obtain ⟨uM,YH⟩:∃ uM,uM=vG.setCell ⟨w.heap.size+1,1,none⟩ (.slice (some ⟨g2,0,none⟩) (i+1) cap2):=⟨_,rfl⟩
     have k12:Keep (only (w.heap.size+1)) vG uM:=by rw [YH];exact (Keep.refl _ _).put _ _
     have aco:aA uM (w.heap.size+1) [.slice (some ⟨g,0,none⟩) (i+1) cap,.slice (some ⟨g2,0,none⟩) (i+1) cap2] 69:=by rw [YH];exact TV.set 1 _
     have hty:∀ {x:Value} {zs:List Nat},pI.ownsRow s1 3 1 x zs.length (aG zs)->uM.ownsRow s1 3 1 x zs.length (aG zs):=fun {x zs} hx=>by
      refine pW (dY hx (GI hgr2) (fun b hb e=>?_)) k12 hno
      obtain ⟨cur,hc⟩:=jI (bD hx (Nat.zero_le _)) hb
      obtain ⟨cur2,hc2⟩:=jI (bD t10 (Nat.zero_le _)) e
      rw [hc] at hc2
      simp at hc2
     have kS:Keep (fun b=>w.heap.size<=b) wr uM:=by
      have e1:Keep (fun b=>w.heap.size<=b) wr W5:=k5.mono (fun _ _ f=>f.elim)
      have e2:Keep (fun b=>w.heap.size<=b) W5 W8:=k8.mono (fun b _ hb=>by have:s1<=b:=hb;show w.heap.size<=b;omega)
      have e3:Keep (fun b=>w.heap.size<=b) W8 W9:=k9.mono (fun b _ hb=>by unfold only at hb;show w.heap.size<=b;omega)
      have e4:Keep (fun b=>w.heap.size<=b) W9 pI:=k10.mono (fun _ _ f=>f.elim)
      have e5:Keep (fun b=>w.heap.size<=b) pI vG:=k11.mono (fun b _ hb=>by have:s1<=b:=hb;show w.heap.size<=b;omega)
      have e6:Keep (fun b=>w.heap.size<=b) vG uM:=k12.mono (fun b _ hb=>by unfold only at hb;show w.heap.size<=b;omega)
      exact ((((e1.trans e2).trans e3).trans e4).trans e5).trans e6
     have acp:uM.ownsRow (w.heap.size+2) 3 1 (.slice (some ⟨bL,0,none⟩) L lc) L (aG H.objs):=by
      have e0:=bV (pW q2 hwt (fun b hb=>DZ.out b (by omega))) k5
      have hbl:∀ b,(Value.slice (some ⟨bL,0,none⟩) L lc).ownBlock=some b->b<s1/\w.heap.size+2<=b:=fun b hb=>by
       have h1:=(World.ownsRow.lt e0 b hb).1
       simp [Value.ownBlock] at hb
       subst hb
       exact ⟨HLB.out _ rfl,h1⟩
      have e1:=dY e0 k8 (fun b hb hh=>by have h1:s1<=b:=hh;have:=(hbl b hb).1;omega)
      have e2:=dY e1 k9 (fun b hb hh=>by unfold only at hh;have:=(hbl b hb).2;omega)
      have e3:=dY (bV e2 k10) k11 (fun b hb hh=>by have h1:s1<=b:=hh;have:=(hbl b hb).1;omega)
      exact dY e3 k12 (fun b hb hh=>by unfold only at hh;have:=(hbl b hb).2;omega)
     have HI:Hid (aF uM D H/\Keep (HF D) w uM/\uM.ownsRow (w.heap.size+2) 3 1 (.slice (some ⟨bL,0,none⟩) L lc) L (aG H.objs)/\aA uM w.heap.size [.slice none 0 0,.slice none 0 0] 69/\aA uM (w.heap.size+1) [.slice (some ⟨g,0,none⟩) (i+1) cap,.slice (some ⟨g2,0,none⟩) (i+1) cap2] 69/\vH uM s1 H (.slice (some ⟨g,0,none⟩) (i+1) cap) (.slice (some ⟨g2,0,none⟩) (i+1) cap2) (i+1)/\s1<=uM.heap.size):=by
      refine ⟨HAB.out _ _ LD.out kS,(q1.trans hwt).trans' kS (fun b hb hh=>absurd hb (by have:w.heap.size<=b:=hh;omega)),acp,?_,aco,⟨?_,us'++[.slice va (toP H a).length vc],by simp [v1],pW hown11 k12 hno,fun j u hj=>?_⟩,?_⟩
      ·exact k12.blk (k11.blk (k10.blk (k9.blk hR8 (fun e=>by unfold only at e;omega)) (fun f=>f)) (fun hh=>by have:s1<=w.heap.size:=hh;omega)) (fun e=>by unfold only at e;omega)
      ·have q:=hty (bV (pW g1 k9 hno) k10)
       rw [hle] at q ⊢
       exact q
      ·by_cases hji:j<i
       ·rw [List.getElem?_append_left (by omega)] at hj
        obtain ⟨x1,x2⟩:=v3 j u hj
        refine ⟨hty (bV (pW x1 k9 hno) k10),fun b hb e=>x2 b hb ?_⟩
        simpa [Value.ownBlock] using e
       ·rw [List.getElem?_append_right (by omega)] at hj
        obtain ⟨e1,e2⟩:j - us'.length=0 /\ .slice va (toP H a).length vc=u:=by
         cases hd:j - us'.length with
         | zero=>rw [hd] at hj;simp at hj;exact ⟨rfl,hj⟩
         | succ z=>rw [hd] at hj;simp at hj
        obtain rfl:j=i:=by omega
        rw [<- e2,<- HA.out]
        refine ⟨hty (bV (pW g3 k9 hno) k10),fun b hb e=>g4 b hb ?_⟩
        simpa [Value.ownBlock] using e
      ·have:=k11.size;have:=k12.size;omega
     have y0:=hBt.cell 0 rfl
     have y0a:=fun u=>(aA.alloc hBt u).cell 0 rfl
     have aeA:∀ u,(wr.alloc u).cell? ⟨bL,i,none⟩=some (ah ((a:Nat):Int)):=fun u=>((Keep.refl none_ wr).alloc u).still hc3
     rw [YH] at HI
     rw [jX] at hrun
     rw [mD] at b9
     have hsz9:W9.heap.size=W8.heap.size:=by rw [mD];simp
     rw [hsz9,YG,mD] at hrun2
     clear hsz9
     clear hs1 q1 q2 q3 q4 q5 q6 h2s hwt hts hBt hRt YF Ja hdis k5 hN5 hof5 htv5 u1 u2 u3 h5s hown8 hgr hwh g1 v1 v2 v3 g3 g4 k8 Zp hR8 k9 hle hB9 hno k10 acn h8s h9s adR t10 hown11 hgr2 k11 TV k12 aco hty kS acp Oh HST bJ gy LD HA HN AX JE TU sK
     go_wp2_with fail
     go_region
     go_wp2_with fail
     exact ⟨⟨i+1,_,_,by omega,by go_num,HI.out.1,HI.out.2.1,HI.out.2.2.1,HI.out.2.2.2.1,HI.out.2.2.2.2.1,HI.out.2.2.2.2.2.1,HI.out.2.2.2.2.2.2⟩,by simp [intOf];omega⟩
  ·obtain rfl:i=L:=by omega
   have oV:¬ (i:Int)<(i:Int):=by omega
   have hF:=nN.out wr Av Tv hof
   obtain ⟨aa,ca,eA,_⟩:=dP (bD hof.a (Nat.zero_le _))
   rw [show (H.objs.take i).length=i by rw [List.length_take,Ou.out];omega] at eA
   subst eA
   obtain ⟨us,_,u2,_⟩:=hof.t
   obtain ⟨ta,tc,rfl,_⟩:=dP (bD u2 (Nat.zero_le _))
   have y0:=hB.cell 0 rfl
   have y1:=hB.cell 1 rfl
   have r0:=hR.cell 0 rfl
   have r1:=hR.cell 1 rfl
   have f0:=hR.free 0
   have f1:=hR.free 1
   obtain ⟨W9,mD⟩:∃ W9,W9=(wr.setCell ⟨w.heap.size,0,none⟩ (.slice aa i ca)).setCell ⟨w.heap.size,1,none⟩ (.slice ta i tc):=⟨_,rfl⟩
   have k9:Keep (only w.heap.size) wr W9:=by rw [mD];exact ((Keep.refl _ _).put _ _).put _ _
   have hR9:aA W9 w.heap.size [.slice aa i ca,.slice ta i tc] 69:=by rw [mD];exact (hR.set 0 _).set 1 _
   have q0:=hR9.cell 0 rfl
   have q1:=hR9.cell 1 rfl
   have HE:Hid (vH W9 w.heap.size H (.slice aa i ca) (.slice ta i tc) i/\aF W9 D H/\Keep (HF D) w W9):=by
    refine ⟨nN.out _ _ _ (hof.keep k9 (fun b hb e=>by unfold only at e;have:=jJ.out;omega)),HAB.out _ _ hH (k9.mono (fun b _ e=>by unfold only at e;show w.heap.size<=b;omega)),hk.trans' k9 (fun b hb e=>by unfold only at e;omega)⟩
   rw [mD] at q0 q1 HE
   clear hH hk hlo hR hB hof hsz hF u2 k9 hR9 mD
   go_wp2_with fail
   refine bodyPost_ret (v := .agg #[.slice aa i ca,.slice ta i tc]) (by simp [results,Tryz.f30,go_sem,q0,q1]) rfl ?_
   exact ⟨_,_,rfl,by rw [Ou.out];exact HE.out.1,HE.out.2.1,HE.out.2.2⟩
end
end
end Go.Proofs.YtanfphjoebobaaaGreatDoor
