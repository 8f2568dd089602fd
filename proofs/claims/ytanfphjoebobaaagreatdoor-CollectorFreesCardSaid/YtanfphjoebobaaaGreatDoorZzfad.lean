/- Parts of the iy. No conditions. -/
import Derived.Test.YtanfphjoebobaaaGreatDoorZzfac
namespace Go.Proofs.YtanfphjoebobaaaGreatDoor
open _root_.Go.World renaming var?_cell->ajp
open _root_.List renaming getD_eq_getElem?_getD->ajg,getElem?_drop->alR,getElem?_eq_getElem->ajh,getElem?_eq_some_iff->ake,getElem?_map->aks,getElem?_take_of_lt->alQ,getElem_mem->aji,length_append->alm,length_take->alS,mem_of_getElem?->alh
open _root_.Nat renaming zero_le->aki
open _root_.Option renaming map_eq_some_iff->alP
open _root_.Go.Proofs.Tryz hiding prog
open _root_.Go.Proofs.Tryz renaming prog->aA
set_option maxRecDepth 8000
set_option maxHeartbeats 16000000
section
section
variable {p:CP} {x y z x0:WS} {R mu bl ce κ k lf st:Nat} {dead out phl:List Nat}
structure QV (p:CP) (z:WS):Prop where
 mF:wu p.mu p.bl p.ce p.κ z
 bn:∀ a,z.s.H.bn a=true↔p.lq a
 aW:∀ (i:Nat) (m:MS),z.aG[i]?=some m->m.aW=p.aW i
 mM:∀ a,p.lq a->z.s.H.dh a=p.H.dh a/\∀ j:Nat,z.s.H.eU a (j:Int)=p.H.eU a (j:Int)
 xG:z.s.H.K=p.H.K/\z.s.H.b=p.H.b/\z.s.H.ww=p.H.ww/\z.s.H.c=p.H.c/\z.s.H.cells=p.H.cells
theorem Es.left (h:Es p x0 out phl z):QV p z:=⟨h.mF,h.bn,h.aW,h.mM,h.xG⟩
theorem QV.rch (h:QV (jd mu bl ce κ x) z) (κ':Nat) (a:Nat):(jd mu bl ce κ' z).lq a↔(jd mu bl ce κ x).lq a:=by
 have hcell:∀ j:Nat,z.s.H.jc (j:Int)=x.s.H.jc (j:Int):=fun j=>by
  unfold HS.jc HS.qj
  rw [h.xG.2.2.2.2];rfl
 constructor
 ·intro hr
  exact (h.bn a).1 hr.bn
 ·intro hr
  induction hr with
  | zI h1 h2 =>
    rename_i v
    refine CP.lq.zI ?_ ((h.bn v).2 (CP.lq.zI h1 h2))
    rcases h1 with ⟨j,hj,e⟩|⟨i,hi,e⟩
    ·exact .inl ⟨j,hj,e.trans (hcell j).symm⟩
    ·refine .inr ⟨i,hi,?_⟩
     have hl:i<z.aG.length:=by rw [h.mF.aG];exact hi
     have hz:z.aG[i]?=some z.aG[i]:=ajh hl
     show v∈((z.aG[i]?).map MS.aW).getD []
     rw [hz]
     show v∈(z.aG[i]).aW
     rw [h.aW i _ hz]
     exact e
  | mM h1 h2 h3 ih =>
    rename_i a j
    obtain ⟨f1,f2⟩:=h.mM a h1
    have hb:=(h.bn _).2 (CP.lq.mM h1 h2 h3)
    have:=CP.lq.mM (p:=jd mu bl ce κ' z) ih (j:=j) (by show j<(z.s.H.dh a).1;rw [f1];exact h2) (by show z.s.H.bn (z.s.H.eU a (j:Int))=true;rw [f2];exact hb)
    have e:(jd mu bl ce κ' z).H.eU a (j:Int)=(jd mu bl ce κ x).H.eU a (j:Int):=f2 j
    rw [e] at this
    exact this
end
end
section
attribute [local go_sem ↓] nD
attribute [local go_sem] Oper.semAt_some
open Go.RowKit
theorem Et:∃ fs,aA.underlying 23=some (.struct fs)/\∀ k,k<5->(fs[k]?).map (fun f=>(f.type,f.offset))=some (3,k):=by
 have hf:(match aA.underlying 23 with|some (.struct fs)=>(List.range 5).all (fun k=>(fs[k]?).map (fun f=>(f.type,f.offset))==some (3,k))|_=>false)=true:=by kernel_rfl
 cases h:aA.underlying 23 with
 | none=>rw [h] at hf;cases hf
 | some d =>
   rw [h] at hf
   cases d with
   | struct fs =>
     refine ⟨fs,rfl,fun k hk=>?_⟩
     have:=List.all_eq_true.1 hf k (List.mem_range.2 hk)
     simpa using this
   | _=>cases hf
theorem UE (a0 a1 a2 a3 a4 a5 a6:Int) (w:World):(Instr.field 23 (.agg #[ah a0,ah a1,ah a2,ah a3,ah a4,ah a5,ah a6]) 0).run aA w = .ok (ah a0) w:=by
 obtain ⟨fs,hfs,hf⟩:=Et
 obtain ⟨f,hf1,hf2⟩:=alP.1 (hf 0 (by decide))
 simp only [Prod.mk.injEq] at hf2
 have hi:(aA.info? 3).map (·.size)=some 1:=by kernel_rfl
 obtain ⟨i,hi1,hi2⟩:=alP.1 hi
 simp [Instr.field,run_underlying hfs,hf1,hf2.1,hf2.2,part,asAgg,sizeOf,typeInfo,hi1,hi2,go_sem]
theorem adl (a0 a1 a2 a3 a4 a5 a6:Int) (w:World):(Instr.field 23 (.agg #[ah a0,ah a1,ah a2,ah a3,ah a4,ah a5,ah a6]) 1).run aA w = .ok (ah a1) w:=by
 obtain ⟨fs,hfs,hf⟩:=Et
 obtain ⟨f,hf1,hf2⟩:=alP.1 (hf 1 (by decide))
 simp only [Prod.mk.injEq] at hf2
 have hi:(aA.info? 3).map (·.size)=some 1:=by kernel_rfl
 obtain ⟨i,hi1,hi2⟩:=alP.1 hi
 simp [Instr.field,run_underlying hfs,hf1,hf2.1,hf2.2,part,asAgg,sizeOf,typeInfo,hi1,hi2,go_sem]
theorem adn (a0 a1 a2 a3 a4 a5 a6:Int) (w:World):(Instr.field 23 (.agg #[ah a0,ah a1,ah a2,ah a3,ah a4,ah a5,ah a6]) 4).run aA w = .ok (ah a4) w:=by
 obtain ⟨fs,hfs,hf⟩:=Et
 obtain ⟨f,hf1,hf2⟩:=alP.1 (hf 4 (by decide))
 simp only [Prod.mk.injEq] at hf2
 have hi:(aA.info? 3).map (·.size)=some 1:=by kernel_rfl
 obtain ⟨i,hi1,hi2⟩:=alP.1 hi
 simp [Instr.field,run_underlying hfs,hf1,hf2.1,hf2.2,part,asAgg,sizeOf,typeInfo,hi1,hi2,go_sem]
section
variable {w w' W W' W0:World} {s N:Nat} {v:Value} {l l2:List Nat}
theorem UF {e:TypeId} {n:Nat} {xs:List Value} (h:w.ownsRow 0 e 1 v n xs) (hs:∀ k,v.ownBlock=some k->s<=k):w.ownsRow s e 1 v n xs:=by
 refine ⟨h.1,?_⟩
 rcases h.2 with h1|⟨g,aO,cur,rfl,_,h1⟩
 ·exact .inl h1
 ·exact .inr ⟨g,aO,cur,rfl,hs g rfl,h1⟩
theorem rF (l:List Nat):(aS l).length=l.length:=by simp [aS]
theorem Gj (l l2:List Nat):aS (l++l2)=aS l++aS l2:=by simp [aS]
theorem ado {u:Value} (h:u∈aS l):u.oneCell'=true:=by
 unfold aS at h
 obtain ⟨z,_,rfl⟩:=List.mem_map.1 h
 rfl
theorem UG (h:w.ownsRow s 3 1 v l.length (aS l)):∃ a c,v = .slice a l.length c/\gY .i64 w a l.length (l.map fun x:Nat=>(x:Int))/\l.length<=c:=by
 have e:aS l=(l.map fun x:Nat=>(x:Int)).map (Value.int .i64):=by simp [aS]
 rw [e] at h
 exact gY.GN h
theorem lQ {S:Nat->Prop} {e:TypeId} {n:Nat} {xs:List Value} (hown:w.ownsRow s e 1 v n xs) (g:w.grownBy w' v.ownBlock) (k:aj S W0 w) (h:∀ b,s<=b->b<W0.heap.size->S b):aj S W0 w':=k.qh g (fun b hb hl=>h b (World.ownsRow.lt hown b hb).1 hl)
theorem yA {u:Nat} (hown:w.ownsRow s 3 1 v l.length (aS l)) (hs:s<=w.heap.size) (hN:w.cell? ⟨N,0,none⟩=some (ah (u:Int))) (hn:l.length<=100000000) :
 ∃ g aO w',(app9 #[32,32] 32 #[v,.slice (some ⟨N,0,none⟩) 1 1]).run aA w = .ok (.slice (some ⟨g,0,none⟩) (l.length+1) aO) w'/\w'.ownsRow s 3 1 (.slice (some ⟨g,0,none⟩) (l++[u]).length aO) (l++[u]).length (aS (l++[u]))/\w.grownBy w' v.ownBlock/\(v.ownBlock=some g\/w.heap.size<=g):=by
 obtain ⟨g,aO,w',h1,h2,h3,h4⟩:=uJ (P:=aA) w 32 32 3 (by kernel_rfl) Tryz.infoInt rfl (bQ hown (aki _)) (N:=N) (u := ah (u:Int)) hN rfl (by decide) (by omega)
 refine ⟨g,aO,w',h1,?_,h3,h4⟩
 rw [Gj,alm]
 refine UF h2 (fun k hk=>?_)
 simp [Value.ownBlock] at hk
 subst hk
 rcases h4 with h4|h4
 ·exact (World.ownsRow.lt hown g h4).1
 ·omega
theorem xY {u:Value} (hown:w.ownsRow s 3 1 v l.length (aS l)) (hs:s<=w.heap.size) (hu:w.ownsRow 0 3 1 u l2.length (aS l2)) (hn:l.length+l2.length<=100000000) :
 ∃ v' w',(app9 #[32,32] 32 #[v,u]).run aA w = .ok v' w'/\w'.ownsRow s 3 1 v' (l++l2).length (aS (l++l2))/\w.grownBy w' v.ownBlock:=by
 obtain ⟨i,hi1,hi2,hi3,hi4⟩:=info_parts Tryz.infoInt
 obtain ⟨a,aO,rfl,hl,hnc,hnil,hc⟩:=gy hu
 rw [Gj,alm]
 cases a with
 | none =>
   obtain rfl:=hnil rfl
   have h0:l2=[]:=by
    cases l2 with
    | nil=>rfl
    | cons y ys=>obtain ⟨g,e,_⟩:=hc 0 (ah (y:Int)) rfl;cases e
   subst h0
   exact ⟨v,w,run_append_owned_none (P:=aA) (w:=w) s 32 32 3 i 1 (by kernel_rfl) hi1 v _ _ hown,by simpa [aS] using hown,World.grownBy.refl w _⟩
 | some ad =>
   obtain ⟨v',w',h1,h2,h3,_⟩:=run_append_own (P:=aA) (w:=w) s 32 32 3 i (ah 0) 1 8 (by kernel_rfl) hi1 hi2 hi3 hi4 rfl (by decide) v _ _ hown ad l2.length aO (aS l2) (by rw [rF];omega)
    (fun j u hj=>by obtain ⟨g,e,_⟩:=hc j u hj;cases e;exact hu.cells (g:=g) rfl j u hj) (fun u hu=>ado hu) (by unfold maxLen;omega) (by omega) hs
   exact ⟨v',w',h1,h2,h3⟩
end
section
variable {o o':Ow} {w w' W W':World} {G:fU} {gs:List MG} {q:CG} {x:WS} {mv:Value} {N κ K:Nat} {d:Dm} {ma:Option Addr} {mc:Nat}
theorem Qh {r:Nat} (h:∀ (i:Nat) (m:MS),x.aG[i]?=some m->m.aW.length<=r):∀ n,(DZ x n).length<=n*r
 | 0=>by simp [DZ]
 | n+1=>by
   have ih:=Qh h n
   rw [Nk,alm,Nat.add_mul,Nat.one_mul]
   have:(((x.aG[n]?).map MS.aW).getD []).length<=r:=by
    cases hm:x.aG[n]? with
    | none=>exact aki _
    | some m=>exact h n m hm
   omega
theorem Nl (H:HS) (n:Nat):(pX H n).length=n:=by simp [pX]
theorem Dm.Ok.uq (hd:d.Ok) (h:CI d w W o G gs q mv N x κ K) (n:Nat) (hn:n<=d.m):(jK x d.ce n).length<=100:=by
 unfold jK
 rw [alm,Nl]
 have h1:=Qh h.aW n
 have h2:n*d.r<=4*5:=Nat.mul_le_mul (by have:=hd.m;omega) hd.r.2
 have:=hd.ce
 omega
theorem abk (h:CI d w W o G gs q (.slice ma gs.length mc) N x κ K) (hd:d.Ok):Calls aA 31 #[au G.S,.slice ma gs.length mc] W fun e w'=>∃ v,e = .returned v/\w'.ownsRow W.heap.size 3 1 v (jK x d.ce d.m).length (aS (jK x d.ce d.m))/\aj aB W w':=by
 have hlen:=h.len
 have HB:Hid ((jK x d.ce d.m).length<=100/\d.ce<=3/\d.m<=4):=⟨hd.uq h d.m (Nat.le_refl _),hd.ce,hd.m.2⟩
 have jI:Hid (∀ n,n<=d.m->(jK x d.ce n).length<=100):=fun n hn=>hd.uq h n hn
 have HG:Hid (∀ W',aj aB W W'->W'.cell? ⟨G.S,0,none⟩=some (au (G.D 0))):=fun W' k=>k.still h.cw.aC.sh.yQ.1
 have sN:Hid (∀ W',aj aB W W'->Calls aA 26 #[au (G.D 0)] W' fun e w'=>e = .returned (.agg #[ah (d.b:Int),ah (d.w:Int),ah (d.m:Int),ah (d.r:Int),ah (d.ce:Int),ah (d.l:Int),ah (d.s:Int)])/\aj aB W' w'):=fun W' k=>(h.still k).config
 have HCE:Hid (∀ (j:Nat) W',aj aB W W'->Calls aA 57 #[au (G.D 0),ah (j:Int)] W' fun e w'=>(∃ z:Int,e = .returned (.tuple #[ah (x.s.H.jc (j:Int):Int),ah z]))/\W'=w'):=fun j W' k=>by
  refine (DI (h.still k).cw.aC.sh.heap (j:Int)).mono ?_
  rintro e w' ⟨rfl,rfl⟩
  exact ⟨⟨_,rfl⟩,rfl⟩
 have HRG:Hid (∀ (i:Nat) W',i<d.m->aj aB W W'->∃ b gM,ma=some ⟨b,0,none⟩/\W'.cell? ⟨b,i,none⟩=some (au gM)/\Calls aA 58 #[au gM] W' fun e w'=>∃ v,e = .returned v/\w'.ownsRow 0 3 1 v (((x.aG[i]?).map MS.aW).getD []).length (aS (((x.aG[i]?).map MS.aW).getD []))/\aj aB W' w'):=fun i W' hi k=>by
  have h':=h.still k
  obtain ⟨g,hg⟩:∃ g,gs[i]?=some g:=⟨gs[i]'(by omega),ajh _⟩
  obtain ⟨m,hm⟩:∃ m,x.aG[i]?=some m:=⟨x.aG[i]'(by rw [<- h.cw.len];omega),ajh _⟩
  obtain ⟨a,c,e1,hf⟩:=h'.mv.form
  cases e1
  obtain ⟨b,rfl,hc⟩:=hf i g hg
  refine ⟨b,g.M,rfl,hc,?_⟩
  obtain ⟨⟨ev,nv,h1,_⟩,_⟩:=h'.cw.gW i g m hg hm
  rw [hm]
  refine (aam h1).mono ?_
  rintro e w' ⟨v,rfl,ho,k2⟩
  exact ⟨v,rfl,bQ ho (aki _),k2⟩
 have HI0:Hid (W.ownsRow W.heap.size 3 1 (.slice none 0 0) (pX x.s.H 0).length (aS (pX x.s.H 0))/\aj aB W W):=⟨⟨rfl,.inl ⟨rfl,rfl⟩⟩,aj.refl _ _⟩
 have hfld:=adn (d.b:Int) (d.w:Int) (d.m:Int) (d.r:Int) (d.ce:Int) (d.l:Int) (d.s:Int)
 rw [hlen]
 generalize d.ce=ce at *
 generalize d.m=n at *
 clear h hd hlen
 go_enter func31,ntmps31
 go_wp2_with fail
 go_loopw [5,6,7,8] (fun ou iv _ _ wr=>∃ (j:Nat) (ov:Value),ov=ou/\j<=ce/\iv = ah j/\wr.ownsRow W.heap.size 3 1 ov (pX x.s.H j).length (aS (pX x.s.H j))/\aj aB W wr) (fun _ iv _ _ _=>ce - (intOf iv).toNat)
 case atStart=>exact ⟨0,_,rfl,aki _,rfl,HI0.out.1,HI0.out.2⟩
 case round =>
  obtain ⟨j,ov,hov,hj,rfl,hown,hk⟩:=hrel
  subst hov
  have HK:=ay hk
  have hG:=HG.out _ hk
  have HOW:=ay hown
  have aiX:(ce:Int)<=3:=by have:=HB.out.2.1;omega
  by_cases hlt:j<ce
  ·have lJ:(j:Int)<(ce:Int):=by omega
   clear hown hk
   go_wp2_with fail
   refine (sN.out _ (by first|exact HK.out|exact HK.out.drew)).mono ?_
   rintro e w2 ⟨rfl,k2⟩
   have dF:Hid (aj aB W w2):=HK.out.trans k2
   have hG2:=HG.out _ dF.out
   have uV:=ay (bY HOW.out k2)
   have agG:=ay (HCE.out j w2 dF.out)
   clear k2 hG HK HOW
   go_wp2_with fail
   refine agG.out.mono ?_
   rintro e w3 ⟨⟨z,rfl⟩,rfl⟩
   have hsz:W.heap.size<=w2.heap.size:=dF.out.size
   have k7:aj aB w2 (w2.alloc (.cells #[ah (x.s.H.jc (j:Int):Int)] 3)):=(aj.refl _ _).alloc _
   have ho7:=bY uV.out k7
   obtain ⟨g,aO,W8,hrun,hown8,hgr,_⟩:=yA ho7 (by simp;omega) (N:=w2.heap.size) ((aF.bC w2 [ah (x.s.H.jc (j:Int):Int)] 3).cell 0 rfl) (by have:=HB.out.2.1;rw [Nl];omega)
   have qN:Hid (W8.ownsRow W.heap.size 3 1 (.slice (some ⟨g,0,none⟩) ((pX x.s.H j).length+1) aO) (pX x.s.H (j+1)).length (aS (pX x.s.H (j+1)))/\aj aB W W8):=by
    rw [VN]
    refine ⟨?_,lQ ho7 hgr (dF.out.trans k7) (fun b h1 h2=>by omega)⟩
    have e:(pX x.s.H j).length+1=(pX x.s.H j++[x.s.H.jc (j:Int)]).length:=by simp
    rw [e]
    exact hown8
   clear hsz k7 ho7 hown8 hgr agG uV dF hG2
   go_wp2_with fail
   exact ⟨⟨j+1,_,rfl,by omega,by go_num,qN.out.1,qN.out.2⟩,by simp [intOf];omega⟩
  ·obtain rfl:j=ce:=by omega
   have lJ:¬ (j:Int)<(j:Int):=by omega
   clear hown hk
   go_wp2_with fail
   refine (sN.out _ (by first|exact HK.out|exact HK.out.drew)).mono ?_
   rintro e w2 ⟨rfl,k2⟩
   have HI2:Hid (w2.ownsRow W.heap.size 3 1 ov (jK x j 0).length (aS (jK x j 0))/\aj aB W w2):=by
    have e:jK x j 0=pX x.s.H j:=by unfold jK DZ;simp
    rw [e]
    exact ⟨bY HOW.out k2,HK.out.trans k2⟩
   clear k2 hG HK HOW HCE sN HG
   go_wp2_with fail
   go_loopw [5,9] (fun ou iv wr=>∃ (i:Nat) (ov:Value),ov=ou/\i<=n/\iv = ah i/\wr.ownsRow W.heap.size 3 1 ov (jK x j i).length (aS (jK x j i))/\aj aB W wr) (fun _ iv _=>n - (intOf iv).toNat)
   case atStart=>exact ⟨0,_,rfl,aki _,rfl,HI2.out.1,HI2.out.2⟩
   case round =>
    obtain ⟨i,ov,hov,hi,rfl,hown,hk⟩:=hrel
    subst hov
    have HK:=ay hk
    have HOW:=ay hown
    have O8:(n:Int)<=4:=by have:=HB.out.2.2;omega
    by_cases hin:i<n
    ·have aiv:(i:Int)<(n:Int):=by omega
     have hi0:(0:Int)<=(i:Int):=by omega
     obtain ⟨b,gM,rfl,hc,hrg⟩:=HRG.out i _ hin hk
     have HRE:=ay hrg
     clear hown hk hrg
     go_wp2_with fail
     refine HRE.out.mono ?_
     rintro e w4 ⟨v4,rfl,ho4,k4⟩
     have hb1:=jI.out (i+1) hin
     have hrp:jK x j (i+1)=jK x j i++((x.aG[i]?).map MS.aW).getD []:=by
      unfold jK
      rw [Nk,List.append_assoc]
     rw [hrp,alm] at hb1
     have ho5:=bY HOW.out k4
     obtain ⟨v5,w5,hrun,hown5,hgr⟩:=xY ho5 (Nat.le_trans HK.out.size k4.size) ho4 (by omega)
     rw [<- hrp] at hown5
     have TS:Hid (w5.ownsRow W.heap.size 3 1 v5 (jK x j (i+1)).length (aS (jK x j (i+1)))/\aj aB W w5):=⟨hown5,lQ ho5 hgr (HK.out.trans k4) (fun b h1 h2=>by omega)⟩
     clear ho4 k4 hb1 hrp ho5 hown5 hgr HRE HK HOW hc
     go_wp2_with fail
     exact ⟨⟨i+1,_,rfl,by omega,by go_num,TS.out.1,TS.out.2⟩,by simp [intOf];omega⟩
    ·obtain rfl:i=n:=by omega
     have aiv:¬ (i:Int)<(i:Int):=by omega
     clear hown hk
     go_wp2_with fail
     go_ret
     exact ⟨_,rfl,HOW.out,HK.out⟩
end
def Np:List (Int × Int):=[(1,-1),(2,-1),(3,-1),(4,-1),(5,-1),(4,6),(7,-1),(0,-1)]
structure Qi (w:World):Prop where
 c:∀ (p:Nat) (a b:Int),Np[p]?=some (a,b)->w.cell? ⟨0,4*p+1,none⟩=some (ah a)/\w.cell? ⟨0,4*p+2,none⟩=some (ah b)
theorem Qi.still {w w':World} (h:Qi w) (k:aj aB w w'):Qi w':=⟨fun p a b hp=>⟨k.still (h.c p a b hp).1,k.still (h.c p a b hp).2⟩⟩
theorem UH:∃ fs f,aA.underlying 155=some (.struct fs)/\fs[1]?=some f/\f.type=106/\f.offset=1:=by
 have hf:(match aA.underlying 155 with|some (.struct fs)=>(fs[1]?).map (fun f=>(f.type,f.offset))|_=>none)=some (106,1):=by kernel_rfl
 cases h:aA.underlying 155 with
 | none=>rw [h] at hf;cases hf
 | some d =>
   rw [h] at hf
   cases d with
   | struct fs =>
     simp only at hf
     obtain ⟨f,h1,h2⟩:=alP.1 hf
     simp only [Prod.mk.injEq] at h2
     exact ⟨fs,f,rfl,h1,h2.1,h2.2⟩
   | _=>cases hf
theorem aeV {fuel:Nat} {w:World} {bP:Nat} {sp:Nat->Bool} {held:Bool} {enc:TypeId × Value->Unit} {cs:List Value} {s:DataW Unit} {a b:Int} {t:DataW Unit} {p:List MemPlace}
 (h:DataW.trod enc aA w bP sp held fuel 155 cs=some (.agg [s,.agg [.lit (.int .i64 a),.lit (.int .i64 b)],t],p)):(cs.drop 1).take 2=[ah a,ah b]:=by
 obtain ⟨fs,f,h1,h2,h3,h4⟩:=UH
 obtain ⟨xs,n,_,hx,_,hxl,hfl⟩:=DataW.trod_struct h1 h
 have h5:=hfl 1 f h2
 have hc:aA.cellsOf 106=2:=by kernel_rfl
 rw [h3,h4,hc] at h5
 simp only [Prod.mk.injEq,DataW.agg.injEq] at hx
 have h6:(xs.map (·.1))[1]?=some (.agg [.lit (.int .i64 a),.lit (.int .i64 b)]):=by rw [<- hx.1];rfl
 rw [aks] at h6
 obtain ⟨x,h7,h8⟩:=alP.1 h6
 rw [h7] at h5
 obtain ⟨x1,x2⟩:=x
 simp only at h8
 subst h8
 exact uH Tryz.tabU2 Tryz.tabU6 (by kernel_rfl) (by kernel_rfl) h5
theorem adp {eP : List (String × DataW Unit)} {w : World} (h : laidMet aA (("dustpan/phase.known", Rows.laid_dustpan_phase_known) :: eP) w) : Qi w := by
 obtain ⟨ps,⟨g,t,cs,fuel,p,q,hg,ht,hvar,hd,_,_⟩,_⟩:=h
 obtain rfl : 0 = g := Option.some.inj ((show aA.globalNamed "dustpan/phase.known" = some 0 by kernel_rfl).symm.trans hg)
 obtain rfl:156=t:=Option.some.inj ((show (aA.globals[0]?).map (·.type)=some 156 by kernel_rfl).symm.trans ht)
 obtain ⟨cs,rfl⟩:∃ l:List Value,cs=l.toArray:=⟨cs.toList,by simp⟩
 obtain ⟨hl,_,m,hel⟩:=Dt (s:=4) (n:=8) (e:=155) (by kernel_rfl) (by kernel_rfl) (by kernel_rfl) hd
 have key:∀ (p:Nat) (a b:Int),Np[p]?=some (a,b)->(((cs.drop (p*4)).take 4).drop 1).take 2=[ah a,ah b]:=fun p a b hp=>by
  have h8:p<8:=(ake.1 hp).1
  have hh:∀ d q,Rows.laid_dustpan_phase_known (H:=Unit) = .agg d->d[p]?=some q->∃ q',DataW.trod _ aA w _ _ _ m 155 ((cs.drop (p*4)).take 4)=some (q,q'):=fun d q e hq=>by
   have e':d=_:=(DataW.agg.inj e).symm
   subst e'
   exact hel p q hq
  rcases (by omega:p=0\/p=1\/p=2\/p=3\/p=4\/p=5\/p=6\/p=7) with rfl|rfl|rfl|rfl|rfl|rfl|rfl|rfl <;>
  ·simp [Np] at hp
   obtain ⟨rfl,rfl⟩:=hp
   obtain ⟨q',h9⟩:=hh _ _ rfl rfl
   exact aeV h9
 refine ⟨fun p a b hp=>?_⟩
 have h8:p<8:=(ake.1 hp).1
 have hk:=key p a b hp
 have hg1:∀ j,j<2->cs[4*p+1+j]?=[Value.int .i64 a,ah b][j]?:=fun j hj=>by
  rw [<- hk,alQ hj,alR,alQ (by omega),alR]
  congr 1;omega
 refine ⟨?_,?_⟩
 ·rw [ajp (P:=aA) hg hvar (4*p+1)]
  simpa using hg1 0 (by omega)
 ·rw [ajp (P:=aA) hg hvar (4*p+2)]
  simpa using hg1 1 (by omega)
section
variable {w:World}
theorem aeW (a:Option Addr) (n c:Nat) (zs:List Int) (m:Int) (w:World) (h:gY .i64 w a n zs) (hm:n<=1000000000) :
 Calls aA 100 #[.slice a n c,ah m] w fun e w'=>(∃ k:Int,e = .returned (ah k)/\decide (0<=k)=BM zs m)/\w=w':=by
 go_enter func100,ntmps100
 go_wp2
 go_loop [5,8] (fun _ i=>∃ k:Nat,k<=n/\i = ah k/\∀ j,j<k->zs.getD j 0≠m) (fun _ i=>n - (intOf i).toNat)
 case atStart=>exact ⟨0,aki _,rfl,fun j hj=>absurd hj (by omega)⟩
 case round =>
  obtain ⟨k,hk,rfl,hr⟩:=hrel
  have hl:=h.len
  by_cases hlt:k<n
  ·obtain ⟨b,off,rfl,hc⟩:=h.ni (by omega)
   have hck:=hc k hlt
   by_cases hx:zs.getD k 0=m
   ·rw [hx] at hck
    have HE:Hid (BM zs m=true):=BN.2 (by
     rw [<- hx,ajg,ajh (by omega)]
     exact aji _)
    clear hc hr h hx hl
    go_wp2
    go_ret
    exact ⟨⟨_,rfl,by rw [HE.out];exact fK (by omega)⟩,rfl⟩
   ·have hne:(m==zs.getD k 0)=false:=by simpa using fun e:m=zs.getD k 0=>hx e.symm
    have HR:Hid (∀ j,j<k+1->zs.getD j 0≠m):=fun j hj=>by
     rcases Nat.lt_succ_iff_lt_or_eq.1 hj with h1|h1
     ·exact hr j h1
     ·rw [h1];exact hx
    generalize zs.getD k 0=x at hck hne
    clear hc hr h hx hl
    go_wp2
    go_round
    case rel=>exact ⟨k+1,by omega,by go_num,HR.out⟩
    case measure=>simp [intOf];omega
  ·have HE:Hid (BM zs m=false):=by
    unfold Hid
    rw [Bool.eq_false_iff]
    intro e
    obtain ⟨j,hj,hje⟩:=List.getElem_of_mem (BN.1 e)
    refine hr j (by omega) ?_
    rw [ajg,ajh hj]
    exact hje
   clear hr h hl
   go_wp2
   go_ret
   exact ⟨⟨_,rfl,by rw [HE.out];rfl⟩,rfl⟩
theorem UJ (a:Option Addr) (n c:Nat) (zs:List Int) (m:Int) (w:World) (h:gY .i64 w a n zs) (hm:n<=1000000000) :
 Calls aA 59 #[.slice a n c,ah m] w fun e w'=>e = .returned (.bool (BM zs m))/\w=w':=by
 have HI:=ay (aeW a n c zs m w h hm)
 generalize BM zs m=x at *
 clear h
 go_enter func59,ntmps59
 go_wp2_with fail
 refine HI.out.mono ?_
 rintro e w1 ⟨⟨k,rfl,hk⟩,rfl⟩
 clear HI
 cases x with
 | true =>
   have h1:=of_decide_eq_true hk
   clear hk
   go_wp2_with fail
   go_ret
   exact ⟨rfl,rfl⟩
 | false =>
   have h1:=of_decide_eq_false hk
   have h2:decide (0<=k)=false:=hk
   clear hk
   go_wp2_with fail
   go_ret
   exact ⟨rfl,rfl⟩
def oL (p:Nat):List Nat:=[[1],[2],[3],[4],[5],[4,6],[7],[0]].getD p []
theorem UK (p:Nat) (hp:p<8) (w:World):Calls aA 61 #[ah (p:Int)] w fun e w'=>e = .returned (.bool true)/\w=w':=by
 have h1:(p:Int)<8:=by omega
 have h0:(0:Int)<=(p:Int):=by omega
 go_enter func61,ntmps61
 go_wp2_with fail
 go_ret
 exact ⟨rfl,rfl⟩
theorem abl (p:Nat) (hp:p<8) (w:World) (h:Qi w):Calls aA 60 #[ah (p:Int)] w fun e w'=>(∃ v,e = .returned v/\w'.ownsRow w.heap.size 3 1 v (oL p).length (aS (oL p)))/\aj aB w w':=by
 obtain ⟨a,b,hab⟩:∃ a b,Np[p]?=some (a,b):=⟨_,_,ajh (by exact hp)⟩
 obtain ⟨c1,c2⟩:=h.c p a b hab
 have HP:Hid (0<=a/\a<=7 /\ -1<=b/\b<=6/\oL p=[a.toNat]++if 0<=b then [b.toNat] else []):=by
  rcases (by omega:p=0\/p=1\/p=2\/p=3\/p=4\/p=5\/p=6\/p=7) with rfl|rfl|rfl|rfl|rfl|rfl|rfl|rfl <;>
  ·simp [Np] at hab
   obtain ⟨rfl,rfl⟩:=hab
   exact ⟨by decide,by decide,by decide,by decide,rfl⟩
 have HI:=ay (UK p hp w)
 have h1:(p:Int)<8:=by omega
 have h0:(0:Int)<=(p:Int):=by omega
 rw [Nat.mul_comm] at c1 c2
 obtain ⟨a',rfl⟩:∃ a':Nat,a=(a':Int):=⟨a.toNat,by have:=HP.out.1;omega⟩
 have hix0:∀ w:World,(Instr.index 106 (.agg #[ah (a':Int),ah b]) (ah 0)).run aA w = .ok (ah (a':Int)) w:=fun _=>by kernel_rfl
 have hix1:∀ w:World,(Instr.index 106 (.agg #[ah (a':Int),ah b]) (ah 1)).run aA w = .ok (ah b) w:=fun _=>by kernel_rfl
 have HI0:Hid (w.ownsRow w.heap.size 3 1 (.slice none 0 0) ([]:List Nat).length (aS [])/\aj aB w w):=⟨⟨rfl,.inl ⟨rfl,rfl⟩⟩,aj.refl _ _⟩
 clear h hab
 go_enter func60,ntmps60
 go_wp2_with fail
 refine HI.out.mono ?_
 rintro e w1 ⟨rfl,rfl⟩
 clear HI
 go_wp2_with fail
 clear c1 c2
 go_loopw [3,5,12] (fun ou _ iv wr=>∃ (i:Nat) (ov:Value) (l:List Nat),ov=ou/\i<=2/\iv = ah i/\wr.ownsRow w.heap.size 3 1 ov l.length (aS l)/\aj aB w wr/\l.length<=2/\(i=0->l=[])/\(i=1->l=[a'])/\(i=2->l=oL p)) (fun _ _ iv _=>2 - (intOf iv).toNat)
 case atStart=>exact ⟨0,_,[],rfl,by omega,rfl,HI0.out.1,HI0.out.2,by simp,fun _=>rfl,fun h=>by omega,fun h=>by omega⟩
 case round =>
  obtain ⟨i,ov,l,hov,hi,rfl,ho,hk,hl2,e0,e1,e2⟩:=hrel
  subst hov
  have HK:=ay hk
  have hp:=HP.out
  rcases (by omega:i=0\/i=1\/i=2) with rfl|rfl|rfl
  ·have hl:=e0 rfl
   subst hl
   have ha0:(0:Int)<=(a':Int):=by omega
   have k7:aj aB wr (wr.alloc (.cells #[ah (a':Int)] 3)):=(aj.refl _ _).alloc _
   have ho7:=bY ho k7
   obtain ⟨g,aO,W8,hrun,hown8,hgr,_⟩:=yA ho7 (by have:=hk.size;simp;omega) (N:=wr.heap.size) ((aF.bC wr [ah (a':Int)] 3).cell 0 rfl) (by simp)
   have qN:Hid (W8.ownsRow w.heap.size 3 1 (.slice (some ⟨g,0,none⟩) 1 aO) [a'].length (aS [a'])/\aj aB w W8):=⟨hown8,lQ ho7 hgr (hk.trans k7) (fun b h1 h2=>by omega)⟩
   clear ho hk k7 ho7 hown8 hgr hp e0 e1 e2 HK hl2
   go_wp2_with fail
   exact ⟨⟨1,_,[a'],rfl,by omega,rfl,qN.out.1,qN.out.2,by simp,fun h=>by omega,fun _=>rfl,fun h=>by omega⟩,by simp [intOf]⟩
  ·have hl:=e1 rfl
   subst hl
   by_cases hb:0<=b
   ·obtain ⟨b',rfl⟩:∃ b':Nat,b=(b':Int):=⟨b.toNat,by omega⟩
    have hnx:oL p=[a']++[b']:=by rw [hp.2.2.2.2,aZ hb];simp
    have k7:aj aB wr (wr.alloc (.cells #[ah (b':Int)] 3)):=(aj.refl _ _).alloc _
    have ho7:=bY ho k7
    obtain ⟨g,aO,W8,hrun,hown8,hgr,_⟩:=yA ho7 (by have:=hk.size;simp;omega) (N:=wr.heap.size) ((aF.bC wr [ah (b':Int)] 3).cell 0 rfl) (by simp)
    rw [<- hnx] at hown8
    have qN:Hid (W8.ownsRow w.heap.size 3 1 (.slice (some ⟨g,0,none⟩) 2 aO) (oL p).length (aS (oL p))/\aj aB w W8/\(oL p).length=2):=by
     have e:(oL p).length=2:=by rw [hnx];rfl
     rw [e] at hown8 ⊢
     exact ⟨hown8,lQ ho7 hgr (hk.trans k7) (fun b h1 h2=>by omega),rfl⟩
    clear ho hk k7 ho7 hown8 hgr hp e0 e1 e2 HK hl2 hnx
    go_wp2_with fail
    exact ⟨⟨2,_,oL p,rfl,by omega,rfl,qN.out.1,qN.out.2.1,by rw [qN.out.2.2];omega,fun h=>by omega,fun h=>by omega,fun _=>rfl⟩,by simp [intOf]⟩
   ·have hnx:oL p=[a']:=by rw [hp.2.2.2.2,aT hb];simp
    rw [<- hnx] at ho
    have HO:=ay ho
    have hb2:decide (0<=b)=false:=gJ hb
    have HL2:Hid ((oL p).length<=2):=by show _<=2;rw [hnx];simp
    clear ho hk hp e0 e1 e2 hl2 hnx
    go_wp2_with fail
    exact ⟨⟨2,_,oL p,rfl,by omega,rfl,HO.out,HK.out,HL2.out,fun h=>by omega,fun h=>by omega,fun _=>rfl⟩,by simp [intOf]⟩
  ·have hl:=e2 rfl
   subst hl
   have HO:=ay ho
   clear ho hk hp e0 e1 e2 hl2
   go_wp2_with fail
   go_ret
   exact ⟨⟨_,rfl,HO.out⟩,HK.out⟩
theorem aeX (p q:Nat) (hp:p<8) (w:World) (h:Qi w):Calls aA 32 #[ah (p:Int),ah (q:Int)] w fun e w'=>e = .returned (.bool (BM ((oL p).map fun x:Nat=>(x:Int)) (q:Int)))/\aj aB w w':=by
 have HN:=ay (abl p hp w h)
 have HL:Hid ((oL p).length<=2):=by
  rcases (by omega:p=0\/p=1\/p=2\/p=3\/p=4\/p=5\/p=6\/p=7) with rfl|rfl|rfl|rfl|rfl|rfl|rfl|rfl <;>
  ·show (oL _).length<=2
   decide
 generalize oL p=l at *
 obtain ⟨x,hx⟩:∃ x,x=BM (l.map fun x:Nat=>(x:Int)) (q:Int):=⟨_,rfl⟩
 have HX:=ay hx
 rw [<- hx]
 clear h hp hx
 go_enter func32,ntmps32
 go_wp2_with fail
 refine HN.out.mono ?_
 rintro e w1 ⟨⟨v,rfl,ho⟩,k1⟩
 obtain ⟨a,c,rfl,hi,_⟩:=UG ho
 have HC:=ay (UJ a l.length c _ (q:Int) w1 hi (by have:=HL.out;omega))
 have HK:=ay k1
 rw [<- HX.out] at HC
 clear ho hi k1 HN
 go_wp2_with fail
 refine HC.out.mono ?_
 rintro e w2 ⟨rfl,rfl⟩
 go_wp2_with fail
 go_ret
 exact ⟨rfl,HK.out⟩
theorem agH {a b:Nat} (h:yZ a b=true) (hne:a≠b):BM ((oL a).map fun x:Nat=>(x:Int)) (b:Int)=true:=by
 unfold yZ at h
 rw [Bool.or_eq_true] at h
 rcases h with h|h
 ·exact absurd (by simpa using h) hne
 ·simp at h
  rcases h with ⟨rfl,rfl⟩|⟨rfl,rfl⟩|⟨rfl,rfl⟩|⟨rfl,rfl⟩|⟨rfl,rfl⟩|⟨rfl,rfl⟩|⟨rfl,rfl⟩|⟨rfl,rfl⟩|⟨rfl,rfl⟩<;>decide
theorem adq {ph:List Nat} (hp:BH ph) {a:Option Addr} {c:Nat} (hi:gY .i64 w a ph.length (ph.map fun x:Nat=>(x:Int))) (hl:ph.length<=9223372036854775807) (h:Qi w):Calls aA 35 #[.slice a ph.length c] w fun e w'=>e = .returned (.bool true)/\aj aB w w':=by
 have HI:=ay hi
 have jQ:=ay h
 have HP:=ay hp
 obtain ⟨n,hn⟩:∃ n,n=ph.length:=⟨_,rfl⟩
 have HN:Hid (ph.length=n):=hn.symm
 have O8:(n:Int)<=9223372036854775807:=by omega
 have HC:Hid (∀ i,i<n->∃ b off,a=some ⟨b,off,none⟩/\∀ j,j<n->∀ W,aj aB w W->W.cell? ⟨b,off+j,none⟩=some (ah ((ph.getD j 0:Nat):Int))):=fun i hi'=>by
  obtain ⟨b,off,e,hc⟩:=HI.out.ni (by omega)
  refine ⟨b,off,e,fun j hj W k=>?_⟩
  have h9:=hc j (by omega)
  rw [ajg,aks,ajh (by omega)] at h9
  rw [ajg,ajh (by omega)]
  exact k.still h9
 have HM:Hid (∀ i,i+1<n->ph.getD i 0<8/\ph.getD (i+1) 0<8/\BM ((oL (ph.getD i 0)).map fun x:Nat=>(x:Int)) ((ph.getD (i+1) 0:Nat):Int)=true):=fun i hi'=>by
  have g1:ph[i]?=some (ph.getD i 0):=by rw [ajg,ajh (by omega)];rfl
  have g2:ph[i+1]?=some (ph.getD (i+1) 0):=by rw [ajg,ajh (by omega)];rfl
  obtain ⟨m1,m2⟩:=hp.may i _ _ g1 g2
  exact ⟨hp.lt _ (alh g1),hp.lt _ (alh g2),agH m2 m1⟩
 have HL:Hid (∀ i,i<n->ph.getD i 0<8):=fun i hi'=>hp.lt _ (alh (i:=i) (by rw [ajg,ajh (by omega)];rfl))
 rw [<- hn]
 clear hi h hp hl hn
 go_enter func35,ntmps35
 go_wp2_with fail
 go_loopw [3,4,7] (fun _ _ iv wr=>∃ i:Nat,i<=n/\iv = ah i/\aj aB w wr) (fun _ _ iv _=>n - (intOf iv).toNat)
 case atStart=>exact ⟨0,aki _,rfl,aj.refl _ _⟩
 case round =>
  obtain ⟨i,hi,rfl,hk⟩:=hrel
  have HK:=ay hk
  by_cases hlt:i<n
  ·have lJ:(i:Int)<(n:Int):=by omega
   have hi0:(0:Int)<=(i:Int):=by omega
   obtain ⟨b,off,rfl,hcs⟩:=HC.out i hlt
   have hc0:=hcs i hlt _ hk
   have h8:=HL.out i hlt
   have HIS:=ay (fun W=>UK (ph.getD i 0) h8 W)
   cases i with
   | zero =>
     rw [Nat.add_zero] at hc0
     clear hk hcs
     generalize ph.getD 0 0=x at *
     go_wp2_with fail
     refine (HIS.out _).mono ?_
     rintro e w2 ⟨rfl,rfl⟩
     clear HIS
     go_wp2_with fail
     exact ⟨⟨1,by omega,rfl,HK.out⟩,by simp [intOf];omega⟩
   | succ i =>
     obtain ⟨_,_,hm⟩:=HM.out i hlt
     have hc1:=hcs i (by omega) _ hk
     have HMY:=ay (fun W (k:aj aB w W)=>aeX (ph.getD i 0) (ph.getD (i+1) 0) (HL.out i (by omega)) W (jQ.out.still k))
     rw [hm] at HMY
     have hw1:IntKind.i64.wrap ((i:Int)+1 - 1)=(i:Int):=by rw [show (i:Int)+1 - 1=(i:Int) by omega];exact IntWalk.i64_in _ (by omega)
     have hi1:(0:Int)<=(i:Int):=by omega
     have hi2:(0:Int)<(i:Int)+1:=by omega
     rw [show (((i+1:Nat)):Int)=(i:Int)+1 from by push_cast;rfl] at lJ hi0
     have aiY:(i:Int)<(n:Int):=by omega
     clear hk hcs hm
     generalize ph.getD (i+1) 0=x at *
     generalize ph.getD i 0=y at *
     go_wp2_with fail
     refine (HIS.out _).mono ?_
     rintro e w2 ⟨rfl,rfl⟩
     clear HIS
     go_wp2_with fail
     refine (HMY.out _ HK.out).mono ?_
     rintro e w3 ⟨rfl,k3⟩
     have jF:=ay (HK.out.trans k3)
     clear HMY k3
     go_wp2_with fail
     exact ⟨⟨i+2,by omega,by go_num,jF.out⟩,by simp [intOf];omega⟩
  ·obtain rfl:i=n:=by omega
   have lJ:¬ (i:Int)<(i:Int):=by omega
   clear hk
   go_wp2_with fail
   go_ret
   exact ⟨rfl,HK.out⟩
end
theorem Tryz.infoSInt9:(aA.info? 32).map (fun i=>(i.zero,i.size,i.bytes))=some (some (.slice none 0 0),1,24):=by kernel_rfl
section
variable {w w' W W' W0:World} {s N n:Nat} {v:Value} {l l2:List Nat} {H:HS} {D:Nat->Nat}
theorem D6 (h:eu H) {a:Nat} (ha:H.bn a=true):1<=a/\a<=H.b*H.ww/\H.dh a=(H.nf a,0)/\∀ k:Nat,k<H.nf a->H.mY a (k:Int)=0:=by
 obtain ⟨B,k,f,ho,_⟩:=h.kG a ha
 obtain ⟨h1,h2,_⟩:=gB ho
 have hE:H.qB a=0:=by
  unfold HS.qB HS.Dy
  rw [aT (by omega),ha];rfl
 refine ⟨h1,h2,by unfold HS.dh;rw [aZ hE],fun j hj=>?_⟩
 unfold HS.mY
 rw [aZ hE,aT (by omega)]
theorem aeY {us:List Value} {u:Value} (hown:w.ownsRow s 32 1 v n us) (hs:s<=w.heap.size) (hN:w.cell? ⟨N,0,none⟩=some u) (hu:u.oneCell'=true) (hn:n<=100000000) :
 ∃ g aO w',(app9 #[67,67] 67 #[v,.slice (some ⟨N,0,none⟩) 1 1]).run aA w = .ok (.slice (some ⟨g,0,none⟩) (n+1) aO) w'/\w'.ownsRow s 32 1 (.slice (some ⟨g,0,none⟩) (n+1) aO) (n+1) (us++[u])/\w.grownBy w' v.ownBlock:=by
 obtain ⟨g,aO,w',h1,h2,h3,h4⟩:=uJ (P:=aA) w 67 67 32 (by kernel_rfl) Tryz.infoSInt9 rfl (bQ hown (aki _)) (N:=N) (u:=u) hN hu (by decide) (by omega)
 refine ⟨g,aO,w',h1,UF h2 (fun k hk=>?_),h3⟩
 simp [Value.ownBlock] at hk
 subst hk
 rcases h4 with h4|h4
 ·exact (World.ownsRow.lt hown g h4).1
 ·omega
structure AZ (W:World) (s:Nat) (H:HS) (Av Tv:Value) (i:Nat):Prop where
 a:W.ownsRow s 3 1 Av (H.aQ.take i).length (aS (H.aQ.take i))
 t:∃ us:List Value,us.length=i/\W.ownsRow s 32 1 Tv i us/\∀ (j:Nat) (u:Value),us[j]?=some u->W.ownsRow s 3 1 u (toP H (H.aQ.getD j 0)).length (aS (toP H (H.aQ.getD j 0)))/\∀ k,u.ownBlock=some k->Av.ownBlock≠some k
theorem wG {S:Nat->Prop} {e:TypeId} {xs:List Value} (h:W.ownsRow s e 1 v n xs) (k:aj S W W') (hS:∀ b,s<=b->¬ S b):W'.ownsRow s e 1 v n xs:=gK h k (fun b hb=>hS b (World.ownsRow.lt h b hb).1)
theorem AZ.aK {S:Nat->Prop} {Av Tv:Value} {i:Nat} (h:AZ W s H Av Tv i) (k:aj S W W') (hS:∀ b,s<=b->¬ S b):AZ W' s H Av Tv i:=by
 obtain ⟨us,h1,h2,h3⟩:=h.t
 exact ⟨wG h.a k hS,us,h1,wG h2 k hS,fun j u hj=>⟨wG (h3 j u hj).1 k hS,(h3 j u hj).2⟩⟩
theorem Nq {row:Option Nat} (g:w.grownBy w' row):aj (fun b=>row=some b) w w':=⟨g.os,g.tape,g.output,g.size,fun k hk n=>g.block k hk (fun e=>n e.symm)⟩
theorem AZ.app1 {Av Tv:Value} {i g aO:Nat} {W8:World} (h:AZ W s H Av Tv i) (h8:W8.ownsRow s 3 1 (.slice (some ⟨g,0,none⟩) (H.aQ.take (i+1)).length aO) (H.aQ.take (i+1)).length (aS (H.aQ.take (i+1)))) (hg:W.grownBy W8 Av.ownBlock) (hw:Av.ownBlock=some g\/W.heap.size<=g)
 {u:Value} {z:List Nat} (hu:W.ownsRow s 3 1 u z.length (aS z)) (hne:∀ k,u.ownBlock=some k->Av.ownBlock≠some k) :
 W8.ownsRow s 3 1 (.slice (some ⟨g,0,none⟩) (H.aQ.take (i+1)).length aO) (H.aQ.take (i+1)).length (aS (H.aQ.take (i+1)))/\(∃ us:List Value,us.length=i/\W8.ownsRow s 32 1 Tv i us/\∀ (j:Nat) (u:Value),us[j]?=some u->W8.ownsRow s 3 1 u (toP H (H.aQ.getD j 0)).length (aS (toP H (H.aQ.getD j 0)))/\∀ k,u.ownBlock=some k->g≠k)/\W8.ownsRow s 3 1 u z.length (aS z)/\∀ k,u.ownBlock=some k->g≠k:=by
 obtain ⟨us,h1,h2,h3⟩:=h.t
 have k:=Nq hg
 have hoth:∀ {x:Value} {zs:List Nat},W.ownsRow s 3 1 x zs.length (aS zs)->(∀ k,x.ownBlock=some k->Av.ownBlock≠some k)->W8.ownsRow s 3 1 x zs.length (aS zs)/\∀ k,x.ownBlock=some k->g≠k:=fun {x zs} hx hn=>by
  refine ⟨gK hx k (fun b hb e=>hn b hb e),fun b hb e=>?_⟩
  subst e
  rcases hw with hw|hw
  ·exact hn g hb hw
  ·have:=(World.ownsRow.lt hx g hb).2;omega
 refine ⟨h8,⟨us,h1,gK h2 k (fun b hb e=>?_),fun j x hj=>hoth (h3 j x hj).1 (h3 j x hj).2⟩,hoth hu hne⟩
 obtain ⟨cur,hc⟩:=nG (bQ h2 (aki _)) hb
 obtain ⟨cur2,hc2⟩:=nG (bQ h.a (aki _)) e
 rw [hc] at hc2
 simp at hc2
theorem agI (h:aI w D H) (hT:pI w) (hL:H.aQ.length<=1000000):Calls aA 30 #[au (D 0)] w fun e w'=>∃ Av Tv:Value,e = .returned (.agg #[Av,Tv])/\AZ w' w.heap.size H Av Tv H.aQ.length/\aI w' D H/\aj (HF D) w w':=by
 obtain ⟨W0,hW0⟩:∃ W0,W0=(w.alloc (.cells #[.slice none 0 0,.slice none 0 0] 69)).alloc (.cells #[.slice none 0 0,.slice none 0 0] 69):=⟨_,rfl⟩
 have k0:aj aB w W0:=by rw [hW0];exact ((aj.refl _ _).alloc _).alloc _
 have hs0:W0.heap.size=w.heap.size+2:=by rw [hW0];simp
 have hR0:aF W0 w.heap.size [.slice none 0 0,.slice none 0 0] 69:=by rw [hW0];exact (aF.bC w _ _).alloc _
 have hB0:aF W0 (w.heap.size+1) [.slice none 0 0,.slice none 0 0] 69:=by
  rw [hW0]
  have:=aF.bC (w.alloc (.cells #[.slice none 0 0,.slice none 0 0] 69)) [.slice none 0 0,.slice none 0 0] 69
  simpa using this
 have hD:∀ i,i<13->D i<w.heap.size:=h.Lj
 have hnD:∀ b,w.heap.size<=b->¬ HF D b:=fun b hb hf=>by
  obtain ⟨i,hi,e⟩:=hf
  have:=hD i hi
  omega
 have JB:=ay hnD
 have hOB:=yT (h.still k0) (hT.still k0)
 rw [hs0] at hOB
 have yM:=ay hOB
 have Nr:Hid (∀ W i,i<H.aQ.length->aI W D H->Calls aA 55 #[au (D 0),ah ((H.aQ.getD i 0:Nat):Int)] W fun e w'=>e = .returned (.tuple #[ah ((H.dh (H.aQ.getD i 0)).1:Int),ah 0])/\aI w' D H/\aj (HF D) W w'):=fun W i hi hW=>by
  refine (Ee hW (H.aQ.getD i 0)).mono ?_
  rintro e w' ⟨rfl,h2,h3⟩
  have hb:H.bn (H.aQ.getD i 0)=true:=by
   rw [ajg,ajh hi]
   exact (lK.1 (aji hi)).2
  rw [(D6 h.gU hb).2.2.1]
  exact ⟨rfl,h2,h3⟩
 have HLD:Hid (∀ W i (j:Nat),i<H.aQ.length->j<(H.dh (H.aQ.getD i 0)).1->aI W D H->Calls aA 56 #[au (D 0),ah ((H.aQ.getD i 0:Nat):Int),ah (j:Int)] W fun e w'=>e = .returned (.tuple #[ah ((H.eU (H.aQ.getD i 0) (j:Int):Nat):Int),ah 0])/\aI w' D H/\aj (HF D) W w'):=fun W i j hi hj hW=>by
  refine (OT hW (H.aQ.getD i 0) (j:Int)).mono ?_
  rintro e w' ⟨rfl,h2,h3⟩
  have hb:H.bn (H.aQ.getD i 0)=true:=by
   rw [ajg,ajh hi]
   exact (lK.1 (aji hi)).2
  have hf:=D6 h.gU hb
  rw [hf.2.2.1] at hj
  rw [hf.2.2.2 j hj]
  exact ⟨rfl,h2,h3⟩
 have HAB:Hid (∀ W W',aI W D H->aj (fun b=>w.heap.size<=b) W W'->aI W' D H):=fun W W' hW k=>by
  have hg:=h.Ll
  exact hW.aK k (fun i hi hh=>by have h1:w.heap.size<=D i:=hh;have:=hD i hi;omega) (fun hh=>by have h1:w.heap.size<=_:=hh;omega) (fun hh=>by have h1:w.heap.size<=_:=hh;omega) (fun hh=>by have h1:w.heap.size<=_:=hh;omega)
 have HFB:Hid (∀ a,(H.dh a).1<=100):=fun a=>DT H a
 have HH0:=ay (h.still k0)
 have qK:=ay hs0
 have gQ:=ay k0
 have HB0:=ay hB0
 have HR0:=ay hR0
 have HW0:=ay hW0
 clear h hT k0 hs0 hB0 hR0 hD hnD hOB hW0
 go_enter func30,ntmps30
 go_wp2_with fail
 rw [<- HW0.out]
 refine yM.out.mono ?_
 rintro e w1 ⟨lv,rfl,ho1,k1⟩
 obtain ⟨la,lc,rfl,hi1,hlc⟩:=UG ho1
 obtain ⟨s1,hs1⟩:∃ s1,s1=w1.heap.size:=⟨_,rfl⟩
 have mJ:Hid (w.heap.size+2<=s1):=by show _<=_;rw [<- qK.out,hs1];exact k1.size
 have HLB:Hid (∀ b,la=some ⟨b,0,none⟩->b<s1):=fun b e=>by
  subst e
  rw [hs1]
  exact (World.ownsRow.lt ho1 b rfl).2
 have uy:Hid (∀ W Av Tv,AZ W s1 H Av Tv H.aQ.length->AZ W w.heap.size H Av Tv H.aQ.length):=fun W Av Tv ho=>by
  have hs1:=mJ.out
  obtain ⟨us,h1,h2,h3⟩:=ho.t
  exact ⟨bQ ho.a (by omega),us,h1,bQ h2 (by omega),fun j u hj=>⟨bQ (h3 j u hj).1 (by omega),(h3 j u hj).2⟩⟩
 have HI1:Hid (aI w1 D H/\aj (HF D) w w1/\w1.ownsRow (w.heap.size+2) 3 1 (.slice la H.aQ.length lc) H.aQ.length (aS H.aQ)/\aF w1 w.heap.size [.slice none 0 0,.slice none 0 0] 69/\aF w1 (w.heap.size+1) [.slice none 0 0,.slice none 0 0] 69/\AZ w1 s1 H (.slice none 0 0) (.slice none 0 0) 0/\s1<=w1.heap.size):=by
  refine ⟨HH0.out.still k1,(gQ.out.trans k1).mono (fun _ _ f=>f.elim),ho1,k1.aH HR0.out (fun f=>f),k1.aH HB0.out (fun f=>f),⟨⟨rfl,.inl ⟨rfl,rfl⟩⟩,[],rfl,⟨rfl,.inl ⟨rfl,rfl⟩⟩,fun j u hj=>by simp at hj⟩,by omega⟩
 clear ho1 hi1 hlc k1 hs1 yM HH0 gQ HB0 HR0 HW0 qK
 have hLI:(H.aQ.length:Int)<=1000000:=by omega
 generalize hob:H.aQ.length=L at *
 have UL:Hid (H.aQ.length=L):=hob
 clear hob
 go_wp2_with fail
 go_loopw [5,6,7,8,9,10,11] (fun iv _ _ _ _ _ _ wr=>∃ (i:Nat) (Av Tv:Value),i<=L/\iv = ah i/\aI wr D H/\aj (HF D) w wr/\wr.ownsRow (w.heap.size+2) 3 1 (.slice la L lc) L (aS H.aQ)/\aF wr w.heap.size [.slice none 0 0,.slice none 0 0] 69/\aF wr (w.heap.size+1) [Av,Tv] 69/\AZ wr s1 H Av Tv i/\s1<=wr.heap.size) (fun iv _ _ _ _ _ _ _=>L - (intOf iv).toNat)
 case atStart=>exact ⟨0,_,_,aki _,rfl,HI1.out.1,HI1.out.2.1,HI1.out.2.2.1,HI1.out.2.2.2.1,HI1.out.2.2.2.2.1,HI1.out.2.2.2.2.2.1,HI1.out.2.2.2.2.2.2⟩
 case round =>
  obtain ⟨i,Av,Tv,hi,rfl,hH,hk,hlo,hR,hB,hof,hsz⟩:=hrel
  by_cases hlt:i<L
  ·have lJ:(i:Int)<(L:Int):=by omega
   have hi0:(0:Int)<=(i:Int):=by omega
   have HLC:Hid (∃ b,la=some ⟨b,0,none⟩/\∀ W (S:Nat->Prop),aj S wr W->(∀ b,w.heap.size+2<=b->b<wr.heap.size->¬ S b)->W.cell? ⟨b,i,none⟩=some (ah ((H.aQ.getD i 0:Nat):Int))):=by
    obtain ⟨a',c',e1,_,_,_,hf⟩:=gy (bQ hlo (aki _))
    cases e1
    obtain ⟨b,e2,hc,_⟩:=hf i (ah ((H.aQ.getD i 0:Nat):Int)) (by
     unfold aS
     rw [aks,ajg,ajh (by rw [UL.out];exact hlt)];rfl)
    refine ⟨b,e2,fun W S k hS=>?_⟩
    cases e2
    have hb:=World.ownsRow.lt hlo b rfl
    exact k.nP hc (hS b hb.1 hb.2)
   obtain ⟨bL,rfl,hlc⟩:=HLC.out
   have P7:Hid (∀ W (S:Nat->Prop),aj S wr W->(∀ b,w.heap.size+2<=b->b<wr.heap.size->¬ S b)->W.cell? ⟨bL,i,none⟩=some (ah ((H.aQ.getD i 0:Nat):Int))):=hlc
   have hc0:=hlc wr aB (aj.refl _ _) (fun _ _ _ f=>f)
   have wU:=ay (Nr.out wr i hlt hH)
   have YW:Hid (∀ W (j:Nat),j<(H.dh (H.aQ.getD i 0)).1->aI W D H->Calls aA 56 #[au (D 0),ah ((H.aQ.getD i 0:Nat):Int),ah (j:Int)] W fun e w'=>e = .returned (.tuple #[ah ((H.eU (H.aQ.getD i 0) (j:Int):Nat):Int),ah 0])/\aI w' D H/\aj (HF D) W w'):=fun W j hj hW=>HLD.out W i j hlt hj hW
   have HST:Hid (aj (HF D) w wr/\wr.ownsRow (w.heap.size+2) 3 1 (.slice (some ⟨bL,0,none⟩) L lc) L (aS H.aQ)/\aF wr w.heap.size [.slice none 0 0,.slice none 0 0] 69/\aF wr (w.heap.size+1) [Av,Tv] 69/\AZ wr s1 H Av Tv i/\s1<=wr.heap.size):=⟨hk,hlo,hR,hB,hof,hsz⟩
   have YX:=ay (HFB.out (H.aQ.getD i 0))
   have Hg:Hid (H.aQ.take (i+1)=H.aQ.take i++[H.aQ.getD i 0]/\(H.aQ.take i).length=i):=by
    refine ⟨?_,by rw [alS,UL.out];omega⟩
    rw [List.take_add_one,ajg,ajh (by rw [UL.out];exact hlt)];rfl
   obtain ⟨a,ha⟩:∃ a,a=H.aQ.getD i 0:=⟨_,rfl⟩
   have HA:=ay ha
   rw [<- ha] at hc0 wU P7 YW YX Hg
   obtain ⟨n,hn⟩:∃ n,n=(H.dh a).1:=⟨_,rfl⟩
   have HN:=ay hn
   rw [<- hn] at wU YW YX
   clear hH hk hlo hR hB hof hsz HLC hlc ha hn
   go_wp2_with fail
   refine wU.out.mono ?_
   rintro e w2 ⟨rfl,hH2,k2⟩
   have zu:=ay hH2
   have dF:=ay k2
   have O8:(n:Int)<=100:=by have:=YX.out;omega
   clear hH2 k2 wU hc0
   go_wp2_with fail
   generalize wr=Wo at *
   go_loopw [8,9,10,11] (fun tu kv _ _ wr=>∃ (k:Nat) (tv:Value),tv=tu/\k<=n/\kv = ah k/\aI wr D H/\aj (HF D) w2 wr/\wr.ownsRow w2.heap.size 3 1 tv (toN H a k).length (aS (toN H a k))) (fun _ kv _ _ _=>n - (intOf kv).toNat)
   case atStart=>exact ⟨0,_,rfl,aki _,rfl,zu.out,aj.refl _ _,⟨rfl,.inl ⟨rfl,rfl⟩⟩⟩
   case round =>
    obtain ⟨k,tv,O9,hkn,rfl,hH3,k3,ho3⟩:=hrel
    subst O9
    have RX:=ay hH3
    have jF:=ay k3
    have zX:=ay ho3
    have hc3:=P7.out _ (HF D) (dF.out.trans k3) (fun b hb _=>JB.out b (by omega))
    by_cases hkl:k<n
    ·have aiw:(k:Int)<(n:Int):=by omega
     have HL3:=ay (YW.out _ k hkl hH3)
     have HTN:=ay (toN_succ H a k)
     have zA:=ay (toN_len H a k)
     clear hH3 k3 ho3
     generalize H.eU a (k:Int)=x at *
     go_wp2_with fail
     refine HL3.out.mono ?_
     rintro e w4 ⟨rfl,hH4,k4⟩
     have OQ:=ay hH4
     have GI:=ay (wG zX.out k4 (fun b hb=>JB.out b (by have:=mJ.out;have:=HST.out.2.2.2.2.2;have:=dF.out.size;omega)))
     have nV:Hid (aj (HF D) w2 w4):=jF.out.trans k4
     clear hH4 k4 HL3 hc3 jF zX RX
     by_cases hx0:x=0
     ·subst hx0
      have HO5:Hid (w4.ownsRow w2.heap.size 3 1 tv (toN H a (k+1)).length (aS (toN H a (k+1)))):=by
       rw [HTN.out,aZ rfl];exact GI.out
      clear GI
      go_wp2_with fail
      exact ⟨⟨k+1,_,rfl,by omega,by go_num,OQ.out,nV.out,HO5.out⟩,by simp [intOf];omega⟩
     ·have hx1:((x:Int)==0)=false:=by simp;omega
      have hx2:((x:Int) != 0)=true:=by simp;omega
      have hx3:decide ((x:Int)=0)=false:=by simp;omega
      have hx4:decide (x=0)=false:=by simpa using hx0
      have k7:aj aB w4 (w4.alloc (.cells #[ah (x:Int)] 3)):=(aj.refl _ _).alloc _
      have ho7:=bY GI.out k7
      obtain ⟨g,aO,W8,hrun,hown8,hgr,_⟩:=yA ho7 (by have:=nV.out.size;simp;omega) (N:=w4.heap.size) ((aF.bC w4 [ah (x:Int)] 3).cell 0 rfl) (by have:=zA.out;omega)
      have qN:Hid (aI W8 D H/\aj (HF D) w2 W8/\W8.ownsRow w2.heap.size 3 1 (.slice (some ⟨g,0,none⟩) ((toN H a k).length+1) aO) (toN H a (k+1)).length (aS (toN H a (k+1)))):=by
       rw [HTN.out,aT hx0]
       refine ⟨HAB.out _ _ OQ.out (lQ ho7 hgr (k7.mono (fun _ _ f=>f.elim)) (fun b h1 _=>?_)),lQ ho7 hgr (nV.out.trans (k7.mono (fun _ _ f=>f.elim))) (fun b h1 h2=>by omega),?_⟩
       ·show w.heap.size<=b
        have:=mJ.out;have:=HST.out.2.2.2.2.2;have:=dF.out.size
        omega
       ·have e:(toN H a k).length+1=(toN H a k++[x]).length:=by simp
        rw [e]
        exact hown8
      clear k7 ho7 hown8 hgr GI OQ
      go_wp2_with fail
      exact ⟨⟨k+1,_,rfl,by omega,by go_num,qN.out.1,qN.out.2.1,qN.out.2.2⟩,by simp [intOf];omega⟩
    ·obtain rfl:k=n:=by omega
     have aiw:¬ (k:Int)<(k:Int):=by omega
     have UC:Hid (wr.ownsRow w2.heap.size 3 1 tv (toP H a).length (aS (toP H a))):=by
      unfold toP
      rw [<- HN.out]
      exact ho3
     clear hH3 k3 ho3 zX YW
     have hs1:=mJ.out
     obtain ⟨q1,q2,q3,q4,q5,q6⟩:=HST.out
     have h2s:=dF.out.size
     have hwt:aj (HF D) Wo wr:=dF.out.trans jF.out
     have hts:=hwt.size
     have hBt:aF wr (w.heap.size+1) [Av,Tv] 69:=hwt.aH q4 (JB.out _ (by omega))
     have hRt:aF wr w.heap.size [.slice none 0 0,.slice none 0 0] 69:=hwt.aH q3 (JB.out _ (by omega))
     have adr:AZ wr s1 H Av Tv i:=q5.aK hwt (fun b hb=>JB.out b (by omega))
     have O9:wr.ownsRow s1 3 1 tv (toP H a).length (aS (toP H a)):=bQ UC.out (by omega)
     have hdis:∀ k,tv.ownBlock=some k->Av.ownBlock≠some k:=fun b hb e=>by
      have h1:=(World.ownsRow.lt UC.out b hb).1
      have h2:=(World.ownsRow.lt q5.a b e).2
      omega
     obtain ⟨W5,nI⟩:∃ W5,W5=(wr.alloc (.cells #[ah ((a:Nat):Int)] 3)).drew:=⟨_,rfl⟩
     have k5:aj aB wr W5:=by rw [nI];exact ((aj.refl _ _).alloc _).drew
     have hN5:W5.cell? ⟨wr.heap.size,0,none⟩=some (ah ((a:Nat):Int)):=by rw [nI];exact (aF.bC wr [ah ((a:Nat):Int)] 3).cell 0 rfl
     have hof5:=adr.aK k5 (fun _ _ f=>f)
     have htv5:=bY O9 k5
     obtain ⟨aa,ca,eA,_⟩:=gy (bQ adr.a (aki _))
     rw [Hg.out.2] at eA
     subst eA
     obtain ⟨us,u1,u2,u3⟩:=hof5.t
     obtain ⟨ta,tc,rfl,_⟩:=gy (bQ u2 (aki _))
     obtain ⟨va,vc,rfl,_⟩:=gy (bQ O9 (aki _))
     have h5s:=k5.size
     obtain ⟨g,aO,W8,hrun,hown8,hgr,hwh⟩:=yA hof5.a (by omega) hN5 (by rw [Hg.out.2];omega)
     rw [Hg.out.2] at hrun
     rw [<- Hg.out.1] at hown8
     obtain ⟨g1,⟨us',v1,v2,v3⟩,g3,g4⟩:=hof5.app1 hown8 hgr hwh htv5 hdis
     have k8:aj (fun b=>s1<=b) W5 W8:=lQ hof5.a hgr (aj.refl _ _) (fun b h1 _=>h1)
     have hB8:aF W8 (w.heap.size+1) [.slice aa i ca,.slice ta i tc] 69:=k8.aH (k5.aH hBt (fun f=>f)) (fun hh=>by have:s1<=w.heap.size+1:=hh;omega)
     have hR8:aF W8 w.heap.size [.slice none 0 0,.slice none 0 0] 69:=k8.aH (k5.aH hRt (fun f=>f)) (fun hh=>by have:s1<=w.heap.size:=hh;omega)
     have b8:=hB8.cell 0 rfl
     have f8:=hB8.free 0
     obtain ⟨W9,pW⟩:∃ W9,W9=W8.setCell ⟨w.heap.size+1,0,none⟩ (.slice (some ⟨g,0,none⟩) (i+1) aO):=⟨_,rfl⟩
     have k9:aj (only (w.heap.size+1)) W8 W9:=by rw [pW];exact (aj.refl _ _).put _ _
     have hle:(H.aQ.take (i+1)).length=i+1:=by rw [Hg.out.1,alm,Hg.out.2];rfl
     have hB9:aF W9 (w.heap.size+1) [.slice (some ⟨g,0,none⟩) (i+1) aO,.slice ta i tc] 69:=by rw [pW];exact hB8.set 0 _
     have hno:∀ b,s1<=b->¬ only (w.heap.size+1) b:=fun b hb e=>by unfold only at e;omega
     have b9:=hB9.cell 1 rfl
     obtain ⟨vS,ads⟩:∃ vS,vS=W9.alloc (.cells #[.slice va (toP H a).length vc] 32):=⟨_,rfl⟩
     have k10:aj aB W9 vS:=by rw [ads];exact (aj.refl _ _).alloc _
     have agJ:vS.cell? ⟨W9.heap.size,0,none⟩=some (.slice va (toP H a).length vc):=by rw [ads];exact (aF.bC W9 [.slice va (toP H a).length vc] 32).cell 0 rfl
     have h8s:=k8.size;have h9s:=k9.size;have aix:=k10.size
     have t10:=bY (wG v2 k9 hno) k10
     obtain ⟨g2,cap2,AY,hrun2,hown11,hgr2⟩:=aeY t10 (by omega) agJ rfl (by omega)
     have k11:aj (fun b=>s1<=b) vS AY:=lQ t10 hgr2 (aj.refl _ _) (fun b h1 _=>h1)
     have YZ:aF AY (w.heap.size+1) [.slice (some ⟨g,0,none⟩) (i+1) aO,.slice ta i tc] 69:=k11.aH (k10.aH hB9 (fun f=>f)) (fun hh=>by have:s1<=w.heap.size+1:=hh;omega)
     have b11:=YZ.cell 1 rfl
     have f11:=YZ.free 1
     obtain ⟨Am,adt⟩:∃ Am,Am=AY.setCell ⟨w.heap.size+1,1,none⟩ (.slice (some ⟨g2,0,none⟩) (i+1) cap2):=⟨_,rfl⟩
     have k12:aj (only (w.heap.size+1)) AY Am:=by rw [adt];exact (aj.refl _ _).put _ _
     have agK:aF Am (w.heap.size+1) [.slice (some ⟨g,0,none⟩) (i+1) aO,.slice (some ⟨g2,0,none⟩) (i+1) cap2] 69:=by rw [adt];exact YZ.set 1 _
     have hty:∀ {x:Value} {zs:List Nat},vS.ownsRow s1 3 1 x zs.length (aS zs)->Am.ownsRow s1 3 1 x zs.length (aS zs):=fun {x zs} hx=>by
      refine wG (gK hx (Nq hgr2) (fun b hb e=>?_)) k12 hno
      obtain ⟨cur,hc⟩:=nG (bQ hx (aki _)) hb
      obtain ⟨cur2,hc2⟩:=nG (bQ t10 (aki _)) e
      rw [hc] at hc2
      simp at hc2
     have kS:aj (fun b=>w.heap.size<=b) wr Am:=by
      have e1:aj (fun b=>w.heap.size<=b) wr W5:=k5.mono (fun _ _ f=>f.elim)
      have e2:aj (fun b=>w.heap.size<=b) W5 W8:=k8.mono (fun b _ hb=>by have:s1<=b:=hb;show w.heap.size<=b;omega)
      have e3:aj (fun b=>w.heap.size<=b) W8 W9:=k9.mono (fun b _ hb=>by unfold only at hb;show w.heap.size<=b;omega)
      have e4:aj (fun b=>w.heap.size<=b) W9 vS:=k10.mono (fun _ _ f=>f.elim)
      have e5:aj (fun b=>w.heap.size<=b) vS AY:=k11.mono (fun b _ hb=>by have:s1<=b:=hb;show w.heap.size<=b;omega)
      have e6:aj (fun b=>w.heap.size<=b) AY Am:=k12.mono (fun b _ hb=>by unfold only at hb;show w.heap.size<=b;omega)
      exact ((((e1.trans e2).trans e3).trans e4).trans e5).trans e6
     have agL:Am.ownsRow (w.heap.size+2) 3 1 (.slice (some ⟨bL,0,none⟩) L lc) L (aS H.aQ):=by
      have e0:=bY (wG q2 hwt (fun b hb=>JB.out b (by omega))) k5
      have uz:∀ b,(Value.slice (some ⟨bL,0,none⟩) L lc).ownBlock=some b->b<s1/\w.heap.size+2<=b:=fun b hb=>by
       have h1:=(World.ownsRow.lt e0 b hb).1
       simp [Value.ownBlock] at hb
       subst hb
       exact ⟨HLB.out _ rfl,h1⟩
      have e1:=gK e0 k8 (fun b hb hh=>by have h1:s1<=b:=hh;have:=(uz b hb).1;omega)
      have e2:=gK e1 k9 (fun b hb hh=>by unfold only at hh;have:=(uz b hb).2;omega)
      have e3:=gK (bY e2 k10) k11 (fun b hb hh=>by have h1:s1<=b:=hh;have:=(uz b hb).1;omega)
      exact gK e3 k12 (fun b hb hh=>by unfold only at hh;have:=(uz b hb).2;omega)
     have HI:Hid (aI Am D H/\aj (HF D) w Am/\Am.ownsRow (w.heap.size+2) 3 1 (.slice (some ⟨bL,0,none⟩) L lc) L (aS H.aQ)/\aF Am w.heap.size [.slice none 0 0,.slice none 0 0] 69/\aF Am (w.heap.size+1) [.slice (some ⟨g,0,none⟩) (i+1) aO,.slice (some ⟨g2,0,none⟩) (i+1) cap2] 69/\AZ Am s1 H (.slice (some ⟨g,0,none⟩) (i+1) aO) (.slice (some ⟨g2,0,none⟩) (i+1) cap2) (i+1)/\s1<=Am.heap.size):=by
      refine ⟨HAB.out _ _ RX.out kS,(q1.trans hwt).kF kS (fun b hb hh=>absurd hb (by have:w.heap.size<=b:=hh;omega)),agL,?_,agK,⟨?_,us'++[.slice va (toP H a).length vc],by simp [v1],wG hown11 k12 hno,fun j u hj=>?_⟩,?_⟩
      ·exact k12.aH (k11.aH (k10.aH (k9.aH hR8 (fun e=>by unfold only at e;omega)) (fun f=>f)) (fun hh=>by have:s1<=w.heap.size:=hh;omega)) (fun e=>by unfold only at e;omega)
      ·have q:=hty (bY (wG g1 k9 hno) k10)
       rw [hle] at q ⊢
       exact q
      ·by_cases hji:j<i
       ·rw [List.getElem?_append_left (by omega)] at hj
        obtain ⟨x1,x2⟩:=v3 j u hj
        refine ⟨hty (bY (wG x1 k9 hno) k10),fun b hb e=>x2 b hb ?_⟩
        simpa [Value.ownBlock] using e
       ·rw [List.getElem?_append_right (by omega)] at hj
        obtain ⟨e1,e2⟩:j - us'.length=0 /\ .slice va (toP H a).length vc=u:=by
         cases hd:j - us'.length with
         | zero=>rw [hd] at hj;simp at hj;exact ⟨rfl,hj⟩
         | succ z=>rw [hd] at hj;simp at hj
        obtain rfl:j=i:=by omega
        rw [<- e2,<- HA.out]
        refine ⟨hty (bY (wG g3 k9 hno) k10),fun b hb e=>g4 b hb ?_⟩
        simpa [Value.ownBlock] using e
      ·have:=k11.size;have:=k12.size;omega
     have y0:=hBt.cell 0 rfl
     have y0a:=fun u=>(aF.alloc hBt u).cell 0 rfl
     have aiZ:∀ u,(wr.alloc u).cell? ⟨bL,i,none⟩=some (ah ((a:Nat):Int)):=fun u=>((aj.refl aB wr).alloc u).still hc3
     rw [adt] at HI
     rw [nI] at hrun
     rw [pW] at b9
     have hsz9:W9.heap.size=W8.heap.size:=by rw [pW];simp
     rw [hsz9,ads,pW] at hrun2
     clear hsz9
     clear hs1 q1 q2 q3 q4 q5 q6 h2s hwt hts hBt hRt adr O9 hdis k5 hN5 hof5 htv5 u1 u2 u3 h5s hown8 hgr hwh g1 v1 v2 v3 g3 g4 k8 hB8 hR8 k9 hle hB9 hno k10 agJ h8s h9s aix t10 hown11 hgr2 k11 YZ k12 agK hty kS agL UC HST dF jF RX HA HN Hg P7 YX zu
     go_wp2_with fail
     go_region
     go_wp2_with fail
     exact ⟨⟨i+1,_,_,by omega,by go_num,HI.out.1,HI.out.2.1,HI.out.2.2.1,HI.out.2.2.2.1,HI.out.2.2.2.2.1,HI.out.2.2.2.2.2.1,HI.out.2.2.2.2.2.2⟩,by simp [intOf];omega⟩
  ·obtain rfl:i=L:=by omega
   have lJ:¬ (i:Int)<(i:Int):=by omega
   have hF:=uy.out wr Av Tv hof
   obtain ⟨aa,ca,eA,_⟩:=gy (bQ hof.a (aki _))
   rw [show (H.aQ.take i).length=i by rw [alS,UL.out];omega] at eA
   subst eA
   obtain ⟨us,_,u2,_⟩:=hof.t
   obtain ⟨ta,tc,rfl,_⟩:=gy (bQ u2 (aki _))
   have y0:=hB.cell 0 rfl
   have y1:=hB.cell 1 rfl
   have r0:=hR.cell 0 rfl
   have r1:=hR.cell 1 rfl
   have f0:=hR.free 0
   have f1:=hR.free 1
   obtain ⟨W9,pW⟩:∃ W9,W9=(wr.setCell ⟨w.heap.size,0,none⟩ (.slice aa i ca)).setCell ⟨w.heap.size,1,none⟩ (.slice ta i tc):=⟨_,rfl⟩
   have k9:aj (only w.heap.size) wr W9:=by rw [pW];exact ((aj.refl _ _).put _ _).put _ _
   have hR9:aF W9 w.heap.size [.slice aa i ca,.slice ta i tc] 69:=by rw [pW];exact (hR.set 0 _).set 1 _
   have q0:=hR9.cell 0 rfl
   have q1:=hR9.cell 1 rfl
   have HE:Hid (AZ W9 w.heap.size H (.slice aa i ca) (.slice ta i tc) i/\aI W9 D H/\aj (HF D) w W9):=by
    refine ⟨uy.out _ _ _ (hof.aK k9 (fun b hb e=>by unfold only at e;have:=mJ.out;omega)),HAB.out _ _ hH (k9.mono (fun b _ e=>by unfold only at e;show w.heap.size<=b;omega)),hk.kF k9 (fun b hb e=>by unfold only at e;omega)⟩
   rw [pW] at q0 q1 HE
   clear hH hk hlo hR hB hof hsz hF u2 k9 hR9 pW
   go_wp2_with fail
   refine bodyPost_ret (v := .agg #[.slice aa i ca,.slice ta i tc]) (by simp [results,Tryz.f30,go_sem,q0,q1]) rfl ?_
   exact ⟨_,_,rfl,by rw [UL.out];exact HE.out.1,HE.out.2.1,HE.out.2.2⟩
end
end
end Go.Proofs.YtanfphjoebobaaaGreatDoor
