/- Parts of a walk, put together by a small program of mine from texts of their own: LgA LgB LgC Ref01 RRight FieldX. -/
import Derived.Test.YtjdnkhljgnjkcaaGreatDoorZzab
import Derived.Test.YtjdnkhljgnjkcaaGreatDoorRows
import Derived.Test.YtjdnkhljgnjkcaaGreatDoorZza
import Derived.WalkKit
import Derived.WalkSpells
import Derived.WalkLawsBesides
import Derived.Lib.Hide
import Derived.Test.YtjdnkhljgnjkcaaGreatDoorZzb
import Derived.Test.YtjdnkhljgnjkcaaGreatDoorZzo
/- What a law does with what is shared, beside a mutator: objects made, cells laid, requests, boxes. -/
namespace Go.Proofs.YtjdnkhljgnjkcaaGreatDoor
open Go.RowKit
attribute [local go_sem] Oper.semAt_some

/-- What is shared, in a call that began in w. -/
def ShS (w W : World) (G : Geo) (s : Sh) : Prop := ∃ o : Ow, ShAt o W G s ∧ (∀ x, x < w.heap.size → o x = 0) ∧ Keep none_ w W ∧ s.boxes.length ≤ 8
section
variable {w W W' : World} {G : Geo} {g : MG} {s : Sh} {m : MS}
theorem ShS.heap (h : ShS w W G s) {H : HS} (hr : HeapAt W G.D s.H → True) {f : Nat} {args : Array Value} {v : Ending} (hc : HeapAt W G.D s.H → Calls Tryz.prog f args W fun e w' => e = v ∧ HeapAt w' G.D H ∧ Keep (HF G.D) W w') : Calls Tryz.prog f args W fun e w' => e = v ∧ ShS w w' G { s with H := H } := by
  obtain ⟨o, h1, h2, h3, h4⟩ := h
  refine (hc h1.heap).mono ?_
  rintro e w' ⟨he, g1, k1⟩
  obtain ⟨g2, k2⟩ := h1.setHeap k1 g1 h4
  exact ⟨he, o, g2, h2, h3.zeroO k2 rfl h2, h4⟩
theorem ShS.still (h : ShS w W G s) (k : Keep none_ W W') : ShS w W' G s := by
  obtain ⟨o, h1, h2, h3, h4⟩ := h
  exact ⟨o, h1.still k h4, h2, h3.trans k, h4⟩
theorem ShS.keep (h : ShS w W G s) : Keep none_ w W := by obtain ⟨o, h1, h2, h3, h4⟩ := h; exact h3
theorem ShS.s0 (h : ShS w W G s) : W.cell? ⟨G.S, 0, none⟩ = some (.pointer (some ⟨G.D 0, 0, none⟩)) := by obtain ⟨o, h1, h2, h3, h4⟩ := h; exact h1.sCells.1
theorem ShS.new (h : ShS w W G s) (id : Nat) (hid : id < s.boxes.length) (prog : List OpR) (n : Nat) (hn : n = prog.length) (hm : n ≤ 1000) (a : Option Addr) (c : Nat) (hr : RecAt W a n 4 (opCells prog)) (hnil : a = none → c = 0) :
    Calls Tryz.prog 10 #[.pointer (some ⟨G.S, 0, none⟩), .int .i64 (id : Int), .slice a n c] W fun e w' => ∃ g : MG, e = .returned (.tuple #[.pointer (some ⟨g.M, 0, none⟩), .int .i64 0]) ∧ Ses w w' G g s (MS.new s.H.c id prog) := by
  obtain ⟨o, h1, h2, h3, h4⟩ := h
  refine (mutNew_ok h1 h4 id hid prog n hn hm a c hr hnil).mono ?_
  rintro e w' ⟨o', g, rfl, e1, g1, _, k1⟩
  exact ⟨g, rfl, o', g1, fun x hx => (e1 x (Nat.lt_of_lt_of_le hx h3.size)).trans (h2 x hx), h3.trans k1⟩
/-- The heap is new, beside a mutator. -/
theorem MutAt.heapK {o : Ow} {H : HS} (h : MutAt o W G g s m) (k : Keep (HF G.D) W W') (hH : HeapAt W' G.D H) (hc : H.c = s.H.c) : MutAt o W' G g { s with H := H } m ∧ Keep (In o [1]) W W' := by
  obtain ⟨ev, nv, h1, hn⟩ := h
  obtain ⟨h2, k1⟩ := h1.sh.setHeap k hH h1.box8
  exact ⟨⟨ev, nv, h1.share k1 rfl (by simp <;> omega) h2 rfl hc, hn.keepO k1 rfl (by simp <;> omega)⟩, k1⟩
theorem MutAt.boardK {o : Ow} {B : Bd} (h : MutAt o W G g s m) (k : Keep (only G.B) W W') (hB : BdAt W' G.B B) : MutAt o W' G g { s with B := B } m ∧ Keep (In o [2]) W W' := by
  obtain ⟨ev, nv, h1, hn⟩ := h
  obtain ⟨h2, k1⟩ := h1.sh.setBoard k hB
  exact ⟨⟨ev, nv, h1.share k1 rfl (by simp <;> omega) h2 rfl rfl, hn.keepO k1 rfl (by simp <;> omega)⟩, k1⟩
theorem MutAt.boxK {o : Ow} {j : Nat} {l : List Nat} (h : MutAt o W G g s m) (hj : j < s.boxes.length) (k : Keep (only (G.bx j)) W W') (hX : RwAt o W' (G.bx j) 131 [] l) : MutAt o W' G g { s with boxes := s.boxes.set j l } m ∧ Keep (In o [10 + j]) W W' := by
  obtain ⟨ev, nv, h1, hn⟩ := h
  have h8 := h1.box8
  have hi := h1.idl
  obtain ⟨h2, k1⟩ := h1.sh.setBox hj k hX h1.box8
  exact ⟨⟨ev, nv, h1.share k1 (by simp <;> omega) (by simp <;> omega) h2 (by simp) rfl, hn.keepO k1 (by simp <;> omega) (by simp <;> omega)⟩, k1⟩
theorem Ses.sh (h : Ses w W G g s m) : W.cell? ⟨G.S, 0, none⟩ = some (.pointer (some ⟨G.D 0, 0, none⟩)) ∧ W.cell? ⟨G.S, 1, none⟩ = some (.pointer (some ⟨G.B, 0, none⟩)) ∧ ∃ a c, W.cell? ⟨G.S, 4, none⟩ = some (.slice a s.boxes.length c) ∧ ∀ i, i < s.boxes.length → ∃ b off, a = some ⟨b, off, none⟩ ∧ W.cell? ⟨b, off + i, none⟩ = some (.pointer (some ⟨G.bx i, 0, none⟩)) := by
  obtain ⟨o, ⟨ev, nv, h1, _⟩, _, _⟩ := h
  exact ⟨h1.sh.sCells.1, h1.s0.2.1, h1.sh.sCells.2.2⟩
theorem Ses.setCell (h : Ses w W G g s m) (i : Int) (v : Nat) : Calls Tryz.prog 26 #[.pointer (some ⟨G.D 0, 0, none⟩), .int .i64 i, .int .i64 (v : Int)] W fun e w' => e = .returned (.int .i64 (s.H.setE i v : Int)) ∧ Ses w w' G g { s with H := s.H.setP i v } m := by
  obtain ⟨o, h1, h2, h3⟩ := h
  obtain ⟨ev, nv, h4, _⟩ := id h1
  refine (hSetCell_any h4.sh.heap i v).mono ?_
  rintro e w' ⟨rfl, g1, k1⟩
  obtain ⟨g2, k2⟩ := h1.heapK k1 g1 (setP_w i v).2
  exact ⟨rfl, o, g2, h2, h3.zeroO k2 rfl h2⟩
theorem Ses.ask (h : Ses w W G g s m) (k : Int) (h0 : 0 ≤ s.B.count) (h1 : s.B.count ≤ 1000000000) : Calls Tryz.prog 27 #[.pointer (some ⟨G.B, 0, none⟩), .int .i64 k] W fun e w' => (∃ er : Int, e = .returned (.int .i64 er)) ∧ Ses w w' G g { s with B := s.B.askB k } m := by
  obtain ⟨o, h2, h3, h4⟩ := h
  obtain ⟨ev, nv, h5, _⟩ := id h2
  refine (bd_ask_any G.B s.B k W h5.sh.board h0 h1).mono ?_
  rintro e w' ⟨rfl, g1, k1⟩
  obtain ⟨g2, k2⟩ := h2.boardK k1 g1
  exact ⟨⟨_, rfl⟩, o, g2, h3, h4.zeroO k2 rfl h3⟩
theorem Ses.all (h : Ses w W G g s m) : Calls Tryz.prog 28 #[.pointer (some ⟨G.B, 0, none⟩)] W fun e w' => e = .returned (.bool s.B.all) ∧ W = w' := by
  obtain ⟨o, ⟨ev, nv, h1, _⟩, _, _⟩ := h
  exact bd_all_any G.B s.B W h1.sh.board
set_option maxRecDepth 4000 in
theorem bxLen_any {o : Ow} {b : Nat} {xs : List Nat} (h : RwAt o W b 131 [] xs) : Calls Tryz.prog 29 #[.pointer (some ⟨b, 0, none⟩)] W fun e w' => e = .returned (.int .i64 (xs.length : Int)) ∧ W = w' := by
  have HC := Lib.hid (rwCount_any h)
  clear h
  go_enter Tryz.func29, Tryz.ntmps29
  go_wp2_with fail
  refine HC.out.mono ?_
  rintro e w' ⟨rfl, rfl⟩
  go_wp2_with fail
  go_ret
  exact ⟨rfl, rfl⟩
set_option maxRecDepth 4000 in
theorem bxNext_cons {o : Ow} {b x : Nat} {xs : List Nat} (h : RwAt o W b 131 [] (x :: xs)) : Calls Tryz.prog 30 #[.pointer (some ⟨b, 0, none⟩)] W fun e w' => e = .returned (.tuple #[.int .i64 (x : Int), .bool true]) ∧ RwAt o w' b 131 [] xs ∧ Keep (only b) W w' := by
  have HC := Lib.hid (rwTake_cons x h)
  clear h
  go_enter Tryz.func30, Tryz.ntmps30
  go_wp2_with fail
  refine HC.out.mono ?_
  rintro e w' ⟨rfl, h1, k1⟩
  have HE := Lib.hid (And.intro h1 k1)
  clear h1 k1
  go_wp2_with fail
  go_ret2
  exact ⟨rfl, HE.out.1, HE.out.2⟩
theorem Ses.boxAt {o : Ow} (h : MutAt o W G g s m) (hj : 0 < s.boxes.length) : RwAt o W (G.bx 0) 131 [] (s.box 0) := by
  obtain ⟨ev, nv, h1, _⟩ := h
  have h2 := (h1.sh.box 0 _ (List.getElem?_eq_getElem hj)).1
  unfold Sh.box
  rw [List.getD_eq_getElem?_getD, List.getElem?_eq_getElem hj]
  exact h2
theorem Ses.len (h : Ses w W G g s m) (hj : 0 < s.boxes.length) : Calls Tryz.prog 29 #[.pointer (some ⟨G.bx 0, 0, none⟩)] W fun e w' => e = .returned (.int .i64 ((s.box 0).length : Int)) ∧ W = w' := by
  obtain ⟨o, h1, _, _⟩ := h
  exact bxLen_any (Ses.boxAt h1 hj)
theorem Ses.next (h : Ses w W G g s m) (hj : 0 < s.boxes.length) {x : Nat} {xs : List Nat} (hx : s.box 0 = x :: xs) : Calls Tryz.prog 30 #[.pointer (some ⟨G.bx 0, 0, none⟩)] W fun e w' => e = .returned (.tuple #[.int .i64 (x : Int), .bool true]) ∧ Ses w w' G g { s with boxes := s.boxes.set 0 xs } m ∧ ∀ b, b < w.heap.size → True := by
  obtain ⟨o, h1, h2, h3⟩ := h
  have hb := Ses.boxAt h1 hj
  rw [hx] at hb
  refine (bxNext_cons hb).mono ?_
  rintro e w' ⟨rfl, g1, k1⟩
  obtain ⟨g2, k2⟩ := h1.boxK hj k1 g1
  exact ⟨rfl, ⟨o, g2, h2, h3.zeroO k2 rfl h2⟩, fun _ _ => trivial⟩
end
end Go.Proofs.YtjdnkhljgnjkcaaGreatDoor

/- A mutator alone in a call that has rows of its own: what each call makes of it. -/
namespace Go.Proofs.YtjdnkhljgnjkcaaGreatDoor
open Go.RowKit
attribute [local go_sem] Oper.semAt_some

/-- A mutator alone in a call that began in w; blocks of the call's own lie as they lay. -/
def SesZ (w W : World) (Z : List (Nat × List Value × TypeId)) (G : Geo) (g : MG) (s : Sh) (m : MS) : Prop := ∃ o : Ow, MutAt o W G g s m ∧ (∀ x, x < w.heap.size → o x = 0) ∧ Keep none_ w W ∧ ∀ z ∈ Z, o z.1 = 0 ∧ Blk W z.1 z.2.1 z.2.2
section
variable {w W W' : World} {Z : List (Nat × List Value × TypeId)} {G : Geo} {g : MG} {s : Sh} {m : MS}
theorem SesZ.blk (h : SesZ w W Z G g s m) {z : Nat × List Value × TypeId} (hz : z ∈ Z) : Blk W z.1 z.2.1 z.2.2 := by
  obtain ⟨o, _, _, _, h4⟩ := h
  exact (h4 z hz).2
theorem SesZ.keep (h : SesZ w W Z G g s m) : Keep none_ w W := by obtain ⟨o, _, _, h3, _⟩ := h; exact h3
theorem SesZ.step {s' : Sh} {m' : MS} {I : List Nat} {o o' : Ow} (hz : ∀ x, x < w.heap.size → o x = 0) (hk : Keep none_ w W) (hZ : ∀ z ∈ Z, o z.1 = 0 ∧ Blk W z.1 z.2.1 z.2.2) (e : OExt W o o') (k : Keep (In o I) W W') (h0 : I.contains 0 = false) (h' : MutAt o' W' G g s' m') : SesZ w W' Z G g s' m' :=
  ⟨o', h', fun x hx => (e x (Nat.lt_of_lt_of_le hx hk.size)).trans (hz x hx), hk.zeroO k h0 hz, fun z hzm => ⟨(e _ (hZ z hzm).2.lt).trans (hZ z hzm).1, (hZ z hzm).2.keepO k (hZ z hzm).1 h0⟩⟩
theorem SesZ.still (h : SesZ w W Z G g s m) (k : Keep none_ W W') : SesZ w W' Z G g s m := by
  obtain ⟨o, h1, h2, h3, h4⟩ := h
  exact SesZ.step (I := []) h2 h3 h4 (OExt.refl _ _) k.noneO rfl (h1.still k)
theorem SesZ.of (h : Ses w W G g s m) : SesZ w W [] G g s m := by
  obtain ⟨o, h1, h2, h3⟩ := h
  exact ⟨o, h1, h2, h3, fun z hz => by cases hz⟩
/-- A new block is nobody's. -/
theorem SesZ.more (h : SesZ w W Z G g s m) (cs : List Value) (T : TypeId) : SesZ w (W.alloc (.cells cs.toArray T)) ((W.heap.size, cs, T) :: Z) G g s m := by
  obtain ⟨o, h1, h2, h3, h4⟩ := h
  have k : Keep none_ W (W.alloc (.cells cs.toArray T)) := (Keep.refl _ _).alloc _
  refine ⟨o, h1.still k, h2, h3.trans k, fun z hz => ?_⟩
  rcases List.mem_cons.1 hz with rfl | hz
  · obtain ⟨ev, nv, h5, _⟩ := h1
    exact ⟨h5.sh.fut _ (Nat.le_refl _), Blk.new W cs T⟩
  · exact ⟨(h4 z hz).1, k.blk (h4 z hz).2 (fun f => f)⟩
theorem SesZ.pick {N : Nat} (h : SesZ w W Z G g s m) (ok : Pok N s m) (hN : N ≤ 1000000) : Calls Tryz.prog 11 #[.pointer (some ⟨g.M, 0, none⟩)] W fun e w' => (∃ v, e = .returned v) ∧ SesZ w w' Z G g (pickM s m).1 (pickM s m).2.1 := by
  obtain ⟨o, h1, h2, h3, h4⟩ := h
  refine (mPick_any h1 ok hN).mono ?_
  rintro e w' ⟨o', rfl, e1, g1, k1⟩
  exact ⟨⟨_, rfl⟩, SesZ.step h2 h3 h4 e1 k1 (stepI_0 _) g1⟩
theorem SesZ.done (h : SesZ w W Z G g s m) : Calls Tryz.prog 20 #[.pointer (some ⟨g.M, 0, none⟩)] W fun e w' => e = .returned (.bool (doneM m)) ∧ SesZ w w' Z G g s m := by
  obtain ⟨o, h1, _, _, _⟩ := id h
  refine (mDone_any h1).mono ?_
  rintro e w' ⟨rfl, k⟩
  exact ⟨rfl, h.still k⟩
theorem SesZ.results (h : SesZ w W Z G g s m) (hl : m.res.length ≤ 1000000) : Calls Tryz.prog 18 #[.pointer (some ⟨g.M, 0, none⟩)] W fun e w' => (∃ a c, e = .returned (.slice a m.res.length c)) ∧ SesZ w w' Z G g s m := by
  obtain ⟨o, ⟨ev, nv, h4, _⟩, _, _, _⟩ := id h
  refine (mResults_any h4 hl).mono ?_
  rintro e w' ⟨a, c, rfl, _, _, k⟩
  exact ⟨⟨a, c, rfl⟩, h.still k⟩
theorem SesZ.logged (h : SesZ w W Z G g s m) : Calls Tryz.prog 17 #[.pointer (some ⟨g.M, 0, none⟩)] W fun e w' => (∃ v, e = .returned v ∧ w'.ownsRow W.heap.size 3 1 v m.buf.length (tabV m.buf)) ∧ SesZ w w' Z G g s m := by
  obtain ⟨o, ⟨ev, nv, h4, _⟩, _, _, _⟩ := id h
  refine (mLogged_any h4).mono ?_
  rintro e w' ⟨v, rfl, ho, k⟩
  exact ⟨⟨v, rfl, ho⟩, h.still k⟩
theorem SesZ.sh (h : SesZ w W Z G g s m) : W.cell? ⟨G.S, 0, none⟩ = some (.pointer (some ⟨G.D 0, 0, none⟩)) ∧ W.cell? ⟨G.S, 1, none⟩ = some (.pointer (some ⟨G.B, 0, none⟩)) ∧ ∃ a c, W.cell? ⟨G.S, 4, none⟩ = some (.slice a s.boxes.length c) ∧ ∀ i, i < s.boxes.length → ∃ b off, a = some ⟨b, off, none⟩ ∧ W.cell? ⟨b, off + i, none⟩ = some (.pointer (some ⟨G.bx i, 0, none⟩)) := by
  obtain ⟨o, ⟨ev, nv, h1, _⟩, _, _, _⟩ := h
  exact ⟨h1.sh.sCells.1, h1.s0.2.1, h1.sh.sCells.2.2⟩
theorem SesZ.setCell (h : SesZ w W Z G g s m) (i : Int) (v : Nat) : Calls Tryz.prog 26 #[.pointer (some ⟨G.D 0, 0, none⟩), .int .i64 i, .int .i64 (v : Int)] W fun e w' => e = .returned (.int .i64 (s.H.setE i v : Int)) ∧ SesZ w w' Z G g { s with H := s.H.setP i v } m := by
  obtain ⟨o, h1, h2, h3, hZ⟩ := h
  obtain ⟨ev, nv, h4, _⟩ := id h1
  refine (hSetCell_any h4.sh.heap i v).mono ?_
  rintro e w' ⟨rfl, g1, k1⟩
  obtain ⟨g2, k2⟩ := h1.heapK k1 g1 (setP_w i v).2
  exact ⟨rfl, SesZ.step h2 h3 hZ (OExt.refl _ _) k2 rfl g2⟩
theorem SesZ.ask (h : SesZ w W Z G g s m) (k : Int) (h0 : 0 ≤ s.B.count) (h1 : s.B.count ≤ 1000000000) : Calls Tryz.prog 27 #[.pointer (some ⟨G.B, 0, none⟩), .int .i64 k] W fun e w' => (∃ er : Int, e = .returned (.int .i64 er)) ∧ SesZ w w' Z G g { s with B := s.B.askB k } m := by
  obtain ⟨o, h2, h3, h4, hZ⟩ := h
  obtain ⟨ev, nv, h5, _⟩ := id h2
  refine (bd_ask_any G.B s.B k W h5.sh.board h0 h1).mono ?_
  rintro e w' ⟨rfl, g1, k1⟩
  obtain ⟨g2, k2⟩ := h2.boardK k1 g1
  exact ⟨⟨_, rfl⟩, SesZ.step h3 h4 hZ (OExt.refl _ _) k2 rfl g2⟩
theorem SesZ.all (h : SesZ w W Z G g s m) : Calls Tryz.prog 28 #[.pointer (some ⟨G.B, 0, none⟩)] W fun e w' => e = .returned (.bool s.B.all) ∧ W = w' := by
  obtain ⟨o, ⟨ev, nv, h1, _⟩, _, _, _⟩ := h
  exact bd_all_any G.B s.B W h1.sh.board
theorem SesZ.len (h : SesZ w W Z G g s m) (hj : 0 < s.boxes.length) : Calls Tryz.prog 29 #[.pointer (some ⟨G.bx 0, 0, none⟩)] W fun e w' => e = .returned (.int .i64 ((s.box 0).length : Int)) ∧ W = w' := by
  obtain ⟨o, h1, _, _, _⟩ := h
  exact bxLen_any (Ses.boxAt h1 hj)
theorem SesZ.next (h : SesZ w W Z G g s m) (hj : 0 < s.boxes.length) {x : Nat} {xs : List Nat} (hx : s.box 0 = x :: xs) : Calls Tryz.prog 30 #[.pointer (some ⟨G.bx 0, 0, none⟩)] W fun e w' => e = .returned (.tuple #[.int .i64 (x : Int), .bool true]) ∧ SesZ w w' Z G g { s with boxes := s.boxes.set 0 xs } m ∧
    ∀ base v n zs, W.ownsRow base 3 1 v n zs → w'.ownsRow base 3 1 v n zs := by
  obtain ⟨o, h1, h2, h3, hZ⟩ := h
  have hb := Ses.boxAt h1 hj
  rw [hx] at hb
  obtain ⟨_, v0, hblk, _, _⟩ := id hb
  refine (bxNext_cons hb).mono ?_
  rintro e w' ⟨rfl, g1, k1⟩
  obtain ⟨g2, k2⟩ := h1.boxK hj k1 g1
  exact ⟨rfl, SesZ.step h2 h3 hZ (OExt.refl _ _) k2 (by decide) g2, fun base v n zs ho => own_keep ho k1 (fun b hb2 e => own_ne hblk ho (by decide) (by rw [hb2]; exact congrArg some e))⟩
end
end Go.Proofs.YtjdnkhljgnjkcaaGreatDoor

/- A mutator alone in a call that has a row of numbers that grows. -/
namespace Go.Proofs.YtjdnkhljgnjkcaaGreatDoor
open Go.RowKit

section
variable {o o' : Ow} {w W W' : World} {Z : List (Nat × List Value × TypeId)} {G : Geo} {g : MG} {s : Sh} {m : MS} {ev : Option Ev} {nv : Value}
theorem MAt.moveI {I : List Nat} (h : MAt o W G g s m ev nv) (k : Keep (In o I) W W') (hI : I.all (fun i => decide (20 ≤ i)) = true) (h0 : I.contains 0 = false) (hi : I.contains (20 + m.id) = false) (e : OExt W o o') (hf : Fut o' W') : MAt o' W' G g s m ev nv := by
  obtain ⟨pv, rv, h1, h2, h3⟩ := h.blk
  have k' := k.extO e
  obtain ⟨_, v, hb, _⟩ := id h.buf
  exact ⟨h.sh.move k hI h.box8 e hf, ⟨pv, rv, h1.keepO k h.oM hi, (h2.ext e).keepO k' h0, (h3.ext e).keepO k' hi⟩, (e _ h1.lt).trans h.oM, h.regs.keepO k h.oX hi, (e _ h.regs.lt).trans h.oX, (h.buf.ext e).keepO k' h0 ((e _ hb.lt).trans h.oBf) hi, (e _ hb.lt).trans h.oBf, h.nt.keepO k h.oNt h0, (e _ h.nt.lt).trans h.oNt, h.idl, h.box8, h.conf, h.rlen, h.blen⟩
theorem MutAt.moveI {I : List Nat} (h : MutAt o W G g s m) (k : Keep (In o I) W W') (hI : I.all (fun i => decide (90 ≤ i)) = true) (e : OExt W o o') (hf : Fut o' W') : MutAt o' W' G g s m := by
  obtain ⟨ev, nv, h1, hn⟩ := h
  have hge : ∀ i, i < 90 → I.contains i = false := fun i hi => by
    rw [Bool.eq_false_iff]
    intro hc
    have := List.all_eq_true.1 hI i (by simpa using hc)
    simp at this; omega
  have hI2 : I.all (fun i => decide (20 ≤ i)) = true := List.all_eq_true.2 (fun i hi => by have := List.all_eq_true.1 hI i hi; simp at this ⊢; omega)
  have i8 : m.id < 8 := Nat.lt_of_lt_of_le h1.idl h1.box8
  exact ⟨ev, nv, h1.moveI k hI2 (hge 0 (by decide)) (hge _ (by omega)) e hf, (hn.ext e).keepO (k.extO e) (hge 0 (by decide)) (hge _ (by omega))⟩
/-- The row v is the call's own. -/
def SesL (w W : World) (Z : List (Nat × List Value × TypeId)) (G : Geo) (g : MG) (s : Sh) (m : MS) (v : Value) : Prop := ∃ o : Ow, MutAt o W G g s m ∧ (∀ x, x < w.heap.size → o x = 0) ∧ Keep none_ w W ∧ (∀ z ∈ Z, o z.1 = 0 ∧ Blk W z.1 z.2.1 z.2.2) ∧ ∀ b, v.ownBlock = some b → o b = 97
theorem SesL.toZ {v : Value} (h : SesL w W Z G g s m v) : SesZ w W Z G g s m := by
  obtain ⟨o, h1, h2, h3, h4, _⟩ := h
  exact ⟨o, h1, h2, h3, h4⟩
/-- A row that came of a call is the call's own. -/
theorem SesZ.row (h : SesZ w W Z G g s m) (k : Keep none_ W W') (v : Value) (hv : ∀ b, v.ownBlock = some b → W.heap.size ≤ b ∧ b < W'.heap.size) : SesL w W' Z G g s m v := by
  obtain ⟨o, h1, h2, h3, h4⟩ := h
  cases hb : v.ownBlock with
  | none => exact ⟨o, h1.still k, h2, h3.trans k, fun z hz => ⟨(h4 z hz).1, k.blk (h4 z hz).2 (fun f => f)⟩, fun b hb2 => by rw [hb] at hb2; cases hb2⟩
  | some b =>
    obtain ⟨g1, g2⟩ := hv b hb
    have e : OExt W o (o.put b 97) := Ow.put_ext (.inl g1)
    obtain ⟨ev, nv, h5, _⟩ := id h1
    have hf : Fut (o.put b 97) W' := Ow.put_fut h5.sh.fut k.size g2
    refine ⟨o.put b 97, h1.moveI (I := []) k.noneO rfl e hf, fun x hx => (e x (Nat.lt_of_lt_of_le hx h3.size)).trans (h2 x hx), h3.trans k, fun z hz => ⟨(e _ (h4 z hz).2.lt).trans (h4 z hz).1, k.blk (h4 z hz).2 (fun f => f)⟩, fun b' hb' => ?_⟩
    rw [hb] at hb'
    cases hb'
    exact Ow.put_same _ _ _
theorem SesL.still {v : Value} (h : SesL w W Z G g s m v) (k : Keep none_ W W') : SesL w W' Z G g s m v := by
  obtain ⟨o, h1, h2, h3, h4, h5⟩ := h
  exact ⟨o, h1.still k, h2, h3.trans k, fun z hz => ⟨(h4 z hz).1, k.blk (h4 z hz).2 (fun f => f)⟩, h5⟩
/-- The row has grown. -/
theorem SesL.grow {v v' : Value} {q : Nat} (h : SesL w W Z G g s m v) (hgr : W.grownBy W' v.ownBlock) (hv' : v'.ownBlock = some q) (hq : v.ownBlock = some q ∨ W.heap.size ≤ q) (hlt : q < W'.heap.size) : SesL w W' Z G g s m v' := by
  obtain ⟨o, h1, h2, h3, h4, h5⟩ := h
  have k : Keep (In o [97]) W W' := ⟨hgr.os, hgr.tape, hgr.output, hgr.size, fun x hx hn => hgr.block x hx (fun e => hn (by
    have e' : v.ownBlock = some x := by first | exact e | exact e.symm
    unfold In
    rw [h5 x e']
    simp))⟩
  obtain ⟨ev, nv, h6, _⟩ := id h1
  have e : OExt W o (o.put q 97) := by
    rcases hq with hq | hq
    · exact Ow.put_ext (.inr (h5 q hq))
    · exact Ow.put_ext (.inl hq)
  have hf : Fut (o.put q 97) W' := Ow.put_fut h6.sh.fut k.size hlt
  refine ⟨o.put q 97, h1.moveI k rfl e hf, fun x hx => (e x (Nat.lt_of_lt_of_le hx h3.size)).trans (h2 x hx), h3.zeroO k rfl h2, fun z hz => ⟨(e _ (h4 z hz).2.lt).trans (h4 z hz).1, (h4 z hz).2.keepO k (h4 z hz).1 rfl⟩, fun b hb => ?_⟩
  rw [hv'] at hb
  cases hb
  exact Ow.put_same _ _ _
theorem SesL.next {v : Value} (h : SesL w W Z G g s m v) (hj : 0 < s.boxes.length) {x : Nat} {xs : List Nat} (hx : s.box 0 = x :: xs) : Calls Tryz.prog 30 #[.pointer (some ⟨G.bx 0, 0, none⟩)] W fun e w' => e = .returned (.tuple #[.int .i64 (x : Int), .bool true]) ∧ SesL w w' Z G g { s with boxes := s.boxes.set 0 xs } m v ∧
    ∀ base v n zs, W.ownsRow base 3 1 v n zs → w'.ownsRow base 3 1 v n zs := by
  obtain ⟨o, h1, h2, h3, hZ, h5⟩ := h
  have hb := Ses.boxAt h1 hj
  rw [hx] at hb
  obtain ⟨_, v0, hblk, _, _⟩ := id hb
  refine (bxNext_cons hb).mono ?_
  rintro e w' ⟨rfl, g1, k1⟩
  obtain ⟨g2, k2⟩ := h1.boxK hj k1 g1
  exact ⟨rfl, ⟨o, g2, h2, h3.zeroO k2 (by decide) h2, fun z hz => ⟨(hZ z hz).1, (hZ z hz).2.keepO k2 (hZ z hz).1 (by decide)⟩, h5⟩, fun base v n zs ho => own_keep ho k1 (fun b hb2 e => own_ne hblk ho (by decide) (by rw [hb2]; exact congrArg some e))⟩
theorem SesZ.loggedL (h : SesZ w W Z G g s m) : Calls Tryz.prog 17 #[.pointer (some ⟨g.M, 0, none⟩)] W fun e w' => ∃ a c, e = .returned (.slice a m.buf.length c) ∧ w'.ownsRow w.heap.size 3 1 (.slice a m.buf.length c) m.buf.length (tabV m.buf) ∧ SesL w w' Z G g s m (.slice a m.buf.length c) := by
  obtain ⟨o, ⟨ev, nv, h4, _⟩, _, h3, _⟩ := id h
  refine (mLogged_any h4).mono ?_
  rintro e w' ⟨v, rfl, ho, k⟩
  obtain ⟨a, c, rfl⟩ : ∃ a c, v = .slice a m.buf.length c := by
    rcases ho.2 with ⟨e1, e2⟩ | ⟨q, cap, cur, e1, _⟩
    · exact ⟨none, 0, by rw [e1, e2]⟩
    · exact ⟨_, _, e1⟩
  exact ⟨a, c, rfl, own_low ho h3.size, h.row k _ (fun b hb => World.ownsRow.lt ho b hb)⟩
theorem own_ints {a : Option Addr} {n c base : Nat} {l : List Nat} (h : W.ownsRow base 3 1 (.slice a n c) n (tabV l)) : IntCells .i64 W a n (l.map fun x : Nat => (x : Int)) := by
  have hl : l.length = n := by have := h.1; simpa [tabV] using this
  refine ⟨by simp [hl], fun h0 => ?_⟩
  rcases h.2 with ⟨_, h1⟩ | ⟨q, cap, cur, e1, _, hg, hn, _, hs, hc⟩
  · omega
  · cases e1
    refine ⟨q, 0, rfl, fun j hj => ?_⟩
    have h9 : (tabV l)[j]? = some (.int .i64 ((l.getD j 0 : Nat) : Int)) := tabV_at (by omega)
    rw [← hc] at h9
    rw [List.getElem?_take_of_lt (by omega)] at h9
    have h8 : cur[0 + j]? = some (.int .i64 ((l.getD j 0 : Nat) : Int)) := by simpa using h9
    have e2 : (l.map fun x : Nat => (x : Int)).getD j 0 = ((l.getD j 0 : Nat) : Int) := by
      rw [List.getD_eq_getElem?_getD, List.getElem?_map, List.getElem?_eq_getElem (by omega), List.getD_eq_getElem?_getD, List.getElem?_eq_getElem (by omega)]; rfl
    rw [e2]
    simp [World.cell?, hg]
    simpa using h8
end
end Go.Proofs.YtjdnkhljgnjkcaaGreatDoor

/- What In and Same of the reference 01 tell. -/
namespace Go.Proofs.YtjdnkhljgnjkcaaGreatDoor
open Go.RowKit

def inL (zs : List Int) (m : Int) : Bool := zs.any (· == m)
theorem inL_true {zs : List Int} {m : Int} : inL zs m = true ↔ m ∈ zs := by
  simp [inL]

set_option maxHeartbeats 400000 in
theorem in_any (a : Option Addr) (n c : Nat) (zs : List Int) (m : Int) (w : World) (h : IntCells .i64 w a n zs) (hm : n ≤ 9223372036854775807) :
    Calls Tryz.prog 31 #[.slice a n c, .int .i64 m] w fun e w' => e = .returned (.bool (inL zs m)) ∧ w = w' := by
  go_enter Tryz.func31, Tryz.ntmps31
  go_wp2
  go_loop [5] (fun i => ∃ k : Nat, k ≤ n ∧ i = .int .i64 k ∧ ∀ j, j < k → zs.getD j 0 ≠ m) (fun i => n - (intOf i).toNat)
  case atStart => exact ⟨0, Nat.zero_le _, rfl, fun j hj => absurd hj (by omega)⟩
  case round =>
    obtain ⟨k, hk, rfl, hr⟩ := hrel
    have hl := h.len
    by_cases hlt : k < n
    · obtain ⟨b, off, rfl, hc⟩ := h.at_ (by omega)
      have hck := hc k hlt
      by_cases hx : zs.getD k 0 = m
      · rw [hx] at hck
        have HE : Hid (inL zs m = true) := inL_true.2 (by
          rw [← hx, List.getD_eq_getElem?_getD, List.getElem?_eq_getElem (by omega)]
          exact List.getElem_mem _)
        clear hc hr h hx hl
        go_wp2
        go_ret
        exact ⟨by rw [HE.out]; rfl, rfl⟩
      · have hne : (zs.getD k 0 == m) = false := by simpa using hx
        have HR : Hid (∀ j, j < k + 1 → zs.getD j 0 ≠ m) := fun j hj => by
          rcases Nat.lt_succ_iff_lt_or_eq.1 hj with h1 | h1
          · exact hr j h1
          · rw [h1]; exact hx
        generalize zs.getD k 0 = x at hck hne
        clear hc hr h hx hl
        go_wp2
        go_round
        case rel => exact ⟨k + 1, by omega, by go_num, HR.out⟩
        case measure => simp [intOf]; omega
    · have HE : Hid (inL zs m = false) := by
        unfold Hid
        rw [Bool.eq_false_iff]
        intro e
        obtain ⟨j, hj, hje⟩ := List.getElem_of_mem (inL_true.1 e)
        refine hr j (by omega) ?_
        rw [List.getD_eq_getElem?_getD, List.getElem?_eq_getElem hj]
        exact hje
      clear hr h hl
      go_wp2
      go_ret
      exact ⟨by rw [HE.out]; rfl, rfl⟩
theorem in_is {a : Option Addr} {n c : Nat} {zs : List Int} {m : Int} {w : World} {p : Bool} (h : IntCells .i64 w a n zs) (hm : n ≤ 9223372036854775807) (hp : inL zs m = p) :
    Calls Tryz.prog 31 #[.slice a n c, .int .i64 m] w fun e w' => e = .returned (.bool p) ∧ w = w' := by
  rw [← hp]; exact in_any a n c zs m w h hm
end Go.Proofs.YtjdnkhljgnjkcaaGreatDoor

/- Right of the reference 02. -/
namespace Go.Proofs.YtjdnkhljgnjkcaaGreatDoor
open Go.RowKit

set_option maxRecDepth 4000 in
set_option maxHeartbeats 4000000 in
theorem rRight_any (c : Conf) (w : World) : Calls Tryz.prog 8 #[.agg c.cells.toArray] w fun e w' => e = .returned (.bool c.ok) ∧ Keep none_ w w' := by
  obtain ⟨b, ww, m, r, cc, l, s⟩ := c
  obtain ⟨b0, h0⟩ : ∃ x, x = decide (1 ≤ b ∧ b ≤ 4096) := ⟨_, rfl⟩
  obtain ⟨b1, h1⟩ : ∃ x, x = decide (16 ≤ ww ∧ ww ≤ 256) := ⟨_, rfl⟩
  obtain ⟨b2, h2⟩ : ∃ x, x = decide (1 ≤ m ∧ m ≤ 8) := ⟨_, rfl⟩
  obtain ⟨b3, h3⟩ : ∃ x, x = decide (1 ≤ r ∧ r ≤ 64) := ⟨_, rfl⟩
  obtain ⟨b4, h4⟩ : ∃ x, x = decide (0 ≤ cc ∧ cc ≤ 64) := ⟨_, rfl⟩
  obtain ⟨b5, h5⟩ : ∃ x, x = decide (1 ≤ l ∧ l ≤ 256) := ⟨_, rfl⟩
  obtain ⟨b6, h6⟩ : ∃ x, x = decide (1 ≤ s ∧ s ≤ 4096) := ⟨_, rfl⟩
  have e : Conf.ok ⟨b, ww, m, r, cc, l, s⟩ = (b0 && b1 && b2 && b3 && b4 && b5 && b6) := by rw [h0, h1, h2, h3, h4, h5, h6]; rfl
  have HW : Hid (∀ x lo hi y W, y = decide (lo ≤ x ∧ x ≤ hi) → Calls Tryz.prog 48 #[.int .i64 x, .int .i64 lo, .int .i64 hi] W fun e w' => e = .returned (.bool y) ∧ W = w') := fun x lo hi y W hy => by
    rw [hy, Bool.decide_and]; exact (within_is x lo hi W).mono (fun _ _ h => ⟨h.1, h.2.symm⟩)
  have H := Lib.hid (And.intro h0 (And.intro h1 (And.intro h2 (And.intro h3 (And.intro h4 (And.intro h5 h6))))))
  clear h0 h1 h2 h3 h4 h5 h6
  rw [e]
  clear e
  simp only [Conf.cells]
  obtain ⟨W0, hW0⟩ : ∃ W', W' = w.alloc (.cells #[.int .i64 b, .int .i64 ww, .int .i64 m, .int .i64 r, .int .i64 cc, .int .i64 l, .int .i64 s] 23) := ⟨_, rfl⟩
  have HK : Hid (Keep none_ w W0) := by rw [hW0]; exact (Keep.refl _ _).alloc _
  have HA : Hid (Blk W0 w.heap.size [.int .i64 b, .int .i64 ww, .int .i64 m, .int .i64 r, .int .i64 cc, .int .i64 l, .int .i64 s] 23) := by rw [hW0]; exact Blk.new w _ _
  have d0 := HA.out.cell 0 rfl; have d1 := HA.out.cell 1 rfl; have d2 := HA.out.cell 2 rfl; have d3 := HA.out.cell 3 rfl; have d4 := HA.out.cell 4 rfl; have d5 := HA.out.cell 5 rfl; have d6 := HA.out.cell 6 rfl
  have HC0 : Hid (Calls Tryz.prog 48 #[.int .i64 b, .int .i64 1, .int .i64 4096] W0 fun e w' => e = .returned (.bool b0) ∧ W0 = w') := HW.out _ _ _ _ _ H.out.1
  have HC1 : Hid (Calls Tryz.prog 48 #[.int .i64 ww, .int .i64 16, .int .i64 256] W0 fun e w' => e = .returned (.bool b1) ∧ W0 = w') := HW.out _ _ _ _ _ H.out.2.1
  have HC2 : Hid (Calls Tryz.prog 48 #[.int .i64 m, .int .i64 1, .int .i64 8] W0 fun e w' => e = .returned (.bool b2) ∧ W0 = w') := HW.out _ _ _ _ _ H.out.2.2.1
  have HC3 : Hid (Calls Tryz.prog 48 #[.int .i64 r, .int .i64 1, .int .i64 64] W0 fun e w' => e = .returned (.bool b3) ∧ W0 = w') := HW.out _ _ _ _ _ H.out.2.2.2.1
  have HC4 : Hid (Calls Tryz.prog 48 #[.int .i64 cc, .int .i64 0, .int .i64 64] W0 fun e w' => e = .returned (.bool b4) ∧ W0 = w') := HW.out _ _ _ _ _ H.out.2.2.2.2.1
  have HC5 : Hid (Calls Tryz.prog 48 #[.int .i64 l, .int .i64 1, .int .i64 256] W0 fun e w' => e = .returned (.bool b5) ∧ W0 = w') := HW.out _ _ _ _ _ H.out.2.2.2.2.2.1
  have HC6 : Hid (Calls Tryz.prog 48 #[.int .i64 s, .int .i64 1, .int .i64 4096] W0 fun e w' => e = .returned (.bool b6) ∧ W0 = w') := HW.out _ _ _ _ _ H.out.2.2.2.2.2.2
  clear HW H HA
  have HW0 := Lib.hid hW0
  clear hW0
  go_enter Tryz.func8, Tryz.ntmps8
  go_wp2_with fail
  rw [← HW0.out]
  refine HC0.out.mono ?_
  rintro e w1 ⟨rfl, rfl⟩
  cases b0 with
  | false =>
    go_wp2_with fail
    go_ret
    exact ⟨rfl, HK.out⟩
  | true =>
  go_wp2_with fail
  refine HC1.out.mono ?_
  rintro e w1 ⟨rfl, rfl⟩
  cases b1 with
  | false =>
    go_wp2_with fail
    go_ret
    exact ⟨rfl, HK.out⟩
  | true =>
  go_wp2_with fail
  refine HC2.out.mono ?_
  rintro e w1 ⟨rfl, rfl⟩
  cases b2 with
  | false =>
    go_wp2_with fail
    go_ret
    exact ⟨rfl, HK.out⟩
  | true =>
  go_wp2_with fail
  refine HC3.out.mono ?_
  rintro e w1 ⟨rfl, rfl⟩
  cases b3 with
  | false =>
    go_wp2_with fail
    go_ret
    exact ⟨rfl, HK.out⟩
  | true =>
  go_wp2_with fail
  refine HC4.out.mono ?_
  rintro e w1 ⟨rfl, rfl⟩
  cases b4 with
  | false =>
    go_wp2_with fail
    go_ret
    exact ⟨rfl, HK.out⟩
  | true =>
  go_wp2_with fail
  refine HC5.out.mono ?_
  rintro e w1 ⟨rfl, rfl⟩
  cases b5 with
  | false =>
    go_wp2_with fail
    go_ret
    exact ⟨rfl, HK.out⟩
  | true =>
  go_wp2_with fail
  refine HC6.out.mono ?_
  rintro e w1 ⟨rfl, rfl⟩
  go_wp2_with fail
  go_ret
  exact ⟨by simp, HK.out⟩
end Go.Proofs.YtjdnkhljgnjkcaaGreatDoor

/- A config's third number, as a value's field. -/
namespace Go.Proofs.YtjdnkhljgnjkcaaGreatDoor
open Go.RowKit
theorem field_muts (a0 a1 a2 a3 a4 a5 a6 : Int) (w : World) : (Instr.field 23 (.agg #[.int .i64 a0, .int .i64 a1, .int .i64 a2, .int .i64 a3, .int .i64 a4, .int .i64 a5, .int .i64 a6]) 2).run Tryz.prog w = .ok (.int .i64 a2) w := by
  have hf : (match Tryz.prog.underlying 23 with | some (.struct fs) => (fs[2]?).map (fun f => (f.type, f.offset)) | _ => none) = some (3, 2) := by kernel_rfl
  obtain ⟨fs, hfs⟩ : ∃ fs, Tryz.prog.underlying 23 = some (.struct fs) := by
    revert hf
    cases h : Tryz.prog.underlying 23 with
    | none => intro hf; cases hf
    | some d =>
      cases d with
      | struct fs => intro _; exact ⟨fs, rfl⟩
      | _ => intro hf; cases hf
  rw [hfs] at hf
  simp only at hf
  obtain ⟨f, hf1, hf2⟩ := Option.map_eq_some_iff.1 hf
  simp only [Prod.mk.injEq] at hf2
  have hi : (Tryz.prog.info? 3).map (·.size) = some 1 := by kernel_rfl
  obtain ⟨i, hi1, hi2⟩ := Option.map_eq_some_iff.1 hi
  simp [Instr.field, run_underlying hfs, hf1, hf2.1, hf2.2, part, asAgg, sizeOf, typeInfo, hi1, hi2, go_sem]
end Go.Proofs.YtjdnkhljgnjkcaaGreatDoor
