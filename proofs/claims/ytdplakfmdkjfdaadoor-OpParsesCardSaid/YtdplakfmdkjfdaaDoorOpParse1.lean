/- One number of a line that is parsed. -/
import Derived.Test.YtdplakfmdkjfdaaDoorOpLine
import Derived.Lib.AtoiErrMem
import Derived.Lib.SliceRun
namespace Go.Proofs.YtdplakfmdkjfdaaDoor
open Go.RowKit Go.Sort

/-- An error's variable reads as an error, or as none. -/
def ErrAt (b : Nat) (w : World) : Prop := ∃ ev, w.cell? ⟨b, 0, none⟩ = some ev ∧ (ev = .nilIface ∨ ∃ te pe, ev = .iface te pe)
theorem ErrAt.keepS {b : Nat} {S : Nat → Prop} {w w' : World} (h : ErrAt b w) (k : Keep S w w') (hs : ¬ S b) : ErrAt b w' := by
  obtain ⟨ev, h1, h2⟩ := h
  exact ⟨ev, k.cellv h1 hs, h2⟩
/-- What Atoi tells of a text. -/
def atoiV (s : List UInt8) : Int := match Lib.atoiAll s with
  | .ok v => v
  | .range => Lib.atoiSat s
  | _ => 0
theorem atoi_any (s : ByteArray) (w : World) (hl : s.size ≤ 1000) (h2 : ErrAt 2 w) (h3 : ErrAt 3 w) : Calls Tryd.prog 57 #[.string s] w fun e w' => ∃ ev, e = .returned (.tuple #[.int .i64 (atoiV s.data.toList), ev]) ∧ Keep none_ w w' := by
  obtain ⟨ev2, c2, e2⟩ := h2
  obtain ⟨ev3, c3, e3⟩ := h3
  have key2 := fun h => Any.strconv_Atoi_syntax Tryd.laysC172 s (by omega) h ev2 w c2 e2
  have key3 := fun h => Any.strconv_Atoi_range Tryd.laysC172 s (by omega) h ev3 w c3 e3
  have key1 := fun v h => Tryd.strconv_Atoi_ok s (by omega) v h w
  unfold atoiV
  rcases hr : Lib.atoiAll s.data.toList with v | _ | _
  · refine (key1 v hr).mono ?_
    rintro e w' ⟨rfl, h⟩
    refine ⟨_, rfl, ?_⟩
    rcases h with rfl | ⟨t, rfl⟩
    · exact Keep.refl _ _
    · exact Keep.ofBelow (Lib.bytesWorld_below w 5 t) _
  · refine (key2 hr).mono ?_
    rintro e w' ⟨N, rfl, _, _, hb⟩
    exact ⟨_, rfl, Keep.ofBelow hb _⟩
  · refine (key3 hr).mono ?_
    rintro e w' ⟨N, rfl, _, _, hb⟩
    exact ⟨_, rfl, Keep.ofBelow hb _⟩

set_option maxRecDepth 4000 in
set_option maxHeartbeats 4000000 in
theorem parse1_any (l : UInt8) (x : Int) (s : ByteArray) (B i O G j n : Nat) (w : World) (hn : w.cell? ⟨B, i, none⟩ = some (.int .i64 x)) (hnf : w.frozen? ⟨B, i, none⟩ = false) (hO : Blk w O [.slice (some ⟨G, j, none⟩) (n + 2) (n + 2)] 90) (hs : w.cell? ⟨G, j + 1, none⟩ = some (.string s)) (hl : s.size ≤ 1000) (hn2 : n ≤ 1000) (hBO : B ≠ O)
    (h2 : ErrAt 2 w) (h3 : ErrAt 3 w) :
    Calls Tryd.prog 56 #[.int .u8 l.toNat, .pointer (some ⟨B, i, none⟩), .pointer (some ⟨O, 0, none⟩)] w fun e w' => e = .returned (.tuple #[]) ∧ ∃ w1, Keep none_ w w1 ∧ w' = (w1.setCell ⟨B, i, none⟩ (.int .i64 (atoiV s.data.toList))).setCell ⟨O, 0, none⟩ (.slice (some ⟨G, j + 1, none⟩) (n + 1) (n + 1)) := by
  have HA := Lib.hid (atoi_any s w hl h2 h3)
  have cO := hO.cell 0 rfl
  have HO := Lib.hid hO
  clear h2 h3 hO
  go_enter Tryd.func56, Tryd.ntmps56
  go_wp2_with fail
  refine HA.out.mono ?_
  rintro e w1 ⟨ev, rfl, hk⟩
  have HK := Lib.hid hk
  have hn1 := hk.still hn
  have hf1 : w1.frozen? ⟨B, i, none⟩ = false := by rw [hk.frozen (World.block_lt_of_cell? _ _ hn) (fun f => f)]; exact hnf
  have hO1 := (hk.blk HO.out (fun f => f))
  have cO1 := hO1.cell 0 rfl
  have fO1 := hO1.free 0
  have hO2 : ∀ v, (w1.setCell ⟨B, i, none⟩ v).cell? ⟨O, 0, none⟩ = some (.slice (some ⟨G, j, none⟩) (n + 2) (n + 2)) := fun v => (hO1.other (a := ⟨B, i, none⟩) (fun e => hBO e.symm) v).cell 0 rfl
  have fO2 : ∀ v, (w1.setCell ⟨B, i, none⟩ v).frozen? ⟨O, 0, none⟩ = false := fun v => (hO1.other (a := ⟨B, i, none⟩) (fun e => hBO e.symm) v).free 0
  clear hk hO1 hn hnf hs cO
  go_wp2_with fail
  go_end0
  exact ⟨rfl, w1, HK.out, rfl⟩
end Go.Proofs.YtdplakfmdkjfdaaDoor
