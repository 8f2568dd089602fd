/- The walk of StatsAdds. -/
import Derived.Test.YtcopkhhgcgfelaaDoorLawStats2
import Derived.Test.YtcopkhhgcgfelaaDoorGrowA
namespace Go.Proofs.YtcopkhhgcgfelaaDoor
open Go.RowKit

theorem Tryd.infoEvent : (Tryd.prog.info? 44).map (fun i => (i.zero, i.size, i.bytes)) = some (some (.agg #[.int .i64 0, .int .i64 0, .int .i64 0, .int .i64 0, .int .i64 0, .int .i64 0]), 6, 48) := by kernel_rfl
theorem ev_rows (l : List Ev) : ∀ r ∈ l.map Ev.cells, r.length = 6 ∧ ∀ u ∈ r, u.oneCell' = true := by
  intro r hr
  simp at hr
  obtain ⟨e, _, rfl⟩ := hr
  refine ⟨rfl, fun u hu => ?_⟩
  simp [Ev.cells] at hu
  rcases hu with rfl | rfl | rfl | rfl | rfl | rfl <;> rfl
theorem rec_app {w : World} {base n : Nat} {v : Value} {la lb : List Ev} (h : w.ownsRow base 44 6 v n ((la.map Ev.cells).flatten ++ (lb.map Ev.cells).flatten)) (hn : (la ++ lb).length = n) : ∃ a c, v = .slice a n c ∧ RecAt w a n 6 ((la ++ lb).map Ev.cells) := by
  rw [← List.flatten_append, ← List.map_append] at h
  obtain ⟨a, c, e, h1, _⟩ := RecAt.ofOwn h (fun r hr => (ev_rows _ r hr).1) (by simpa using hn)
  exact ⟨a, c, e, h1⟩

set_option maxRecDepth 100000 in
set_option maxHeartbeats 16000000 in
theorem statsAdds_any (pa : Option Addr) (pn pc : Nat) (pp : List (List Int)) (a0 : Option Addr) (n0 c0 : Nat) (z0 : List (List Value)) (a1 : Option Addr) (n1 c1 : Nat) (z1 : List (List Value)) (w : World) (hp : Progs w pa pn pp) (hpm : pn ≤ maxLen)
    (hw0 : Flats [.int .i64, .int .i64, .int .i64, .int .i64, .int .i64, .int .i64] w a0 n0 z0) (hm0 : n0 ≤ maxLen) (hnil0 : a0 = none → n0 = 0 ∧ c0 = 0)
    (hw1 : Flats [.int .i64, .int .i64, .int .i64, .int .i64, .int .i64, .int .i64] w a1 n1 z1) (hm1 : n1 ≤ maxLen) (hnil1 : a1 = none → n1 = 0 ∧ c1 = 0) (hL : laidMetH Tryd.prog Rows.statsAddsRow.laid w) :
    Calls Tryd.prog 6 #[.slice pa pn pc, .slice a0 n0 c0, .slice a1 n1 c1] w fun e w' => e = .returned (.bool true) ∧ Keep none_ w w' := by
  unfold maxLen at hm0 hm1 hpm
  have HT := Lib.hid (tab_of hL)
  clear hL
  by_cases hbigpn : 10 < pn
  · clear hw0 hw1 hp
    go_enter Tryd.func6, Tryd.ntmps6
    go_wp2_with (go_at_call 7; refine (awake26_any _ HT.out).mono ?_; rintro e w1 ⟨rfl, hk⟩)
    go_ret
    exact ⟨rfl, hk⟩
  by_cases hbign0 : 100 < n0
  · clear hw0 hw1 hp
    go_enter Tryd.func6, Tryd.ntmps6
    go_wp2_with (go_at_call 7; refine (awake26_any _ HT.out).mono ?_; rintro e w1 ⟨rfl, hk⟩)
    go_ret
    exact ⟨rfl, hk⟩
  by_cases hbign1 : 100 < n1
  · clear hw0 hw1 hp
    go_enter Tryd.func6, Tryd.ntmps6
    go_wp2_with (go_at_call 7; refine (awake26_any _ HT.out).mono ?_; rintro e w1 ⟨rfl, hk⟩)
    go_ret
    exact ⟨rfl, hk⟩
  obtain ⟨la, rfl, hwfa⟩ := list_of (f := Ev.cells) (P := Ev.wf) (fun r h => ev_of h) z0 hw0.ok
  obtain ⟨lb, rfl, hwfb⟩ := list_of (f := Ev.cells) (P := Ev.wf) (fun r h => ev_of h) z1 hw1.ok
  have HRA := Lib.hid (RecAt.ofFlats hw0)
  have HRB := Lib.hid (RecAt.ofFlats hw1)
  have HLA : Hid (la.length = n0) := by have := hw0.len; simpa [Hid] using this
  have HLB : Hid (lb.length = n1) := by have := hw1.len; simpa [Hid] using this
  have HLL : Hid ((la ++ lb).length = n0 + n1) := by have := HLA.out; have := HLB.out; unfold Hid; simp; omega
  have HP := Lib.hid hp
  have HN0 := Lib.hid hnil0; have HN1 := Lib.hid hnil1
  have HTA := Lib.hid (fun W (h : Keep none_ w W) => sTotal_any pa pn pc pp a0 n0 c0 la W (HP.out.below h) (HRA.out.below h) (by omega) (by omega) hwfa)
  have HTB := Lib.hid (fun W (h : Keep none_ w W) => sTotal_any pa pn pc pp a1 n1 c1 lb W (HP.out.below h) (HRB.out.below h) (by omega) (by omega) hwfb)
  have HTC := Lib.hid (fun W a c (h : Keep none_ w W) (hr : RecAt W a (n0 + n1) 6 ((la ++ lb).map Ev.cells)) => by
    have := sTotal_any pa pn pc pp a (n0 + n1) c (la ++ lb) W (HP.out.below h) hr (by omega) (by omega) (fun e he => by rcases List.mem_append.1 he with he | he; exact hwfa e he; exact hwfb e he)
    rw [tot_append] at this
    simp only [Sm.add] at this
    exact this)
  have HCA := Lib.hid (fun W (h : Keep none_ w W) => sCodes_any a0 n0 c0 la W (HRA.out.below h) (by omega))
  have HCB := Lib.hid (fun W (h : Keep none_ w W) => sCodes_any a1 n1 c1 lb W (HRB.out.below h) (by omega))
  have HCC := Lib.hid (fun W a c (hr : RecAt W a (n0 + n1) 6 ((la ++ lb).map Ev.cells)) => by
    have := sCodes_any a (n0 + n1) c (la ++ lb) W hr (by omega)
    simp only [cnt_append, Int.natCast_add] at this
    exact this)
  have hua := tot_upto pp la la.length (Nat.le_refl _)
  have hub := tot_upto pp lb lb.length (Nat.le_refl _)
  rw [List.take_length] at hua hub
  have HUA : Hid ((tot pp la).upto 1000) := by
    obtain ⟨h1, h2, h3, h4, h5, h6, h7, h8, h9, h10, h11, h12⟩ := hua
    have := HLA.out; unfold Hid Sm.upto; omega
  have HUB : Hid ((tot pp lb).upto 1000) := by
    obtain ⟨h1, h2, h3, h4, h5, h6, h7, h8, h9, h10, h11, h12⟩ := hub
    have := HLB.out; unfold Hid Sm.upto; omega
  have HCLA : Hid (∀ j, cnt la j ≤ 1000) := fun j => by have := cnt_le la j; have := HLA.out; omega
  have HCLB : Hid (∀ j, cnt lb j ≤ 1000) := fun j => by have := cnt_le lb j; have := HLB.out; omega
  have HA := Lib.hid (fun W (h : Keep none_ w W) => awake26_any W (HT.out.keep h))
  clear hw0 hw1 hwfa hwfb hp hnil0 hnil1 hua hub
  generalize tot pp la = ta at *
  generalize tot pp lb = tb at *
  obtain ⟨u1, u2, u3, u4, u5, u6, u7, u8, u9, u10, u11, u12⟩ := HUA.out
  obtain ⟨v1, v2, v3, v4, v5, v6, v7, v8, v9, v10, v11, v12⟩ := HUB.out
  go_enter Tryd.func6, Tryd.ntmps6
  go_wp2_with fail
  refine (HTA.out _ (Keep.refl _ _)).mono ?_
  rintro e w1 ⟨rfl, hk1⟩
  go_wp2_with fail
  refine (HTB.out _ hk1).mono ?_
  rintro e w2 ⟨rfl, hk2⟩
  have hkw2 := hk1.trans hk2
  obtain ⟨W3, hW3⟩ : ∃ W', W' = (w2.alloc (.cells #[.int .i64 (ta).ops, .int .i64 (ta).errs, .int .i64 (ta).allocs, .int .i64 (ta).freed, .int .i64 (ta).cycles, .int .i64 (ta).full] 40)).alloc (.cells #[.int .i64 (tb).ops, .int .i64 (tb).errs, .int .i64 (tb).allocs, .int .i64 (tb).freed, .int .i64 (tb).cycles, .int .i64 (tb).full] 40) := ⟨_, rfl⟩
  have HX3 : Hid (Blk W3 w2.heap.size [.int .i64 (ta).ops, .int .i64 (ta).errs, .int .i64 (ta).allocs, .int .i64 (ta).freed, .int .i64 (ta).cycles, .int .i64 (ta).full] 40) := by rw [hW3]; exact (Blk.new w2 _ _).alloc _
  have HY3 : Hid (Blk W3 (w2.heap.size + 1) [.int .i64 (tb).ops, .int .i64 (tb).errs, .int .i64 (tb).allocs, .int .i64 (tb).freed, .int .i64 (tb).cycles, .int .i64 (tb).full] 40) := by
    rw [hW3]; have := Blk.new (w2.alloc (.cells #[.int .i64 (ta).ops, .int .i64 (ta).errs, .int .i64 (ta).allocs, .int .i64 (ta).freed, .int .i64 (ta).cycles, .int .i64 (ta).full] 40)) [.int .i64 (tb).ops, .int .i64 (tb).errs, .int .i64 (tb).allocs, .int .i64 (tb).freed, .int .i64 (tb).cycles, .int .i64 (tb).full] 40; unfold Hid; simpa using this
  have HK3 : Hid (Keep none_ w W3) := by rw [hW3]; exact (hkw2.alloc _).alloc _
  have HW3 := Lib.hid hW3
  clear hW3 hk1 hk2 hkw2
  have HKW3 := HK3
  clear HK3
  have HB0 : Hid (0 + n0 ≤ 100000000000) := by unfold Hid; omega
  have HB1 : Hid (n0 + n1 ≤ 100000000000) := by unfold Hid; omega
  go_upto_region 4 with fail
  rw [← HW3.out]
  clear HW3
  generalize w2.heap.size = B7 at *
  have HO3 : Hid ((W3.alloc (.cells #[] 44)).ownsRow W3.heap.size 44 6 (.slice (some ⟨W3.heap.size, 0, none⟩) 0 0) 0 []) := World.ownsRow_lit W3 #[] 0 (Nat.le_refl _) (by unfold maxLen; omega) rfl
  have HK3 : Hid (Keep none_ W3 (W3.alloc (.cells #[] 44))) := (Keep.refl _ _).alloc _
  have HKR3 : Hid (RecAt (W3.alloc (.cells #[] 44)) a0 n0 6 (la.map Ev.cells)) := HRA.out.below (HKW3.out.trans HK3.out)
  go_wp2_with (first
    | (at_builtin; refine appendA rfl (.tmp 35) (.tmp 36) 29 rfl Tryd.underlying29 Tryd.infoEvent rfl (by decide) rfl HO3.out (rs := la.map Ev.cells) rfl HN0.out HKR3.out (ev_rows la) (by decide) HB0.out HK3.out.size ?_; intro va3 wa3 howna hgrowa; have HOA3 : Hid (wa3.ownsRow W3.heap.size 44 6 va3 n0 (la.map Ev.cells).flatten) := (by unfold Hid; simpa using howna); have HKA3 := Lib.hid (HK3.out.grew HO3.out (Nat.le_refl _) hgrowa); have HKB3 := Lib.hid (HRB.out.below (HKW3.out.trans HKA3.out)); clear howna hgrowa)
    | (at_builtin; refine appendA rfl (.tmp 37) (.tmp 38) 29 rfl Tryd.underlying29 Tryd.infoEvent rfl (by decide) rfl HOA3.out (rs := lb.map Ev.cells) rfl HN1.out HKB3.out (ev_rows lb) (by decide) HB1.out HKA3.out.size ?_; intro vb3 wb3 hownb hgrowb; have HKC3 := Lib.hid (HKA3.out.grew HOA3.out (Nat.le_refl _) hgrowb); obtain ⟨as3, cs3, hv, hr⟩ := rec_app hownb HLL.out; have HRS3 := Lib.hid hr; clear hownb hgrowb hr; rw [hv]; clear hv))
  refine (HTC.out _ as3 cs3 (HKW3.out.trans HKC3.out) HRS3.out).mono ?_
  rintro e w6 ⟨rfl, hk7⟩
  obtain ⟨W7, hW7⟩ : ∃ W', W' = w6.alloc (.cells #[.int .i64 (ta.ops + tb.ops), .int .i64 (ta.errs + tb.errs), .int .i64 (ta.allocs + tb.allocs), .int .i64 (ta.freed + tb.freed), .int .i64 (ta.cycles + tb.cycles), .int .i64 (ta.full + tb.full)] 40) := ⟨_, rfl⟩
  have HKW7 : Hid (Keep none_ W3 W7) := by rw [hW7]; exact (HKC3.out.trans hk7).alloc _
  have HZ7 : Hid (Blk W7 w6.heap.size [.int .i64 (ta.ops + tb.ops), .int .i64 (ta.errs + tb.errs), .int .i64 (ta.allocs + tb.allocs), .int .i64 (ta.freed + tb.freed), .int .i64 (ta.cycles + tb.cycles), .int .i64 (ta.full + tb.full)] 40) := by rw [hW7]; exact Blk.new _ _ _
  have HX7 := Lib.hid (HKW7.out.blk HX3.out (fun f => f))
  have HY7 := Lib.hid (HKW7.out.blk HY3.out (fun f => f))
  have HK7 := Lib.hid (HKW3.out.trans HKW7.out)
  have HW7 := Lib.hid hW7
  clear hW7 hk7
  go_wp2_with fail
  rw [← HW7.out]
  clear HW7 HX3 HY3
  generalize w6.heap.size = B9 at *
  refine (HCA.out _ HK7.out).mono ?_
  rintro e w8 ⟨rfl, hk8⟩
  have HK8 := Lib.hid (HK7.out.trans hk8)
  go_wp2_with fail
  refine (HCB.out _ HK8.out).mono ?_
  rintro e w9 ⟨rfl, hk9⟩
  have HK9 := Lib.hid (hk8.trans hk9)
  clear hk8 hk9
  obtain ⟨W10, hW10⟩ : ∃ W', W' = (w9.alloc (.cells #[.int .i64 ((cnt la 0 : Nat) : Int), .int .i64 ((cnt la 1 : Nat) : Int), .int .i64 ((cnt la 2 : Nat) : Int), .int .i64 ((cnt la 3 : Nat) : Int), .int .i64 ((cnt la 4 : Nat) : Int), .int .i64 ((cnt la 5 : Nat) : Int), .int .i64 ((cnt la 6 : Nat) : Int), .int .i64 ((cnt la 7 : Nat) : Int), .int .i64 ((cnt la 8 : Nat) : Int), .int .i64 ((cnt la 9 : Nat) : Int), .int .i64 ((cnt la 10 : Nat) : Int), .int .i64 ((cnt la 11 : Nat) : Int), .int .i64 ((cnt la 12 : Nat) : Int), .int .i64 ((cnt la 13 : Nat) : Int), .int .i64 ((cnt la 14 : Nat) : Int)] 41)).alloc (.cells #[.int .i64 ((cnt lb 0 : Nat) : Int), .int .i64 ((cnt lb 1 : Nat) : Int), .int .i64 ((cnt lb 2 : Nat) : Int), .int .i64 ((cnt lb 3 : Nat) : Int), .int .i64 ((cnt lb 4 : Nat) : Int), .int .i64 ((cnt lb 5 : Nat) : Int), .int .i64 ((cnt lb 6 : Nat) : Int), .int .i64 ((cnt lb 7 : Nat) : Int), .int .i64 ((cnt lb 8 : Nat) : Int), .int .i64 ((cnt lb 9 : Nat) : Int), .int .i64 ((cnt lb 10 : Nat) : Int), .int .i64 ((cnt lb 11 : Nat) : Int), .int .i64 ((cnt lb 12 : Nat) : Int), .int .i64 ((cnt lb 13 : Nat) : Int), .int .i64 ((cnt lb 14 : Nat) : Int)] 41) := ⟨_, rfl⟩
  have HP10 : Hid (Blk W10 w9.heap.size [.int .i64 ((cnt la 0 : Nat) : Int), .int .i64 ((cnt la 1 : Nat) : Int), .int .i64 ((cnt la 2 : Nat) : Int), .int .i64 ((cnt la 3 : Nat) : Int), .int .i64 ((cnt la 4 : Nat) : Int), .int .i64 ((cnt la 5 : Nat) : Int), .int .i64 ((cnt la 6 : Nat) : Int), .int .i64 ((cnt la 7 : Nat) : Int), .int .i64 ((cnt la 8 : Nat) : Int), .int .i64 ((cnt la 9 : Nat) : Int), .int .i64 ((cnt la 10 : Nat) : Int), .int .i64 ((cnt la 11 : Nat) : Int), .int .i64 ((cnt la 12 : Nat) : Int), .int .i64 ((cnt la 13 : Nat) : Int), .int .i64 ((cnt la 14 : Nat) : Int)] 41) := by rw [hW10]; exact (Blk.new w9 _ _).alloc _
  have HQ10 : Hid (Blk W10 (w9.heap.size + 1) [.int .i64 ((cnt lb 0 : Nat) : Int), .int .i64 ((cnt lb 1 : Nat) : Int), .int .i64 ((cnt lb 2 : Nat) : Int), .int .i64 ((cnt lb 3 : Nat) : Int), .int .i64 ((cnt lb 4 : Nat) : Int), .int .i64 ((cnt lb 5 : Nat) : Int), .int .i64 ((cnt lb 6 : Nat) : Int), .int .i64 ((cnt lb 7 : Nat) : Int), .int .i64 ((cnt lb 8 : Nat) : Int), .int .i64 ((cnt lb 9 : Nat) : Int), .int .i64 ((cnt lb 10 : Nat) : Int), .int .i64 ((cnt lb 11 : Nat) : Int), .int .i64 ((cnt lb 12 : Nat) : Int), .int .i64 ((cnt lb 13 : Nat) : Int), .int .i64 ((cnt lb 14 : Nat) : Int)] 41) := by
    rw [hW10]; have := Blk.new (w9.alloc (.cells #[.int .i64 ((cnt la 0 : Nat) : Int), .int .i64 ((cnt la 1 : Nat) : Int), .int .i64 ((cnt la 2 : Nat) : Int), .int .i64 ((cnt la 3 : Nat) : Int), .int .i64 ((cnt la 4 : Nat) : Int), .int .i64 ((cnt la 5 : Nat) : Int), .int .i64 ((cnt la 6 : Nat) : Int), .int .i64 ((cnt la 7 : Nat) : Int), .int .i64 ((cnt la 8 : Nat) : Int), .int .i64 ((cnt la 9 : Nat) : Int), .int .i64 ((cnt la 10 : Nat) : Int), .int .i64 ((cnt la 11 : Nat) : Int), .int .i64 ((cnt la 12 : Nat) : Int), .int .i64 ((cnt la 13 : Nat) : Int), .int .i64 ((cnt la 14 : Nat) : Int)] 41)) [.int .i64 ((cnt lb 0 : Nat) : Int), .int .i64 ((cnt lb 1 : Nat) : Int), .int .i64 ((cnt lb 2 : Nat) : Int), .int .i64 ((cnt lb 3 : Nat) : Int), .int .i64 ((cnt lb 4 : Nat) : Int), .int .i64 ((cnt lb 5 : Nat) : Int), .int .i64 ((cnt lb 6 : Nat) : Int), .int .i64 ((cnt lb 7 : Nat) : Int), .int .i64 ((cnt lb 8 : Nat) : Int), .int .i64 ((cnt lb 9 : Nat) : Int), .int .i64 ((cnt lb 10 : Nat) : Int), .int .i64 ((cnt lb 11 : Nat) : Int), .int .i64 ((cnt lb 12 : Nat) : Int), .int .i64 ((cnt lb 13 : Nat) : Int), .int .i64 ((cnt lb 14 : Nat) : Int)] 41; unfold Hid; simpa using this
  have HKX : Hid (Keep none_ W7 W10) := by rw [hW10]; exact (HK9.out.alloc _).alloc _
  have HKW10 := Lib.hid (HK7.out.trans HKX.out)
  have HX10 := Lib.hid (HKX.out.blk HX7.out (fun f => f))
  have HY10 := Lib.hid (HKX.out.blk HY7.out (fun f => f))
  have HZ10 := Lib.hid (HKX.out.blk HZ7.out (fun f => f))
  have HW10 := Lib.hid hW10
  clear hW10
  go_upto_region 6 with fail
  rw [← HW10.out]
  clear HW10 HX7 HY7 HZ7
  generalize w9.heap.size = BP at *
  have HO10 : Hid ((W10.alloc (.cells #[] 44)).ownsRow W10.heap.size 44 6 (.slice (some ⟨W10.heap.size, 0, none⟩) 0 0) 0 []) := World.ownsRow_lit W10 #[] 0 (Nat.le_refl _) (by unfold maxLen; omega) rfl
  have HK10 : Hid (Keep none_ W10 (W10.alloc (.cells #[] 44))) := (Keep.refl _ _).alloc _
  have HKR10 : Hid (RecAt (W10.alloc (.cells #[] 44)) a0 n0 6 (la.map Ev.cells)) := HRA.out.below (HKW10.out.trans HK10.out)
  go_wp2_with (first
    | (at_builtin; refine appendA rfl (.tmp 45) (.tmp 46) 29 rfl Tryd.underlying29 Tryd.infoEvent rfl (by decide) rfl HO10.out (rs := la.map Ev.cells) rfl HN0.out HKR10.out (ev_rows la) (by decide) HB0.out HK10.out.size ?_; intro va10 wa10 howna hgrowa; have HOA10 : Hid (wa10.ownsRow W10.heap.size 44 6 va10 n0 (la.map Ev.cells).flatten) := (by unfold Hid; simpa using howna); have HKA10 := Lib.hid (HK10.out.grew HO10.out (Nat.le_refl _) hgrowa); have HKB10 := Lib.hid (HRB.out.below (HKW10.out.trans HKA10.out)); clear howna hgrowa)
    | (at_builtin; refine appendA rfl (.tmp 47) (.tmp 48) 29 rfl Tryd.underlying29 Tryd.infoEvent rfl (by decide) rfl HOA10.out (rs := lb.map Ev.cells) rfl HN1.out HKB10.out (ev_rows lb) (by decide) HB1.out HKA10.out.size ?_; intro vb10 wb10 hownb hgrowb; have HKC10 := Lib.hid (HKA10.out.grew HOA10.out (Nat.le_refl _) hgrowb); obtain ⟨as10, cs10, hv, hr⟩ := rec_app hownb HLL.out; have HRS10 := Lib.hid hr; clear hownb hgrowb hr; rw [hv]; clear hv))
  refine (HCC.out _ as10 cs10 HRS10.out).mono ?_
  rintro e w13 ⟨rfl, hk13⟩
  obtain ⟨W14, hW14⟩ : ∃ W', W' = w13.alloc (.cells #[.int .i64 (((cnt la 0 : Nat) : Int) + ((cnt lb 0 : Nat) : Int)), .int .i64 (((cnt la 1 : Nat) : Int) + ((cnt lb 1 : Nat) : Int)), .int .i64 (((cnt la 2 : Nat) : Int) + ((cnt lb 2 : Nat) : Int)), .int .i64 (((cnt la 3 : Nat) : Int) + ((cnt lb 3 : Nat) : Int)), .int .i64 (((cnt la 4 : Nat) : Int) + ((cnt lb 4 : Nat) : Int)), .int .i64 (((cnt la 5 : Nat) : Int) + ((cnt lb 5 : Nat) : Int)), .int .i64 (((cnt la 6 : Nat) : Int) + ((cnt lb 6 : Nat) : Int)), .int .i64 (((cnt la 7 : Nat) : Int) + ((cnt lb 7 : Nat) : Int)), .int .i64 (((cnt la 8 : Nat) : Int) + ((cnt lb 8 : Nat) : Int)), .int .i64 (((cnt la 9 : Nat) : Int) + ((cnt lb 9 : Nat) : Int)), .int .i64 (((cnt la 10 : Nat) : Int) + ((cnt lb 10 : Nat) : Int)), .int .i64 (((cnt la 11 : Nat) : Int) + ((cnt lb 11 : Nat) : Int)), .int .i64 (((cnt la 12 : Nat) : Int) + ((cnt lb 12 : Nat) : Int)), .int .i64 (((cnt la 13 : Nat) : Int) + ((cnt lb 13 : Nat) : Int)), .int .i64 (((cnt la 14 : Nat) : Int) + ((cnt lb 14 : Nat) : Int))] 41) := ⟨_, rfl⟩
  have HK14 : Hid (Keep none_ W10 W14) := by rw [hW14]; exact (HKC10.out.trans hk13).alloc _
  have HR14 : Hid (Blk W14 w13.heap.size [.int .i64 (((cnt la 0 : Nat) : Int) + ((cnt lb 0 : Nat) : Int)), .int .i64 (((cnt la 1 : Nat) : Int) + ((cnt lb 1 : Nat) : Int)), .int .i64 (((cnt la 2 : Nat) : Int) + ((cnt lb 2 : Nat) : Int)), .int .i64 (((cnt la 3 : Nat) : Int) + ((cnt lb 3 : Nat) : Int)), .int .i64 (((cnt la 4 : Nat) : Int) + ((cnt lb 4 : Nat) : Int)), .int .i64 (((cnt la 5 : Nat) : Int) + ((cnt lb 5 : Nat) : Int)), .int .i64 (((cnt la 6 : Nat) : Int) + ((cnt lb 6 : Nat) : Int)), .int .i64 (((cnt la 7 : Nat) : Int) + ((cnt lb 7 : Nat) : Int)), .int .i64 (((cnt la 8 : Nat) : Int) + ((cnt lb 8 : Nat) : Int)), .int .i64 (((cnt la 9 : Nat) : Int) + ((cnt lb 9 : Nat) : Int)), .int .i64 (((cnt la 10 : Nat) : Int) + ((cnt lb 10 : Nat) : Int)), .int .i64 (((cnt la 11 : Nat) : Int) + ((cnt lb 11 : Nat) : Int)), .int .i64 (((cnt la 12 : Nat) : Int) + ((cnt lb 12 : Nat) : Int)), .int .i64 (((cnt la 13 : Nat) : Int) + ((cnt lb 13 : Nat) : Int)), .int .i64 (((cnt la 14 : Nat) : Int) + ((cnt lb 14 : Nat) : Int))] 41) := by rw [hW14]; exact Blk.new _ _ _
  have HX14 := Lib.hid (HK14.out.blk HX10.out (fun f => f))
  have HY14 := Lib.hid (HK14.out.blk HY10.out (fun f => f))
  have HZ14 := Lib.hid (HK14.out.blk HZ10.out (fun f => f))
  have HP14 := Lib.hid (HK14.out.blk HP10.out (fun f => f))
  have HQ14 := Lib.hid (HK14.out.blk HQ10.out (fun f => f))
  have HKW14 := Lib.hid (HKW10.out.trans HK14.out)
  have HW14 := Lib.hid hW14
  clear hW14 hk13
  go_wp2_with fail
  rw [← HW14.out]
  clear HW14 HX10 HY10 HZ10 HP10 HQ10
  generalize w13.heap.size = BR at *
  have HGA : Hid (∀ k, k < 15 → ([.int .i64 ((cnt la 0 : Nat) : Int), .int .i64 ((cnt la 1 : Nat) : Int), .int .i64 ((cnt la 2 : Nat) : Int), .int .i64 ((cnt la 3 : Nat) : Int), .int .i64 ((cnt la 4 : Nat) : Int), .int .i64 ((cnt la 5 : Nat) : Int), .int .i64 ((cnt la 6 : Nat) : Int), .int .i64 ((cnt la 7 : Nat) : Int), .int .i64 ((cnt la 8 : Nat) : Int), .int .i64 ((cnt la 9 : Nat) : Int), .int .i64 ((cnt la 10 : Nat) : Int), .int .i64 ((cnt la 11 : Nat) : Int), .int .i64 ((cnt la 12 : Nat) : Int), .int .i64 ((cnt la 13 : Nat) : Int), .int .i64 ((cnt la 14 : Nat) : Int)] : List Value)[k]? = some (.int .i64 ((cnt la k : Nat) : Int))) := fun k hk => cods_get la k hk
  have HGB : Hid (∀ k, k < 15 → ([.int .i64 ((cnt lb 0 : Nat) : Int), .int .i64 ((cnt lb 1 : Nat) : Int), .int .i64 ((cnt lb 2 : Nat) : Int), .int .i64 ((cnt lb 3 : Nat) : Int), .int .i64 ((cnt lb 4 : Nat) : Int), .int .i64 ((cnt lb 5 : Nat) : Int), .int .i64 ((cnt lb 6 : Nat) : Int), .int .i64 ((cnt lb 7 : Nat) : Int), .int .i64 ((cnt lb 8 : Nat) : Int), .int .i64 ((cnt lb 9 : Nat) : Int), .int .i64 ((cnt lb 10 : Nat) : Int), .int .i64 ((cnt lb 11 : Nat) : Int), .int .i64 ((cnt lb 12 : Nat) : Int), .int .i64 ((cnt lb 13 : Nat) : Int), .int .i64 ((cnt lb 14 : Nat) : Int)] : List Value)[k]? = some (.int .i64 ((cnt lb k : Nat) : Int))) := fun k hk => cods_get lb k hk
  have HGC : Hid (∀ k, k < 15 → ([.int .i64 (((cnt la 0 : Nat) : Int) + ((cnt lb 0 : Nat) : Int)), .int .i64 (((cnt la 1 : Nat) : Int) + ((cnt lb 1 : Nat) : Int)), .int .i64 (((cnt la 2 : Nat) : Int) + ((cnt lb 2 : Nat) : Int)), .int .i64 (((cnt la 3 : Nat) : Int) + ((cnt lb 3 : Nat) : Int)), .int .i64 (((cnt la 4 : Nat) : Int) + ((cnt lb 4 : Nat) : Int)), .int .i64 (((cnt la 5 : Nat) : Int) + ((cnt lb 5 : Nat) : Int)), .int .i64 (((cnt la 6 : Nat) : Int) + ((cnt lb 6 : Nat) : Int)), .int .i64 (((cnt la 7 : Nat) : Int) + ((cnt lb 7 : Nat) : Int)), .int .i64 (((cnt la 8 : Nat) : Int) + ((cnt lb 8 : Nat) : Int)), .int .i64 (((cnt la 9 : Nat) : Int) + ((cnt lb 9 : Nat) : Int)), .int .i64 (((cnt la 10 : Nat) : Int) + ((cnt lb 10 : Nat) : Int)), .int .i64 (((cnt la 11 : Nat) : Int) + ((cnt lb 11 : Nat) : Int)), .int .i64 (((cnt la 12 : Nat) : Int) + ((cnt lb 12 : Nat) : Int)), .int .i64 (((cnt la 13 : Nat) : Int) + ((cnt lb 13 : Nat) : Int)), .int .i64 (((cnt la 14 : Nat) : Int) + ((cnt lb 14 : Nat) : Int))] : List Value)[k]? = some (.int .i64 (((cnt la k : Nat) : Int) + ((cnt lb k : Nat) : Int)))) := fun k hk => by
    have e : ([.int .i64 (((cnt la 0 : Nat) : Int) + ((cnt lb 0 : Nat) : Int)), .int .i64 (((cnt la 1 : Nat) : Int) + ((cnt lb 1 : Nat) : Int)), .int .i64 (((cnt la 2 : Nat) : Int) + ((cnt lb 2 : Nat) : Int)), .int .i64 (((cnt la 3 : Nat) : Int) + ((cnt lb 3 : Nat) : Int)), .int .i64 (((cnt la 4 : Nat) : Int) + ((cnt lb 4 : Nat) : Int)), .int .i64 (((cnt la 5 : Nat) : Int) + ((cnt lb 5 : Nat) : Int)), .int .i64 (((cnt la 6 : Nat) : Int) + ((cnt lb 6 : Nat) : Int)), .int .i64 (((cnt la 7 : Nat) : Int) + ((cnt lb 7 : Nat) : Int)), .int .i64 (((cnt la 8 : Nat) : Int) + ((cnt lb 8 : Nat) : Int)), .int .i64 (((cnt la 9 : Nat) : Int) + ((cnt lb 9 : Nat) : Int)), .int .i64 (((cnt la 10 : Nat) : Int) + ((cnt lb 10 : Nat) : Int)), .int .i64 (((cnt la 11 : Nat) : Int) + ((cnt lb 11 : Nat) : Int)), .int .i64 (((cnt la 12 : Nat) : Int) + ((cnt lb 12 : Nat) : Int)), .int .i64 (((cnt la 13 : Nat) : Int) + ((cnt lb 13 : Nat) : Int)), .int .i64 (((cnt la 14 : Nat) : Int) + ((cnt lb 14 : Nat) : Int))] : List Value) = (List.range 15).map (fun j => Value.int .i64 (((cnt la j : Nat) : Int) + ((cnt lb j : Nat) : Int))) := rfl
    rw [e]; simp [hk]
  go_loopg [13] 15 (fun g i wr => ∃ k : Nat, g + k = 15 ∧ i = .int .i64 k ∧ Hid (Keep none_ W14 wr))
  case atStart => exact ⟨0, rfl, rfl, Keep.refl _ _⟩
  case round =>
    obtain ⟨k, hg, rfl, HK⟩ := hrel
    by_cases hlt : k < 15
    · have dp := (HK.out.blk HP14.out (fun f => f)).cell k (HGA.out k hlt)
      have dq := (HK.out.blk HQ14.out (fun f => f)).cell k (HGB.out k hlt)
      have dr := (HK.out.blk HR14.out (fun f => f)).cell k (HGC.out k hlt)
      have ba := HCLA.out k
      have bb := HCLB.out k
      generalize cnt la k = xa at *
      generalize cnt lb k = xb at *
      have hk15 : (k : Int) < 15 := by omega
      go_wp2_with fail
      go_quiet (fail)
      go_wp2_with fail
      go_roundg (gk - 1)
      case measure => omega
      case rel => exact ⟨k + 1, by omega, by go_num, HK.out.drewN _⟩
    · obtain rfl : k = 15 := by omega
      have hX := HK.out.blk HX14.out (fun f => f)
      have hY := HK.out.blk HY14.out (fun f => f)
      have hZ := HK.out.blk HZ14.out (fun f => f)
      have x0 := hX.cell 0 rfl; have y0 := hY.cell 0 rfl; have t0 := hZ.cell 0 rfl; have x1 := hX.cell 1 rfl; have y1 := hY.cell 1 rfl; have t1 := hZ.cell 1 rfl; have x2 := hX.cell 2 rfl; have y2 := hY.cell 2 rfl; have t2 := hZ.cell 2 rfl; have x3 := hX.cell 3 rfl; have y3 := hY.cell 3 rfl; have t3 := hZ.cell 3 rfl; have x4 := hX.cell 4 rfl; have y4 := hY.cell 4 rfl; have t4 := hZ.cell 4 rfl; have x5 := hX.cell 5 rfl; have y5 := hY.cell 5 rfl; have t5 := hZ.cell 5 rfl
      have HKL := Lib.hid (HKW14.out.trans HK.out)
      clear hX hY hZ
      go_wp2_with (go_at_call 7; refine (HA.out _ HKL.out).mono ?_; rintro e w1 ⟨rfl, hk⟩)
      go_ret
      exact ⟨rfl, HKL.out.trans hk⟩
end Go.Proofs.YtcopkhhgcgfelaaDoor
