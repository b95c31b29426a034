/- Laid together: The walk of the reference's put: a character set into a screen. The walks of the reference's screen, and of Screen. Plain: the frames of changes by sorting and compacting; shows step by step. No program in sight. -/
import Derived.Test.YtajbhfmdmajpmaaGreatDoorPk12
import Derived.Test.YtajbhfmdmajpmaaGreatDoorPk01
import Derived.Test.YtajbhfmdmajpmaaGreatDoorPk16
import Derived.Test.YtajbhfmdmajpmaaGreatDoorPk13
import Derived.Lib.SlicesCompact
import Derived.Lib.RowBridge

/-! Put32 -/
namespace Go.Proofs.YtajbhfmdmajpmaaGreatDoor
set_option linter.unusedVariables false
set_option linter.unusedSimpArgs false
open Go.RowKit
def PutPost (l : List Gl) (w : World) (en : Ending) (w' : World) : Prop := ∃ v, en = .returned v ∧ w'.ownsRow w.heap.size 58 6 v l.length (l.flatMap Gl.vals) ∧ Ext w w'
def PutRel (w0 : World) (l : List Gl) (c : Int) (i : Value) (wr : World) : Prop := ∃ k : Nat, k ≤ putAt l c ∧ i = .int .i64 k ∧ Ext w0 wr ∧ w0.heap.size = wr.heap.size
theorem putAt_le (l : List Gl) (c : Int) : putAt l c ≤ l.length := by unfold putAt; exact (List.takeWhile_sublist _).length_le
theorem putAt_go : ∀ {l : List Gl} {c : Int} {k : Nat} {x : Gl}, k ≤ putAt l c → l[k]? = some x → (x.cell < c → k + 1 ≤ putAt l c) ∧ (¬ x.cell < c → putAt l c = k)
  | [], c, k, x, _, h => by simp at h
  | a :: l, c, 0, x, _, h => by
    simp at h; subst h
    unfold putAt
    rw [List.takeWhile_cons]
    by_cases ha : a.cell < c
    · rw [if_pos (by simpa using ha)]; exact ⟨fun _ => by simp, fun h => absurd ha h⟩
    · rw [if_neg (by simpa using ha)]; exact ⟨fun h => absurd h ha, fun _ => rfl⟩
  | a :: l, c, k + 1, x, hk, h => by
    unfold putAt at hk ⊢
    rw [List.takeWhile_cons] at hk ⊢
    by_cases ha : a.cell < c
    · rw [if_pos (by simpa using ha)] at hk ⊢
      simp only [List.length_cons] at hk ⊢
      have := putAt_go (l := l) (c := c) (k := k) (x := x) (by unfold putAt; omega) (by simpa using h)
      unfold putAt at this
      exact ⟨fun h => by have := this.1 h; omega, fun h => by have := this.2 h; omega⟩
    · rw [if_neg (by simpa using ha)] at hk
      simp at hk
theorem vals_ones (x : Gl) : ∀ v ∈ x.vals, v.oneCell' = true := by
  intro v hv
  simp only [Gl.vals, List.mem_cons, List.not_mem_nil, or_false] at hv
  rcases hv with rfl | rfl | rfl | rfl | rfl | rfl <;> rfl
theorem put_eq (l : List Gl) (g : Gl) {t : Nat} (ht : t = putAt l g.cell + if (l[putAt l g.cell]?.map fun x => decide (x.row = g.row ∧ x.col = g.col)) = some true then 1 else 0) : putG l g = l.take (putAt l g.cell) ++ [g] ++ l.drop t := by
  unfold putG
  rw [ht, List.append_assoc]; rfl
set_option maxRecDepth 100000 in
set_option maxHeartbeats 16000000 in
theorem R32put_nil (g : Gl) (w : World) (hg : inG g) :
    Calls Tryz.prog 68 #[.slice none 0 0, .agg #[.int .i64 g.row, .int .i64 g.col, .int .i32 g.ch, .int .u8 g.color, .bool g.italic, .bool g.under]] w (PutPost (putG [] g) w) := by
  obtain ⟨g1, g2, g3, g4⟩ := hg
  have HB0 := Lib.hid (Blk.new w 58 #[.int .i64 g.row, .int .i64 g.col, .int .i32 g.ch, .int .u8 g.color, .bool g.italic, .bool g.under])
  have HX0 := Lib.hid ((Ext.refl w).alloc (.cells #[.int .i64 g.row, .int .i64 g.col, .int .i32 g.ch, .int .u8 g.color, .bool g.italic, .bool g.under] 58))
  have u1 := IntWalk.i64_in (g.row * 32) (by omega)
  have u2 := IntWalk.i64_in (g.row * 32 + g.col) (by omega)
  go_enter Tryz.func68, Tryz.ntmps68
  go_wp2_with fail
  obtain ⟨W1, hW1⟩ : ∃ W1, W1 = w.alloc (.cells #[.int .i64 g.row, .int .i64 g.col, .int .i32 g.ch, .int .u8 g.color, .bool g.italic, .bool g.under] 58) := ⟨_, rfl⟩
  rw [← hW1] at HB0 HX0 ⊢
  clear hW1
  have hcg := fun o => HB0.out.cell o
  go_quiet (fail)
  clear u1 u2
  clear hcg
  go_wp2_with fail
  go_loopw [5] (fun i wr => PutRel W1 [] g.cell i wr) (fun i _ => 0 - (intOf i).toNat)
  case atStart => exact ⟨0, Nat.zero_le _, rfl, (Ext.refl W1).drewN _, rfl⟩
  case round =>
    obtain ⟨k, hk, rfl, hx, hs⟩ := hrel
    have HX := Lib.hid hx
    have hpl := putAt_le [] g.cell
    have hk0 : k = 0 := by simp at hpl; omega
    subst hk0
    have hcg := fun o => (HB0.out.ext hx).cell o
    clear hx hpl hk
    go_wp2_with fail
    go_quiet (fail)
    clear hcg
    go_upto_region 4 with fail
    refine wp_drewN ?_
    intro w4 hx4 hs4
    have hx4 : Ext wr w4 := by first | exact hx4 | exact Ext.trans ((Ext.refl wr).drewN _) hx4
    have HX4 := Lib.hid (HX0.out.trans (HX.out.trans hx4))
    have HB4 := Lib.hid (HB0.out.ext (HX.out.trans hx4))
    have hcr4 := fun o => HB4.out.cell o
    have HT1 : Hid (Sl w4 6 (Cells Gl.vals) none 0 []) := Sl.nil
    have hsz4 := HX4.out.size
    clear hx4 hs4
    go_wp2_with (first | (at_builtin; refine wpList_appendS rfl (.tmp 36) (.tmp 39) 30 rfl info_gl Tryz.underlying30 rfl (by decide) (by exact own_nil0' (base := w4.heap.size) rfl (Nat.le_refl _)) (by exact rfl) (by exact rfl) (by exact Sl.ext (Cells.stays _) HT1.out ((Ext.refl w4).alloc _)) (fun _ => rfl) vals_ones (by omega) (by simp [maxLen] <;> omega) (by first | omega | (simp; omega) | simp) ?_; intro v1 w5 hown1 hgr1 hnil1; have hx5 : Ext w4 w5 := Ext.grown ((Ext.refl w4).alloc _) hgr1 (fun q hq => by simp [Value.ownBlock] at hq; omega); have hs5 := hx5.size; have hcr5 := fun o => (HB4.out.ext hx5).cell o; have HO1 := Lib.hid hown1; clear hown1 hgr1 hcr4) | (at_builtin; refine wpList_append1 rfl (.tmp 41) (.tmp 43) 30 rfl info_gl Tryz.underlying30 rfl (by decide) (HO1.out.alloc _) (by exact rfl) w5.heap.size _ (by exact rfl) (by exact Blk.new' rfl) (by exact rfl) (by simp [Value.oneCell']) (by omega) (by simp [maxLen] <;> omega) (by first | omega | (simp; omega) | simp) ?_; intro v2 w6 hown2 hgr2; have hx6 : Ext w4 w6 := Ext.grown (hx5.alloc _) hgr2 (fun q hq => by have := own_lt HO1.out q hq; omega); have hs6 := hx6.size; have HO2 := Lib.hid hown2; clear hown2 hgr2))
    have HX6 := Lib.hid hx6
    have hcr6 := fun o => (HB4.out.ext hx6).cell o
    clear hcr5
    go_quiet (fail)
    clear hcr6
    go_upto_region 8 with fail
    refine wp_drewN ?_
    intro w9 hx9 hs9
    have hx9 : Ext w6 w9 := by first | exact hx9 | exact Ext.trans ((Ext.refl w6).drewN _) hx9
    have HX9 := Lib.hid (Ext.trans HX6.out hx9)
    have HO9 := Lib.hid (own_ext HO2.out hx9)
    have HT2 : Hid (∀ A, Sl w9 6 (Cells Gl.vals) A 0 []) := fun A => Sl.nil
    have hsz9 := HX9.out.size
    clear hx9 HO2
    go_wp2_with (at_builtin; refine wpList_appendS rfl (.tmp 71) (.tmp 74) 30 rfl info_gl Tryz.underlying30 rfl (by decide) (by exact HO9.out) (by exact rfl) (by exact rfl) (by first | exact HT2.out | exact HT2.out _) (fun _ => rfl) vals_ones (by omega) (by simp [maxLen] <;> omega) (by first | omega | (simp; omega) | simp) ?_; intro v3 w7 hown3 hgr3 hnil3; have hx7 : Ext w4 w7 := Ext.grown HX9.out hgr3 (fun q hq => by have := own_lt HO9.out q hq; omega); have HO3 := Lib.hid hown3; clear hown3 hgr3)
    all_goals go_ret
    all_goals (refine ⟨_, rfl, ?_, HX4.out.trans hx7⟩; have h1 := own_le' HO3.out (show w.heap.size ≤ w4.heap.size from hsz4); exact h1)
set_option maxRecDepth 100000 in
set_option maxHeartbeats 16000000 in
theorem R32put_some (gb cap : Nat) (l : List Gl) (g : Gl) (w : World) (hl : GlsAt w (some ⟨gb, 0, none⟩) l.length l) (hcap : l.length ≤ cap) (hok : ∀ x ∈ l, inG x) (hg : inG g) (hn : l.length ≤ 1000000) :
    Calls Tryz.prog 68 #[.slice (some ⟨gb, 0, none⟩) l.length cap, .agg #[.int .i64 g.row, .int .i64 g.col, .int .i32 g.ch, .int .u8 g.color, .bool g.italic, .bool g.under]] w (PutPost (putG l g) w) := by
  obtain ⟨g1, g2, g3, g4⟩ := hg
  have HL := Lib.hid hl
  have HOk := Lib.hid hok
  clear hl hok
  have HB0 := Lib.hid (Blk.new w 58 #[.int .i64 g.row, .int .i64 g.col, .int .i32 g.ch, .int .u8 g.color, .bool g.italic, .bool g.under])
  have HX0 := Lib.hid ((Ext.refl w).alloc (.cells #[.int .i64 g.row, .int .i64 g.col, .int .i32 g.ch, .int .u8 g.color, .bool g.italic, .bool g.under] 58))
  have u1 := IntWalk.i64_in (g.row * 32) (by omega)
  have u2 := IntWalk.i64_in (g.row * 32 + g.col) (by omega)
  go_enter Tryz.func68, Tryz.ntmps68
  go_wp2_with fail
  obtain ⟨W1, hW1⟩ : ∃ W1, W1 = w.alloc (.cells #[.int .i64 g.row, .int .i64 g.col, .int .i32 g.ch, .int .u8 g.color, .bool g.italic, .bool g.under] 58) := ⟨_, rfl⟩
  rw [← hW1] at HB0 HX0 ⊢
  clear hW1
  have hcg := fun o => HB0.out.cell o
  go_quiet (fail)
  clear u1 u2 hcg
  go_wp2_with fail
  go_loopw [5] (fun i wr => PutRel W1 l g.cell i wr) (fun i _ => l.length - (intOf i).toNat)
  case atStart => exact ⟨0, Nat.zero_le _, rfl, (Ext.refl W1).drewN _, rfl⟩
  case round =>
    obtain ⟨k, hk, rfl, hx, hs⟩ := hrel
    have HX := Lib.hid hx
    have hpl := putAt_le l g.cell
    have hcg := fun o => (HB0.out.ext hx).cell o
    clear hx
    by_cases hlt : k < l.length
    · have hji : (k : Int) < (l.length : Int) := by omega
      obtain ⟨b', off', x, hA', hxk, hC⟩ := (HL.out.ext (HX0.out.trans HX.out)).at_ hlt
      cases hA'
      have c0 := hC 0 _ rfl
      have c1 := hC 1 _ rfl
      simp only [Nat.zero_add, Nat.add_zero] at c0 c1
      obtain ⟨x1, x2, x3, x4⟩ := HOk.out x (List.mem_of_getElem? hxk)
      have HGo := Lib.hid (putAt_go hk hxk)
      have HXk := Lib.hid hxk
      have u3 := IntWalk.i64_in (x.row * 32) (by omega)
      have u4 := IntWalk.i64_in (x.row * 32 + x.col) (by omega)
      clear hxk hC
      by_cases ht : x.row * 32 + x.col < g.row * 32 + g.col
      · have hk1 : k + 1 ≤ putAt l g.cell := HGo.out.1 ht
        go_wp2_with fail
        go_quiet (fail)
        go_wp2_with fail
        exact ⟨⟨k + 1, hk1, by go_num, HX.out.drewN _, hs⟩, by simp [intOf]; omega⟩
      · have HK := Lib.hid (HGo.out.2 ht)
        clear HGo
        go_wp2_with fail
        go_quiet (fail)
        clear c0 c1 u3 u4 hcg
        go_upto_region 4 with fail
        clear ht
        refine wp_drewN ?_
        intro w4 hx4 hs4
        have hx4 : Ext wr w4 := by first | exact hx4 | exact Ext.trans ((Ext.refl wr).drewN _) hx4
        have HX4 := Lib.hid (HX0.out.trans (HX.out.trans hx4))
        have HB4 := Lib.hid (HB0.out.ext (HX.out.trans hx4))
        have hcr4 := fun o => HB4.out.cell o
        have HS4 := Lib.hid (HL.out.ext HX4.out)
        have HT1 := Lib.hid (HS4.out.take (by omega : k ≤ l.length))
        have hsz4 := HX4.out.size
        clear hx4 hs4 HL
        go_wp2_with (first | (at_builtin; refine wpList_appendS rfl (.tmp 36) (.tmp 39) 30 rfl info_gl Tryz.underlying30 rfl (by decide) (by exact own_nil0' (base := w4.heap.size) rfl (Nat.le_refl _)) (by exact rfl) (by exact rfl) (by exact Sl.ext (Cells.stays _) HT1.out ((Ext.refl w4).alloc _)) (fun _ => rfl) vals_ones (by omega) (by simp [maxLen] <;> omega) (by first | omega | (simp; omega) | simp) ?_; intro v1 w5 hown1 hgr1 hnil1; have hx5 : Ext w4 w5 := Ext.grown ((Ext.refl w4).alloc _) hgr1 (fun q hq => by simp [Value.ownBlock] at hq; omega); have hs5 := hx5.size; have hcr5 := fun o => (HB4.out.ext hx5).cell o; have HO1 := Lib.hid hown1; clear hown1 hgr1 hcr4) | (at_builtin; refine wpList_append1 rfl (.tmp 41) (.tmp 43) 30 rfl info_gl Tryz.underlying30 rfl (by decide) (HO1.out.alloc _) (by exact rfl) w5.heap.size _ (by exact rfl) (by exact Blk.new' rfl) (by exact rfl) (by simp [Value.oneCell']) (by omega) (by simp [maxLen] <;> omega) (by first | omega | (simp; omega) | simp) ?_; intro v2 w6 hown2 hgr2; have hx6 : Ext w4 w6 := Ext.grown (hx5.alloc _) hgr2 (fun q hq => by have := own_lt HO1.out q hq; omega); have hs6 := hx6.size; have HO2 := Lib.hid hown2; clear hown2 hgr2))
        have HX6 := Lib.hid hx6
        have hcr6 := fun o => (HB4.out.ext hx6).cell o
        clear hcr5
        have HL6 := Lib.hid ((HS4.out).ext HX6.out)
        obtain ⟨b', off', x', hA', hxk', hC⟩ := HL6.out.at_ hlt
        cases hA'
        obtain rfl : x' = x := by rw [HXk.out] at hxk'; exact (Option.some.inj hxk').symm
        have c0 := hC 0 _ rfl
        have c1 := hC 1 _ rfl
        simp only [Nat.zero_add, Nat.add_zero] at c0 c1
        clear hxk' hC HL6
        by_cases hr : x'.row = g.row
        case neg =>
          have hrb : (x'.row == g.row) = false := by simpa using hr
          have HN : Hid (¬ (x'.row = g.row ∧ x'.col = g.col)) := fun h => hr h.1
          clear hr

          go_quiet (fail)
          clear c0 c1 hcr6 hrb
          go_upto_region 8 with fail
          refine wp_drewN ?_
          intro w9 hx9 hs9
          have hx9 : Ext w6 w9 := by first | exact hx9 | exact Ext.trans ((Ext.refl w6).drewN _) hx9
          have HX9 := Lib.hid (Ext.trans HX6.out hx9)
          have HO9 := Lib.hid (own_ext HO2.out hx9)
          have HS9 := Lib.hid (HS4.out.ext HX9.out)
          have HT2 : Hid (Sl w9 6 (Cells Gl.vals) (some ⟨gb, k * 6, none⟩) (l.length - k) (l.drop k)) := by have h := HS9.out.drop k; rw [Nat.zero_add] at h; exact h
          have hsz9 := HX9.out.size
          clear hx9 HO2
          go_wp2_with (at_builtin; refine wpList_appendS rfl (.tmp 71) (.tmp 74) 30 rfl info_gl Tryz.underlying30 rfl (by decide) (by exact HO9.out) (by exact rfl) (by exact rfl) (by first | exact HT2.out | exact HT2.out _) (fun _ => rfl) vals_ones (by omega) (by simp [maxLen] <;> omega) (by first | omega | (simp; omega) | simp) ?_; intro v3 w7 hown3 hgr3 hnil3; have hx7 : Ext w4 w7 := Ext.grown HX9.out hgr3 (fun q hq => by have := own_lt HO9.out q hq; omega); have HO3 := Lib.hid hown3; clear hown3 hgr3)
          all_goals go_ret
          all_goals (refine ⟨_, rfl, ?_, HX4.out.trans hx7⟩; have h1 := own_le' HO3.out (show w.heap.size ≤ w4.heap.size from hsz4); have hl1 : putG l g = l.take k ++ [g] ++ l.drop (k) := (by have := put_eq l g (t := k) (by rw [HK.out, HXk.out]; simp only [Option.map_some, decide_eq_false HN.out]; simp); rw [HK.out] at this; exact this); have hl2 : (putG l g).length = k + 1 + (l.length - (k)) := (by rw [hl1]; simp [List.length_take]; omega); rw [hl2, hl1, List.flatMap_append, List.flatMap_append]; rw [Nat.zero_add] at h1; exact h1)
        by_cases hc : x'.col = g.col
        case neg =>
          have hrb : (x'.row == g.row) = true := by simpa using hr
          have hcb : (x'.col == g.col) = false := by simpa using hc
          have HN : Hid (¬ (x'.row = g.row ∧ x'.col = g.col)) := fun h => hc h.2
          clear hr hc

          go_quiet (fail)
          clear c0 c1 hcr6 hrb hcb
          go_upto_region 8 with fail
          refine wp_drewN ?_
          intro w9 hx9 hs9
          have hx9 : Ext w6 w9 := by first | exact hx9 | exact Ext.trans ((Ext.refl w6).drewN _) hx9
          have HX9 := Lib.hid (Ext.trans HX6.out hx9)
          have HO9 := Lib.hid (own_ext HO2.out hx9)
          have HS9 := Lib.hid (HS4.out.ext HX9.out)
          have HT2 : Hid (Sl w9 6 (Cells Gl.vals) (some ⟨gb, k * 6, none⟩) (l.length - k) (l.drop k)) := by have h := HS9.out.drop k; rw [Nat.zero_add] at h; exact h
          have hsz9 := HX9.out.size
          clear hx9 HO2
          go_wp2_with (at_builtin; refine wpList_appendS rfl (.tmp 71) (.tmp 74) 30 rfl info_gl Tryz.underlying30 rfl (by decide) (by exact HO9.out) (by exact rfl) (by exact rfl) (by first | exact HT2.out | exact HT2.out _) (fun _ => rfl) vals_ones (by omega) (by simp [maxLen] <;> omega) (by first | omega | (simp; omega) | simp) ?_; intro v3 w7 hown3 hgr3 hnil3; have hx7 : Ext w4 w7 := Ext.grown HX9.out hgr3 (fun q hq => by have := own_lt HO9.out q hq; omega); have HO3 := Lib.hid hown3; clear hown3 hgr3)
          all_goals go_ret
          all_goals (refine ⟨_, rfl, ?_, HX4.out.trans hx7⟩; have h1 := own_le' HO3.out (show w.heap.size ≤ w4.heap.size from hsz4); have hl1 : putG l g = l.take k ++ [g] ++ l.drop (k) := (by have := put_eq l g (t := k) (by rw [HK.out, HXk.out]; simp only [Option.map_some, decide_eq_false HN.out]; simp); rw [HK.out] at this; exact this); have hl2 : (putG l g).length = k + 1 + (l.length - (k)) := (by rw [hl1]; simp [List.length_take]; omega); rw [hl2, hl1, List.flatMap_append, List.flatMap_append]; rw [Nat.zero_add] at h1; exact h1)
        have hrb : (x'.row == g.row) = true := by simpa using hr
        have hcb : (x'.col == g.col) = true := by simpa using hc
        have HN : Hid (x'.row = g.row ∧ x'.col = g.col) := ⟨hr, hc⟩
        clear hr hc
        by_cases hk2 : k + 1 < l.length
        · skip

          go_quiet (fail)
          clear c0 c1 hcr6 hrb hcb
          go_upto_region 8 with fail
          refine wp_drewN ?_
          intro w9 hx9 hs9
          have hx9 : Ext w6 w9 := by first | exact hx9 | exact Ext.trans ((Ext.refl w6).drewN _) hx9
          have HX9 := Lib.hid (Ext.trans HX6.out hx9)
          have HO9 := Lib.hid (own_ext HO2.out hx9)
          have HS9 := Lib.hid (HS4.out.ext HX9.out)
          have HT2 : Hid (Sl w9 6 (Cells Gl.vals) (some ⟨gb, (k + 1) * 6, none⟩) (l.length - (k + 1)) (l.drop (k + 1))) := by have h := HS9.out.drop (k + 1); rw [Nat.zero_add] at h; exact h
          have hsz9 := HX9.out.size
          clear hx9 HO2
          go_wp2_with (at_builtin; refine wpList_appendS rfl (.tmp 71) (.tmp 74) 30 rfl info_gl Tryz.underlying30 rfl (by decide) (by exact HO9.out) (by exact rfl) (by exact rfl) (by first | exact HT2.out | exact HT2.out _) (fun _ => rfl) vals_ones (by omega) (by simp [maxLen] <;> omega) (by first | omega | (simp; omega) | simp) ?_; intro v3 w7 hown3 hgr3 hnil3; have hx7 : Ext w4 w7 := Ext.grown HX9.out hgr3 (fun q hq => by have := own_lt HO9.out q hq; omega); have HO3 := Lib.hid hown3; clear hown3 hgr3)
          all_goals go_ret
          all_goals (refine ⟨_, rfl, ?_, HX4.out.trans hx7⟩; have h1 := own_le' HO3.out (show w.heap.size ≤ w4.heap.size from hsz4); have hl1 : putG l g = l.take k ++ [g] ++ l.drop (k + 1) := (by have := put_eq l g (t := k + 1) (by rw [HK.out, HXk.out]; simp only [Option.map_some, decide_eq_true HN.out]; simp); rw [HK.out] at this; exact this); have hl2 : (putG l g).length = k + 1 + (l.length - (k + 1)) := (by rw [hl1]; simp [List.length_take]; omega); rw [hl2, hl1, List.flatMap_append, List.flatMap_append]; rw [Nat.zero_add] at h1; exact h1)
        · skip

          go_quiet (fail)
          clear c0 c1 hcr6 hrb hcb
          go_upto_region 8 with fail
          refine wp_drewN ?_
          intro w9 hx9 hs9
          have hx9 : Ext w6 w9 := by first | exact hx9 | exact Ext.trans ((Ext.refl w6).drewN _) hx9
          have HX9 := Lib.hid (Ext.trans HX6.out hx9)
          have HO9 := Lib.hid (own_ext HO2.out hx9)
          have HS9 := Lib.hid (HS4.out.ext HX9.out)
          have HT2 : Hid (∀ A, Sl w9 6 (Cells Gl.vals) A (l.length - (k + 1)) (l.drop (k + 1))) := fun A => ⟨by simp, fun h => absurd h (by omega)⟩
          have hsz9 := HX9.out.size
          clear hx9 HO2
          go_wp2_with (at_builtin; refine wpList_appendS rfl (.tmp 71) (.tmp 74) 30 rfl info_gl Tryz.underlying30 rfl (by decide) (by exact HO9.out) (by exact rfl) (by exact rfl) (by first | exact HT2.out | exact HT2.out _) (fun _ => rfl) vals_ones (by omega) (by simp [maxLen] <;> omega) (by first | omega | (simp; omega) | simp) ?_; intro v3 w7 hown3 hgr3 hnil3; have hx7 : Ext w4 w7 := Ext.grown HX9.out hgr3 (fun q hq => by have := own_lt HO9.out q hq; omega); have HO3 := Lib.hid hown3; clear hown3 hgr3)
          all_goals go_ret
          all_goals (refine ⟨_, rfl, ?_, HX4.out.trans hx7⟩; have h1 := own_le' HO3.out (show w.heap.size ≤ w4.heap.size from hsz4); have hl1 : putG l g = l.take k ++ [g] ++ l.drop (k + 1) := (by have := put_eq l g (t := k + 1) (by rw [HK.out, HXk.out]; simp only [Option.map_some, decide_eq_true HN.out]; simp); rw [HK.out] at this; exact this); have hl2 : (putG l g).length = k + 1 + (l.length - (k + 1)) := (by rw [hl1]; simp [List.length_take]; omega); rw [hl2, hl1, List.flatMap_append, List.flatMap_append]; rw [Nat.zero_add] at h1; exact h1)
    · have hkl : k = l.length := by omega
      have HK : Hid (putAt l g.cell = k) := by show _ = _; omega
      have hji : decide ((k : Int) < (l.length : Int)) = false := by simp; omega
      have hk1 : k ≤ l.length := by omega
      clear hkl
      go_wp2_with fail
      go_quiet (fail)
      clear hcg
      go_upto_region 4 with fail
      refine wp_drewN ?_
      intro w4 hx4 hs4
      have hx4 : Ext wr w4 := by first | exact hx4 | exact Ext.trans ((Ext.refl wr).drewN _) hx4
      have HX4 := Lib.hid (HX0.out.trans (HX.out.trans hx4))
      have HB4 := Lib.hid (HB0.out.ext (HX.out.trans hx4))
      have hcr4 := fun o => HB4.out.cell o
      have HS4 := Lib.hid (HL.out.ext HX4.out)
      have HT1 := Lib.hid (HS4.out.take (by omega : k ≤ l.length))
      have hsz4 := HX4.out.size
      clear hx4 hs4 HL
      go_wp2_with (first | (at_builtin; refine wpList_appendS rfl (.tmp 36) (.tmp 39) 30 rfl info_gl Tryz.underlying30 rfl (by decide) (by exact own_nil0' (base := w4.heap.size) rfl (Nat.le_refl _)) (by exact rfl) (by exact rfl) (by exact Sl.ext (Cells.stays _) HT1.out ((Ext.refl w4).alloc _)) (fun _ => rfl) vals_ones (by omega) (by simp [maxLen] <;> omega) (by first | omega | (simp; omega) | simp) ?_; intro v1 w5 hown1 hgr1 hnil1; have hx5 : Ext w4 w5 := Ext.grown ((Ext.refl w4).alloc _) hgr1 (fun q hq => by simp [Value.ownBlock] at hq; omega); have hs5 := hx5.size; have hcr5 := fun o => (HB4.out.ext hx5).cell o; have HO1 := Lib.hid hown1; clear hown1 hgr1 hcr4) | (at_builtin; refine wpList_append1 rfl (.tmp 41) (.tmp 43) 30 rfl info_gl Tryz.underlying30 rfl (by decide) (HO1.out.alloc _) (by exact rfl) w5.heap.size _ (by exact rfl) (by exact Blk.new' rfl) (by exact rfl) (by simp [Value.oneCell']) (by omega) (by simp [maxLen] <;> omega) (by first | omega | (simp; omega) | simp) ?_; intro v2 w6 hown2 hgr2; have hx6 : Ext w4 w6 := Ext.grown (hx5.alloc _) hgr2 (fun q hq => by have := own_lt HO1.out q hq; omega); have hs6 := hx6.size; have HO2 := Lib.hid hown2; clear hown2 hgr2))
      have HX6 := Lib.hid hx6
      have hcr6 := fun o => (HB4.out.ext hx6).cell o
      clear hcr5

      go_quiet (fail)
      clear hcr6
      go_upto_region 8 with fail
      refine wp_drewN ?_
      intro w9 hx9 hs9
      have hx9 : Ext w6 w9 := by first | exact hx9 | exact Ext.trans ((Ext.refl w6).drewN _) hx9
      have HX9 := Lib.hid (Ext.trans HX6.out hx9)
      have HO9 := Lib.hid (own_ext HO2.out hx9)
      have HS9 := Lib.hid (HS4.out.ext HX9.out)
      have HT2 : Hid (∀ A, Sl w9 6 (Cells Gl.vals) A (l.length - k) (l.drop k)) := fun A => ⟨by simp, fun h => absurd h (by omega)⟩
      have hsz9 := HX9.out.size
      clear hx9 HO2
      go_wp2_with (at_builtin; refine wpList_appendS rfl (.tmp 71) (.tmp 74) 30 rfl info_gl Tryz.underlying30 rfl (by decide) (by exact HO9.out) (by exact rfl) (by exact rfl) (by first | exact HT2.out | exact HT2.out _) (fun _ => rfl) vals_ones (by omega) (by simp [maxLen] <;> omega) (by first | omega | (simp; omega) | simp) ?_; intro v3 w7 hown3 hgr3 hnil3; have hx7 : Ext w4 w7 := Ext.grown HX9.out hgr3 (fun q hq => by have := own_lt HO9.out q hq; omega); have HO3 := Lib.hid hown3; clear hown3 hgr3)
      all_goals go_ret
      all_goals (refine ⟨_, rfl, ?_, HX4.out.trans hx7⟩; have h1 := own_le' HO3.out (show w.heap.size ≤ w4.heap.size from hsz4); have hl1 : putG l g = l.take k ++ [g] ++ l.drop (k) := (by have := put_eq l g (t := k) (by rw [HK.out, List.getElem?_eq_none (by omega)]; simp); rw [HK.out] at this; exact this); have hl2 : (putG l g).length = k + 1 + (l.length - (k)) := (by rw [hl1]; simp [List.length_take]; omega); rw [hl2, hl1, List.flatMap_append, List.flatMap_append]; rw [Nat.zero_add] at h1; exact h1)
end Go.Proofs.YtajbhfmdmajpmaaGreatDoor

/-! ScrR -/
namespace Go.Proofs.YtajbhfmdmajpmaaGreatDoor
set_option linter.unusedVariables false
set_option linter.unusedSimpArgs false
open Go.RowKit
theorem R32put_any (base : Nat) (v : Value) (l : List Gl) (g : Gl) (w : World) (hown : w.ownsRow base 58 6 v l.length (l.flatMap Gl.vals)) (hok : ∀ x ∈ l, inG x) (hg : inG g) (hn : l.length ≤ 1000000) :
    Calls Tryz.prog 68 #[v, .agg #[.int .i64 g.row, .int .i64 g.col, .int .i32 g.ch, .int .u8 g.color, .bool g.italic, .bool g.under]] w (PutPost (putG l g) w) := by
  rcases hown.2 with ⟨rfl, h0⟩ | ⟨gb, cap, cur, rfl, -⟩
  · obtain rfl : l = [] := List.eq_nil_of_length_eq_zero h0
    exact R32put_nil g w hg
  · obtain ⟨A, c, hv, hc, -, hsl, -⟩ := own_sl (f := Gl.vals) (size := 6) (fun _ => rfl) rfl hown
    injection hv with e1 e2 e3
    subst e1 e3
    exact R32put_some gb cap l g w hsl hc hok hg hn
def RsO (w2 : World) (l : List Ev) (regs : List Reg) (is : List Int) (v i : Value) (wr : World) : Prop :=
  ∃ k : Nat, k ≤ is.length ∧ i = .int .i64 k ∧ Ext w2 wr ∧ wr.ownsRow w2.heap.size 58 6 v ((visL l regs (is.take k)).foldl putG []).length (((visL l regs (is.take k)).foldl putG []).flatMap Gl.vals)
def RsI (w2 w3 : World) (p gs : List Gl) (v i : Value) (wr : World) : Prop :=
  ∃ k : Nat, k ≤ gs.length ∧ i = .int .i64 k ∧ Ext w3 wr ∧ wr.ownsRow w2.heap.size 58 6 v ((p ++ gs.take k).foldl putG []).length (((p ++ gs.take k).foldl putG []).flatMap Gl.vals)
theorem fold_ok {gs : List Gl} (h : ∀ g ∈ gs, g.ok) : (gs.foldl putG []).length ≤ 480 ∧ ∀ x ∈ gs.foldl putG [], inG x := by
  rw [← screen_put h]
  exact ⟨screen_480 gs, fun x hx => by have := screen_ok h x hx; exact ⟨this.1, this.2.1, this.2.2.1, this.2.2.2.1⟩⟩
set_option maxRecDepth 100000 in
set_option maxHeartbeats 16000000 in
theorem R32screen_any (d : Doc) (h : DocH) (f : Int) (w : World) (hE : Env w) (hat : DocAt w d h) (hf : DocFit d) (hrn : h.rn ≤ 9223372036854775807) (hn : h.en ≤ 1000000) (h0 : d.err = 0) :
    Calls Tryz.prog 36 #[.agg (d.cells h), .int .i64 f] w (GlsPost (d.scr f) w) := by
  have HEn := Lib.hid hE
  have HAt := Lib.hid hat
  have HFt := Lib.hid hf
  have HDs := Lib.hid (fun w' (hx : Ext w w') => R12AtL_any d h f w' (hat.ext hx).evs hn)
  have HEv := Lib.hid (fun e (he : e ∈ d.evs) => doc_ev h0 he)
  have HSc := Lib.hid (scr_put h0 f)
  have HVg := Lib.hid (fun is => vis_ok h0 is)
  have HMm := Lib.hid (fun i => @at_mem d.evs f i)
  have HLn := Lib.hid hat.evs.len
  have HIl : Hid ((atL d.evs f).length ≤ 1000000) := by show _ ≤ _; have := at_len d.evs f d.evs.length; have h2 := hat.evs.len; unfold atL; omega
  have HGl := Lib.hid (fun e (he : e ∈ d.evs) => gls_len (doc_ev h0 he))
  clear hE hat hf h0
  unfold AtLPost at HDs
  generalize atL d.evs f = is at *
  obtain ⟨ra, nr, rc, ea, en, ec, ca, nc, cc⟩ := h
  unfold Doc.cells at *
  dsimp only at *
  have HX0 := Lib.hid ((Ext.refl w).alloc (.cells #[.string d.title, .string d.lang, .int .u8 d.rate, .bool d.drop, .int .i64 d.last, .slice ra nr rc, .slice ea en ec, .slice ca nc cc] 27))
  have HB0 := Lib.hid (Blk.new w 27 #[.string d.title, .string d.lang, .int .u8 d.rate, .bool d.drop, .int .i64 d.last, .slice ra nr rc, .slice ea en ec, .slice ca nc cc])
  go_enter Tryz.func36, Tryz.ntmps36
  go_wp2_with (refine wpList_loadB rfl 27 (.tmp 2) rfl w.heap.size 27 _ _ (by exact rfl) (by exact HB0.out) Tryz.underlying27 rfl (by exact size_doc) ?_)
  refine (HDs.out _ HX0.out).mono ?_
  rintro en' w2 ⟨IA, ic, rfl, hI, hic, hx2, -⟩
  have HI := Lib.hid hI
  have HX2 := Lib.hid (HX0.out.trans hx2)
  have HB2 := Lib.hid (HB0.out.ext hx2)
  clear hI hx2 HX0 HB0 HDs
  go_wp2_with fail
  go_loopw [5, 14] (fun v i wr => RsO w2 d.evs d.regs is v i wr) (fun _ i _ => is.length - (intOf i).toNat)
  case atStart => exact ⟨0, Nat.zero_le _, rfl, Ext.refl _, ⟨rfl, .inl ⟨rfl, rfl⟩⟩⟩
  case round =>
    obtain ⟨k, hk, rfl, hx, hown⟩ := hrel
    have HX := Lib.hid hx
    have HO := Lib.hid hown
    clear hx hown
    have HBd := Lib.hid (HB2.out.ext HX.out)
    have HXw := Lib.hid (HX2.out.trans HX.out)
    by_cases hlt : k < is.length
    · have hin : k < is.length := hlt
      have HIs := Lib.hid (HI.out.ext HX.out)
      obtain ⟨ib, ioff, q, hIA, hq, hcell⟩ := IntsAt.cell HIs.out hlt
      obtain ⟨p, x, hqp, hpx, -⟩ := HMm.out q (List.mem_of_getElem? hq)
      subst hqp
      subst hIA
      have hpn : p < en := by rw [← HLn.out]; exact (List.getElem?_eq_some_iff.1 hpx).1
      obtain ⟨eb, eoff, x', hea, hx', hC⟩ := (HAt.out.evs.ext HXw.out).at_ hpn
      obtain rfl : x' = x := by rw [hpx] at hx'; exact (Option.some.inj hx').symm
      subst hea
      obtain ⟨A', n', c', hRx, hEx⟩ := hC
      have HRx := Lib.hid hRx
      have HV := Lib.hid (vis_snoc d.evs d.regs is k p x' hq hpx)
      have hmx := List.mem_of_getElem? hpx
      have HMx := Lib.hid hmx
      have HPl := Lib.hid (fun w' (hx : Ext wr w') => R32glyphs x' A' n' c' ra nr rc d.regs w' (HEn.out.ext (HXw.out.trans hx)) (hEx.ext hx) ((HFt.out.evs x' hmx).1.2.2) (HAt.out.regs.ext (HXw.out.trans hx)) hrn HFt.out.regs (HEv.out x' hmx))
      have HGk := Lib.hid (fun g hg => (HVg.out (is.take (k + 1)) g (by rw [HV.out]; exact List.mem_append_right _ hg)).1)
      have HPk := Lib.hid (fun g hg => (HVg.out (is.take k) g hg).1)
      unfold Ev.cells at HPl
      unfold GlsPost at HPl
      clear hRx hEx hx' hpx hq hmx
      go_upto_region 5 with fail
      clear hcell
      refine wp_region_links [some 18, some 19, some 20, some 21, some 22, some 23, some 24, some 25, some 26, some 27] [[], [0], [], [2], [], [3, 4], [5], [1, 6], [7], []] [7] [.pointer (some ⟨w.heap.size, 5, none⟩), .slice ra nr rc, .pointer (some ⟨w.heap.size, 6, none⟩), .slice (some ⟨eb, eoff, none⟩) en ec, .int .i64 (p : Int), .pointer (some ⟨eb, eoff + p * 7, none⟩), .agg #[.int .i64 x'.id, .int .i64 x'.inn, .int .i64 x'.out, .string x'.region, .int .u8 x'.kind, .string x'.speaker, .slice A' n' c'], undef, .int .i64 ((x'.gls d.regs).length : Int), .int .i64 0] (PlJ wr (x'.gls d.regs)) (by kernel_rfl) (by kernel_rfl) (by kernel_rfl) (by kernel_rfl) (by kernel_rfl) (by kernel_rfl) (by kernel_rfl) (by decide) ?_ ?_ ?_ ?_
      · exact (Ext.refl wr).drew
      · intro i o ho hc a w' us K' hJ hF hlim hk
        match i, ho with
        | 0, ho =>
          simp only [List.getElem?_toArray, List.getElem?_cons_zero, List.getElem?_cons_succ, Option.some.injEq] at ho
          subst ho
          have e2 := hF.old 2 (.pointer (some ⟨w.heap.size, 0, none⟩)) rfl rfl
          simp only [Act.eval] at e2
          clear hF hlim hJ
          go_simp
          exact hk
        | 1, ho =>
          simp only [List.getElem?_toArray, List.getElem?_cons_zero, List.getElem?_cons_succ, Option.some.injEq] at ho
          subst ho
          have e18 := hF.pure 0 18 (.pointer (some ⟨w.heap.size, 5, none⟩)) rfl rfl rfl rfl
          have hcl : w'.cell? ⟨w.heap.size, 5, none⟩ = some (.slice ra nr rc) := (HBd.out.ext hJ.ext).cell 5
          simp only [Act.eval] at e18
          clear hF hlim hJ
          go_simp
          exact hk
        | 2, ho =>
          simp only [List.getElem?_toArray, List.getElem?_cons_zero, List.getElem?_cons_succ, Option.some.injEq] at ho
          subst ho
          have e2 := hF.old 2 (.pointer (some ⟨w.heap.size, 0, none⟩)) rfl rfl
          simp only [Act.eval] at e2
          clear hF hlim hJ
          go_simp
          exact hk
        | 3, ho =>
          simp only [List.getElem?_toArray, List.getElem?_cons_zero, List.getElem?_cons_succ, Option.some.injEq] at ho
          subst ho
          have e20 := hF.pure 2 20 (.pointer (some ⟨w.heap.size, 6, none⟩)) rfl rfl rfl rfl
          have hcl : w'.cell? ⟨w.heap.size, 6, none⟩ = some (.slice (some ⟨eb, eoff, none⟩) en ec) := (HBd.out.ext hJ.ext).cell 6
          simp only [Act.eval] at e20
          clear hF hlim hJ
          go_simp
          exact hk
        | 4, ho =>
          simp only [List.getElem?_toArray, List.getElem?_cons_zero, List.getElem?_cons_succ, Option.some.injEq] at ho
          subst ho
          have e7 := hF.old 7 (.int .i64 (p : Int)) rfl rfl
          simp only [Act.eval] at e7
          clear hF hlim hJ
          go_simp
          exact hk
        | 5, ho =>
          simp only [List.getElem?_toArray, List.getElem?_cons_zero, List.getElem?_cons_succ, Option.some.injEq] at ho
          subst ho
          have e21 := hF.pure 3 21 (.slice (some ⟨eb, eoff, none⟩) en ec) rfl rfl rfl rfl
          have e22 := hF.pure 4 22 (.int .i64 (p : Int)) rfl rfl rfl rfl
          simp only [Act.eval] at e21 e22
          clear hF hlim hJ
          go_simp
          exact hk
        | 6, ho =>
          simp only [List.getElem?_toArray, List.getElem?_cons_zero, List.getElem?_cons_succ, Option.some.injEq] at ho
          subst ho
          have e23 := hF.pure 5 23 (.pointer (some ⟨eb, eoff + p * 7, none⟩)) rfl rfl rfl rfl
          exact wp_load_mid 53 (.tmp 23) rfl eb (eoff + p * 7) e23 [.int .i64 x'.id, .int .i64 x'.inn, .int .i64 x'.out, .string x'.region, .int .u8 x'.kind, .string x'.speaker, .slice A' n' c'] _ (fun j v hv => hJ.ext.cell (HRx.out j v hv)) Tryz.underlying53 rfl (by exact size_evt) hk
        | 7, ho => simp at hc
        | 8, ho =>
          simp only [List.getElem?_toArray, List.getElem?_cons_zero, List.getElem?_cons_succ, Option.some.injEq] at ho
          subst ho
          obtain ⟨v25, hv25⟩ := getElem_ltq (hF.did 0 7 rfl rfl)
          have e25 := hF.link 0 7 25 _ rfl rfl rfl hv25
          obtain ⟨qa, qc, hq⟩ := hJ.one hv25
          subst hq
          simp only [Act.eval] at e25
          clear hF hlim hJ
          go_simp
          exact hk
        | 9, ho =>
          simp only [List.getElem?_toArray, List.getElem?_cons_zero, List.getElem?_cons_succ, Option.some.injEq] at ho
          subst ho
          clear hF hlim hJ
          go_simp
          exact hk
        | i + 10, ho => simp at ho
      · intro p c' o hp ho a w' us K' hl hJ hF hk
        match p, hp with
        | 0, hp =>
          obtain rfl : 7 = c' := by simpa using hp
          simp only [List.getElem?_toArray, List.getElem?_cons_zero, List.getElem?_cons_succ, Option.some.injEq] at ho
          subst ho
          obtain rfl : us = [] := List.eq_nil_of_length_eq_zero hl
          have e19 := hF.pure 1 19 (.slice ra nr rc) rfl rfl rfl rfl
          have e24 := hF.pure 6 24 (.agg #[.int .i64 x'.id, .int .i64 x'.inn, .int .i64 x'.out, .string x'.region, .int .u8 x'.kind, .string x'.speaker, .slice A' n' c']) rfl rfl rfl rfl
          exact wp_call2g rfl e19 e24 Tryz.call46 (HPl.out _ hJ) (fun en w5 hp => by obtain ⟨qa, qc, rfl, h1, h2, h3, h4⟩ := hp; exact ⟨_, rfl, hk _ w5 ⟨qa, qc, rfl, h1, h2, Ext.trans hJ h3, fun ad h => Nat.le_trans (Ext.size hJ) (h4 ad h).1⟩⟩)
        | p + 1, hp => simp at hp
      intro us w3 hl hJ
      obtain ⟨u0, rfl⟩ := list_1 hl
      first | (rename_i hK; refine hK _ _ ?_; clear hK) | (rename_i hK hK_1; refine hK _ _ ?_; clear hK) | (rename_i hK hK_1 hK_2; refine hK _ _ ?_; clear hK) | (rename_i hK hK_1 hK_2 hK_3; refine hK _ _ ?_; clear hK)
      generalize hL : frameL _ _ _ _ = L
      obtain rfl : L = [(18, .pointer (some ⟨w.heap.size, 5, none⟩)), (19, .slice ra nr rc), (20, .pointer (some ⟨w.heap.size, 6, none⟩)), (21, .slice (some ⟨eb, eoff, none⟩) en ec), (22, .int .i64 (p : Int)), (23, .pointer (some ⟨eb, eoff + p * 7, none⟩)), (24, .agg #[.int .i64 x'.id, .int .i64 x'.inn, .int .i64 x'.out, .string x'.region, .int .u8 x'.kind, .string x'.speaker, .slice A' n' c']), (25, u0), (26, .int .i64 ((x'.gls d.regs).length : Int)), (27, .int .i64 0)] := hL.symm.trans (by kernel_rfl)
      clear hL hl
      simp only [Act.put, List.foldl_cons, List.foldl_nil, List.setIfInBounds_toArray, List.set_cons_zero, List.set_cons_succ]
      obtain ⟨GA, gc, rfl, hgA, hgc, hx3, hgloc⟩ := hJ
      have HGA := Lib.hid hgA
      have HX3 := Lib.hid (HX.out.trans hx3)
      have HO3 := Lib.hid (own_ext HO.out hx3)
      have hsz3 := HX3.out.size
      clear hgA hx3 hgloc HPl HRx HIs HBd
      go_wp2_with fail
      go_loopw [5, 27] (fun v i wq => RsI w2 w3 (visL d.evs d.regs (is.take k)) (x'.gls d.regs) v i wq) (fun _ i _ => (x'.gls d.regs).length - (intOf i).toNat)
      case atStart => exact ⟨0, Nat.zero_le _, rfl, Ext.refl _, by rw [List.take_zero, List.append_nil]; exact HO3.out⟩
      case round =>
        obtain ⟨j, hj, rfl, hxq, hoq⟩ := hrel
        have HXq := Lib.hid hxq
        have HOq := Lib.hid hoq
        clear hxq hoq
        have hkb : k < 4611686018427387904 := by have := HIl.out; omega
        have hjb : (x'.gls d.regs).length ≤ 480 := HGl.out x' HMx.out
        by_cases hjn : j < (x'.gls d.regs).length
        · obtain ⟨gb, goff, y, rfl, hy, c0, c1, c2, c3, c4, c5⟩ := (HGA.out.ext HXq.out).at6 hjn
          have hyok := HGk.out y (List.mem_of_getElem? hy)
          have hok : ∀ g ∈ visL d.evs d.regs (is.take k) ++ (x'.gls d.regs).take j, g.ok := fun g hg => by
            rcases List.mem_append.1 hg with hg | hg
            · exact HPk.out g hg
            · exact HGk.out g (List.mem_of_mem_take hg)
          obtain ⟨hf1, hf2⟩ := fold_ok hok
          have HSet : Hid ((visL d.evs d.regs (is.take k) ++ (x'.gls d.regs).take (j + 1)).foldl putG [] = putG ((visL d.evs d.regs (is.take k) ++ (x'.gls d.regs).take j).foldl putG []) y) := by
            show _ = _
            rw [take_snoc' _ j y hy, ← List.append_assoc, List.foldl_append]
            rfl
          have HPt := Lib.hid (fun w' (hx : Ext wr w') => R32put_any w2.heap.size u5 ((visL d.evs d.regs (is.take k) ++ (x'.gls d.regs).take j).foldl putG []) y w' (own_ext HOq.out hx) hf2 ⟨hyok.1, hyok.2.1, hyok.2.2.1, hyok.2.2.2.1⟩ (by omega))
          clear hy hyok hok hf1 hf2
          go_upto_region 8 with fail
          clear c0 c1 c2 c3 c4 c5
          have HBy := Lib.hid (Blk.new wr 58 #[.int .i64 y.row, .int .i64 y.col, .int .i32 y.ch, .int .u8 y.color, .bool y.italic, .bool y.under])
          have HX6 := Lib.hid ((Ext.refl wr).alloc (.cells #[.int .i64 y.row, .int .i64 y.col, .int .i32 y.ch, .int .u8 y.color, .bool y.italic, .bool y.under] 58))
          have hszq := HXq.out.size
          go_wp2_with (refine wpList_loadB rfl 58 (.tmp 9) rfl wr.heap.size 58 _ _ (by exact rfl) (by exact HBy.out) Tryz.underlying58 rfl (by exact size_gl) ?_)
          refine (HPt.out _ HX6.out).mono ?_
          rintro en9 w7 ⟨v7, rfl, ho7, hx7⟩
          have HO7 := Lib.hid (own_le' ho7 (show w2.heap.size ≤ _ by have := HX6.out.size; omega))
          have HX7 := Lib.hid (HXq.out.trans (HX6.out.trans hx7))
          clear ho7 hx7
          go_wp2_with fail
          exact ⟨⟨j + 1, by omega, by go_num, HX7.out, by rw [HSet.out]; exact HO7.out⟩, by simp [intOf]; omega⟩
        · have HF1 := Lib.hid (HX3.out.trans HXq.out)
          have HF2 : Hid (wr.ownsRow w2.heap.size 58 6 u5 ((visL d.evs d.regs (is.take (k + 1))).foldl putG []).length (((visL d.evs d.regs (is.take (k + 1))).foldl putG []).flatMap Gl.vals)) := by
            have h1 := HOq.out
            rw [List.take_of_length_le (l := x'.gls d.regs) (by omega), ← HV.out] at h1
            exact h1
          clear HXq HOq
          go_wp2_with fail
          exact ⟨⟨k + 1, by omega, by go_num, HF1.out, HF2.out⟩, by simp [intOf]; omega⟩
    · have hkl : is.length ≤ k := by omega
      have hO := HO.out
      rw [List.take_of_length_le hkl, ← HSc.out] at hO
      obtain ⟨A1, c1, rfl, hc, _, hsl, hfr⟩ := own_sl (f := Gl.vals) (size := 6) (fun _ => rfl) rfl hO
      have HSl := Lib.hid hsl
      have HFr : Hid (∀ ad, A1 = some ad → w.heap.size ≤ ad.block ∧ Typed wr 58 ad.block) := fun ad h => ⟨Nat.le_trans HX2.out.size (hfr ad h), own_typed hO _ (by rw [h]; rfl)⟩
      clear HO hO hsl hfr hkl
      go_wp2_with fail
      go_ret
      exact ⟨A1, c1, rfl, HSl.out, hc, HXw.out, HFr.out⟩
/-- what Screen returns -/
def Doc.scrErr (d : Doc) (f : Int) : Int := if d.err ≠ 0 then d.err else if f < 0 ∨ 5184000 < f then 2 else 0
def Doc.screen (d : Doc) (f : Int) : List Gl := if d.scrErr f = 0 then d.scr f else []
def ScreenPost (d : Doc) (f : Int) (w : World) (en : Ending) (w' : World) : Prop :=
  ∃ A c, en = .returned (.tuple #[.slice A (d.screen f).length c, .int .i64 (d.scrErr f)]) ∧ GlsAt w' A (d.screen f).length (d.screen f) ∧ (d.screen f).length ≤ c ∧ Ext w w' ∧ ∀ ad, A = some ad → w.heap.size ≤ ad.block ∧ Typed w' 58 ad.block
theorem screenPost_err {d : Doc} {f e : Int} {w w' : World} {en : Ending} (he : d.scrErr f = e) (h0 : e ≠ 0) (hen : en = .returned (.tuple #[.slice none 0 0, .int .i64 e])) (hx : Ext w w') : ScreenPost d f w en w' := by
  have h1 : d.screen f = [] := by unfold Doc.screen; rw [if_neg (by rw [he]; exact h0)]
  unfold ScreenPost
  rw [h1, he]
  exact ⟨none, 0, hen, Sl.nil, Nat.le_refl _, hx, fun ad h => by cases h⟩
set_option maxRecDepth 100000 in
set_option maxHeartbeats 4000000 in
theorem Screen_any (d : Doc) (h : DocH) (f : Int) (w : World) (hE : Env w) (hat : DocAt w d h) (hf : DocFit d) (hrn : h.rn ≤ 9223372036854775807) (hn : h.en ≤ 1000000) (hcn : h.cn ≤ 1000000) :
    Calls Tryz.prog 14 #[.agg (d.cells h), .int .i64 f] w (ScreenPost d f w) := by
  have HCk := Lib.hid (fun w' (hx : Ext w w') => DCheck_any d h w' (hE.ext hx) (hat.ext hx) hf hrn hn (by omega))
  have HSc := Lib.hid (fun w' (hx : Ext w w') (h0 : d.err = 0) => GScreen_any d h f w' (hE.ext hx) (hat.ext hx) hf hrn hn h0)
  have V1 : Hid (d.err ≠ 0 → d.scrErr f = d.err) := fun h => by unfold Doc.scrErr; rw [if_pos h]
  have V2 : Hid (d.err = 0 → (f < 0 ∨ 5184000 < f) → d.scrErr f = 2) := fun h h1 => by unfold Doc.scrErr; rw [if_neg (by simpa using h), if_pos h1]
  have V3 : Hid (d.err = 0 → ¬ (f < 0 ∨ 5184000 < f) → d.scrErr f = 0) := fun h h1 => by unfold Doc.scrErr; rw [if_neg (by simpa using h), if_neg h1]
  have V4 : Hid (d.scrErr f = 0 → d.screen f = d.scr f) := fun h => by unfold Doc.screen; rw [if_pos h]
  clear hE hat hf hrn hn hcn
  obtain ⟨ra, nr, rc, ea, en, ec, ca, nc, cc⟩ := h
  unfold Doc.cells at *
  dsimp only at *
  have HX0 := Lib.hid ((Ext.refl w).alloc (.cells #[.string d.title, .string d.lang, .int .u8 d.rate, .bool d.drop, .int .i64 d.last, .slice ra nr rc, .slice ea en ec, .slice ca nc cc] 27))
  have HB0 := Lib.hid (Blk.new w 27 #[.string d.title, .string d.lang, .int .u8 d.rate, .bool d.drop, .int .i64 d.last, .slice ra nr rc, .slice ea en ec, .slice ca nc cc])
  go_enter Tryz.func14, Tryz.ntmps14
  go_wp2_with (refine wpList_loadB rfl 27 (.tmp 2) rfl w.heap.size 27 _ _ (by exact rfl) (by exact HB0.out) Tryz.underlying27 rfl (by exact size_doc) ?_)
  refine (HCk.out _ HX0.out).mono ?_
  rintro en' w1 ⟨rfl, hx1⟩
  have HX1 := Lib.hid (HX0.out.trans hx1)
  have HB1 := Lib.hid (HB0.out.ext hx1)
  clear hx1 HX0 HB0 HCk
  by_cases he : d.err = 0
  case neg =>
    have hne : (d.err != 0) = true := by simpa using he
    have HV := Lib.hid (V1.out he)
    have HN := Lib.hid he
    clear he
    go_wp2_with fail
    go_ret2
    exact screenPost_err HV.out HN.out rfl HX1.out
  have HOk := Lib.hid he
  rw [he]
  clear he
  by_cases h1 : f < 0
  · have HV := Lib.hid (V2.out HOk.out (.inl h1))
    go_wp2_with fail
    go_ret2
    exact screenPost_err HV.out (by decide) rfl HX1.out
  by_cases h2 : 5184000 < f
  · have HV := Lib.hid (V2.out HOk.out (.inr h2))
    go_wp2_with fail
    go_ret2
    exact screenPost_err HV.out (by decide) rfl HX1.out
  have HV := Lib.hid (V3.out HOk.out (by omega))
  have HV4 := Lib.hid (V4.out HV.out)
  go_wp2_with (refine wpList_loadB rfl 27 (.tmp 2) rfl w.heap.size 27 _ _ (by exact rfl) (by exact HB1.out) Tryz.underlying27 rfl (by exact size_doc) ?_)
  refine (HSc.out _ HX1.out HOk.out).mono ?_
  rintro en' w2 ⟨A, c, rfl, hS, hc, hx2, hfr⟩
  have HF1 := Lib.hid hS
  have HF2 := Lib.hid hfr
  have HX2 := Lib.hid (HX1.out.trans hx2)
  have HX1s := Lib.hid HX1.out.size
  clear hS hfr hx2
  go_wp2_with fail
  go_ret2
  unfold ScreenPost
  rw [HV4.out, HV.out]
  exact ⟨A, c, rfl, HF1.out, hc, HX2.out, fun ad h => ⟨Nat.le_trans HX1s.out (HF2.out ad h).1, (HF2.out ad h).2⟩⟩
set_option maxRecDepth 100000 in
set_option maxHeartbeats 4000000 in
theorem R32Screen_any (d : Doc) (h : DocH) (f : Int) (w : World) (hE : Env w) (hat : DocAt w d h) (hf : DocFit d) (hrn : h.rn ≤ 9223372036854775807) (hn : h.en ≤ 1000000) (hcn : h.cn ≤ 1000000) :
    Calls Tryz.prog 15 #[.agg (d.cells h), .int .i64 f] w (ScreenPost d f w) := by
  have HCk := Lib.hid (fun w' (hx : Ext w w') => R12Check_any d h w' (hE.ext hx) (hat.ext hx) hf hrn hn (by omega))
  have HSc := Lib.hid (fun w' (hx : Ext w w') (h0 : d.err = 0) => R32screen_any d h f w' (hE.ext hx) (hat.ext hx) hf hrn hn h0)
  have V1 : Hid (d.err ≠ 0 → d.scrErr f = d.err) := fun h => by unfold Doc.scrErr; rw [if_pos h]
  have V2 : Hid (d.err = 0 → (f < 0 ∨ 5184000 < f) → d.scrErr f = 2) := fun h h1 => by unfold Doc.scrErr; rw [if_neg (by simpa using h), if_pos h1]
  have V3 : Hid (d.err = 0 → ¬ (f < 0 ∨ 5184000 < f) → d.scrErr f = 0) := fun h h1 => by unfold Doc.scrErr; rw [if_neg (by simpa using h), if_neg h1]
  have V4 : Hid (d.scrErr f = 0 → d.screen f = d.scr f) := fun h => by unfold Doc.screen; rw [if_pos h]
  clear hE hat hf hrn hn hcn
  obtain ⟨ra, nr, rc, ea, en, ec, ca, nc, cc⟩ := h
  unfold Doc.cells at *
  dsimp only at *
  have HX0 := Lib.hid ((Ext.refl w).alloc (.cells #[.string d.title, .string d.lang, .int .u8 d.rate, .bool d.drop, .int .i64 d.last, .slice ra nr rc, .slice ea en ec, .slice ca nc cc] 27))
  have HB0 := Lib.hid (Blk.new w 27 #[.string d.title, .string d.lang, .int .u8 d.rate, .bool d.drop, .int .i64 d.last, .slice ra nr rc, .slice ea en ec, .slice ca nc cc])
  go_enter Tryz.func15, Tryz.ntmps15
  go_wp2_with (refine wpList_loadB rfl 27 (.tmp 2) rfl w.heap.size 27 _ _ (by exact rfl) (by exact HB0.out) Tryz.underlying27 rfl (by exact size_doc) ?_)
  refine (HCk.out _ HX0.out).mono ?_
  rintro en' w1 ⟨rfl, hx1⟩
  have HX1 := Lib.hid (HX0.out.trans hx1)
  have HB1 := Lib.hid (HB0.out.ext hx1)
  clear hx1 HX0 HB0 HCk
  by_cases he : d.err = 0
  case neg =>
    have hne : (d.err != 0) = true := by simpa using he
    have HV := Lib.hid (V1.out he)
    have HN := Lib.hid he
    clear he
    go_wp2_with fail
    go_ret2
    exact screenPost_err HV.out HN.out rfl HX1.out
  have HOk := Lib.hid he
  rw [he]
  clear he
  by_cases h1 : f < 0
  · have HV := Lib.hid (V2.out HOk.out (.inl h1))
    go_wp2_with fail
    go_ret2
    exact screenPost_err HV.out (by decide) rfl HX1.out
  by_cases h2 : 5184000 < f
  · have HV := Lib.hid (V2.out HOk.out (.inr h2))
    go_wp2_with fail
    go_ret2
    exact screenPost_err HV.out (by decide) rfl HX1.out
  have HV := Lib.hid (V3.out HOk.out (by omega))
  have HV4 := Lib.hid (V4.out HV.out)
  go_wp2_with (refine wpList_loadB rfl 27 (.tmp 2) rfl w.heap.size 27 _ _ (by exact rfl) (by exact HB1.out) Tryz.underlying27 rfl (by exact size_doc) ?_)
  refine (HSc.out _ HX1.out HOk.out).mono ?_
  rintro en' w2 ⟨A, c, rfl, hS, hc, hx2, hfr⟩
  have HF1 := Lib.hid hS
  have HF2 := Lib.hid hfr
  have HX2 := Lib.hid (HX1.out.trans hx2)
  have HX1s := Lib.hid HX1.out.size
  clear hS hfr hx2
  go_wp2_with fail
  go_ret2
  unfold ScreenPost
  rw [HV4.out, HV.out]
  exact ⟨A, c, rfl, HF1.out, hc, HX2.out, fun ad h => ⟨Nat.le_trans HX1s.out (HF2.out ad h).1, (HF2.out ad h).2⟩⟩
end Go.Proofs.YtajbhfmdmajpmaaGreatDoor

/-! ShwP -/
namespace Go.Proofs.YtajbhfmdmajpmaaGreatDoor
set_option linter.unusedVariables false
set_option linter.unusedSimpArgs false
def srtT (zs : List Int) : List Int := zs.mergeSort fun x y => decide (x ≤ y)
theorem srtT_sorted (zs : List Int) : (srtT zs).Pairwise (· ≤ ·) := by
  have := List.pairwise_mergeSort (le := fun x y : Int => decide (x ≤ y)) (fun a b c h1 h2 => by simp only [decide_eq_true_eq] at *; omega) (fun a b => by simp only [Bool.or_eq_true, decide_eq_true_eq]; omega) zs
  exact this.imp (fun h => by simpa using h)
theorem mem_srtT (zs : List Int) (x : Int) : x ∈ srtT zs ↔ x ∈ zs := List.mem_mergeSort
theorem len_srtT (zs : List Int) : (srtT zs).length = zs.length := List.length_mergeSort zs
theorem compactT_step (zs : List Int) (hs : zs.Pairwise (· ≤ ·)) : ∀ m, m ≤ zs.length → (Lib.compactUpTo zs.toArray m).Pairwise (· < ·) ∧ ∀ x, x ∈ Lib.compactUpTo zs.toArray m ↔ ∃ j, j < m ∧ zs[j]? = some x
  | 0, _ => ⟨by simp [Lib.compactUpTo], fun x => by simp [Lib.compactUpTo]⟩
  | m + 1, hm => by
    obtain ⟨h1, h2⟩ := compactT_step zs hs m (by omega)
    have hlt : m < zs.length := by omega
    have hget : zs.toArray[m]! = zs[m] := by simp [hlt]
    rw [Lib.compactUpTo_succ]
    by_cases hk : Lib.keeps zs.toArray m = true
    · rw [if_pos hk, hget]
      refine ⟨?_, fun x => ?_⟩
      · rw [List.pairwise_append]
        refine ⟨h1, by simp, fun a ha b hb => ?_⟩
        simp only [List.mem_singleton] at hb
        subst hb
        obtain ⟨j, hj, hja⟩ := (h2 a).1 ha
        have hm0 : m ≠ 0 := by omega
        have hne : zs[m] ≠ zs[m - 1] := by
          have := hk
          simp [Lib.keeps, hm0, hlt, show m - 1 < zs.length by omega] at this
          exact this
        have hjl : j < zs.length := by omega
        have hja' : zs[j] = a := by rw [List.getElem?_eq_getElem hjl] at hja; exact Option.some.inj hja
        have hpw := List.pairwise_iff_getElem.1 hs
        have h3 : a ≤ zs[m - 1] := by
          rw [← hja']
          rcases Nat.lt_or_ge j (m - 1) with h | h
          · exact hpw j (m - 1) hjl (by omega) h
          · have : j = m - 1 := by omega
            subst this; exact Int.le_refl _
        have h4 := hpw (m - 1) m (by omega) hlt (by omega)
        omega
      · rw [List.mem_append, h2, List.mem_singleton]
        constructor
        · rintro (⟨j, hj, hx⟩ | rfl)
          · exact ⟨j, by omega, hx⟩
          · exact ⟨m, by omega, List.getElem?_eq_getElem hlt⟩
        · rintro ⟨j, hj, hx⟩
          by_cases hjm : j = m
          · subst hjm
            right
            rw [List.getElem?_eq_getElem hlt] at hx
            exact (Option.some.inj hx).symm
          · exact .inl ⟨j, by omega, hx⟩
    · rw [if_neg hk, List.append_nil]
      refine ⟨h1, fun x => ?_⟩
      rw [h2]
      constructor
      · rintro ⟨j, hj, hx⟩
        exact ⟨j, by omega, hx⟩
      · rintro ⟨j, hj, hx⟩
        by_cases hjm : j = m
        · subst hjm
          have hm0 : j ≠ 0 := by
            intro e
            subst e
            exact hk (by simp [Lib.keeps])
          have heq : zs[j] = zs[j - 1] := by
            simp [Lib.keeps, hm0, hlt, show j - 1 < zs.length by omega] at hk
            exact hk
          refine ⟨j - 1, by omega, ?_⟩
          rw [List.getElem?_eq_getElem (by omega), ← heq, ← hx, List.getElem?_eq_getElem hlt]
        · exact ⟨j, by omega, hx⟩
theorem compact_tms (zs : List Int) : Lib.compact (srtT zs) = tmsOf zs := by
  obtain ⟨h1, h2⟩ := compactT_step (srtT zs) (srtT_sorted zs) (srtT zs).length (Nat.le_refl _)
  refine asc_unique h1 (tms_asc zs) fun x => ?_
  rw [show Lib.compact (srtT zs) = Lib.compactUpTo (srtT zs).toArray (srtT zs).length from rfl, h2, tms_mem, ← mem_srtT]
  constructor
  · rintro ⟨j, _, h⟩; exact List.mem_of_getElem? h
  · intro h
    obtain ⟨j, hj⟩ := List.mem_iff_getElem?.1 h
    exact ⟨j, (List.getElem?_eq_some_iff.1 hj).1, hj⟩
theorem shGo_snoc (S : Int → List Gl) : ∀ (t : List Int) (l : List Sh) (a b : Int), t.getLast? = some a → shGo S l (t ++ [b]) = shStep (shGo S l t) a b (S a)
  | [], l, a, b, h => by simp at h
  | [x], l, a, b, h => by simp at h; subst h; rfl
  | x :: y :: t, l, a, b, h => by
    have h1 := shGo_snoc S (y :: t) (shStep l x y (S x)) a b (by rw [← h]; rfl)
    exact h1
theorem sh_step (S : Int → List Gl) (t : List Int) (k : Nat) (a b : Int) (ha : t[k]? = some a) (hb : t[k + 1]? = some b) : shL S (t.take (k + 2)) = shStep (shL S (t.take (k + 1))) a b (S a) := by
  have e : t.take (k + 2) = t.take (k + 1) ++ [b] := take_snoc' t (k + 1) b hb
  rw [e]
  refine shGo_snoc S _ [] a b ?_
  rw [take_snoc' t k a ha]
  simp
theorem shGo_ne (S : Int → List Gl) : ∀ (t : List Int) (l : List Sh), ShNe l → ShNe (shGo S l t)
  | [], l, h => h
  | [_], l, h => h
  | x :: y :: t, l, h => shGo_ne S (y :: t) _ (step_ne h)
theorem shL_ne (S : Int → List Gl) (t : List Int) : ShNe (shL S t) := shGo_ne S t [] (by simp [ShNe])
theorem sh_one (S : Int → List Gl) (t : List Int) : shL S (t.take 1) = [] := by
  cases t <;> rfl
theorem shStep_len (l : List Sh) (a b : Int) (s : List Gl) : (shStep l a b s).length ≤ l.length + 1 := by
  unfold shStep
  split
  · omega
  · split
    · unfold shExt
      split
      · omega
      · simp
    · simp
theorem shGo_len (S : Int → List Gl) : ∀ (t : List Int) (l : List Sh), (shGo S l t).length ≤ l.length + t.length
  | [], l => by simp [shGo]
  | [_], l => by simp [shGo]
  | x :: y :: t, l => by
    have h1 := shGo_len S (y :: t) (shStep l x y (S x))
    have h2 := shStep_len l x y (S x)
    simp only [List.length_cons] at *
    show (shGo S (shStep l x y (S x)) (y :: t)).length ≤ _
    omega
theorem shL_len (S : Int → List Gl) (t : List Int) : (shL S t).length ≤ t.length := by
  have := shGo_len S t []
  simpa [shL] using this
theorem step_480 {l : List Sh} {a b : Int} {s : List Gl} (h : ∀ x ∈ l, x.scr.length ≤ 480) (hs : s.length ≤ 480) : ∀ x ∈ shStep l a b s, x.scr.length ≤ 480 := by
  unfold shStep
  split
  · exact h
  · split
    · unfold shExt
      split
      · exact h
      · rename_i x hx
        intro y hy
        rcases List.mem_append.1 hy with hy | hy
        · exact h y (List.dropLast_subset l hy)
        · simp at hy; subst hy; exact h x (List.mem_of_getLast? hx)
    · intro y hy
      rcases List.mem_append.1 hy with hy | hy
      · exact h y hy
      · simp at hy; subst hy; exact hs
theorem shGo_480 {S : Int → List Gl} (hS : ∀ f, (S f).length ≤ 480) : ∀ (t : List Int) (l : List Sh), (∀ x ∈ l, x.scr.length ≤ 480) → ∀ x ∈ shGo S l t, x.scr.length ≤ 480
  | [], l, h => h
  | [_], l, h => h
  | x :: y :: t, l, h => shGo_480 hS (y :: t) _ (step_480 h (hS x))
theorem shL_480 {S : Int → List Gl} (hS : ∀ f, (S f).length ≤ 480) (t : List Int) : ∀ x ∈ shL S t, x.scr.length ≤ 480 := shGo_480 hS t [] (by simp)
theorem evTs_snoc {l : List Ev} {k : Nat} {e : Ev} (h : l[k]? = some e) : evTs (l.take (k + 1)) = evTs (l.take k) ++ [e.inn, e.out] := by
  unfold evTs
  rw [take_snoc' l k e h, List.flatMap_append]
  simp
theorem evTs_len (l : List Ev) : (evTs l).length = 2 * l.length := by
  induction l with
  | nil => rfl
  | cons a l ih =>
    have : evTs (a :: l) = [a.inn, a.out] ++ evTs l := rfl
    rw [this, List.length_append, ih]
    simp; omega
theorem insT_len (l : List Int) (t : Int) : (insT l t).length ≤ l.length + 1 := by
  unfold insT
  split
  · omega
  · have := List.length_take_le (insAt l t) l
    simp only [List.length_append, List.length_cons, List.length_drop, List.length_take]
    omega
theorem tms_len (zs : List Int) : (tmsOf zs).length ≤ zs.length := by
  rw [← compact_tms, ← len_srtT zs]
  exact Lib.compact_length_le _
end Go.Proofs.YtajbhfmdmajpmaaGreatDoor
