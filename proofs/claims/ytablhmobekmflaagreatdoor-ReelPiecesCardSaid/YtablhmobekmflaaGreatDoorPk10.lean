/- Laid together: The walk of captionerref05.put: a span set into a list in its order. The walk of captionerref05.Join; span.Norm at spans in range. The maps, the cover and the played frames of an edit list, plainly; pieces in memory. -/
import Derived.Test.YtablhmobekmflaaGreatDoorPk09
import Derived.Test.YtablhmobekmflaaGreatDoorPk03
import Derived.Test.YtablhmobekmflaaGreatDoorPk04
import Derived.Test.YtablhmobekmflaaGreatDoorPk05
import Derived.Test.YtablhmobekmflaaGreatDoorPk06
import Derived.Test.YtablhmobekmflaaGreatDoorPk08
import Derived.Test.YtablhmobekmflaaGreatDoorPk02

/-! PutS -/
namespace Go.Proofs.YtablhmobekmflaaGreatDoor
set_option linter.unusedVariables false
set_option linter.unusedSimpArgs false
open Go.RowKit
def putT (l : List Spn) (s : Spn) : Nat := (l.takeWhile fun x => decide (x.inn ≤ s.inn)).length
theorem putS_eq (l : List Spn) (s : Spn) : putS l s = l.take (putT l s) ++ [s] ++ l.drop (putT l s) := by unfold putS putT; simp
theorem putT_le (l : List Spn) (s : Spn) : putT l s ≤ l.length := by unfold putT; exact (List.takeWhile_sublist _).length_le
theorem putS_len (l : List Spn) (s : Spn) : (putS l s).length = l.length + 1 := by
  have := putT_le l s
  rw [putS_eq]; simp [List.length_take]; omega
theorem putT_go : ∀ {l : List Spn} {s : Spn} {k : Nat} {x : Spn}, k ≤ putT l s → l[k]? = some x → (x.inn ≤ s.inn → k + 1 ≤ putT l s) ∧ (¬ x.inn ≤ s.inn → putT l s = k)
  | [], s, k, x, _, h => by simp at h
  | a :: l, s, 0, x, _, h => by
    simp at h; subst h
    unfold putT
    rw [List.takeWhile_cons]
    by_cases ha : a.inn ≤ s.inn
    · rw [if_pos (by simpa using ha)]; exact ⟨fun _ => by simp, fun h => absurd ha h⟩
    · rw [if_neg (by simpa using ha)]; exact ⟨fun h => absurd h ha, fun _ => rfl⟩
  | a :: l, s, k + 1, x, hk, h => by
    unfold putT at hk ⊢
    rw [List.takeWhile_cons] at hk ⊢
    by_cases ha : a.inn ≤ s.inn
    · rw [if_pos (by simpa using ha)] at hk ⊢
      simp only [List.length_cons] at hk ⊢
      have := putT_go (l := l) (s := s) (k := k) (x := x) (by unfold putT; omega) (by simpa using h)
      unfold putT at this
      exact ⟨fun h => by have := this.1 h; omega, fun h => by have := this.2 h; omega⟩
    · rw [if_neg (by simpa using ha)] at hk
      simp at hk
def PutSPost (l : List Spn) (w : World) (en : Ending) (w' : World) : Prop := ∃ v, en = .returned v ∧ w'.ownsRow w.heap.size 60 2 v l.length (l.flatMap Spn.vals) ∧ Ext w w'
def PutSRel (w0 : World) (l : List Spn) (s : Spn) (i : Value) (wr : World) : Prop := ∃ k : Nat, k ≤ putT l s ∧ i = .int .i64 k ∧ Ext w0 wr
set_option maxRecDepth 100000 in
set_option maxHeartbeats 16000000 in
theorem R5put_nil (s : Spn) (w : World) :
    Calls Tryz.prog 100 #[.slice none 0 0, .agg #[.int .i64 s.inn, .int .i64 s.out]] w (PutSPost (putS [] s) w) := by
  have HB0 := Lib.hid (Blk.new w 60 #[.int .i64 s.inn, .int .i64 s.out])
  have HX0 := Lib.hid ((Ext.refl w).alloc (.cells #[.int .i64 s.inn, .int .i64 s.out] 60))
  go_enter Tryz.func100, Tryz.ntmps100
  go_wp2_with fail
  obtain ⟨W1, hW1⟩ : ∃ W1, W1 = w.alloc (.cells #[.int .i64 s.inn, .int .i64 s.out] 60) := ⟨_, rfl⟩
  rw [← hW1] at HB0 HX0 ⊢
  clear hW1
  go_loopw [5] (fun i wr => PutSRel W1 [] s i wr) (fun i _ => 0 - (intOf i).toNat)
  case atStart => exact ⟨0, Nat.zero_le _, rfl, Ext.refl W1⟩
  case round =>
    obtain ⟨k, hk, rfl, hx⟩ := hrel
    have HX := Lib.hid hx
    have hk0 : k = 0 := by simp [putT] at hk; exact hk
    subst hk0
    have hcg := fun o => (HB0.out.ext hx).cell o
    clear hx hk
    go_wp2_with fail
    go_quiet (fail)
    clear hcg
    go_upto_region 4 with fail
    refine wp_drewN ?_
    intro w4 hx4 hs4
    have hx4 : Ext wr w4 := by first | exact hx4 | exact Ext.trans ((Ext.refl wr).drewN _) hx4
    have HX4 := Lib.hid (HX0.out.trans (HX.out.trans hx4))
    have HB4 := Lib.hid (HB0.out.ext (HX.out.trans hx4))
    have HT1 : Hid (Sl w4 2 (Cells Spn.vals) none 0 []) := Sl.nil
    have HT2 : Hid (∀ A, Sl w4 2 (Cells Spn.vals) A 0 []) := fun A => Sl.nil
    have hsz4 := HX4.out.size
    clear hx4 hs4
    go_wp2_with (first | (at_builtin; refine wpList_appendS rfl (.tmp 23) (.tmp 26) 35 rfl info_span Tryz.underlying35 rfl (by decide) (by exact own_nil0' (base := w4.heap.size) rfl (Nat.le_refl _)) (by exact rfl) (by exact rfl) (by exact Sl.ext (Cells.stays _) HT1.out ((Ext.refl w4).alloc _)) (fun _ => rfl) spn_ones (by omega) (by simp [maxLen] <;> omega) (by first | omega | (simp; omega) | simp) ?_; intro v1 w5 hown1 hgr1 hnil1; have hx5 : Ext w4 w5 := Ext.grown ((Ext.refl w4).alloc _) hgr1 (fun q hq => by simp [Value.ownBlock] at hq; omega); have hs5 := hx5.size; have b50 := (HB4.out.ext hx5).cell 0; have b51 := (HB4.out.ext hx5).cell 1; simp only [List.getElem?_toArray, List.getElem?_cons_zero, List.getElem?_cons_succ] at b50 b51; have HO1 := Lib.hid hown1; clear hown1 hgr1) | (at_builtin; refine wpList_append1 rfl (.tmp 28) (.tmp 30) 35 rfl info_span Tryz.underlying35 rfl (by decide) (HO1.out.alloc _) (by exact rfl) w5.heap.size _ (by exact rfl) (by exact Blk.new' rfl) (by exact rfl) (by simp [Value.oneCell']) (by omega) (by simp [maxLen] <;> omega) (by first | omega | (simp; omega) | simp) ?_; intro v2 w6 hown2 hgr2; have hx6 : Ext w4 w6 := Ext.grown (hx5.alloc _) hgr2 (fun q hq => by have := own_lt HO1.out q hq; omega); have hs6 := hx6.size; have HO2 := Lib.hid hown2; have HX6 := Lib.hid hx6; have HT6 := Lib.hid (fun A => Sl.ext (Cells.stays _) (HT2.out A) hx6); clear hown2 hgr2) | (at_builtin; refine wpList_appendS rfl (.tmp 32) (.tmp 35) 35 rfl info_span Tryz.underlying35 rfl (by decide) (by exact HO2.out) (by exact rfl) (by exact rfl) (by first | exact HT6.out | exact HT6.out _) (fun _ => rfl) spn_ones (by omega) (by simp [maxLen] <;> omega) (by first | omega | (simp; omega) | simp) ?_; intro v3 w7 hown3 hgr3 hnil3; have hx7 : Ext w4 w7 := Ext.grown HX6.out hgr3 (fun q hq => by have := own_lt HO2.out q hq; omega); have HO3 := Lib.hid hown3; clear hown3 hgr3))
    all_goals go_ret
    all_goals (refine ⟨_, rfl, ?_, HX4.out.trans hx7⟩; have h1 := own_le' HO3.out (show w.heap.size ≤ w4.heap.size from hsz4); exact h1)
set_option maxRecDepth 100000 in
set_option maxHeartbeats 16000000 in
theorem R5put_some (gb cap : Nat) (l : List Spn) (s : Spn) (w : World) (hl : SpnsAt w (some ⟨gb, 0, none⟩) l.length l) (hcap : l.length ≤ cap) (hn : l.length ≤ 1000000) :
    Calls Tryz.prog 100 #[.slice (some ⟨gb, 0, none⟩) l.length cap, .agg #[.int .i64 s.inn, .int .i64 s.out]] w (PutSPost (putS l s) w) := by
  have HL := Lib.hid hl
  clear hl
  have HB0 := Lib.hid (Blk.new w 60 #[.int .i64 s.inn, .int .i64 s.out])
  have HX0 := Lib.hid ((Ext.refl w).alloc (.cells #[.int .i64 s.inn, .int .i64 s.out] 60))
  go_enter Tryz.func100, Tryz.ntmps100
  go_wp2_with fail
  obtain ⟨W1, hW1⟩ : ∃ W1, W1 = w.alloc (.cells #[.int .i64 s.inn, .int .i64 s.out] 60) := ⟨_, rfl⟩
  rw [← hW1] at HB0 HX0 ⊢
  clear hW1
  go_loopw [5] (fun i wr => PutSRel W1 l s i wr) (fun i _ => l.length - (intOf i).toNat)
  case atStart => exact ⟨0, Nat.zero_le _, rfl, Ext.refl W1⟩
  case round =>
    obtain ⟨k, hk, rfl, hx⟩ := hrel
    have HX := Lib.hid hx
    have hpl := putT_le l s
    have b0 := (HB0.out.ext hx).cell 0
    have b1 := (HB0.out.ext hx).cell 1
    simp only [List.getElem?_toArray, List.getElem?_cons_zero, List.getElem?_cons_succ] at b0 b1
    clear hx
    by_cases hlt : k < l.length
    · have hji : (k : Int) < (l.length : Int) := by omega
      obtain ⟨b', off', x, hA', hxk, hC⟩ := (HL.out.ext (HX0.out.trans HX.out)).at_ hlt
      cases hA'
      have c0 := hC 0 _ rfl
      simp only [Nat.zero_add, Nat.add_zero] at c0
      have HGo := Lib.hid (putT_go hk hxk)
      clear hxk hC
      by_cases ht : x.inn ≤ s.inn
      · have hk1 : k + 1 ≤ putT l s := HGo.out.1 ht
        have hd : decide (x.inn ≤ s.inn) = true := by simpa using ht
        clear ht
        go_wp2_with fail
        go_quiet (fail)
        go_wp2_with fail
        exact ⟨⟨k + 1, hk1, by go_num, HX.out.drewN _⟩, by simp [intOf]; omega⟩
      · have HK := Lib.hid (HGo.out.2 ht)
        have hd : decide (x.inn ≤ s.inn) = false := by simpa using ht
        clear HGo ht
        go_wp2_with fail
        go_quiet (fail)
        clear c0 b0 b1 hd
        go_upto_region 4 with fail
        refine wp_drewN ?_
        intro w4 hx4 hs4
        have hx4 : Ext wr w4 := by first | exact hx4 | exact Ext.trans ((Ext.refl wr).drewN _) hx4
        have HX4 := Lib.hid (HX0.out.trans (HX.out.trans hx4))
        have HB4 := Lib.hid (HB0.out.ext (HX.out.trans hx4))
        have HT1 := Lib.hid ((HL.out.ext HX4.out).take (by omega : k ≤ l.length))
        have HT2 : Hid (Sl w4 2 (Cells Spn.vals) (some ⟨gb, k * 2, none⟩) (l.length - k) (l.drop k)) := by have h := (HL.out.ext HX4.out).drop k; rw [Nat.zero_add] at h; exact h
        have hsz4 := HX4.out.size
        clear hx4 hs4
        go_wp2_with (first | (at_builtin; refine wpList_appendS rfl (.tmp 23) (.tmp 26) 35 rfl info_span Tryz.underlying35 rfl (by decide) (by exact own_nil0' (base := w4.heap.size) rfl (Nat.le_refl _)) (by exact rfl) (by exact rfl) (by exact Sl.ext (Cells.stays _) HT1.out ((Ext.refl w4).alloc _)) (fun _ => rfl) spn_ones (by omega) (by simp [maxLen] <;> omega) (by first | omega | (simp; omega) | simp) ?_; intro v1 w5 hown1 hgr1 hnil1; have hx5 : Ext w4 w5 := Ext.grown ((Ext.refl w4).alloc _) hgr1 (fun q hq => by simp [Value.ownBlock] at hq; omega); have hs5 := hx5.size; have b50 := (HB4.out.ext hx5).cell 0; have b51 := (HB4.out.ext hx5).cell 1; simp only [List.getElem?_toArray, List.getElem?_cons_zero, List.getElem?_cons_succ] at b50 b51; have HO1 := Lib.hid hown1; clear hown1 hgr1) | (at_builtin; refine wpList_append1 rfl (.tmp 28) (.tmp 30) 35 rfl info_span Tryz.underlying35 rfl (by decide) (HO1.out.alloc _) (by exact rfl) w5.heap.size _ (by exact rfl) (by exact Blk.new' rfl) (by exact rfl) (by simp [Value.oneCell']) (by omega) (by simp [maxLen] <;> omega) (by first | omega | (simp; omega) | simp) ?_; intro v2 w6 hown2 hgr2; have hx6 : Ext w4 w6 := Ext.grown (hx5.alloc _) hgr2 (fun q hq => by have := own_lt HO1.out q hq; omega); have hs6 := hx6.size; have HO2 := Lib.hid hown2; have HX6 := Lib.hid hx6; have HT6 := Lib.hid (Sl.ext (Cells.stays _) HT2.out hx6); clear hown2 hgr2) | (at_builtin; refine wpList_appendS rfl (.tmp 32) (.tmp 35) 35 rfl info_span Tryz.underlying35 rfl (by decide) (by exact HO2.out) (by exact rfl) (by exact rfl) (by first | exact HT6.out | exact HT6.out _) (fun _ => rfl) spn_ones (by omega) (by simp [maxLen] <;> omega) (by first | omega | (simp; omega) | simp) ?_; intro v3 w7 hown3 hgr3 hnil3; have hx7 : Ext w4 w7 := Ext.grown HX6.out hgr3 (fun q hq => by have := own_lt HO2.out q hq; omega); have HO3 := Lib.hid hown3; clear hown3 hgr3))
        all_goals go_ret
        all_goals (refine ⟨_, rfl, ?_, HX4.out.trans hx7⟩; have h1 := own_le' HO3.out (show w.heap.size ≤ w4.heap.size from hsz4); have hl1 : putS l s = l.take k ++ [s] ++ l.drop k := (by rw [putS_eq, HK.out]); have hl2 : (putS l s).length = k + 1 + (l.length - k) := (by rw [putS_len]; omega); rw [hl2, hl1, List.flatMap_append, List.flatMap_append]; rw [Nat.zero_add] at h1; exact h1)
    · have hkl : k = l.length := by omega
      have HK : Hid (putT l s = k) := by show _ = _; omega
      have hji : decide ((k : Int) < (l.length : Int)) = false := by simp; omega
      have hk1 : k ≤ l.length := by omega
      clear hkl
      go_wp2_with fail
      go_quiet (fail)
      clear b0 b1
      go_upto_region 4 with fail
      refine wp_drewN ?_
      intro w4 hx4 hs4
      have hx4 : Ext wr w4 := by first | exact hx4 | exact Ext.trans ((Ext.refl wr).drewN _) hx4
      have HX4 := Lib.hid (HX0.out.trans (HX.out.trans hx4))
      have HB4 := Lib.hid (HB0.out.ext (HX.out.trans hx4))
      have HT1 := Lib.hid ((HL.out.ext HX4.out).take (by omega : k ≤ l.length))
      have HT2 : Hid (∀ A, Sl w4 2 (Cells Spn.vals) A (l.length - k) (l.drop k)) := fun A => ⟨by simp, fun h => absurd h (by omega)⟩
      have hsz4 := HX4.out.size
      clear hx4 hs4
      go_wp2_with (first | (at_builtin; refine wpList_appendS rfl (.tmp 23) (.tmp 26) 35 rfl info_span Tryz.underlying35 rfl (by decide) (by exact own_nil0' (base := w4.heap.size) rfl (Nat.le_refl _)) (by exact rfl) (by exact rfl) (by exact Sl.ext (Cells.stays _) HT1.out ((Ext.refl w4).alloc _)) (fun _ => rfl) spn_ones (by omega) (by simp [maxLen] <;> omega) (by first | omega | (simp; omega) | simp) ?_; intro v1 w5 hown1 hgr1 hnil1; have hx5 : Ext w4 w5 := Ext.grown ((Ext.refl w4).alloc _) hgr1 (fun q hq => by simp [Value.ownBlock] at hq; omega); have hs5 := hx5.size; have b50 := (HB4.out.ext hx5).cell 0; have b51 := (HB4.out.ext hx5).cell 1; simp only [List.getElem?_toArray, List.getElem?_cons_zero, List.getElem?_cons_succ] at b50 b51; have HO1 := Lib.hid hown1; clear hown1 hgr1) | (at_builtin; refine wpList_append1 rfl (.tmp 28) (.tmp 30) 35 rfl info_span Tryz.underlying35 rfl (by decide) (HO1.out.alloc _) (by exact rfl) w5.heap.size _ (by exact rfl) (by exact Blk.new' rfl) (by exact rfl) (by simp [Value.oneCell']) (by omega) (by simp [maxLen] <;> omega) (by first | omega | (simp; omega) | simp) ?_; intro v2 w6 hown2 hgr2; have hx6 : Ext w4 w6 := Ext.grown (hx5.alloc _) hgr2 (fun q hq => by have := own_lt HO1.out q hq; omega); have hs6 := hx6.size; have HO2 := Lib.hid hown2; have HX6 := Lib.hid hx6; have HT6 := Lib.hid (fun A => Sl.ext (Cells.stays _) (HT2.out A) hx6); clear hown2 hgr2) | (at_builtin; refine wpList_appendS rfl (.tmp 32) (.tmp 35) 35 rfl info_span Tryz.underlying35 rfl (by decide) (by exact HO2.out) (by exact rfl) (by exact rfl) (by first | exact HT6.out | exact HT6.out _) (fun _ => rfl) spn_ones (by omega) (by simp [maxLen] <;> omega) (by first | omega | (simp; omega) | simp) ?_; intro v3 w7 hown3 hgr3 hnil3; have hx7 : Ext w4 w7 := Ext.grown HX6.out hgr3 (fun q hq => by have := own_lt HO2.out q hq; omega); have HO3 := Lib.hid hown3; clear hown3 hgr3))
      all_goals go_ret
      all_goals (refine ⟨_, rfl, ?_, HX4.out.trans hx7⟩; have h1 := own_le' HO3.out (show w.heap.size ≤ w4.heap.size from hsz4); have hl1 : putS l s = l.take k ++ [s] ++ l.drop k := (by rw [putS_eq, HK.out]); have hl2 : (putS l s).length = k + 1 + (l.length - k) := (by rw [putS_len]; omega); rw [hl2, hl1, List.flatMap_append, List.flatMap_append]; rw [Nat.zero_add] at h1; exact h1)
end Go.Proofs.YtablhmobekmflaaGreatDoor

/-! JnS -/
namespace Go.Proofs.YtablhmobekmflaaGreatDoor
set_option linter.unusedVariables false
set_option linter.unusedSimpArgs false
open Go.RowKit
def srtK (zs : List Spn) (k : Nat) : List Spn := sortS' (full (zs.take k))
theorem sort_snoc (l : List Spn) (x : Spn) : sortS' (l ++ [x]) = putS (sortS' l) x := by unfold sortS'; rw [List.foldl_append]; rfl
theorem srtK_skip {zs : List Spn} {k : Nat} {x : Spn} (hx : zs[k]? = some x) (h : ¬ x.inn < x.out) : srtK zs (k + 1) = srtK zs k := by
  unfold srtK full; rw [take_snoc' _ _ _ hx, List.filter_append]; simp [h]
theorem srtK_add {zs : List Spn} {k : Nat} {x : Spn} (hx : zs[k]? = some x) (h : x.inn < x.out) : srtK zs (k + 1) = putS (srtK zs k) x := by
  unfold srtK full; rw [take_snoc' _ _ _ hx, List.filter_append]; simp only [List.filter_cons, List.filter_nil, decide_eq_true h, if_true]; exact sort_snoc _ _
theorem srtK_len (zs : List Spn) (k : Nat) : (srtK zs k).length ≤ k := by
  have h := (sortS_ok (full (zs.take k))).2.length_eq
  have := List.length_filter_le (fun s : Spn => decide (s.inn < s.out)) (zs.take k)
  unfold srtK full at *
  rw [List.length_take] at this
  omega
theorem mg_snocL (l : List Spn) (x : Spn) : mg (l ++ [x]) = mgStep (mg l) x := by unfold mg; rw [List.foldl_append]; rfl
def J1Rel (w : World) (n : Nat) (zs : List Spn) (v i : Value) (wr : World) : Prop :=
  ∃ k : Nat, k ≤ n ∧ i = .int .i64 k ∧ Ext w wr ∧ wr.ownsRow w.heap.size 60 2 v (srtK zs k).length ((srtK zs k).flatMap Spn.vals) ∧ (srtK zs k = [] → v = .slice none 0 0)
def J2Rel (w1 : World) (m : Nat) (l : List Spn) (v i : Value) (wr : World) : Prop :=
  ∃ k : Nat, k ≤ m ∧ i = .int .i64 k ∧ Ext w1 wr ∧ wr.ownsRow w1.heap.size 60 2 v (mg (l.take k)).length ((mg (l.take k)).flatMap Spn.vals)
set_option maxRecDepth 100000 in
set_option maxHeartbeats 8000000 in
theorem R5Join_any (A : Option Addr) (n c : Nat) (zs : List Spn) (w : World) (hl : SpnsAt w A n zs) (hn : n ≤ 1000000) :
    Calls Tryz.prog 44 #[.slice A n c] w (SpnsPost (joinS zs) w) := by
  have HL0 := Lib.hid hl
  have HLn := Lib.hid hl.len
  clear hl
  unfold SpnsPost
  go_enter Tryz.func44, Tryz.ntmps44
  go_wp2_with fail
  go_loopw [3, 12] (fun v i wr => J1Rel w n zs v i wr) (fun _ i _ => n - (intOf i).toNat)
  case atStart => exact ⟨0, Nat.zero_le _, rfl, Ext.refl _, ⟨rfl, .inl ⟨rfl, rfl⟩⟩, fun _ => rfl⟩
  case round =>
    obtain ⟨k, hk, rfl, hx, hown, hnil⟩ := hrel
    have HX := Lib.hid hx
    have HO := Lib.hid hown
    have HN := Lib.hid hnil
    have hsl := srtK_len zs k
    have hzr := hx.size
    clear hx hown hnil
    by_cases hlt : k < n
    · obtain ⟨b, off, x, rfl, hxk, hC⟩ := (HL0.out.ext HX.out).at_ hlt
      have c0 := hC 0 _ rfl
      have c1 := hC 1 _ rfl
      simp only [Nat.add_zero] at c0
      have HXk := Lib.hid hxk
      have HXx := Lib.hid ((Ext.refl wr).alloc (.cells #[.int .i64 x.inn, .int .i64 x.out] 60))
      clear hC hxk
      by_cases hio : x.inn < x.out
      · have HT2 := Lib.hid (srtK_add HXk.out hio)
        have hpl := putS_len (srtK zs k) x
        have hd1 : decide (x.inn < x.out) = true := by simpa using hio
        clear HXk hio
        generalize srtK zs k = S at *
        rcases Classical.em (S = []) with hs | hs
        · have hv := HN.out hs
          subst hv hs
          have HP := Lib.hid (fun w' => R5put_nil x w')
          clear HO HN
          go_wp2_with fail
          refine (HP.out _).mono ?_
          rintro e w2 ⟨v2, rfl, ho2, hx2⟩
          have HX2 := Lib.hid (HX.out.trans (HXx.out.trans hx2))
          have HO2 := Lib.hid (own_le' ho2 (show w.heap.size ≤ _ by have := HXx.out.size; omega))
          clear ho2 hx2 HP
          go_wp2_with fail
          exact ⟨⟨k + 1, by omega, by go_num, HX2.out, by rw [HT2.out]; exact HO2.out, fun h => by rw [HT2.out] at h; rw [h] at hpl; simp at hpl⟩, by simp [intOf]; omega⟩
        · have hpos : 0 < S.length := List.length_pos_iff.2 hs
          obtain ⟨g, cap, rfl, hg1, hg2⟩ := own_form HO.out hpos
          obtain ⟨A', c', he, hcc, _, hSl, _⟩ := own_sl (f := Spn.vals) (size := 2) (fun _ => rfl) rfl HO.out
          injection he with e1 e2 e3
          subst e1 e3
          have HP := Lib.hid (fun w' (hx : Ext wr w') => R5put_some g cap S x w' (Sl.ext (Cells.stays _) hSl hx) hcc (by omega))
          clear HN hSl hs hcc e2
          go_wp2_with fail
          refine (HP.out _ HXx.out).mono ?_
          rintro e w2 ⟨v2, rfl, ho2, hx2⟩
          have HX2 := Lib.hid (HX.out.trans (HXx.out.trans hx2))
          have HO2 := Lib.hid (own_le' ho2 (show w.heap.size ≤ _ by have := HXx.out.size; omega))
          clear ho2 hx2 HP
          go_wp2_with fail
          exact ⟨⟨k + 1, by omega, by go_num, HX2.out, by rw [HT2.out]; exact HO2.out, fun h => by rw [HT2.out] at h; rw [h] at hpl; simp at hpl⟩, by simp [intOf]; omega⟩
      · have HT2 := Lib.hid (srtK_skip HXk.out hio)
        have hd1 : decide (x.inn < x.out) = false := by simpa using hio
        clear HXk hio
        go_wp2_with fail
        exact ⟨⟨k + 1, by omega, by go_num, HX.out.trans HXx.out, by rw [HT2.out]; exact own_ext HO.out HXx.out, fun h => by rw [HT2.out] at h; exact HN.out h⟩, by simp [intOf]; omega⟩
    · have hkn : k = n := by omega
      subst hkn
      have HMJ : Hid (mg (srtK zs k) = joinS zs) := by show _ = _; unfold srtK; rw [List.take_of_length_le (by rw [HLn.out]; exact Nat.le_refl _)]; rfl
      generalize srtK zs k = l at *
      obtain ⟨SA, sc, rfl, hsc, hscm, hS, hfr⟩ := own_sl (f := Spn.vals) (size := 2) (fun _ => rfl) rfl HO.out
      have HL : Hid (SpnsAt wr SA l.length l) := hS
      obtain ⟨m, hm⟩ : ∃ m, m = l.length := ⟨_, rfl⟩
      rw [← hm] at HL HO hsl
      have HM := Lib.hid hm
      have hm6 : m ≤ 1000000 := by omega
      obtain ⟨w1, hw1⟩ : ∃ w1, w1 = wr := ⟨_, rfl⟩
      subst hw1
      have HX1 := HX
      rw [← hm]
      clear hS hfr hsc hscm hm HN HO HX
      go_wp2_with fail
      go_loopw [4, 27] (fun v i wr => J2Rel w1 m l v i wr) (fun _ i _ => m - (intOf i).toNat)
      case atStart => exact ⟨0, Nat.zero_le _, rfl, Ext.refl _, ⟨rfl, .inl ⟨rfl, rfl⟩⟩⟩
      case round =>
        obtain ⟨q, hq, rfl, hx, hown⟩ := hrel
        have HX := Lib.hid hx
        have HO := Lib.hid hown
        have hml : (mg (l.take q)).length ≤ q := by have := mg_fold_len (l.take q) []; rw [List.length_take] at this; unfold mg; simp at this; omega
        have hzr2 := hx.size
        clear hx hown
        by_cases hqt : q < m
        case neg =>
          have hqm : q = m := by omega
          subst hqm
          have HT : Hid (mg (l.take q) = joinS zs) := by show _ = _; rw [List.take_of_length_le (by rw [HM.out]; exact Nat.le_refl _)]; exact HMJ.out
          rw [HT.out] at HO
          obtain ⟨A', c', rfl, hc, _, hS, hfr⟩ := own_sl (f := Spn.vals) (size := 2) (fun _ => rfl) rfl HO.out
          have HR := Lib.hid (And.intro hc (And.intro hS (And.intro hfr (HX1.out.trans HX.out))))
          clear hc hS hfr HO HT
          go_wp2_with fail
          go_ret
          exact ⟨A', c', rfl, HR.out.2.1, HR.out.1, HR.out.2.2.2, fun ad h => Nat.le_trans hzr (HR.out.2.2.1 ad h)⟩
        obtain ⟨b, off, x, rfl, hxk, hC⟩ := (HL.out.ext HX.out).at_ hqt
        have c0 := hC 0 _ rfl
        have c1 := hC 1 _ rfl
        simp only [Nat.add_zero] at c0
        have HTk := Lib.hid (take_snoc' l q x hxk)
        have HBx := Lib.hid (Blk.new wr 60 #[.int .i64 x.inn, .int .i64 x.out])
        have HXx := Lib.hid ((Ext.refl wr).alloc (.cells #[.int .i64 x.inn, .int .i64 x.out] 60))
        have HT2 : Hid (mg (l.take (q + 1)) = mgStep (mg (l.take q)) x) := by show _ = _; rw [HTk.out, mg_snocL]
        clear hC hxk HTk
        generalize mg (l.take q) = os at *
        rcases Classical.em (os = []) with hos | hos
        · subst hos
          obtain ⟨A', cap', rfl, hcap, hcm, _, _⟩ := own_sl (f := Spn.vals) (size := 2) (l := []) (fun _ => rfl) rfl HO.out
          rw [mg_none] at HT2
          simp only [List.length_nil] at *
          go_wp2_with fail
          go_quiet (fail)
          go_upto_region 14 with fail
          refine wp_drewN ?_
          intro w3 hx3 hs3
          have HXw3 := Lib.hid (HXx.out.trans hx3)
          have HO3 := Lib.hid (own_ext HO.out HXw3.out)
          have HBx3 := Lib.hid (HBx.out.ext hx3)
          have hcl3 := fun o => HBx3.out.cell o
          have hb3 := HXw3.out.size
          clear hx3 hs3
          go_wp2_with (at_builtin; refine wpList_append1 rfl (.tmp 60) (.tmp 62) 35 rfl info_span Tryz.underlying35 rfl (by decide) (HO3.out.alloc _) (by exact rfl) w3.heap.size _ (by exact rfl) (by exact Blk.new' rfl) (by exact rfl) (by simp [Value.oneCell']) (by omega) (by simp [maxLen] <;> omega) (by first | omega | (simp; omega) | simp) ?_; intro v5 w5 hown5 hgr; have HO5 := Lib.hid hown5; have HX5 := Lib.hid (Ext.grown ((HX.out.trans HXw3.out).alloc _) hgr (fun q hq => own_lt HO3.out q hq)); clear hown5 hgr)
          exact ⟨⟨q + 1, by omega, by go_num, HX5.out, by rw [HT2.out]; exact HO5.out⟩, by simp [intOf]; omega⟩
        obtain ⟨ps, p, rfl⟩ := snocSp hos
        clear hos
        have hlen : (ps ++ [p]).length = ps.length + 1 := by simp
        rw [hlen] at HO hml
        clear hlen
        obtain ⟨g, cap, rfl, hg1, hg2, hCp⟩ := sp_cell HO.out
        have p1 := HXx.out.cell (hCp 1 _ rfl)
        clear hCp
        rw [mg_snoc] at HT2
        by_cases hjoin : x.inn ≤ p.out
        · rw [if_pos hjoin] at HT2
          have d1 : decide (x.inn ≤ p.out) = true := by simpa using hjoin
          clear hjoin
          go_wp2_with fail
          go_quiet (fail)
          go_upto_region 13 with fail
          refine wp_drewN ?_
          intro w3 hx3 hs3
          have HXw3 := Lib.hid (HXx.out.trans hx3)
          have HO3 := Lib.hid (own_ext HO.out HXw3.out)
          have HBx3 := Lib.hid (HBx.out.ext hx3)
          have q1 := hx3.cell p1
          have b1 := HBx3.out.cell 1
          simp only [List.getElem?_toArray, List.getElem?_cons_zero, List.getElem?_cons_succ] at b1
          have hfg := World.ownsRow.frozenAt HO3.out (ps.length * 2 + 1)
          obtain ⟨hst, hgr⟩ := World.ownsRow.stored HO3.out (ps.length * 2 + 1) (.int .i64 (max p.out x.out))
          have HO5 := Lib.hid hst
          have HX5 := Lib.hid (Ext.grown (HX.out.trans HXw3.out) hgr (fun q hq => by cases hq; exact hg1))
          have HSO := Lib.hid (sp_set (ps := ps) (p := p) (max p.out x.out))
          clear hst hgr hx3 hs3 p1
          go_region
          try simp only [Exit.inBlock, Exit.then]
          have HF := Lib.hid (And.intro (HX5.out.drew) (own_ext HO5.out (Ext.refl _).drew))
          go_wp2_with fail
          exact ⟨⟨q + 1, by omega, by go_num, HF.out.1, by rw [HT2.out, ← HSO.out, show (ps ++ [(⟨p.inn, max p.out x.out⟩ : Spn)]).length = ps.length + 1 by simp]; exact HF.out.2⟩, by simp [intOf]; omega⟩
        · rw [if_neg hjoin] at HT2
          have d1 : decide (x.inn ≤ p.out) = false := by simpa using hjoin
          clear hjoin
          go_wp2_with fail
          go_quiet (fail)
          go_upto_region 14 with fail
          refine wp_drewN ?_
          intro w3 hx3 hs3
          have HXw3 := Lib.hid (HXx.out.trans hx3)
          have HO3 := Lib.hid (own_ext HO.out HXw3.out)
          have HBx3 := Lib.hid (HBx.out.ext hx3)
          have hcl3 := fun o => HBx3.out.cell o
          have hb3 := HXw3.out.size
          clear hx3 hs3 p1
          go_wp2_with (at_builtin; refine wpList_append1 rfl (.tmp 60) (.tmp 62) 35 rfl info_span Tryz.underlying35 rfl (by decide) (HO3.out.alloc _) (by exact rfl) w3.heap.size _ (by exact rfl) (by exact Blk.new' rfl) (by exact rfl) (by simp [Value.oneCell']) (by omega) (by simp [maxLen] <;> omega) (by first | omega | (simp; omega) | simp) ?_; intro v5 w5 hown5 hgr; have HO5 := Lib.hid hown5; have HX5 := Lib.hid (Ext.grown ((HX.out.trans HXw3.out).alloc _) hgr (fun q hq => own_lt HO3.out q hq)); clear hown5 hgr)
          exact ⟨⟨q + 1, by omega, by go_num, HX5.out, by rw [HT2.out, show ps ++ [p, x] = (ps ++ [p]) ++ [x] by simp, List.flatMap_append, show ((ps ++ [p]) ++ [x]).length = ps.length + 1 + 1 by simp]; exact HO5.out⟩, by simp [intOf]; omega⟩
def NmRel (w : World) (n : Nat) (i : Value) (wr : World) : Prop := ∃ k : Nat, k ≤ n ∧ i = .int .i64 k ∧ Ext w wr
def SpnsPost2 (l : List Spn) (w : World) (en : Ending) (w' : World) : Prop := ∃ A c, en = .returned (.tuple #[.slice A l.length c, .int .i64 0]) ∧ SpnsAt w' A l.length l ∧ l.length ≤ c ∧ Ext w w' ∧ ∀ ad, A = some ad → w.heap.size ≤ ad.block
set_option maxRecDepth 100000 in
set_option maxHeartbeats 2000000 in
theorem Norm_ok (A : Option Addr) (n c : Nat) (zs : List Spn) (w : World) (hl : SpnsAt w A n zs) (hn : n ≤ 400) (hr : ∀ s ∈ zs, s.inn < s.out → 0 ≤ s.inn ∧ s.out ≤ 10378368000) :
    Calls Tryz.prog 43 #[.slice A n c] w (SpnsPost2 (joinS zs) w) := by
  have HL := Lib.hid hl
  have HR := Lib.hid hr
  have HM := Lib.hid (fun w' (hx : Ext w w') => Merge_any A n c zs w' (hl.ext hx) (by omega))
  have hb : decide ((n : Int) > 400) = false := by simp; omega
  have hb2 : decide ((400 : Int) < n) = false := by simp; omega
  clear hl hr
  unfold SpnsPost2
  unfold SpnsPost at HM
  go_enter Tryz.func43, Tryz.ntmps43
  go_wp2_with fail
  clear hb hb2
  go_loopw [11] (fun i wr => NmRel w n i wr) (fun i _ => n - (intOf i).toNat)
  case atStart => exact ⟨0, Nat.zero_le _, rfl, Ext.refl _⟩
  case round =>
    obtain ⟨k, hk, rfl, hx⟩ := hrel
    have HX := Lib.hid hx
    clear hx
    by_cases hlt : k < n
    · obtain ⟨b, off, x, rfl, hxk, hC⟩ := (HL.out.ext HX.out).at_ hlt
      have c0 := hC 0 _ rfl
      have c1 := hC 1 _ rfl
      simp only [Nat.add_zero] at c0
      have hxr := HR.out x (List.mem_of_getElem? hxk)
      have HXx := Lib.hid (HX.out.alloc (.cells #[.int .i64 x.inn, .int .i64 x.out] 60))
      clear hC hxk
      by_cases hio : x.inn < x.out
      · obtain ⟨h1, h2⟩ := hxr hio
        have d1 : decide (x.inn < x.out) = true := by simpa using hio
        have d2 : decide (x.inn < 0) = false := by simpa using h1
        have d3 : decide (x.out > 10378368000) = false := by simpa using h2
        have d4 : decide (10378368000 < x.out) = false := by simpa using h2
        clear hio hxr h1 h2
        go_wp2_with fail
        exact ⟨⟨k + 1, by omega, by go_num, HXx.out⟩, by simp [intOf]; omega⟩
      · have d1 : decide (x.inn < x.out) = false := by simpa using hio
        clear hio hxr
        go_wp2_with fail
        exact ⟨⟨k + 1, by omega, by go_num, HXx.out⟩, by simp [intOf]; omega⟩
    · have hkn : k = n := by omega
      subst hkn
      go_wp2_with fail
      refine (HM.out _ HX.out).mono ?_
      rintro e w2 ⟨A', c', rfl, h1, h2, h3, h4⟩
      have HF := Lib.hid (And.intro h1 (And.intro h2 (And.intro (HX.out.trans h3) (fun ad h => Nat.le_trans HX.out.size (h4 ad h)))))
      clear h1 h2 h3 h4
      go_wp2_with fail
      go_ret2
      exact ⟨A', c', rfl, HF.out.1, HF.out.2.1, HF.out.2.2.1, HF.out.2.2.2⟩
end Go.Proofs.YtablhmobekmflaaGreatDoor

/-! PcsP -/
namespace Go.Proofs.YtablhmobekmflaaGreatDoor
set_option linter.unusedVariables false
set_option linter.unusedSimpArgs false
open Go.RowKit
/-- a piece of a map -/
structure Pc where
  inn : Int
  out : Int
  dst : Int
  n : Int
  d : Int
  deriving DecidableEq
def Pc.vals (p : Pc) : List Value := [.int .i64 p.inn, .int .i64 p.out, .int .i64 p.dst, .int .i64 p.n, .int .i64 p.d]
def PcsAt (w : World) (A : Option Addr) (n : Nat) (l : List Pc) : Prop := Sl w 5 (Cells Pc.vals) A n l
theorem PcsAt.ext {w w1 : World} {A : Option Addr} {n : Nat} {l : List Pc} (h : PcsAt w A n l) (k : Ext w w1) : PcsAt w1 A n l := Sl.ext (Cells.stays _) h k
theorem info_pc : (Tryz.prog.info? 95).map (fun i => (i.zero, i.size, i.bytes)) = some (some (.agg #[.int .i64 0, .int .i64 0, .int .i64 0, .int .i64 0, .int .i64 0]), 5, 40) := by kernel_rfl
def Cut.pc (c : Cut) : Pc := ⟨c.inn, c.out, c.src, c.n, c.d⟩
def pcsC (l : List Cut) (s : ByteArray) : List Pc := (l.filter fun c => decide (c.reel = s)).map Cut.pc
def covC (l : List Cut) : List Spn := l.map fun c => ⟨c.inn, c.out⟩
def Cut.pl (c : Cut) : Spn := ⟨c.src, srcAt c (c.out - 1) + 1⟩
def plC (l : List Cut) (s : ByteArray) : List Spn := (l.filter fun c => decide (c.reel = s)).map Cut.pl
def pcsE (e : Edl) (s : ByteArray) : List Pc := if edlErr e = 0 then pcsC e.cuts s else []
def covE (e : Edl) : List Spn := if edlErr e = 0 then joinS (covC e.cuts) else []
def plE (e : Edl) (s : ByteArray) : List Spn := if edlErr e = 0 then joinS (plC e.cuts s) else []
theorem filt_yes {l : List Cut} {k : Nat} {c : Cut} {s : ByteArray} (h : l[k]? = some c) (hs : c.reel = s) : (l.take (k + 1)).filter (fun c => decide (c.reel = s)) = (l.take k).filter (fun c => decide (c.reel = s)) ++ [c] := by
  rw [take_snoc' _ _ _ h, List.filter_append]; simp [hs]
theorem filt_no {l : List Cut} {k : Nat} {c : Cut} {s : ByteArray} (h : l[k]? = some c) (hs : ¬ c.reel = s) : (l.take (k + 1)).filter (fun c => decide (c.reel = s)) = (l.take k).filter (fun c => decide (c.reel = s)) := by
  rw [take_snoc' _ _ _ h, List.filter_append]; simp [hs]
theorem pcsC_yes {l : List Cut} {k : Nat} {c : Cut} {s : ByteArray} (h : l[k]? = some c) (hs : c.reel = s) : pcsC (l.take (k + 1)) s = pcsC (l.take k) s ++ [c.pc] := by unfold pcsC; rw [filt_yes h hs, List.map_append]; rfl
theorem pcsC_no {l : List Cut} {k : Nat} {c : Cut} {s : ByteArray} (h : l[k]? = some c) (hs : ¬ c.reel = s) : pcsC (l.take (k + 1)) s = pcsC (l.take k) s := by unfold pcsC; rw [filt_no h hs]
theorem plC_yes {l : List Cut} {k : Nat} {c : Cut} {s : ByteArray} (h : l[k]? = some c) (hs : c.reel = s) : plC (l.take (k + 1)) s = plC (l.take k) s ++ [c.pl] := by unfold plC; rw [filt_yes h hs, List.map_append]; rfl
theorem plC_no {l : List Cut} {k : Nat} {c : Cut} {s : ByteArray} (h : l[k]? = some c) (hs : ¬ c.reel = s) : plC (l.take (k + 1)) s = plC (l.take k) s := by unfold plC; rw [filt_no h hs]
theorem covC_add {l : List Cut} {k : Nat} {c : Cut} (h : l[k]? = some c) : covC (l.take (k + 1)) = covC (l.take k) ++ [⟨c.inn, c.out⟩] := by unfold covC; rw [take_snoc' _ _ _ h, List.map_append]; rfl
theorem pcsC_len (l : List Cut) (s : ByteArray) (k : Nat) : (pcsC (l.take k) s).length ≤ k := by
  have := List.length_filter_le (fun c : Cut => decide (c.reel = s)) (l.take k)
  unfold pcsC; rw [List.length_map]; rw [List.length_take] at this; omega
theorem plC_len (l : List Cut) (s : ByteArray) (k : Nat) : (plC (l.take k) s).length ≤ k := by
  have := List.length_filter_le (fun c : Cut => decide (c.reel = s)) (l.take k)
  unfold plC; rw [List.length_map]; rw [List.length_take] at this; omega
theorem covC_len (l : List Cut) (k : Nat) : (covC (l.take k)).length ≤ k := by unfold covC; rw [List.length_map, List.length_take]; omega
theorem srcAt_bd {c : Cut} (h : c.Sane) {t : Int} (h1 : c.inn ≤ t) (h2 : t < c.out) : 0 ≤ srcAt c t ∧ srcAt c t ≤ 50000000 := by
  obtain ⟨a1, a2, a3, a4, a5, a6, a7, a8, a9⟩ := h
  have hm := mul_bd8 (a := t - c.inn) (n := c.n) (by omega) (by omega) a4 a5
  have hq := div_bd hm.1 hm.2 a6
  unfold srcAt; omega
theorem pl_sane {c : Cut} (h : c.Sane) : 0 ≤ c.pl.inn ∧ c.pl.out ≤ 10378368000 := by
  have h2 := srcAt_bd h (t := c.out - 1) (by have := h.2.1; omega) (by omega)
  exact ⟨h.2.2.2.2.2.2.2.1, by show srcAt c (c.out - 1) + 1 ≤ _; omega⟩
def LPost {α : Type} (f : α → List Value) (size : Nat) (l : List α) (err : Int) (w : World) (en : Ending) (w' : World) : Prop :=
  ∃ A c, en = .returned (.tuple #[.slice A l.length c, .int .i64 err]) ∧ Sl w' size (Cells f) A l.length l ∧ l.length ≤ c ∧ Ext w w' ∧ ∀ ad, A = some ad → w.heap.size ≤ ad.block
def LRel {α : Type} (f : α → List Value) (size : Nat) (T : TypeId) (w1 : World) (n : Nat) (F : Nat → List α) (v i : Value) (wr : World) : Prop :=
  ∃ k : Nat, k ≤ n ∧ i = .int .i64 k ∧ Ext w1 wr ∧ wr.ownsRow w1.heap.size T size v (F k).length ((F k).flatMap f)
/-- 'out = append(out, span)' behind a call, in a drawn region -/
def PyS (cells : Array Value) (base : Nat) (v : Value) (k : Nat) (xs : List Value) (W : World) : List Value → World → Prop
  | [], w' => Ext W w'
  | [_], w' => Ext W w'
  | [_, u1], w' => (∃ g, u1 = .slice (some ⟨g, 0, none⟩) 1 1 ∧ Blk w' g 60 cells) ∧ Ext W w'
  | [_, _, u2], w' => ∃ w5, Ext W w5 ∧ w5.grownBy w' v.ownBlock ∧ w'.ownsRow base 60 2 u2 (k + 1) (xs ++ cells.toList)
  | [_, _, u2, u3], w' => u3 = u2 ∧ ∃ w5, Ext W w5 ∧ w5.grownBy w' v.ownBlock ∧ w'.ownsRow base 60 2 u2 (k + 1) (xs ++ cells.toList)
  | _, _ => False
structure PyJ (r : Int) (cells : Array Value) (base : Nat) (v : Value) (k : Nat) (xs : List Value) (W : World) (us : List Value) (w' : World) : Prop where
  only : Only 60 W w'
  val : ∀ u, us[0]? = some u → u = .int .i64 r
  st : PyS cells base v k xs W us w'
section
variable {r : Int} {cells : Array Value} {base k : Nat} {v : Value} {xs : List Value} {W w' w2 : World} {u0 u1 u2 : Value}
theorem PyJ.start (W : World) : PyJ r cells base v k xs W [] W.drew := ⟨Only.ext (Ext.refl W).drew, fun u h => by simp at h, (Ext.refl W).drew⟩
theorem PyJ.call (h : PyJ r cells base v k xs W [] w') (hx : Ext w' w2) : PyJ r cells base v k xs W ([] ++ [.int .i64 r]) w2 :=
  ⟨h.only.trans (Only.ext hx), fun u hu => by simpa using hu.symm, Ext.trans h.st hx⟩
theorem PyJ.build (h : PyJ r cells base v k xs W [u0] w') : PyJ r cells base v k xs W ([u0] ++ [.slice (some ⟨w'.heap.size, 0, none⟩) 1 1]) (w'.alloc (.cells cells 60)) :=
  ⟨h.only.trans (Only.ext ((Ext.refl w').alloc _)), fun u hu => h.val u (by simpa using hu), ⟨⟨_, rfl, Blk.new w' _ _⟩, Ext.alloc h.st _⟩⟩
theorem PyJ.app (h : PyJ r cells base v k xs W [u0, u1] w') (hv : ∀ q, v.ownBlock = some q → Typed w' 60 q) (hg : w'.grownBy w2 v.ownBlock) (ho : w2.ownsRow base 60 2 u2 (k + 1) (xs ++ cells.toList)) : PyJ r cells base v k xs W ([u0, u1] ++ [u2]) w2 :=
  ⟨h.only.trans (Only.grown hg hv), fun u hu => h.val u (by simpa using hu), ⟨w', h.st.2, hg, ho⟩⟩
theorem PyJ.asg (h : PyJ r cells base v k xs W [u0, u1, u2] w') : PyJ r cells base v k xs W ([u0, u1, u2] ++ [u2]) w' := ⟨h.only, fun u hu => h.val u (by simpa using hu), ⟨rfl, h.st⟩⟩
end
theorem wp_append1p {P : Program} {o : Oper} {a : Act} {w : World} {K : Act → World → Prop} {Q : Exit → Act → World → Prop} (s x : Operand) (t : TypeId)
    (ho : o.op = .call { callee := .builtin .append, args := #[s, x], argTypes := #[t, t] })
    {base : Nat} {e : TypeId} {z : Value} {size bytes : Nat} (inf : (P.info? e).map (fun i => (i.zero, i.size, i.bytes)) = some (some z, size, bytes)) (ht : P.underlying t = some (.slice e)) (hzs : z.cells.size = size) (hsz : 0 < size)
    {v : Value} {n : Nat} {xs : List Value} (hown : w.ownsRow base e size v n xs) (hs : a.eval s = v) (g : Nat) (news : Array Value) (hx : a.eval x = .slice (some ⟨g, 0, none⟩) 1 1) (hB : Blk w g e news) (hl : news.size = size) (h1 : news.all (·.oneCell') = true)
    (hroom : (n + 1) * bytes ≤ 140737488355328) (hmax : n + 1 ≤ maxLen) (hbase : base ≤ w.heap.size)
    (h : ∀ v' w', w'.ownsRow base e size v' (n + 1) (xs ++ news.toList) → w.grownBy w' v.ownBlock → K (a.put o.dst v') w') : o.wp P a w K Q := by
  obtain ⟨i, hi, hz0, hz1, hz2⟩ := info_parts inf
  obtain ⟨v', w', hrun, h2, h3, _, _⟩ := run_append_own_at (P := P) w base t o.type e i z size bytes ht hi hz0 hz1 hz2 hzs hsz v n xs hown ⟨g, 0, none⟩ 1 1 news.toList (by simpa using hl)
    (fun j u hu => by rw [Addr.add_mid, Nat.zero_add, hB.cell]; simpa using hu) (fun u hu => (Array.all_eq_true_iff_forall_mem.1 h1) u (by simpa using hu)) hmax hroom hbase
  unfold Oper.wp execOp
  simp only [ho, resolve, invoke, builtin, Sem.run_bind, Sem.run_pure, Result.andThen_ok, List.map_toArray, List.map_cons, List.map_nil, hs, hx, hrun]
  exact h v' w' h2 h3
end Go.Proofs.YtablhmobekmflaaGreatDoor
