/- The walks of event.Split and of the reference's Split: the parts. -/
import Derived.Test.YtcgflkmkdpgchaaDoorSplitB
namespace Go.Proofs.YtcgflkmkdpgchaaDoor
set_option linter.unusedVariables false
set_option linter.unusedSimpArgs false
open Go.RowKit

theorem Sl.take {α : Type} {C : World → Nat → Nat → α → Prop} {w : World} {size n : Nat} {A : Option Addr} {l : List α} (h : Sl w size C A n l) {k : Nat} (hk : k ≤ n) : Sl w size C A k (l.take k) := by
  refine ⟨by simp [h.1]; omega, fun h0 => ?_⟩
  obtain ⟨b, off, hA, hc⟩ := h.2 (by omega)
  refine ⟨b, off, hA, fun i x hx => hc i x ?_⟩
  rw [List.getElem?_take] at hx
  split at hx
  · exact hx
  · cases hx
theorem Sl.drop {α : Type} {C : World → Nat → Nat → α → Prop} {w : World} {size n b o : Nat} {l : List α} (h : Sl w size C (some ⟨b, o, none⟩) n l) (k : Nat) : Sl w size C (some ⟨b, o + k * size, none⟩) (n - k) (l.drop k) := by
  refine ⟨by simp [h.1], fun h0 => ?_⟩
  obtain ⟨b', off, hA, hc⟩ := h.2 (by omega)
  injection hA with hA
  injection hA with hb ho _
  subst hb ho
  refine ⟨_, _, rfl, fun i x hx => ?_⟩
  rw [List.getElem?_drop] at hx
  have := hc (k + i) x hx
  rw [Nat.add_mul] at this
  rw [Nat.add_assoc]
  exact this
theorem RowsFresh.take {w : World} {L : Nat} {A : Option Addr} {n : Nat} {l : List Row} (h : RowsFresh w L A n l) {k : Nat} (hk : k ≤ n) : RowsFresh w L A k (l.take k) := by
  obtain ⟨hs, h1, h2, h3, h4, h5⟩ := h
  refine ⟨hs.take k, Sl.take h1 hk, fun i hd r a b => ?_, by simp [h3]; omega, h4, fun x hx => h5 x (List.mem_of_mem_take hx)⟩
  rw [List.getElem?_take] at a b
  split at a
  · rename_i hi
    rw [if_pos hi] at b
    exact h2 i hd r a b
  · cases a
theorem RowsFresh.drop {w : World} {L b o : Nat} {n : Nat} {l : List Row} (h : RowsFresh w L (some ⟨b, o, none⟩) n l) (k : Nat) : RowsFresh w L (some ⟨b, o + k, none⟩) (n - k) (l.drop k) := by
  obtain ⟨hs, h1, h2, h3, h4, h5⟩ := h
  refine ⟨hs.drop k, ?_, fun i hd r a b => ?_, by simp [h3], ?_, fun x hx => h5 x (List.mem_of_mem_drop hx)⟩
  · have := Sl.drop h1 k
    rwa [Nat.mul_one] at this
  · rw [List.getElem?_drop] at a b
    exact h2 (k + i) hd r a b
  · intro ad e
    injection e with e
    subst e
    exact h4 ⟨b, o, none⟩ rfl
theorem two_re (w : World) {ga gb : Nat} (hne : ga ≠ gb) (ca cb a b : Array Value) : two w ga gb ca cb = putB (putB (two w ga gb a b) ga 27 ca) gb 27 cb := by
  unfold two
  rw [putB_comm (putB w ga _ a) (Ne.symm hne) _ _ b ca, putB_putB, putB_putB]
theorem two_blk {w : World} {ga gb g : Nat} (hne : ga ≠ gb) (h1 : ga ≠ g) (h2 : gb ≠ g) {a b ca cb cs : Array Value} {t : TypeId} (h : Blk (two w ga gb a b) g t cs) : Blk (two w ga gb ca cb) g t cs := by
  rw [two_re w hne ca cb a b]
  exact (h.put_other h1 _).put_other h2 _
theorem two_ext {w w0 : World} {ga gb : Nat} (hne : ga ≠ gb) {a b ca cb : Array Value} (h : Ext w0 (two w ga gb a b)) (h1 : w0.heap.size ≤ ga) (h2 : w0.heap.size ≤ gb) : Ext w0 (two w ga gb ca cb) := by
  rw [two_re w hne ca cb a b]
  exact (h.put h1 _ _).put h2 _ _
theorem two_fresh {w : World} {ga gb L : Nat} (hne : ga ≠ gb) (hga : ga < w.heap.size) (hgb : gb < w.heap.size) {a b ca cb : Array Value} {A : Option Addr} {n : Nat} {l : List Row} (h : RowsFresh (two w ga gb a b) L A n l) : RowsFresh (two w ga gb ca cb) L A n l := by
  rw [two_re w hne ca cb a b]
  exact (h.put (two_a hne hga a b) _ (by decide) (by decide)).put ((two_b hgb a b).put_other hne _) _ (by decide) (by decide)
theorem Blk.two {w : World} {ga gb g : Nat} (h1 : ga ≠ g) (h2 : gb ≠ g) {ca cb cs : Array Value} {t : TypeId} (h : Blk w g t cs) : Blk (two w ga gb ca cb) g t cs := (h.put_other h1 _).put_other h2 _
theorem Ext.two {w w0 : World} {ga gb : Nat} {ca cb : Array Value} (h : Ext w0 w) (h1 : w0.heap.size ≤ ga) (h2 : w0.heap.size ≤ gb) : Ext w0 (two w ga gb ca cb) := (h.put h1 _ _).put h2 _ _
theorem RowsFresh.two {w : World} {ga gb L : Nat} (hne : ga ≠ gb) {a b ca cb : Array Value} (ha : Blk w ga 27 a) (hb : Blk w gb 27 b) {A : Option Addr} {n : Nat} {l : List Row} (h : RowsFresh w L A n l) : RowsFresh (two w ga gb ca cb) L A n l :=
  (h.put ha _ (by decide) (by decide)).put (hb.put_other hne _) _ (by decide) (by decide)

set_option maxRecDepth 100000 in
set_option maxHeartbeats 8000000 in
theorem split_good (e : Ev) (A : Option Addr) (n c : Nat) (frame id : Int) (row : Nat) (w : World) (he : EvAt w e A n c) (h1 : 1 ≤ row) (h2 : row < n) (h3 : e.inn < frame) (h4 : frame < e.out) (h5 : 1 ≤ id) (h6 : id ≤ 1099511627776) (h7 : (id == e.id) = false) :
    Calls Tryd.prog 9 #[.agg (e.cells A n c), .int .i64 frame, .int .i64 row, .int .i64 id] w (SplitPost e frame row id w) := by
  have hn24 := he.2.2
  have hk0 : e.splitErr frame row id = 0 := by
    unfold Ev.splitErr
    rw [he.len, if_neg (by omega), if_neg (by omega), if_neg (by simpa using h7)]
  have HX0 := Lib.hid ((((Ext.refl w).alloc (.cells (e.cells A n c) 27)).alloc (.cells evZero 27)).alloc (.cells evZero 27))
  have HB8 := Lib.hid ((Blk.new' (w := w.alloc (.cells (e.cells A n c) 27)) (g := w.heap.size + 1) (t := 27) (cs := evZero) (by simp)).alloc (.cells evZero 27))
  have HB9 := Lib.hid (Blk.new' (w := (w.alloc (.cells (e.cells A n c) 27)).alloc (.cells evZero 27)) (g := w.heap.size + 1 + 1) (t := 27) (cs := evZero) (by simp))
  have HB0 := Lib.hid (((Blk.new w 27 (e.cells A n c)).alloc (.cells evZero 27)).alloc (.cells evZero 27))
  have hlen := he.len
  have HE := Lib.hid he
  clear he
  have hr1 : (1 : Int) ≤ (row : Int) := by omega
  have hr2 : (row : Int) < (n : Int) := by omega
  have HC := Lib.hid (fun w he => EClone_any e A n c w he)
  unfold Ev.cells evZero at HX0 HB0 HB8 HB9
  unfold Ev.cells
  go_enter Tryd.func9, Tryd.ntmps9
  go_wp2_with fail
  refine region_clone2' 16 _ 4 55 56 57 58 12 13 _ _ _ _ _ _ _ _ _ e A n c w.heap.size _ _ Tryd.call16 HC.out (HE.out.ext HX0.out) HB0.out rfl rfl rfl rfl rfl rfl rfl rfl rfl rfl rfl rfl rfl rfl rfl rfl rfl rfl rfl rfl rfl rfl rfl rfl rfl (by simp) (by decide) (edge (by rfl)) (edge (by rfl)) (edge (by rfl)) (edge (by rfl)) (edge (by rfl)) (edge (by rfl)) (hordB (by simp [ordB, Region.binds])) ?_
  intro w1 A1 c1 A2 c2 ga gb hx1 hn1 hn2 hf1 hf2 la lb hne Ba Bb
  simp only [World.size_alloc] at la lb
  have HX1 := Lib.hid (HX0.out.trans hx1)
  have HB8' := Lib.hid (HB8.out.ext hx1)
  have HB9' := Lib.hid (HB9.out.ext hx1)
  clear hx1
  rename_i hK
  refine hK _ _ ?_
  clear hK
  have hf1' := Lib.hid hf1
  have hf2' := Lib.hid hf2
  obtain ⟨b1, o1, rfl⟩ : ∃ b o, A1 = some ⟨b, o, none⟩ := (hf1.rows.2 (by omega)).imp fun b h => h.imp fun o h => h.1
  obtain ⟨b2, o2, rfl⟩ : ∃ b o, A2 = some ⟨b, o, none⟩ := (hf2.rows.2 (by omega)).imp fun b h => h.imp fun o h => h.1
  clear hf1 hf2
  obtain ⟨w0, hw0⟩ : ∃ w0, w1 = two w0 ga gb (e.cells (some ⟨b1, o1, none⟩) n c1) (e.cells (some ⟨b2, o2, none⟩) n c2) := ⟨w1, (two_same Ba Bb).symm⟩
  have hga : ga < w0.heap.size := by have := Ba.lt; rw [hw0] at this; simpa [two, putB_size] using this
  have hgb : gb < w0.heap.size := by have := Bb.lt; rw [hw0] at this; simpa [two, putB_size] using this
  subst hw0
  clear Ba Bb
  have hca := fun (ca cb : Array Value) (o : Nat) => (two_a hne hga ca cb).cell o
  have hcb := fun (ca cb : Array Value) (o : Nat) => (two_b (ga := ga) hgb ca cb).cell o
  have hfa := fun (ca cb : Array Value) (o : Nat) => (two_a hne hga ca cb).frozen o
  have hfb := fun (ca cb : Array Value) (o : Nat) => (two_b (ga := ga) hgb ca cb).frozen o
  have hsa := two_setA hne hga
  have hsb := two_setB (ga := ga) hgb
  unfold Ev.cells
  simp only [put6, List.setIfInBounds_toArray, List.set_cons_zero, List.set_cons_succ]
  go_wp2_with fail
  clear hn24
  go_region
  rename_i hK
  refine hK _ _ ?_
  clear hK
  go_wp2_with fail
  refine region_ret2 _ 12 13 78 79 8 9 10 _ _ _ _ _ _ ((e.left frame row).cells (some ⟨b1, o1, none⟩) row row) ((e.right frame row id).cells (some ⟨b2, o2 + row, none⟩) (n - row) (c2 - row)) evZero evZero ga gb (w.heap.size + 1) (w.heap.size + 1 + 1) _ _ _ rfl rfl rfl rfl rfl rfl rfl rfl rfl rfl rfl rfl rfl rfl rfl rfl rfl rfl rfl (by simp) (by decide) (edge (by rfl)) (edge (by rfl)) (hordB (by simp [ordB, Region.binds])) (two_a hne hga _ _).drew (two_b hgb _ _).drew ?_ ?_ rfl rfl rfl rfl (by simp [Ev.cells, Value.oneCell']) (by simp [Ev.cells, Value.oneCell']) (by omega) (by omega) (by omega) (by omega) (by omega) ?_
  · exact (two_blk hne (by omega) (by omega) HB8'.out).drew
  · exact (two_blk hne (by omega) (by omega) HB9'.out).drew
  rename_i hK
  refine hK _ _ ?_
  clear hK
  simp only [put3, List.setIfInBounds_toArray, List.set_cons_zero, List.set_cons_succ]
  go_wp2_with fail
  have B8 := fun ca cb => (two_blk (ca := ca) (cb := cb) hne (by omega) (by omega) HB8'.out).drew.drew
  have B9 := fun ca cb => (two_blk (ca := ca) (cb := cb) hne (by omega) (by omega) HB9'.out).drew.drew
  refine bodyPost_ret (v := .tuple #[.agg ((e.left frame row).cells (some ⟨b1, o1, none⟩) row row), .agg ((e.right frame row id).cells (some ⟨b2, o2 + row, none⟩) (n - row) (c2 - row)), .int .i64 0]) ?_ rfl ?_
  · exact results_BB_tmp (P := Tryd.prog) Tryd.results9 (g := w.heap.size + 1) (g' := w.heap.size + 1 + 1) rfl rfl (by exact two_a (by omega) (B8 _ _).lt _ _) Tryd.underlying27 rfl size_event (by exact two_b (B9 _ _).lt _ _) Tryd.underlying27 rfl size_event
  · have eL : e.splitL frame row id = e.left frame row := by unfold Ev.splitL; rw [if_pos hk0]; simp
    have eR : e.splitR frame row id = e.right frame row id := by unfold Ev.splitR; rw [if_pos hk0]; simp
    unfold SplitPost
    rw [eL, eR, hk0]
    refine ⟨_, _, _, _, _, _, rfl, Nat.le_refl _, by omega, by omega, by omega, ?_, ?_, ?_⟩
    · exact RowsFresh.two (by omega) (B8 _ _) (B9 _ _) ((((two_fresh hne hga hgb hf1'.out).ext ((Ext.refl _).drew.drew)).take (by omega)).le (by simp only [World.size_alloc]; omega))
    · exact RowsFresh.two (by omega) (B8 _ _) (B9 _ _) ((((two_fresh hne hga hgb hf2'.out).ext ((Ext.refl _).drew.drew)).drop row).le (by simp only [World.size_alloc]; omega))
    · exact Ext.two (two_ext hne HX1.out (by omega) (by omega)).drew.drew (by omega) (by omega)
set_option maxRecDepth 100000 in
set_option maxHeartbeats 8000000 in
theorem rsplit_good (e : Ev) (A : Option Addr) (n c : Nat) (frame id : Int) (row : Nat) (w : World) (he : EvAt w e A n c) (h1 : 1 ≤ row) (h2 : row < n) (h3 : e.inn < frame) (h4 : frame < e.out) (h5 : 1 ≤ id) (h6 : id ≤ 1099511627776) (h7 : (id == e.id) = false) :
    Calls Tryd.prog 10 #[.agg (e.cells A n c), .int .i64 frame, .int .i64 row, .int .i64 id] w (SplitPost e frame row id w) := by
  have hn24 := he.2.2
  have hk0 : e.splitErr frame row id = 0 := by
    unfold Ev.splitErr
    rw [he.len, if_neg (by omega), if_neg (by omega), if_neg (by simpa using h7)]
  have HX0 := Lib.hid ((((Ext.refl w).alloc (.cells (e.cells A n c) 27)).alloc (.cells evZero 27)).alloc (.cells evZero 27))
  have HB8 := Lib.hid ((Blk.new' (w := w.alloc (.cells (e.cells A n c) 27)) (g := w.heap.size + 1) (t := 27) (cs := evZero) (by simp)).alloc (.cells evZero 27))
  have HB9 := Lib.hid (Blk.new' (w := (w.alloc (.cells (e.cells A n c) 27)).alloc (.cells evZero 27)) (g := w.heap.size + 1 + 1) (t := 27) (cs := evZero) (by simp))
  have HB0 := Lib.hid (((Blk.new w 27 (e.cells A n c)).alloc (.cells evZero 27)).alloc (.cells evZero 27))
  have hlen := he.len
  have HE := Lib.hid he
  clear he
  have hr1 : (1 : Int) ≤ (row : Int) := by omega
  have hr2 : (row : Int) < (n : Int) := by omega
  have HC := Lib.hid (fun w he => REClone_any e A n c w he)
  unfold Ev.cells evZero at HX0 HB0 HB8 HB9
  unfold Ev.cells
  go_enter Tryd.func10, Tryd.ntmps10
  go_wp2_with fail
  refine region_clone2' 14 _ 4 55 56 57 58 11 12 _ _ _ _ _ _ _ _ _ e A n c w.heap.size _ _ Tryd.call14 HC.out (HE.out.ext HX0.out) HB0.out rfl rfl rfl rfl rfl rfl rfl rfl rfl rfl rfl rfl rfl rfl rfl rfl rfl rfl rfl rfl rfl rfl rfl rfl rfl (by simp) (by decide) (edge (by rfl)) (edge (by rfl)) (edge (by rfl)) (edge (by rfl)) (edge (by rfl)) (edge (by rfl)) (hordB (by simp [ordB, Region.binds])) ?_
  intro w1 A1 c1 A2 c2 ga gb hx1 hn1 hn2 hf1 hf2 la lb hne Ba Bb
  simp only [World.size_alloc] at la lb
  have HX1 := Lib.hid (HX0.out.trans hx1)
  have HB8' := Lib.hid (HB8.out.ext hx1)
  have HB9' := Lib.hid (HB9.out.ext hx1)
  clear hx1
  rename_i hK
  refine hK _ _ ?_
  clear hK
  have hf1' := Lib.hid hf1
  have hf2' := Lib.hid hf2
  obtain ⟨b1, o1, rfl⟩ : ∃ b o, A1 = some ⟨b, o, none⟩ := (hf1.rows.2 (by omega)).imp fun b h => h.imp fun o h => h.1
  obtain ⟨b2, o2, rfl⟩ : ∃ b o, A2 = some ⟨b, o, none⟩ := (hf2.rows.2 (by omega)).imp fun b h => h.imp fun o h => h.1
  clear hf1 hf2
  obtain ⟨w0, hw0⟩ : ∃ w0, w1 = two w0 ga gb (e.cells (some ⟨b1, o1, none⟩) n c1) (e.cells (some ⟨b2, o2, none⟩) n c2) := ⟨w1, (two_same Ba Bb).symm⟩
  have hga : ga < w0.heap.size := by have := Ba.lt; rw [hw0] at this; simpa [two, putB_size] using this
  have hgb : gb < w0.heap.size := by have := Bb.lt; rw [hw0] at this; simpa [two, putB_size] using this
  subst hw0
  clear Ba Bb
  have hca := fun (ca cb : Array Value) (o : Nat) => (two_a hne hga ca cb).cell o
  have hcb := fun (ca cb : Array Value) (o : Nat) => (two_b (ga := ga) hgb ca cb).cell o
  have hfa := fun (ca cb : Array Value) (o : Nat) => (two_a hne hga ca cb).frozen o
  have hfb := fun (ca cb : Array Value) (o : Nat) => (two_b (ga := ga) hgb ca cb).frozen o
  have hsa := two_setA hne hga
  have hsb := two_setB (ga := ga) hgb
  unfold Ev.cells
  simp only [put6, List.setIfInBounds_toArray, List.set_cons_zero, List.set_cons_succ]
  clear hn24
  go_wp2_with fail
  go_region
  rename_i hK
  refine hK _ _ ?_
  clear hK
  go_wp2_with fail
  go_region
  rename_i hK
  refine hK _ _ ?_
  clear hK
  go_wp2_with fail
  refine region_ret2 _ 11 12 77 78 8 9 10 _ _ _ _ _ _ ((e.left frame row).cells (some ⟨b1, o1, none⟩) row c1) ((e.right frame row id).cells (some ⟨b2, o2 + row, none⟩) (n - row) (c2 - row)) evZero evZero ga gb (w.heap.size + 1) (w.heap.size + 1 + 1) _ _ _ rfl rfl rfl rfl rfl rfl rfl rfl rfl rfl rfl rfl rfl rfl rfl rfl rfl rfl rfl (by simp) (by decide) (edge (by rfl)) (edge (by rfl)) (hordB (by simp [ordB, Region.binds])) (two_a hne hga _ _).drew.drew (two_b hgb _ _).drew.drew ?_ ?_ rfl rfl rfl rfl (by simp [Ev.cells, Value.oneCell']) (by simp [Ev.cells, Value.oneCell']) (by omega) (by omega) (by omega) (by omega) (by omega) ?_
  · exact (two_blk hne (by omega) (by omega) HB8'.out).drew.drew
  · exact (two_blk hne (by omega) (by omega) HB9'.out).drew.drew
  rename_i hK
  refine hK _ _ ?_
  clear hK
  simp only [put3, List.setIfInBounds_toArray, List.set_cons_zero, List.set_cons_succ]
  go_wp2_with fail
  have B8 := fun ca cb => (two_blk (ca := ca) (cb := cb) hne (by omega) (by omega) HB8'.out).drew.drew.drew
  have B9 := fun ca cb => (two_blk (ca := ca) (cb := cb) hne (by omega) (by omega) HB9'.out).drew.drew.drew
  refine bodyPost_ret (v := .tuple #[.agg ((e.left frame row).cells (some ⟨b1, o1, none⟩) row c1), .agg ((e.right frame row id).cells (some ⟨b2, o2 + row, none⟩) (n - row) (c2 - row)), .int .i64 0]) ?_ rfl ?_
  · exact results_BB_tmp (P := Tryd.prog) Tryd.results10 (g := w.heap.size + 1) (g' := w.heap.size + 1 + 1) rfl rfl (by exact two_a (by omega) (B8 _ _).lt _ _) Tryd.underlying27 rfl size_event (by exact two_b (B9 _ _).lt _ _) Tryd.underlying27 rfl size_event
  · have eL : e.splitL frame row id = e.left frame row := by unfold Ev.splitL; rw [if_pos hk0]; simp
    have eR : e.splitR frame row id = e.right frame row id := by unfold Ev.splitR; rw [if_pos hk0]; simp
    unfold SplitPost
    rw [eL, eR, hk0]
    refine ⟨_, _, _, _, _, _, rfl, by omega, by omega, by omega, by omega, ?_, ?_, ?_⟩
    · exact RowsFresh.two (by omega) (B8 _ _) (B9 _ _) ((((two_fresh hne hga hgb hf1'.out).ext ((Ext.refl _).drew.drew.drew)).take (by omega)).le (by simp only [World.size_alloc]; omega))
    · exact RowsFresh.two (by omega) (B8 _ _) (B9 _ _) ((((two_fresh hne hga hgb hf2'.out).ext ((Ext.refl _).drew.drew.drew)).drop row).le (by simp only [World.size_alloc]; omega))
    · exact Ext.two (two_ext hne HX1.out (by omega) (by omega)).drew.drew.drew (by omega) (by omega)
theorem Split_any (e : Ev) (A : Option Addr) (n c : Nat) (frame row id : Int) (w : World) (he : EvAt w e A n c) :
    Calls Tryd.prog 9 #[.agg (e.cells A n c), .int .i64 frame, .int .i64 row, .int .i64 id] w (SplitPost e frame row id w) := by
  rcases Classical.em (e.splitErr frame row id = 0) with hk | hk
  · have hk' := hk
    unfold Ev.splitErr at hk
    have hl := he.len
    split at hk
    · simp at hk
    · split at hk
      · simp at hk
      · split at hk
        · simp at hk
        · obtain ⟨m, rfl⟩ : ∃ m : Nat, row = m := ⟨row.toNat, by omega⟩
          exact split_good e A n c frame id m w he (by omega) (by omega) (by omega) (by omega) (by omega) (by omega) (by simpa)
  · exact (split_bad e A n c frame id row _ w he.len (splitBad e frame row id hk)).mono fun en w' h => h.post hk
theorem RSplit_any (e : Ev) (A : Option Addr) (n c : Nat) (frame row id : Int) (w : World) (he : EvAt w e A n c) :
    Calls Tryd.prog 10 #[.agg (e.cells A n c), .int .i64 frame, .int .i64 row, .int .i64 id] w (SplitPost e frame row id w) := by
  rcases Classical.em (e.splitErr frame row id = 0) with hk | hk
  · have hk' := hk
    unfold Ev.splitErr at hk
    have hl := he.len
    split at hk
    · simp at hk
    · split at hk
      · simp at hk
      · split at hk
        · simp at hk
        · obtain ⟨m, rfl⟩ : ∃ m : Nat, row = m := ⟨row.toNat, by omega⟩
          exact rsplit_good e A n c frame id m w he (by omega) (by omega) (by omega) (by omega) (by omega) (by omega) (by simpa)
  · exact (rsplit_bad e A n c frame id row _ w he.len (splitBad e frame row id hk)).mono fun en w' h => h.post hk
end Go.Proofs.YtcgflkmkdpgchaaDoor
