/- The walks of event.Split and of the reference's Split: the errors. -/
import Derived.Test.YtcgflkmkdpgchaaDoorRegionInv
namespace Go.Proofs.YtcgflkmkdpgchaaDoor
set_option linter.unusedVariables false
set_option linter.unusedSimpArgs false
open Go.RowKit

/-- the error of a split -/
def Ev.splitErr (e : Ev) (frame : Int) (row : Int) (id : Int) : Int :=
  if row < 1 ∨ (e.rows.length : Int) ≤ row then 1
  else if frame ≤ e.inn ∨ e.out ≤ frame ∨ id < 1 ∨ 1099511627776 < id then 2
  else if id = e.id then 7 else 0
def Ev.left (e : Ev) (frame : Int) (row : Nat) : Ev := { e with out := frame, rows := e.rows.take row }
def Ev.right (e : Ev) (frame : Int) (row : Nat) (id : Int) : Ev := { e with id := id, inn := frame, rows := e.rows.drop row }
def Ev.zero : Ev := ⟨0, 0, 0, ⟨#[]⟩, 0, ⟨#[]⟩, []⟩
theorem Ev.zero_cells : Ev.zero.cells none 0 0 = evZero := rfl
def Ev.splitL (e : Ev) (frame row id : Int) : Ev := if e.splitErr frame row id = 0 then e.left frame row.toNat else Ev.zero
def Ev.splitR (e : Ev) (frame row id : Int) : Ev := if e.splitErr frame row id = 0 then e.right frame row.toNat id else Ev.zero

/-- what a split comes to -/
def SplitPost (e : Ev) (frame row id : Int) (w : World) (en : Ending) (w' : World) : Prop :=
  ∃ A1 n1 c1 A2 n2 c2, en = .returned (.tuple #[.agg ((e.splitL frame row id).cells A1 n1 c1), .agg ((e.splitR frame row id).cells A2 n2 c2), .int .i64 (e.splitErr frame row id)]) ∧
    n1 ≤ c1 ∧ n2 ≤ c2 ∧ n1 ≤ e.rows.length ∧ n2 ≤ e.rows.length ∧ RowsFresh w' w.heap.size A1 n1 (e.splitL frame row id).rows ∧ RowsFresh w' w.heap.size A2 n2 (e.splitR frame row id).rows ∧ Ext w w'

theorem RowsFresh.nil (w : World) (L c : Nat) : RowsFresh w L none 0 [] := ⟨[], Sl.nil, fun i h r a b => by simp at a, rfl, fun ad h => (by cases h), fun x hx => (by cases hx)⟩

def SplitErrs (k : Int) (w : World) (en : Ending) (w' : World) : Prop := en = .returned (.tuple #[.agg evZero, .agg evZero, .int .i64 k]) ∧ Ext w w'

theorem SplitErrs.post {e : Ev} {frame row id : Int} {w : World} {en : Ending} {w' : World} (h : SplitErrs (e.splitErr frame row id) w en w') (hk : e.splitErr frame row id ≠ 0) : SplitPost e frame row id w en w' := by
  have e1 : e.splitL frame row id = Ev.zero := if_neg hk
  have e2 : e.splitR frame row id = Ev.zero := if_neg hk
  refine ⟨none, 0, 0, none, 0, 0, ?_, Nat.le_refl _, Nat.le_refl _, Nat.zero_le _, Nat.zero_le _, ?_, ?_, h.2⟩
  · rw [e1, e2]; exact h.1
  · rw [e1]; exact RowsFresh.nil _ _ 0
  · rw [e2]; exact RowsFresh.nil _ _ 0

/-- the cases of a split that fails -/
inductive SplitBad (e : Ev) (frame row id : Int) : Int → Prop
  | low : (row < 1) → SplitBad e frame row id 1
  | high : 1 ≤ row → (e.rows.length : Int) ≤ row → SplitBad e frame row id 1
  | ahead : 1 ≤ row → row < e.rows.length → frame ≤ e.inn → SplitBad e frame row id 2
  | behind : 1 ≤ row → row < e.rows.length → e.inn < frame → e.out ≤ frame → SplitBad e frame row id 2
  | idLow : 1 ≤ row → row < e.rows.length → e.inn < frame → frame < e.out → id < 1 → SplitBad e frame row id 2
  | idHigh : 1 ≤ row → row < e.rows.length → e.inn < frame → frame < e.out → 1 ≤ id → 1099511627776 < id → SplitBad e frame row id 2
  | same : 1 ≤ row → row < e.rows.length → e.inn < frame → frame < e.out → 1 ≤ id → id ≤ 1099511627776 → id = e.id → SplitBad e frame row id 7

theorem splitBad (e : Ev) (frame row id : Int) (hk : e.splitErr frame row id ≠ 0) : SplitBad e frame row id (e.splitErr frame row id) := by
  unfold Ev.splitErr at *
  split
  · rcases Int.lt_or_le row 1 with h | h
    · exact .low h
    · exact .high h (by omega)
  · rename_i h1
    rw [if_neg h1] at hk
    split
    · rename_i h2
      rcases Int.lt_or_le e.inn frame with a1 | a1
      · rcases Int.lt_or_le frame e.out with a2 | a2
        · rcases Int.lt_or_le id 1 with a3 | a3
          · exact .idLow (by omega) (by omega) a1 a2 a3
          · exact .idHigh (by omega) (by omega) a1 a2 a3 (by omega)
        · exact .behind (by omega) (by omega) a1 a2
      · exact .ahead (by omega) (by omega) a1
    · rename_i h2
      rw [if_neg h2] at hk
      split
      · exact .same (by omega) (by omega) (by omega) (by omega) (by omega) (by omega) ‹_›
      · rename_i h3; rw [if_neg h3] at hk; exact absurd rfl hk

set_option maxRecDepth 100000 in
set_option maxHeartbeats 8000000 in
theorem split_bad (e : Ev) (A : Option Addr) (n c : Nat) (frame id row k : Int) (w : World) (hl : e.rows.length = n) (h : SplitBad e frame row id k) :
    Calls Tryd.prog 9 #[.agg (e.cells A n c), .int .i64 frame, .int .i64 row, .int .i64 id] w (SplitErrs k w) := by
  have HB1 := Lib.hid ((Blk.new' (w := w.alloc (.cells (e.cells A n c) 27)) (g := w.heap.size + 1) (t := 27) (cs := evZero) (by simp)).alloc (.cells evZero 27))
  have HB2 := Lib.hid (Blk.new' (w := (w.alloc (.cells (e.cells A n c) 27)).alloc (.cells evZero 27)) (g := w.heap.size + 1 + 1) (t := 27) (cs := evZero) (by simp))
  have HX := Lib.hid ((((Ext.refl w).alloc (.cells (e.cells A n c) 27)).alloc (.cells evZero 27)).alloc (.cells evZero 27))
  unfold Ev.cells evZero at HB1 HB2 HX
  unfold Ev.cells
  cases h with
  | low h1 =>
    go_enter Tryd.func9, Tryd.ntmps9
    go_wp2_with (first | (refine wpList_storeB rfl 27 (.tmp 8) (.tmp 52) rfl (w.heap.size + 1) 27 _ _ (by exact rfl) (by exact rfl) (by exact HB1.out) (by exact rfl) (by exact size_event) (by simp [Value.oneCell']) ?_) | (refine wpList_storeB rfl 27 (.tmp 9) (.tmp 53) rfl (w.heap.size + 1 + 1) 27 _ _ (by exact rfl) (by exact rfl) (by exact HB2.out.put_other (by omega) _) (by exact rfl) (by exact size_event) (by simp [Value.oneCell']) ?_))
    refine bodyPost_ret (v := .tuple #[.agg evZero, .agg evZero, .int .i64 1]) ?_ rfl ⟨rfl, ?_⟩
    · exact results_BB_tmp (P := Tryd.prog) Tryd.results9 (g := w.heap.size + 1) (g' := w.heap.size + 1 + 1) rfl rfl (by exact (HB1.out.put _).put_other (by omega) _) Tryd.underlying27 rfl size_event (by exact (HB2.out.put_other (by omega) _).put _) Tryd.underlying27 rfl size_event
    · exact (HX.out.put (by omega) _ _).put (by omega) _ _
  | high h1 h2 =>
    rw [hl] at h2
    go_enter Tryd.func9, Tryd.ntmps9
    go_wp2_with (first | (refine wpList_storeB rfl 27 (.tmp 8) (.tmp 52) rfl (w.heap.size + 1) 27 _ _ (by exact rfl) (by exact rfl) (by exact HB1.out) (by exact rfl) (by exact size_event) (by simp [Value.oneCell']) ?_) | (refine wpList_storeB rfl 27 (.tmp 9) (.tmp 53) rfl (w.heap.size + 1 + 1) 27 _ _ (by exact rfl) (by exact rfl) (by exact HB2.out.put_other (by omega) _) (by exact rfl) (by exact size_event) (by simp [Value.oneCell']) ?_))
    refine bodyPost_ret (v := .tuple #[.agg evZero, .agg evZero, .int .i64 1]) ?_ rfl ⟨rfl, ?_⟩
    · exact results_BB_tmp (P := Tryd.prog) Tryd.results9 (g := w.heap.size + 1) (g' := w.heap.size + 1 + 1) rfl rfl (by exact (HB1.out.put _).put_other (by omega) _) Tryd.underlying27 rfl size_event (by exact (HB2.out.put_other (by omega) _).put _) Tryd.underlying27 rfl size_event
    · exact (HX.out.put (by omega) _ _).put (by omega) _ _
  | ahead h1 h2 h3 =>
    rw [hl] at h2
    go_enter Tryd.func9, Tryd.ntmps9
    go_wp2_with (first | (refine wpList_storeB rfl 27 (.tmp 8) (.tmp 52) rfl (w.heap.size + 1) 27 _ _ (by exact rfl) (by exact rfl) (by exact HB1.out) (by exact rfl) (by exact size_event) (by simp [Value.oneCell']) ?_) | (refine wpList_storeB rfl 27 (.tmp 9) (.tmp 53) rfl (w.heap.size + 1 + 1) 27 _ _ (by exact rfl) (by exact rfl) (by exact HB2.out.put_other (by omega) _) (by exact rfl) (by exact size_event) (by simp [Value.oneCell']) ?_))
    refine bodyPost_ret (v := .tuple #[.agg evZero, .agg evZero, .int .i64 2]) ?_ rfl ⟨rfl, ?_⟩
    · exact results_BB_tmp (P := Tryd.prog) Tryd.results9 (g := w.heap.size + 1) (g' := w.heap.size + 1 + 1) rfl rfl (by exact (HB1.out.put _).put_other (by omega) _) Tryd.underlying27 rfl size_event (by exact (HB2.out.put_other (by omega) _).put _) Tryd.underlying27 rfl size_event
    · exact (HX.out.put (by omega) _ _).put (by omega) _ _
  | behind h1 h2 h3 h4 =>
    rw [hl] at h2
    go_enter Tryd.func9, Tryd.ntmps9
    go_wp2_with (first | (refine wpList_storeB rfl 27 (.tmp 8) (.tmp 52) rfl (w.heap.size + 1) 27 _ _ (by exact rfl) (by exact rfl) (by exact HB1.out) (by exact rfl) (by exact size_event) (by simp [Value.oneCell']) ?_) | (refine wpList_storeB rfl 27 (.tmp 9) (.tmp 53) rfl (w.heap.size + 1 + 1) 27 _ _ (by exact rfl) (by exact rfl) (by exact HB2.out.put_other (by omega) _) (by exact rfl) (by exact size_event) (by simp [Value.oneCell']) ?_))
    refine bodyPost_ret (v := .tuple #[.agg evZero, .agg evZero, .int .i64 2]) ?_ rfl ⟨rfl, ?_⟩
    · exact results_BB_tmp (P := Tryd.prog) Tryd.results9 (g := w.heap.size + 1) (g' := w.heap.size + 1 + 1) rfl rfl (by exact (HB1.out.put _).put_other (by omega) _) Tryd.underlying27 rfl size_event (by exact (HB2.out.put_other (by omega) _).put _) Tryd.underlying27 rfl size_event
    · exact (HX.out.put (by omega) _ _).put (by omega) _ _
  | idLow h1 h2 h3 h4 h5 =>
    rw [hl] at h2
    go_enter Tryd.func9, Tryd.ntmps9
    go_wp2_with (first | (refine wpList_storeB rfl 27 (.tmp 8) (.tmp 52) rfl (w.heap.size + 1) 27 _ _ (by exact rfl) (by exact rfl) (by exact HB1.out) (by exact rfl) (by exact size_event) (by simp [Value.oneCell']) ?_) | (refine wpList_storeB rfl 27 (.tmp 9) (.tmp 53) rfl (w.heap.size + 1 + 1) 27 _ _ (by exact rfl) (by exact rfl) (by exact HB2.out.put_other (by omega) _) (by exact rfl) (by exact size_event) (by simp [Value.oneCell']) ?_))
    refine bodyPost_ret (v := .tuple #[.agg evZero, .agg evZero, .int .i64 2]) ?_ rfl ⟨rfl, ?_⟩
    · exact results_BB_tmp (P := Tryd.prog) Tryd.results9 (g := w.heap.size + 1) (g' := w.heap.size + 1 + 1) rfl rfl (by exact (HB1.out.put _).put_other (by omega) _) Tryd.underlying27 rfl size_event (by exact (HB2.out.put_other (by omega) _).put _) Tryd.underlying27 rfl size_event
    · exact (HX.out.put (by omega) _ _).put (by omega) _ _
  | idHigh h1 h2 h3 h4 h5 h6 =>
    rw [hl] at h2
    go_enter Tryd.func9, Tryd.ntmps9
    go_wp2_with (first | (refine wpList_storeB rfl 27 (.tmp 8) (.tmp 52) rfl (w.heap.size + 1) 27 _ _ (by exact rfl) (by exact rfl) (by exact HB1.out) (by exact rfl) (by exact size_event) (by simp [Value.oneCell']) ?_) | (refine wpList_storeB rfl 27 (.tmp 9) (.tmp 53) rfl (w.heap.size + 1 + 1) 27 _ _ (by exact rfl) (by exact rfl) (by exact HB2.out.put_other (by omega) _) (by exact rfl) (by exact size_event) (by simp [Value.oneCell']) ?_))
    refine bodyPost_ret (v := .tuple #[.agg evZero, .agg evZero, .int .i64 2]) ?_ rfl ⟨rfl, ?_⟩
    · exact results_BB_tmp (P := Tryd.prog) Tryd.results9 (g := w.heap.size + 1) (g' := w.heap.size + 1 + 1) rfl rfl (by exact (HB1.out.put _).put_other (by omega) _) Tryd.underlying27 rfl size_event (by exact (HB2.out.put_other (by omega) _).put _) Tryd.underlying27 rfl size_event
    · exact (HX.out.put (by omega) _ _).put (by omega) _ _
  | same h1 h2 h3 h4 h5 h6 h7 =>
    rw [hl] at h2
    have h7' : (id == e.id) = true := by simpa using h7
    clear h7
    go_enter Tryd.func9, Tryd.ntmps9
    go_wp2_with (first | (refine wpList_storeB rfl 27 (.tmp 8) (.tmp 52) rfl (w.heap.size + 1) 27 _ _ (by exact rfl) (by exact rfl) (by exact HB1.out) (by exact rfl) (by exact size_event) (by simp [Value.oneCell']) ?_) | (refine wpList_storeB rfl 27 (.tmp 9) (.tmp 53) rfl (w.heap.size + 1 + 1) 27 _ _ (by exact rfl) (by exact rfl) (by exact HB2.out.put_other (by omega) _) (by exact rfl) (by exact size_event) (by simp [Value.oneCell']) ?_))
    refine bodyPost_ret (v := .tuple #[.agg evZero, .agg evZero, .int .i64 7]) ?_ rfl ⟨rfl, ?_⟩
    · exact results_BB_tmp (P := Tryd.prog) Tryd.results9 (g := w.heap.size + 1) (g' := w.heap.size + 1 + 1) rfl rfl (by exact (HB1.out.put _).put_other (by omega) _) Tryd.underlying27 rfl size_event (by exact (HB2.out.put_other (by omega) _).put _) Tryd.underlying27 rfl size_event
    · exact (HX.out.put (by omega) _ _).put (by omega) _ _

set_option maxRecDepth 100000 in
set_option maxHeartbeats 8000000 in
theorem rsplit_bad (e : Ev) (A : Option Addr) (n c : Nat) (frame id row k : Int) (w : World) (hl : e.rows.length = n) (h : SplitBad e frame row id k) :
    Calls Tryd.prog 10 #[.agg (e.cells A n c), .int .i64 frame, .int .i64 row, .int .i64 id] w (SplitErrs k w) := by
  have HB1 := Lib.hid ((Blk.new' (w := w.alloc (.cells (e.cells A n c) 27)) (g := w.heap.size + 1) (t := 27) (cs := evZero) (by simp)).alloc (.cells evZero 27))
  have HB2 := Lib.hid (Blk.new' (w := (w.alloc (.cells (e.cells A n c) 27)).alloc (.cells evZero 27)) (g := w.heap.size + 1 + 1) (t := 27) (cs := evZero) (by simp))
  have HX := Lib.hid ((((Ext.refl w).alloc (.cells (e.cells A n c) 27)).alloc (.cells evZero 27)).alloc (.cells evZero 27))
  unfold Ev.cells evZero at HB1 HB2 HX
  unfold Ev.cells
  cases h with
  | low h1 =>
    go_enter Tryd.func10, Tryd.ntmps10
    go_wp2_with (first | (refine wpList_storeB rfl 27 (.tmp 8) (.tmp 23) rfl (w.heap.size + 1) 27 _ _ (by exact rfl) (by exact rfl) (by exact HB1.out) (by exact rfl) (by exact size_event) (by simp [Value.oneCell']) ?_) | (refine wpList_storeB rfl 27 (.tmp 9) (.tmp 24) rfl (w.heap.size + 1 + 1) 27 _ _ (by exact rfl) (by exact rfl) (by exact HB2.out.put_other (by omega) _) (by exact rfl) (by exact size_event) (by simp [Value.oneCell']) ?_))
    refine bodyPost_ret (v := .tuple #[.agg evZero, .agg evZero, .int .i64 1]) ?_ rfl ⟨rfl, ?_⟩
    · exact results_BB_tmp (P := Tryd.prog) Tryd.results10 (g := w.heap.size + 1) (g' := w.heap.size + 1 + 1) rfl rfl (by exact (HB1.out.put _).put_other (by omega) _) Tryd.underlying27 rfl size_event (by exact (HB2.out.put_other (by omega) _).put _) Tryd.underlying27 rfl size_event
    · exact (HX.out.put (by omega) _ _).put (by omega) _ _
  | high h1 h2 =>
    rw [hl] at h2
    go_enter Tryd.func10, Tryd.ntmps10
    go_wp2_with (first | (refine wpList_storeB rfl 27 (.tmp 8) (.tmp 23) rfl (w.heap.size + 1) 27 _ _ (by exact rfl) (by exact rfl) (by exact HB1.out) (by exact rfl) (by exact size_event) (by simp [Value.oneCell']) ?_) | (refine wpList_storeB rfl 27 (.tmp 9) (.tmp 24) rfl (w.heap.size + 1 + 1) 27 _ _ (by exact rfl) (by exact rfl) (by exact HB2.out.put_other (by omega) _) (by exact rfl) (by exact size_event) (by simp [Value.oneCell']) ?_))
    refine bodyPost_ret (v := .tuple #[.agg evZero, .agg evZero, .int .i64 1]) ?_ rfl ⟨rfl, ?_⟩
    · exact results_BB_tmp (P := Tryd.prog) Tryd.results10 (g := w.heap.size + 1) (g' := w.heap.size + 1 + 1) rfl rfl (by exact (HB1.out.put _).put_other (by omega) _) Tryd.underlying27 rfl size_event (by exact (HB2.out.put_other (by omega) _).put _) Tryd.underlying27 rfl size_event
    · exact (HX.out.put (by omega) _ _).put (by omega) _ _
  | ahead h1 h2 h3 =>
    rw [hl] at h2
    go_enter Tryd.func10, Tryd.ntmps10
    go_wp2_with (first | (refine wpList_storeB rfl 27 (.tmp 8) (.tmp 46) rfl (w.heap.size + 1) 27 _ _ (by exact rfl) (by exact rfl) (by exact HB1.out) (by exact rfl) (by exact size_event) (by simp [Value.oneCell']) ?_) | (refine wpList_storeB rfl 27 (.tmp 9) (.tmp 47) rfl (w.heap.size + 1 + 1) 27 _ _ (by exact rfl) (by exact rfl) (by exact HB2.out.put_other (by omega) _) (by exact rfl) (by exact size_event) (by simp [Value.oneCell']) ?_))
    refine bodyPost_ret (v := .tuple #[.agg evZero, .agg evZero, .int .i64 2]) ?_ rfl ⟨rfl, ?_⟩
    · exact results_BB_tmp (P := Tryd.prog) Tryd.results10 (g := w.heap.size + 1) (g' := w.heap.size + 1 + 1) rfl rfl (by exact (HB1.out.put _).put_other (by omega) _) Tryd.underlying27 rfl size_event (by exact (HB2.out.put_other (by omega) _).put _) Tryd.underlying27 rfl size_event
    · exact (HX.out.put (by omega) _ _).put (by omega) _ _
  | behind h1 h2 h3 h4 =>
    rw [hl] at h2
    go_enter Tryd.func10, Tryd.ntmps10
    go_wp2_with (first | (refine wpList_storeB rfl 27 (.tmp 8) (.tmp 46) rfl (w.heap.size + 1) 27 _ _ (by exact rfl) (by exact rfl) (by exact HB1.out) (by exact rfl) (by exact size_event) (by simp [Value.oneCell']) ?_) | (refine wpList_storeB rfl 27 (.tmp 9) (.tmp 47) rfl (w.heap.size + 1 + 1) 27 _ _ (by exact rfl) (by exact rfl) (by exact HB2.out.put_other (by omega) _) (by exact rfl) (by exact size_event) (by simp [Value.oneCell']) ?_))
    refine bodyPost_ret (v := .tuple #[.agg evZero, .agg evZero, .int .i64 2]) ?_ rfl ⟨rfl, ?_⟩
    · exact results_BB_tmp (P := Tryd.prog) Tryd.results10 (g := w.heap.size + 1) (g' := w.heap.size + 1 + 1) rfl rfl (by exact (HB1.out.put _).put_other (by omega) _) Tryd.underlying27 rfl size_event (by exact (HB2.out.put_other (by omega) _).put _) Tryd.underlying27 rfl size_event
    · exact (HX.out.put (by omega) _ _).put (by omega) _ _
  | idLow h1 h2 h3 h4 h5 =>
    rw [hl] at h2
    go_enter Tryd.func10, Tryd.ntmps10
    go_wp2_with (first | (refine wpList_storeB rfl 27 (.tmp 8) (.tmp 46) rfl (w.heap.size + 1) 27 _ _ (by exact rfl) (by exact rfl) (by exact HB1.out) (by exact rfl) (by exact size_event) (by simp [Value.oneCell']) ?_) | (refine wpList_storeB rfl 27 (.tmp 9) (.tmp 47) rfl (w.heap.size + 1 + 1) 27 _ _ (by exact rfl) (by exact rfl) (by exact HB2.out.put_other (by omega) _) (by exact rfl) (by exact size_event) (by simp [Value.oneCell']) ?_))
    refine bodyPost_ret (v := .tuple #[.agg evZero, .agg evZero, .int .i64 2]) ?_ rfl ⟨rfl, ?_⟩
    · exact results_BB_tmp (P := Tryd.prog) Tryd.results10 (g := w.heap.size + 1) (g' := w.heap.size + 1 + 1) rfl rfl (by exact (HB1.out.put _).put_other (by omega) _) Tryd.underlying27 rfl size_event (by exact (HB2.out.put_other (by omega) _).put _) Tryd.underlying27 rfl size_event
    · exact (HX.out.put (by omega) _ _).put (by omega) _ _
  | idHigh h1 h2 h3 h4 h5 h6 =>
    rw [hl] at h2
    go_enter Tryd.func10, Tryd.ntmps10
    go_wp2_with (first | (refine wpList_storeB rfl 27 (.tmp 8) (.tmp 46) rfl (w.heap.size + 1) 27 _ _ (by exact rfl) (by exact rfl) (by exact HB1.out) (by exact rfl) (by exact size_event) (by simp [Value.oneCell']) ?_) | (refine wpList_storeB rfl 27 (.tmp 9) (.tmp 47) rfl (w.heap.size + 1 + 1) 27 _ _ (by exact rfl) (by exact rfl) (by exact HB2.out.put_other (by omega) _) (by exact rfl) (by exact size_event) (by simp [Value.oneCell']) ?_))
    refine bodyPost_ret (v := .tuple #[.agg evZero, .agg evZero, .int .i64 2]) ?_ rfl ⟨rfl, ?_⟩
    · exact results_BB_tmp (P := Tryd.prog) Tryd.results10 (g := w.heap.size + 1) (g' := w.heap.size + 1 + 1) rfl rfl (by exact (HB1.out.put _).put_other (by omega) _) Tryd.underlying27 rfl size_event (by exact (HB2.out.put_other (by omega) _).put _) Tryd.underlying27 rfl size_event
    · exact (HX.out.put (by omega) _ _).put (by omega) _ _
  | same h1 h2 h3 h4 h5 h6 h7 =>
    rw [hl] at h2
    have h7' : (id == e.id) = true := by simpa using h7
    clear h7
    go_enter Tryd.func10, Tryd.ntmps10
    go_wp2_with (first | (refine wpList_storeB rfl 27 (.tmp 8) (.tmp 53) rfl (w.heap.size + 1) 27 _ _ (by exact rfl) (by exact rfl) (by exact HB1.out) (by exact rfl) (by exact size_event) (by simp [Value.oneCell']) ?_) | (refine wpList_storeB rfl 27 (.tmp 9) (.tmp 54) rfl (w.heap.size + 1 + 1) 27 _ _ (by exact rfl) (by exact rfl) (by exact HB2.out.put_other (by omega) _) (by exact rfl) (by exact size_event) (by simp [Value.oneCell']) ?_))
    refine bodyPost_ret (v := .tuple #[.agg evZero, .agg evZero, .int .i64 7]) ?_ rfl ⟨rfl, ?_⟩
    · exact results_BB_tmp (P := Tryd.prog) Tryd.results10 (g := w.heap.size + 1) (g' := w.heap.size + 1 + 1) rfl rfl (by exact (HB1.out.put _).put_other (by omega) _) Tryd.underlying27 rfl size_event (by exact (HB2.out.put_other (by omega) _).put _) Tryd.underlying27 rfl size_event
    · exact (HX.out.put (by omega) _ _).put (by omega) _ _
end Go.Proofs.YtcgflkmkdpgchaaDoor
