/- The walks of event.Clone and of the reference's Clone. -/
import Derived.Test.YtcgflkmkdpgchaaDoorCloneR
import Derived.Test.YtcgflkmkdpgchaaDoorEvent
namespace Go.Proofs.YtcgflkmkdpgchaaDoor
set_option linter.unusedVariables false
set_option linter.unusedSimpArgs false
open Go.RowKit

/-- a store into a block of another type leaves the rows as they are -/
theorem RowsFresh.put {w : World} {L : Nat} {A : Option Addr} {n : Nat} {l : List Row} (h : RowsFresh w L A n l) {g : Nat} {t : TypeId} {cs : Array Value} (hB : Blk w g t cs) (cs' : Array Value) (h1 : 43 ≠ t) (h2 : 48 ≠ t) : RowsFresh (putB w g t cs') L A n l := by
  obtain ⟨hs, a1, a2, a3, a4, a5⟩ := h
  refine ⟨hs, Sl.keep a1 fun _ b off hA o x hx j u hu => ?_, fun i hd r a b => ?_, a3, a4.put hB cs' h1, fun x hx => (a5 x hx).put hB cs' h2⟩
  · have hb : b ≠ g := Typed.ne (a4 _ hA).2 hB.typed h1
    rw [putB_cell_other (p := ⟨b, o + j, none⟩) hb]; exact hx j u hu
  · have gd := a2 i hd r a b
    refine ⟨gd.1, gd.2.1, Sl.keep gd.2.2 fun _ b' off hA o x hx => ?_⟩
    have hb : b' ≠ g := Typed.ne (a5 hd (List.mem_of_getElem? a) _ hA).2 hB.typed h2
    have key : ∀ q v, w.cell? ⟨b', q, none⟩ = some v → (putB w g t cs').cell? ⟨b', q, none⟩ = some v := fun q v hv => by rw [putB_cell_other (p := ⟨b', q, none⟩) hb]; exact hv
    exact ⟨key _ _ hx.1, key _ _ hx.2.1, key _ _ hx.2.2.1, key _ _ hx.2.2.2.1, key _ _ hx.2.2.2.2⟩

theorem own_put {w : World} {L : Nat} {e : TypeId} {size : Nat} {v : Value} {n : Nat} {xs : List Value} (h : w.ownsRow L e size v n xs) {g : Nat} {t : TypeId} {cs : Array Value} (hB : Blk w g t cs) (cs' : Array Value) (hne : e ≠ t) : (putB w g t cs').ownsRow L e size v n xs := by
  have ht := own_typed h
  refine ⟨h.1, ?_⟩
  rcases h.2 with hn | ⟨g', cap, cur, rfl, hb, hg, rest⟩
  · exact .inl hn
  · refine .inr ⟨g', cap, cur, rfl, hb, ?_, rest⟩
    have : g ≠ g' := fun e => Typed.ne (ht g' rfl) hB.typed hne e.symm
    unfold putB
    simp only
    rw [Array.getElem?_setIfInBounds_ne this]
    exact hg
theorem RowsOwn.put {w : World} {L : Nat} {A : Option Addr} {n c : Nat} {l : List Row} (h : RowsOwn w L A n c l) {g : Nat} {t : TypeId} {cs : Array Value} (hB : Blk w g t cs) (cs' : Array Value) (h1 : 43 ≠ t) (h2 : 48 ≠ t) : RowsOwn (putB w g t cs') L A n c l := by
  obtain ⟨hs, a1, a2, a3, a4, a5⟩ := h
  refine ⟨hs, own_put a1 hB cs' h1, a2, fun i hd r a b => ?_, a4, fun x hx => (a5 x hx).put hB cs' h2⟩
  have gd := a3 i hd r a b
  refine ⟨gd.1, gd.2.1, Sl.keep gd.2.2 fun _ b' off hA o x hx => ?_⟩
  have hb : b' ≠ g := Typed.ne (a5 hd (List.mem_of_getElem? a) _ hA).2 hB.typed h2
  have key : ∀ q v, w.cell? ⟨b', q, none⟩ = some v → (putB w g t cs').cell? ⟨b', q, none⟩ = some v := fun q v hv => by rw [putB_cell_other (p := ⟨b', q, none⟩) hb]; exact hv
  exact ⟨key _ _ hx.1, key _ _ hx.2.1, key _ _ hx.2.2.1, key _ _ hx.2.2.2.1, key _ _ hx.2.2.2.2⟩

theorem size_event : (Tryd.prog.info? 27).map (·.size) = some 7 := by kernel_rfl
def evZero : Array Value := #[.int .i64 0, .int .i64 0, .int .i64 0, .string ⟨#[]⟩, .int .u8 0, .string ⟨#[]⟩, .slice none 0 0]

/-- what a copy of an event comes to -/
def EClPost (e : Ev) (n : Nat) (w : World) (en : Ending) (w' : World) : Prop :=
  ∃ A c, en = .returned (.agg (e.cells A n c)) ∧ n ≤ c ∧ RowsFresh w' w.heap.size A n e.rows ∧ Ext w w'

def EOwnPost (e : Ev) (n : Nat) (w : World) (en : Ending) (w' : World) : Prop :=
  ∃ A c, en = .returned (.agg (e.cells A n c)) ∧ n ≤ c ∧ RowsOwn w' w.heap.size A n c e.rows ∧ Ext w w'

set_option maxRecDepth 100000 in
set_option maxHeartbeats 2000000 in
theorem EClone_own (e : Ev) (A : Option Addr) (n c : Nat) (w : World) (he : EvAt w e A n c) :
    Calls Tryd.prog 16 #[.agg (e.cells A n c)] w (EOwnPost e n w) := by
  have hn24 := he.2.2
  have HE := Lib.hid he
  clear he
  have hx0 := ((Ext.refl w).alloc (.cells (e.cells A n c) 27)).alloc (.cells evZero 27)
  unfold Ev.cells evZero at hx0
  have HX0 := Lib.hid hx0
  clear hx0
  unfold Ev.cells
  go_enter Tryd.func16, Tryd.ntmps16
  go_wp2_with fail
  refine (SClone_own A n c e.rows _ (HE.out.1.ext HX0.out) hn24).mono ?_
  rintro en w1 ⟨A1, c1, rfl, hnc1, hrf, hx1⟩
  have HB0 := Lib.hid (Blk.ext ((Blk.new w 27 #[.int .i64 e.id, .int .i64 e.inn, .int .i64 e.out, .string e.region, .int .u8 e.kind, .string e.speaker, .slice A n c]).alloc _) hx1)
  have HB1 := Lib.hid (Blk.ext (Blk.new' (g := w.heap.size + 1) (by simp)) hx1)
  have hc0 := fun o => HB0.out.cell o
  have hf0 := fun o => HB0.out.frozen o
  have hset := fun u => setCell_put HB0.out 6 u
  have HRF := Lib.hid hrf
  clear hrf
  simp at hset
  go_wp2_with (first | (refine wpList_loadB rfl 27 (.tmp 1) rfl w.heap.size 27 _ _ (by exact rfl) (by exact HB0.out.put _) Tryd.underlying27 rfl (by exact size_event) ?_) | (refine wpList_storeB rfl 27 (.tmp 2) (.tmp 7) rfl (w.heap.size + 1) 27 _ _ (by exact rfl) (by exact rfl) (by exact HB1.out.put_other (by omega) _) (by exact rfl) (by exact size_event) (by simp [Value.oneCell']) ?_))
  refine bodyPost_ret (v := .agg (e.cells A1 n c1)) ?_ rfl ⟨A1, c1, rfl, hnc1, ?_, ?_⟩
  · exact results_B (P := Tryd.prog) Tryd.results16 (g := w.heap.size + 1) rfl (by exact (HB1.out.put_other (by omega) _).put _) Tryd.underlying27 rfl size_event
  · exact (RowsOwn.put (RowsOwn.put HRF.out HB0.out _ (by decide) (by decide)) (HB1.out.put_other (by omega) _) _ (by decide) (by decide)).le (by simp only [World.size_alloc]; omega)
  · exact (((HX0.out.trans hx1)).put (Nat.le_refl _) _ _).put (by omega) _ _

set_option maxRecDepth 100000 in
set_option maxHeartbeats 2000000 in
theorem REClone_own (e : Ev) (A : Option Addr) (n c : Nat) (w : World) (he : EvAt w e A n c) :
    Calls Tryd.prog 14 #[.agg (e.cells A n c)] w (EOwnPost e n w) := by
  have hn24 := he.2.2
  have HE := Lib.hid he
  clear he
  have hx0 := ((Ext.refl w).alloc (.cells (e.cells A n c) 27)).alloc (.cells evZero 27)
  unfold Ev.cells evZero at hx0
  have HX0 := Lib.hid hx0
  clear hx0
  unfold Ev.cells
  go_enter Tryd.func14, Tryd.ntmps14
  go_wp2_with fail
  refine (RClone_own A n c e.rows _ (HE.out.1.ext HX0.out) hn24).mono ?_
  rintro en w1 ⟨A1, c1, rfl, hnc1, hrf, hx1⟩
  have HB0 := Lib.hid (Blk.ext ((Blk.new w 27 #[.int .i64 e.id, .int .i64 e.inn, .int .i64 e.out, .string e.region, .int .u8 e.kind, .string e.speaker, .slice A n c]).alloc _) hx1)
  have HB1 := Lib.hid (Blk.ext (Blk.new' (g := w.heap.size + 1) (by simp)) hx1)
  have hc0 := fun o => HB0.out.cell o
  have hf0 := fun o => HB0.out.frozen o
  have hset := fun u => setCell_put HB0.out 6 u
  have HRF := Lib.hid hrf
  clear hrf
  simp at hset
  go_wp2_with (first | (refine wpList_loadB rfl 27 (.tmp 1) rfl w.heap.size 27 _ _ (by exact rfl) (by exact HB0.out.put _) Tryd.underlying27 rfl (by exact size_event) ?_) | (refine wpList_storeB rfl 27 (.tmp 2) (.tmp 7) rfl (w.heap.size + 1) 27 _ _ (by exact rfl) (by exact rfl) (by exact HB1.out.put_other (by omega) _) (by exact rfl) (by exact size_event) (by simp [Value.oneCell']) ?_))
  refine bodyPost_ret (v := .agg (e.cells A1 n c1)) ?_ rfl ⟨A1, c1, rfl, hnc1, ?_, ?_⟩
  · exact results_B (P := Tryd.prog) Tryd.results14 (g := w.heap.size + 1) rfl (by exact (HB1.out.put_other (by omega) _).put _) Tryd.underlying27 rfl size_event
  · exact (RowsOwn.put (RowsOwn.put HRF.out HB0.out _ (by decide) (by decide)) (HB1.out.put_other (by omega) _) _ (by decide) (by decide)).le (by simp only [World.size_alloc]; omega)
  · exact (((HX0.out.trans hx1)).put (Nat.le_refl _) _ _).put (by omega) _ _
theorem EClone_any (e : Ev) (A : Option Addr) (n c : Nat) (w : World) (he : EvAt w e A n c) : Calls Tryd.prog 16 #[.agg (e.cells A n c)] w (EClPost e n w) :=
  (EClone_own e A n c w he).mono fun _ _ ⟨A1, c1, h1, h2, h3, h4⟩ => ⟨A1, c1, h1, h2, h3.fresh, h4⟩
theorem REClone_any (e : Ev) (A : Option Addr) (n c : Nat) (w : World) (he : EvAt w e A n c) : Calls Tryd.prog 14 #[.agg (e.cells A n c)] w (EClPost e n w) :=
  (REClone_own e A n c w he).mono fun _ _ ⟨A1, c1, h1, h2, h3, h4⟩ => ⟨A1, c1, h1, h2, h3.fresh, h4⟩
end Go.Proofs.YtcgflkmkdpgchaaDoor
