/- Laid together: Copies of rows, the reference's. The walks of event.Clone and of the reference's Clone. Lists of events in memory of their own: blocks that are kept by stores elsewhere; the heads of events; documents of one's own. A drawn region whose operations with effects stand in a chain, and that makes variables besides, at whatever time. What stores into rows of one type leave as it is; a variable made and filled in a drawn region; a map from numbers to numbers. The walks of ratio.known, size, away and Quotient at numbers that are not negative. Frames in another rate, plainly. Drifts and the worst of them, plainly. Documents in another rate, plainly. slices.Clone of regions, comments and heads of events. -/
import Derived.Test.YtagfedbdakmlgaaGreatDoorSt03
import Derived.Test.YtagfedbdakmlgaaGreatDoorSt05
import Derived.Test.YtagfedbdakmlgaaGreatDoorSt04
import Derived.Test.YtagfedbdakmlgaaGreatDoorSt01

/-! CloneR -/
namespace Go.Proofs.YtagfedbdakmlgaaGreatDoor
set_option linter.unusedVariables false
set_option linter.unusedSimpArgs false
open Go.RowKit
def RCloneRel (w : World) (rows : List Row) (n : Nat) (v i : Value) (wr : World) : Prop :=
  ∃ (k : Nat) (hs : List Hd), k ≤ n ∧ i = .int .i64 k ∧ hs.length = k ∧ wr.ownsRow w.heap.size 87 1 v k (hs.flatMap fun h => [Hd.val h]) ∧ Ext w wr ∧ Goods wr hs (rows.take k) ∧
    (∀ g, v.ownBlock = some g → ∀ h ∈ hs, Apart g h) ∧ (∀ h ∈ hs, Fresh wr 84 w.heap.size h.1)
theorem Good.grown {w w1 : World} {h : Hd} {r : Row} {row : Option Nat} (g : Good w h r) (hg : w.grownBy w1 row) (hp : ∀ q, row = some q → Apart q h) : Good w1 h r :=
  ⟨g.1, g.2.1, Sl.keep g.2.2 fun hn b off hA o x hx => by
    have hb : b < w.heap.size := World.block_lt_of_cell? w _ hx.1
    have key : ∀ q v, w.cell? ⟨b, q, none⟩ = some v → w1.cell? ⟨b, q, none⟩ = some v := fun q v hv =>
      (World.cell?_of_block (w := w) (a := ⟨b, q, none⟩) (hg.block b hb (fun e => hp b e.symm hn _ hA rfl))).trans hv
    exact ⟨key _ _ hx.1, key _ _ hx.2.1, key _ _ hx.2.2.1, key _ _ hx.2.2.2.1, key _ _ hx.2.2.2.2⟩⟩
end Go.Proofs.YtagfedbdakmlgaaGreatDoor

/-! ECl -/
namespace Go.Proofs.YtagfedbdakmlgaaGreatDoor
set_option linter.unusedVariables false
set_option linter.unusedSimpArgs false
open Go.RowKit
/-- a store into a block of another type leaves the rows as they are -/
theorem RowsFresh.put {w : World} {L : Nat} {A : Option Addr} {n : Nat} {l : List Row} (h : RowsFresh w L A n l) {g : Nat} {t : TypeId} {cs : Array Value} (hB : Blk w g t cs) (cs' : Array Value) (h1 : 87 ≠ t) (h2 : 84 ≠ t) : RowsFresh (putB w g t cs') L A n l := by
  obtain ⟨hs, a1, a2, a3, a4, a5⟩ := h
  refine ⟨hs, Sl.keep a1 fun _ b off hA o x hx j u hu => ?_, fun i hd r a b => ?_, a3, a4.put hB cs' h1, fun x hx => (a5 x hx).put hB cs' h2⟩
  · have hb : b ≠ g := Typed.ne (a4 _ hA).2 hB.typed h1
    rw [putB_cell_other (p := ⟨b, o + j, none⟩) hb]; exact hx j u hu
  · have gd := a2 i hd r a b
    refine ⟨gd.1, gd.2.1, Sl.keep gd.2.2 fun _ b' off hA o x hx => ?_⟩
    have hb : b' ≠ g := Typed.ne (a5 hd (List.mem_of_getElem? a) _ hA).2 hB.typed h2
    have key : ∀ q v, w.cell? ⟨b', q, none⟩ = some v → (putB w g t cs').cell? ⟨b', q, none⟩ = some v := fun q v hv => by rw [putB_cell_other (p := ⟨b', q, none⟩) hb]; exact hv
    exact ⟨key _ _ hx.1, key _ _ hx.2.1, key _ _ hx.2.2.1, key _ _ hx.2.2.2.1, key _ _ hx.2.2.2.2⟩
theorem own_put {w : World} {L : Nat} {e : TypeId} {size : Nat} {v : Value} {n : Nat} {xs : List Value} (h : w.ownsRow L e size v n xs) {g : Nat} {t : TypeId} {cs : Array Value} (hB : Blk w g t cs) (cs' : Array Value) (hne : e ≠ t) : (putB w g t cs').ownsRow L e size v n xs := by
  have ht := own_typed h
  refine ⟨h.1, ?_⟩
  rcases h.2 with hn | ⟨g', cap, cur, rfl, hb, hg, rest⟩
  · exact .inl hn
  · refine .inr ⟨g', cap, cur, rfl, hb, ?_, rest⟩
    have : g ≠ g' := fun e => Typed.ne (ht g' rfl) hB.typed hne e.symm
    unfold putB
    simp only
    rw [Array.getElem?_setIfInBounds_ne this]
    exact hg
theorem RowsOwn.put {w : World} {L : Nat} {A : Option Addr} {n c : Nat} {l : List Row} (h : RowsOwn w L A n c l) {g : Nat} {t : TypeId} {cs : Array Value} (hB : Blk w g t cs) (cs' : Array Value) (h1 : 87 ≠ t) (h2 : 84 ≠ t) : RowsOwn (putB w g t cs') L A n c l := by
  obtain ⟨hs, a1, a2, a3, a4, a5⟩ := h
  refine ⟨hs, own_put a1 hB cs' h1, a2, fun i hd r a b => ?_, a4, fun x hx => (a5 x hx).put hB cs' h2⟩
  have gd := a3 i hd r a b
  refine ⟨gd.1, gd.2.1, Sl.keep gd.2.2 fun _ b' off hA o x hx => ?_⟩
  have hb : b' ≠ g := Typed.ne (a5 hd (List.mem_of_getElem? a) _ hA).2 hB.typed h2
  have key : ∀ q v, w.cell? ⟨b', q, none⟩ = some v → (putB w g t cs').cell? ⟨b', q, none⟩ = some v := fun q v hv => by rw [putB_cell_other (p := ⟨b', q, none⟩) hb]; exact hv
  exact ⟨key _ _ hx.1, key _ _ hx.2.1, key _ _ hx.2.2.1, key _ _ hx.2.2.2.1, key _ _ hx.2.2.2.2⟩
theorem size_event : (Tryz.prog.info? 66).map (·.size) = some 7 := by kernel_rfl
def evZero : Array Value := #[.int .i64 0, .int .i64 0, .int .i64 0, .string ⟨#[]⟩, .int .u8 0, .string ⟨#[]⟩, .slice none 0 0]
/-- what a copy of an event comes to -/
def EClPost (e : Ev) (n : Nat) (w : World) (en : Ending) (w' : World) : Prop :=
  ∃ A c, en = .returned (.agg (e.cells A n c)) ∧ n ≤ c ∧ RowsFresh w' w.heap.size A n e.rows ∧ Ext w w'
def EOwnPost (e : Ev) (n : Nat) (w : World) (en : Ending) (w' : World) : Prop :=
  ∃ A c, en = .returned (.agg (e.cells A n c)) ∧ n ≤ c ∧ RowsOwn w' w.heap.size A n c e.rows ∧ Ext w w'
set_option maxRecDepth 100000 in
set_option maxHeartbeats 2000000 in
theorem EClone_own (e : Ev) (A : Option Addr) (n c : Nat) (w : World) (he : EvAt w e A n c) :
    Calls Tryz.prog 57 #[.agg (e.cells A n c)] w (EOwnPost e n w) := by
  have hn24 := he.2.2
  have HE := Lib.hid he
  clear he
  have hx0 := ((Ext.refl w).alloc (.cells (e.cells A n c) 66)).alloc (.cells evZero 66)
  unfold Ev.cells evZero at hx0
  have HX0 := Lib.hid hx0
  clear hx0
  unfold Ev.cells
  go_enter Tryz.func57, Tryz.ntmps57
  go_wp2_with fail
  refine (SClone_own A n c e.rows _ (HE.out.1.ext HX0.out) hn24).mono ?_
  rintro en w1 ⟨A1, c1, rfl, hnc1, hrf, hx1⟩
  have HB0 := Lib.hid (Blk.ext ((Blk.new w 66 #[.int .i64 e.id, .int .i64 e.inn, .int .i64 e.out, .string e.region, .int .u8 e.kind, .string e.speaker, .slice A n c]).alloc _) hx1)
  have HB1 := Lib.hid (Blk.ext (Blk.new' (g := w.heap.size + 1) (by simp)) hx1)
  have hc0 := fun o => HB0.out.cell o
  have hf0 := fun o => HB0.out.frozen o
  have hset := fun u => setCell_put HB0.out 6 u
  have HRF := Lib.hid hrf
  clear hrf
  simp at hset
  go_wp2_with (first | (refine wpList_loadB rfl 66 (.tmp 1) rfl w.heap.size 66 _ _ (by exact rfl) (by exact HB0.out.put _) Tryz.underlying66 rfl (by exact size_event) ?_) | (refine wpList_storeB rfl 66 (.tmp 2) (.tmp 7) rfl (w.heap.size + 1) 66 _ _ (by exact rfl) (by exact rfl) (by exact HB1.out.put_other (by omega) _) (by exact rfl) (by exact size_event) (by simp [Value.oneCell']) ?_))
  refine bodyPost_ret (v := .agg (e.cells A1 n c1)) ?_ rfl ⟨A1, c1, rfl, hnc1, ?_, ?_⟩
  · exact results_B (P := Tryz.prog) Tryz.results57 (g := w.heap.size + 1) rfl (by exact (HB1.out.put_other (by omega) _).put _) Tryz.underlying66 rfl size_event
  · exact (RowsOwn.put (RowsOwn.put HRF.out HB0.out _ (by decide) (by decide)) (HB1.out.put_other (by omega) _) _ (by decide) (by decide)).le (by simp only [World.size_alloc]; omega)
  · exact (((HX0.out.trans hx1)).put (Nat.le_refl _) _ _).put (by omega) _ _
theorem EClone_any (e : Ev) (A : Option Addr) (n c : Nat) (w : World) (he : EvAt w e A n c) : Calls Tryz.prog 57 #[.agg (e.cells A n c)] w (EClPost e n w) :=
  (EClone_own e A n c w he).mono fun _ _ ⟨A1, c1, h1, h2, h3, h4⟩ => ⟨A1, c1, h1, h2, h3.fresh, h4⟩
end Go.Proofs.YtagfedbdakmlgaaGreatDoor

/-! Evs -/
namespace Go.Proofs.YtagfedbdakmlgaaGreatDoor
set_option linter.unusedVariables false
set_option linter.unusedSimpArgs false
open Go.RowKit
/-- the rows of elements of type T stay as they are -/
def KB (T : TypeId) (w w' : World) : Prop := ∀ (b : Nat) (cur : Array Value), w.heap[b]? = some (Obj.cells cur T (0, 0)) → w'.heap[b]? = some (Obj.cells cur T (0, 0))
section
variable {T T' : TypeId} {w w1 w2 : World} {L n : Nat} {A : Option Addr}
theorem KB.refl (w : World) : KB T w w := fun _ _ h => h
theorem KB.trans (h : KB T w w1) (k : KB T w1 w2) : KB T w w2 := fun b cur hb => k b cur (h b cur hb)
theorem KB.ext (k : Ext w w1) : KB T w w1 := fun b _ hb => (k.block b (Array.getElem?_eq_some_iff.1 hb).1).trans hb
theorem KB.put {g : Nat} {cs cs' : Array Value} (hB : Blk w g T' cs) (hne : T ≠ T') : KB T w (putB w g T' cs') := fun b cur hb => by
  have hn : g ≠ b := (Typed.ne ⟨cur, hb⟩ hB.typed hne).symm
  unfold putB
  simp only
  rw [Array.getElem?_setIfInBounds_ne hn]
  exact hb
theorem KB.set {p : Addr} {u : Value} (hT : Typed w T' p.block) (hne : T ≠ T') : KB T w (w.setCell p u) := fun b cur hb => by
  have hn : b ≠ p.block := Typed.ne ⟨cur, hb⟩ hT hne
  rw [RowKit.Below.heap_setCell _ _ _ _ hn]
  exact hb
theorem KB.sets {g : Nat} (hne : T ≠ T') : ∀ (vs : List Value) (o : Nat) (w : World), Typed w T' g → KB T w (w.setCells g o vs)
  | [], _, w, _ => KB.refl w
  | v :: vs, o, w, h => (KB.set (p := ⟨g, o, none⟩) h hne).trans (KB.sets hne vs (o + 1) _ (h.setCell _ _))
theorem KB.grown {row : Option Nat} (hg : w.grownBy w1 row) (hr : ∀ q, row = some q → Typed w T' q) (hne : T ≠ T') : KB T w w1 := fun b cur hb => by
  refine (hg.block b (Array.getElem?_eq_some_iff.1 hb).1 (fun e => ?_)).trans hb
  exact Typed.ne ⟨cur, hb⟩ (hr b e.symm) hne rfl
theorem KB.turned {b : Nat} (h : w.mapTurned w1 b) : KB T w w1 := fun c cur hc => by
  obtain ⟨es, cl, es', cl', hb, rfl⟩ := h
  have hn : b ≠ c := fun e => by subst e; rw [hb] at hc; cases hc
  show (w.heap.setIfInBounds b _)[c]? = _
  rw [Array.getElem?_setIfInBounds_ne hn]
  exact hc
theorem Typed.kb (h : Typed w T n) (k : KB T w w1) : Typed w1 T n := h.elim fun cur hb => ⟨cur, k _ _ hb⟩
theorem Typed.sets {g b : Nat} : ∀ (vs : List Value) (o : Nat) (w : World), Typed w T b → Typed (w.setCells g o vs) T b
  | [], _, _, h => h
  | v :: vs, o, w, h => Typed.sets vs (o + 1) _ (h.setCell _ _)
theorem Typed.cell_kb (h : Typed w T n) (k : KB T w w1) (o : Nat) : w1.cell? ⟨n, o, none⟩ = w.cell? ⟨n, o, none⟩ := by
  obtain ⟨cur, hb⟩ := h
  simp [World.cell?, hb, k _ _ hb]
theorem Fresh.kb (h : Fresh w T L A) (k : KB T w w1) : Fresh w1 T L A := fun ad e => ⟨(h ad e).1, (h ad e).2.kb k⟩
theorem own_kb {size : Nat} {v : Value} {xs : List Value} (h : w.ownsRow L T size v n xs) (k : KB T w w1) : w1.ownsRow L T size v n xs := by
  refine ⟨h.1, ?_⟩
  rcases h.2 with hn | ⟨g, cap, cur, rfl, hb, hg, rest⟩
  · exact .inl hn
  · exact .inr ⟨g, cap, cur, rfl, hb, k _ _ hg, rest⟩
end
theorem RowsFresh.kb {w w1 : World} {L : Nat} {A : Option Addr} {n : Nat} {l : List Row} (h : RowsFresh w L A n l) (k1 : KB 87 w w1) (k2 : KB 84 w w1) : RowsFresh w1 L A n l := by
  obtain ⟨hs, a1, a2, a3, a4, a5⟩ := h
  refine ⟨hs, Sl.keep a1 fun _ b off hA o x hx j u hu => ?_, fun i hd r a b => ?_, a3, a4.kb k1, fun x hx => (a5 x hx).kb k2⟩
  · rw [(a4 _ hA).2.cell_kb k1]; exact hx j u hu
  · have gd := a2 i hd r a b
    refine ⟨gd.1, gd.2.1, Sl.keep gd.2.2 fun _ b' off hA o x hx => ?_⟩
    have key : ∀ q v, w.cell? ⟨b', q, none⟩ = some v → w1.cell? ⟨b', q, none⟩ = some v := fun q v hv => by rw [((a5 hd (List.mem_of_getElem? a)) _ hA).2.cell_kb k2]; exact hv
    exact ⟨key _ _ hx.1, key _ _ hx.2.1, key _ _ hx.2.2.1, key _ _ hx.2.2.2.1, key _ _ hx.2.2.2.2⟩
theorem flat_set {α : Type} {f : α → List Value} {size : Nat} (hf : ∀ x, (f x).length = size) : ∀ (l : List α) (k j : Nat) (x y : α) (u : Value), l[k]? = some x → f y = (f x).set j u → j < size → (l.flatMap f).set (k * size + j) u = (l.set k y).flatMap f
  | [], k, j, x, y, u, h, _, _ => by simp at h
  | z :: l, 0, j, x, y, u, h, hy, hj => by
    simp at h; subst h
    rw [List.flatMap_cons, List.set_cons_zero, List.flatMap_cons, hy, Nat.zero_mul, Nat.zero_add, List.set_append, if_pos (by rw [hf]; exact hj)]
  | z :: l, k + 1, j, x, y, u, h, hy, hj => by
    have hz := hf z
    rw [List.flatMap_cons, List.set_cons_succ, List.flatMap_cons, List.set_append, if_neg (by rw [hz, Nat.add_mul]; omega), ← flat_set hf l k j x y u (by simpa using h) hy hj]
    congr 2
    rw [hz, Nat.add_mul]; omega
def setMany : List Value → Nat → List Value → List Value
  | xs, _, [] => xs
  | xs, j, v :: vs => setMany (xs.set j v) (j + 1) vs
theorem setMany_split : ∀ (vs pre old post : List Value), old.length = vs.length → setMany (pre ++ old ++ post) pre.length vs = pre ++ vs ++ post
  | [], pre, old, post, h => by
    obtain rfl : old = [] := List.eq_nil_of_length_eq_zero h
    rfl
  | v :: vs, pre, [], post, h => by simp at h
  | v :: vs, pre, o :: old, post, h => by
    have e : (pre ++ o :: old ++ post).set pre.length v = (pre ++ [v]) ++ old ++ post := by simp [List.set_append]
    have := setMany_split vs (pre ++ [v]) old post (by simpa using h)
    rw [List.length_append, List.length_singleton] at this
    rw [setMany, e, this]
    simp
theorem flat_setMany {α : Type} {f : α → List Value} {size : Nat} (hf : ∀ x, (f x).length = size) (l : List α) (k : Nat) (y : α) (hk : k < l.length) : setMany (l.flatMap f) (k * size) (f y) = (l.set k y).flatMap f := by
  have e1 : l = l.take k ++ l[k] :: l.drop (k + 1) := by rw [← List.drop_eq_getElem_cons hk, List.take_append_drop]
  have e2 : l.set k y = l.take k ++ y :: l.drop (k + 1) := by rw [List.set_eq_take_append_cons_drop, if_pos hk]
  have hl : ((l.take k).flatMap f).length = k * size := by rw [flatMap_len f size hf, List.length_take, Nat.min_eq_left (by omega)]
  rw [e2, List.flatMap_append, List.flatMap_cons]
  conv => lhs; rw [e1]
  rw [List.flatMap_append, List.flatMap_cons, ← hl, ← List.append_assoc, setMany_split _ _ _ _ (by rw [hf, hf]), List.append_assoc]
theorem own_sets {L size n cap g : Nat} {T : TypeId} : ∀ (vs : List Value) (j : Nat) (w : World) (xs : List Value), w.ownsRow L T size (.slice (some ⟨g, 0, none⟩) n cap) n xs →
    (w.setCells g j vs).ownsRow L T size (.slice (some ⟨g, 0, none⟩) n cap) n (setMany xs j vs)
  | [], _, _, _, h => h
  | v :: vs, j, w, xs, h => own_sets vs (j + 1) _ _ (h.stored j v).1
theorem ext_sets {w0 : World} {g : Nat} (hg : w0.heap.size ≤ g) : ∀ (vs : List Value) (j : Nat) (w : World), Ext w0 w → Ext w0 (w.setCells g j vs)
  | [], _, _, h => h
  | v :: vs, j, w, h => ext_sets hg vs (j + 1) _ (h.setCell hg v)
structure EH where
  id : Int
  inn : Int
  out : Int
  region : ByteArray
  kind : Int
  speaker : ByteArray
  A : Option Addr
  n : Nat
  c : Nat
def EH.vals (h : EH) : List Value := [.int .i64 h.id, .int .i64 h.inn, .int .i64 h.out, .string h.region, .int .u8 h.kind, .string h.speaker, .slice h.A h.n h.c]
def EH.of (e : Ev) (A : Option Addr) (n c : Nat) : EH := ⟨e.id, e.inn, e.out, e.region, e.kind, e.speaker, A, n, c⟩
theorem EH.of_vals (e : Ev) (A : Option Addr) (n c : Nat) : (EH.of e A n c).vals = (e.cells A n c).toList := rfl
theorem EH.len (h : EH) : h.vals.length = 7 := rfl
def Reg.vals (r : Reg) : List Value := [.string r.name, .int .i64 r.top, .int .i64 r.height, .int .i64 r.left, .int .i64 r.width, .int .u8 r.align, .bool r.bottom]
/-- the head is an event's, its rows lie from L on -/
def EGood (w : World) (L : Nat) (h : EH) (e : Ev) : Prop := h = EH.of e h.A h.n h.c ∧ h.n ≤ h.c ∧ h.n * 24 ≤ 140737488355328 ∧ RowsFresh w L h.A h.n e.rows
theorem EGood.kb {w w1 : World} {L : Nat} {h : EH} {e : Ev} (g : EGood w L h e) (k1 : KB 87 w w1) (k2 : KB 84 w w1) : EGood w1 L h e := ⟨g.1, g.2.1, g.2.2.1, g.2.2.2.kb k1 k2⟩
theorem EGood.ext {w w1 : World} {L : Nat} {h : EH} {e : Ev} (g : EGood w L h e) (k : Ext w w1) : EGood w1 L h e := g.kb (KB.ext k) (KB.ext k)
theorem EGood.le {w : World} {L L' : Nat} {h : EH} {e : Ev} (g : EGood w L h e) (hl : L' ≤ L) : EGood w L' h e := ⟨g.1, g.2.1, g.2.2.1, g.2.2.2.le hl⟩
theorem EGood.at_ {w : World} {L : Nat} {h : EH} {e : Ev} (g : EGood w L h e) : EvAt w e h.A h.n h.c := ⟨g.2.2.2.rows, g.2.1, g.2.2.1⟩
/-- events whose heads lie in a row of their own, from L on -/
def EvsOwn (w : World) (L : Nat) (v : Value) (n : Nat) (l : List Ev) : Prop :=
  ∃ hs : List EH, w.ownsRow L 66 7 v n (hs.flatMap EH.vals) ∧ hs.length = n ∧ l.length = n ∧ ∀ (i : Nat) (h : EH) (e : Ev), hs[i]? = some h → l[i]? = some e → EGood w L h e
section
variable {w w1 : World} {L L' n c : Nat} {A : Option Addr} {v : Value} {l : List Ev}
theorem EvsOwn.ext (h : EvsOwn w L v n l) (k : Ext w w1) : EvsOwn w1 L v n l := by
  obtain ⟨hs, h1, h2, h3, h4⟩ := h
  exact ⟨hs, own_ext h1 k, h2, h3, fun i x e a b => (h4 i x e a b).ext k⟩
theorem EvsOwn.kb (h : EvsOwn w L v n l) (k0 : KB 66 w w1) (k1 : KB 87 w w1) (k2 : KB 84 w w1) : EvsOwn w1 L v n l := by
  obtain ⟨hs, h1, h2, h3, h4⟩ := h
  exact ⟨hs, own_kb h1 k0, h2, h3, fun i x e a b => (h4 i x e a b).kb k1 k2⟩
theorem EvsOwn.le (h : EvsOwn w L v n l) (hl : L' ≤ L) : EvsOwn w L' v n l := by
  obtain ⟨hs, h1, h2, h3, h4⟩ := h
  exact ⟨hs, own_le h1 hl, h2, h3, fun i x e a b => (h4 i x e a b).le hl⟩
theorem EvsOwn.len (h : EvsOwn w L v n l) : l.length = n := h.elim fun _ h => h.2.2.1
theorem EvsOwn.nil (w : World) (L : Nat) : EvsOwn w L (.slice none 0 0) 0 [] := ⟨[], ⟨rfl, .inl ⟨rfl, rfl⟩⟩, rfl, rfl, fun i x e a _ => by simp at a⟩
theorem EvsOwn.at_ (h : EvsOwn w L v n l) : ∃ A c, v = .slice A n c ∧ n ≤ c ∧ c ≤ maxLen ∧ EvsAt w A n l := by
  obtain ⟨hs, h1, h2, h3, h4⟩ := h
  obtain ⟨A, c, hv, hc, hm, hsl, _⟩ := own_sl (f := EH.vals) (size := 7) EH.len h2 h1
  refine ⟨A, c, hv, hc, hm, h3, fun hn => ?_⟩
  obtain ⟨b, off, hA, hcs⟩ := hsl.2 hn
  refine ⟨b, off, hA, fun i e he => ?_⟩
  have hi : i < hs.length := by rw [h2, ← h3]; exact (List.getElem?_eq_some_iff.1 he).1
  have hx : hs[i]? = some hs[i] := List.getElem?_eq_getElem hi
  have g := h4 i _ e hx he
  refine ⟨hs[i].A, hs[i].n, hs[i].c, fun j u hu => ?_, g.at_⟩
  refine hcs i _ hx j u ?_
  rw [g.1, EH.of_vals]
  exact hu
theorem EvsOwn.evs (h : EvsOwn w L (.slice A n c) n l) : EvsAt w A n l := by
  obtain ⟨A', c', hv, _, _, h1⟩ := h.at_
  cases hv
  exact h1
/-- the head at a place is set anew -/
theorem EvsOwn.set {g k : Nat} {e : Ev} {A' : Option Addr} {n' c' : Nat} (h : EvsOwn w L (.slice (some ⟨g, 0, none⟩) n c) n l) (hk : k < n) (hL : L ≤ g) (hg : EGood w L (EH.of e A' n' c') e) :
    EvsOwn (w.setCells g (k * 7) (e.cells A' n' c').toList) L (.slice (some ⟨g, 0, none⟩) n c) n (l.set k e) := by
  obtain ⟨hs, h1, h2, h3, h4⟩ := h
  have hty : Typed w 66 g := own_typed h1 g rfl
  refine ⟨hs.set k (EH.of e A' n' c'), ?_, by simpa using h2, by simpa using h3, fun i x y hx hy => ?_⟩
  · rw [← flat_setMany EH.len hs k (EH.of e A' n' c') (by omega)]
    exact own_sets _ _ _ _ h1
  · have k1 : KB 87 w (w.setCells g (k * 7) (e.cells A' n' c').toList) := KB.sets (T' := 66) (by decide) _ _ _ hty
    have k2 : KB 84 w (w.setCells g (k * 7) (e.cells A' n' c').toList) := KB.sets (T' := 66) (by decide) _ _ _ hty
    by_cases hik : k = i
    · subst hik
      rw [List.getElem?_set_self (by omega)] at hx hy
      cases hx
      cases hy
      exact hg.kb k1 k2
    · rw [List.getElem?_set_ne hik] at hx hy
      exact (h4 i x y hx hy).kb k1 k2
/-- an event is appended -/
theorem EvsOwn.snoc {k : Nat} {e : Ev} {v' : Value} {A' : Option Addr} {n' c' : Nat} (h : EvsOwn w L v k l) (hg : EGood w L (EH.of e A' n' c') e) (hgr : w.grownBy w1 v.ownBlock)
    (hO : ∀ xs, w.ownsRow L 66 7 v k xs → w1.ownsRow L 66 7 v' (k + 1) (xs ++ (e.cells A' n' c').toList)) : EvsOwn w1 L v' (k + 1) (l ++ [e]) := by
  obtain ⟨hs, h1, h2, h3, h4⟩ := h
  have hty : ∀ q, v.ownBlock = some q → Typed w 66 q := own_typed h1
  have k1 : KB 87 w w1 := KB.grown hgr hty (by decide)
  have k2 : KB 84 w w1 := KB.grown hgr hty (by decide)
  refine ⟨hs ++ [EH.of e A' n' c'], ?_, by simp [h2], by simp [h3], fun i x y hx hy => ?_⟩
  · rw [List.flatMap_append]
    have := hO _ h1
    simpa [EH.of_vals] using this
  · by_cases hik : i < k
    · rw [List.getElem?_append_left (by omega)] at hx hy
      exact (h4 i x y hx hy).kb k1 k2
    · have hik' : i = k := by
        have := (List.getElem?_eq_some_iff.1 hx).1
        simp [h2] at this
        omega
      subst hik'
      rw [List.getElem?_append_right (by omega)] at hx hy
      simp only [h2, h3, Nat.sub_self, List.getElem?_cons_zero, Option.some.injEq] at hx hy
      subst hx hy
      exact hg.kb k1 k2
end
structure DocOwn (w : World) (L : Nat) (d : Doc) (h : DocH) : Prop where
  regs : w.ownsRow L 94 7 (.slice h.ra h.rn h.rc) h.rn (d.regs.flatMap Reg.vals)
  rlen : d.regs.length = h.rn
  evs : EvsOwn w L (.slice h.ea h.en h.ec) h.en d.evs
  coms : w.ownsRow L 78 8 (.slice h.ca h.cn h.cc) h.cn (d.coms.flatMap Com.vals)
  clen : d.coms.length = h.cn
theorem DocOwn.ext {w w1 : World} {L : Nat} {d : Doc} {h : DocH} (o : DocOwn w L d h) (k : Ext w w1) : DocOwn w1 L d h := ⟨own_ext o.regs k, o.rlen, o.evs.ext k, own_ext o.coms k, o.clen⟩
theorem DocOwn.kb {w w1 : World} {L : Nat} {d : Doc} {h : DocH} (o : DocOwn w L d h) (k1 : KB 94 w w1) (k2 : KB 66 w w1) (k3 : KB 87 w w1) (k4 : KB 84 w w1) (k5 : KB 78 w w1) : DocOwn w1 L d h :=
  ⟨own_kb o.regs k1, o.rlen, o.evs.kb k2 k3 k4, own_kb o.coms k5, o.clen⟩
theorem DocOwn.put {w : World} {L : Nat} {d : Doc} {h : DocH} (o : DocOwn w L d h) {g : Nat} {cs : Array Value} (hB : Blk w g 27 cs) (cs' : Array Value) : DocOwn (putB w g 27 cs') L d h :=
  o.kb (KB.put hB (by decide)) (KB.put hB (by decide)) (KB.put hB (by decide)) (KB.put hB (by decide)) (KB.put hB (by decide))
theorem DocOwn.le {w : World} {L L' : Nat} {d : Doc} {h : DocH} (o : DocOwn w L d h) (hl : L' ≤ L) : DocOwn w L' d h := ⟨own_le o.regs hl, o.rlen, o.evs.le hl, own_le o.coms hl, o.clen⟩
theorem regC_cells {w : World} {b o : Nat} {r : Reg} (h : Cells Reg.vals w b o r) : RegC w b o r := ⟨h 0 _ rfl, h 1 _ rfl, h 2 _ rfl, h 3 _ rfl, h 4 _ rfl, h 5 _ rfl, h 6 _ rfl⟩
theorem cells_regC {w : World} {b o : Nat} {r : Reg} (h : RegC w b o r) : Cells Reg.vals w b o r := by
  obtain ⟨h0, h1, h2, h3, h4, h5, h6⟩ := h
  intro j u hu
  match j, hu with
  | 0, hu => simp [Reg.vals] at hu; subst hu; exact h0
  | 1, hu => simp [Reg.vals] at hu; subst hu; exact h1
  | 2, hu => simp [Reg.vals] at hu; subst hu; exact h2
  | 3, hu => simp [Reg.vals] at hu; subst hu; exact h3
  | 4, hu => simp [Reg.vals] at hu; subst hu; exact h4
  | 5, hu => simp [Reg.vals] at hu; subst hu; exact h5
  | 6, hu => simp [Reg.vals] at hu; subst hu; exact h6
  | j + 7, hu => simp [Reg.vals] at hu
theorem own_slice {α : Type} {f : α → List Value} {size : Nat} (hf : ∀ x, (f x).length = size) {w : World} {base : Nat} {e : TypeId} {A : Option Addr} {c n : Nat} {l : List α} (hl : l.length = n)
    (h : w.ownsRow base e size (.slice A n c) n (l.flatMap f)) : n ≤ c ∧ c ≤ maxLen ∧ Sl w size (Cells f) A n l := by
  obtain ⟨A', c', hv, h1, h2, h3, _⟩ := own_sl hf hl h
  cases hv
  exact ⟨h1, h2, h3⟩
theorem DocOwn.at_ {w : World} {L : Nat} {d : Doc} {h : DocH} (o : DocOwn w L d h) : DocAt w d h :=
  ⟨Sl.change (own_slice (f := Reg.vals) (fun _ => rfl) o.rlen o.regs).2.2 fun _ _ _ => regC_cells, o.evs.evs, (own_slice (f := Com.vals) (fun _ => rfl) o.clen o.coms).2.2⟩
end Go.Proofs.YtagfedbdakmlgaaGreatDoor

/-! Allocs -/
namespace Go.Proofs.YtagfedbdakmlgaaGreatDoor
set_option linter.unusedVariables false
set_option linter.unusedSimpArgs false
open Go.RowKit
def valA (chain al : List Nat) (pv us : List Value) (gs : Nat → Option Nat) (j : Nat) : Value :=
  match chain.idxOf? j with
  | some i => us.getD i undef
  | none => if al.contains j then .pointer ((gs j).map fun g => ⟨g, 0, none⟩) else pv.getD j undef
def upd (gs : Nat → Option Nat) (j g : Nat) : Nat → Option Nat := fun k => if k = j then some g else gs k
theorem upd_self (gs : Nat → Option Nat) (j g : Nat) : upd gs j g j = some g := by simp [upd]
def AlInv (ops : Array Oper) (chain al : List Nat) (pv : List Value) (a0 : Act) (J : List Value → (Nat → Option Nat) → World → Prop) (l : Array Bool) (a : Act) (w : World) : Prop :=
  l.size = ops.size ∧ a.defers = a0.defers ∧ a.tmps.size = a0.tmps.size ∧ (∀ s, (∀ j, dstO ops j = some s → l.getD j false = false) → a.tmps[s]? = a0.tmps[s]?) ∧
  (∀ j o, l.getD j false = true → ops[j]? = some o → ∀ d ∈ o.after, Region.binds .any d = true → l.getD d.on false = true) ∧
  ∃ (us : List Value) (gs : Nat → Option Nat), us.length ≤ chain.length ∧ (∀ i c, chain[i]? = some c → (l.getD c false = true ↔ i < us.length)) ∧ (∀ j, al.contains j = true → (l.getD j false = true ↔ (gs j).isSome = true)) ∧
    (∀ j s, l.getD j false = true → dstO ops j = some s → a.tmps[s]? = some (valA chain al pv us gs j)) ∧ J us gs w
/-- what an operation finds in the frame, by the region's tables -/
structure SeesA (slots : List (Option Nat)) (deps : List (List Nat)) (chain al : List Nat) (pv us : List Value) (gs : Nat → Option Nat) (a0 a : Act) (i : Nat) : Prop where
  old : ∀ (s : Nat) (v : Value), slots.contains (some s) = false → a0.eval (.tmp s) = v → a.eval (.tmp s) = v
  pure : ∀ (j s : Nat) (v : Value), (deps.getD i []).contains j = true → slots[j]? = some (some s) → chain.contains j = false → al.contains j = false → pv[j]? = some v → a.eval (.tmp s) = v
  link : ∀ (p j s : Nat) (v : Value), chain[p]? = some j → (deps.getD i []).contains j = true → slots[j]? = some (some s) → us[p]? = some v → a.eval (.tmp s) = v
  ptr : ∀ (j s : Nat), (deps.getD i []).contains j = true → slots[j]? = some (some s) → chain.contains j = false → al.contains j = true → ∃ g, gs j = some g ∧ a.eval (.tmp s) = .pointer (some ⟨g, 0, none⟩)
  made : ∀ (j : Nat), (deps.getD i []).contains j = true → al.contains j = true → (gs j).isSome = true
  did : ∀ (p j : Nat), chain[p]? = some j → (deps.getD i []).contains j = true → p < us.length
  olds : ∀ (p j s : Nat) (v : Value), chain[p]? = some j → slots[j]? = some (some s) → us.length ≤ p → a0.eval (.tmp s) = v → a.eval (.tmp s) = v
def frameA (ops : Array Oper) (chain al : List Nat) (pv us : List Value) (gs : Nat → Option Nat) : List (Nat × Value) := (List.range ops.size).filterMap fun j => (dstO ops j).map fun s => (s, valA chain al pv us gs j)
end Go.Proofs.YtagfedbdakmlgaaGreatDoor

/-! Kept -/
namespace Go.Proofs.YtagfedbdakmlgaaGreatDoor
set_option linter.unusedVariables false
set_option linter.unusedSimpArgs false
open Go.RowKit Go.Maps
/-- the maps stay as they are -/
def KM (w w' : World) : Prop := ∀ (b : Nat) (es : Array MapEntry) (cl : Nat), w.heap[b]? = some (Obj.map es cl) → w'.heap[b]? = some (Obj.map es cl)
/-- only rows of elements of type T have changed, and there is more memory -/
structure Only (T : TypeId) (w w' : World) : Prop where
  kb : ∀ T', T' ≠ T → KB T' w w'
  km : KM w w'
section
variable {T T' : TypeId} {w w1 w2 : World}
theorem Only.refl (w : World) : Only T w w := ⟨fun _ _ => KB.refl w, fun _ _ _ h => h⟩
theorem Only.trans (h : Only T w w1) (k : Only T w1 w2) : Only T w w2 := ⟨fun T' hn => (h.kb T' hn).trans (k.kb T' hn), fun b es cl hb => k.km b es cl (h.km b es cl hb)⟩
theorem Only.ext (k : Ext w w1) : Only T w w1 := ⟨fun _ _ => KB.ext k, fun b _ _ hb => (k.block b (Array.getElem?_eq_some_iff.1 hb).1).trans hb⟩
theorem Only.put {g : Nat} {cs cs' : Array Value} (hB : Blk w g T cs) : Only T w (putB w g T cs') := ⟨fun _ hn => KB.put hB hn, fun b es cl hb => by
  have hn : g ≠ b := fun e => by subst e; rw [show w.heap[g]? = _ from hB] at hb; cases hb
  unfold putB
  simp only
  rw [Array.getElem?_setIfInBounds_ne hn]
  exact hb⟩
theorem Only.set {p : Addr} {u : Value} (hT : Typed w T p.block) : Only T w (w.setCell p u) := ⟨fun _ hn => KB.set hT hn, fun b es cl hb => by
  have hn : b ≠ p.block := fun e => by subst e; obtain ⟨cur, hc⟩ := hT; rw [hc] at hb; cases hb
  rw [RowKit.Below.heap_setCell _ _ _ _ hn]
  exact hb⟩
theorem Only.sets {g : Nat} : ∀ (vs : List Value) (o : Nat) (w : World), Typed w T g → Only T w (w.setCells g o vs)
  | [], _, w, _ => Only.refl w
  | v :: vs, o, w, h => (Only.set (p := ⟨g, o, none⟩) h).trans (Only.sets vs (o + 1) _ (h.setCell _ _))
theorem Only.grown {row : Option Nat} (hg : w.grownBy w1 row) (hr : ∀ q, row = some q → Typed w T q) : Only T w w1 := ⟨fun _ hn => KB.grown hg hr hn, fun b es cl hb => by
  refine (hg.block b (Array.getElem?_eq_some_iff.1 hb).1 (fun e => ?_)).trans hb
  obtain ⟨cur, hc⟩ := hr b e.symm
  rw [hc] at hb; cases hb⟩
theorem Blk.kb {g : Nat} {cs : Array Value} (h : Blk w g T cs) (k : KB T w w1) : Blk w1 g T cs := k g cs h
theorem Blk.only {g : Nat} {cs : Array Value} (h : Blk w g T' cs) (k : Only T w w1) (hn : T' ≠ T) : Blk w1 g T' cs := (k.kb T' hn) g cs h
end
/-- a map that leads each number of the events l to its place and one -/
def MapI (w : World) (T : TypeId) (B : Nat) (l : List Ev) : Prop := ∃ (n : Nat) (D : DataW Unit), w.ownsMap Tryz.prog 2 (plainElem Tryz.prog T) B n D ∧ n ≤ l.length ∧ IsMap D ∧
  ∀ id k, IW id → findE l id = some k → D.atKey (.int .i64 id) (.lit (.int .i64 0)) = .lit (.int .i64 ((k : Int) + 1))
theorem MapI.made (w : World) (T : TypeId) : MapI (w.alloc (.map #[] 0)) T w.heap.size [] :=
  ⟨0, .map [], World.ownsMap_made w _ _ _, Nat.le_refl _, isMap_empty, fun _ _ _ h => by simp [findE] at h⟩
theorem MapI.km {w w1 : World} {T : TypeId} {B : Nat} {l : List Ev} (h : MapI w T B l) (k : KM w w1) : MapI w1 T B l := by
  obtain ⟨n, D, ⟨es, cl, h1, h2⟩, h3⟩ := h
  exact ⟨n, D, ⟨es, cl, k B es cl h1, h2⟩, h3⟩
theorem MapI.ext {w w1 : World} {T : TypeId} {B : Nat} {l : List Ev} (h : MapI w T B l) (k : Ext w w1) : MapI w1 T B l := h.km (Only.ext (T := 0) k).km
theorem MapI.put {w1 : World} {T : TypeId} {B n : Nat} {l : List Ev} {D : DataW Unit} {x : Ev} (hn : n ≤ l.length) (hm : IsMap D)
    (ha : ∀ id k, IW id → findE l id = some k → D.atKey (.int .i64 id) (.lit (.int .i64 0)) = .lit (.int .i64 ((k : Int) + 1))) (hx : IW x.id) (hno : findE l x.id = none)
    (h : w1.ownsMap Tryz.prog 2 (plainElem Tryz.prog T) B (n + 1) (D.put (.int .i64 x.id) (.lit (.int .i64 ((l.length : Int) + 1))))) : MapI w1 T B (l ++ [x]) := by
  refine ⟨n + 1, _, h, by simp; omega, hm.put _ _, fun id k hid hk => ?_⟩
  rw [findE_snoc] at hk
  by_cases he : id = x.id
  · subst he
    rw [hno] at hk
    simp at hk
    subst hk
    exact atKey_put_same hm hx.isKey _ _
  · rw [atKey_put_other (by simpa using he)]
    refine ha id k hid ?_
    cases hf : findE l id with
    | some j => rw [hf] at hk; simpa using hk
    | none => rw [hf] at hk; simp [Ne.symm he] at hk
/-- a variable that is made at whatever time and filled at the chain's place p -/
structure VarJ (T : TypeId) (al p : Nat) (cs0 cs1 : Array Value) (r0 : Value) (W : World) (us : List Value) (gs : Nat → Option Nat) (w : World) : Prop where
  ext : Ext W w
  val : ∀ u, us[0]? = some u → u = r0
  va : ∀ g, gs al = some g → W.heap.size ≤ g ∧ Blk w g T (if us.length ≤ p then cs0 else cs1)
section
variable {T : TypeId} {al p : Nat} {cs0 cs1 : Array Value} {r0 : Value} {W w w2 : World} {us : List Value} {gs : Nat → Option Nat} {v : Value}
theorem VarJ.start (W : World) : VarJ T al p cs0 cs1 r0 W [] (fun _ => none) W.drew := ⟨(Ext.refl W).drew, fun u hu => by simp at hu, fun g h => by cases h⟩
theorem VarJ.alloc (h : VarJ T al p cs0 cs1 r0 W us gs w) (hl : us.length ≤ p) : VarJ T al p cs0 cs1 r0 W us (upd gs al w.heap.size) (w.alloc (.cells cs0 T)) := by
  refine ⟨h.ext.alloc _, h.val, fun g hg => ?_⟩
  rw [upd_self] at hg
  obtain rfl : w.heap.size = g := Option.some.inj hg
  rw [if_pos hl]
  exact ⟨h.ext.size, Blk.new w _ _⟩
theorem VarJ.call (h : VarJ T al p cs0 cs1 r0 W [] gs w) (hl : 0 < p) (hx : Ext w w2) (hv : v = r0) : VarJ T al p cs0 cs1 r0 W ([] ++ [v]) gs w2 := by
  refine ⟨h.ext.trans hx, fun u hu => by simp at hu; subst hu; exact hv, fun g hg => ?_⟩
  obtain ⟨h1, h2⟩ := h.va g hg
  rw [if_pos (by simp)] at h2
  rw [if_pos (by simp; omega)]
  exact ⟨h1, h2.ext hx⟩
theorem VarJ.blk {g : Nat} (h : VarJ T al p cs0 cs1 r0 W us gs w) (hg : gs al = some g) (hl : us.length ≤ p) : Blk w g T cs0 := by
  have := (h.va g hg).2
  rwa [if_pos hl] at this
theorem VarJ.store {g : Nat} (h : VarJ T al p cs0 cs1 r0 W us gs w) (hg : gs al = some g) (hl : us.length = p) (hv : us = [] → v = r0) : VarJ T al p cs0 cs1 r0 W (us ++ [v]) gs (putB w g T cs1) := by
  obtain ⟨h1, h2⟩ := h.va g hg
  refine ⟨h.ext.put h1 _ _, fun u hu => ?_, fun g' hg' => ?_⟩
  · cases us with
    | nil => simp at hu; subst hu; exact hv rfl
    | cons a us => exact h.val u (by simpa using hu)
  · rw [hg] at hg'
    obtain rfl := Option.some.inj hg'
    rw [if_neg (by simp; omega)]
    exact ⟨h1, (h.blk hg (by omega)).put _⟩
theorem VarJ.end_ {g : Nat} (h : VarJ T al p cs0 cs1 r0 W us gs w) (hg : gs al = some g) (hl : p < us.length) : W.heap.size ≤ g ∧ Blk w g T cs1 := by
  have := h.va g hg
  rwa [if_neg (by omega)] at this
end
theorem getElem_ltq {α : Type} {l : List α} {p : Nat} (h : p < l.length) : ∃ v, l[p]? = some v := ⟨_, List.getElem?_eq_getElem h⟩
/-- an element of a list of events of one's own -/
theorem EvsOwn.head {w : World} {L n c k : Nat} {A : Option Addr} {l : List Ev} {e : Ev} (h : EvsOwn w L (.slice A n c) n l) (hk : l[k]? = some e) : ∃ g A' n' c', A = some ⟨g, 0, none⟩ ∧ L ≤ g ∧ g < w.heap.size ∧ Typed w 66 g ∧
    (∀ j u, (e.cells A' n' c').toList[j]? = some u → w.cell? ⟨g, k * 7 + j, none⟩ = some u) ∧ (∀ j, w.frozen? ⟨g, j, none⟩ = false) ∧ EGood w L (EH.of e A' n' c') e := by
  obtain ⟨hs, h1, h2, h3, h4⟩ := h
  have hkn : k < n := by rw [← h3]; exact (List.getElem?_eq_some_iff.1 hk).1
  obtain ⟨g, cap, hv, hb, hlt⟩ := own_form h1 (by omega)
  injection hv with hA hn hc
  subst hA hc
  obtain ⟨x, hx⟩ : ∃ x, hs[k]? = some x := ⟨_, List.getElem?_eq_getElem (by omega)⟩
  have hg := h4 k x e hx hk
  refine ⟨g, x.A, x.n, x.c, rfl, hb, hlt, own_typed h1 g rfl, fun j u hu => ?_, fun j => h1.frozenAt j, by rw [← hg.1]; exact hg⟩
  have hj : j < 7 := (List.getElem?_eq_some_iff.1 hu).1
  rw [h1.cellAt (k * 7 + j) (by omega), flatMap_at EH.vals 7 EH.len hs k x j hx hj, hg.1, EH.of_vals]
  exact hu
/-- an event's number and span are set anew -/
theorem EvsOwn.edit {w : World} {L n c k g : Nat} {l : List Ev} {e : Ev} (i a b : Int) (h : EvsOwn w L (.slice (some ⟨g, 0, none⟩) n c) n l) (hk : l[k]? = some e) :
    EvsOwn (w.setCells g (k * 7) [.int .i64 i, .int .i64 a, .int .i64 b]) L (.slice (some ⟨g, 0, none⟩) n c) n (l.set k ⟨i, a, b, e.region, e.kind, e.speaker, e.rows⟩) := by
  obtain ⟨hs, h1, h2, h3, h4⟩ := h
  have hkn : k < n := by rw [← h3]; exact (List.getElem?_eq_some_iff.1 hk).1
  have hty : Typed w 66 g := own_typed h1 g rfl
  obtain ⟨x, hx⟩ : ∃ x, hs[k]? = some x := ⟨_, List.getElem?_eq_getElem (by omega)⟩
  have hg := h4 k x e hx hk
  have kb : ∀ {T : TypeId}, T ≠ 66 → KB T w (w.setCells g (k * 7) [.int .i64 i, .int .i64 a, .int .i64 b]) := fun hne => KB.sets hne _ _ _ hty
  refine ⟨hs.set k ⟨i, a, b, e.region, e.kind, e.speaker, x.A, x.n, x.c⟩, ?_, by simpa using h2, by simpa using h3, fun j y z hy hz => ?_⟩
  · have e1 := flat_set EH.len hs k 0 x ⟨i, x.inn, x.out, x.region, x.kind, x.speaker, x.A, x.n, x.c⟩ (.int .i64 i) hx rfl (by omega)
    have hx1 : (hs.set k ⟨i, x.inn, x.out, x.region, x.kind, x.speaker, x.A, x.n, x.c⟩)[k]? = some ⟨i, x.inn, x.out, x.region, x.kind, x.speaker, x.A, x.n, x.c⟩ := List.getElem?_set_self (by omega)
    have e2 := flat_set EH.len _ k 1 _ ⟨i, a, x.out, x.region, x.kind, x.speaker, x.A, x.n, x.c⟩ (.int .i64 a) hx1 rfl (by omega)
    rw [List.set_set] at e2
    have hx2 : (hs.set k ⟨i, a, x.out, x.region, x.kind, x.speaker, x.A, x.n, x.c⟩)[k]? = some ⟨i, a, x.out, x.region, x.kind, x.speaker, x.A, x.n, x.c⟩ := List.getElem?_set_self (by omega)
    have e3 := flat_set EH.len _ k 2 _ ⟨i, a, b, x.region, x.kind, x.speaker, x.A, x.n, x.c⟩ (.int .i64 b) hx2 rfl (by omega)
    rw [List.set_set] at e3
    have h5 := own_sets [.int .i64 i, .int .i64 a, .int .i64 b] (k * 7) w _ h1
    have e4 : setMany (hs.flatMap EH.vals) (k * 7) [.int .i64 i, .int .i64 a, .int .i64 b] = (hs.set k ⟨i, a, b, x.region, x.kind, x.speaker, x.A, x.n, x.c⟩).flatMap EH.vals := by
      rw [← e3, ← e2, ← e1]
      rfl
    rw [e4] at h5
    have hgx := hg.1
    have er : x.region = e.region := by rw [hgx]; rfl
    have ek : x.kind = e.kind := by rw [hgx]; rfl
    have es : x.speaker = e.speaker := by rw [hgx]; rfl
    rw [er, ek, es] at h5
    exact h5
  · by_cases hkj : k = j
    · subst hkj
      rw [List.getElem?_set_self (by omega)] at hy hz
      cases hy
      cases hz
      exact ⟨rfl, hg.2.1, hg.2.2.1, hg.2.2.2.kb (kb (by decide)) (kb (by decide))⟩
    · rw [List.getElem?_set_ne hkj] at hy hz
      exact (h4 j y z hy hz).kb (kb (by decide)) (kb (by decide))
/-- 'out = append(out, x)' in a drawn region: the element is built, appended, assigned -/
structure ApJ (T : TypeId) (size : Nat) (cells : Array Value) (base : Nat) (v : Value) (k : Nat) (xs : List Value) (W : World) (us : List Value) (w' : World) : Prop where
  only : Only T W w'
  nil : us = [] → Ext W w'
  one : ∀ u, us = [u] → ∃ g, u = .slice (some ⟨g, 0, none⟩) 1 1 ∧ W.heap.size ≤ g ∧ Blk w' g T cells ∧ Ext W w'
  two : ∀ u u1, us = [u, u1] → ∃ w5, Ext W w5 ∧ w5.grownBy w' v.ownBlock ∧ w'.ownsRow base T size u1 (k + 1) (xs ++ cells.toList)
  three : ∀ u u1 u2, us = [u, u1, u2] → u2 = u1 ∧ ∃ w5, Ext W w5 ∧ w5.grownBy w' v.ownBlock ∧ w'.ownsRow base T size u1 (k + 1) (xs ++ cells.toList)
section
variable {T : TypeId} {size : Nat} {cells : Array Value} {base : Nat} {v : Value} {k : Nat} {xs : List Value} {W w' w2 : World} {u0 u1 : Value}
theorem ApJ.start (W : World) : ApJ T size cells base v k xs W [] W.drew := ⟨Only.ext (Ext.refl W).drew, fun _ => (Ext.refl W).drew, fun u h => by simp at h, fun u u1 h => by simp at h, fun u u1 u2 h => by simp at h⟩
theorem ApJ.app (hx : Ext W w') (hv : ∀ q, v.ownBlock = some q → Typed w' T q) (hg : w'.grownBy w2 v.ownBlock) (ho : w2.ownsRow base T size u1 (k + 1) (xs ++ cells.toList)) : ApJ T size cells base v k xs W ([u0] ++ [u1]) w2 :=
  ⟨(Only.ext hx).trans (Only.grown hg hv), fun h => by simp at h, fun u h => by simp at h, fun u u1 h => by simp at h; obtain ⟨rfl, rfl⟩ := h; exact ⟨w', hx, hg, ho⟩, fun u u1 u2 h => by simp at h⟩
theorem ApJ.asg (h : ApJ T size cells base v k xs W [u0, u1] w') : ApJ T size cells base v k xs W ([u0, u1] ++ [u1]) w' :=
  ⟨h.only, fun h => by simp at h, fun u h => by simp at h, fun u u1 h => by simp at h, fun a b c e => by simp at e; obtain ⟨rfl, rfl, rfl⟩ := e; exact ⟨rfl, h.two _ _ rfl⟩⟩
end
/-- an event's number and span are stored, one after the other, in a drawn region -/
structure StJ (g o : Nat) (i a b : Value) (W : World) (us : List Value) (w' : World) : Prop where
  only : Only 66 W w'
  nil : us = [] → Ext W w'
  one : ∀ u, us = [u] → ∃ w5, Ext W w5 ∧ w' = w5.setCell ⟨g, o, none⟩ i
  two : ∀ u u1, us = [u, u1] → ∃ w5, Ext W w5 ∧ w' = w5.setCells g o [i, a, b]
section
variable {g o : Nat} {i a b : Value} {W w' : World} {u0 u1 : Value}
theorem StJ.start (W : World) : StJ g o i a b W [] W.drew := ⟨Only.ext (Ext.refl W).drew, fun _ => (Ext.refl W).drew, fun u h => by simp at h, fun u u1 h => by simp at h⟩
theorem StJ.first (h : StJ g o i a b W [] w') (hT : Typed W 66 g) : StJ g o i a b W ([] ++ [u0]) (w'.setCell ⟨g, o, none⟩ i) :=
  ⟨(Only.ext (h.nil rfl)).trans (Only.set (p := ⟨g, o, none⟩) (hT.ext (h.nil rfl))), fun h => by simp at h, fun u hu => ⟨w', h.nil rfl, rfl⟩, fun u u1 h => by simp at h⟩
end
end Go.Proofs.YtagfedbdakmlgaaGreatDoor

/-! RatioQ -/
namespace Go.Proofs.YtagfedbdakmlgaaGreatDoor
set_option linter.unusedVariables false
set_option linter.unusedSimpArgs false
open Go.RowKit
/-- is a remainder rounded up? (mode 1: down, 2: to the nearest, 3: up) -/
def awayB (r d m : Int) : Bool := if r = 0 then false else if m = 1 then false else if m = 3 then true else decide (d - r ≤ r)
/-- a quotient of numbers that are not negative -/
def quoI (n d m : Int) : Int := if awayB (n % d) d m = true then n / d + 1 else n / d
end Go.Proofs.YtagfedbdakmlgaaGreatDoor

/-! ConvP -/
namespace Go.Proofs.YtagfedbdakmlgaaGreatDoor
set_option linter.unusedVariables false
set_option linter.unusedSimpArgs false
open Go.RowKit
/-- the tick at which a frame begins, and the error -/
def timeT (r f : Int) : Int × Int := if rOk r = false then (0, 3) else if f < 0 ∨ 10378368000 / rTicks r < f then (0, 2) else (f * rTicks r, 0)
/-- the frame of a tick (mode m), and the error -/
def frameT (r t m : Int) : Int × Int := if rOk r = false then (0, 3) else if t < 0 ∨ 10378368000 < t then (0, 2) else if 10378368000 < quoI t (rTicks r) m * rTicks r then (0, 2) else (quoI t (rTicks r) m, 0)
def convT (a b f m : Int) : Int × Int := if rOk a = false ∨ rOk b = false then (0, 3) else if (timeT a f).2 ≠ 0 then (0, (timeT a f).2) else frameT b (timeT a f).1 m
/-- the span that a span becomes, and the error -/
def spanT (a b i o m : Int) : (Int × Int) × Int :=
  if rOk a = false ∨ rOk b = false then ((0, 0), 3) else if ¬ (m = 1 ∨ m = 2) ∨ o ≤ i then ((0, 0), 1) else if i < 0 ∨ 5184000 < o then ((0, 0), 2) else if m = 2 then ((i, o), 0) else
    if (convT a b i 2).2 ≠ 0 then ((0, 0), (convT a b i 2).2) else if (convT a b o 2).2 ≠ 0 then ((0, 0), (convT a b o 2).2) else
      if 5184000 < max (convT a b o 2).1 ((convT a b i 2).1 + 1) then ((0, 0), 2) else (((convT a b i 2).1, max (convT a b o 2).1 ((convT a b i 2).1 + 1)), 0)
end Go.Proofs.YtagfedbdakmlgaaGreatDoor

/-! WorstP -/
namespace Go.Proofs.YtagfedbdakmlgaaGreatDoor
set_option linter.unusedVariables false
set_option linter.unusedSimpArgs false
open Go.RowKit
/-- a drift -/
structure Dri where
  id : Int
  inn : Int
  out : Int
  deriving DecidableEq
def Dri.vals (d : Dri) : List Value := [.int .i64 d.id, .int .i64 d.inn, .int .i64 d.out]
def DrisAt (w : World) (A : Option Addr) (n : Nat) (l : List Dri) : Prop := Sl w 3 (Cells Dri.vals) A n l
theorem DrisAt.ext {w w1 : World} {A : Option Addr} {n : Nat} {l : List Dri} (h : DrisAt w A n l) (k : Ext w w1) : DrisAt w1 A n l := Sl.ext (Cells.stays _) h k
/-- the numbers fit -/
def Dri.Fits (d : Dri) : Prop := (-9223372036854775808 ≤ d.inn ∧ d.inn ≤ 9223372036854775807) ∧ (-9223372036854775808 ≤ d.out ∧ d.out ≤ 9223372036854775807)
/-- the size of a drift -/
def dsz (n : Int) : Int := if n = -9223372036854775808 then 9223372036854775807 else if n < 0 then -n else n
def worstStep (n : Int) (d : Dri) : Int := max (max n (dsz d.inn)) (dsz d.out)
def worst (l : List Dri) : Int := l.foldl worstStep 0
/-- whether the worst is met among these -/
def metB (n : Int) (l : List Dri) : Bool := decide (n = 0) || l.any fun d => decide (dsz d.inn = n) || decide (dsz d.out = n)
/-- the number whose size is taken -/
def dfix (x : Int) : Int := if x = -9223372036854775808 then -9223372036854775807 else x
end Go.Proofs.YtagfedbdakmlgaaGreatDoor

/-! RetP -/
namespace Go.Proofs.YtagfedbdakmlgaaGreatDoor
set_option linter.unusedVariables false
set_option linter.unusedSimpArgs false
open Go.RowKit
/-- the document without anything -/
def Doc.zero : Doc := ⟨⟨#[]⟩, ⟨#[]⟩, 0, false, 0, [], [], []⟩
/-- the span of an event in another rate, and the error -/
def Ev.span (a b m : Int) (x : Ev) : (Int × Int) × Int := spanT a b x.inn x.out m
/-- the first error of the spans -/
def retErr (a b m : Int) : List Ev → Int
  | [] => 0
  | x :: l => if (x.span a b m).2 ≠ 0 then (x.span a b m).2 else retErr a b m l
/-- the event at place k in another rate -/
def retEv (a b m : Int) (k : Nat) (x : Ev) : Ev := ⟨(k : Int) + 1, (x.span a b m).1.1, (x.span a b m).1.2, x.region, x.kind, x.speaker, x.rows⟩
def retDri (a b m : Int) (k : Nat) (x : Ev) : Dri := ⟨(k : Int) + 1, (x.span a b m).1.1 * rTicks b - x.inn * rTicks a, (x.span a b m).1.2 * rTicks b - x.out * rTicks a⟩
def retEvs (a b m : Int) (l : List Ev) : List Ev := l.mapIdx (retEv a b m)
def retDris (a b m : Int) (l : List Ev) : List Dri := l.mapIdx (retDri a b m)
/-- the new number of an event -/
def newId (l : List Ev) (id : Int) : Int := match findE l id with | some k => (k : Int) + 1 | none => 0
/-- the comments that are not lost, numbered behind a number -/
def retComs (evs : List Ev) : Int → List Com → List Com
  | _, [] => []
  | p, c :: l => if c.lost = true then retComs evs p l else ⟨p + 1, newId evs c.ev, c.fr, c.til, c.author, c.text, c.done, c.lost⟩ :: retComs evs (p + 1) l
def liveN (l : List Com) : Nat := (l.filter fun c => !c.lost).length
def Doc.ret (d : Doc) (b : Int) (drop : Bool) (m : Int) : Doc :=
  ⟨d.title, d.lang, b, drop, (d.evs.length : Int) + liveN d.coms, d.regs, retEvs d.rate b m d.evs, retComs d.evs d.evs.length d.coms⟩
/-- the error of a document in another rate -/
def Doc.retE (d : Doc) (b : Int) (drop : Bool) (m : Int) : Int :=
  if d.err ≠ 0 then d.err else if rateOkB b drop = false then 13 else if ¬ (m = 1 ∨ m = 2) then 1 else retErr d.rate b m d.evs
/-- the document, the drifts -/
def Doc.retD (d : Doc) (b : Int) (drop : Bool) (m : Int) : Doc := if d.retE b drop m = 0 then d.ret b drop m else Doc.zero
def Doc.retL (d : Doc) (b : Int) (drop : Bool) (m : Int) : List Dri := if d.retE b drop m = 0 then retDris d.rate b m d.evs else []
theorem mapIdx_snoc {α β : Type} (f : Nat → α → β) (l : List α) (x : α) : (l ++ [x]).mapIdx f = l.mapIdx f ++ [f l.length x] := by simp [List.mapIdx_append]
theorem mapIdx_take {α β : Type} (f : Nat → α → β) {l : List α} {k : Nat} {x : α} (h : l[k]? = some x) : (l.take (k + 1)).mapIdx f = (l.take k).mapIdx f ++ [f k x] := by
  have := (List.getElem?_eq_some_iff.1 h).1
  rw [take_snoc' l k x h, mapIdx_snoc, List.length_take, Nat.min_eq_left (by omega)]
end Go.Proofs.YtagfedbdakmlgaaGreatDoor

/-! SlCl -/
namespace Go.Proofs.YtagfedbdakmlgaaGreatDoor
set_option linter.unusedVariables false
set_option linter.unusedSimpArgs false
open Go.RowKit
theorem info_regI : (Tryz.prog.info? 94).map (fun i => (i.zero, i.size, i.bytes)) = some (some (.agg #[.string ⟨#[]⟩, .int .i64 0, .int .i64 0, .int .i64 0, .int .i64 0, .int .u8 0, .bool false]), 7, 56) := by kernel_rfl
theorem info_comI : (Tryz.prog.info? 78).map (fun i => (i.zero, i.size, i.bytes)) = some (some (.agg #[.int .i64 0, .int .i64 0, .int .i64 0, .int .i64 0, .string ⟨#[]⟩, .string ⟨#[]⟩, .bool false, .bool false]), 8, 72) := by kernel_rfl
theorem info_evtI : (Tryz.prog.info? 66).map (fun i => (i.zero, i.size, i.bytes)) = some (some (.agg #[.int .i64 0, .int .i64 0, .int .i64 0, .string ⟨#[]⟩, .int .u8 0, .string ⟨#[]⟩, .slice none 0 0]), 7, 88) := by kernel_rfl
theorem reg_ones : ∀ (r : Reg), ∀ u ∈ r.vals, u.oneCell' = true := by intro r u hu; simp [Reg.vals] at hu; rcases hu with rfl | rfl | rfl | rfl | rfl | rfl | rfl <;> rfl
theorem com_ones : ∀ (r : Com), ∀ u ∈ r.vals, u.oneCell' = true := by intro r u hu; simp [Com.vals] at hu; rcases hu with rfl | rfl | rfl | rfl | rfl | rfl | rfl | rfl <;> rfl
theorem eh_ones : ∀ (r : EH), ∀ u ∈ r.vals, u.oneCell' = true := by intro r u hu; simp [EH.vals] at hu; rcases hu with rfl | rfl | rfl | rfl | rfl | rfl | rfl <;> rfl
def CloneRegsPost (l : List Reg) (n : Nat) (w : World) (e : Ending) (w' : World) : Prop :=
  ∃ A c, e = .returned (.slice A n c) ∧ w'.ownsRow w.heap.size 94 7 (.slice A n c) n (l.flatMap Reg.vals) ∧ Ext w w'
set_option maxHeartbeats 1000000 in
theorem CloneRegs_any (A : Option Addr) (n c : Nat) (l : List Reg) (w : World) (hl : Sl w 7 (Cells Reg.vals) A n l) (hn : n * 56 ≤ 140737488355328) :
    Calls Tryz.prog 125 #[.slice A n c] w (CloneRegsPost l n w) := by
  have hq := fun w => Lib.run_eql_slice_nil (P := Tryz.prog) w 23 94 A n c 0 0 Tryz.underlying23
  have HL := Lib.hid hl
  clear hl
  cases A with
  | none =>
    have hn0 : n = 0 := by
      rcases Nat.eq_zero_or_pos n with h | h
      · exact h
      · obtain ⟨_, _, h, _⟩ := HL.out.2 h; cases h
    subst hn0
    have hs0 : l = [] := List.eq_nil_of_length_eq_zero HL.out.len
    subst hs0
    simp only [Option.isNone_none] at hq
    go_enter Tryz.func125, Tryz.ntmps125
    go_wp2_with fail
    go_ret
    exact ⟨none, 0, rfl, ⟨rfl, .inl ⟨rfl, rfl⟩⟩, Ext.refl _⟩
  | some ad =>
    simp only [Option.isNone_some] at hq
    go_enter Tryz.func125, Tryz.ntmps125
    go_wp2_with (at_builtin; refine wpList_appendS rfl (.tmp 5) (.tmp 6) 23 rfl info_regI Tryz.underlying23 rfl (by decide) (by exact own_nil0 w _ _ w.heap.size (Nat.le_refl _)) (by exact rfl) (by exact rfl) (by exact Sl.ext (Cells.stays _) HL.out ((Ext.refl w).alloc _)) (fun _ => rfl) reg_ones (by omega) (by simp [maxLen]; omega) (by simp) ?_; intro v' w' hown hgr hnil)
    go_ret
    simp only [Nat.zero_add, List.nil_append] at hown
    obtain ⟨A', c', rfl, hc, _, hsl, hfr⟩ := own_sl (f := Reg.vals) (size := 7) (fun _ => rfl) HL.out.len hown
    exact ⟨A', c', rfl, hown, ((Ext.refl w).alloc _).grown hgr (fun q hq => by simp [Value.ownBlock] at hq; omega)⟩
def CloneComsPost (l : List Com) (n : Nat) (w : World) (e : Ending) (w' : World) : Prop :=
  ∃ A c, e = .returned (.slice A n c) ∧ w'.ownsRow w.heap.size 78 8 (.slice A n c) n (l.flatMap Com.vals) ∧ Ext w w'
set_option maxHeartbeats 1000000 in
theorem CloneComs_any (A : Option Addr) (n c : Nat) (l : List Com) (w : World) (hl : Sl w 8 (Cells Com.vals) A n l) (hn : n * 72 ≤ 140737488355328) :
    Calls Tryz.prog 115 #[.slice A n c] w (CloneComsPost l n w) := by
  have hq := fun w => Lib.run_eql_slice_nil (P := Tryz.prog) w 25 78 A n c 0 0 Tryz.underlying25
  have HL := Lib.hid hl
  clear hl
  cases A with
  | none =>
    have hn0 : n = 0 := by
      rcases Nat.eq_zero_or_pos n with h | h
      · exact h
      · obtain ⟨_, _, h, _⟩ := HL.out.2 h; cases h
    subst hn0
    have hs0 : l = [] := List.eq_nil_of_length_eq_zero HL.out.len
    subst hs0
    simp only [Option.isNone_none] at hq
    go_enter Tryz.func115, Tryz.ntmps115
    go_wp2_with fail
    go_ret
    exact ⟨none, 0, rfl, ⟨rfl, .inl ⟨rfl, rfl⟩⟩, Ext.refl _⟩
  | some ad =>
    simp only [Option.isNone_some] at hq
    go_enter Tryz.func115, Tryz.ntmps115
    go_wp2_with (at_builtin; refine wpList_appendS rfl (.tmp 5) (.tmp 6) 25 rfl info_comI Tryz.underlying25 rfl (by decide) (by exact own_nil0 w _ _ w.heap.size (Nat.le_refl _)) (by exact rfl) (by exact rfl) (by exact Sl.ext (Cells.stays _) HL.out ((Ext.refl w).alloc _)) (fun _ => rfl) com_ones (by omega) (by simp [maxLen]; omega) (by simp) ?_; intro v' w' hown hgr hnil)
    go_ret
    simp only [Nat.zero_add, List.nil_append] at hown
    obtain ⟨A', c', rfl, hc, _, hsl, hfr⟩ := own_sl (f := Com.vals) (size := 8) (fun _ => rfl) HL.out.len hown
    exact ⟨A', c', rfl, hown, ((Ext.refl w).alloc _).grown hgr (fun q hq => by simp [Value.ownBlock] at hq; omega)⟩
def CloneEHsPost (l : List EH) (n : Nat) (w : World) (e : Ending) (w' : World) : Prop :=
  ∃ A c, e = .returned (.slice A n c) ∧ w'.ownsRow w.heap.size 66 7 (.slice A n c) n (l.flatMap EH.vals) ∧ Ext w w'
set_option maxHeartbeats 1000000 in
theorem CloneEHs_any (A : Option Addr) (n c : Nat) (l : List EH) (w : World) (hl : Sl w 7 (Cells EH.vals) A n l) (hn : n * 88 ≤ 140737488355328) :
    Calls Tryz.prog 126 #[.slice A n c] w (CloneEHsPost l n w) := by
  have hq := fun w => Lib.run_eql_slice_nil (P := Tryz.prog) w 24 66 A n c 0 0 Tryz.underlying24
  have HL := Lib.hid hl
  clear hl
  cases A with
  | none =>
    have hn0 : n = 0 := by
      rcases Nat.eq_zero_or_pos n with h | h
      · exact h
      · obtain ⟨_, _, h, _⟩ := HL.out.2 h; cases h
    subst hn0
    have hs0 : l = [] := List.eq_nil_of_length_eq_zero HL.out.len
    subst hs0
    simp only [Option.isNone_none] at hq
    go_enter Tryz.func126, Tryz.ntmps126
    go_wp2_with fail
    go_ret
    exact ⟨none, 0, rfl, ⟨rfl, .inl ⟨rfl, rfl⟩⟩, Ext.refl _⟩
  | some ad =>
    simp only [Option.isNone_some] at hq
    go_enter Tryz.func126, Tryz.ntmps126
    go_wp2_with (at_builtin; refine wpList_appendS rfl (.tmp 5) (.tmp 6) 24 rfl info_evtI Tryz.underlying24 rfl (by decide) (by exact own_nil0 w _ _ w.heap.size (Nat.le_refl _)) (by exact rfl) (by exact rfl) (by exact Sl.ext (Cells.stays _) HL.out ((Ext.refl w).alloc _)) (fun _ => rfl) eh_ones (by omega) (by simp [maxLen]; omega) (by simp) ?_; intro v' w' hown hgr hnil)
    go_ret
    simp only [Nat.zero_add, List.nil_append] at hown
    obtain ⟨A', c', rfl, hc, _, hsl, hfr⟩ := own_sl (f := EH.vals) (size := 7) (fun _ => rfl) HL.out.len hown
    exact ⟨A', c', rfl, hown, ((Ext.refl w).alloc _).grown hgr (fun q hq => by simp [Value.ownBlock] at hq; omega)⟩
theorem RegsAt.vals {w : World} {A : Option Addr} {n : Nat} {l : List Reg} (h : RegsAt w A n l) : Sl w 7 (Cells Reg.vals) A n l := Sl.change h fun _ _ _ => cells_regC
/-- the heads of events, and that their rows are what they are -/
theorem evs_heads {w : World} {A : Option Addr} {n : Nat} {l : List Ev} (h : EvsAt w A n l) : ∃ hs : List EH, Sl w 7 (Cells EH.vals) A n hs ∧ ∀ (i : Nat) (x : EH) (e : Ev), hs[i]? = some x → l[i]? = some e → x = EH.of e x.A x.n x.c ∧ EvAt w e x.A x.n x.c := by
  have hall : ∀ i : Nat, ∃ x : EH, i < n → (∀ b off, A = some ⟨b, off, none⟩ → ∀ j u, x.vals[j]? = some u → w.cell? ⟨b, off + i * 7 + j, none⟩ = some u) ∧ ∀ e, l[i]? = some e → x = EH.of e x.A x.n x.c ∧ EvAt w e x.A x.n x.c := by
    intro i
    by_cases hi : i < n
    · obtain ⟨b, off, e, hA, he, A', n', c', h1, h2⟩ := h.at_ hi
      refine ⟨EH.of e A' n' c', fun _ => ⟨fun b' off' hA' => ?_, fun e' he' => ?_⟩⟩
      · rw [hA] at hA'
        cases hA'
        exact h1
      · rw [he] at he'
        cases he'
        exact ⟨rfl, h2⟩
    · exact ⟨⟨0, 0, 0, ⟨#[]⟩, 0, ⟨#[]⟩, none, 0, 0⟩, fun h => absurd h hi⟩
  obtain ⟨f, hf⟩ := Classical.axiomOfChoice hall
  have hat : ∀ (i : Nat) (x : EH), ((List.range n).map f)[i]? = some x → i < n ∧ x = f i := fun i x hx => by
    have hi : i < n := by
      have := (List.getElem?_eq_some_iff.1 hx).1
      simpa using this
    rw [List.getElem?_map, List.getElem?_range hi] at hx
    exact ⟨hi, (Option.some.inj hx).symm⟩
  refine ⟨(List.range n).map f, ⟨by simp, fun hn => ?_⟩, fun i x e hx he => ?_⟩
  · obtain ⟨b, off, hA, _⟩ := h.2 hn
    refine ⟨b, off, hA, fun i x hx j u hu => ?_⟩
    obtain ⟨hi, rfl⟩ := hat i x hx
    exact (hf i hi).1 b off hA j u hu
  · obtain ⟨hi, rfl⟩ := hat i x hx
    exact (hf i hi).2 e he
end Go.Proofs.YtagfedbdakmlgaaGreatDoor
