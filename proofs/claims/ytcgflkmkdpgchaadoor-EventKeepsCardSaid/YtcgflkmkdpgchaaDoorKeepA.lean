/- Rows whose texts may be written: what stays of them whatever text is put into a run. -/
import Derived.Test.YtcgflkmkdpgchaaDoorAllocs
import Derived.Test.YtcgflkmkdpgchaaDoorRJoin
import Derived.Test.YtcgflkmkdpgchaaDoorSameE
namespace Go.Proofs.YtcgflkmkdpgchaaDoor
set_option linter.unusedVariables false
set_option linter.unusedSimpArgs false
open Go.RowKit

/-- rows in memory from block L on: their headers, and a text in each of their runs -/
def Shape (w : World) (L : Nat) (A : Option Addr) (n : Nat) (hs : List Hd) : Prop :=
  HdsAt w A n hs ∧ Fresh w 43 L A ∧ ∀ h ∈ hs, h.2.1 ≤ h.2.2 ∧ h.2.1 ≤ 140737488355328 ∧ Fresh w 48 L h.1 ∧ ∀ k, k < h.2.1 → ∃ b off s, h.1 = some ⟨b, off, none⟩ ∧ w.cell? ⟨b, off + k * 5, none⟩ = some (.string s)
theorem RowsFresh.shape {w : World} {L : Nat} {A : Option Addr} {n : Nat} {l : List Row} (h : RowsFresh w L A n l) : ∃ hs, Shape w L A n hs := by
  obtain ⟨hs, h1, h2, h3, h4, h5⟩ := h
  refine ⟨hs, h1, h4, fun hd hm => ?_⟩
  obtain ⟨i, hi⟩ := List.getElem?_of_mem hm
  have hil : i < l.length := by rw [h3, ← h1.len]; exact (List.getElem?_eq_some_iff.1 hi).1
  have g := h2 i hd _ hi (List.getElem?_eq_getElem hil)
  refine ⟨g.1, by have := g.2.1; omega, h5 hd hm, fun k hk => ?_⟩
  obtain ⟨b, off, x, hA, hx, hC⟩ := g.2.2.at_ hk
  exact ⟨b, off, x.text, hA, hC.1⟩
theorem Shape.ext {w w1 : World} {L : Nat} {A : Option Addr} {n : Nat} {hs : List Hd} (h : Shape w L A n hs) (k : Ext w w1) : Shape w1 L A n hs :=
  ⟨Sl.ext (Cells.stays _) h.1 k, h.2.1.ext k, fun hd hm => ⟨(h.2.2 hd hm).1, (h.2.2 hd hm).2.1, (h.2.2 hd hm).2.2.1.ext k, fun q hq => by
    obtain ⟨b, off, s, h1, h2⟩ := (h.2.2 hd hm).2.2.2 q hq
    exact ⟨b, off, s, h1, k.cell h2⟩⟩⟩
theorem Shape.le {w : World} {L L' : Nat} {A : Option Addr} {n : Nat} {hs : List Hd} (h : Shape w L A n hs) (hl : L' ≤ L) : Shape w L' A n hs :=
  ⟨h.1, h.2.1.le hl, fun hd hm => ⟨(h.2.2 hd hm).1, (h.2.2 hd hm).2.1, (h.2.2 hd hm).2.2.1.le hl, (h.2.2 hd hm).2.2.2⟩⟩
theorem cell_set_self {w : World} {p : Addr} {v : Value} (hs : p.spot = none) (h : w.cell? p = some v) (u : Value) : (w.setCell p u).cell? p = some u := by
  unfold World.cell? at h
  unfold World.cell? World.setCell
  simp only [Array.getElem?_modify, if_true]
  cases hb : w.heap[p.block]? with
  | none => rw [hb] at h; simp at h
  | some o =>
    rw [hb] at h
    cases o with
    | cells c t fz =>
      simp [hs] at h ⊢
      have := (Array.getElem?_eq_some_iff.1 h).1
      simp [this]
    | _ => simp at h
/-- a text is put into a run -/
theorem Shape.set {w : World} {L : Nat} {A : Option Addr} {n : Nat} {hs : List Hd} (h : Shape w L A n hs) {b o : Nat} (hT : Typed w 48 b) {s0 : ByteArray} (hc : w.cell? ⟨b, o, none⟩ = some (.string s0)) (s : ByteArray) : Shape (w.setCell ⟨b, o, none⟩ (.string s)) L A n hs := by
  refine ⟨Sl.keep h.1 fun _ b' off hA o' x hx j u hu => ?_, h.2.1.setCell _ _, fun hd hm => ⟨(h.2.2 hd hm).1, (h.2.2 hd hm).2.1, (h.2.2 hd hm).2.2.1.setCell _ _, fun q hq => ?_⟩⟩
  · have hne : b' ≠ b := Typed.ne (h.2.1 _ hA).2 hT (by decide)
    rw [World.cell?_setCell_other w ⟨b, o, none⟩ ⟨b', o' + j, none⟩ _ (fun e => hne (by injection e with e1; exact e1.symm))]
    exact hx j u hu
  · obtain ⟨b', off, s', h1, h2⟩ := (h.2.2 hd hm).2.2.2 q hq
    by_cases he : (⟨b', off + q * 5, none⟩ : Addr) = ⟨b, o, none⟩
    · exact ⟨b', off, s, h1, by rw [he]; exact cell_set_self rfl hc _⟩
    · exact ⟨b', off, s', h1, by rw [World.cell?_setCell_other w ⟨b, o, none⟩ _ _ (Ne.symm he)]; exact h2⟩
theorem Blk.setRun {w : World} {g : Nat} {cs : Array Value} (h : Blk w g 27 cs) {b o : Nat} (hT : Typed w 48 b) (u : Value) : Blk (w.setCell ⟨b, o, none⟩ u) g 27 cs := by
  have hne : b ≠ g := Typed.ne hT h.typed (by decide)
  unfold Blk World.setCell
  simp only [Array.getElem?_modify]
  rw [if_neg hne]
  exact h

/-- what 'was, then := Clone(e), Clone(d)' has come to: two copies, two variables -/
structure KeepJ (x y : Ev) (n m : Nat) (w2 : World) (us : List Value) (gs : Nat → Option Nat) (w : World) : Prop where
  ext : Ext w2 w
  one : ∀ v, us[0]? = some v → ∃ A1 c1, v = .agg (x.cells A1 n c1) ∧ n ≤ c1 ∧ RowsFresh w w2.heap.size A1 n x.rows
  two : ∀ v, us[1]? = some v → ∃ A2 c2, v = .agg (y.cells A2 m c2) ∧ m ≤ c2 ∧ RowsFresh w w2.heap.size A2 m y.rows
  va : ∀ g, gs 4 = some g → w2.heap.size ≤ g ∧ ∃ cs, cs.size = 7 ∧ Blk w g 27 cs ∧ (2 < us.length → us[0]? = some (.agg cs))
  vb : ∀ g, gs 5 = some g → w2.heap.size ≤ g ∧ ∃ cs, cs.size = 7 ∧ Blk w g 27 cs ∧ (3 < us.length → us[1]? = some (.agg cs))
  ne : ∀ g g', gs 4 = some g → gs 5 = some g' → g ≠ g'
section
variable {x y : Ev} {n m : Nat} {w2 w : World} {us : List Value} {gs : Nat → Option Nat}
theorem keepJ_start (w2 : World) : KeepJ x y n m w2 [] (fun _ => none) w2.drew := ⟨(Ext.refl w2).drew, fun v h => (by simp at h), fun v h => (by simp at h), fun g h => (by cases h), fun g h => (by cases h), fun g g' h => (by cases h)⟩
theorem keepJ_alloc4 (h : KeepJ x y n m w2 us gs w) (hl : us.length ≤ 2) : KeepJ x y n m w2 us (upd gs 4 w.heap.size) (w.alloc (.cells evZero 27)) := by
  have hx : Ext w (w.alloc (.cells evZero 27)) := (Ext.refl w).alloc _
  refine ⟨h.ext.trans hx, fun v hv => ?_, fun v hv => ?_, fun g hg => ?_, fun g hg => ?_, fun g g' hg hg' => ?_⟩
  · obtain ⟨A1, c1, h1, h2, h3⟩ := h.one v hv; exact ⟨A1, c1, h1, h2, h3.ext hx⟩
  · obtain ⟨A1, c1, h1, h2, h3⟩ := h.two v hv; exact ⟨A1, c1, h1, h2, h3.ext hx⟩
  · rw [upd_self] at hg
    obtain rfl : w.heap.size = g := Option.some.inj hg
    exact ⟨h.ext.size, evZero, rfl, Blk.new w _ _, fun h' => absurd h' (by omega)⟩
  · rw [upd_other _ (by decide)] at hg
    obtain ⟨h1, cs, h2, h3, h4⟩ := h.vb g hg
    exact ⟨h1, cs, h2, h3.ext hx, h4⟩
  · rw [upd_self] at hg
    rw [upd_other _ (by decide)] at hg'
    obtain rfl : w.heap.size = g := Option.some.inj hg
    obtain ⟨_, cs, _, h3, _⟩ := h.vb g' hg'
    have := h3.lt
    omega
theorem keepJ_alloc5 (h : KeepJ x y n m w2 us gs w) (hl : us.length ≤ 3) : KeepJ x y n m w2 us (upd gs 5 w.heap.size) (w.alloc (.cells evZero 27)) := by
  have hx : Ext w (w.alloc (.cells evZero 27)) := (Ext.refl w).alloc _
  refine ⟨h.ext.trans hx, fun v hv => ?_, fun v hv => ?_, fun g hg => ?_, fun g hg => ?_, fun g g' hg hg' => ?_⟩
  · obtain ⟨A1, c1, h1, h2, h3⟩ := h.one v hv; exact ⟨A1, c1, h1, h2, h3.ext hx⟩
  · obtain ⟨A1, c1, h1, h2, h3⟩ := h.two v hv; exact ⟨A1, c1, h1, h2, h3.ext hx⟩
  · rw [upd_other _ (by decide)] at hg
    obtain ⟨h1, cs, h2, h3, h4⟩ := h.va g hg
    exact ⟨h1, cs, h2, h3.ext hx, h4⟩
  · rw [upd_self] at hg
    obtain rfl : w.heap.size = g := Option.some.inj hg
    exact ⟨h.ext.size, evZero, rfl, Blk.new w _ _, fun h' => absurd h' (by omega)⟩
  · rw [upd_self] at hg'
    rw [upd_other _ (by decide)] at hg
    obtain rfl : w.heap.size = g' := Option.some.inj hg'
    obtain ⟨_, cs, _, h3, _⟩ := h.va g hg
    have := h3.lt
    omega
theorem keepJ_call0 (h : KeepJ x y n m w2 [] gs w) {w' : World} (hx : Ext w w') {A1 : Option Addr} {c1 : Nat} (hc : n ≤ c1) (hr : RowsFresh w' w.heap.size A1 n x.rows) : KeepJ x y n m w2 ([] ++ [.agg (x.cells A1 n c1)]) gs w' := by
  refine ⟨h.ext.trans hx, fun v hv => ?_, fun v hv => by simp at hv, fun g hg => ?_, fun g hg => ?_, h.ne⟩
  · simp at hv; exact ⟨A1, c1, hv.symm, hc, hr.le h.ext.size⟩
  · obtain ⟨h1, cs, h2, h3, _⟩ := h.va g hg; exact ⟨h1, cs, h2, h3.ext hx, fun h' => by simp at h'⟩
  · obtain ⟨h1, cs, h2, h3, _⟩ := h.vb g hg; exact ⟨h1, cs, h2, h3.ext hx, fun h' => by simp at h'⟩
theorem keepJ_call1 {u0 : Value} (h : KeepJ x y n m w2 [u0] gs w) {w' : World} (hx : Ext w w') {A2 : Option Addr} {c2 : Nat} (hc : m ≤ c2) (hr : RowsFresh w' w.heap.size A2 m y.rows) : KeepJ x y n m w2 ([u0] ++ [.agg (y.cells A2 m c2)]) gs w' := by
  refine ⟨h.ext.trans hx, fun v hv => ?_, fun v hv => ?_, fun g hg => ?_, fun g hg => ?_, h.ne⟩
  · obtain ⟨A1, c1, h1, h2, h3⟩ := h.one v (by simpa using hv); exact ⟨A1, c1, h1, h2, h3.ext hx⟩
  · simp at hv; exact ⟨A2, c2, hv.symm, hc, hr.le h.ext.size⟩
  · obtain ⟨h1, cs, h2, h3, _⟩ := h.va g hg; exact ⟨h1, cs, h2, h3.ext hx, fun h' => by simp at h'⟩
  · obtain ⟨h1, cs, h2, h3, _⟩ := h.vb g hg; exact ⟨h1, cs, h2, h3.ext hx, fun h' => by simp at h'⟩
theorem keepJ_store2 {u1 v : Value} {A1 : Option Addr} {c1 ga : Nat} (h : KeepJ x y n m w2 [.agg (x.cells A1 n c1), u1] gs w) (hg4 : gs 4 = some ga) {cs : Array Value} (hB : Blk w ga 27 cs) : KeepJ x y n m w2 ([.agg (x.cells A1 n c1), u1] ++ [v]) gs (putB w ga 27 (x.cells A1 n c1)) := by
  refine ⟨h.ext.put (h.va ga hg4).1 _ _, fun v hv => ?_, fun v hv => ?_, fun g hg => ?_, fun g hg => ?_, h.ne⟩
  · obtain ⟨A', c', h1, h2, h3⟩ := h.one v (by simpa using hv); exact ⟨A', c', h1, h2, h3.put hB _ (by decide) (by decide)⟩
  · obtain ⟨A', c', h1, h2, h3⟩ := h.two v (by simpa using hv); exact ⟨A', c', h1, h2, h3.put hB _ (by decide) (by decide)⟩
  · rw [hg4] at hg
    obtain rfl : ga = g := Option.some.inj hg
    exact ⟨(h.va ga hg4).1, _, rfl, hB.put _, fun _ => rfl⟩
  · obtain ⟨h1, cs', h2, h3, _⟩ := h.vb g hg
    exact ⟨h1, cs', h2, h3.put_other (h.ne ga g hg4 hg) _, fun h' => by simp at h'⟩
theorem keepJ_store3 {u2 v : Value} {A1 A2 : Option Addr} {c1 c2 gb : Nat} (h : KeepJ x y n m w2 [.agg (x.cells A1 n c1), .agg (y.cells A2 m c2), u2] gs w) (hg5 : gs 5 = some gb) {cs : Array Value} (hB : Blk w gb 27 cs) : KeepJ x y n m w2 ([.agg (x.cells A1 n c1), .agg (y.cells A2 m c2), u2] ++ [v]) gs (putB w gb 27 (y.cells A2 m c2)) := by
  refine ⟨h.ext.put (h.vb gb hg5).1 _ _, fun v hv => ?_, fun v hv => ?_, fun g hg => ?_, fun g hg => ?_, h.ne⟩
  · obtain ⟨A', c', h1, h2, h3⟩ := h.one v (by simpa using hv); exact ⟨A', c', h1, h2, h3.put hB _ (by decide) (by decide)⟩
  · obtain ⟨A', c', h1, h2, h3⟩ := h.two v (by simpa using hv); exact ⟨A', c', h1, h2, h3.put hB _ (by decide) (by decide)⟩
  · obtain ⟨h1, cs', h2, h3, h4⟩ := h.va g hg
    exact ⟨h1, cs', h2, h3.put_other (Ne.symm (h.ne g gb hg hg5)) _, fun _ => by have := h4 (by simp); simpa using this⟩
  · rw [hg5] at hg
    obtain rfl : gb = g := Option.some.inj hg
    exact ⟨(h.vb gb hg5).1, _, rfl, hB.put _, fun _ => rfl⟩
end

def evs4 (p q r s : Ev) (A1 : Option Addr) (n1 c1 : Nat) (A2 : Option Addr) (n2 c2 : Nat) (A3 : Option Addr) (n3 c3 : Nat) (A4 : Option Addr) (n4 c4 : Nat) : Array Value :=
  #[.int .i64 p.id, .int .i64 p.inn, .int .i64 p.out, .string p.region, .int .u8 p.kind, .string p.speaker, .slice A1 n1 c1, .int .i64 q.id, .int .i64 q.inn, .int .i64 q.out, .string q.region, .int .u8 q.kind, .string q.speaker, .slice A2 n2 c2, .int .i64 r.id, .int .i64 r.inn, .int .i64 r.out, .string r.region, .int .u8 r.kind, .string r.speaker, .slice A3 n3 c3, .int .i64 s.id, .int .i64 s.inn, .int .i64 s.out, .string s.region, .int .u8 s.kind, .string s.speaker, .slice A4 n4 c4]
/-- what '[]Event{a, b, j, Clone(e)}' has come to -/
def Keep6 (x : Ev) (n : Nat) (w7 : World) (cs : Option Addr → Nat → Array Value) : List Value → World → Prop
  | [], w' => Ext w7 w'
  | [v], w' => ∃ A8 c8, v = .agg (x.cells A8 n c8) ∧ n ≤ c8 ∧ RowsFresh w' w7.heap.size A8 n x.rows ∧ Ext w7 w'
  | [_, s], w' => ∃ A8 c8 g, s = .slice (some ⟨g, 0, none⟩) 4 4 ∧ n ≤ c8 ∧ RowsFresh w' w7.heap.size A8 n x.rows ∧ Ext w7 w' ∧ w7.heap.size ≤ g ∧ Blk w' g 27 (cs A8 c8)
  | [_, s, l], w' => ∃ A8 c8 g, s = .slice (some ⟨g, 0, none⟩) 4 4 ∧ l = .int .i64 4 ∧ n ≤ c8 ∧ RowsFresh w' w7.heap.size A8 n x.rows ∧ Ext w7 w' ∧ w7.heap.size ≤ g ∧ Blk w' g 27 (cs A8 c8)
  | _, _ => False
theorem keep6_ext {x : Ev} {n : Nat} {w7 w' : World} {cs : Option Addr → Nat → Array Value} {us : List Value} (h : Keep6 x n w7 cs us w') : Ext w7 w' := by
  match us, h with
  | [], h => exact h
  | [_], h => obtain ⟨_, _, _, _, _, h⟩ := h; exact h
  | [_, _], h => obtain ⟨_, _, _, _, _, _, h, _⟩ := h; exact h
  | [_, _, _], h => obtain ⟨_, _, _, _, _, _, _, h, _⟩ := h; exact h

theorem wpList_loadAt {P : Program} {ops : Array Oper} {rest : List Oper} {op : Oper} {a : Act} {w : World} {Q : Exit → Act → World → Prop} (hgd : op.guard = none) (ty : TypeId) (x : Operand) (ho : op.op = .load ty x) (g off : Nat) (cs : Array Value) (d : TypeDesc) (hx : a.eval x = .pointer (some ⟨g, off, none⟩))
    (hc : ∀ j v, cs[j]? = some v → w.cell? ⟨g, off + j, none⟩ = some v) (hu : P.underlying ty = some d) (hd : d.isRow = true) (hi : (P.info? ty).map (·.size) = some cs.size)
    (h : wpList P ops Q rest (a.put op.dst (.agg cs)) w) : wpList P ops Q (op :: rest) a w := by
  refine wpList_load_mid hgd ty x ho g off hx cs.toList d (fun j v hv => ?_) hu hd (by simpa using hi) (by simpa using h)
  exact hc j v (by simpa using hv)

/-- four events in a row -/
structure Four where
  ev : Nat → Ev
  at_ : Nat → Option Addr
  len : Nat → Nat
  cap : Nat → Nat
  hds : Nat → List Hd
def Four.of (p q r s : Ev) (A1 : Option Addr) (n1 c1 : Nat) (A2 : Option Addr) (n2 c2 : Nat) (A3 : Option Addr) (n3 c3 : Nat) (A4 : Option Addr) (n4 c4 : Nat) (h1 h2 h3 h4 : List Hd) : Four :=
  ⟨fun | 0 => p | 1 => q | 2 => r | _ => s, fun | 0 => A1 | 1 => A2 | 2 => A3 | _ => A4, fun | 0 => n1 | 1 => n2 | 2 => n3 | _ => n4, fun | 0 => c1 | 1 => c2 | 2 => c3 | _ => c4, fun | 0 => h1 | 1 => h2 | 2 => h3 | _ => h4⟩
def Four.cells (F : Four) (k : Nat) : Array Value := (F.ev k).cells (F.at_ k) (F.len k) (F.cap k)
/-- their memory may be written, from block L on -/
def Four.Ok (F : Four) (w : World) (L g : Nat) : Prop := (∀ k, k < 4 → Shape w L (F.at_ k) (F.len k) (F.hds k)) ∧ (∀ k, k < 4 → ∀ j v, (F.cells k)[j]? = some v → w.cell? ⟨g, k * 7 + j, none⟩ = some v) ∧ Typed w 27 g
theorem Four.Ok.ext {F : Four} {w w1 : World} {L g : Nat} (h : F.Ok w L g) (k : Ext w w1) : F.Ok w1 L g := ⟨fun i hi => (h.1 i hi).ext k, fun i hi j v hv => k.cell (h.2.1 i hi j v hv), h.2.2.ext k⟩
theorem Four.Ok.put {F : Four} {w : World} {L g : Nat} (h : F.Ok w L g) {g' : Nat} {cs : Array Value} (hB : Blk w g' 27 cs) (hne : g' ≠ g) (cs' : Array Value) : F.Ok (putB w g' 27 cs') L g := by
  refine ⟨fun i hi => ?_, fun i hi j v hv => ?_, ?_⟩
  · obtain ⟨a1, a2, a3⟩ := h.1 i hi
    refine ⟨Sl.keep a1 fun _ b off hA o x hx j u hu => ?_, a2.put hB cs' (by decide), fun hd hm => ⟨(a3 hd hm).1, (a3 hd hm).2.1, (a3 hd hm).2.2.1.put hB cs' (by decide), fun q hq => ?_⟩⟩
    · have hb : b ≠ g' := Typed.ne (a2 _ hA).2 hB.typed (by decide)
      rw [putB_cell_other (p := ⟨b, o + j, none⟩) hb]; exact hx j u hu
    · obtain ⟨b, off, s, e1, e2⟩ := (a3 hd hm).2.2.2 q hq
      have hb : b ≠ g' := Typed.ne ((a3 hd hm).2.2.1 _ e1).2 hB.typed (by decide)
      exact ⟨b, off, s, e1, by rw [putB_cell_other (p := ⟨b, off + q * 5, none⟩) hb]; exact e2⟩
  · rw [putB_cell_other (p := ⟨g, i * 7 + j, none⟩) (Ne.symm hne)]; exact h.2.1 i hi j v hv
  · obtain ⟨cur, hb⟩ := h.2.2
    refine ⟨cur, ?_⟩
    unfold putB
    simp only
    rw [Array.getElem?_setIfInBounds_ne hne]
    exact hb
theorem Four.Ok.set {F : Four} {w : World} {L g : Nat} (h : F.Ok w L g) {b o : Nat} (hT : Typed w 48 b) {s0 : ByteArray} (hc : w.cell? ⟨b, o, none⟩ = some (.string s0)) (s : ByteArray) : F.Ok (w.setCell ⟨b, o, none⟩ (.string s)) L g := by
  refine ⟨fun i hi => (h.1 i hi).set hT hc s, fun i hi j v hv => ?_, h.2.2.setCell _ _⟩
  have hne : b ≠ g := Typed.ne hT h.2.2 (by decide)
  rw [World.cell?_setCell_other w ⟨b, o, none⟩ ⟨g, i * 7 + j, none⟩ _ (fun e => hne (by injection e))]
  exact h.2.1 i hi j v hv
theorem four_cells (p q r s : Ev) (A1 : Option Addr) (n1 c1 : Nat) (A2 : Option Addr) (n2 c2 : Nat) (A3 : Option Addr) (n3 c3 : Nat) (A4 : Option Addr) (n4 c4 : Nat) (h1 h2 h3 h4 : List Hd) : ∀ k, k < 4 → ∀ j v, ((Four.of p q r s A1 n1 c1 A2 n2 c2 A3 n3 c3 A4 n4 c4 h1 h2 h3 h4).cells k)[j]? = some v → (evs4 p q r s A1 n1 c1 A2 n2 c2 A3 n3 c3 A4 n4 c4)[k * 7 + j]? = some v := by
  intro k hk j v hv
  have hj : j < 7 := (Array.getElem?_eq_some_iff.1 hv).1
  match k, hk, j, hj with
  | 0, _, 0, _ => exact hv
  | 0, _, 1, _ => exact hv
  | 0, _, 2, _ => exact hv
  | 0, _, 3, _ => exact hv
  | 0, _, 4, _ => exact hv
  | 0, _, 5, _ => exact hv
  | 0, _, 6, _ => exact hv
  | 1, _, 0, _ => exact hv
  | 1, _, 1, _ => exact hv
  | 1, _, 2, _ => exact hv
  | 1, _, 3, _ => exact hv
  | 1, _, 4, _ => exact hv
  | 1, _, 5, _ => exact hv
  | 1, _, 6, _ => exact hv
  | 2, _, 0, _ => exact hv
  | 2, _, 1, _ => exact hv
  | 2, _, 2, _ => exact hv
  | 2, _, 3, _ => exact hv
  | 2, _, 4, _ => exact hv
  | 2, _, 5, _ => exact hv
  | 2, _, 6, _ => exact hv
  | 3, _, 0, _ => exact hv
  | 3, _, 1, _ => exact hv
  | 3, _, 2, _ => exact hv
  | 3, _, 3, _ => exact hv
  | 3, _, 4, _ => exact hv
  | 3, _, 5, _ => exact hv
  | 3, _, 6, _ => exact hv
/-- the loops over the four events, over the rows of one, over the runs of one -/
def Keep0 (F : Four) (w3 : World) (g8 : Nat) (i : Value) (wr : World) : Prop := ∃ k : Nat, k ≤ 4 ∧ i = .int .i64 k ∧ Ext w3 wr ∧ F.Ok wr w3.heap.size g8
def Keep1 (F : Four) (w3 : World) (g8 gx : Nat) (cx : Array Value) (N : Nat) (i : Value) (wr : World) : Prop := ∃ q : Nat, q ≤ N ∧ i = .int .i64 q ∧ Ext w3 wr ∧ F.Ok wr w3.heap.size g8 ∧ Blk wr gx 27 cx
end Go.Proofs.YtcgflkmkdpgchaaDoor
