/- Laid together: Events among the arguments, opened; the environment out of the row's list; what the frame of a law asks behind the call. Arguments opened, with their bulk: what the second form's bound gives. Arguments that are documents, opened, with their bulk. Arguments of chapter 14 (and 12), opened: a remark, numbers, strings. Arguments that are rates, spans, small numbers, booleans and lists of drifts, opened. A short string and two numbers, opened. -/
import Derived.Test.YtagfedbdakmlgaaDoorPk20
import Derived.Test.YtagfedbdakmlgaaDoorPk05
import Derived.Test.YtagfedbdakmlgaaDoorPk07
import Derived.Test.YtagfedbdakmlgaaDoorShelf
import Derived.Lib.LaidU8T
import Derived.Deep.DeepHandedRow
import Derived.Lib.LaidTab
import Derived.Test.YtagfedbdakmlgaaDoorPk06
import Derived.Test.YtagfedbdakmlgaaDoorPk13
import Derived.Test.YtagfedbdakmlgaaDoorPk14
import Derived.OpenShut

/-! OpenE -/
namespace Go.Proofs.YtagfedbdakmlgaaDoor
set_option linter.unusedVariables false
set_option linter.unusedSimpArgs false
open Go.RowKit Go.ChangeShapes Go.WideShapes Go.ChangeAt
set_option maxRecDepth 100000

theorem cells_color : Tryd.prog.cellsOf 62 = 1 := by kernel_rfl
theorem cells_style : Tryd.prog.cellsOf 64 = 3 := by kernel_rfl
theorem cells_run : Tryd.prog.cellsOf 66 = 5 := by kernel_rfl
theorem cells_row : Tryd.prog.cellsOf 61 = 1 := by kernel_rfl
theorem cells_runs : Tryd.prog.cellsOf 59 = 1 := by kernel_rfl
theorem cells_rows : Tryd.prog.cellsOf 43 = 1 := by kernel_rfl
theorem cells_kind : Tryd.prog.cellsOf 42 = 1 := by kernel_rfl
theorem cells_event : Tryd.prog.cellsOf 45 = 7 := by kernel_rfl
theorem bytes_run : Tryd.prog.bytesOf 66 = 40 := by kernel_rfl
theorem bytes_row : Tryd.prog.bytesOf 61 = 24 := by kernel_rfl

/-- a run that came in -/
def Run.Fits (r : Run) : Prop := r.text.size ≤ 140737488351232 ∧ r.ruby.size ≤ 140737488351232 ∧ 0 ≤ r.color ∧ r.color ≤ 255
theorem open_style (W : World) : Opens Tryd.prog W 64 (fun cs (a : Int × Bool × Bool) => cs = [.int .u8 a.1, .bool a.2.1, .bool a.2.2] ∧ 0 ≤ a.1 ∧ a.1 ≤ 255) := by
  intro H enc fuel cs x h hw
  obtain ⟨hl, hf⟩ := Opens.fields Tryd.underlying64 h hw
  rw [cells_style] at hl
  obtain ⟨v0, v1, v2, rfl⟩ := list_3 hl
  obtain ⟨a0, h0, s0⟩ := hf 0 _ rfl (Opens.int Tryd.underlying62)
  obtain ⟨a1, h1⟩ := hf 1 _ rfl (Opens.bool Tryd.underlying4)
  obtain ⟨a2, h2⟩ := hf 2 _ rfl (Opens.bool Tryd.underlying4)
  simp [cells_color, cells_bool] at h0 h1 h2
  subst h0 h1 h2
  exact ⟨(a0, a1, a2), rfl, bounds_u8 s0⟩
theorem open_run (W : World) : Opens Tryd.prog W 66 (fun cs (r : Run) => cs = [.string r.text, .int .u8 r.color, .bool r.italic, .bool r.under, .string r.ruby] ∧ r.Fits) := by
  intro H enc fuel cs x h hw
  obtain ⟨hl, hf⟩ := Opens.fields Tryd.underlying66 h hw
  rw [cells_run] at hl
  obtain ⟨v0, v1, v2, v3, v4, rfl⟩ := list_5 hl
  obtain ⟨a0, h0, s0⟩ := hf 0 _ rfl (Opens.string Tryd.underlying9)
  obtain ⟨⟨a1, a2, a3⟩, h1, s1⟩ := hf 1 _ rfl (open_style W)
  obtain ⟨a4, h4, s4⟩ := hf 2 _ rfl (Opens.string Tryd.underlying9)
  simp [cells_string, cells_style] at h0 h1 h4
  obtain ⟨h1, h2, h3⟩ := h1
  subst h0 h1 h2 h3 h4
  exact ⟨⟨a0, a1, a2, a3, a4⟩, rfl, s0, s4, s1⟩
theorem mem_run {w : World} {b o : Nat} {r : Run} (h : Mem (fun cs (r : Run) => cs = [.string r.text, .int .u8 r.color, .bool r.italic, .bool r.under, .string r.ruby] ∧ r.Fits) w b o r) : RunC w b o r ∧ r.Fits := by
  obtain ⟨cs, h1, rfl, h2⟩ := h
  exact ⟨⟨h1 0 _ rfl, h1 1 _ rfl, h1 2 _ rfl, h1 3 _ rfl, h1 4 _ rfl⟩, h2⟩
/-- a row that came in -/
def RowFits (r : Row) : Prop := (∀ x ∈ r, x.Fits) ∧ r.length * 40 ≤ 140737488351232
theorem open_row (W : World) : Opens Tryd.prog W 61 (fun cs (r : Row) => (∃ A n c, cs = [.slice A n c] ∧ n ≤ c ∧ n * 40 ≤ 140737488355328 ∧ RunsAt W A n r) ∧ RowFits r) := by
  intro H enc fuel cs x h hw
  obtain ⟨hl, hf⟩ := Opens.fields Tryd.underlying61 h hw
  rw [cells_row] at hl
  obtain ⟨v0, rfl⟩ := list_1 hl
  obtain ⟨r, h0⟩ := hf 0 _ rfl (R := fun cs (r : Row) => (∃ A n c, cs = [.slice A n c] ∧ n ≤ c ∧ n * 40 ≤ 140737488355328 ∧ RunsAt W A n r) ∧ RowFits r) (fun H enc fuel cs x h hw => by
    obtain ⟨A, n, c, l, rfl, hnc, _, hb, hs⟩ := Opens.slice Tryd.underlying59 cells_run (by decide) bytes_run (open_run W) h hw
    have hn : n * 40 ≤ 140737488351232 := by simp only [reachBytes] at hb; omega
    exact ⟨l, ⟨A, n, c, rfl, hnc, by omega, Sl.change hs fun _ _ _ hm => (mem_run hm).1⟩, hs.all fun _ _ _ hm => (mem_run hm).2, by rw [hs.len]; exact hn⟩)
  simp [cells_runs] at h0
  exact ⟨r, by simpa using h0⟩
theorem mem_row {w W : World} (hw : w = W) {b o : Nat} {r : Row} (h : Mem (fun cs (r : Row) => (∃ A n c, cs = [.slice A n c] ∧ n ≤ c ∧ n * 40 ≤ 140737488355328 ∧ RunsAt W A n r) ∧ RowFits r) w b o r) : RowC w b o r ∧ RowFits r := by
  subst hw
  obtain ⟨cs, h1, ⟨A, n, c, rfl, h2⟩, h3⟩ := h
  exact ⟨⟨A, n, c, h1 0 _ rfl, h2⟩, h3⟩

/-- an event that came in -/
def Ev.Fits (e : Ev) : Prop := e.region.size ≤ 140737488351232 ∧ e.speaker.size ≤ 140737488351232 ∧ (0 ≤ e.kind ∧ e.kind ≤ 255) ∧ (-9223372036854775808 ≤ e.id ∧ e.id ≤ 9223372036854775807) ∧ (-9223372036854775808 ≤ e.inn ∧ e.inn ≤ 9223372036854775807) ∧ (-9223372036854775808 ≤ e.out ∧ e.out ≤ 9223372036854775807) ∧ (∀ r ∈ e.rows, RowFits r) ∧ e.rows.length * 24 ≤ 140737488351232
theorem open_event (W : World) : Opens Tryd.prog W 45 (fun cs (e : Ev) => (∃ A n c, cs = (e.cells A n c).toList ∧ EvAt W e A n c) ∧ e.Fits) := by
  intro H enc fuel cs x h hw
  obtain ⟨hl, hf⟩ := Opens.fields Tryd.underlying45 h hw
  rw [cells_event] at hl
  obtain ⟨v0, v1, v2, v3, v4, v5, v6, rfl⟩ := list_7 hl
  obtain ⟨a0, h0, s0⟩ := hf 0 _ rfl (Opens.int Tryd.underlying2)
  obtain ⟨⟨a1, a2⟩, h1, s1, s2⟩ := hf 1 _ rfl (open_span W)
  obtain ⟨a3, h3, s3⟩ := hf 2 _ rfl (Opens.string Tryd.underlying9)
  obtain ⟨a4, h4, s4⟩ := hf 3 _ rfl (Opens.int Tryd.underlying42)
  obtain ⟨a5, h5, s5⟩ := hf 4 _ rfl (Opens.string Tryd.underlying9)
  obtain ⟨rows, h6⟩ := hf 5 _ rfl (R := fun cs (r : List Row) => (∃ A n c, cs = [.slice A n c] ∧ n ≤ c ∧ n * 24 ≤ 140737488351232 ∧ RowsAt W A n r) ∧ ∀ x ∈ r, RowFits x) (fun H enc fuel cs x h hw => by
    obtain ⟨A, n, c, l, rfl, hnc, _, hb, hs⟩ := Opens.slice Tryd.underlying43 cells_row (by decide) bytes_row (open_row W) h hw
    have hn : n * 24 ≤ 140737488351232 := by simp only [reachBytes] at hb; omega
    exact ⟨l, ⟨A, n, c, rfl, hnc, hn, Sl.change hs fun _ _ _ hm => (mem_row rfl hm).1⟩, hs.all fun _ _ _ hm => (mem_row rfl hm).2⟩)
  simp [cells_int64, cells_string, cells_span, cells_kind, cells_rows] at h0 h1 h3 h4 h5 h6
  obtain ⟨h1, h2⟩ := h1
  obtain ⟨⟨A, n, c, h6, hnc, hn, hr⟩, hfit⟩ := h6
  subst h0 h1 h2 h3 h4 h5 h6
  exact ⟨⟨a0, a1, a2, a3, a4, a5, rows⟩, ⟨A, n, c, rfl, hr, hnc, by omega⟩, s3, s5, bounds_u8 s4, bounds_i64 s0, s1, s2, hfit, by rw [hr.len]; exact hn⟩

/-- an argument that is an event -/
theorem arg_event {H : Type} {enc : TypeId × Value → H} {W : World} {base : Nat} {v : Value} {d : DataW H} {p : List MemPlace} (hv : Value.okWide Tryd.prog W .any base 45 v) (h : DataW.Trod enc Tryd.prog W 0 (fun _ => true) true 45 v d p)
    (hw : ∀ n ∈ d.weights Tryd.prog 45, n ≤ reachBytes) : ∃ e A n c, v = .agg (e.cells A n c) ∧ EvAt W e A n c ∧ e.Fits := by
  obtain ⟨cs, rfl⟩ := agg_of_cells Tryd.underlying45 hv
  obtain ⟨fuel, h⟩ := h
  obtain ⟨e, ⟨A, n, c, hc, hat⟩, hf⟩ := open_event W H enc fuel _ _ h hw
  refine ⟨e, A, n, c, ?_, hat, hf⟩
  have : cs = e.cells A n c := Array.toList_inj.1 hc
  rw [this]

def wzero {H : Type} : DataW H := .agg [.lit (.int .i64 0), .agg [.lit (.int .i64 0), .lit (.int .i64 0)], .lit (.string []), .lit (.int .u8 0), .lit (.string []), .nil]
end Go.Proofs.YtagfedbdakmlgaaDoor

/-! OpenK -/
namespace Go.Proofs.YtagfedbdakmlgaaDoor
set_option linter.unusedVariables false
set_option linter.unusedSimpArgs false
open Go.RowKit Go.ChangeShapes Go.WideShapes Go.ChangeAt

/-- what is read of a type at these cells, its bulk with it -/
def OpensK {α : Type} (P : Program) (W : World) (t : TypeId) (R : Nat → List Value → α → Prop) : Prop :=
  ∀ (H : Type) (enc : TypeId × Value → H) (fuel : Nat) (cs : List Value) (x : DataW H × List MemPlace), DataW.trod enc P W 0 (fun _ => true) true fuel t cs = some x → (∀ n ∈ x.1.weights P t, n ≤ reachBytes) → ∃ a, R (Rows.uptoBulk x.1) cs a

theorem bulkAll_map {H β : Type} (l : List (DataW H × β)) : Rows.uptoBulkAll (l.map (·.1)) = (l.map fun x => Rows.uptoBulk x.1).sum := by
  induction l with
  | nil => simp [Rows.uptoBulkAll]
  | cons x l ih => simp only [List.map_cons, Rows.uptoBulkAll, ih, List.sum_cons]
theorem bulk_at {H : Type} : ∀ {l : List (DataW H)} {i : Nat} {d : DataW H}, l[i]? = some d → Rows.uptoBulk d ≤ Rows.uptoBulkAll l
  | [], _, _, h => by simp at h
  | x :: l, 0, d, h => by simp at h; subst h; simp only [Rows.uptoBulkAll]; omega
  | x :: l, i + 1, d, h => by have := bulk_at (l := l) (i := i) (by simpa using h); simp only [Rows.uptoBulkAll]; omega

theorem OpensK.slice {α : Type} {P : Program} {W : World} {t e : TypeId} {s bts : Nat} {R : Nat → List Value → α → Prop} (ht : P.underlying t = some (.slice e)) (hc : P.cellsOf e = s) (hs : 0 < s) (hb : P.bytesOf e = bts) (hR : OpensK P W e R)
    {H : Type} {enc : TypeId × Value → H} {fuel : Nat} {cs : List Value} {x : DataW H × List MemPlace} (h : DataW.trod enc P W 0 (fun _ => true) true fuel t cs = some x) (hw : ∀ n ∈ x.1.weights P t, n ≤ reachBytes) :
    ∃ A n c, ∃ l : List (α × Nat), cs = [.slice A n c] ∧ n ≤ c ∧ c ≤ maxLen ∧ c * bts ≤ reachBytes ∧ Sl W s (fun w b o p => Mem (R p.2) w b o p.1) A n l ∧ (l.map (·.2)).sum + 1 ≤ Rows.uptoBulk x.1 := by
  rcases DataW.trod_slice ht h with ⟨rfl, rfl⟩ | ⟨ad, len, cap, elems, rest, n, rfl, rfl, rfl, _, hlc, hcm, hel, hat, hsp, _⟩
  · exact ⟨none, 0, 0, [], rfl, Nat.le_refl _, by simp [maxLen], by simp [reachBytes], Sl.nil, by simp [Rows.uptoBulk]⟩
  · obtain ⟨hrl, _⟩ := hsp rfl
    simp only [DataW.weights, ht, List.mem_cons, List.mem_append, List.length_map] at hw
    have hcap : cap * bts ≤ reachBytes := by
      have := hw _ (.inl rfl)
      rw [hel, hrl, hb, show len + (cap - len) = cap by omega] at this
      exact this
    have hall : ∀ i (hi : i < elems.length), ∃ a b off, ad = ⟨b, off, none⟩ ∧ Mem (R (Rows.uptoBulk elems[i].1)) W b (off + i * s) a := by
      intro i hie
      have hi : i < len := by omega
      have h1 := hat i hi
      rw [List.getElem?_eq_getElem hie, Option.bind_eq_some_iff] at h1
      obtain ⟨cs', h2, h3⟩ := h1
      obtain ⟨a, ha⟩ := hR H enc n cs' _ h3 (fun m hm => hw m (.inr (.inl (weightsAll_mem (List.mem_map.2 ⟨_, List.getElem_mem hie, rfl⟩) hm))))
      obtain ⟨_, hcl, hcc⟩ := World.cells?_some h2
      rw [hc] at hcl hcc
      obtain ⟨b, off, sp⟩ := ad
      refine ⟨a, b, off, ?_, cs', fun j u hu => ?_, ha⟩
      · have hz := hat 0 (by omega)
        rw [List.getElem?_eq_getElem (show 0 < elems.length by omega), Option.bind_eq_some_iff] at hz
        obtain ⟨cz, hz2, _⟩ := hz
        obtain ⟨_, hzl, hzc⟩ := World.cells?_some hz2
        rw [hc] at hzl hzc
        have := hzc 0 hs
        rw [List.getElem?_eq_getElem (show 0 < cz.length by omega)] at this
        simp only [Nat.zero_mul, Addr.add, if_true] at this
        rw [cell_none this]
      · have hj : j < s := by rw [← hcl]; exact (List.getElem?_eq_some_iff.1 hu).1
        have h4 := hcc j hj
        rw [hu] at h4
        have e1 : (⟨b, off + i * s + j, none⟩ : Addr) = (Addr.add ⟨b, off, none⟩ (i * s)).add j := by rw [Addr.add_mid, Addr.add_mid]
        rw [e1]
        by_cases hz : i * s + j = 0
        · have hi0 : i * s = 0 := by omega
          have hj0 : j = 0 := by omega
          rw [hi0, hj0] at h4 ⊢
          simp only [Addr.add, if_true] at h4 ⊢
          obtain rfl := cell_none h4
          exact h4
        · have e2 : (Addr.add ⟨b, off, sp⟩ (i * s)).add j = (Addr.add ⟨b, off, none⟩ (i * s)).add j := by
            simp only [Addr.add]
            by_cases h5 : i * s = 0
            · rw [if_pos h5, if_pos h5, if_neg (by omega), if_neg (by omega)]
            · rw [if_neg h5, if_neg h5]
          rw [e2] at h4
          exact h4
    have hbk : ∀ l : List (α × Nat), l.map (·.2) = elems.map (fun y => Rows.uptoBulk y.1) → (l.map (·.2)).sum + 1 ≤ Rows.uptoBulk (DataW.slice (elems.map (·.1)) (rest.map (·.1))) := fun l hl => by
      rw [hl]
      simp only [Rows.uptoBulk, bulkAll_map]
      omega
    by_cases h0 : len = 0
    · subst h0
      exact ⟨some ad, 0, cap, [], rfl, hlc, hcm, hcap, Sl.nil, hbk [] (by rw [List.eq_nil_of_length_eq_zero hel]; rfl)⟩
    · obtain ⟨_, b, off, rfl, _⟩ := hall 0 (by omega)
      have key : ∀ (es : List (DataW H × List MemPlace)) (k : Nat), (∀ i (hi : i < es.length), ∃ a, Mem (R (Rows.uptoBulk es[i].1)) W b (off + (k + i) * s) a) →
          ∃ l : List (α × Nat), l.length = es.length ∧ (∀ i p, l[i]? = some p → Mem (R p.2) W b (off + (k + i) * s) p.1) ∧ l.map (·.2) = es.map (fun y => Rows.uptoBulk y.1) := by
        intro es
        induction es with
        | nil => intro k _; exact ⟨[], rfl, fun i p h => by simp at h, rfl⟩
        | cons y es ih =>
          intro k hes
          obtain ⟨a, ha⟩ := hes 0 (by simp)
          obtain ⟨l, h1, h2, h3⟩ := ih (k + 1) (fun i hi => by
            obtain ⟨a, ha⟩ := hes (i + 1) (by simp; omega)
            refine ⟨a, ?_⟩
            rw [show k + 1 + i = k + (i + 1) by omega]
            exact ha)
          refine ⟨(a, Rows.uptoBulk y.1) :: l, by simp [h1], fun i p hp => ?_, by simp [h3]⟩
          match i, hp with
          | 0, hp => simp at hp; subst hp; exact ha
          | i + 1, hp =>
            have := h2 i p (by simpa using hp)
            rw [show k + 1 + i = k + (i + 1) by omega] at this
            exact this
      obtain ⟨l, h1, h2, h3⟩ := key elems 0 (fun i hi => by
        obtain ⟨a, b', off', he, hm⟩ := hall i hi
        cases he
        exact ⟨a, by rw [Nat.zero_add]; exact hm⟩)
      refine ⟨_, len, cap, l, rfl, hlc, hcm, hcap, ⟨by omega, fun _ => ⟨b, off, rfl, fun i p hp => ?_⟩⟩, hbk l h3⟩
      have := h2 i p hp
      rw [Nat.zero_add] at this
      exact this

theorem OpensK.of {α : Type} {P : Program} {W : World} {t : TypeId} {R : List Value → α → Prop} (h : Opens P W t R) : OpensK P W t (fun _ cs a => R cs a) := fun H enc fuel cs x h1 h2 => h H enc fuel cs x h1 h2
theorem OpensK.string {P : Program} {W : World} {t : TypeId} (ht : P.underlying t = some .string) : OpensK P W t (fun k cs (a : ByteArray) => cs = [.string a] ∧ a.size + 1 ≤ k) :=
  fun _ _ _ _ _ h _ => by
    obtain ⟨s, h1, h2, _⟩ := DataW.trod_string ht h
    subst h2
    exact ⟨s, h1, by simp [Rows.uptoBulk]⟩
/-- the fields of a struct, each read by itself, their bulks together no more than the whole's -/
theorem OpensK.fields {P : Program} {W : World} {t : TypeId} {fs : Array Field} (ht : P.underlying t = some (.struct fs)) {H : Type} {enc : TypeId × Value → H} {fuel : Nat} {cs : List Value} {x : DataW H × List MemPlace}
    (h : DataW.trod enc P W 0 (fun _ => true) true fuel t cs = some x) (hw : ∀ n ∈ x.1.weights P t, n ≤ reachBytes) :
    cs.length = P.cellsOf t ∧ ∃ ks : List Nat, ks.sum ≤ Rows.uptoBulk x.1 ∧ ks.length = fs.size ∧ ∀ (i : Nat) (f : Field), fs[i]? = some f → ∀ {α : Type} {R : Nat → List Value → α → Prop}, OpensK P W f.type R → ∃ a, R (ks.getD i 0) ((cs.drop f.offset).take (P.cellsOf f.type)) a := by
  obtain ⟨xs, n, rfl, rfl, hl, hlen, hf⟩ := DataW.trod_struct ht h
  refine ⟨hl, xs.map (fun y => Rows.uptoBulk y.1), by simp only [Rows.uptoBulk, bulkAll_map]; omega, by simpa using hlen, fun i f hif α R hR => ?_⟩
  have h1 := hf i f hif
  have hi : i < xs.length := by rw [hlen]; exact (Array.getElem?_eq_some_iff.1 hif).1
  rw [List.getElem?_eq_getElem hi] at h1
  have hk : (xs.map (fun y => Rows.uptoBulk y.1)).getD i 0 = Rows.uptoBulk xs[i].1 := by simp [hi]
  rw [hk]
  refine hR H enc n _ _ h1 (fun m hm => hw m ?_)
  simp only [DataW.weights, ht]
  refine weightsEach_mem (i := i) (t := f.type) (d := xs[i].1) ?_ ?_ hm
  · rw [List.getElem?_map]
    have : fs.toList[i]? = some f := by simpa using hif
    rw [this]; rfl
  · rw [List.getElem?_map, List.getElem?_eq_getElem hi]; rfl
theorem Sl.mapK {α : Type} {C : World → Nat → Nat → α × Nat → Prop} {D : World → Nat → Nat → α → Prop} {w : World} {size n : Nat} {A : Option Addr} {l : List (α × Nat)} (h : Sl w size C A n l) (hcd : ∀ b o p, C w b o p → D w b o p.1) : Sl w size D A n (l.map (·.1)) := by
  refine ⟨by simpa using h.1, fun hn => ?_⟩
  obtain ⟨b, off, hA, hc⟩ := h.2 hn
  refine ⟨b, off, hA, fun i x hx => ?_⟩
  rw [List.getElem?_map, Option.map_eq_some_iff] at hx
  obtain ⟨p, hp, rfl⟩ := hx
  exact hcd _ _ _ (hc i p hp)
theorem sum_le_of {α : Type} {f : α → Nat} : ∀ {l : List (α × Nat)}, (∀ p ∈ l, f p.1 ≤ p.2) → ((l.map (·.1)).map f).sum ≤ (l.map (·.2)).sum
  | [], _ => by simp
  | p :: l, h => by
    have h1 := h p (List.mem_cons_self ..)
    have h2 := sum_le_of (l := l) fun q hq => h q (List.mem_cons_of_mem _ hq)
    simp only [List.map_cons, List.sum_cons]
    omega
theorem le_sum {α : Type} {f : α → Nat} : ∀ {l : List α} {x : α}, x ∈ l → f x ≤ (l.map f).sum
  | [], _, h => by cases h
  | y :: l, x, h => by
    simp only [List.map_cons, List.sum_cons]
    cases List.mem_cons.1 h with
    | inl e => subst e; omega
    | inr e => have := le_sum (f := f) e; omega
set_option maxRecDepth 100000

theorem openK_style (W : World) : OpensK Tryd.prog W 64 (fun _ cs (a : Int × Bool × Bool) => cs = [.int .u8 a.1, .bool a.2.1, .bool a.2.2] ∧ 0 ≤ a.1 ∧ a.1 ≤ 255) := .of (open_style W)
theorem openK_run (W : World) : OpensK Tryd.prog W 66 (fun k cs (r : Run) => cs = [.string r.text, .int .u8 r.color, .bool r.italic, .bool r.under, .string r.ruby] ∧ r.text.size + r.ruby.size ≤ k) := by
  intro H enc fuel cs x h hw
  obtain ⟨hl, ks, hks, hkl, hf⟩ := OpensK.fields Tryd.underlying66 h hw
  rw [cells_run] at hl
  obtain ⟨v0, v1, v2, v3, v4, rfl⟩ := list_5 hl
  obtain ⟨k0, k1, k2, rfl⟩ := list_3 (show ks.length = 3 from hkl)
  obtain ⟨a0, h0, s0⟩ := hf 0 _ rfl (OpensK.string Tryd.underlying9)
  obtain ⟨⟨a1, a2, a3⟩, h1, s1⟩ := hf 1 _ rfl (openK_style W)
  obtain ⟨a4, h4, s4⟩ := hf 2 _ rfl (OpensK.string Tryd.underlying9)
  simp [cells_string, cells_style] at h0 h1 h4 s0 s4
  obtain ⟨h1, h2, h3⟩ := h1
  subst h0 h1 h2 h3 h4
  simp at hks
  exact ⟨⟨a0, a1, a2, a3, a4⟩, rfl, by simp only; omega⟩
def runBulk (r : Run) : Nat := r.text.size + r.ruby.size
def rowBulk (r : Row) : Nat := (r.map runBulk).sum
def rowsBulk (l : List Row) : Nat := (l.map rowBulk).sum
theorem rowBytes_le (r : Row) : rowBytes r ≤ rowBulk r := by
  unfold rowBytes rowBulk
  induction r with
  | nil => simp
  | cons x r ih => simp only [List.map_cons, List.sum_cons, runBulk]; omega
theorem openK_row (W : World) : OpensK Tryd.prog W 61 (fun k cs (r : Row) => (∃ A n c, cs = [.slice A n c] ∧ n ≤ c ∧ n * 40 ≤ 140737488355328 ∧ RunsAt W A n r) ∧ rowBulk r ≤ k) := by
  intro H enc fuel cs x h hw
  obtain ⟨hl, ks, hks, hkl, hf⟩ := OpensK.fields Tryd.underlying61 h hw
  rw [cells_row] at hl
  obtain ⟨v0, rfl⟩ := list_1 hl
  obtain ⟨k0, rfl⟩ := list_1 (show ks.length = 1 from hkl)
  obtain ⟨r, h0, hb⟩ := hf 0 _ rfl (R := fun k cs (r : Row) => (∃ A n c, cs = [.slice A n c] ∧ n ≤ c ∧ n * 40 ≤ 140737488355328 ∧ RunsAt W A n r) ∧ rowBulk r ≤ k) (fun H enc fuel cs x h hw => by
    obtain ⟨A, n, c, l, rfl, hnc, _, hb, hs, hk⟩ := OpensK.slice Tryd.underlying59 cells_run (by decide) bytes_run (openK_run W) h hw
    have hn : n * 40 ≤ 140737488355328 := by simp only [reachBytes] at hb; omega
    refine ⟨l.map (fun p : Run × Nat => p.1), ⟨A, n, c, rfl, hnc, hn, Sl.mapK (D := RunC) hs fun b o p hm => ?_⟩, ?_⟩
    · obtain ⟨cs, h1, h2, _⟩ := hm
      subst h2
      exact ⟨h1 0 _ rfl, h1 1 _ rfl, h1 2 _ rfl, h1 3 _ rfl, h1 4 _ rfl⟩
    · have := sum_le_of (f := runBulk) (l := l) (fun p hp => by
        have := hs.all (p := fun p => runBulk p.1 ≤ p.2) (fun b o q hm => by obtain ⟨_, _, _, h3⟩ := hm; exact h3) p hp
        exact this)
      unfold rowBulk
      omega)
  simp [cells_runs] at h0 hb hks
  exact ⟨r, by simpa using h0, by omega⟩
def Ev.bulk (e : Ev) : Nat := rowsBulk e.rows + e.region.size + e.speaker.size
theorem openK_event (W : World) : OpensK Tryd.prog W 45 (fun k cs (e : Ev) => (∃ A n c, cs = (e.cells A n c).toList ∧ EvAt W e A n c) ∧ e.bulk ≤ k) := by
  intro H enc fuel cs x h hw
  obtain ⟨hl, ks, hks, hkl, hf⟩ := OpensK.fields Tryd.underlying45 h hw
  rw [cells_event] at hl
  obtain ⟨v0, v1, v2, v3, v4, v5, v6, rfl⟩ := list_7 hl
  obtain ⟨k0, k1, k2, k3, k4, k5, rfl⟩ := list_6 (show ks.length = 6 from hkl)
  obtain ⟨a0, h0, s0⟩ := hf 0 _ rfl (.of (Opens.int Tryd.underlying2))
  obtain ⟨⟨a1, a2⟩, h1, s1, s2⟩ := hf 1 _ rfl (.of (open_span W))
  obtain ⟨a3, h3, s3⟩ := hf 2 _ rfl (OpensK.string Tryd.underlying9)
  obtain ⟨a4, h4, s4⟩ := hf 3 _ rfl (.of (Opens.int Tryd.underlying42))
  obtain ⟨a5, h5, s5⟩ := hf 4 _ rfl (OpensK.string Tryd.underlying9)
  obtain ⟨rows, h6, hb6⟩ := hf 5 _ rfl (R := fun k cs (r : List Row) => (∃ A n c, cs = [.slice A n c] ∧ n ≤ c ∧ n * 24 ≤ 140737488355328 ∧ RowsAt W A n r) ∧ rowsBulk r ≤ k) (fun H enc fuel cs x h hw => by
    obtain ⟨A, n, c, l, rfl, hnc, _, hb, hs, hk⟩ := OpensK.slice Tryd.underlying43 cells_row (by decide) bytes_row (openK_row W) h hw
    have hn : n * 24 ≤ 140737488355328 := by simp only [reachBytes] at hb; omega
    refine ⟨l.map (fun p : Row × Nat => p.1), ⟨A, n, c, rfl, hnc, hn, Sl.mapK (D := RowC) hs fun b o p hm => ?_⟩, ?_⟩
    · obtain ⟨cs, h1, ⟨A', n', c', h2, h3⟩, _⟩ := hm
      subst h2
      exact ⟨A', n', c', h1 0 _ rfl, h3⟩
    · have := sum_le_of (f := rowBulk) (l := l) (fun p hp => hs.all (p := fun p => rowBulk p.1 ≤ p.2) (fun b o q hm => by obtain ⟨_, _, _, h3⟩ := hm; exact h3) p hp)
      unfold rowsBulk
      omega)
  simp [cells_int64, cells_string, cells_span, cells_kind, cells_rows] at h0 h1 h3 h4 h5 h6 s3 s5 hb6 hks
  obtain ⟨h1, h2⟩ := h1
  obtain ⟨A, n, c, h6, hnc, hn, hr⟩ := h6
  subst h0 h1 h2 h3 h4 h5 h6
  exact ⟨⟨a0, a1, a2, a3, a4, a5, rows⟩, ⟨A, n, c, rfl, hr, hnc, hn⟩, by unfold Ev.bulk; simp only; omega⟩
/-- an argument that is an event, of small bulk -/
theorem argK_event {H : Type} {enc : TypeId × Value → H} {W : World} {base : Nat} {v : Value} {d : DataW H} {p : List MemPlace} (hv : Value.okWide Tryd.prog W .any base 45 v) (h : DataW.Trod enc Tryd.prog W 0 (fun _ => true) true 45 v d p)
    (hw : ∀ n ∈ d.weights Tryd.prog 45, n ≤ reachBytes) (hk : Rows.uptoBulk d ≤ 1048576) : ∃ e A n c, v = .agg (e.cells A n c) ∧ EvAt W e A n c ∧ EvSmall e ∧ e.bytes ≤ 1099511627776 := by
  obtain ⟨cs, rfl⟩ := agg_of_cells Tryd.underlying45 hv
  obtain ⟨fuel, h⟩ := h
  obtain ⟨e, ⟨A, n, c, hc, hat⟩, hf⟩ := openK_event W H enc fuel _ _ h hw
  have hf' : e.bulk ≤ 1048576 := Nat.le_trans hf hk
  unfold Ev.bulk at hf'
  have hrow : ∀ r ∈ e.rows, rowBulk r ≤ 1048576 := fun r hr => by
    have := le_sum (f := rowBulk) hr
    unfold rowsBulk at hf'
    omega
  refine ⟨e, A, n, c, ?_, hat, ⟨by omega, by omega, fun r hr => ⟨?_, fun x hx => ?_⟩⟩, ?_⟩
  · have : cs = e.cells A n c := Array.toList_inj.1 hc
    rw [this]
  · have h1 := hrow r hr
    have h2 := rowBytes_le r
    omega
  · have h1 := hrow r hr
    have h2 := le_sum (f := runBulk) hx
    unfold rowBulk at h1
    have h3 : runBulk x = x.text.size + x.ruby.size := rfl
    omega
  · have key : ∀ l : List Row, (l.map rowBytes).sum ≤ rowsBulk l := fun l => by
      unfold rowsBulk
      induction l with
      | nil => simp
      | cons y l ih => have := rowBytes_le y; simp only [List.map_cons, List.sum_cons]; omega
    have := key e.rows
    unfold Ev.bytes
    omega

theorem cells_region : Tryd.prog.cellsOf 58 = 7 := by kernel_rfl
theorem bytes_region : Tryd.prog.bytesOf 58 = 56 := by kernel_rfl
theorem open_region (W : World) : Opens Tryd.prog W 58 (fun cs (r : Reg) => cs = [.string r.name, .int .i64 r.top, .int .i64 r.height, .int .i64 r.left, .int .i64 r.width, .int .u8 r.align, .bool r.bottom] ∧ r.name.size ≤ 140737488351232) := by
  intro H enc fuel cs x h hw
  obtain ⟨hl, hf⟩ := Opens.fields Tryd.underlying58 h hw
  rw [cells_region] at hl
  obtain ⟨v0, v1, v2, v3, v4, v5, v6, rfl⟩ := list_7 hl
  obtain ⟨a0, h0, s0⟩ := hf 0 _ rfl (Opens.string Tryd.underlying9)
  obtain ⟨a1, h1, s1⟩ := hf 1 _ rfl (Opens.int Tryd.underlying3)
  obtain ⟨a2, h2, s2⟩ := hf 2 _ rfl (Opens.int Tryd.underlying3)
  obtain ⟨a3, h3, s3⟩ := hf 3 _ rfl (Opens.int Tryd.underlying3)
  obtain ⟨a4, h4, s4⟩ := hf 4 _ rfl (Opens.int Tryd.underlying3)
  obtain ⟨a5, h5, s5⟩ := hf 5 _ rfl (Opens.int Tryd.underlying56)
  obtain ⟨a6, h6⟩ := hf 6 _ rfl (Opens.bool Tryd.underlying4)
  simp [cells_string, cells_int, cells_bool, show Tryd.prog.cellsOf 56 = 1 by kernel_rfl] at h0 h1 h2 h3 h4 h5 h6
  subst h0 h1 h2 h3 h4 h5 h6
  exact ⟨⟨a0, a1, a2, a3, a4, a5, a6⟩, rfl, s0⟩
/-- an argument that is a list of regions -/
theorem arg_regions {H : Type} {enc : TypeId × Value → H} {W : World} {base : Nat} {v : Value} {d : DataW H} {p : List MemPlace} (hv : Value.okWide Tryd.prog W .any base 35 v) (h : DataW.Trod enc Tryd.prog W 0 (fun _ => true) true 35 v d p)
    (hw : ∀ n ∈ d.weights Tryd.prog 35, n ≤ reachBytes) : ∃ A n c regs, v = .slice A n c ∧ n ≤ c ∧ n ≤ 9223372036854775807 ∧ RegsAt W A n regs ∧ RegsSmall regs := by
  obtain ⟨fuel, h⟩ := h
  obtain ⟨A, n, c, l, hc, hnc, hcm, hb, hs⟩ := Opens.slice Tryd.underlying35 cells_region (by decide) bytes_region (open_region W) h hw
  have hv' : v = .slice A n c := by
    unfold Value.okWide at hv
    rw [Tryd.underlying35] at hv
    cases v <;> simp [Value.cells] at hc <;> first | (obtain ⟨h1, h2, h3⟩ := hc; subst h1 h2 h3; rfl) | (simp [Cell.okWide, Tryd.underlying35, Cell.ok] at hv)
  refine ⟨A, n, c, l, hv', hnc, by simp only [maxLen] at hcm; omega, Sl.change (D := RegC) hs fun b o r hm => ?_, show ∀ r ∈ l, r.name.size ≤ 9223372036854775807 from hs.all (p := fun r : Reg => r.name.size ≤ 9223372036854775807) fun b o r hm => ?_⟩
  · obtain ⟨cs, h1, h2, _⟩ := hm
    subst h2
    exact ⟨h1 0 _ rfl, h1 1 _ rfl, h1 2 _ rfl, h1 3 _ rfl, h1 4 _ rfl, h1 5 _ rfl, h1 6 _ rfl⟩
  · obtain ⟨cs, _, _, h3⟩ := hm
    omega
end Go.Proofs.YtagfedbdakmlgaaDoor

/-! OpenD -/
namespace Go.Proofs.YtagfedbdakmlgaaDoor
set_option linter.unusedVariables false
set_option linter.unusedSimpArgs false
open Go.RowKit Go.ChangeShapes Go.WideShapes Go.ChangeAt
set_option maxRecDepth 100000
theorem cells_comment : Tryd.prog.cellsOf 31 = 8 := by kernel_rfl
theorem cells_document : Tryd.prog.cellsOf 39 = 8 := by kernel_rfl
theorem bytes_comment : Tryd.prog.bytesOf 31 = 72 := by kernel_rfl
theorem bytes_event : Tryd.prog.bytesOf 45 = 88 := by kernel_rfl
theorem cells_rateD : Tryd.prog.cellsOf 34 = 1 := by kernel_rfl
theorem cells_regs : Tryd.prog.cellsOf 35 = 1 := by kernel_rfl
theorem cells_evts : Tryd.prog.cellsOf 36 = 1 := by kernel_rfl
theorem cells_coms : Tryd.prog.cellsOf 37 = 1 := by kernel_rfl
/-- the numbers of an event fit -/
def Ev.Nums (e : Ev) : Prop := IW e.id ∧ IW e.inn ∧ IW e.out ∧ 0 ≤ e.kind ∧ e.kind ≤ 255
theorem openK_event2 (W : World) : OpensK Tryd.prog W 45 (fun k cs (e : Ev) => (∃ A n c, cs = (e.cells A n c).toList ∧ EvAt W e A n c) ∧ e.bulk + 2 ≤ k ∧ e.Nums) := by
  intro H enc fuel cs x h hw
  obtain ⟨hl, ks, hks, hkl, hf⟩ := OpensK.fields Tryd.underlying45 h hw
  rw [cells_event] at hl
  obtain ⟨v0, v1, v2, v3, v4, v5, v6, rfl⟩ := list_7 hl
  obtain ⟨k0, k1, k2, k3, k4, k5, rfl⟩ := list_6 (show ks.length = 6 from hkl)
  obtain ⟨a0, h0, s0⟩ := hf 0 _ rfl (.of (Opens.int Tryd.underlying2))
  obtain ⟨⟨a1, a2⟩, h1, s1, s2⟩ := hf 1 _ rfl (.of (open_span W))
  obtain ⟨a3, h3, s3⟩ := hf 2 _ rfl (OpensK.string Tryd.underlying9)
  obtain ⟨a4, h4, s4⟩ := hf 3 _ rfl (.of (Opens.int Tryd.underlying42))
  obtain ⟨a5, h5, s5⟩ := hf 4 _ rfl (OpensK.string Tryd.underlying9)
  obtain ⟨rows, h6, hb6⟩ := hf 5 _ rfl (R := fun k cs (r : List Row) => (∃ A n c, cs = [.slice A n c] ∧ n ≤ c ∧ n * 24 ≤ 140737488355328 ∧ RowsAt W A n r) ∧ rowsBulk r ≤ k) (fun H enc fuel cs x h hw => by
    obtain ⟨A, n, c, l, rfl, hnc, _, hb, hs, hk⟩ := OpensK.slice Tryd.underlying43 cells_row (by decide) bytes_row (openK_row W) h hw
    have hn : n * 24 ≤ 140737488355328 := by simp only [reachBytes] at hb; omega
    refine ⟨l.map (fun p : Row × Nat => p.1), ⟨A, n, c, rfl, hnc, hn, Sl.mapK (D := RowC) hs fun b o p hm => ?_⟩, ?_⟩
    · obtain ⟨cs, h1, ⟨A', n', c', h2, h3⟩, _⟩ := hm
      subst h2
      exact ⟨A', n', c', h1 0 _ rfl, h3⟩
    · have := sum_le_of (f := rowBulk) (l := l) (fun p hp => hs.all (p := fun p => rowBulk p.1 ≤ p.2) (fun b o q hm => by obtain ⟨_, _, _, h3⟩ := hm; exact h3) p hp)
      unfold rowsBulk
      omega)
  have n0 := bounds_i64 s0
  have n4 := bounds_u8 s4
  simp [cells_int64, cells_string, cells_span, cells_kind, cells_rows] at h0 h1 h3 h4 h5 h6 s3 s5 hb6 hks
  obtain ⟨h1, h2⟩ := h1
  obtain ⟨A, n, c, h6, hnc, hn, hr⟩ := h6
  subst h0 h1 h2 h3 h4 h5 h6
  exact ⟨⟨a0, a1, a2, a3, a4, a5, rows⟩, ⟨A, n, c, rfl, hr, hnc, hn⟩, by unfold Ev.bulk; simp only; omega, n0, s1, s2, n4.1, n4.2⟩
def Com.Nums (c : Com) : Prop := IW c.id ∧ IW c.ev ∧ IW c.fr ∧ IW c.til
theorem openK_com (W : World) : OpensK Tryd.prog W 31 (fun k cs (c : Com) => cs = c.vals ∧ c.author.size + c.text.size + 2 ≤ k ∧ c.Nums) := by
  intro H enc fuel cs x h hw
  obtain ⟨hl, ks, hks, hkl, hf⟩ := OpensK.fields Tryd.underlying31 h hw
  rw [cells_comment] at hl
  obtain ⟨v0, v1, v2, v3, v4, v5, v6, v7, rfl⟩ := list_8 hl
  obtain ⟨k0, k1, k2, k3, k4, k5, k6, k7, rfl⟩ := list_8 (show ks.length = 8 from hkl)
  obtain ⟨a0, h0, s0⟩ := hf 0 _ rfl (.of (Opens.int Tryd.underlying2))
  obtain ⟨a1, h1, s1⟩ := hf 1 _ rfl (.of (Opens.int Tryd.underlying2))
  obtain ⟨a2, h2, s2⟩ := hf 2 _ rfl (.of (Opens.int Tryd.underlying3))
  obtain ⟨a3, h3, s3⟩ := hf 3 _ rfl (.of (Opens.int Tryd.underlying3))
  obtain ⟨a4, h4, s4⟩ := hf 4 _ rfl (OpensK.string Tryd.underlying9)
  obtain ⟨a5, h5, s5⟩ := hf 5 _ rfl (OpensK.string Tryd.underlying9)
  obtain ⟨a6, h6⟩ := hf 6 _ rfl (.of (Opens.bool Tryd.underlying4))
  obtain ⟨a7, h7⟩ := hf 7 _ rfl (.of (Opens.bool Tryd.underlying4))
  have n0 := bounds_i64 s0
  have n1 := bounds_i64 s1
  have n2 := bounds_i64 s2
  have n3 := bounds_i64 s3
  simp [cells_int64, cells_int, cells_string, cells_bool] at h0 h1 h2 h3 h4 h5 h6 h7 s4 s5 hks
  subst h0 h1 h2 h3 h4 h5 h6 h7
  exact ⟨⟨a0, a1, a2, a3, a4, a5, a6, a7⟩, rfl, by simp only; omega, n0, n1, n2, n3⟩
/-- what is known of a document that came in -/
structure DocIn (d : Doc) (h : DocH) : Prop where
  fit : DocFit d
  nums : ∀ e ∈ d.evs, e.Nums
  cnums : ∀ c ∈ d.coms, c.Nums
  last : IW d.last
  rn : h.rn ≤ 9223372036854775807
  en : h.en ≤ 1000000
  cn : h.cn ≤ 1000000
  rc : h.rn ≤ h.rc ∧ h.rn * 56 ≤ 140737488355328
  ec : h.en ≤ h.ec
  cc : h.cn ≤ h.cc
theorem sum_ge {α : Type} {n : Nat} : ∀ {l : List (α × Nat)}, (∀ p ∈ l, n ≤ p.2) → l.length * n ≤ (l.map (·.2)).sum
  | [], _ => by simp
  | p :: l, h => by
    have h1 := h p (List.mem_cons_self ..)
    have h2 := sum_ge (l := l) fun q hq => h q (List.mem_cons_of_mem _ hq)
    simp only [List.length_cons, List.map_cons, List.sum_cons, Nat.add_mul]
    omega
theorem mem_le {α : Type} : ∀ {l : List (α × Nat)} {p : α × Nat}, p ∈ l → p.2 ≤ (l.map (·.2)).sum
  | [], _, h => by cases h
  | q :: l, p, h => by
    simp only [List.map_cons, List.sum_cons]
    cases List.mem_cons.1 h with
    | inl e => subst e; omega
    | inr e => have := mem_le e; omega
theorem ev_small {e : Ev} (h : e.bulk ≤ 1048576) : EvSmall e ∧ e.bytes ≤ 1099511627776 := by
  unfold Ev.bulk at h
  have hrow : ∀ r ∈ e.rows, rowBulk r ≤ 1048576 := fun r hr => by
    have := le_sum (f := rowBulk) hr
    unfold rowsBulk at h
    omega
  refine ⟨⟨by omega, by omega, fun r hr => ⟨?_, fun x hx => ?_⟩⟩, ?_⟩
  · have h1 := hrow r hr
    have h2 := rowBytes_le r
    omega
  · have h1 := hrow r hr
    have h2 := le_sum (f := runBulk) hx
    unfold rowBulk at h1
    have h3 : runBulk x = x.text.size + x.ruby.size := rfl
    omega
  · have key : ∀ l : List Row, (l.map rowBytes).sum ≤ rowsBulk l := fun l => by
      unfold rowsBulk
      induction l with
      | nil => simp
      | cons y l ih => have := rowBytes_le y; simp only [List.map_cons, List.sum_cons]; omega
    have := key e.rows
    unfold Ev.bytes
    omega
/-- an argument that is a document, of small bulk -/
theorem argK_doc {H : Type} {enc : TypeId × Value → H} {W : World} {base : Nat} {v : Value} {d : DataW H} {p : List MemPlace} (hv : Value.okWide Tryd.prog W .any base 39 v) (h : DataW.Trod enc Tryd.prog W 0 (fun _ => true) true 39 v d p)
    (hw : ∀ n ∈ d.weights Tryd.prog 39, n ≤ reachBytes) (hk : Rows.uptoBulk d ≤ 1048576) : ∃ d' h', v = .agg (Doc.cells d' h') ∧ DocAt W d' h' ∧ DocIn d' h' := by
  obtain ⟨cs, rfl⟩ := agg_of_cells Tryd.underlying39 hv
  obtain ⟨fuel, h⟩ := h
  obtain ⟨hl, ks, hks, hkl, hf⟩ := OpensK.fields Tryd.underlying39 h hw
  rw [cells_document] at hl
  obtain ⟨v0, v1, v2, v3, v4, v5, v6, v7, he⟩ := list_8 hl
  obtain ⟨k0, k1, k2, k3, k4, k5, k6, k7, rfl⟩ := list_8 (show ks.length = 8 from hkl)
  obtain ⟨a0, h0, s0⟩ := hf 0 _ rfl (OpensK.string Tryd.underlying9)
  obtain ⟨a1, h1, s1⟩ := hf 1 _ rfl (OpensK.string Tryd.underlying9)
  obtain ⟨a2, h2, s2⟩ := hf 2 _ rfl (.of (Opens.int Tryd.underlying34))
  obtain ⟨a3, h3⟩ := hf 3 _ rfl (.of (Opens.bool Tryd.underlying4))
  obtain ⟨a4, h4, s4⟩ := hf 4 _ rfl (.of (Opens.int Tryd.underlying2))
  obtain ⟨⟨regs, A5, n5, c5⟩, h5, r5, r6, r7, r8⟩ := hf 5 _ rfl (R := fun k cs (r : List Reg × Option Addr × Nat × Nat) => cs = [.slice r.2.1 r.2.2.1 r.2.2.2] ∧ r.2.2.1 ≤ r.2.2.2 ∧ r.2.2.1 * 56 ≤ 140737488355328 ∧ RegsAt W r.2.1 r.2.2.1 r.1 ∧ RegsSmall r.1) (fun H enc fuel cs x h hw => by
    obtain ⟨A, n, c, l, hc, hnc, hcm, hb, hs⟩ := Opens.slice Tryd.underlying35 cells_region (by decide) bytes_region (open_region W) h hw
    refine ⟨(l, A, n, c), hc, hnc, (show n * 56 ≤ 140737488355328 by simp only [reachBytes] at hb; omega), Sl.change (D := RegC) hs fun b o r hm => ?_, show ∀ r ∈ l, r.name.size ≤ 9223372036854775807 from hs.all (p := fun r : Reg => r.name.size ≤ 9223372036854775807) fun b o r hm => ?_⟩
    · obtain ⟨cs, h1, h2, _⟩ := hm
      subst h2
      exact ⟨h1 0 _ rfl, h1 1 _ rfl, h1 2 _ rfl, h1 3 _ rfl, h1 4 _ rfl, h1 5 _ rfl, h1 6 _ rfl⟩
    · obtain ⟨cs, _, _, h3⟩ := hm
      omega)
  obtain ⟨⟨evs, A6, n6, c6⟩, h6, e5, e6, e7, e8⟩ := hf 6 _ rfl (R := fun k cs (r : List Ev × Option Addr × Nat × Nat) => cs = [.slice r.2.1 r.2.2.1 r.2.2.2] ∧ r.2.2.1 ≤ r.2.2.2 ∧ r.2.2.1 * 2 ≤ k ∧ EvsAt W r.2.1 r.2.2.1 r.1 ∧ ∀ e ∈ r.1, e.bulk ≤ k ∧ e.Nums) (fun H enc fuel cs x h hw => by
    obtain ⟨A, n, c, l, hc, hnc, hcm, hb, hs, hk⟩ := OpensK.slice Tryd.underlying36 cells_event (by decide) bytes_event (openK_event2 W) h hw
    have hall := hs.all (p := fun p : Ev × Nat => p.1.bulk + 2 ≤ p.2 ∧ p.1.Nums) (fun b o q hm => by obtain ⟨_, _, _, h3, h4⟩ := hm; exact ⟨h3, h4⟩)
    have h2 := sum_ge (n := 2) (l := l) (fun p hp => by have := (hall p hp).1; omega)
    have hln : l.length = n := hs.len
    refine ⟨(l.map (fun p : Ev × Nat => p.1), A, n, c), hc, hnc, (show n * 2 ≤ _ by omega), Sl.mapK (D := EvC) hs fun b o p hm => ?_, fun e he => ?_⟩
    · obtain ⟨cs, h1, ⟨A', n', c', h2, h3⟩, _⟩ := hm
      subst h2
      exact ⟨A', n', c', h1, h3⟩
    · obtain ⟨p, hp, rfl⟩ := List.mem_map.1 he
      have h3 := hall p hp
      have h4 := mem_le hp
      exact ⟨by omega, h3.2⟩)
  obtain ⟨⟨coms, A7, n7, c7⟩, h7, m5, m6, m7, m8⟩ := hf 7 _ rfl (R := fun k cs (r : List Com × Option Addr × Nat × Nat) => cs = [.slice r.2.1 r.2.2.1 r.2.2.2] ∧ r.2.2.1 ≤ r.2.2.2 ∧ r.2.2.1 * 2 ≤ k ∧ ComsAt W r.2.1 r.2.2.1 r.1 ∧ ∀ c ∈ r.1, c.author.size + c.text.size ≤ k ∧ c.Nums) (fun H enc fuel cs x h hw => by
    obtain ⟨A, n, c, l, hc, hnc, hcm, hb, hs, hk⟩ := OpensK.slice Tryd.underlying37 cells_comment (by decide) bytes_comment (openK_com W) h hw
    have hall := hs.all (p := fun p : Com × Nat => p.1.author.size + p.1.text.size + 2 ≤ p.2 ∧ p.1.Nums) (fun b o q hm => by obtain ⟨_, _, _, h3, h4⟩ := hm; exact ⟨h3, h4⟩)
    have h2 := sum_ge (n := 2) (l := l) (fun p hp => by have := (hall p hp).1; omega)
    have hln : l.length = n := hs.len
    refine ⟨(l.map (fun p : Com × Nat => p.1), A, n, c), hc, hnc, (show n * 2 ≤ _ by omega), Sl.mapK (D := Cells Com.vals) hs fun b o p hm => ?_, fun e he => ?_⟩
    · obtain ⟨cs, h1, h2, _⟩ := hm
      subst h2
      exact h1
    · obtain ⟨p, hp, rfl⟩ := List.mem_map.1 he
      have h3 := hall p hp
      have h4 := mem_le hp
      exact ⟨by omega, h3.2⟩)
  rw [he] at h0 h1 h2 h3 h4 h5 h6 h7
  simp [cells_string, cells_bool, cells_int64, cells_rateD, cells_regs, cells_evts, cells_coms] at h0 h1 h2 h3 h4 h5 h6 h7 s0 s1 e6 e8 m6 m8 hks
  have n2 := bounds_u8 s2
  subst h0 h1 h2 h3 h4 h5 h6 h7
  dsimp only at *
  refine ⟨⟨a0, a1, a2, a3, a4, regs, evs, coms⟩, ⟨A5, n5, c5, A6, n6, c6, A7, n7, c7⟩, ?_, ⟨r7, e7, m7⟩, ⟨⟨⟨n2.1, n2.2, by simp only; omega, by simp only; omega⟩, r8, fun e hm => ev_small (by have := (e8 e hm).1; omega), fun e hm => (e8 e hm).2.1, fun c hm => ⟨(m8 c hm).2.1, (m8 c hm).2.2.1, by have := (m8 c hm).1; omega, by have := (m8 c hm).1; omega⟩⟩, fun e hm => (e8 e hm).2, fun c hm => (m8 c hm).2, bounds_i64 s4, by simp only; omega, by simp only; omega, by simp only; omega, ⟨r5, r6⟩, e5, m5⟩⟩
  have : cs = (Doc.cells ⟨a0, a1, a2, a3, a4, regs, evs, coms⟩ ⟨A5, n5, c5, A6, n6, c6, A7, n7, c7⟩) := Array.toList_inj.1 he
  rw [this]
end Go.Proofs.YtagfedbdakmlgaaDoor

/-! OpenC -/
namespace Go.Proofs.YtagfedbdakmlgaaDoor
set_option linter.unusedVariables false
set_option linter.unusedSimpArgs false
open Go.RowKit Go.ChangeShapes Go.WideShapes Go.ChangeAt
set_option maxRecDepth 100000
theorem argC_int64 {H : Type} {enc : TypeId × Value → H} {W : World} {base : Nat} {v : Value} {d : DataW H} {p : List MemPlace} (hv : Value.okWide Tryd.prog W .any base 2 v) (h : DataW.Trod enc Tryd.prog W 0 (fun _ => true) true 2 v d p)
    (hw : ∀ n ∈ d.weights Tryd.prog 2, n ≤ reachBytes) : ∃ a : Int, v = .int .i64 a ∧ IW a := by
  obtain ⟨fuel, h⟩ := h
  obtain ⟨a, ha, hb⟩ := Opens.int Tryd.underlying2 H enc fuel _ _ h hw
  unfold Value.okWide at hv
  rw [Tryd.underlying2] at hv
  cases v with
  | agg cs => exact absurd hv (by unfold Cell.okWide; rw [Tryd.underlying2]; simp [Cell.ok])
  | _ => first | (refine ⟨a, ?_, bounds_i64 hb⟩; exact (List.cons.inj ha).1) | (simp at hv; done)
theorem argC_string {H : Type} {enc : TypeId × Value → H} {W : World} {base : Nat} {v : Value} {d : DataW H} {p : List MemPlace} (hv : Value.okWide Tryd.prog W .any base 9 v) (h : DataW.Trod enc Tryd.prog W 0 (fun _ => true) true 9 v d p)
    (hw : ∀ n ∈ d.weights Tryd.prog 9, n ≤ reachBytes) : ∃ s : ByteArray, v = .string s ∧ s.size ≤ 140737488351232 := by
  obtain ⟨fuel, h⟩ := h
  obtain ⟨a, ha, hb⟩ := Opens.string Tryd.underlying9 H enc fuel _ _ h hw
  unfold Value.okWide at hv
  rw [Tryd.underlying9] at hv
  cases v with
  | agg cs => exact absurd hv (by unfold Cell.okWide; rw [Tryd.underlying9]; simp [Cell.ok])
  | _ => first | (refine ⟨a, ?_, hb⟩; exact (List.cons.inj ha).1) | (simp at hv; done)
/-- the lists of a document of one's own are short -/
def DocShort (d : Doc) : Prop := d.regs.length ≤ 16 ∧ d.evs.length ≤ 1000000 ∧ d.coms.length ≤ 1000000
theorem DocOwn.short {w : World} {L : Nat} {d : Doc} {h : DocH} (o : DocOwn w L d h) (s : DocShort d) : h.rn ≤ 1000000000 ∧ h.en ≤ 1000000000 ∧ h.cn ≤ 1000000000 := by
  have h1 := o.rlen
  have h2 := o.evs.len
  have h3 := o.clen
  obtain ⟨s1, s2, s3⟩ := s
  omega
theorem zero_short : DocShort Doc.zero := ⟨by decide, by decide, by decide⟩
theorem regs_short {l : List Reg} (h : regsErr l = 0) : l.length ≤ 16 := by
  unfold regsErr at h
  split at h
  · simp at h
  · omega
theorem valid_short {d : Doc} (h : d.err = 0) : DocShort d := by
  have := doc_ok h
  exact ⟨regs_short this.2.1, by omega, by omega⟩
end Go.Proofs.YtagfedbdakmlgaaDoor

/-! OpenR -/
namespace Go.Proofs.YtagfedbdakmlgaaDoor
set_option linter.unusedVariables false
set_option linter.unusedSimpArgs false
open Go.RowKit Go.ChangeShapes Go.WideShapes Go.ChangeAt
set_option maxRecDepth 100000
theorem Opens.array {P : Program} {W : World} {t e : TypeId} {n : Nat} (ht : P.underlying t = some (.array n e)) {H : Type} {enc : TypeId × Value → H} {fuel : Nat} {cs : List Value} {x : DataW H × List MemPlace}
    (h : DataW.trod enc P W 0 (fun _ => true) true fuel t cs = some x) (hw : ∀ n ∈ x.1.weights P t, n ≤ reachBytes) :
    cs.length = P.cellsOf t ∧ ∀ i, i < n → ∀ {α : Type} {R : List Value → α → Prop}, Opens P W e R → ∃ a, R ((cs.drop (i * P.cellsOf e)).take (P.cellsOf e)) a := by
  obtain ⟨xs, m, rfl, rfl, hl, hlen, hf⟩ := DataW.trod_array ht h
  refine ⟨hl, fun i hi α R hR => ?_⟩
  have h1 := hf i hi
  have hi' : i < xs.length := by omega
  rw [List.getElem?_eq_getElem hi'] at h1
  refine hR H enc m _ _ h1 (fun k hk => hw k ?_)
  simp only [DataW.weights, ht]
  exact weightsAll_mem (List.mem_map.2 ⟨_, List.getElem_mem hi', rfl⟩) hk
theorem agg_of_array {v : Value} {W : World} {t e : TypeId} {n b : Nat} (ht : Tryd.prog.underlying t = some (.array n e)) (hv : Value.okWide Tryd.prog W .any b t v) : ∃ cs, v = .agg cs := by
  unfold Value.okWide at hv
  rw [ht] at hv
  cases v <;> first | exact ⟨_, rfl⟩ | simp at hv
theorem cells_rate : Tryd.prog.cellsOf 34 = 1 := by kernel_rfl
/-- an argument that is a span -/
theorem arg_span47 {H : Type} {enc : TypeId × Value → H} {W : World} {base : Nat} {v : Value} {d : DataW H} {p : List MemPlace} (hv : Value.okWide Tryd.prog W .any base 41 v) (h : DataW.Trod enc Tryd.prog W 0 (fun _ => true) true 41 v d p)
    (hw : ∀ n ∈ d.weights Tryd.prog 41, n ≤ reachBytes) : ∃ a b : Int, v = .agg #[.int .i64 a, .int .i64 b] ∧ (-9223372036854775808 ≤ a ∧ a ≤ 9223372036854775807) ∧ (-9223372036854775808 ≤ b ∧ b ≤ 9223372036854775807) := by
  obtain ⟨cs, rfl⟩ := agg_of_cells Tryd.underlying41 hv
  obtain ⟨fuel, h⟩ := h
  obtain ⟨⟨a, b⟩, hc, ha, hb⟩ := open_span W H enc fuel _ _ h hw
  refine ⟨a, b, ?_, ha, hb⟩
  have : cs = #[.int .i64 a, .int .i64 b] := Array.toList_inj.1 hc
  rw [this]
theorem arg_rate {H : Type} {enc : TypeId × Value → H} {W : World} {base : Nat} {v : Value} {d : DataW H} {p : List MemPlace} (hv : Value.okWide Tryd.prog W .any base 34 v) (h : DataW.Trod enc Tryd.prog W 0 (fun _ => true) true 34 v d p)
    (hw : ∀ n ∈ d.weights Tryd.prog 34, n ≤ reachBytes) : ∃ k : Int, v = .int .u8 k ∧ 0 ≤ k ∧ k ≤ 255 := by
  obtain ⟨fuel, h⟩ := h
  obtain ⟨a, ha, hb⟩ := Opens.int Tryd.underlying34 H enc fuel _ _ h hw
  unfold Value.okWide at hv
  rw [Tryd.underlying34] at hv
  cases v with
  | agg cs => exact absurd hv (by unfold Cell.okWide; rw [Tryd.underlying34]; simp [Cell.ok])
  | _ => first | (refine ⟨a, ?_, (bounds_u8 hb).1, (bounds_u8 hb).2⟩; exact (List.cons.inj ha).1) | (simp at hv; done)
/-- an argument that is a byte -/
theorem arg_u8 {H : Type} {enc : TypeId × Value → H} {W : World} {base : Nat} {v : Value} {d : DataW H} {p : List MemPlace} (hv : Value.okWide Tryd.prog W .any base 5 v) (h : DataW.Trod enc Tryd.prog W 0 (fun _ => true) true 5 v d p)
    (hw : ∀ n ∈ d.weights Tryd.prog 5, n ≤ reachBytes) : ∃ k : Int, v = .int .u8 k ∧ 0 ≤ k ∧ k ≤ 255 := by
  obtain ⟨fuel, h⟩ := h
  obtain ⟨a, ha, hb⟩ := Opens.int Tryd.underlying5 H enc fuel _ _ h hw
  unfold Value.okWide at hv
  rw [Tryd.underlying5] at hv
  cases v with
  | agg cs => exact absurd hv (by unfold Cell.okWide; rw [Tryd.underlying5]; simp [Cell.ok])
  | _ => first | (refine ⟨a, ?_, (bounds_u8 hb).1, (bounds_u8 hb).2⟩; exact (List.cons.inj ha).1) | (simp at hv; done)
/-- an argument that is a truth value -/
theorem arg_bool {H : Type} {enc : TypeId × Value → H} {W : World} {base : Nat} {v : Value} {d : DataW H} {p : List MemPlace} (hv : Value.okWide Tryd.prog W .any base 4 v) (h : DataW.Trod enc Tryd.prog W 0 (fun _ => true) true 4 v d p)
    (hw : ∀ n ∈ d.weights Tryd.prog 4, n ≤ reachBytes) : ∃ k : Bool, v = .bool k := by
  obtain ⟨fuel, h⟩ := h
  obtain ⟨a, ha⟩ := Opens.bool Tryd.underlying4 H enc fuel _ _ h hw
  unfold Value.okWide at hv
  rw [Tryd.underlying4] at hv
  cases v with
  | agg cs => exact absurd hv (by unfold Cell.okWide; rw [Tryd.underlying4]; simp [Cell.ok])
  | _ => first | (refine ⟨a, ?_⟩; exact (List.cons.inj ha).1) | (simp at hv; done)
end Go.Proofs.YtagfedbdakmlgaaDoor

/-! OpenM -/
namespace Go.Proofs.YtagfedbdakmlgaaDoor
set_option linter.unusedVariables false
set_option linter.unusedSimpArgs false
open Go.RowKit Go.ChangeShapes Go.WideShapes Go.ChangeAt
set_option maxRecDepth 100000
theorem argK_string {H : Type} {enc : TypeId × Value → H} {W : World} {base : Nat} {v : Value} {d : DataW H} {p : List MemPlace} (hv : Value.okWide Tryd.prog W .any base 9 v) (h : DataW.Trod enc Tryd.prog W 0 (fun _ => true) true 9 v d p)
    (hw : ∀ n ∈ d.weights Tryd.prog 9, n ≤ reachBytes) (hk : Rows.uptoBulk d ≤ 1048576) : ∃ s : ByteArray, v = .string s ∧ s.size ≤ 1048576 := by
  obtain ⟨fuel, h⟩ := h
  obtain ⟨a, ha, hb⟩ := OpensK.string Tryd.underlying9 H enc fuel _ _ h hw
  have hb' : a.size ≤ 1048576 := by simp only at hb; omega
  unfold Value.okWide at hv
  rw [Tryd.underlying9] at hv
  cases v with
  | agg cs => exact absurd hv (by unfold Cell.okWide; rw [Tryd.underlying9]; simp [Cell.ok])
  | _ => first | (refine ⟨a, ?_, hb'⟩; exact (List.cons.inj ha).1) | (simp at hv; done)
/-- an argument that is two numbers -/
theorem arg_ints {H : Type} {enc : TypeId × Value → H} {W : World} {base : Nat} {v : Value} {d : DataW H} {p : List MemPlace} (hv : Value.okWide Tryd.prog W .any base 22 v) (h : DataW.Trod enc Tryd.prog W 0 (fun _ => true) true 22 v d p)
    (hw : ∀ n ∈ d.weights Tryd.prog 22, n ≤ reachBytes) : ∃ a b : Int, v = .agg #[.int .i64 a, .int .i64 b] ∧ IW a ∧ IW b := by
  obtain ⟨cs, rfl⟩ := agg_of_array Tryd.underlying22 hv
  obtain ⟨fuel, h⟩ := h
  obtain ⟨hl, hf⟩ := Opens.array Tryd.underlying22 h hw
  rw [show Tryd.prog.cellsOf 22 = 2 by kernel_rfl] at hl
  obtain ⟨v0, v1, he⟩ := list_2 hl
  obtain ⟨a0, h0, s0⟩ := hf 0 (by decide) (Opens.int Tryd.underlying3)
  obtain ⟨a1, h1, s1⟩ := hf 1 (by decide) (Opens.int Tryd.underlying3)
  rw [he] at h0 h1
  simp [cells_int] at h0 h1
  subst h0 h1
  refine ⟨a0, a1, ?_, bounds_i64 s0, bounds_i64 s1⟩
  have : cs = #[.int .i64 a0, .int .i64 a1] := Array.toList_inj.1 he
  rw [this]
end Go.Proofs.YtagfedbdakmlgaaDoor
