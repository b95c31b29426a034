/- Arguments opened, with their bulk: what the second form's bound gives. -/
import Derived.Test.YtaocjfneglgmjaaDoorPOpenE
import Derived.Test.YtaocjfneglgmjaaDoorPk03
namespace Go.Proofs.YtaocjfneglgmjaaDoor
set_option linter.unusedVariables false
set_option linter.unusedSimpArgs false
open Go.RowKit Go.ChangeShapes Go.WideShapes Go.ChangeAt

/-- what is read of a type at these cells, its bulk with it -/
def OpensK {α : Type} (P : Program) (W : World) (t : TypeId) (R : Nat → List Value → α → Prop) : Prop :=
  ∀ (H : Type) (enc : TypeId × Value → H) (fuel : Nat) (cs : List Value) (x : DataW H × List MemPlace), DataW.trod enc P W 0 (fun _ => true) true fuel t cs = some x → (∀ n ∈ x.1.weights P t, n ≤ reachBytes) → ∃ a, R (Rows.uptoBulk x.1) cs a

theorem bulkAll_map {H β : Type} (l : List (DataW H × β)) : Rows.uptoBulkAll (l.map (·.1)) = (l.map fun x => Rows.uptoBulk x.1).sum := by
  induction l with
  | nil => simp [Rows.uptoBulkAll]
  | cons x l ih => simp only [List.map_cons, Rows.uptoBulkAll, ih, List.sum_cons]
theorem bulk_at {H : Type} : ∀ {l : List (DataW H)} {i : Nat} {d : DataW H}, l[i]? = some d → Rows.uptoBulk d ≤ Rows.uptoBulkAll l
  | [], _, _, h => by simp at h
  | x :: l, 0, d, h => by simp at h; subst h; simp only [Rows.uptoBulkAll]; omega
  | x :: l, i + 1, d, h => by have := bulk_at (l := l) (i := i) (by simpa using h); simp only [Rows.uptoBulkAll]; omega

theorem OpensK.slice {α : Type} {P : Program} {W : World} {t e : TypeId} {s bts : Nat} {R : Nat → List Value → α → Prop} (ht : P.underlying t = some (.slice e)) (hc : P.cellsOf e = s) (hs : 0 < s) (hb : P.bytesOf e = bts) (hR : OpensK P W e R)
    {H : Type} {enc : TypeId × Value → H} {fuel : Nat} {cs : List Value} {x : DataW H × List MemPlace} (h : DataW.trod enc P W 0 (fun _ => true) true fuel t cs = some x) (hw : ∀ n ∈ x.1.weights P t, n ≤ reachBytes) :
    ∃ A n c, ∃ l : List (α × Nat), cs = [.slice A n c] ∧ n ≤ c ∧ c ≤ maxLen ∧ c * bts ≤ reachBytes ∧ Sl W s (fun w b o p => Mem (R p.2) w b o p.1) A n l ∧ (l.map (·.2)).sum + 1 ≤ Rows.uptoBulk x.1 := by
  rcases DataW.trod_slice ht h with ⟨rfl, rfl⟩ | ⟨ad, len, cap, elems, rest, n, rfl, rfl, rfl, _, hlc, hcm, hel, hat, hsp, _⟩
  · exact ⟨none, 0, 0, [], rfl, Nat.le_refl _, by simp [maxLen], by simp [reachBytes], Sl.nil, by simp [Rows.uptoBulk]⟩
  · obtain ⟨hrl, _⟩ := hsp rfl
    simp only [DataW.weights, ht, List.mem_cons, List.mem_append, List.length_map] at hw
    have hcap : cap * bts ≤ reachBytes := by
      have := hw _ (.inl rfl)
      rw [hel, hrl, hb, show len + (cap - len) = cap by omega] at this
      exact this
    have hall : ∀ i (hi : i < elems.length), ∃ a b off, ad = ⟨b, off, none⟩ ∧ Mem (R (Rows.uptoBulk elems[i].1)) W b (off + i * s) a := by
      intro i hie
      have hi : i < len := by omega
      have h1 := hat i hi
      rw [List.getElem?_eq_getElem hie, Option.bind_eq_some_iff] at h1
      obtain ⟨cs', h2, h3⟩ := h1
      obtain ⟨a, ha⟩ := hR H enc n cs' _ h3 (fun m hm => hw m (.inr (.inl (weightsAll_mem (List.mem_map.2 ⟨_, List.getElem_mem hie, rfl⟩) hm))))
      obtain ⟨_, hcl, hcc⟩ := World.cells?_some h2
      rw [hc] at hcl hcc
      obtain ⟨b, off, sp⟩ := ad
      refine ⟨a, b, off, ?_, cs', fun j u hu => ?_, ha⟩
      · have hz := hat 0 (by omega)
        rw [List.getElem?_eq_getElem (show 0 < elems.length by omega), Option.bind_eq_some_iff] at hz
        obtain ⟨cz, hz2, _⟩ := hz
        obtain ⟨_, hzl, hzc⟩ := World.cells?_some hz2
        rw [hc] at hzl hzc
        have := hzc 0 hs
        rw [List.getElem?_eq_getElem (show 0 < cz.length by omega)] at this
        simp only [Nat.zero_mul, Addr.add, if_true] at this
        rw [cell_none this]
      · have hj : j < s := by rw [← hcl]; exact (List.getElem?_eq_some_iff.1 hu).1
        have h4 := hcc j hj
        rw [hu] at h4
        have e1 : (⟨b, off + i * s + j, none⟩ : Addr) = (Addr.add ⟨b, off, none⟩ (i * s)).add j := by rw [Addr.add_mid, Addr.add_mid]
        rw [e1]
        by_cases hz : i * s + j = 0
        · have hi0 : i * s = 0 := by omega
          have hj0 : j = 0 := by omega
          rw [hi0, hj0] at h4 ⊢
          simp only [Addr.add, if_true] at h4 ⊢
          obtain rfl := cell_none h4
          exact h4
        · have e2 : (Addr.add ⟨b, off, sp⟩ (i * s)).add j = (Addr.add ⟨b, off, none⟩ (i * s)).add j := by
            simp only [Addr.add]
            by_cases h5 : i * s = 0
            · rw [if_pos h5, if_pos h5, if_neg (by omega), if_neg (by omega)]
            · rw [if_neg h5, if_neg h5]
          rw [e2] at h4
          exact h4
    have hbk : ∀ l : List (α × Nat), l.map (·.2) = elems.map (fun y => Rows.uptoBulk y.1) → (l.map (·.2)).sum + 1 ≤ Rows.uptoBulk (DataW.slice (elems.map (·.1)) (rest.map (·.1))) := fun l hl => by
      rw [hl]
      simp only [Rows.uptoBulk, bulkAll_map]
      omega
    by_cases h0 : len = 0
    · subst h0
      exact ⟨some ad, 0, cap, [], rfl, hlc, hcm, hcap, Sl.nil, hbk [] (by rw [List.eq_nil_of_length_eq_zero hel]; rfl)⟩
    · obtain ⟨_, b, off, rfl, _⟩ := hall 0 (by omega)
      have key : ∀ (es : List (DataW H × List MemPlace)) (k : Nat), (∀ i (hi : i < es.length), ∃ a, Mem (R (Rows.uptoBulk es[i].1)) W b (off + (k + i) * s) a) →
          ∃ l : List (α × Nat), l.length = es.length ∧ (∀ i p, l[i]? = some p → Mem (R p.2) W b (off + (k + i) * s) p.1) ∧ l.map (·.2) = es.map (fun y => Rows.uptoBulk y.1) := by
        intro es
        induction es with
        | nil => intro k _; exact ⟨[], rfl, fun i p h => by simp at h, rfl⟩
        | cons y es ih =>
          intro k hes
          obtain ⟨a, ha⟩ := hes 0 (by simp)
          obtain ⟨l, h1, h2, h3⟩ := ih (k + 1) (fun i hi => by
            obtain ⟨a, ha⟩ := hes (i + 1) (by simp; omega)
            refine ⟨a, ?_⟩
            rw [show k + 1 + i = k + (i + 1) by omega]
            exact ha)
          refine ⟨(a, Rows.uptoBulk y.1) :: l, by simp [h1], fun i p hp => ?_, by simp [h3]⟩
          match i, hp with
          | 0, hp => simp at hp; subst hp; exact ha
          | i + 1, hp =>
            have := h2 i p (by simpa using hp)
            rw [show k + 1 + i = k + (i + 1) by omega] at this
            exact this
      obtain ⟨l, h1, h2, h3⟩ := key elems 0 (fun i hi => by
        obtain ⟨a, b', off', he, hm⟩ := hall i hi
        cases he
        exact ⟨a, by rw [Nat.zero_add]; exact hm⟩)
      refine ⟨_, len, cap, l, rfl, hlc, hcm, hcap, ⟨by omega, fun _ => ⟨b, off, rfl, fun i p hp => ?_⟩⟩, hbk l h3⟩
      have := h2 i p hp
      rw [Nat.zero_add] at this
      exact this

theorem OpensK.of {α : Type} {P : Program} {W : World} {t : TypeId} {R : List Value → α → Prop} (h : Opens P W t R) : OpensK P W t (fun _ cs a => R cs a) := fun H enc fuel cs x h1 h2 => h H enc fuel cs x h1 h2
theorem OpensK.string {P : Program} {W : World} {t : TypeId} (ht : P.underlying t = some .string) : OpensK P W t (fun k cs (a : ByteArray) => cs = [.string a] ∧ a.size + 1 ≤ k) :=
  fun _ _ _ _ _ h _ => by
    obtain ⟨s, h1, h2, _⟩ := DataW.trod_string ht h
    subst h2
    exact ⟨s, h1, by simp [Rows.uptoBulk]⟩
/-- the fields of a struct, each read by itself, their bulks together no more than the whole's -/
theorem OpensK.fields {P : Program} {W : World} {t : TypeId} {fs : Array Field} (ht : P.underlying t = some (.struct fs)) {H : Type} {enc : TypeId × Value → H} {fuel : Nat} {cs : List Value} {x : DataW H × List MemPlace}
    (h : DataW.trod enc P W 0 (fun _ => true) true fuel t cs = some x) (hw : ∀ n ∈ x.1.weights P t, n ≤ reachBytes) :
    cs.length = P.cellsOf t ∧ ∃ ks : List Nat, ks.sum ≤ Rows.uptoBulk x.1 ∧ ks.length = fs.size ∧ ∀ (i : Nat) (f : Field), fs[i]? = some f → ∀ {α : Type} {R : Nat → List Value → α → Prop}, OpensK P W f.type R → ∃ a, R (ks.getD i 0) ((cs.drop f.offset).take (P.cellsOf f.type)) a := by
  obtain ⟨xs, n, rfl, rfl, hl, hlen, hf⟩ := DataW.trod_struct ht h
  refine ⟨hl, xs.map (fun y => Rows.uptoBulk y.1), by simp only [Rows.uptoBulk, bulkAll_map]; omega, by simpa using hlen, fun i f hif α R hR => ?_⟩
  have h1 := hf i f hif
  have hi : i < xs.length := by rw [hlen]; exact (Array.getElem?_eq_some_iff.1 hif).1
  rw [List.getElem?_eq_getElem hi] at h1
  have hk : (xs.map (fun y => Rows.uptoBulk y.1)).getD i 0 = Rows.uptoBulk xs[i].1 := by simp [hi]
  rw [hk]
  refine hR H enc n _ _ h1 (fun m hm => hw m ?_)
  simp only [DataW.weights, ht]
  refine weightsEach_mem (i := i) (t := f.type) (d := xs[i].1) ?_ ?_ hm
  · rw [List.getElem?_map]
    have : fs.toList[i]? = some f := by simpa using hif
    rw [this]; rfl
  · rw [List.getElem?_map, List.getElem?_eq_getElem hi]; rfl
theorem Sl.mapK {α : Type} {C : World → Nat → Nat → α × Nat → Prop} {D : World → Nat → Nat → α → Prop} {w : World} {size n : Nat} {A : Option Addr} {l : List (α × Nat)} (h : Sl w size C A n l) (hcd : ∀ b o p, C w b o p → D w b o p.1) : Sl w size D A n (l.map (·.1)) := by
  refine ⟨by simpa using h.1, fun hn => ?_⟩
  obtain ⟨b, off, hA, hc⟩ := h.2 hn
  refine ⟨b, off, hA, fun i x hx => ?_⟩
  rw [List.getElem?_map, Option.map_eq_some_iff] at hx
  obtain ⟨p, hp, rfl⟩ := hx
  exact hcd _ _ _ (hc i p hp)
theorem sum_le_of {α : Type} {f : α → Nat} : ∀ {l : List (α × Nat)}, (∀ p ∈ l, f p.1 ≤ p.2) → ((l.map (·.1)).map f).sum ≤ (l.map (·.2)).sum
  | [], _ => by simp
  | p :: l, h => by
    have h1 := h p (List.mem_cons_self ..)
    have h2 := sum_le_of (l := l) fun q hq => h q (List.mem_cons_of_mem _ hq)
    simp only [List.map_cons, List.sum_cons]
    omega
theorem le_sum {α : Type} {f : α → Nat} : ∀ {l : List α} {x : α}, x ∈ l → f x ≤ (l.map f).sum
  | [], _, h => by cases h
  | y :: l, x, h => by
    simp only [List.map_cons, List.sum_cons]
    cases List.mem_cons.1 h with
    | inl e => subst e; omega
    | inr e => have := le_sum (f := f) e; omega
set_option maxRecDepth 100000

theorem openK_style (W : World) : OpensK Tryd.prog W 57 (fun _ cs (a : Int × Bool × Bool) => cs = [.int .u8 a.1, .bool a.2.1, .bool a.2.2] ∧ 0 ≤ a.1 ∧ a.1 ≤ 255) := .of (open_style W)
theorem openK_run (W : World) : OpensK Tryd.prog W 59 (fun k cs (r : Run) => cs = [.string r.text, .int .u8 r.color, .bool r.italic, .bool r.under, .string r.ruby] ∧ r.text.size + r.ruby.size ≤ k) := by
  intro H enc fuel cs x h hw
  obtain ⟨hl, ks, hks, hkl, hf⟩ := OpensK.fields Tryd.underlying59 h hw
  rw [cells_run] at hl
  obtain ⟨v0, v1, v2, v3, v4, rfl⟩ := list_5 hl
  obtain ⟨k0, k1, k2, rfl⟩ := list_3 (show ks.length = 3 from hkl)
  obtain ⟨a0, h0, s0⟩ := hf 0 _ rfl (OpensK.string Tryd.underlying9)
  obtain ⟨⟨a1, a2, a3⟩, h1, s1⟩ := hf 1 _ rfl (openK_style W)
  obtain ⟨a4, h4, s4⟩ := hf 2 _ rfl (OpensK.string Tryd.underlying9)
  simp [cells_string, cells_style] at h0 h1 h4 s0 s4
  obtain ⟨h1, h2, h3⟩ := h1
  subst h0 h1 h2 h3 h4
  simp at hks
  exact ⟨⟨a0, a1, a2, a3, a4⟩, rfl, by simp only; omega⟩
def runBulk (r : Run) : Nat := r.text.size + r.ruby.size
def rowBulk (r : Row) : Nat := (r.map runBulk).sum
def rowsBulk (l : List Row) : Nat := (l.map rowBulk).sum
theorem rowBytes_le (r : Row) : rowBytes r ≤ rowBulk r := by
  unfold rowBytes rowBulk
  induction r with
  | nil => simp
  | cons x r ih => simp only [List.map_cons, List.sum_cons, runBulk]; omega
theorem openK_row (W : World) : OpensK Tryd.prog W 62 (fun k cs (r : Row) => (∃ A n c, cs = [.slice A n c] ∧ n ≤ c ∧ n * 40 ≤ 140737488355328 ∧ RunsAt W A n r) ∧ rowBulk r ≤ k) := by
  intro H enc fuel cs x h hw
  obtain ⟨hl, ks, hks, hkl, hf⟩ := OpensK.fields Tryd.underlying62 h hw
  rw [cells_row] at hl
  obtain ⟨v0, rfl⟩ := list_1 hl
  obtain ⟨k0, rfl⟩ := list_1 (show ks.length = 1 from hkl)
  obtain ⟨r, h0, hb⟩ := hf 0 _ rfl (R := fun k cs (r : Row) => (∃ A n c, cs = [.slice A n c] ∧ n ≤ c ∧ n * 40 ≤ 140737488355328 ∧ RunsAt W A n r) ∧ rowBulk r ≤ k) (fun H enc fuel cs x h hw => by
    obtain ⟨A, n, c, l, rfl, hnc, _, hb, hs, hk⟩ := OpensK.slice Tryd.underlying60 cells_run (by decide) bytes_run (openK_run W) h hw
    have hn : n * 40 ≤ 140737488355328 := by simp only [reachBytes] at hb; omega
    refine ⟨l.map (fun p : Run × Nat => p.1), ⟨A, n, c, rfl, hnc, hn, Sl.mapK (D := RunC) hs fun b o p hm => ?_⟩, ?_⟩
    · obtain ⟨cs, h1, h2, _⟩ := hm
      subst h2
      exact ⟨h1 0 _ rfl, h1 1 _ rfl, h1 2 _ rfl, h1 3 _ rfl, h1 4 _ rfl⟩
    · have := sum_le_of (f := runBulk) (l := l) (fun p hp => by
        have := hs.all (p := fun p => runBulk p.1 ≤ p.2) (fun b o q hm => by obtain ⟨_, _, _, h3⟩ := hm; exact h3) p hp
        exact this)
      unfold rowBulk
      omega)
  simp [cells_runs] at h0 hb hks
  exact ⟨r, by simpa using h0, by omega⟩
def Ev.bulk (e : Ev) : Nat := rowsBulk e.rows + e.region.size + e.speaker.size
theorem openK_event (W : World) : OpensK Tryd.prog W 46 (fun k cs (e : Ev) => (∃ A n c, cs = (e.cells A n c).toList ∧ EvAt W e A n c) ∧ e.bulk ≤ k) := by
  intro H enc fuel cs x h hw
  obtain ⟨hl, ks, hks, hkl, hf⟩ := OpensK.fields Tryd.underlying46 h hw
  rw [cells_event] at hl
  obtain ⟨v0, v1, v2, v3, v4, v5, v6, rfl⟩ := list_7 hl
  obtain ⟨k0, k1, k2, k3, k4, k5, rfl⟩ := list_6 (show ks.length = 6 from hkl)
  obtain ⟨a0, h0, s0⟩ := hf 0 _ rfl (.of (Opens.int Tryd.underlying2))
  obtain ⟨⟨a1, a2⟩, h1, s1, s2⟩ := hf 1 _ rfl (.of (open_span W))
  obtain ⟨a3, h3, s3⟩ := hf 2 _ rfl (OpensK.string Tryd.underlying9)
  obtain ⟨a4, h4, s4⟩ := hf 3 _ rfl (.of (Opens.int Tryd.underlying43))
  obtain ⟨a5, h5, s5⟩ := hf 4 _ rfl (OpensK.string Tryd.underlying9)
  obtain ⟨rows, h6, hb6⟩ := hf 5 _ rfl (R := fun k cs (r : List Row) => (∃ A n c, cs = [.slice A n c] ∧ n ≤ c ∧ n * 24 ≤ 140737488355328 ∧ RowsAt W A n r) ∧ rowsBulk r ≤ k) (fun H enc fuel cs x h hw => by
    obtain ⟨A, n, c, l, rfl, hnc, _, hb, hs, hk⟩ := OpensK.slice Tryd.underlying44 cells_row (by decide) bytes_row (openK_row W) h hw
    have hn : n * 24 ≤ 140737488355328 := by simp only [reachBytes] at hb; omega
    refine ⟨l.map (fun p : Row × Nat => p.1), ⟨A, n, c, rfl, hnc, hn, Sl.mapK (D := RowC) hs fun b o p hm => ?_⟩, ?_⟩
    · obtain ⟨cs, h1, ⟨A', n', c', h2, h3⟩, _⟩ := hm
      subst h2
      exact ⟨A', n', c', h1 0 _ rfl, h3⟩
    · have := sum_le_of (f := rowBulk) (l := l) (fun p hp => hs.all (p := fun p => rowBulk p.1 ≤ p.2) (fun b o q hm => by obtain ⟨_, _, _, h3⟩ := hm; exact h3) p hp)
      unfold rowsBulk
      omega)
  simp [cells_int64, cells_string, cells_span, cells_kind, cells_rows] at h0 h1 h3 h4 h5 h6 s3 s5 hb6 hks
  obtain ⟨h1, h2⟩ := h1
  obtain ⟨A, n, c, h6, hnc, hn, hr⟩ := h6
  subst h0 h1 h2 h3 h4 h5 h6
  exact ⟨⟨a0, a1, a2, a3, a4, a5, rows⟩, ⟨A, n, c, rfl, hr, hnc, hn⟩, by unfold Ev.bulk; simp only; omega⟩
/-- an argument that is an event, of small bulk -/
theorem argK_event {H : Type} {enc : TypeId × Value → H} {W : World} {base : Nat} {v : Value} {d : DataW H} {p : List MemPlace} (hv : Value.okWide Tryd.prog W .any base 46 v) (h : DataW.Trod enc Tryd.prog W 0 (fun _ => true) true 46 v d p)
    (hw : ∀ n ∈ d.weights Tryd.prog 46, n ≤ reachBytes) (hk : Rows.uptoBulk d ≤ 1048576) : ∃ e A n c, v = .agg (e.cells A n c) ∧ EvAt W e A n c ∧ EvSmall e ∧ e.bytes ≤ 1099511627776 := by
  obtain ⟨cs, rfl⟩ := agg_of_cells Tryd.underlying46 hv
  obtain ⟨fuel, h⟩ := h
  obtain ⟨e, ⟨A, n, c, hc, hat⟩, hf⟩ := openK_event W H enc fuel _ _ h hw
  have hf' : e.bulk ≤ 1048576 := Nat.le_trans hf hk
  unfold Ev.bulk at hf'
  have hrow : ∀ r ∈ e.rows, rowBulk r ≤ 1048576 := fun r hr => by
    have := le_sum (f := rowBulk) hr
    unfold rowsBulk at hf'
    omega
  refine ⟨e, A, n, c, ?_, hat, ⟨by omega, by omega, fun r hr => ⟨?_, fun x hx => ?_⟩⟩, ?_⟩
  · have : cs = e.cells A n c := Array.toList_inj.1 hc
    rw [this]
  · have h1 := hrow r hr
    have h2 := rowBytes_le r
    omega
  · have h1 := hrow r hr
    have h2 := le_sum (f := runBulk) hx
    unfold rowBulk at h1
    have h3 : runBulk x = x.text.size + x.ruby.size := rfl
    omega
  · have key : ∀ l : List Row, (l.map rowBytes).sum ≤ rowsBulk l := fun l => by
      unfold rowsBulk
      induction l with
      | nil => simp
      | cons y l ih => have := rowBytes_le y; simp only [List.map_cons, List.sum_cons]; omega
    have := key e.rows
    unfold Ev.bytes
    omega

theorem cells_region : Tryd.prog.cellsOf 92 = 7 := by kernel_rfl
theorem bytes_region : Tryd.prog.bytesOf 92 = 56 := by kernel_rfl
theorem open_region (W : World) : Opens Tryd.prog W 92 (fun cs (r : Reg) => cs = [.string r.name, .int .i64 r.top, .int .i64 r.height, .int .i64 r.left, .int .i64 r.width, .int .u8 r.align, .bool r.bottom] ∧ r.name.size ≤ 140737488351232) := by
  intro H enc fuel cs x h hw
  obtain ⟨hl, hf⟩ := Opens.fields Tryd.underlying92 h hw
  rw [cells_region] at hl
  obtain ⟨v0, v1, v2, v3, v4, v5, v6, rfl⟩ := list_7 hl
  obtain ⟨a0, h0, s0⟩ := hf 0 _ rfl (Opens.string Tryd.underlying9)
  obtain ⟨a1, h1, s1⟩ := hf 1 _ rfl (Opens.int Tryd.underlying3)
  obtain ⟨a2, h2, s2⟩ := hf 2 _ rfl (Opens.int Tryd.underlying3)
  obtain ⟨a3, h3, s3⟩ := hf 3 _ rfl (Opens.int Tryd.underlying3)
  obtain ⟨a4, h4, s4⟩ := hf 4 _ rfl (Opens.int Tryd.underlying3)
  obtain ⟨a5, h5, s5⟩ := hf 5 _ rfl (Opens.int Tryd.underlying90)
  obtain ⟨a6, h6⟩ := hf 6 _ rfl (Opens.bool Tryd.underlying4)
  simp [cells_string, cells_int, cells_bool, show Tryd.prog.cellsOf 90 = 1 by kernel_rfl] at h0 h1 h2 h3 h4 h5 h6
  subst h0 h1 h2 h3 h4 h5 h6
  exact ⟨⟨a0, a1, a2, a3, a4, a5, a6⟩, rfl, s0⟩
/-- an argument that is a list of regions -/
theorem arg_regions {H : Type} {enc : TypeId × Value → H} {W : World} {base : Nat} {v : Value} {d : DataW H} {p : List MemPlace} (hv : Value.okWide Tryd.prog W .any base 31 v) (h : DataW.Trod enc Tryd.prog W 0 (fun _ => true) true 31 v d p)
    (hw : ∀ n ∈ d.weights Tryd.prog 31, n ≤ reachBytes) : ∃ A n c regs, v = .slice A n c ∧ n ≤ c ∧ n ≤ 9223372036854775807 ∧ RegsAt W A n regs ∧ RegsSmall regs := by
  obtain ⟨fuel, h⟩ := h
  obtain ⟨A, n, c, l, hc, hnc, hcm, hb, hs⟩ := Opens.slice Tryd.underlying31 cells_region (by decide) bytes_region (open_region W) h hw
  have hv' : v = .slice A n c := by
    unfold Value.okWide at hv
    rw [Tryd.underlying31] at hv
    cases v <;> simp [Value.cells] at hc <;> first | (obtain ⟨h1, h2, h3⟩ := hc; subst h1 h2 h3; rfl) | (simp [Cell.okWide, Tryd.underlying31, Cell.ok] at hv)
  refine ⟨A, n, c, l, hv', hnc, by simp only [maxLen] at hcm; omega, Sl.change (D := RegC) hs fun b o r hm => ?_, show ∀ r ∈ l, r.name.size ≤ 9223372036854775807 from hs.all (p := fun r : Reg => r.name.size ≤ 9223372036854775807) fun b o r hm => ?_⟩
  · obtain ⟨cs, h1, h2, _⟩ := hm
    subst h2
    exact ⟨h1 0 _ rfl, h1 1 _ rfl, h1 2 _ rfl, h1 3 _ rfl, h1 4 _ rfl, h1 5 _ rfl, h1 6 _ rfl⟩
  · obtain ⟨cs, _, _, h3⟩ := hm
    omega
end Go.Proofs.YtaocjfneglgmjaaDoor
