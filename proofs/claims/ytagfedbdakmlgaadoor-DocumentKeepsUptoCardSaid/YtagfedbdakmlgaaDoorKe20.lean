/- Laid together: Documents whose texts may be written anew: what stays of memory when a text is put in the place of a text. What the law DocumentKeeps keeps aside: a copy of a document and one of an event, each in a variable; five documents in a row. What the law on Follow asks, plainly. What Insert, Put, Remove and Shift lead to is accepted again, with the other events as they were: plainly. The characters of a text that is laid together of valid ones: an accepted event's length is the number of characters of its text. What the law DocumentValid asks of Insert, Put, Remove and Shift: plainly. A variable that is filled with an event found in a document: the region's invariant. The walk of document.Head. slices.Equal of regions. slices.Equal of comments. slices.EqualFunc of events. The walk of document.Same. -/
import Derived.Test.YtagfedbdakmlgaaDoorKe19
import Derived.Test.YtagfedbdakmlgaaDoorKe12
import Derived.Test.YtagfedbdakmlgaaDoorKe13
import Derived.Test.YtagfedbdakmlgaaDoorKe15
import Derived.Test.YtagfedbdakmlgaaDoorKe16
import Derived.Test.YtagfedbdakmlgaaDoorKe14
import Derived.Test.YtagfedbdakmlgaaDoorKe17
import Derived.Test.YtagfedbdakmlgaaDoorKe06
import Derived.Test.YtagfedbdakmlgaaDoorKe09

/-! Kin -/
namespace Go.Proofs.YtagfedbdakmlgaaDoor
set_option linter.unusedVariables false
set_option linter.unusedSimpArgs false
open Go.RowKit
/-- all that is no text is as it was; what is a text is a text -/
def Kin (w w' : World) : Prop := (∀ p v, w.cell? p = some v → ∃ v', w'.cell? p = some v' ∧ (v' = v ∨ (∃ s, v = .string s) ∧ ∃ s', v' = .string s')) ∧ ∀ p v, w.cell? p = some v → w.frozen? p = false → w'.frozen? p = false
section
variable {w w1 w2 : World} {p : Addr} {L : Nat}
theorem Kin.refl (w : World) : Kin w w := ⟨fun p v h => ⟨v, h, .inl rfl⟩, fun _ _ _ h => h⟩
theorem Kin.trans (h : Kin w w1) (k : Kin w1 w2) : Kin w w2 := by
  refine ⟨fun p v hv => ?_, fun p v hv hf => ?_⟩
  · obtain ⟨v1, h1, e1⟩ := h.1 p v hv
    obtain ⟨v2, h2, e2⟩ := k.1 p v1 h1
    refine ⟨v2, h2, ?_⟩
    rcases e1 with rfl | ⟨hs, hs1⟩
    · exact e2
    · rcases e2 with rfl | ⟨-, hs2⟩
      · exact .inr ⟨hs, hs1⟩
      · exact .inr ⟨hs, hs2⟩
  · obtain ⟨v1, h1, -⟩ := h.1 p v hv
    exact k.2 p v1 h1 (h.2 p v hv hf)
theorem Kin.of_ext (k : Ext w w1) : Kin w w1 := ⟨fun p v h => ⟨v, k.cell h, .inl rfl⟩, fun p v h hf => k.frozen h hf⟩
theorem Kin.ext (h : Kin w w1) (k : Ext w1 w2) : Kin w w2 := h.trans (Kin.of_ext k)
theorem Kin.set {s0 : ByteArray} (hp : p.spot = none) (h : w.cell? p = some (.string s0)) (s : ByteArray) : Kin w (w.setCell p (.string s)) := by
  refine ⟨fun q v hv => ?_, fun q v _ hf => by rw [World.frozen?_setCell]; exact hf⟩
  by_cases he : p = q
  · subst he
    rw [h] at hv
    cases hv
    exact ⟨.string s, cell_set_self hp h _, .inr ⟨⟨_, rfl⟩, _, rfl⟩⟩
  · exact ⟨v, by rw [World.cell?_setCell_other w p q _ he]; exact hv, .inl rfl⟩
theorem Kin.same {v : Value} (k : Kin w w1) (h : w.cell? p = some v) (hn : ∀ s, v ≠ .string s) : w1.cell? p = some v := by
  obtain ⟨v1, h1, rfl | ⟨⟨s, hs⟩, -⟩⟩ := k.1 p v h
  · exact h1
  · exact absurd hs (hn s)
theorem Kin.slice {A : Option Addr} {n c : Nat} (k : Kin w w1) (h : w.cell? p = some (.slice A n c)) : w1.cell? p = some (.slice A n c) := k.same h (fun s => by simp)
theorem Kin.str {s : ByteArray} (k : Kin w w1) (h : w.cell? p = some (.string s)) : ∃ s', w1.cell? p = some (.string s') := by
  obtain ⟨v1, h1, rfl | ⟨-, s', rfl⟩⟩ := k.1 p _ h
  · exact ⟨s, h1⟩
  · exact ⟨s', h1⟩
/-- a text of one's own, that may be written -/
def StrAt (w : World) (L b o : Nat) : Prop := L ≤ b ∧ (∃ s, w.cell? ⟨b, o, none⟩ = some (.string s)) ∧ w.frozen? ⟨b, o, none⟩ = false
theorem StrAt.kin {b o : Nat} (h : StrAt w L b o) (k : Kin w w1) : StrAt w1 L b o := by
  obtain ⟨h1, ⟨s, h2⟩, h3⟩ := h
  exact ⟨h1, k.str h2, k.2 _ _ h2 h3⟩
/-- rows: their heads, and a text in each of their runs -/
def RSh (w : World) (L : Nat) (A : Option Addr) (n : Nat) : Prop := ∀ i, i < n → ∃ b o A2 n2 c2, A = some ⟨b, o, none⟩ ∧ w.cell? ⟨b, o + i, none⟩ = some (.slice A2 n2 c2) ∧ n2 ≤ 140737488355328 ∧ ∀ k, k < n2 → ∃ b2 o2, A2 = some ⟨b2, o2, none⟩ ∧ StrAt w L b2 (o2 + k * 5)
theorem RSh.kin {A : Option Addr} {n : Nat} (h : RSh w L A n) (k : Kin w w1) : RSh w1 L A n := fun i hi => by
  obtain ⟨b, o, A2, n2, c2, h1, h2, h3, h4⟩ := h i hi
  exact ⟨b, o, A2, n2, c2, h1, k.slice h2, h3, fun q hq => by obtain ⟨b2, o2, e1, e2⟩ := h4 q hq; exact ⟨b2, o2, e1, e2.kin k⟩⟩
theorem RowsFresh.rsh {A : Option Addr} {n : Nat} {l : List Row} (h : RowsFresh w L A n l) : RSh w L A n := by
  obtain ⟨hs, h1, h2, h3⟩ := h.shape
  intro i hi
  obtain ⟨b, off, hd, hA, hh, hC⟩ := h1.at_ hi
  obtain ⟨g1, g2, g3, g4⟩ := h3 hd (List.mem_of_getElem? hh)
  have hc := hC 0 _ rfl
  refine ⟨b, off, hd.1, hd.2.1, hd.2.2, hA, by simpa [Hd.val] using hc, g2, fun k hk => ?_⟩
  obtain ⟨b2, o2, s, e1, e2⟩ := g4 k hk
  exact ⟨b2, o2, e1, (g3 _ e1).1, ⟨s, e2⟩, (g3 _ e1).2.frozen _⟩
/-- a document of one's own, whose texts may be written -/
structure DSh (w : World) (L : Nat) (h : DocH) : Prop where
  bd : h.rn ≤ 9223372036854775807 ∧ h.en ≤ 9223372036854775807 ∧ h.cn ≤ 9223372036854775807
  regs : ∀ i, i < h.rn → ∃ b o, h.ra = some ⟨b, o, none⟩ ∧ StrAt w L b (o + i * 7)
  coms : ∀ i, i < h.cn → ∃ b o, h.ca = some ⟨b, o, none⟩ ∧ StrAt w L b (o + i * 8 + 5)
  evs : ∀ i, i < h.en → ∃ b o A n c, h.ea = some ⟨b, o, none⟩ ∧ StrAt w L b (o + i * 7 + 5) ∧ w.cell? ⟨b, o + i * 7 + 6, none⟩ = some (.slice A n c) ∧ n ≤ 140737488355328 ∧ RSh w L A n
theorem DSh.kin {h : DocH} (s : DSh w L h) (k : Kin w w1) : DSh w1 L h := by
  refine ⟨s.bd, fun i hi => ?_, fun i hi => ?_, fun i hi => ?_⟩
  · obtain ⟨b, o, h1, h2⟩ := s.regs i hi; exact ⟨b, o, h1, h2.kin k⟩
  · obtain ⟨b, o, h1, h2⟩ := s.coms i hi; exact ⟨b, o, h1, h2.kin k⟩
  · obtain ⟨b, o, A, n, c, h1, h2, h3, h4, h5⟩ := s.evs i hi; exact ⟨b, o, A, n, c, h1, h2.kin k, k.slice h3, h4, h5.kin k⟩
theorem DSh.ext {h : DocH} (s : DSh w L h) (k : Ext w w1) : DSh w1 L h := s.kin (Kin.of_ext k)
theorem DSh.le {L' : Nat} {h : DocH} (s : DSh w L h) (hl : L' ≤ L) : DSh w L' h := by
  have st : ∀ {b o : Nat}, StrAt w L b o → StrAt w L' b o := fun h => ⟨Nat.le_trans hl h.1, h.2⟩
  refine ⟨s.bd, fun i hi => ?_, fun i hi => ?_, fun i hi => ?_⟩
  · obtain ⟨b, o, h1, h2⟩ := s.regs i hi; exact ⟨b, o, h1, st h2⟩
  · obtain ⟨b, o, h1, h2⟩ := s.coms i hi; exact ⟨b, o, h1, st h2⟩
  · obtain ⟨b, o, A, n, c, h1, h2, h3, h4, h5⟩ := s.evs i hi
    refine ⟨b, o, A, n, c, h1, st h2, h3, h4, fun q hq => ?_⟩
    obtain ⟨b', o', A2, n2, c2, e1, e2, e3, e4⟩ := h5 q hq
    exact ⟨b', o', A2, n2, c2, e1, e2, e3, fun p hp => by obtain ⟨b2, o2, f1, f2⟩ := e4 p hp; exact ⟨b2, o2, f1, st f2⟩⟩
theorem max_bd {n c : Nat} (h : n ≤ c) (k : c ≤ maxLen) : n ≤ 9223372036854775807 := by unfold maxLen at k; omega
theorem DocOwn.bd {d : Doc} {h : DocH} (o : DocOwn w L d h) : h.rn ≤ 9223372036854775807 ∧ h.en ≤ 9223372036854775807 ∧ h.cn ≤ 9223372036854775807 := by
  refine ⟨?_, ?_, ?_⟩
  · obtain ⟨A, c, hv, hc, hm, -, -⟩ := own_sl (f := Reg.vals) (size := 7) (fun _ => rfl) o.rlen o.regs
    exact max_bd hc hm
  · obtain ⟨A, c, hv, hc, hm, -⟩ := o.evs.at_
    exact max_bd hc hm
  · obtain ⟨A, c, hv, hc, hm, -, -⟩ := own_sl (f := Com.vals) (size := 8) (fun _ => rfl) o.clen o.coms
    exact max_bd hc hm
theorem DocOwn.dsh {d : Doc} {h : DocH} (o : DocOwn w L d h) : DSh w L h := by
  refine ⟨o.bd, fun i hi => ?_, fun i hi => ?_, fun i hi => ?_⟩
  · obtain ⟨g, cp, hv, hg, -⟩ := own_form o.regs (by omega)
    injection hv with e1 e2 e3
    obtain ⟨r, hr⟩ : ∃ r, d.regs[i]? = some r := ⟨_, List.getElem?_eq_getElem (by rw [o.rlen]; exact hi)⟩
    have hO := o.regs
    rw [e1] at hO
    refine ⟨g, 0, e1, hg, ⟨r.name, ?_⟩, hO.frozenAt _⟩
    have := hO.cellAt (i * 7) (by omega)
    rw [Nat.zero_add, this]
    have h2 := flatMap_at Reg.vals 7 (fun _ => rfl) d.regs i r 0 hr (by omega)
    simpa [Reg.vals] using h2
  · obtain ⟨g, cp, hv, hg, -⟩ := own_form o.coms (by omega)
    injection hv with e1 e2 e3
    obtain ⟨r, hr⟩ : ∃ r, d.coms[i]? = some r := ⟨_, List.getElem?_eq_getElem (by rw [o.clen]; exact hi)⟩
    have hO := o.coms
    rw [e1] at hO
    refine ⟨g, 0, e1, hg, ⟨r.text, ?_⟩, hO.frozenAt _⟩
    have := hO.cellAt (i * 8 + 5) (by omega)
    rw [Nat.zero_add, this]
    exact flatMap_at Com.vals 8 (fun _ => rfl) d.coms i r 5 hr (by omega)
  · obtain ⟨hs, h1, h2, h3, h4⟩ := o.evs
    obtain ⟨g, cp, hv, hg, -⟩ := own_form h1 (by omega)
    injection hv with e1 e2 e3
    rw [e1] at h1
    obtain ⟨x, hx⟩ : ∃ x, hs[i]? = some x := ⟨_, List.getElem?_eq_getElem (by rw [h2]; exact hi)⟩
    obtain ⟨e, he⟩ : ∃ e, d.evs[i]? = some e := ⟨_, List.getElem?_eq_getElem (by rw [h3]; exact hi)⟩
    have hgd := h4 i x e hx he
    have hn := hgd.2.2.1
    refine ⟨g, 0, x.A, x.n, x.c, e1, ⟨hg, ⟨x.speaker, ?_⟩, h1.frozenAt _⟩, ?_, by omega, hgd.2.2.2.rsh⟩
    · rw [Nat.zero_add]; exact EH.cells_at h1 hx hi (j := 5) (by omega)
    · rw [Nat.zero_add]; exact EH.cells_at h1 hx hi (j := 6) (by omega)
end
/-- the lists of a document lie in its cells from o on -/
def DCl (w : World) (b o : Nat) (h : DocH) : Prop := (∃ s, w.cell? ⟨b, o, none⟩ = some (.string s)) ∧ (∃ s, w.cell? ⟨b, o + 1, none⟩ = some (.string s)) ∧ (∃ r, w.cell? ⟨b, o + 2, none⟩ = some (.int .u8 r)) ∧ (∃ r, w.cell? ⟨b, o + 3, none⟩ = some (.bool r)) ∧ (∃ r, w.cell? ⟨b, o + 4, none⟩ = some (.int .i64 r)) ∧
  w.cell? ⟨b, o + 5, none⟩ = some (.slice h.ra h.rn h.rc) ∧ w.cell? ⟨b, o + 6, none⟩ = some (.slice h.ea h.en h.ec) ∧ w.cell? ⟨b, o + 7, none⟩ = some (.slice h.ca h.cn h.cc)
theorem DCl.kin {w w1 : World} {b o : Nat} {h : DocH} (s : DCl w b o h) (k : Kin w w1) : DCl w1 b o h := by
  obtain ⟨⟨s0, h0⟩, ⟨s1, h1⟩, ⟨r2, h2⟩, ⟨r3, h3⟩, ⟨r4, h4⟩, h5, h6, h7⟩ := s
  exact ⟨k.str h0, k.str h1, ⟨r2, k.same h2 (fun s => by simp)⟩, ⟨r3, k.same h3 (fun s => by simp)⟩, ⟨r4, k.same h4 (fun s => by simp)⟩, k.slice h5, k.slice h6, k.slice h7⟩
end Go.Proofs.YtagfedbdakmlgaaDoor

/-! KeepD -/
namespace Go.Proofs.YtagfedbdakmlgaaDoor
set_option linter.unusedVariables false
set_option linter.unusedSimpArgs false
open Go.RowKit
theorem wp_alloc_doc {o : Oper} {a : Act} {w : World} {K : Act → World → Prop} {Q : Exit → Act → World → Prop} (ho : o.op = .alloc 39) (h : K (a.put o.dst (.pointer (some ⟨w.heap.size, 0, none⟩))) (w.alloc (.cells docZero 39))) : o.wp Tryd.prog a w K Q := by
  obtain ⟨dst, op, ty, pos, after, guard⟩ := o
  simp only at ho
  subst ho
  unfold docZero at h
  go_simp
  exact h
/-- an event is stored into a block that is not the document's own list -/
theorem DocOwn.putN {w : World} {L : Nat} {d : Doc} {h : DocH} (o : DocOwn w L d h) {g : Nat} {cs : Array Value} (hB : Blk w g 45 cs) (hne : ∀ ad, h.ea = some ad → ad.block ≠ g) (cs' : Array Value) : DocOwn (putB w g 45 cs') L d h := by
  obtain ⟨hs, h1, h2, h3, h4⟩ := o.evs
  refine ⟨own_kb o.regs (KB.put hB (by decide)), o.rlen, ⟨hs, ⟨h1.1, ?_⟩, h2, h3, fun i x e a b => (h4 i x e a b).kb (KB.put hB (by decide)) (KB.put hB (by decide))⟩, own_kb o.coms (KB.put hB (by decide)), o.clen⟩
  rcases h1.2 with hn | ⟨q, cap, cur, hv, hb, hg2, hrest⟩
  · exact .inl hn
  · refine .inr ⟨q, cap, cur, hv, hb, ?_, hrest⟩
    have hne' : g ≠ q := by
      injection hv with e1 e2 e3
      exact Ne.symm (hne _ e1)
    show (putB w g _ cs').heap[q]? = _
    unfold putB
    simp only
    rw [Array.getElem?_setIfInBounds_ne hne']
    exact hg2
theorem DocOwn.ea_bd {w : World} {L : Nat} {d : Doc} {h : DocH} (o : DocOwn w L d h) : ∀ ad, h.ea = some ad → L ≤ ad.block ∧ ad.block < w.heap.size := by
  obtain ⟨hs, h1, -⟩ := o.evs
  intro ad had
  rcases h1.2 with ⟨hv, -⟩ | ⟨q, cap, cur, hv, hb, hg2, -⟩
  · injection hv with e1
    rw [e1] at had; cases had
  · injection hv with e1
    rw [e1] at had; cases had
    exact ⟨hb, (Array.getElem?_eq_some_iff.1 hg2).1⟩
structure KdJ (d : Doc) (e : Ev) (n : Nat) (W : World) (us : List Value) (gs : Nat → Option Nat) (w : World) : Prop where
  ext : Ext W w
  one : ∀ v, us[0]? = some v → ∃ h', v = .agg (d.cells h') ∧ DocOwn w W.heap.size d h' ∧ ∀ g, gs 5 = some g → ∀ ad, h'.ea = some ad → ad.block ≠ g
  two : ∀ v, us[1]? = some v → ∃ A2 c2, v = .agg (e.cells A2 n c2) ∧ n ≤ c2 ∧ RowsFresh w W.heap.size A2 n e.rows
  va : ∀ g, gs 4 = some g → W.heap.size ≤ g ∧ ∃ cs, cs.size = 8 ∧ Blk w g 39 cs ∧ (2 < us.length → us[0]? = some (.agg cs))
  vb : ∀ g, gs 5 = some g → W.heap.size ≤ g ∧ ∃ cs, cs.size = 7 ∧ Blk w g 45 cs ∧ (3 < us.length → us[1]? = some (.agg cs))
section
variable {d : Doc} {e : Ev} {n : Nat} {W w : World} {us : List Value} {gs : Nat → Option Nat}
theorem KdJ.start (W : World) : KdJ d e n W [] (fun _ => none) W.drew := ⟨(Ext.refl W).drew, fun v h => (by simp at h), fun v h => (by simp at h), fun g h => (by cases h), fun g h => (by cases h)⟩
theorem KdJ.go {w' : World} {us' : List Value} {gs' : Nat → Option Nat} (h : KdJ d e n W us gs w) (hx : Ext w w') (hu : us' = us) (h4 : ∀ g, gs' 4 = some g → gs 4 = some g ∨ W.heap.size ≤ g ∧ us.length ≤ 2 ∧ Blk w' g 39 docZero) (h5 : ∀ g, gs' 5 = some g → gs 5 = some g ∨ W.heap.size ≤ g ∧ us.length ≤ 3 ∧ w.heap.size ≤ g ∧ Blk w' g 45 evZero) : KdJ d e n W us' gs' w' := by
  subst hu
  refine ⟨h.ext.trans hx, fun v hv => ?_, fun v hv => ?_, fun g hg => ?_, fun g hg => ?_⟩
  · obtain ⟨h', e1, e2, e3⟩ := h.one v hv
    refine ⟨h', e1, e2.ext hx, fun g hg ad had => ?_⟩
    rcases h5 g hg with k | ⟨-, -, k, -⟩
    · exact e3 g k ad had
    · have := (e2.ea_bd ad had).2; omega
  · obtain ⟨A2, c2, e1, e2, e3⟩ := h.two v hv; exact ⟨A2, c2, e1, e2, e3.ext hx⟩
  · rcases h4 g hg with k | ⟨k1, k2, k3⟩
    · obtain ⟨e1, cs, e2, e3, e4⟩ := h.va g k; exact ⟨e1, cs, e2, e3.ext hx, e4⟩
    · exact ⟨k1, docZero, rfl, k3, fun h => absurd h (by omega)⟩
  · rcases h5 g hg with k | ⟨k1, k2, -, k3⟩
    · obtain ⟨e1, cs, e2, e3, e4⟩ := h.vb g k; exact ⟨e1, cs, e2, e3.ext hx, e4⟩
    · exact ⟨k1, evZero, rfl, k3, fun h => absurd h (by omega)⟩
theorem KdJ.alloc4 (h : KdJ d e n W us gs w) (hl : us.length ≤ 2) : KdJ d e n W us (upd gs 4 w.heap.size) (w.alloc (.cells docZero 39)) := by
  refine h.go ((Ext.refl w).alloc _) rfl (fun g hg => ?_) (fun g hg => ?_)
  · rw [upd_self] at hg
    obtain rfl : w.heap.size = g := Option.some.inj hg
    exact .inr ⟨h.ext.size, hl, Blk.new w _ _⟩
  · rw [upd_other _ (by decide)] at hg; exact .inl hg
theorem KdJ.alloc5 (h : KdJ d e n W us gs w) (hl : us.length ≤ 3) : KdJ d e n W us (upd gs 5 w.heap.size) (w.alloc (.cells evZero 45)) := by
  refine h.go ((Ext.refl w).alloc _) rfl (fun g hg => ?_) (fun g hg => ?_)
  · rw [upd_other _ (by decide)] at hg; exact .inl hg
  · rw [upd_self] at hg
    obtain rfl : w.heap.size = g := Option.some.inj hg
    exact .inr ⟨h.ext.size, hl, Nat.le_refl _, Blk.new w _ _⟩
theorem KdJ.call0 (h : KdJ d e n W [] gs w) {w' : World} (hx : Ext w w') {h' : DocH} (ho : DocOwn w' w.heap.size d h') : KdJ d e n W ([] ++ [.agg (d.cells h')]) gs w' := by
  refine ⟨h.ext.trans hx, fun v hv => ?_, fun v hv => by simp at hv, fun g hg => ?_, fun g hg => ?_⟩
  · simp at hv
    refine ⟨h', hv.symm, ho.le h.ext.size, fun g hg ad had => ?_⟩
    obtain ⟨-, cs, -, h3, -⟩ := h.vb g hg
    have := h3.lt
    have := (ho.ea_bd ad had).1
    omega
  · obtain ⟨h1, cs, h2, h3, _⟩ := h.va g hg; exact ⟨h1, cs, h2, h3.ext hx, fun h' => by simp at h'⟩
  · obtain ⟨h1, cs, h2, h3, _⟩ := h.vb g hg; exact ⟨h1, cs, h2, h3.ext hx, fun h' => by simp at h'⟩
theorem KdJ.call1 {u0 : Value} (h : KdJ d e n W [u0] gs w) {w' : World} (hx : Ext w w') {A2 : Option Addr} {c2 : Nat} (hc : n ≤ c2) (hr : RowsFresh w' w.heap.size A2 n e.rows) : KdJ d e n W ([u0] ++ [.agg (e.cells A2 n c2)]) gs w' := by
  refine ⟨h.ext.trans hx, fun v hv => ?_, fun v hv => ?_, fun g hg => ?_, fun g hg => ?_⟩
  · obtain ⟨h', e1, e2, e3⟩ := h.one v (by simpa using hv); exact ⟨h', e1, e2.ext hx, e3⟩
  · simp at hv; exact ⟨A2, c2, hv.symm, hc, hr.le h.ext.size⟩
  · obtain ⟨h1, cs, h2, h3, _⟩ := h.va g hg; exact ⟨h1, cs, h2, h3.ext hx, fun h' => by simp at h'⟩
  · obtain ⟨h1, cs, h2, h3, _⟩ := h.vb g hg; exact ⟨h1, cs, h2, h3.ext hx, fun h' => by simp at h'⟩
theorem KdJ.store2 {u1 v : Value} {h' : DocH} {ga : Nat} (h : KdJ d e n W [.agg (d.cells h'), u1] gs w) (hg4 : gs 4 = some ga) {cs : Array Value} (hB : Blk w ga 39 cs) : KdJ d e n W ([.agg (d.cells h'), u1] ++ [v]) gs (putB w ga 39 (d.cells h')) := by
  refine ⟨h.ext.put (h.va ga hg4).1 _ _, fun v hv => ?_, fun v hv => ?_, fun g hg => ?_, fun g hg => ?_⟩
  · obtain ⟨h2, e1, e2, e3⟩ := h.one v (by simpa using hv); exact ⟨h2, e1, e2.put hB _, e3⟩
  · obtain ⟨A', c', h1, h2, h3⟩ := h.two v (by simpa using hv); exact ⟨A', c', h1, h2, h3.put hB _ (by decide) (by decide)⟩
  · rw [hg4] at hg
    obtain rfl : ga = g := Option.some.inj hg
    exact ⟨(h.va ga hg4).1, _, rfl, hB.put _, fun _ => rfl⟩
  · obtain ⟨h1, cs', h2, h3, _⟩ := h.vb g hg
    exact ⟨h1, cs', h2, h3.put_other (Typed.ne hB.typed h3.typed (by decide)) _, fun h' => by simp at h'⟩
theorem KdJ.store3 {u2 v : Value} {h' : DocH} {A2 : Option Addr} {c2 gb : Nat} (h : KdJ d e n W [.agg (d.cells h'), .agg (e.cells A2 n c2), u2] gs w) (hg5 : gs 5 = some gb) {cs : Array Value} (hB : Blk w gb 45 cs) : KdJ d e n W ([.agg (d.cells h'), .agg (e.cells A2 n c2), u2] ++ [v]) gs (putB w gb 45 (e.cells A2 n c2)) := by
  refine ⟨h.ext.put (h.vb gb hg5).1 _ _, fun v hv => ?_, fun v hv => ?_, fun g hg => ?_, fun g hg => ?_⟩
  · obtain ⟨h2, e1, e2, e3⟩ := h.one v (by simpa using hv); exact ⟨h2, e1, e2.putN hB (e3 gb hg5) _, e3⟩
  · obtain ⟨A', c', h1, h2, h3⟩ := h.two v (by simpa using hv); exact ⟨A', c', h1, h2, h3.put hB _ (by decide) (by decide)⟩
  · obtain ⟨h1, cs', h2, h3, h4⟩ := h.va g hg
    exact ⟨h1, cs', h2, h3.put_other (Typed.ne hB.typed h3.typed (by decide)) _, fun _ => by have := h4 (by simp); simpa using this⟩
  · rw [hg5] at hg
    obtain rfl : gb = g := Option.some.inj hg
    exact ⟨(h.vb gb hg5).1, _, rfl, hB.put _, fun _ => rfl⟩
end
def H5 (h0 h1 h2 h3 h4 : DocH) : Nat → DocH
  | 0 => h0
  | 1 => h1
  | 2 => h2
  | 3 => h3
  | _ => h4
def docs5 (D0 D1 D2 D3 D4 : Doc) (h0 h1 h2 h3 h4 : DocH) : Array Value := #[.string D0.title, .string D0.lang, .int .u8 D0.rate, .bool D0.drop, .int .i64 D0.last, .slice h0.ra h0.rn h0.rc, .slice h0.ea h0.en h0.ec, .slice h0.ca h0.cn h0.cc, .string D1.title, .string D1.lang, .int .u8 D1.rate, .bool D1.drop, .int .i64 D1.last, .slice h1.ra h1.rn h1.rc, .slice h1.ea h1.en h1.ec, .slice h1.ca h1.cn h1.cc, .string D2.title, .string D2.lang, .int .u8 D2.rate, .bool D2.drop, .int .i64 D2.last, .slice h2.ra h2.rn h2.rc, .slice h2.ea h2.en h2.ec, .slice h2.ca h2.cn h2.cc, .string D3.title, .string D3.lang, .int .u8 D3.rate, .bool D3.drop, .int .i64 D3.last, .slice h3.ra h3.rn h3.rc, .slice h3.ea h3.en h3.ec, .slice h3.ca h3.cn h3.cc, .string D4.title, .string D4.lang, .int .u8 D4.rate, .bool D4.drop, .int .i64 D4.last, .slice h4.ra h4.rn h4.rc, .slice h4.ea h4.en h4.ec, .slice h4.ca h4.cn h4.cc]
theorem dcl5 {w : World} {g : Nat} {D0 D1 D2 D3 D4 : Doc} {h0 h1 h2 h3 h4 : DocH} (hB : Blk w g 39 (docs5 D0 D1 D2 D3 D4 h0 h1 h2 h3 h4)) : ∀ j, j < 5 → DCl w g (j * 8) (H5 h0 h1 h2 h3 h4 j) := by
  intro j hj
  match j, hj with
  | 0, _ => exact ⟨⟨_, hB.cell 0⟩, ⟨_, hB.cell 1⟩, ⟨_, hB.cell 2⟩, ⟨_, hB.cell 3⟩, ⟨_, hB.cell 4⟩, hB.cell 5, hB.cell 6, hB.cell 7⟩
  | 1, _ => exact ⟨⟨_, hB.cell 8⟩, ⟨_, hB.cell 9⟩, ⟨_, hB.cell 10⟩, ⟨_, hB.cell 11⟩, ⟨_, hB.cell 12⟩, hB.cell 13, hB.cell 14, hB.cell 15⟩
  | 2, _ => exact ⟨⟨_, hB.cell 16⟩, ⟨_, hB.cell 17⟩, ⟨_, hB.cell 18⟩, ⟨_, hB.cell 19⟩, ⟨_, hB.cell 20⟩, hB.cell 21, hB.cell 22, hB.cell 23⟩
  | 3, _ => exact ⟨⟨_, hB.cell 24⟩, ⟨_, hB.cell 25⟩, ⟨_, hB.cell 26⟩, ⟨_, hB.cell 27⟩, ⟨_, hB.cell 28⟩, hB.cell 29, hB.cell 30, hB.cell 31⟩
  | 4, _ => exact ⟨⟨_, hB.cell 32⟩, ⟨_, hB.cell 33⟩, ⟨_, hB.cell 34⟩, ⟨_, hB.cell 35⟩, ⟨_, hB.cell 36⟩, hB.cell 37, hB.cell 38, hB.cell 39⟩
end Go.Proofs.YtagfedbdakmlgaaDoor

/-! FolLP -/
namespace Go.Proofs.YtagfedbdakmlgaaDoor
set_option linter.unusedVariables false
set_option linter.unusedSimpArgs false
open Go.RowKit
section
variable {n m p s : Nat} {F T i : Int}
/-- a character that stays -/
def kept (n p s : Nat) (i : Int) : Prop := i < p ∨ (n : Int) - s ≤ i
def atOf (n m p : Nat) (i : Int) : Int := if (p : Int) ≤ i then i + m - n else i
end
end Go.Proofs.YtagfedbdakmlgaaDoor

/-! ValP -/
namespace Go.Proofs.YtagfedbdakmlgaaDoor
set_option linter.unusedVariables false
set_option linter.unusedSimpArgs false
open Go.RowKit
theorem insS_perm {α : Type} {lt : α → α → Bool} (x : α) : ∀ l : List α, (Stb.insS lt x l).Perm (x :: l)
  | [] => .refl _
  | y :: l => by
    unfold Stb.insS
    split
    · exact .refl _
    · exact ((insS_perm x l).cons y).trans (.swap x y l)
theorem foldS_perm {α : Type} {lt : α → α → Bool} : ∀ (l acc : List α), (l.foldl (fun acc x => Stb.insS lt x acc) acc).Perm (acc ++ l)
  | [], acc => by simp
  | x :: l, acc => by
    rw [List.foldl_cons]
    refine (foldS_perm l _).trans ?_
    refine ((insS_perm x acc).append_right l).trans ?_
    rw [List.cons_append]
    exact List.perm_middle.symm
theorem srtE_perm (l : List Ev) : (srtE l).Perm l := by
  have := foldS_perm (lt := lessB) l []
  simpa [srtE, Stb.sortS] using this
theorem less_or {x y : Ev} (h : lessB y x = false) (hne : x.id ≠ y.id) : lessB x y = true := by
  unfold lessB at *
  simp only [decide_eq_true_eq, decide_eq_false_iff_not] at *
  omega
structure EvsV (regs : List Reg) (last : Int) (l : List Ev) : Prop where
  each : ∀ x ∈ l, x.err regs = 0 ∧ x.id ≤ last
  srt : l.Pairwise fun x y => lessB x y = true
  ids : l.Pairwise fun x y => x.id ≠ y.id
theorem findE_none {l : List Ev} {id : Int} (h : findE l id = none) : ∀ e ∈ l, e.id ≠ id := fun e he => by
  have := List.findIdx?_eq_none_iff.1 h e he
  simpa using this
theorem none_findE {l : List Ev} {id : Int} (h : ∀ e ∈ l, e.id ≠ id) : findE l id = none :=
  List.findIdx?_eq_none_iff.2 fun e he => by simpa using h e he
theorem findE_mem {l : List Ev} {id : Int} {k : Nat} (h : findE l id = some k) : ∃ e, l[k]? = some e ∧ e ∈ l ∧ e.id = id := by
  obtain ⟨hk, h1, -⟩ := List.findIdx?_eq_some_iff_getElem.1 h
  exact ⟨l[k], List.getElem?_eq_getElem hk, List.getElem_mem hk, by simpa using h1⟩
theorem pair_ids {l : List Ev} (h : l.Pairwise fun x y => x.id ≠ y.id) {x y : Ev} (hx : x ∈ l) (hy : y ∈ l) (he : x.id = y.id) : x = y := by
  obtain ⟨i, hi, rfl⟩ := List.mem_iff_getElem.1 hx
  obtain ⟨j, hj, rfl⟩ := List.mem_iff_getElem.1 hy
  rw [List.pairwise_iff_getElem] at h
  rcases Nat.lt_trichotomy i j with c | c | c
  · exact absurd he (h i j hi hj c)
  · subst c; rfl
  · exact absurd he.symm (h j i hj hi c)
theorem mem_findE {l : List Ev} (h : l.Pairwise fun x y => x.id ≠ y.id) {x : Ev} (hx : x ∈ l) : ∃ k, findE l x.id = some k ∧ l[k]? = some x := by
  cases hf : findE l x.id with
  | none => exact absurd rfl (findE_none hf x hx)
  | some k =>
    obtain ⟨e, h1, h2, h3⟩ := findE_mem hf
    exact ⟨k, rfl, by rw [h1, pair_ids h h2 hx h3]⟩
theorem v_evs {regs : List Reg} {last : Int} {l : List Ev} (h : EvsV regs last l) : evsLoop regs last [] l = 0 := by
  refine evs_all fun k x hx => ?_
  obtain ⟨hk, hxk⟩ := List.getElem?_eq_some_iff.1 hx
  have hm := h.each x (List.mem_of_getElem? hx)
  unfold evErr
  rw [List.nil_append, if_neg (by simpa using hm.1), if_neg (by omega), if_neg, if_neg]
  · rw [none_findE (fun e he => ?_)]
    · simp
    · obtain ⟨i, hi, he'⟩ := List.mem_take_iff_getElem.1 he
      have := List.pairwise_iff_getElem.1 h.ids i k (by omega) hk (by omega)
      rw [he', hxk] at this
      exact this
  · intro hc
    cases k with
    | zero => simp at hc
    | succ j =>
      rw [List.getLast?_eq_getElem?, List.length_take, Nat.min_eq_left (by omega), List.getElem?_take, if_pos (by omega), Nat.add_sub_cancel, List.getElem?_eq_getElem (show j < l.length by omega)] at hc
      have := List.pairwise_iff_getElem.1 h.srt j (j + 1) (by omega) hk (by omega)
      rw [hxk] at this
      simp [this] at hc
theorem EvsV.sorted {regs : List Reg} {last : Int} {l : List Ev} (h : ∀ x ∈ l, x.err regs = 0 ∧ x.id ≤ last) (hi : l.Pairwise fun x y => x.id ≠ y.id) : EvsV regs last (srtE l) := by
  have hp := srtE_perm l
  have hi' : (srtE l).Pairwise fun x y => x.id ≠ y.id := (hp.pairwise_iff (fun {x y} (h : x.id ≠ y.id) => Ne.symm h)).2 hi
  refine ⟨fun x hx => h x (hp.mem_iff.1 hx), ?_, hi'⟩
  have hs := (Stb.sortS_spec lessB_sw l).1
  exact (hs.and hi').imp fun {x y} ⟨h1, h2⟩ => less_or h1 h2
structure ComV (last : Int) (evs : List Ev) (c : Com) : Prop where
  id1 : 1 ≤ c.id
  id2 : c.id ≤ last
  free : ∀ e ∈ evs, e.id ≠ c.id
  ev1 : 1 ≤ c.ev
  ev2 : c.ev ≤ last
  lostV : c.lost = true → c.fr = 0 ∧ c.til = 0
  anch : c.lost = false → ∃ e ∈ evs, e.id = c.ev ∧ 0 ≤ c.fr ∧ c.fr < c.til ∧ c.til ≤ e.len
  rest : nameB c.author = true ∧ vld c.text = true ∧ c.text.toList.isEmpty = false ∧ c.text.size ≤ 400
structure ComsV (last : Int) (evs : List Ev) (l : List Com) : Prop where
  each : ∀ c ∈ l, ComV last evs c
  srt : l.Pairwise fun a b => a.id < b.id
theorem ComV.err0 {last : Int} {evs : List Ev} {c : Com} (h : ComV last evs c) (ids : evs.Pairwise fun x y => x.id ≠ y.id) {p : Option Int} (hp : ∀ q, p = some q → q < c.id) : c.err last evs p = 0 := by
  have h1 := h.id1
  have h2 := h.id2
  have hA : c.anchorErr last evs = 0 := by
    have h3 := h.ev1
    have h4 := h.ev2
    unfold Com.anchorErr
    rw [if_neg (by omega)]
    cases hl : c.lost with
    | true => have := h.lostV hl; rw [if_pos rfl, if_neg (by omega)]
    | false =>
      obtain ⟨e, he, e1, e2, e3, e4⟩ := h.anch hl
      obtain ⟨k, f1, f2⟩ := mem_findE ids he
      rw [e1] at f1
      rw [if_neg (by simp), f1]
      simp only
      rw [if_neg]
      rw [f2]
      simp only [Option.map_some, Option.some.injEq, decide_eq_true_eq]
      omega
  unfold Com.err
  rw [if_neg (by omega), if_neg, none_findE h.free, if_neg (by simp), hA, if_neg (by simp), h.rest.1, if_neg (by simp), h.rest.2.1, if_neg (by simp), h.rest.2.2.1, if_neg (by simp), if_neg (by have := h.rest.2.2.2; omega)]
  cases p with
  | none => simp
  | some q => have := hp q rfl; simp; omega
theorem v_coms {last : Int} {evs : List Ev} (ids : evs.Pairwise fun x y => x.id ≠ y.id) : ∀ {l : List Com} {p : Option Int}, (∀ q, p = some q → ∀ c ∈ l, q < c.id) → ComsV last evs l → comsLoop last evs p l = 0
  | [], p, _, _ => by simp [comsLoop]
  | c :: l, p, hp, h => by
    have he := (h.each c (by simp)).err0 ids (p := p) (fun q hq => hp q hq c (by simp))
    rw [coms_cons, if_neg (by simpa using he)]
    have hs := List.pairwise_cons.1 h.srt
    exact v_coms ids (fun q hq c' hc' => by cases hq; exact hs.1 c' hc') ⟨fun c' hc' => h.each c' (by simp [hc']), hs.2⟩
structure DocV (d : Doc) : Prop where
  head : d.headErr = 0
  regs : regsErr d.regs = 0
  en : d.evs.length ≤ 400
  evs : EvsV d.regs d.last d.evs
  cn : d.coms.length ≤ 64
  coms : ComsV d.last d.evs d.coms
theorem DocV.ok {d : Doc} (h : DocV d) : d.err = 0 := by
  unfold Doc.err
  have h3 := h.en
  have h5 := h.cn
  rw [if_neg (by simpa using h.head), if_neg (by simpa using h.regs), if_neg (by omega), if_neg (by simpa using v_evs h.evs), if_neg (by omega)]
  exact v_coms h.evs.ids (fun q hq => by cases hq) h.coms
theorem ComV.mono {last last' : Int} {evs evs' : List Ev} {c : Com} (h : ComV last evs c) (hl : last ≤ last') (hf : ∀ e ∈ evs', e.id ≠ c.id) (ha : ∀ e ∈ evs, e.id = c.ev → ∃ e' ∈ evs', e'.id = e.id ∧ e'.len = e.len) : ComV last' evs' c := by
  refine ⟨h.id1, Int.le_trans h.id2 hl, hf, h.ev1, Int.le_trans h.ev2 hl, h.lostV, fun hlo => ?_, h.rest⟩
  obtain ⟨e, he, e1, e2, e3, e4⟩ := h.anch hlo
  obtain ⟨e', f0, f1, f2⟩ := ha e he e1
  exact ⟨e', f0, by rw [f1, e1], e2, e3, by rw [f2]; exact e4⟩
section
variable {d : Doc} {e : Ev}
end
end Go.Proofs.YtagfedbdakmlgaaDoor

/-! CntP -/
namespace Go.Proofs.YtagfedbdakmlgaaDoor
set_option linter.unusedVariables false
set_option linter.unusedSimpArgs false
open Go.RowKit
def cntG : Nat → List UInt8 → Nat
  | 0, _ => 0
  | f + 1, l => if l = [] then 0 else 1 + cntG f (l.drop (Lib.decodeL l).2)
def cnt (l : List UInt8) : Nat := cntG l.length l
end Go.Proofs.YtagfedbdakmlgaaDoor

/-! ValL -/
namespace Go.Proofs.YtagfedbdakmlgaaDoor
set_option linter.unusedVariables false
set_option linter.unusedSimpArgs false
open Go.RowKit
def EvIn (l l' : List Ev) (id : Int) : Prop := ∀ x ∈ l, x.id ≠ id → ∃ k, findE l' x.id = some k ∧ l'[k]? = some x
section
variable {d : Doc} {e : Ev}
end
end Go.Proofs.YtagfedbdakmlgaaDoor

/-! ValJ -/
namespace Go.Proofs.YtagfedbdakmlgaaDoor
set_option linter.unusedVariables false
set_option linter.unusedSimpArgs false
open Go.RowKit
theorem Ext.ext {w w1 w2 : World} (h : Ext w w1) (k : Ext w1 w2) : Ext w w2 := h.trans k
structure YJ (k : Int) (cs : Array Value) (W : World) (us : List Value) (gs : Nat → Option Nat) (w' : World) : Prop where
  ext : Ext W w'
  val : ∀ u, us[0]? = some u → u = .int .i64 k
  va : ∀ g, gs 8 = some g → W.heap.size ≤ g ∧ ∃ cs', cs'.size = 7 ∧ Blk w' g 45 cs' ∧ (1 < us.length → cs' = cs)
section
variable {k : Int} {cs : Array Value} {W w' w2 : World} {us : List Value} {gs : Nat → Option Nat} {u v : Value}
theorem YJ.start (W : World) : YJ k cs W [] (fun _ => none) W.drew := ⟨(Ext.refl W).drew, fun u h => by simp at h, fun g h => by cases h⟩
theorem YJ.call (j : YJ k cs W [] gs w') (hx : Ext w' w2) : YJ k cs W ([] ++ [.int .i64 k]) gs w2 := by
  refine ⟨j.ext.trans hx, fun u h => by simp at h; exact h.symm, fun g hg => ?_⟩
  obtain ⟨h1, cs', h2, h3, h4⟩ := j.va g hg
  exact ⟨h1, cs', h2, h3.ext hx, fun h => by simp at h⟩
theorem YJ.sto (j : YJ k cs W [u] gs w') {g : Nat} (hg : gs 8 = some g) {cs' : Array Value} (hB : Blk w' g 45 cs') (hsz : cs.size = 7 := by rfl) : YJ k cs W ([u] ++ [v]) gs (putB w' g 45 cs) := by
  refine ⟨j.ext.put (j.va g hg).1 _ _, fun u h => j.val u (by simpa using h), fun g' hg' => ?_⟩
  rw [hg] at hg'
  obtain rfl : g = g' := Option.some.inj hg'
  exact ⟨(j.va g hg).1, cs, hsz, hB.put _, fun _ => rfl⟩
end
end Go.Proofs.YtagfedbdakmlgaaDoor

/-! HeadD -/
namespace Go.Proofs.YtagfedbdakmlgaaDoor
set_option linter.unusedVariables false
set_option linter.unusedSimpArgs false
open Go.RowKit
def Doc.head (d : Doc) : Value := .agg #[.string d.title, .string d.lang, .int .u8 d.rate, .bool d.drop, .int .i64 d.last]
end Go.Proofs.YtagfedbdakmlgaaDoor

/-! EqualD -/
namespace Go.Proofs.YtagfedbdakmlgaaDoor
set_option linter.unusedVariables false
set_option linter.unusedSimpArgs false
open Go.RowKit
theorem neq_reg (a b : Reg) (w : World) : (binOp .neq 58 a.val b.val).run Tryd.prog w = .ok (.bool (!decide (a = b))) w := by
  obtain ⟨nm, top, hgt, lft, wid, al, bot⟩ := a
  obtain ⟨nm', top', hgt', lft', wid', al', bot'⟩ := b
  unfold Reg.val
  dsimp only
  go_simp
  simp only [toList_inj]
  repeat' split
  all_goals simp_all
theorem neq_reg_yes (a b : Reg) (h : ¬ a = b) (w : World) : (binOp .neq 58 a.val b.val).run Tryd.prog w = .ok (.bool true) w := by rw [neq_reg, decide_eq_false h]; rfl
theorem neq_reg_no (a : Reg) (w : World) : (binOp .neq 58 a.val a.val).run Tryd.prog w = .ok (.bool false) w := by rw [neq_reg, decide_eq_true rfl]; rfl
end Go.Proofs.YtagfedbdakmlgaaDoor

/-! EqualC -/
namespace Go.Proofs.YtagfedbdakmlgaaDoor
set_option linter.unusedVariables false
set_option linter.unusedSimpArgs false
open Go.RowKit
def Com.aggV (c : Com) : Value := .agg #[.int .i64 c.id, .int .i64 c.ev, .int .i64 c.fr, .int .i64 c.til, .string c.author, .string c.text, .bool c.done, .bool c.lost]
theorem neq_com (a b : Com) (w : World) : (binOp .neq 31 a.aggV b.aggV).run Tryd.prog w = .ok (.bool (!decide (a = b))) w := by
  obtain ⟨id, ev, fr, tl, au, tx, dn, lo⟩ := a
  obtain ⟨id', ev', fr', tl', au', tx', dn', lo'⟩ := b
  unfold Com.aggV
  dsimp only
  go_simp
  simp only [toList_inj]
  repeat' split
  all_goals simp_all
theorem neq_com_yes (a b : Com) (h : ¬ a = b) (w : World) : (binOp .neq 31 a.aggV b.aggV).run Tryd.prog w = .ok (.bool true) w := by rw [neq_com, decide_eq_false h]; rfl
theorem neq_com_no (a : Com) (w : World) : (binOp .neq 31 a.aggV a.aggV).run Tryd.prog w = .ok (.bool false) w := by rw [neq_com, decide_eq_true rfl]; rfl
end Go.Proofs.YtagfedbdakmlgaaDoor

/-! EqualF -/
namespace Go.Proofs.YtagfedbdakmlgaaDoor
set_option linter.unusedVariables false
set_option linter.unusedSimpArgs false
open Go.RowKit
end Go.Proofs.YtagfedbdakmlgaaDoor

/-! DSame -/
namespace Go.Proofs.YtagfedbdakmlgaaDoor
set_option linter.unusedVariables false
set_option linter.unusedSimpArgs false
open Go.RowKit
def Doc.hd (d : Doc) : ByteArray × ByteArray × Int × Bool × Int := (d.title, d.lang, d.rate, d.drop, d.last)
def sameDoc (a b : Doc) : Bool := decide (a.hd = b.hd) && (decide (a.regs = b.regs) && (decide (a.evs = b.evs) && decide (a.coms = b.coms)))
theorem sameDoc_self (a : Doc) : sameDoc a a = true := by simp [sameDoc]
end Go.Proofs.YtagfedbdakmlgaaDoor
