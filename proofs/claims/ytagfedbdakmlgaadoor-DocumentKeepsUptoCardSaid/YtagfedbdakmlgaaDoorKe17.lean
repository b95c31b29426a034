/- Laid together: The plain law of EventReturns: the parts of a valid event are valid, share its frames and rows, and give it back when they are joined. No walk here. Events moved in time, plainly; a cell of an event of one's own is stored. A document with an event in the place of another, plainly; the stores of whole rows. Rows of one's own under an append with room and a clear. The walk of slices.Delete of events: one element. The walk of slices.Delete of comments: one element. The walk of comment.Remove. The walk of document.Remove. The walk of the reference's lose. The walk of the reference's Name. The walks of the reference's regions: Default, Check. The walks of the reference's regions: usable, Find, CheckList. The walk of the reference's Place. The walk of the reference's neat. The walks of the reference's rows: Valid, Len, Plain. The walk of the reference's check of a row. The walk of the reference's check of an event. The walk of the reference's checkHead. The walk of the reference's Len of an event. The walk of the reference's checkComment. The walk of the reference's check of a document. The walk of the reference's Remove. The walk of the reference's Sort. -/
import Derived.Test.YtagfedbdakmlgaaDoorKe04
import Derived.Test.YtagfedbdakmlgaaDoorKe16
import Derived.Test.YtagfedbdakmlgaaDoorKe14
import Derived.Test.YtagfedbdakmlgaaDoorKe13
import Derived.Test.YtagfedbdakmlgaaDoorKe02
import Derived.Test.YtagfedbdakmlgaaDoorKe07
import Derived.Test.YtagfedbdakmlgaaDoorKe05
import Derived.Test.YtagfedbdakmlgaaDoorKe03
import Derived.Test.YtagfedbdakmlgaaDoorKe15
import Derived.Test.YtagfedbdakmlgaaDoorKe09
import Derived.Test.YtagfedbdakmlgaaDoorKe08

/-! RetPlain -/
namespace Go.Proofs.YtagfedbdakmlgaaDoor
set_option linter.unusedVariables false
set_option linter.unusedSimpArgs false
open Go.RowKit
theorem lensErr_zero {r : Reg} : ∀ {l : List Int}, r.lensErr l = 0 → ∀ x ∈ l, 0 ≤ x ∧ x ≤ r.width
  | [], _, x, hx => by cases hx
  | n :: l, h, x, hx => by
    unfold Reg.lensErr at h
    split at h
    · omega
    · split at h
      · omega
      · rcases List.mem_cons.1 hx with rfl | hx
        · omega
        · exact lensErr_zero h x hx
theorem rowsErr_zero : ∀ {l : List Row}, rowsErr l = 0 → ∀ r ∈ l, rowErrE r = 0
  | [], _, r, hr => by cases hr
  | x :: l, h, r, hr => by
    unfold rowsErr at h
    split at h
    · rename_i hx
      rcases List.mem_cons.1 hr with rfl | hr
      · exact hx
      · exact rowsErr_zero h r hr
    · rename_i hx; exact absurd h hx
/-- what a valid event is -/
structure Ev.Ok (e : Ev) (regs : List Reg) : Prop where
  id1 : 1 ≤ e.id
  id2 : e.id ≤ 1099511627776
  span : spansB e.inn e.out = true
  found : ∃ r, findR regs e.region = some r ∧ r.usable = true ∧ (e.rows.length : Int) ≤ r.height ∧ ∀ x ∈ e.rows, 0 ≤ rowLen x ∧ rowLen x ≤ r.width
  kind : noKind e.kind = false
  name : ¬ (e.speaker.toList.isEmpty = false ∧ nameB e.speaker = false)
  some_ : e.rows.length ≠ 0
  few : e.rows.length ≤ 4
  rows : ∀ r ∈ e.rows, rowErrE r = 0
theorem Ev.ok_of {e : Ev} {regs : List Reg} (h : e.err regs = 0) : e.Ok regs := by
  unfold Ev.err at h
  split at h
  · omega
  · rename_i h1
    split at h
    · omega
    · rename_i r hr
      split at h
      · omega
      · rename_i h2
        split at h
        · omega
        · rename_i h3
          split at h
          · omega
          · rename_i h4
            split at h
            · rename_i h5; exact absurd h h5
            · rename_i h5
              unfold Reg.place at h
              split at h
              · omega
              · rename_i h6
                split at h
                · omega
                · rename_i h7
                  have hz := lensErr_zero h
                  refine ⟨by omega, by omega, by cases hs : spansB e.inn e.out <;> simp_all, ⟨r, hr, by simpa using h6, by simpa using h7, fun x hx => hz _ (List.mem_map.2 ⟨x, hx, rfl⟩)⟩, by simpa using h2, h3, by omega, by omega, rowsErr_zero (by simpa using h5)⟩
/-- an event with some of the rows of a valid one -/
theorem Ev.Ok.part {e f : Ev} {regs : List Reg} (h : e.Ok regs) (h1 : 1 ≤ f.id) (h2 : f.id ≤ 1099511627776) (h3 : spansB f.inn f.out = true) (hr : f.region = e.region) (hk : f.kind = e.kind) (hs : f.speaker = e.speaker) (hl : f.rows.length ≠ 0) (hle : f.rows.length ≤ e.rows.length) (hsub : ∀ r ∈ f.rows, r ∈ e.rows) : f.Ok regs := by
  obtain ⟨_, _, _, ⟨r, hr', hu, hh, hw⟩, h4, h5, h6, h7, h8⟩ := h
  exact ⟨h1, h2, h3, ⟨r, by rw [hr]; exact hr', hu, by omega, fun x hx => hw x (hsub x hx)⟩, by rw [hk]; exact h4, by rw [hs]; exact h5, hl, by omega, fun x hx => h8 x (hsub x hx)⟩
theorem lenSum_of : ∀ {l : List Int} (s : Int), (∀ x ∈ l, 0 ≤ x) → lenSum s l = s + l.sum
  | [], s, _ => by simp [lenSum]
  | n :: l, s, h => by
    have h1 := h n (List.mem_cons_self ..)
    unfold lenSum
    rw [if_neg (by omega), lenSum_of (s + n) fun x hx => h x (List.mem_cons_of_mem _ hx), List.sum_cons]
    omega
theorem Ev.Ok.len {e : Ev} {regs : List Reg} (h : e.Ok regs) : e.len = (e.rows.length : Int) - 1 + (e.rows.map rowLen).sum := by
  obtain ⟨_, _, _, hw⟩ := h.found
  unfold Ev.len
  rw [lenSum_of _ (fun x hx => by obtain ⟨y, hy, rfl⟩ := List.mem_map.1 hx; exact (hw.2 y hy).1)]
  have := h.some_
  omega
theorem Ev.Ok.frames {e : Ev} {regs : List Reg} (h : e.Ok regs) : e.frames = e.out - e.inn := by unfold Ev.frames; rw [if_pos h.span]
end Go.Proofs.YtagfedbdakmlgaaDoor

/-! ShP -/
namespace Go.Proofs.YtagfedbdakmlgaaDoor
set_option linter.unusedVariables false
set_option linter.unusedSimpArgs false
open Go.RowKit
def Ev.mv (fr sh : Int) (e : Ev) : Ev := if e.inn < fr then e else ⟨e.id, e.inn + sh, e.out + sh, e.region, e.kind, e.speaker, e.rows⟩
def Ev.mvBad (fr sh : Int) (e : Ev) : Bool := decide (¬ e.inn < fr ∧ (e.inn + sh < 0 ∨ 5184000 < e.out + sh))
def Doc.withEvs (d : Doc) (l : List Ev) : Doc := ⟨d.title, d.lang, d.rate, d.drop, d.last, d.regs, l, d.coms⟩
/-- what Shift comes to -/
def Doc.shX (d : Doc) (fr sh : Int) : DE :=
  if d.err ≠ 0 then (Doc.zero, d.err) else if sh < -5184000 ∨ 5184000 < sh then (Doc.zero, 2) else if d.evs.any (Ev.mvBad fr sh) = true then (Doc.zero, 2) else (d.withEvs (srtE (d.evs.map (Ev.mv fr sh))), 0)
section
variable {d : Doc} {fr sh : Int}
theorem sh_1 (h : d.err ≠ 0) : d.shX fr sh = (Doc.zero, d.err) := by unfold Doc.shX; rw [if_pos h]
theorem sh_2 (h : d.err = 0) (h2 : sh < -5184000 ∨ 5184000 < sh) : d.shX fr sh = (Doc.zero, 2) := by unfold Doc.shX; rw [if_neg (by simpa using h), if_pos h2]
theorem sh_3 (h : d.err = 0) (h3 : d.evs.any (Ev.mvBad fr sh) = true) : d.shX fr sh = (Doc.zero, 2) := by
  unfold Doc.shX; rw [if_neg (by simpa using h)]
  rw [if_pos h3]
  split <;> rfl
theorem sh_4 (h : d.err = 0) (h2 : ¬ (sh < -5184000 ∨ 5184000 < sh)) (h3 : d.evs.any (Ev.mvBad fr sh) = false) : d.shX fr sh = (d.withEvs (srtE (d.evs.map (Ev.mv fr sh))), 0) := by unfold Doc.shX; rw [if_neg (by simpa using h), if_neg h2, if_neg (by rw [h3]; decide)]
theorem evs_in {k : Nat} {e : Ev} (h : d.err = 0) (hk : d.evs[k]? = some e) : 0 ≤ e.inn ∧ e.inn < e.out ∧ e.out ≤ 5184000 := by
  have h1 := (Ev.ok_of (evs_ok (doc_ok h).2.2.2.1 k e hk).1).span
  unfold spansB at h1
  exact of_decide_eq_true h1
theorem mv_bad {k : Nat} {e : Ev} (hk : d.evs[k]? = some e) (h : Ev.mvBad fr sh e = true) : d.evs.any (Ev.mvBad fr sh) = true := List.any_eq_true.2 ⟨e, List.mem_of_getElem? hk, h⟩
end
theorem any_next {α : Type} {p : α → Bool} {l : List α} {k : Nat} {x : α} (hk : l[k]? = some x) (h : (l.take k).any p = false) (hx : p x = false) : (l.take (k + 1)).any p = false := by
  rw [take_snoc' l k x hk, List.any_append, h, List.any_cons, hx]; rfl
theorem upd_step {α : Type} (f : α → α) (l : List α) (i : Nat) (c : α) (h : l[i]? = some c) : ((l.take i).map f ++ l.drop i)[i]? = some c ∧ ∀ c' : α, ((l.take i).map f ++ l.drop i).set i c' = (l.take i).map f ++ c' :: l.drop (i + 1) := by
  have hi := (List.getElem?_eq_some_iff.1 h).1
  have hl : ((l.take i).map f).length = i := by rw [List.length_map, List.length_take]; omega
  constructor
  · rw [List.getElem?_append_right (by omega), hl, Nat.sub_self, drop_at l i c h]; rfl
  · intro c'
    rw [List.set_append_right _ _ (by omega), hl, Nat.sub_self, drop_at l i c h]
    rfl
theorem upd_next {α : Type} (f : α → α) (l : List α) (i : Nat) (c : α) (h : l[i]? = some c) : (l.take (i + 1)).map f ++ l.drop (i + 1) = (l.take i).map f ++ f c :: l.drop (i + 1) := by
  rw [take_snoc' l i c h, List.map_append, List.append_assoc]
  rfl
/-- one cell of a head is stored: the event's rows stay -/
theorem EvsOwn.set1 {w : World} {L g n c k j : Nat} {e e' : Ev} {u : Value} {l : List Ev} (h : EvsOwn w L (.slice (some ⟨g, 0, none⟩) n c) n l) (he : l[k]? = some e) (hv : ∀ (A : Option Addr) (n c : Nat), (EH.of e' A n c).vals = (EH.of e A n c).vals.set j u) (hr : e'.rows = e.rows) (hj : j < 7) :
    EvsOwn (w.setCell ⟨g, k * 7 + j, none⟩ u) L (.slice (some ⟨g, 0, none⟩) n c) n (l.set k e') := by
  obtain ⟨hs, h1, h2, h3, h4⟩ := h
  have hk := (List.getElem?_eq_some_iff.1 he).1
  have hty : Typed w 45 g := own_typed h1 g rfl
  obtain ⟨x, hx⟩ : ∃ x, hs[k]? = some x := ⟨_, List.getElem?_eq_getElem (by omega)⟩
  have hg := h4 k x e hx he
  have k1 : KB 61 w (w.setCell ⟨g, k * 7 + j, none⟩ u) := KB.set hty (by decide)
  have k2 : KB 66 w (w.setCell ⟨g, k * 7 + j, none⟩ u) := KB.set hty (by decide)
  refine ⟨hs.set k (EH.of e' x.A x.n x.c), ?_, by simpa using h2, by simpa using h3, fun i y z hy hz => ?_⟩
  · rw [← flat_set EH.len hs k j x (EH.of e' x.A x.n x.c) u hx (by rw [hv x.A x.n x.c, ← hg.1]) hj]
    exact (h1.stored (k * 7 + j) u).1
  · by_cases hik : k = i
    · subst hik
      rw [List.getElem?_set_self (by omega)] at hy hz
      cases hy
      cases hz
      have hg' : EGood w L (EH.of e' x.A x.n x.c) e' := ⟨rfl, hg.2.1, hg.2.2.1, by rw [hr]; exact hg.2.2.2⟩
      exact hg'.kb k1 k2
    · rw [List.getElem?_set_ne hik] at hy hz
      exact (h4 i y z hy hz).kb k1 k2
theorem DocOwn.ev_cell {w : World} {L k j g : Nat} {d : Doc} {h : DocH} {e : Ev} {u : Value} (o : DocOwn w L d h) (hea : h.ea = some ⟨g, 0, none⟩) (he : d.evs[k]? = some e) (hu : ∀ (A : Option Addr) (n c : Nat), (EH.of e A n c).vals[j]? = some u) : w.cell? ⟨g, k * 7 + j, none⟩ = some u ∧ w.frozen? ⟨g, k * 7 + j, none⟩ = false := by
  have hj : j < 7 := (List.getElem?_eq_some_iff.1 (hu none 0 0)).1
  obtain ⟨hs, h1, h2, h3, h4⟩ := o.evs
  rw [hea] at h1
  have hty : Typed w 45 g := own_typed h1 g rfl
  have hk := (List.getElem?_eq_some_iff.1 he).1
  obtain ⟨x, hx⟩ : ∃ x, hs[k]? = some x := ⟨_, List.getElem?_eq_getElem (by omega)⟩
  have hg := h4 k x e hx he
  refine ⟨?_, hty.frozen _⟩
  rw [h1.cellAt (k * 7 + j) (by omega), flatMap_at EH.vals 7 EH.len hs k x j hx hj, hg.1]
  exact hu _ _ _
theorem DocOwn.ev_set {w : World} {L k j g : Nat} {d : Doc} {h : DocH} {e e' : Ev} {u : Value} (o : DocOwn w L d h) (hea : h.ea = some ⟨g, 0, none⟩) (he : d.evs[k]? = some e) (hv : ∀ (A : Option Addr) (n c : Nat), (EH.of e' A n c).vals = (EH.of e A n c).vals.set j u) (hr : e'.rows = e.rows) (hj : j < 7) :
    DocOwn (w.setCell ⟨g, k * 7 + j, none⟩ u) L (d.withEvs (d.evs.set k e')) h ∧ w.grownBy (w.setCell ⟨g, k * 7 + j, none⟩ u) (some g) := by
  obtain ⟨a1, a2, a3, a4, a5⟩ := o
  rw [hea] at a3
  obtain ⟨hs, h1, -⟩ := id a3
  have hT : Typed w 45 g := own_typed h1 g rfl
  have hkb : ∀ {T : TypeId}, T ≠ 45 → KB T w (w.setCell ⟨g, k * 7 + j, none⟩ u) := fun hne => KB.set hT hne
  refine ⟨⟨own_kb a1 (hkb (by decide)), a2, ?_, own_kb a4 (hkb (by decide)), a5⟩, (h1.stored (k * 7 + j) u).2⟩
  rw [hea]
  exact a3.set1 he hv hr hj
end Go.Proofs.YtagfedbdakmlgaaDoor

/-! PutP -/
namespace Go.Proofs.YtagfedbdakmlgaaDoor
set_option linter.unusedVariables false
set_option linter.unusedSimpArgs false
open Go.RowKit
def Ev.chars (e : Ev) : List Int := runes ⟨e.text.toArray⟩ 0
def Com.onto (id : Int) (a b : List Int) (c : Com) : Com := if c.ev = id then c.fol a b else c
def Doc.putD (d : Doc) (e x : Ev) (k : Nat) : Doc := ⟨d.title, d.lang, d.rate, d.drop, d.last, d.regs, srtE (d.evs.set k e), d.coms.map (Com.onto e.id x.chars e.chars)⟩
/-- what Put comes to -/
def Doc.putX (d : Doc) (e : Ev) : DE :=
  if d.err ≠ 0 then (Doc.zero, d.err) else match findE d.evs e.id with
    | none => (Doc.zero, 6)
    | some k => if e.err d.regs ≠ 0 then (Doc.zero, e.err d.regs) else match d.evs[k]? with
      | none => (Doc.zero, 6)
      | some x => (d.putD e x k, 0)
section
variable {d : Doc} {e x : Ev} {k : Nat}
theorem put_1 (h : d.err ≠ 0) : d.putX e = (Doc.zero, d.err) := by unfold Doc.putX; rw [if_pos h]
theorem put_2 (h : d.err = 0) (h2 : findE d.evs e.id = none) : d.putX e = (Doc.zero, 6) := by unfold Doc.putX; rw [if_neg (by simpa using h), h2]
theorem put_3 (h : d.err = 0) (h2 : findE d.evs e.id = some k) (h3 : e.err d.regs ≠ 0) : d.putX e = (Doc.zero, e.err d.regs) := by unfold Doc.putX; rw [if_neg (by simpa using h), h2]; simp only; rw [if_pos h3]
theorem put_4 (h : d.err = 0) (h2 : findE d.evs e.id = some k) (h3 : e.err d.regs = 0) (h4 : d.evs[k]? = some x) : d.putX e = (d.putD e x k, 0) := by unfold Doc.putX; rw [if_neg (by simpa using h), h2]; simp only; rw [if_neg (by simpa using h3), h4]
end
theorem wp_call3v {P : Program} {o : Oper} {a : Act} {w : World} {K : Act → World → Prop} {Q : Exit → Act → World → Prop} {f : FuncId} {x0 x1 x2 : Operand} {ts : Array TypeId} {v0 v1 v2 v : Value} (ho : o.op = .call { callee := .value (.func f), args := #[x0, x1, x2], argTypes := ts })
    (h0 : a.eval x0 = v0) (h1 : a.eval x1 = v1) (h2 : a.eval x2 = v2) (hcall : ∀ args w, (callFunc f args).run P w = .ok (.enter f args) w) (hc : Calls P f #[v0, v1, v2] w fun e w' => e = .returned v ∧ Ext w w')
    (h : ∀ w', Ext w w' → K (a.put o.dst v) w') : o.wp P a w K Q := by
  have h9 : Calls P f #[v0, v1, v2] w (fun
      | .returned u, w'' => K (a.put o.dst u) w''
      | .panicked chain, w'' => Q (.panic chain) a w''
      | .outgrown, _ => LetsOut Q) := hc.mono fun en w' hr => by
    obtain ⟨rfl, hk⟩ := hr
    exact h w' hk
  unfold Oper.wp execOp
  simp only [ho]
  have hev : a.eval (.func f) = .func (.func f) #[] #[] := rfl
  simp [resolve, invoke, hev, h0, h1, h2, hcall, Sem.run_bind, Deferred.ofValue]
  exact h9
/-- calls of known answers, then one store of a whole row, in a drawn region -/
structure PutJ (vs : List Value) (g o : Nat) (cs : List Value) (W : World) (us : List Value) (w' : World) : Prop where
  few : us.length ≤ vs.length → Ext W w' ∧ us = vs.take us.length
  all : us.length = vs.length + 1 → ∃ w5, Ext W w5 ∧ w' = w5.setCells g o cs
section
variable {vs us : List Value} {g o : Nat} {cs : List Value} {W w' w2 : World} {u : Value}
theorem PutJ.start (W : World) : PutJ vs g o cs W [] W.drew := ⟨fun _ => ⟨(Ext.refl W).drew, by simp⟩, fun h => by simp at h⟩
theorem PutJ.ext (j : PutJ vs g o cs W us w') (h : us.length ≤ vs.length) : Ext W w' := (j.few h).1
theorem PutJ.call (j : PutJ vs g o cs W us w') (hu : vs[us.length]? = some u) (hx : Ext w' w2) : PutJ vs g o cs W (us ++ [u]) w2 := by
  have hl := (List.getElem?_eq_some_iff.1 hu).1
  obtain ⟨h1, h2⟩ := j.few (by omega)
  refine ⟨fun _ => ⟨h1.trans hx, ?_⟩, fun h => by rw [List.length_append, List.length_singleton] at h; omega⟩
  rw [List.length_append, List.length_singleton, take_snoc' vs us.length u hu, ← h2]
theorem PutJ.sto (j : PutJ vs g o cs W us w') (h : us.length = vs.length) : PutJ vs g o cs W (us ++ [u]) (w'.setCells g o cs) :=
  ⟨fun hh => by rw [List.length_append, List.length_singleton] at hh; omega, fun _ => ⟨w', j.ext (by omega), rfl⟩⟩
theorem PutJ.val (j : PutJ vs g o cs W us w') (h : us.length ≤ vs.length) : us = vs.take us.length := (j.few h).2
end
theorem own_sets_size {L size n cap g : Nat} {T : TypeId} : ∀ (vs : List Value) (j : Nat) (w : World) (xs : List Value), w.ownsRow L T size (.slice (some ⟨g, 0, none⟩) n cap) n xs → w.heap.size ≤ (w.setCells g j vs).heap.size
  | [], _, _, _, _ => Nat.le_refl _
  | v :: vs, j, w, xs, h => Nat.le_trans (h.stored j v).2.size (own_sets_size vs (j + 1) _ _ (h.stored j v).1)
/-- a comment of a document of one's own is stored whole -/
theorem DocOwn.com_sets {w : World} {L k g : Nat} {d : Doc} {h : DocH} {c c' : Com} (o : DocOwn w L d h) (hca : h.ca = some ⟨g, 0, none⟩) (hc : d.coms[k]? = some c) :
    DocOwn (w.setCells g (k * 8) c'.vals) L (d.withComs (d.coms.set k c')) h ∧ w.there g (k * 8) 8 ∧ (∀ {T : TypeId} (b : Nat) (cs : Array Value), T ≠ 31 → Blk w b T cs → Blk (w.setCells g (k * 8) c'.vals) b T cs) ∧ w.heap.size ≤ (w.setCells g (k * 8) c'.vals).heap.size := by
  obtain ⟨a1, a2, a3, a4, a5⟩ := o
  have hty := own_typed a4
  rw [hca] at a4 hty
  have hT : Typed w 31 g := hty g rfl
  have hk := (List.getElem?_eq_some_iff.1 hc).1
  have hkb : ∀ {T : TypeId}, T ≠ 31 → KB T w (w.setCells g (k * 8) c'.vals) := fun hne => KB.sets hne _ _ _ hT
  refine ⟨⟨own_kb a1 (hkb (by decide)), a2, a3.kb (hkb (by decide)) (hkb (by decide)) (hkb (by decide)), ?_, by show (d.coms.set k c').length = _; simpa using a5⟩, fun j hj => ?_, fun b cs hne hb => hkb hne _ _ hb, own_sets_size _ _ _ _ a4⟩
  · show World.ownsRow _ _ _ _ _ _ ((d.coms.set k c').flatMap Com.vals)
    rw [hca, ← flat_setMany (f := Com.vals) (size := 8) (fun _ => rfl) d.coms k c' hk]
    exact own_sets _ _ _ _ a4
  · have h8 : k * 8 + j < (d.coms.flatMap Com.vals).length := by rw [flatMap_len Com.vals 8 (fun _ => rfl)]; omega
    exact ⟨by rw [a4.cellAt (k * 8 + j) (by omega), List.getElem?_eq_getElem h8]; rfl, hT.frozen _⟩
/-- another event's head is stored into events of one's own: they are events -/
theorem DocOwn.ev_put {w : World} {L k g n c : Nat} {A : Option Addr} {d : Doc} {h : DocH} {e x : Ev} (o : DocOwn w L d h) (hea : h.ea = some ⟨g, 0, none⟩) (hx : d.evs[k]? = some x) (hat : EvAt (w.setCells g (k * 7) (e.cells A n c).toList) e A n c) :
    EvsAt (w.setCells g (k * 7) (e.cells A n c).toList) h.ea h.en (d.evs.set k e) ∧ w.there g (k * 7) 7 ∧ (∀ {T : TypeId}, T ≠ 45 → KB T w (w.setCells g (k * 7) (e.cells A n c).toList)) := by
  obtain ⟨hs, h1, h2, h3, h4⟩ := o.evs
  rw [hea] at h1 ⊢
  have hT : Typed w 45 g := own_typed h1 g rfl
  have hk := (List.getElem?_eq_some_iff.1 hx).1
  have hkb : ∀ {T : TypeId}, T ≠ 45 → KB T w (w.setCells g (k * 7) (e.cells A n c).toList) := fun hne => KB.sets hne _ _ _ hT
  have hown : (w.setCells g (k * 7) (e.cells A n c).toList).ownsRow L 45 7 (.slice (some ⟨g, 0, none⟩) h.en h.ec) h.en ((hs.set k (EH.of e A n c)).flatMap EH.vals) := by
    rw [← flat_setMany EH.len hs k (EH.of e A n c) (by omega)]
    exact own_sets _ _ _ _ h1
  obtain ⟨A6, c6, hv6, hc6, hm6, hsl6, -⟩ := own_sl (f := EH.vals) (size := 7) EH.len (by rw [List.length_set, h2]) hown
  cases hv6
  refine ⟨evsAt_heads hsl6 (by rw [List.length_set]; exact h3) (fun i y z hy hz => ?_), fun j hj => ?_, hkb⟩
  · by_cases hik : k = i
    · subst hik
      rw [List.getElem?_set_self (by omega)] at hy hz
      cases hy
      cases hz
      exact ⟨rfl, hat⟩
    · rw [List.getElem?_set_ne hik] at hy hz
      have hg := (h4 i y z hy hz).kb (hkb (by decide)) (hkb (by decide))
      exact ⟨hg.1, hg.at_⟩
  · have h8 : k * 7 + j < (hs.flatMap EH.vals).length := by rw [flatMap_len EH.vals 7 EH.len]; omega
    exact ⟨by rw [h1.cellAt (k * 7 + j) (by omega), List.getElem?_eq_getElem h8]; rfl, hT.frozen _⟩
end Go.Proofs.YtagfedbdakmlgaaDoor

/-! DelP -/
namespace Go.Proofs.YtagfedbdakmlgaaDoor
set_option linter.unusedVariables false
set_option linter.unusedSimpArgs false
open Go.RowKit
theorem setRow_put {w : World} {g : Nat} {t : TypeId} {cs cs' : Array Value} (h : Blk w g t cs) : w.setRow g cs' = putB w g t cs' := by
  unfold World.setRow putB
  congr 1
  apply Array.ext_getElem?
  intro i
  by_cases hi : g = i
  · subst hi
    rw [Array.getElem?_modify, if_pos rfl, h, Array.getElem?_setIfInBounds_self_of_lt h.lt]
    rfl
  · rw [Array.getElem?_modify, if_neg hi, Array.getElem?_setIfInBounds_ne hi]
/-- append where there is room, at a block that is known whole -/
theorem wp_append_room {P : Program} {o : Oper} {a : Act} {w : World} {K : Act → World → Prop} {Q : Exit → Act → World → Prop} (s x : Operand) (t : TypeId)
    (ho : o.op = .call { callee := .builtin .append, args := #[s, x], argTypes := #[t, t] }) {e : TypeId} {z : Value} {size bytes : Nat} (inf : (P.info? e).map (fun i => (i.zero, i.size, i.bytes)) = some (some z, size, bytes)) (ht : P.underlying t = some (.slice e))
    {g n cap : Nat} {cur : Array Value} (hB : Blk w g e cur) (hs : a.eval s = .slice (some ⟨g, 0, none⟩) n cap) {ad : Addr} {m c : Nat} {news : List Value} (hx : a.eval x = .slice (some ad) m c) (hl : news.length = m * size) (hnews : ∀ j u, news[j]? = some u → w.cell? (ad.add j) = some u)
    (h1 : ∀ u ∈ news, u.oneCell' = true) (hroom : n + m ≤ cap) (hfit : n * size + news.length ≤ cur.size)
    (h : K (a.put o.dst (.slice (some ⟨g, 0, none⟩) (n + m) cap)) (putB w g e (cur.toList.take (n * size) ++ news ++ cur.toList.drop (n * size + news.length)).toArray)) : o.wp P a w K Q := by
  obtain ⟨i, hi, hz0, hz1, hz2⟩ := info_parts inf
  subst hz1
  have hrun := run_append_room (P := P) w t o.type e i ht hi g n cap cur hB ad m c news hl hnews h1 hroom hfit
  rw [setRow_put hB] at hrun
  unfold Oper.wp execOp
  simp only [ho, resolve, invoke, builtin, Sem.run_bind, Sem.run_pure, Result.andThen_ok, List.map_toArray, List.map_cons, List.map_nil, hs, hx, hrun]
  exact h
theorem zeroCells_one (z : Array Value) (n : Nat) (h : z.all (·.oneCell') = true) : ∀ u ∈ (Builtin.zeroCells z n).toList, u.oneCell' = true := by
  intro u hu
  unfold Builtin.zeroCells at hu
  rw [Array.mem_toList_iff, Array.mem_map] at hu
  obtain ⟨i, hi, rfl⟩ := hu
  cases hz : z.size with
  | zero => rw [Array.mem_range] at hi; rw [hz] at hi; simp at hi
  | succ m =>
    have hlt : i % z.size < z.size := Nat.mod_lt _ (by omega)
    rw [hz] at hlt
    rw [getElem!_pos z (i % (m + 1)) (by omega)]
    exact (Array.all_eq_true_iff_forall_mem.1 h) _ (Array.getElem_mem _)
/-- clear, at a block that is known whole: what lies ahead stays -/
theorem run_clear_blk {P : Program} {w : World} {t e ty : TypeId} {z : Value} (ht : P.underlying t = some (.slice e)) (hv : ∀ w, (zeroValue e).run P w = .ok z w) (h1 : z.cells.all (·.oneCell') = true) {g o n c : Nat} {cur : Array Value} (hB : Blk w g e cur) (hfit : o + n * z.cells.size ≤ cur.size) :
    ∃ cur' : Array Value, cur'.size = cur.size ∧ cur'.toList.take o = cur.toList.take o ∧ (Builtin.clear_ #[t] ty #[.slice (some ⟨g, o, none⟩) n c]).run P w = .ok (.tuple #[]) (putB w g e cur') := by
  cases n with
  | zero =>
    refine ⟨cur, rfl, rfl, ?_⟩
    rw [putB_same hB]
    simp [Builtin.clear_, run_underlying ht]
  | succ n =>
    have hsz : (Builtin.zeroCells z.cells (n + 1)).toList.length = (n + 1) * z.cells.size := by simp [Builtin.zeroCells]
    have hst := run_storeCells_at P g o e (Builtin.zeroCells z.cells (n + 1)).toList 0 cur w hB (by rw [hsz]; simpa using hfit) (zeroCells_one _ _ h1)
    simp only [Nat.add_zero] at hst
    rw [setRow_put hB] at hst
    refine ⟨(cur.toList.take o ++ (Builtin.zeroCells z.cells (n + 1)).toList ++ cur.toList.drop (o + (Builtin.zeroCells z.cells (n + 1)).toList.length)).toArray, ?_, ?_, ?_⟩
    · simp [Builtin.zeroCells]; omega
    · rw [List.append_assoc, List.take_append_of_le_length (by simp; omega), List.take_take, Nat.min_self]
    · simp [Builtin.clear_, run_underlying ht, hv, hst]
end Go.Proofs.YtagfedbdakmlgaaDoor

/-! DelE -/
namespace Go.Proofs.YtagfedbdakmlgaaDoor
set_option linter.unusedVariables false
set_option linter.unusedSimpArgs false
open Go.RowKit
/-- an append in place, then its assignment, in a drawn region -/
structure DelJe (g : Nat) (cur2 : Array Value) (v : Value) (W : World) (us : List Value) (w' : World) : Prop where
  nil : us = [] → Ext W w'
  val : ∀ u, us = [u] → u = v
  vals : ∀ u u1, us = [u, u1] → u = v ∧ u1 = v
  one : us ≠ [] → ∃ w5, Ext W w5 ∧ w' = putB w5 g 45 cur2
section
variable {g : Nat} {cur2 : Array Value} {v : Value} {W w' : World}
theorem DelJe.start (W : World) : DelJe g cur2 v W [] W.drew := ⟨fun _ => (Ext.refl W).drew, fun u h => by simp at h, fun u u1 h => by simp at h, fun h => absurd rfl h⟩
theorem DelJe.app (h : DelJe g cur2 v W [] w') : DelJe g cur2 v W ([] ++ [v]) (putB w' g 45 cur2) := ⟨fun h => by simp at h, fun u h => by simpa using h.symm, fun u u1 h => by simp at h, fun _ => ⟨w', h.nil rfl, rfl⟩⟩
theorem DelJe.asg (h : DelJe g cur2 v W [v] w') : DelJe g cur2 v W ([v] ++ [v]) w' := ⟨fun h => by simp at h, fun u h => by simp at h, fun u u1 h => by simp at h; exact ⟨h.1.symm, h.2.symm⟩, fun _ => h.one (by simp)⟩
end
theorem zero_evt (w : World) : (zeroValue 45).run Tryd.prog w = .ok (.agg #[.int .i64 0, .int .i64 0, .int .i64 0, .string ⟨#[]⟩, .int .u8 0, .string ⟨#[]⟩, .slice none 0 0]) w := by kernel_rfl
set_option maxRecDepth 100000 in
set_option maxHeartbeats 4000000 in
theorem EDel_any {w : World} {L g n c k : Nat} {l : List EH} (hown : w.ownsRow L 45 7 (.slice (some ⟨g, 0, none⟩) n c) n (l.flatMap EH.vals)) (hl : l.length = n) (hk : k < n) :
    Calls Tryd.prog 39 #[.slice (some ⟨g, 0, none⟩) n c, .int .i64 (k : Int), .int .i64 ((k : Int) + 1)] w fun en w' => en = .returned (.slice (some ⟨g, 0, none⟩) (n - 1) c) ∧ w'.ownsRow L 45 7 (.slice (some ⟨g, 0, none⟩) (n - 1) c) (n - 1) ((l.take k ++ l.drop (k + 1)).flatMap EH.vals) ∧
      ∃ cur w2 cur', Blk w g 45 cur ∧ Ext w w2 ∧ w' = putB w2 g 45 cur' := by
  rcases hown.2 with ⟨hv, hn⟩ | ⟨g', cap, cur, hv, hg, hb, hnc, hcm, hcs, ht⟩
  · omega
  cases hv
  have hB : Blk w g 45 cur := hb
  have hsrc0 : (l.drop (k + 1)).flatMap EH.vals = (l.flatMap EH.vals).drop ((k + 1) * 7) := (flatMap_drop (f := EH.vals) (s := 7) (fun _ => rfl) l (k + 1)).symm
  obtain ⟨news, hnews⟩ : ∃ news, news = (l.drop (k + 1)).flatMap EH.vals := ⟨_, rfl⟩
  have hlen : news.length = (n - (k + 1)) * 7 := by rw [hnews, flatMap_len EH.vals 7 (fun _ => rfl), List.length_drop, hl]
  have hcell : ∀ j u, news[j]? = some u → w.cell? ⟨g, (k + 1) * 7 + j, none⟩ = some u := fun j u hu => by
    have hj : j < (n - (k + 1)) * 7 := by rw [← hlen]; exact (List.getElem?_eq_some_iff.1 hu).1
    rw [hown.cellAt ((k + 1) * 7 + j) (by omega), ← List.getElem?_drop, ← hsrc0, ← hnews, hu]
  obtain ⟨A, hA, hsrc⟩ : ∃ A : Addr, (if c = k + 1 then (some ⟨g, 0, none⟩ : Option Addr) else some ⟨g, (k + 1) * 7, none⟩) = some A ∧ (∀ j u, news[j]? = some u → w.cell? (A.add j) = some u) := by
    by_cases h : c = k + 1
    · refine ⟨⟨g, 0, none⟩, by rw [if_pos h], fun j u hu => ?_⟩
      have h0 : news.length = 0 := by rw [hlen]; omega
      rw [List.length_eq_zero_iff.1 h0] at hu
      simp at hu
    · exact ⟨⟨g, (k + 1) * 7, none⟩, by rw [if_neg h], fun j u hu => by rw [Addr.add_mid]; exact hcell j u hu⟩
  have HB := Lib.hid hB
  have HLn := Lib.hid hlen
  have HSrc := Lib.hid hsrc
  have HOne : Hid (∀ u ∈ news, u.oneCell' = true) := by
    show ∀ u ∈ news, _
    rw [hnews]
    exact flatMap_one EH.ones _
  have HFit : Hid (k * 7 + news.length ≤ cur.size) := by show _ ≤ _; rw [hlen, hcs]; omega
  obtain ⟨cur2, hcur2⟩ : ∃ cur2, cur2 = (cur.toList.take (k * 7) ++ news ++ cur.toList.drop (k * 7 + news.length)).toArray := ⟨_, rfl⟩
  have hcs2 : cur2.size = cur.size := by
    have := HFit.out
    rw [hcur2]; simp; omega
  obtain ⟨w2, hw2⟩ : ∃ w2, w2 = w := ⟨_, rfl⟩
  have hne : ((k : Int) == (k : Int) + 1) = false := by simp; omega
  have hkc : k ≤ c := by omega
  have hk1 : k + 1 ≤ c := by omega
  have hbd : 0 ≤ (k : Int) + 1 ∧ (k : Int) + 1 ≤ (n : Int) := by omega
  go_enter Tryd.func39, Tryd.ntmps39
  go_upto_region 5 with fail
  rw [← hw2] at HB HSrc ⊢
  have HC2 := Lib.hid hcur2
  have HD := Lib.hid hnews
  have HW2 := Lib.hid hw2
  have HT := Lib.hid ht
  have HBo := Lib.hid hB
  clear hcur2 hnews hsrc hcell hsrc0 hlen hw2 hown ht hb hB
  refine wp_region_links [some 20, some 21, some 22, some 23, some 24, some 25, some 26, some 0] [[], [], [0, 1], [], [], [3, 4], [2, 5], [6, 6, 0, 1, 2, 3, 4, 5, 6]] [6, 7] [.slice (some ⟨g, 0, none⟩) n c, .int .i64 (k : Int), .slice (some ⟨g, 0, none⟩) k c, .slice (some ⟨g, 0, none⟩) n c, .int .i64 ((k : Int) + 1), .slice (some A) (n - (k + 1)) (c - (k + 1)), undef, undef] (DelJe g cur2 (.slice (some ⟨g, 0, none⟩) (k + (n - (k + 1))) c) w2) (by kernel_rfl) (by kernel_rfl) (by kernel_rfl) (by kernel_rfl) (by kernel_rfl) (by kernel_rfl) (by kernel_rfl) (by decide) ?_ ?_ ?_ ?_
  · exact DelJe.start w2
  · intro i o ho hc a w' us K' hJ hF hlim hk
    match i, ho with
    | 0, ho =>
      simp only [List.getElem?_toArray, List.getElem?_cons_zero, List.getElem?_cons_succ, Option.some.injEq] at ho
      subst ho
      have e0 := hF.olds 1 7 0 (.slice (some ⟨g, 0, none⟩) n c) rfl rfl (hlim 1 7 rfl rfl) rfl
      simp only [Act.eval] at e0
      clear hF hlim hJ
      go_simp
      exact hk
    | 1, ho =>
      simp only [List.getElem?_toArray, List.getElem?_cons_zero, List.getElem?_cons_succ, Option.some.injEq] at ho
      subst ho
      have e1 := hF.old 1 (.int .i64 (k : Int)) rfl rfl
      simp only [Act.eval] at e1
      clear hF hlim hJ
      go_simp
      exact hk
    | 2, ho =>
      simp only [List.getElem?_toArray, List.getElem?_cons_zero, List.getElem?_cons_succ, Option.some.injEq] at ho
      subst ho
      have e20 := hF.pure 0 20 (.slice (some ⟨g, 0, none⟩) n c) rfl rfl rfl rfl
      have e21 := hF.pure 1 21 (.int .i64 (k : Int)) rfl rfl rfl rfl
      simp only [Act.eval] at e20 e21
      clear hF hlim hJ
      go_simp
      exact hk
    | 3, ho =>
      simp only [List.getElem?_toArray, List.getElem?_cons_zero, List.getElem?_cons_succ, Option.some.injEq] at ho
      subst ho
      have e0 := hF.olds 1 7 0 (.slice (some ⟨g, 0, none⟩) n c) rfl rfl (hlim 1 7 rfl rfl) rfl
      simp only [Act.eval] at e0
      clear hF hlim hJ
      go_simp
      exact hk
    | 4, ho =>
      simp only [List.getElem?_toArray, List.getElem?_cons_zero, List.getElem?_cons_succ, Option.some.injEq] at ho
      subst ho
      have e2 := hF.old 2 (.int .i64 ((k : Int) + 1)) rfl rfl
      simp only [Act.eval] at e2
      clear hF hlim hJ
      go_simp
      exact hk
    | 5, ho =>
      simp only [List.getElem?_toArray, List.getElem?_cons_zero, List.getElem?_cons_succ, Option.some.injEq] at ho
      subst ho
      have e23 := hF.pure 3 23 (.slice (some ⟨g, 0, none⟩) n c) rfl rfl rfl rfl
      have e24 := hF.pure 4 24 (.int .i64 ((k : Int) + 1)) rfl rfl rfl rfl
      simp only [Act.eval] at e24 e23
      clear hF hlim hJ
      go_simp
      exact hk
    | 6, ho => simp at hc
    | 7, ho => simp at hc
    | i + 8, ho => simp at ho
  · intro p c' o hp ho a w' us K' hl hJ hF hk
    match p, hp with
    | 0, hp =>
      obtain rfl : 6 = c' := by simpa using hp
      simp only [List.getElem?_toArray, List.getElem?_cons_zero, List.getElem?_cons_succ, Option.some.injEq] at ho
      subst ho
      obtain rfl : us = [] := List.eq_nil_of_length_eq_zero hl
      have e22 := hF.pure 2 22 (.slice (some ⟨g, 0, none⟩) k c) rfl rfl rfl rfl
      have e25 := hF.pure 5 25 (.slice (some A) (n - (k + 1)) (c - (k + 1))) rfl rfl rfl rfl
      exact wp_append_room (.tmp 22) (.tmp 25) 36 rfl info_evtI Tryd.underlying36 (HB.out.ext (hJ.nil rfl)) e22 e25 HLn.out (fun j u hu => (hJ.nil rfl).cell (HSrc.out j u hu)) HOne.out (by omega) HFit.out (by rw [← HC2.out]; exact hk _ _ hJ.app)
    | 1, hp =>
      obtain rfl : 7 = c' := by simpa using hp
      simp only [List.getElem?_toArray, List.getElem?_cons_zero, List.getElem?_cons_succ, Option.some.injEq] at ho
      subst ho
      obtain ⟨u0, rfl⟩ := list_1 hl
      obtain rfl := hJ.val u0 rfl
      have e26 := hF.link 0 6 26 _ rfl rfl rfl rfl
      exact wp_assignx _ _ rfl e26 (hk _ _ hJ.asg)
    | p + 2, hp => simp at hp
  intro us w5 hl hJ
  obtain ⟨u0, u1, rfl⟩ := list_2 hl
  first | (rename_i hK; refine hK _ _ ?_; clear hK) | (rename_i hK hK_1; refine hK _ _ ?_; clear hK) | (rename_i hK hK_1 hK_2; refine hK _ _ ?_; clear hK) | (rename_i hK hK_1 hK_2 hK_3; refine hK _ _ ?_; clear hK)
  generalize hL : frameL _ _ _ _ = L
  obtain rfl : L = [(20, .slice (some ⟨g, 0, none⟩) n c), (21, .int .i64 (k : Int)), (22, .slice (some ⟨g, 0, none⟩) k c), (23, .slice (some ⟨g, 0, none⟩) n c), (24, .int .i64 ((k : Int) + 1)), (25, .slice (some A) (n - (k + 1)) (c - (k + 1))), (26, u0), (0, u1)] := hL.symm.trans (by kernel_rfl)
  clear hL hl
  simp only [Act.put, List.foldl_cons, List.foldl_nil, List.setIfInBounds_toArray, List.set_cons_zero, List.set_cons_succ]

  obtain ⟨rfl, rfl⟩ := hJ.vals u0 u1 rfl
  obtain ⟨w9, hx9, rfl⟩ := hJ.one (by simp)
  clear hJ
  rw [show k + (n - (k + 1)) = n - 1 by omega]
  have hcl : n - 1 ≤ c := by omega
  have hcl2 : ¬ c = n - 1 := by omega
  have HB9 := Lib.hid ((HB.out.ext hx9).put cur2)
  have hcs3 := hcs2
  obtain ⟨cur', hz1, hz2, hrun⟩ := run_clear_blk (P := Tryd.prog) (w := putB w9 g 45 cur2) (t := 36) (e := 45) (ty := 0) (c := c - (n - 1)) (n := n - (n - 1)) (o := (n - 1) * 7) (g := g) (cur := cur2) Tryd.underlying36 zero_evt (by simp [Value.cells, Value.oneCell']) HB9.out (by show _ + _ * 7 ≤ _; omega)
  have HZ1 := Lib.hid hz1
  have HZ2 := Lib.hid hz2
  clear hz1 hz2
  go_wp2_with fail
  go_ret
  have hx' : Ext w w9 := by have := HW2.out; subst this; exact hx9
  refine ⟨rfl, ⟨?_, .inr ⟨g, c, cur', rfl, hg, ((HB.out.ext hx9).put cur2).put cur', by omega, hcm, by have := HZ1.out; omega, ?_⟩⟩, cur, w9, cur', HBo.out, hx', by rw [putB_putB]⟩
  · rw [flatMap_len EH.vals 7 (fun _ => rfl), List.length_append, List.length_take, List.length_drop, hl]
    omega
  · have e1 : cur.toList.take (k * 7) = (l.take k).flatMap EH.vals := by
      rw [← flatMap_take (f := EH.vals) (s := 7) (fun _ => rfl) l k, ← HT.out, List.take_take, Nat.min_eq_left (by omega)]
    rw [HZ2.out, HC2.out, HD.out, e1, List.flatMap_append]
    have e2 : ((l.take k).flatMap EH.vals ++ (l.drop (k + 1)).flatMap EH.vals).length = (n - 1) * 7 := by
      rw [← List.flatMap_append, flatMap_len EH.vals 7 (fun _ => rfl), List.length_append, List.length_take, List.length_drop, hl]
      omega
    rw [List.take_append_of_le_length (by rw [e2]; exact Nat.le_refl _), ← e2, List.take_length]
end Go.Proofs.YtagfedbdakmlgaaDoor

/-! DelC -/
namespace Go.Proofs.YtagfedbdakmlgaaDoor
set_option linter.unusedVariables false
set_option linter.unusedSimpArgs false
open Go.RowKit
/-- an append in place, then its assignment, in a drawn region -/
structure DelJ (g : Nat) (cur2 : Array Value) (v : Value) (W : World) (us : List Value) (w' : World) : Prop where
  nil : us = [] → Ext W w'
  val : ∀ u, us = [u] → u = v
  vals : ∀ u u1, us = [u, u1] → u = v ∧ u1 = v
  one : us ≠ [] → ∃ w5, Ext W w5 ∧ w' = putB w5 g 31 cur2
section
variable {g : Nat} {cur2 : Array Value} {v : Value} {W w' : World}
theorem DelJ.start (W : World) : DelJ g cur2 v W [] W.drew := ⟨fun _ => (Ext.refl W).drew, fun u h => by simp at h, fun u u1 h => by simp at h, fun h => absurd rfl h⟩
theorem DelJ.app (h : DelJ g cur2 v W [] w') : DelJ g cur2 v W ([] ++ [v]) (putB w' g 31 cur2) := ⟨fun h => by simp at h, fun u h => by simpa using h.symm, fun u u1 h => by simp at h, fun _ => ⟨w', h.nil rfl, rfl⟩⟩
theorem DelJ.asg (h : DelJ g cur2 v W [v] w') : DelJ g cur2 v W ([v] ++ [v]) w' := ⟨fun h => by simp at h, fun u h => by simp at h, fun u u1 h => by simp at h; exact ⟨h.1.symm, h.2.symm⟩, fun _ => h.one (by simp)⟩
end
end Go.Proofs.YtagfedbdakmlgaaDoor

/-! RemD -/
namespace Go.Proofs.YtagfedbdakmlgaaDoor
set_option linter.unusedVariables false
set_option linter.unusedSimpArgs false
open Go.RowKit
theorem DocOwn.com_at {w : World} {L k : Nat} {d : Doc} {h : DocH} (o : DocOwn w L d h) (hk : k < h.cn) : ∃ g, h.ca = some ⟨g, 0, none⟩ ∧ L ≤ g := by
  rcases o.coms.2 with ⟨hv, hn⟩ | ⟨g, cap, cur, hv, hg, hb, hnc, hcm, hcs, ht⟩
  · omega
  · exact ⟨g, by injection hv, hg⟩
end Go.Proofs.YtagfedbdakmlgaaDoor

/-! RemvD -/
namespace Go.Proofs.YtagfedbdakmlgaaDoor
set_option linter.unusedVariables false
set_option linter.unusedSimpArgs false
open Go.RowKit
def RemLoop (d : Doc) (k : Nat) (id : Int) (w : World) (h : DocH) (L : Nat) (cs : Array Value) (v : Value) (wr : World) : Prop :=
  ∃ i : Nat, i ≤ h.cn ∧ v = .int .i64 i ∧ Ext w wr ∧ Blk wr w.heap.size 39 cs ∧ Blk wr (w.heap.size + 1) 39 docZero ∧ DocOwn wr L ((d.cutE k).withComs ((d.coms.take i).map (Com.lose id) ++ d.coms.drop i)) h
theorem blk_away {w w1 : World} {g : Nat} {t : TypeId} {cs : Array Value} {row : Option Nat} (h : Blk w g t cs) (hg : w.grownBy w1 row) (hne : some g ≠ row) : Blk w1 g t cs := (hg.block g h.lt hne).trans h
set_option maxRecDepth 100000 in
set_option maxHeartbeats 4000000 in
theorem DRemove_any (d : Doc) (h : DocH) (id : Int) (w : World) (hE : Env w) (hat : DocAt w d h) (hf : DocFit d) (hrn : h.rn ≤ 9223372036854775807) (hr : h.rn * 56 ≤ 140737488355328) (hn : h.en ≤ 1000000) (hcn : h.cn ≤ 1000000) :
    Calls Tryd.prog 17 #[.agg (d.cells h), .int .i64 id] w (DEPost (d.remX id) w) := by
  have HX : Hid (Ext w ((w.alloc (.cells (d.cells h) 39)).alloc (.cells docZero 39))) := ((Ext.refl w).alloc _).alloc _
  have HB : Hid (Blk ((w.alloc (.cells (d.cells h) 39)).alloc (.cells docZero 39)) w.heap.size 39 (d.cells h)) := (Blk.new w _ _).alloc _
  have HZ : Hid (Blk ((w.alloc (.cells (d.cells h) 39)).alloc (.cells docZero 39)) (w.heap.size + 1) 39 docZero) := Blk.new' (by simp)
  have HCk := Lib.hid (fun w' (hx : Ext w w') => DCheck_any d h w' (hE.ext hx) (hat.ext hx) hf hrn hn (by omega))
  have HFd := Lib.hid (fun w' (hx : Ext w w') => DFind_any d h id w' (hat.evs.ext hx) (by omega))
  have HCl := Lib.hid (fun w' (hx : Ext w w') => DClone_any d h w' (hat.ext hx) hr (by omega) (by omega))
  have HEln := Lib.hid hat.evs.len
  have HAt := Lib.hid hat.coms
  have HCln := Lib.hid hat.coms.len
  have END : ∀ (w9 : World) (e : Int), Ext w w9 → Blk w9 (w.heap.size + 1) 39 docZero → d.remX id = (Doc.zero, e) → ∀ (tmps : Array Value), tmps.getD 4 undef = .pointer (some ⟨w.heap.size + 1, 0, none⟩) → tmps.getD 5 undef = .int .i64 e →
      (results Tryd.f17 tmps).run Tryd.prog (putB w9 (w.heap.size + 1) 39 docZero) = .ok (.tuple #[.agg docZero, .int .i64 e]) (putB w9 (w.heap.size + 1) 39 docZero) ∧
        DEPost (d.remX id) w (.returned (.tuple #[.agg docZero, .int .i64 e])) (putB w9 (w.heap.size + 1) 39 docZero) := fun w9 e hx hz he tmps h8 h9 => by
    refine ⟨?_, dePost_err he (hx.put (by omega) _ _)⟩
    have := results_B_tmp (P := Tryd.prog) Tryd.results17 (tmps := tmps) (w := putB w9 (w.heap.size + 1) 39 docZero) (g := w.heap.size + 1) h8 (hz.put _) Tryd.underlying39 rfl size_docI
    rw [this, h9]
  have HEnd := Lib.hid END
  clear END hat hE hf hrn hr
  obtain ⟨hra, nr, hrc, hea, hen, hec, hca, nc, hcc⟩ := h
  unfold DClPost at HCl
  unfold Doc.cells docZero at *
  dsimp only at *
  go_enter Tryd.func17, Tryd.ntmps17
  go_wp2_with (refine wpList_loadB rfl 39 (.tmp 2) rfl (w.heap.size) 39 _ _ (by exact rfl) (by exact HB.out) Tryd.underlying39 rfl (by exact size_docI) ?_)
  refine (HCk.out _ HX.out).mono ?_
  rintro en w0 ⟨rfl, hx0⟩
  have HX0 := Lib.hid (HX.out.trans hx0)
  have HB0 := Lib.hid (HB.out.ext hx0)
  have HZ0 := Lib.hid (HZ.out.ext hx0)
  clear hx0 HX HB HZ HCk
  by_cases h0 : d.err = 0
  case neg =>
    have hne2 : (d.err != 0) = true := by simpa using h0
    have HR1 : Hid (d.remX id = (Doc.zero, d.err)) := rem_1 h0
    clear h0
    go_wp2_with (refine wpList_storeB rfl 39 (.tmp 4) _ rfl (w.heap.size + 1) 39 _ _ (by exact rfl) (by exact rfl) (by exact HZ0.out) (by exact rfl) (by exact size_docI) (by simp [Value.oneCell']) ?_)
    exact (fun q => bodyPost_ret q.1 rfl q.2) (HEnd.out _ _ HX0.out HZ0.out (HR1.out) _ (by exact rfl) (by exact rfl))
  have HC := Lib.hid h0
  rw [h0]
  clear h0
  go_wp2_with (refine wpList_loadB rfl 39 (.tmp 2) rfl (w.heap.size) 39 _ _ (by exact rfl) (by exact HB0.out) Tryd.underlying39 rfl (by exact size_docI) ?_)
  refine (HFd.out _ HX0.out).mono ?_
  rintro en w1 ⟨rfl, hx1⟩
  have HX1 := Lib.hid (HX0.out.trans hx1)
  have HB1 := Lib.hid (HB0.out.ext hx1)
  have HZ1 := Lib.hid (HZ0.out.ext hx1)
  clear hx1 HX0 HB0 HZ0 HFd
  cases hfc : findE d.evs id with
  | none =>
    have hfi : findI d.evs id = -1 := by unfold findI; rw [hfc]
    have HR1 : Hid (d.remX id = (Doc.zero, 6)) := rem_2 HC.out hfc
    rw [hfi]
    clear hfc hfi
    go_wp2_with (refine wpList_storeB rfl 39 (.tmp 4) _ rfl (w.heap.size + 1) 39 _ _ (by exact rfl) (by exact rfl) (by exact HZ1.out) (by exact rfl) (by exact size_docI) (by simp [Value.oneCell']) ?_)
    exact (fun q => bodyPost_ret q.1 rfl q.2) (HEnd.out _ _ HX1.out HZ1.out (HR1.out) _ (by exact rfl) (by exact rfl))
  | some k =>
  have hfi : findI d.evs id = (k : Int) := by unfold findI; rw [hfc]
  have hkl : k < hen := by have h1 := findE_lt hfc; have h2 := HEln.out; omega
  have HF := Lib.hid hfc
  rw [hfi]
  clear hfc hfi
  have HR1 : Hid (d.remX id = ((d.cutE k).withComs (d.coms.map (Com.lose id)), 0)) := rem_3 HC.out HF.out
  go_wp2_with (refine wpList_loadB rfl 39 (.tmp 2) rfl (w.heap.size) 39 _ _ (by exact rfl) (by exact HB1.out) Tryd.underlying39 rfl (by exact size_docI) ?_)
  refine (HCl.out _ HX1.out).mono ?_
  rintro en w5 ⟨⟨ra, rn, rc, ea, en5, ec, ca, cn, cc⟩, rfl, ho5, hx5⟩
  dsimp only
  have hsz := HX1.out.size
  have hszz := HZ1.out.lt
  have hen5 : k < en5 := by have := ho5.evs.len; have := HEln.out; dsimp only at *; omega
  have hen6 : en5 ≤ 1000000 := by have := ho5.evs.len; have := HEln.out; dsimp only at *; omega
  have hcn6 : cn ≤ 1000000 := by have := ho5.clen; have := HCln.out; dsimp only at *; omega
  obtain ⟨g, hea5, hLg⟩ := ho5.ev_at hen5
  dsimp only at hea5
  subst hea5
  have HX5 := Lib.hid (HX1.out.trans hx5)
  have HB5 := Lib.hid (HB1.out.ext hx5)
  have HZ5 := Lib.hid (HZ1.out.ext hx5)
  have HO5 := Lib.hid (DocOwn.put ho5 HB5.out #[.string d.title, .string d.lang, .int .u8 d.rate, .bool d.drop, .int .i64 d.last, .slice ra rn rc, .slice (some ⟨g, 0, none⟩) en5 ec, .slice ca cn cc])
  have HP5 := Lib.hid (HB5.out.put #[.string d.title, .string d.lang, .int .u8 d.rate, .bool d.drop, .int .i64 d.last, .slice ra rn rc, .slice (some ⟨g, 0, none⟩) en5 ec, .slice ca cn cc])
  have HZ5' := Lib.hid (HZ5.out.put_other (g' := w.heap.size) (t' := 39) (by omega) #[.string d.title, .string d.lang, .int .u8 d.rate, .bool d.drop, .int .i64 d.last, .slice ra rn rc, .slice (some ⟨g, 0, none⟩) en5 ec, .slice ca cn cc])
  have HX5' := Lib.hid (HX5.out.put (g := w.heap.size) (Nat.le_refl _) 39 #[.string d.title, .string d.lang, .int .u8 d.rate, .bool d.drop, .int .i64 d.last, .slice ra rn rc, .slice (some ⟨g, 0, none⟩) en5 ec, .slice ca cn cc])
  have hcp := fun o => HP5.out.cell o
  clear ho5 hx5 HX5 HZ5
  go_wp2_with (refine wpList_storeB rfl 39 (.tmp 2) _ rfl (w.heap.size) 39 _ _ (by exact rfl) (by exact rfl) (by exact HB5.out) (by exact rfl) (by exact size_docI) (by simp [Value.oneCell']) ?_)
  clear hcp
  obtain ⟨hs, hown, hh, hel, hgd⟩ := HO5.out.evs
  dsimp only at hown hh hel hgd
  have HGd := Lib.hid hgd
  have HHh := Lib.hid hh
  have HHe := Lib.hid hel
  clear hgd hel
  refine (EDel_any hown hh hen5).mono ?_
  rintro en w6 ⟨rfl, hrow, cur, w7, cur', hBc, hx7, rfl⟩
  have hBc7 := hBc.ext hx7
  have HX6 := Lib.hid ((HX5'.out.trans hx7).put (g := g) (by omega) 45 cur')
  have HP6 := Lib.hid ((HP5.out.ext hx7).kb (KB.put (cs' := cur') hBc7 (by decide)))
  have HZ6 := Lib.hid ((HZ5'.out.ext hx7).kb (KB.put (cs' := cur') hBc7 (by decide)))
  have HO6 : Hid (DocOwn (putB w7 g 45 cur') w1.heap.size (d.cutE k) ⟨ra, rn, rc, some ⟨g, 0, none⟩, en5 - 1, ec, ca, cn, cc⟩) :=
    ⟨own_kb (own_ext HO5.out.regs hx7) (KB.put hBc7 (by decide)), HO5.out.rlen, EvsOwn.cut HHh.out HHe.out HGd.out hen5 ((KB.ext hx7).trans (KB.put hBc7 (by decide))) ((KB.ext hx7).trans (KB.put hBc7 (by decide))) hrow, own_kb (own_ext HO5.out.coms hx7) (KB.put hBc7 (by decide)), HO5.out.clen⟩
  have hs6 := setCell_put HP6.out 6 (.slice (some ⟨g, 0, none⟩) (en5 - 1) ec)
  have hc6 := HP6.out.cell 6
  have hf6 := HP6.out.frozen 6
  simp at hs6 hc6
  have HP7 := Lib.hid (HP6.out.put #[.string d.title, .string d.lang, .int .u8 d.rate, .bool d.drop, .int .i64 d.last, .slice ra rn rc, .slice (some ⟨g, 0, none⟩) (en5 - 1) ec, .slice ca cn cc])
  have HZ7 := Lib.hid (HZ6.out.put_other (g' := w.heap.size) (t' := 39) (by omega) #[.string d.title, .string d.lang, .int .u8 d.rate, .bool d.drop, .int .i64 d.last, .slice ra rn rc, .slice (some ⟨g, 0, none⟩) (en5 - 1) ec, .slice ca cn cc])
  have HX7 := Lib.hid (HX6.out.put (g := w.heap.size) (Nat.le_refl _) 39 #[.string d.title, .string d.lang, .int .u8 d.rate, .bool d.drop, .int .i64 d.last, .slice ra rn rc, .slice (some ⟨g, 0, none⟩) (en5 - 1) ec, .slice ca cn cc])
  have HO7 := Lib.hid (HO6.out.put HP6.out #[.string d.title, .string d.lang, .int .u8 d.rate, .bool d.drop, .int .i64 d.last, .slice ra rn rc, .slice (some ⟨g, 0, none⟩) (en5 - 1) ec, .slice ca cn cc])
  clear hrow hBc hx7 hBc7 HX5' HZ5' HP5 HB5 HO5 HGd hown hh HHh HHe
  go_upto_region 9 with fail
  clear hs6 hc6 hf6
  obtain ⟨W, hW⟩ : ∃ W, W = putB (putB w7 g 45 cur') w.heap.size 39 #[.string d.title, .string d.lang, .int .u8 d.rate, .bool d.drop, .int .i64 d.last, .slice ra rn rc, .slice (some ⟨g, 0, none⟩) (en5 - 1) ec, .slice ca cn cc] := ⟨_, rfl⟩
  rw [← hW] at HP7 HZ7 HX7 HO7 ⊢
  clear hW HP6 HZ6 HX6 HO6
  have hcp := fun o => HP7.out.cell o
  have hcl7 := HO7.out.clen
  dsimp only at hcl7
  go_wp2_with fail
  clear hcp
  go_loopw [34] (fun i wr => RemLoop d k id w ⟨ra, rn, rc, some ⟨g, 0, none⟩, en5 - 1, ec, ca, cn, cc⟩ w1.heap.size #[.string d.title, .string d.lang, .int .u8 d.rate, .bool d.drop, .int .i64 d.last, .slice ra rn rc, .slice (some ⟨g, 0, none⟩) (en5 - 1) ec, .slice ca cn cc] i wr) (fun i _ => cn - (intOf i).toNat)
  case atStart => exact ⟨0, Nat.zero_le _, rfl, HX7.out, HP7.out, HZ7.out, HO7.out⟩
  case round =>
    obtain ⟨i, hi, rfl, hx8, hp8, hz8, ho8⟩ := hrel
    dsimp only at hi
    have HX8 := Lib.hid hx8
    have HP8 := Lib.hid hp8
    have HZ8 := Lib.hid hz8
    have HO8 := Lib.hid ho8
    clear hx8 hp8 hz8 ho8 HX7 HP7 HZ7 HO7
    by_cases hlt : i < cn
    · obtain ⟨gc, hgc, hLc⟩ := HO8.out.com_at hlt
      dsimp only at hgc
      have hgcs := hgc
      subst hgc
      obtain ⟨c, hc0⟩ : ∃ c, d.coms[i]? = some c := ⟨_, List.getElem?_eq_getElem (by have : d.coms.length = cn := hcl7; omega)⟩
      have hls := lose_step id d.coms i c hc0
      have HNx := Lib.hid (lose_next id d.coms i c hc0)
      have HLs := Lib.hid hls.2
      have e1 := HO8.out.com_cell (j := 1) hgcs hls.1 rfl
      have e2 := HO8.out.com_cell (j := 2) hgcs hls.1 rfl
      have e3 := HO8.out.com_cell (j := 3) hgcs hls.1 rfl
      have e7 := HO8.out.com_cell (j := 7) hgcs hls.1 rfl
      obtain ⟨e1, -⟩ := e1
      obtain ⟨e2, f2⟩ := e2
      obtain ⟨e3, f3⟩ := e3
      obtain ⟨e7, f7⟩ := e7
      have hcp := fun o => HP8.out.cell o
      have HL1 := Lib.hid hls.1
      have HGc := Lib.hid hgcs
      have HC0 := Lib.hid hc0
      clear hls hc0
      by_cases hev : c.ev = id
      · have heb : (c.ev == id) = true := by simpa using hev
        have HLc : Hid (c.lose id = ⟨c.id, c.ev, 0, 0, c.author, c.text, c.done, true⟩) := by show _ = _; unfold Com.lose; rw [if_pos hev]
        clear hev
        have s1 := HO8.out.com_set (c' := ⟨c.id, c.ev, 0, c.til, c.author, c.text, c.done, c.lost⟩) (j := 2) (u := .int .i64 0) hgcs HL1.out rfl (by decide)
        obtain ⟨o1, g1⟩ := s1
        have hil : i < ((d.coms.take i).map (Com.lose id) ++ d.coms.drop i).length := (List.getElem?_eq_some_iff.1 HL1.out).1
        have q1 := List.getElem?_set_self (a := (⟨c.id, c.ev, 0, c.til, c.author, c.text, c.done, c.lost⟩ : Com)) hil
        have q2 := List.getElem?_set_self (a := (⟨c.id, c.ev, 0, 0, c.author, c.text, c.done, c.lost⟩ : Com)) (i := i) (l := ((d.coms.take i).map (Com.lose id) ++ d.coms.drop i).set i ⟨c.id, c.ev, 0, c.til, c.author, c.text, c.done, c.lost⟩) (by rw [List.length_set]; exact hil)
        have t1 := o1.com_cell (j := 3) hgcs q1 rfl
        have s2 := o1.com_set (c' := ⟨c.id, c.ev, 0, 0, c.author, c.text, c.done, c.lost⟩) (j := 3) (u := .int .i64 0) hgcs q1 rfl (by decide)
        obtain ⟨o2, g2⟩ := s2
        have t2 := o2.com_cell (j := 7) hgcs q2 rfl
        have s3 := o2.com_set (c' := ⟨c.id, c.ev, 0, 0, c.author, c.text, c.done, true⟩) (j := 7) (u := .bool true) hgcs q2 rfl (by decide)
        obtain ⟨o3, g3⟩ := s3
        obtain ⟨t1, u1⟩ := t1
        obtain ⟨t2, u2⟩ := t2
        have hLg2 : w.heap.size + 1 < gc := by omega
        have HX9 := Lib.hid (((HX8.out.setCell (p := ⟨gc, i * 8 + 2, none⟩) (Nat.le_of_lt (Nat.lt_of_succ_lt hLg2)) (.int .i64 0)).setCell (p := ⟨gc, i * 8 + 3, none⟩) (Nat.le_of_lt (Nat.lt_of_succ_lt hLg2)) (.int .i64 0)).setCell (p := ⟨gc, i * 8 + 7, none⟩) (Nat.le_of_lt (Nat.lt_of_succ_lt hLg2)) (.bool true))
        have n1 : some w.heap.size ≠ some gc := by intro h; injection h; omega
        have n2 : some (w.heap.size + 1) ≠ some gc := by intro h; injection h; omega
        have HP9 := Lib.hid (blk_away (blk_away (blk_away HP8.out g1 n1) g2 n1) g3 n1)
        have HZ9 := Lib.hid (blk_away (blk_away (blk_away HZ8.out g1 n2) g2 n2) g3 n2)
        have HO9 : Hid (DocOwn (((wr.setCell ⟨gc, i * 8 + 2, none⟩ (.int .i64 0)).setCell ⟨gc, i * 8 + 3, none⟩ (.int .i64 0)).setCell ⟨gc, i * 8 + 7, none⟩ (.bool true)) w1.heap.size ((d.cutE k).withComs ((d.coms.take (i + 1)).map (Com.lose id) ++ d.coms.drop (i + 1))) ⟨ra, rn, rc, some ⟨g, 0, none⟩, en5 - 1, ec, some ⟨gc, 0, none⟩, cn, cc⟩) := by
          rw [HNx.out, HLc.out, ← HLs.out]
          have h9 : DocOwn _ _ ((d.cutE k).withComs ((((((d.coms.take i).map (Com.lose id) ++ d.coms.drop i).set i ⟨c.id, c.ev, 0, c.til, c.author, c.text, c.done, c.lost⟩).set i ⟨c.id, c.ev, 0, 0, c.author, c.text, c.done, c.lost⟩)).set i ⟨c.id, c.ev, 0, 0, c.author, c.text, c.done, true⟩)) _ := o3
          rw [List.set_set, List.set_set] at h9
          exact h9
        clear o1 o2 o3 g1 g2 g3 q1 q2 hil HL1 HLs HNx HLc n1 n2 HX8 HP8 HZ8 HO8 hLg2
        go_wp2_with fail
        clear hcp t1 t2 u1 u2 e1 e2 e3 e7 f2 f3 f7
        refine ⟨⟨i + 1, by dsimp only; omega, by go_num, HX9.out, HP9.out, HZ9.out, HO9.out⟩, by simp [intOf]; omega⟩
      · have heb : (c.ev == id) = false := by simpa using hev
        have HLc : Hid (c.lose id = c) := by show _ = _; unfold Com.lose; rw [if_neg hev]
        clear hev
        go_wp2_with fail
        clear hcp
        refine ⟨⟨i + 1, by dsimp only; omega, by go_num, HX8.out, HP8.out, HZ8.out, ?_⟩, by simp [intOf]; omega⟩
        rw [HNx.out, HLc.out, ← drop_at d.coms i c HC0.out]
        exact HO8.out
    · have hin : i = cn := by omega
      subst hin
      have HO9 : Hid (DocOwn wr w1.heap.size ((d.cutE k).withComs (d.coms.map (Com.lose id))) ⟨ra, rn, rc, some ⟨g, 0, none⟩, en5 - 1, ec, ca, i, cc⟩) := by
        have h9 := HO8.out
        rw [List.take_of_length_le (by have : d.coms.length = i := hcl7; omega), List.drop_eq_nil_of_le (by have : d.coms.length = i := hcl7; omega), List.append_nil] at h9
        exact h9
      clear HO8
      go_wp2_with (first | (refine wpList_loadB rfl 39 (.tmp 2) rfl (w.heap.size) 39 _ _ (by exact rfl) (by exact HP8.out) Tryd.underlying39 rfl (by exact size_docI) ?_) | (refine wpList_storeB rfl 39 (.tmp 4) _ rfl (w.heap.size + 1) 39 _ _ (by exact rfl) (by exact rfl) (by exact HZ8.out) (by exact rfl) (by exact size_docI) (by simp [Value.oneCell']) ?_))
      refine bodyPost_ret (v := .tuple #[.agg ((d.remX id).1.cells ⟨ra, rn, rc, some ⟨g, 0, none⟩, en5 - 1, ec, ca, i, cc⟩), .int .i64 (d.remX id).2]) ?_ rfl ⟨⟨ra, rn, rc, some ⟨g, 0, none⟩, en5 - 1, ec, ca, i, cc⟩, rfl, ?_, ?_⟩
      · rw [HR1.out]
        exact results_B_tmp (P := Tryd.prog) Tryd.results17 (g := w.heap.size + 1) rfl (by exact HZ8.out.put _) Tryd.underlying39 rfl size_docI
      · rw [HR1.out]
        exact (HO9.out.le hsz).put HZ8.out _
      · exact HX8.out.put (by omega) _ _
end Go.Proofs.YtagfedbdakmlgaaDoor

/-! LoseR -/
namespace Go.Proofs.YtagfedbdakmlgaaDoor
set_option linter.unusedVariables false
set_option linter.unusedSimpArgs false
open Go.RowKit
def Com.loseR (id : Int) (c : Com) : Com := if c.ev = id ∧ c.lost = false then ⟨c.id, c.ev, 0, 0, c.author, c.text, c.done, true⟩ else c
def LsRel (l : List Com) (id : Int) (n : Nat) (w : World) (v i : Value) (wr : World) : Prop :=
  ∃ k : Nat, k ≤ n ∧ i = .int .i64 k ∧ Ext w wr ∧ wr.ownsRow w.heap.size 31 8 v k (((l.take k).map (Com.loseR id)).flatMap Com.vals)
end Go.Proofs.YtagfedbdakmlgaaDoor

/-! NameR -/
namespace Go.Proofs.YtagfedbdakmlgaaDoor
set_option linter.unusedVariables false
set_option linter.unusedSimpArgs false
open Go.RowKit
def NameRelR (s : ByteArray) (i : Value) (w wr : World) : Prop := ∃ k : Nat, k ≤ s.size ∧ i = .int .i64 k ∧ (s.data.toList.take k).all (fun c => nbI c.toNat) = true ∧ (0 < k → ∀ h : 0 < s.size, (65 : Int) ≤ (s[0].toNat : Int) ∧ (s[0].toNat : Int) ≤ 90) ∧ w = wr
end Go.Proofs.YtagfedbdakmlgaaDoor

/-! RegR -/
namespace Go.Proofs.YtagfedbdakmlgaaDoor
set_option linter.unusedVariables false
set_option linter.unusedSimpArgs false
open Go.RowKit
end Go.Proofs.YtagfedbdakmlgaaDoor

/-! RegS -/
namespace Go.Proofs.YtagfedbdakmlgaaDoor
set_option linter.unusedVariables false
set_option linter.unusedSimpArgs false
open Go.RowKit
end Go.Proofs.YtagfedbdakmlgaaDoor

/-! PlaceR -/
namespace Go.Proofs.YtagfedbdakmlgaaDoor
set_option linter.unusedVariables false
set_option linter.unusedSimpArgs false
open Go.RowKit
end Go.Proofs.YtagfedbdakmlgaaDoor

/-! NeatR -/
namespace Go.Proofs.YtagfedbdakmlgaaDoor
set_option linter.unusedVariables false
set_option linter.unusedSimpArgs false
open Go.RowKit
def NeatRel (s : ByteArray) (w : World) (i : Value) (wr : World) : Prop := ∃ k : Nat, 1 ≤ k ∧ k ≤ s.size ∧ i = .int .i64 k ∧ wr = w ∧ ∀ j, j + 1 < k → s.data.toList[j]? = some 32 → s.data.toList[j + 1]? = some 32 → False
end Go.Proofs.YtagfedbdakmlgaaDoor

/-! RowR -/
namespace Go.Proofs.YtagfedbdakmlgaaDoor
set_option linter.unusedVariables false
set_option linter.unusedSimpArgs false
open Go.RowKit
def RPlainRel (w : World) (n : Nat) (l : Row) (v i : Value) (wr : World) : Prop := ∃ k : Nat, k ≤ n ∧ i = .int .i64 k ∧ v = .string ⟨(rowText (l.take k)).toArray⟩ ∧ Ext w wr
end Go.Proofs.YtagfedbdakmlgaaDoor

/-! RowRC -/
namespace Go.Proofs.YtagfedbdakmlgaaDoor
set_option linter.unusedVariables false
set_option linter.unusedSimpArgs false
open Go.RowKit
end Go.Proofs.YtagfedbdakmlgaaDoor

/-! ECheckR -/
namespace Go.Proofs.YtagfedbdakmlgaaDoor
set_option linter.unusedVariables false
set_option linter.unusedSimpArgs false
open Go.RowKit
def ChkRR (w : World) (n : Nat) (rows : List Row) (i v : Value) (wr : World) : Prop :=
  ∃ k : Nat, k ≤ n ∧ i = .int .i64 k ∧ Ext w wr ∧ rowsErr rows = rowsErr (rows.drop k) ∧ wr.ownsRow w.heap.size 3 1 v k (((rows.take k).map rowLen).flatMap fun x => [.int .i64 x])
end Go.Proofs.YtagfedbdakmlgaaDoor

/-! HeadR -/
namespace Go.Proofs.YtagfedbdakmlgaaDoor
set_option linter.unusedVariables false
set_option linter.unusedSimpArgs false
open Go.RowKit
end Go.Proofs.YtagfedbdakmlgaaDoor

/-! ELenR -/
namespace Go.Proofs.YtagfedbdakmlgaaDoor
set_option linter.unusedVariables false
set_option linter.unusedSimpArgs false
open Go.RowKit
def RELenRel (w1 : World) (n : Nat) (e : Ev) (v i : Value) (wr : World) : Prop := ∃ (k : Nat) (s : Int), k ≤ n ∧ i = .int .i64 k ∧ v = .int .i64 s ∧ 0 ≤ s ∧ s ≤ k + ((e.rows.take k).map rowBytes).sum ∧ Ext w1 wr ∧
  e.len = lenSum (s + (max ((n : Int) - 1) 0 - max ((k : Int) - 1) 0)) ((e.rows.map rowLen).drop k)
end Go.Proofs.YtagfedbdakmlgaaDoor

/-! ComR -/
namespace Go.Proofs.YtagfedbdakmlgaaDoor
set_option linter.unusedVariables false
set_option linter.unusedSimpArgs false
open Go.RowKit
end Go.Proofs.YtagfedbdakmlgaaDoor

/-! DCheckR -/
namespace Go.Proofs.YtagfedbdakmlgaaDoor
set_option linter.unusedVariables false
set_option linter.unusedSimpArgs false
open Go.RowKit
def R12EvRel (w1 : World) (n : Nat) (regs : List Reg) (last : Int) (l : List Ev) (i : Value) (wr : World) : Prop :=
  ∃ k : Nat, k ≤ n ∧ i = .int .i64 k ∧ Ext w1 wr ∧ evsLoop regs last [] l = evsLoop regs last (l.take k) (l.drop k)
end Go.Proofs.YtagfedbdakmlgaaDoor

/-! RemvR -/
namespace Go.Proofs.YtagfedbdakmlgaaDoor
set_option linter.unusedVariables false
set_option linter.unusedSimpArgs false
open Go.RowKit
def Doc.remRX (d : Doc) (id : Int) : DE :=
  if d.err ≠ 0 then (Doc.zero, d.err) else match findE d.evs id with
    | none => (Doc.zero, 6)
    | some k => ((d.cutE k).withComs (d.coms.map (Com.loseR id)), 0)
section
variable {d : Doc} {id : Int} {k : Nat}
end
/-- an append in place, then the store of the new slice into a document, in a drawn region -/
structure RemJE (g : Nat) (cur2 : Array Value) (v : Value) (G8 : Nat) (cs8 : Array Value) (W : World) (us : List Value) (w' : World) : Prop where
  nil : us = [] → Ext W w'
  one : ∀ u, us = [u] → u = v ∧ ∃ w5, Ext W w5 ∧ w' = putB w5 g 45 cur2
  two : ∀ u u1, us = [u, u1] → u = v ∧ ∃ w5, Ext W w5 ∧ w' = putB (putB w5 g 45 cur2) G8 39 cs8
section
variable {g G8 : Nat} {cur2 cs8 cs : Array Value} {v : Value} {W w' : World} {us : List Value}
theorem RemJE.start (W : World) : RemJE g cur2 v G8 cs8 W [] W.drew := ⟨fun _ => (Ext.refl W).drew, fun u h => by simp at h, fun u u1 h => by simp at h⟩
theorem RemJE.app (h : RemJE g cur2 v G8 cs8 W [] w') : RemJE g cur2 v G8 cs8 W ([] ++ [v]) (putB w' g 45 cur2) := ⟨fun h => by simp at h, fun u hu => ⟨by simpa using hu.symm, w', h.nil rfl, rfl⟩, fun u u1 h => by simp at h⟩
theorem RemJE.sto {w5 : World} {u1 : Value} (_ : RemJE g cur2 v G8 cs8 W [v] (putB w5 g 45 cur2)) (hx : Ext W w5) : RemJE g cur2 v G8 cs8 W ([v] ++ [u1]) (putB (putB w5 g 45 cur2) G8 39 cs8) := ⟨fun h => by simp at h, fun u hu => by simp at hu, fun u u1 hu => by simp at hu; exact ⟨hu.1.symm, w5, hx, rfl⟩⟩
end
end Go.Proofs.YtagfedbdakmlgaaDoor

/-! SortR -/
namespace Go.Proofs.YtagfedbdakmlgaaDoor
set_option linter.unusedVariables false
set_option linter.unusedSimpArgs false
open Go.RowKit
/-- the three appends around the copy of an event, in a drawn region -/
def InsJ (W : World) (hs : List EH) (j m : Nat) (x : Ev) (n' : Nat) (us : List Value) (w' : World) : Prop := Ext W w' ∧ match us with
  | [] => True
  | [u0] => w'.ownsRow W.heap.size 45 7 u0 j ((hs.take j).flatMap EH.vals)
  | [u0, u1] => w'.ownsRow W.heap.size 45 7 u0 j ((hs.take j).flatMap EH.vals) ∧ ∃ A5 c5, u1 = .agg (x.cells A5 n' c5) ∧ n' ≤ c5 ∧ RowsFresh w' W.heap.size A5 n' x.rows
  | [u0, _, u2] => w'.ownsRow W.heap.size 45 7 u0 j ((hs.take j).flatMap EH.vals) ∧ ∃ A5 c5 g5, n' ≤ c5 ∧ RowsFresh w' W.heap.size A5 n' x.rows ∧ u2 = .slice (some ⟨g5, 0, none⟩) 1 1 ∧ Blk w' g5 45 (x.cells A5 n' c5)
  | [_, _, _, u3] => ∃ A5 c5, n' ≤ c5 ∧ RowsFresh w' W.heap.size A5 n' x.rows ∧ w'.ownsRow W.heap.size 45 7 u3 (j + 1) ((hs.take j).flatMap EH.vals ++ (x.cells A5 n' c5).toList)
  | [_, _, _, _, u4] => ∃ A5 c5, n' ≤ c5 ∧ RowsFresh w' W.heap.size A5 n' x.rows ∧ w'.ownsRow W.heap.size 45 7 u4 (j + 1 + m) ((hs.take j).flatMap EH.vals ++ (x.cells A5 n' c5).toList ++ (hs.drop j).flatMap EH.vals)
  | [_, _, _, _, u4, u5] => u5 = u4 ∧ ∃ A5 c5, n' ≤ c5 ∧ RowsFresh w' W.heap.size A5 n' x.rows ∧ w'.ownsRow W.heap.size 45 7 u4 (j + 1 + m) ((hs.take j).flatMap EH.vals ++ (x.cells A5 n' c5).toList ++ (hs.drop j).flatMap EH.vals)
  | _ => False
/-- the search for an event's place -/
def InsRel (M : List Ev) (x : Ev) (k : Nat) (W : World) (s6 : Value) (wr : World) : Prop := ∃ j : Nat, s6 = .int .i64 j ∧ j ≤ k ∧ Ext W wr ∧ (∀ (p : Nat) (y : Ev), j ≤ p → M[p]? = some y → lessB x y = true)
def RSortLoop (l : List Ev) (n : Nat) (w : World) (v i : Value) (wr : World) : Prop := ∃ k : Nat, k ≤ n ∧ i = .int .i64 k ∧ Ext w wr ∧ EvsOwn wr w.heap.size v k (srtE (l.take k))
end Go.Proofs.YtagfedbdakmlgaaDoor
