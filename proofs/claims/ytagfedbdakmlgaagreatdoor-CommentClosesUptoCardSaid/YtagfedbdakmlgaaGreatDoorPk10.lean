/- Laid together: Lists of events in memory of their own: blocks that are kept by stores elsewhere; the heads of events; documents of one's own. A drawn region whose operations with effects stand in a chain, and that makes variables besides, at whatever time. What stores into rows of one type leave as it is; a variable made and filled in a drawn region; a map from numbers to numbers. The walks of ratio.known, size, away and Quotient at numbers that are not negative. -/
import Derived.Test.YtagfedbdakmlgaaGreatDoorPk09
import Derived.Test.YtagfedbdakmlgaaGreatDoorPk04
import Derived.Test.YtagfedbdakmlgaaGreatDoorPk05

/-! Evs -/
namespace Go.Proofs.YtagfedbdakmlgaaGreatDoor
set_option linter.unusedVariables false
set_option linter.unusedSimpArgs false
open Go.RowKit

/-- the rows of elements of type T stay as they are -/
def KB (T : TypeId) (w w' : World) : Prop := ∀ (b : Nat) (cur : Array Value), w.heap[b]? = some (Obj.cells cur T (0, 0)) → w'.heap[b]? = some (Obj.cells cur T (0, 0))
section
variable {T T' : TypeId} {w w1 w2 : World} {L n : Nat} {A : Option Addr}
theorem KB.refl (w : World) : KB T w w := fun _ _ h => h
theorem KB.trans (h : KB T w w1) (k : KB T w1 w2) : KB T w w2 := fun b cur hb => k b cur (h b cur hb)
theorem KB.ext (k : Ext w w1) : KB T w w1 := fun b _ hb => (k.block b (Array.getElem?_eq_some_iff.1 hb).1).trans hb
theorem KB.put {g : Nat} {cs cs' : Array Value} (hB : Blk w g T' cs) (hne : T ≠ T') : KB T w (putB w g T' cs') := fun b cur hb => by
  have hn : g ≠ b := (Typed.ne ⟨cur, hb⟩ hB.typed hne).symm
  unfold putB
  simp only
  rw [Array.getElem?_setIfInBounds_ne hn]
  exact hb
theorem KB.set {p : Addr} {u : Value} (hT : Typed w T' p.block) (hne : T ≠ T') : KB T w (w.setCell p u) := fun b cur hb => by
  have hn : b ≠ p.block := Typed.ne ⟨cur, hb⟩ hT hne
  rw [RowKit.Below.heap_setCell _ _ _ _ hn]
  exact hb
theorem KB.sets {g : Nat} (hne : T ≠ T') : ∀ (vs : List Value) (o : Nat) (w : World), Typed w T' g → KB T w (w.setCells g o vs)
  | [], _, w, _ => KB.refl w
  | v :: vs, o, w, h => (KB.set (p := ⟨g, o, none⟩) h hne).trans (KB.sets hne vs (o + 1) _ (h.setCell _ _))
theorem KB.grown {row : Option Nat} (hg : w.grownBy w1 row) (hr : ∀ q, row = some q → Typed w T' q) (hne : T ≠ T') : KB T w w1 := fun b cur hb => by
  refine (hg.block b (Array.getElem?_eq_some_iff.1 hb).1 (fun e => ?_)).trans hb
  exact Typed.ne ⟨cur, hb⟩ (hr b e.symm) hne rfl
theorem KB.turned {b : Nat} (h : w.mapTurned w1 b) : KB T w w1 := fun c cur hc => by
  obtain ⟨es, cl, es', cl', hb, rfl⟩ := h
  have hn : b ≠ c := fun e => by subst e; rw [hb] at hc; cases hc
  show (w.heap.setIfInBounds b _)[c]? = _
  rw [Array.getElem?_setIfInBounds_ne hn]
  exact hc
theorem Typed.kb (h : Typed w T n) (k : KB T w w1) : Typed w1 T n := h.elim fun cur hb => ⟨cur, k _ _ hb⟩
theorem Typed.sets {g b : Nat} : ∀ (vs : List Value) (o : Nat) (w : World), Typed w T b → Typed (w.setCells g o vs) T b
  | [], _, _, h => h
  | v :: vs, o, w, h => Typed.sets vs (o + 1) _ (h.setCell _ _)
theorem Typed.cell_kb (h : Typed w T n) (k : KB T w w1) (o : Nat) : w1.cell? ⟨n, o, none⟩ = w.cell? ⟨n, o, none⟩ := by
  obtain ⟨cur, hb⟩ := h
  simp [World.cell?, hb, k _ _ hb]
theorem Fresh.kb (h : Fresh w T L A) (k : KB T w w1) : Fresh w1 T L A := fun ad e => ⟨(h ad e).1, (h ad e).2.kb k⟩
theorem own_kb {size : Nat} {v : Value} {xs : List Value} (h : w.ownsRow L T size v n xs) (k : KB T w w1) : w1.ownsRow L T size v n xs := by
  refine ⟨h.1, ?_⟩
  rcases h.2 with hn | ⟨g, cap, cur, rfl, hb, hg, rest⟩
  · exact .inl hn
  · exact .inr ⟨g, cap, cur, rfl, hb, k _ _ hg, rest⟩
end
theorem RowsFresh.kb {w w1 : World} {L : Nat} {A : Option Addr} {n : Nat} {l : List Row} (h : RowsFresh w L A n l) (k1 : KB 87 w w1) (k2 : KB 84 w w1) : RowsFresh w1 L A n l := by
  obtain ⟨hs, a1, a2, a3, a4, a5⟩ := h
  refine ⟨hs, Sl.keep a1 fun _ b off hA o x hx j u hu => ?_, fun i hd r a b => ?_, a3, a4.kb k1, fun x hx => (a5 x hx).kb k2⟩
  · rw [(a4 _ hA).2.cell_kb k1]; exact hx j u hu
  · have gd := a2 i hd r a b
    refine ⟨gd.1, gd.2.1, Sl.keep gd.2.2 fun _ b' off hA o x hx => ?_⟩
    have key : ∀ q v, w.cell? ⟨b', q, none⟩ = some v → w1.cell? ⟨b', q, none⟩ = some v := fun q v hv => by rw [((a5 hd (List.mem_of_getElem? a)) _ hA).2.cell_kb k2]; exact hv
    exact ⟨key _ _ hx.1, key _ _ hx.2.1, key _ _ hx.2.2.1, key _ _ hx.2.2.2.1, key _ _ hx.2.2.2.2⟩

/-! ### cells of rows of structs -/
theorem flat_set {α : Type} {f : α → List Value} {size : Nat} (hf : ∀ x, (f x).length = size) : ∀ (l : List α) (k j : Nat) (x y : α) (u : Value), l[k]? = some x → f y = (f x).set j u → j < size → (l.flatMap f).set (k * size + j) u = (l.set k y).flatMap f
  | [], k, j, x, y, u, h, _, _ => by simp at h
  | z :: l, 0, j, x, y, u, h, hy, hj => by
    simp at h; subst h
    rw [List.flatMap_cons, List.set_cons_zero, List.flatMap_cons, hy, Nat.zero_mul, Nat.zero_add, List.set_append, if_pos (by rw [hf]; exact hj)]
  | z :: l, k + 1, j, x, y, u, h, hy, hj => by
    have hz := hf z
    rw [List.flatMap_cons, List.set_cons_succ, List.flatMap_cons, List.set_append, if_neg (by rw [hz, Nat.add_mul]; omega), ← flat_set hf l k j x y u (by simpa using h) hy hj]
    congr 2
    rw [hz, Nat.add_mul]; omega
def setMany : List Value → Nat → List Value → List Value
  | xs, _, [] => xs
  | xs, j, v :: vs => setMany (xs.set j v) (j + 1) vs
theorem setMany_split : ∀ (vs pre old post : List Value), old.length = vs.length → setMany (pre ++ old ++ post) pre.length vs = pre ++ vs ++ post
  | [], pre, old, post, h => by
    obtain rfl : old = [] := List.eq_nil_of_length_eq_zero h
    rfl
  | v :: vs, pre, [], post, h => by simp at h
  | v :: vs, pre, o :: old, post, h => by
    have e : (pre ++ o :: old ++ post).set pre.length v = (pre ++ [v]) ++ old ++ post := by simp [List.set_append]
    have := setMany_split vs (pre ++ [v]) old post (by simpa using h)
    rw [List.length_append, List.length_singleton] at this
    rw [setMany, e, this]
    simp
theorem flat_setMany {α : Type} {f : α → List Value} {size : Nat} (hf : ∀ x, (f x).length = size) (l : List α) (k : Nat) (y : α) (hk : k < l.length) : setMany (l.flatMap f) (k * size) (f y) = (l.set k y).flatMap f := by
  have e1 : l = l.take k ++ l[k] :: l.drop (k + 1) := by rw [← List.drop_eq_getElem_cons hk, List.take_append_drop]
  have e2 : l.set k y = l.take k ++ y :: l.drop (k + 1) := by rw [List.set_eq_take_append_cons_drop, if_pos hk]
  have hl : ((l.take k).flatMap f).length = k * size := by rw [flatMap_len f size hf, List.length_take, Nat.min_eq_left (by omega)]
  rw [e2, List.flatMap_append, List.flatMap_cons]
  conv => lhs; rw [e1]
  rw [List.flatMap_append, List.flatMap_cons, ← hl, ← List.append_assoc, setMany_split _ _ _ _ (by rw [hf, hf]), List.append_assoc]
theorem own_sets {L size n cap g : Nat} {T : TypeId} : ∀ (vs : List Value) (j : Nat) (w : World) (xs : List Value), w.ownsRow L T size (.slice (some ⟨g, 0, none⟩) n cap) n xs →
    (w.setCells g j vs).ownsRow L T size (.slice (some ⟨g, 0, none⟩) n cap) n (setMany xs j vs)
  | [], _, _, _, h => h
  | v :: vs, j, w, xs, h => own_sets vs (j + 1) _ _ (h.stored j v).1
theorem ext_sets {w0 : World} {g : Nat} (hg : w0.heap.size ≤ g) : ∀ (vs : List Value) (j : Nat) (w : World), Ext w0 w → Ext w0 (w.setCells g j vs)
  | [], _, _, h => h
  | v :: vs, j, w, h => ext_sets hg vs (j + 1) _ (h.setCell hg v)

/-! ### heads of events -/
structure EH where
  id : Int
  inn : Int
  out : Int
  region : ByteArray
  kind : Int
  speaker : ByteArray
  A : Option Addr
  n : Nat
  c : Nat
def EH.vals (h : EH) : List Value := [.int .i64 h.id, .int .i64 h.inn, .int .i64 h.out, .string h.region, .int .u8 h.kind, .string h.speaker, .slice h.A h.n h.c]
def EH.of (e : Ev) (A : Option Addr) (n c : Nat) : EH := ⟨e.id, e.inn, e.out, e.region, e.kind, e.speaker, A, n, c⟩
theorem EH.of_vals (e : Ev) (A : Option Addr) (n c : Nat) : (EH.of e A n c).vals = (e.cells A n c).toList := rfl
theorem EH.len (h : EH) : h.vals.length = 7 := rfl
def Reg.vals (r : Reg) : List Value := [.string r.name, .int .i64 r.top, .int .i64 r.height, .int .i64 r.left, .int .i64 r.width, .int .u8 r.align, .bool r.bottom]
/-- the head is an event's, its rows lie from L on -/
def EGood (w : World) (L : Nat) (h : EH) (e : Ev) : Prop := h = EH.of e h.A h.n h.c ∧ h.n ≤ h.c ∧ h.n * 24 ≤ 140737488355328 ∧ RowsFresh w L h.A h.n e.rows
theorem EGood.kb {w w1 : World} {L : Nat} {h : EH} {e : Ev} (g : EGood w L h e) (k1 : KB 87 w w1) (k2 : KB 84 w w1) : EGood w1 L h e := ⟨g.1, g.2.1, g.2.2.1, g.2.2.2.kb k1 k2⟩
theorem EGood.ext {w w1 : World} {L : Nat} {h : EH} {e : Ev} (g : EGood w L h e) (k : Ext w w1) : EGood w1 L h e := g.kb (KB.ext k) (KB.ext k)
theorem EGood.le {w : World} {L L' : Nat} {h : EH} {e : Ev} (g : EGood w L h e) (hl : L' ≤ L) : EGood w L' h e := ⟨g.1, g.2.1, g.2.2.1, g.2.2.2.le hl⟩
theorem EGood.at_ {w : World} {L : Nat} {h : EH} {e : Ev} (g : EGood w L h e) : EvAt w e h.A h.n h.c := ⟨g.2.2.2.rows, g.2.1, g.2.2.1⟩
/-- events whose heads lie in a row of their own, from L on -/
def EvsOwn (w : World) (L : Nat) (v : Value) (n : Nat) (l : List Ev) : Prop :=
  ∃ hs : List EH, w.ownsRow L 66 7 v n (hs.flatMap EH.vals) ∧ hs.length = n ∧ l.length = n ∧ ∀ (i : Nat) (h : EH) (e : Ev), hs[i]? = some h → l[i]? = some e → EGood w L h e
section
variable {w w1 : World} {L L' n c : Nat} {A : Option Addr} {v : Value} {l : List Ev}
theorem EvsOwn.ext (h : EvsOwn w L v n l) (k : Ext w w1) : EvsOwn w1 L v n l := by
  obtain ⟨hs, h1, h2, h3, h4⟩ := h
  exact ⟨hs, own_ext h1 k, h2, h3, fun i x e a b => (h4 i x e a b).ext k⟩
theorem EvsOwn.kb (h : EvsOwn w L v n l) (k0 : KB 66 w w1) (k1 : KB 87 w w1) (k2 : KB 84 w w1) : EvsOwn w1 L v n l := by
  obtain ⟨hs, h1, h2, h3, h4⟩ := h
  exact ⟨hs, own_kb h1 k0, h2, h3, fun i x e a b => (h4 i x e a b).kb k1 k2⟩
theorem EvsOwn.le (h : EvsOwn w L v n l) (hl : L' ≤ L) : EvsOwn w L' v n l := by
  obtain ⟨hs, h1, h2, h3, h4⟩ := h
  exact ⟨hs, own_le h1 hl, h2, h3, fun i x e a b => (h4 i x e a b).le hl⟩
theorem EvsOwn.len (h : EvsOwn w L v n l) : l.length = n := h.elim fun _ h => h.2.2.1
theorem EvsOwn.nil (w : World) (L : Nat) : EvsOwn w L (.slice none 0 0) 0 [] := ⟨[], ⟨rfl, .inl ⟨rfl, rfl⟩⟩, rfl, rfl, fun i x e a _ => by simp at a⟩
theorem EvsOwn.at_ (h : EvsOwn w L v n l) : ∃ A c, v = .slice A n c ∧ n ≤ c ∧ c ≤ maxLen ∧ EvsAt w A n l := by
  obtain ⟨hs, h1, h2, h3, h4⟩ := h
  obtain ⟨A, c, hv, hc, hm, hsl, _⟩ := own_sl (f := EH.vals) (size := 7) EH.len h2 h1
  refine ⟨A, c, hv, hc, hm, h3, fun hn => ?_⟩
  obtain ⟨b, off, hA, hcs⟩ := hsl.2 hn
  refine ⟨b, off, hA, fun i e he => ?_⟩
  have hi : i < hs.length := by rw [h2, ← h3]; exact (List.getElem?_eq_some_iff.1 he).1
  have hx : hs[i]? = some hs[i] := List.getElem?_eq_getElem hi
  have g := h4 i _ e hx he
  refine ⟨hs[i].A, hs[i].n, hs[i].c, fun j u hu => ?_, g.at_⟩
  refine hcs i _ hx j u ?_
  rw [g.1, EH.of_vals]
  exact hu
theorem EvsOwn.evs (h : EvsOwn w L (.slice A n c) n l) : EvsAt w A n l := by
  obtain ⟨A', c', hv, _, _, h1⟩ := h.at_
  cases hv
  exact h1
/-- the head at a place is set anew -/
theorem EvsOwn.set {g k : Nat} {e : Ev} {A' : Option Addr} {n' c' : Nat} (h : EvsOwn w L (.slice (some ⟨g, 0, none⟩) n c) n l) (hk : k < n) (hL : L ≤ g) (hg : EGood w L (EH.of e A' n' c') e) :
    EvsOwn (w.setCells g (k * 7) (e.cells A' n' c').toList) L (.slice (some ⟨g, 0, none⟩) n c) n (l.set k e) := by
  obtain ⟨hs, h1, h2, h3, h4⟩ := h
  have hty : Typed w 66 g := own_typed h1 g rfl
  refine ⟨hs.set k (EH.of e A' n' c'), ?_, by simpa using h2, by simpa using h3, fun i x y hx hy => ?_⟩
  · rw [← flat_setMany EH.len hs k (EH.of e A' n' c') (by omega)]
    exact own_sets _ _ _ _ h1
  · have k1 : KB 87 w (w.setCells g (k * 7) (e.cells A' n' c').toList) := KB.sets (T' := 66) (by decide) _ _ _ hty
    have k2 : KB 84 w (w.setCells g (k * 7) (e.cells A' n' c').toList) := KB.sets (T' := 66) (by decide) _ _ _ hty
    by_cases hik : k = i
    · subst hik
      rw [List.getElem?_set_self (by omega)] at hx hy
      cases hx
      cases hy
      exact hg.kb k1 k2
    · rw [List.getElem?_set_ne hik] at hx hy
      exact (h4 i x y hx hy).kb k1 k2
/-- an event is appended -/
theorem EvsOwn.snoc {k : Nat} {e : Ev} {v' : Value} {A' : Option Addr} {n' c' : Nat} (h : EvsOwn w L v k l) (hg : EGood w L (EH.of e A' n' c') e) (hgr : w.grownBy w1 v.ownBlock)
    (hO : ∀ xs, w.ownsRow L 66 7 v k xs → w1.ownsRow L 66 7 v' (k + 1) (xs ++ (e.cells A' n' c').toList)) : EvsOwn w1 L v' (k + 1) (l ++ [e]) := by
  obtain ⟨hs, h1, h2, h3, h4⟩ := h
  have hty : ∀ q, v.ownBlock = some q → Typed w 66 q := own_typed h1
  have k1 : KB 87 w w1 := KB.grown hgr hty (by decide)
  have k2 : KB 84 w w1 := KB.grown hgr hty (by decide)
  refine ⟨hs ++ [EH.of e A' n' c'], ?_, by simp [h2], by simp [h3], fun i x y hx hy => ?_⟩
  · rw [List.flatMap_append]
    have := hO _ h1
    simpa [EH.of_vals] using this
  · by_cases hik : i < k
    · rw [List.getElem?_append_left (by omega)] at hx hy
      exact (h4 i x y hx hy).kb k1 k2
    · have hik' : i = k := by
        have := (List.getElem?_eq_some_iff.1 hx).1
        simp [h2] at this
        omega
      subst hik'
      rw [List.getElem?_append_right (by omega)] at hx hy
      simp only [h2, h3, Nat.sub_self, List.getElem?_cons_zero, Option.some.injEq] at hx hy
      subst hx hy
      exact hg.kb k1 k2
end

/-! ### documents of one's own -/
structure DocOwn (w : World) (L : Nat) (d : Doc) (h : DocH) : Prop where
  regs : w.ownsRow L 94 7 (.slice h.ra h.rn h.rc) h.rn (d.regs.flatMap Reg.vals)
  rlen : d.regs.length = h.rn
  evs : EvsOwn w L (.slice h.ea h.en h.ec) h.en d.evs
  coms : w.ownsRow L 78 8 (.slice h.ca h.cn h.cc) h.cn (d.coms.flatMap Com.vals)
  clen : d.coms.length = h.cn
theorem DocOwn.ext {w w1 : World} {L : Nat} {d : Doc} {h : DocH} (o : DocOwn w L d h) (k : Ext w w1) : DocOwn w1 L d h := ⟨own_ext o.regs k, o.rlen, o.evs.ext k, own_ext o.coms k, o.clen⟩
theorem DocOwn.kb {w w1 : World} {L : Nat} {d : Doc} {h : DocH} (o : DocOwn w L d h) (k1 : KB 94 w w1) (k2 : KB 66 w w1) (k3 : KB 87 w w1) (k4 : KB 84 w w1) (k5 : KB 78 w w1) : DocOwn w1 L d h :=
  ⟨own_kb o.regs k1, o.rlen, o.evs.kb k2 k3 k4, own_kb o.coms k5, o.clen⟩
theorem DocOwn.put {w : World} {L : Nat} {d : Doc} {h : DocH} (o : DocOwn w L d h) {g : Nat} {cs : Array Value} (hB : Blk w g 27 cs) (cs' : Array Value) : DocOwn (putB w g 27 cs') L d h :=
  o.kb (KB.put hB (by decide)) (KB.put hB (by decide)) (KB.put hB (by decide)) (KB.put hB (by decide)) (KB.put hB (by decide))
theorem DocOwn.le {w : World} {L L' : Nat} {d : Doc} {h : DocH} (o : DocOwn w L d h) (hl : L' ≤ L) : DocOwn w L' d h := ⟨own_le o.regs hl, o.rlen, o.evs.le hl, own_le o.coms hl, o.clen⟩
theorem regC_cells {w : World} {b o : Nat} {r : Reg} (h : Cells Reg.vals w b o r) : RegC w b o r := ⟨h 0 _ rfl, h 1 _ rfl, h 2 _ rfl, h 3 _ rfl, h 4 _ rfl, h 5 _ rfl, h 6 _ rfl⟩
theorem cells_regC {w : World} {b o : Nat} {r : Reg} (h : RegC w b o r) : Cells Reg.vals w b o r := by
  obtain ⟨h0, h1, h2, h3, h4, h5, h6⟩ := h
  intro j u hu
  match j, hu with
  | 0, hu => simp [Reg.vals] at hu; subst hu; exact h0
  | 1, hu => simp [Reg.vals] at hu; subst hu; exact h1
  | 2, hu => simp [Reg.vals] at hu; subst hu; exact h2
  | 3, hu => simp [Reg.vals] at hu; subst hu; exact h3
  | 4, hu => simp [Reg.vals] at hu; subst hu; exact h4
  | 5, hu => simp [Reg.vals] at hu; subst hu; exact h5
  | 6, hu => simp [Reg.vals] at hu; subst hu; exact h6
  | j + 7, hu => simp [Reg.vals] at hu
theorem own_slice {α : Type} {f : α → List Value} {size : Nat} (hf : ∀ x, (f x).length = size) {w : World} {base : Nat} {e : TypeId} {A : Option Addr} {c n : Nat} {l : List α} (hl : l.length = n)
    (h : w.ownsRow base e size (.slice A n c) n (l.flatMap f)) : n ≤ c ∧ c ≤ maxLen ∧ Sl w size (Cells f) A n l := by
  obtain ⟨A', c', hv, h1, h2, h3, _⟩ := own_sl hf hl h
  cases hv
  exact ⟨h1, h2, h3⟩
theorem DocOwn.at_ {w : World} {L : Nat} {d : Doc} {h : DocH} (o : DocOwn w L d h) : DocAt w d h :=
  ⟨Sl.change (own_slice (f := Reg.vals) (fun _ => rfl) o.rlen o.regs).2.2 fun _ _ _ => regC_cells, o.evs.evs, (own_slice (f := Com.vals) (fun _ => rfl) o.clen o.coms).2.2⟩
end Go.Proofs.YtagfedbdakmlgaaGreatDoor

/-! Allocs -/
namespace Go.Proofs.YtagfedbdakmlgaaGreatDoor
set_option linter.unusedVariables false
set_option linter.unusedSimpArgs false
open Go.RowKit

def valA (chain al : List Nat) (pv us : List Value) (gs : Nat → Option Nat) (j : Nat) : Value :=
  match chain.idxOf? j with
  | some i => us.getD i undef
  | none => if al.contains j then .pointer ((gs j).map fun g => ⟨g, 0, none⟩) else pv.getD j undef
def upd (gs : Nat → Option Nat) (j g : Nat) : Nat → Option Nat := fun k => if k = j then some g else gs k
theorem upd_self (gs : Nat → Option Nat) (j g : Nat) : upd gs j g j = some g := by simp [upd]
theorem upd_other (gs : Nat → Option Nat) {j k : Nat} (h : k ≠ j) (g : Nat) : upd gs j g k = gs k := by simp [upd, h]

def AlInv (ops : Array Oper) (chain al : List Nat) (pv : List Value) (a0 : Act) (J : List Value → (Nat → Option Nat) → World → Prop) (l : Array Bool) (a : Act) (w : World) : Prop :=
  l.size = ops.size ∧ a.defers = a0.defers ∧ a.tmps.size = a0.tmps.size ∧ (∀ s, (∀ j, dstO ops j = some s → l.getD j false = false) → a.tmps[s]? = a0.tmps[s]?) ∧
  (∀ j o, l.getD j false = true → ops[j]? = some o → ∀ d ∈ o.after, Region.binds .any d = true → l.getD d.on false = true) ∧
  ∃ (us : List Value) (gs : Nat → Option Nat), us.length ≤ chain.length ∧ (∀ i c, chain[i]? = some c → (l.getD c false = true ↔ i < us.length)) ∧ (∀ j, al.contains j = true → (l.getD j false = true ↔ (gs j).isSome = true)) ∧
    (∀ j s, l.getD j false = true → dstO ops j = some s → a.tmps[s]? = some (valA chain al pv us gs j)) ∧ J us gs w

/-- what an operation finds in the frame, by the region's tables -/
structure SeesA (slots : List (Option Nat)) (deps : List (List Nat)) (chain al : List Nat) (pv us : List Value) (gs : Nat → Option Nat) (a0 a : Act) (i : Nat) : Prop where
  old : ∀ (s : Nat) (v : Value), slots.contains (some s) = false → a0.eval (.tmp s) = v → a.eval (.tmp s) = v
  pure : ∀ (j s : Nat) (v : Value), (deps.getD i []).contains j = true → slots[j]? = some (some s) → chain.contains j = false → al.contains j = false → pv[j]? = some v → a.eval (.tmp s) = v
  link : ∀ (p j s : Nat) (v : Value), chain[p]? = some j → (deps.getD i []).contains j = true → slots[j]? = some (some s) → us[p]? = some v → a.eval (.tmp s) = v
  ptr : ∀ (j s : Nat), (deps.getD i []).contains j = true → slots[j]? = some (some s) → chain.contains j = false → al.contains j = true → ∃ g, gs j = some g ∧ a.eval (.tmp s) = .pointer (some ⟨g, 0, none⟩)
  made : ∀ (j : Nat), (deps.getD i []).contains j = true → al.contains j = true → (gs j).isSome = true
  did : ∀ (p j : Nat), chain[p]? = some j → (deps.getD i []).contains j = true → p < us.length
  olds : ∀ (p j s : Nat) (v : Value), chain[p]? = some j → slots[j]? = some (some s) → us.length ≤ p → a0.eval (.tmp s) = v → a.eval (.tmp s) = v

def frameA (ops : Array Oper) (chain al : List Nat) (pv us : List Value) (gs : Nat → Option Nat) : List (Nat × Value) := (List.range ops.size).filterMap fun j => (dstO ops j).map fun s => (s, valA chain al pv us gs j)

theorem wp_region_allocs {P : Program} {ops : Array Oper} {Q : Exit → Act → World → Prop} {id : Nat} {a0 : Act} {W : World} (slots : List (Option Nat)) (deps : List (List Nat)) (chain al : List Nat) (pv : List Value) (obj : Nat → Obj) (J : List Value → (Nat → Option Nat) → World → Prop) (hm : P.follows .mixedOrders = true) (hdst : dstOK2 ops a0.tmps.size = true) (hord : ordB 0 ops.toList = true)
    (hs : ops.toList.map (·.dst) = slots) (hd : ops.toList.map depsOf = deps) (hg : ops.toList.all (fun o => o.guard.isNone) = true) (hch : chainB ops chain = true) (hnd : chain.Nodup) (hal : (al.all fun j => decide (j < ops.size) && !chain.contains j) = true) (h0 : J [] (fun _ => none) W.drew)
    (halloc : ∀ (i : Nat) (o : Oper), ops[i]? = some o → al.contains i = true → ∀ (a : Act) (w : World) (K : Act → World → Prop), K (a.put o.dst (.pointer (some ⟨w.heap.size, 0, none⟩))) (w.alloc (obj i)) → Oper.wp P o a w K Q)
    (hJal : ∀ (i : Nat), al.contains i = true → ∀ us gs w, J us gs w → gs i = none → (∀ p c, chain[p]? = some c → (deps.getD c []).contains i = true → us.length ≤ p) → J us (upd gs i w.heap.size) (w.alloc (obj i)))
    (hpure : ∀ (i : Nat) (o : Oper), ops[i]? = some o → chain.contains i = false → al.contains i = false → ∀ (a : Act) (w : World) (us : List Value) (gs : Nat → Option Nat) (K : Act → World → Prop), J us gs w → SeesA slots deps chain al pv us gs a0 a i → (∀ p c, chain[p]? = some c → (deps.getD c []).contains i = true → us.length ≤ p) → K (a.put o.dst (pv.getD i undef)) w → Oper.wp P o a w K Q)
    (hlink : ∀ (p c : Nat) (o : Oper), chain[p]? = some c → ops[c]? = some o → ∀ (a : Act) (w : World) (us : List Value) (gs : Nat → Option Nat) (K : Act → World → Prop), us.length = p → J us gs w → SeesA slots deps chain al pv us gs a0 a c → (∀ v w', J (us ++ [v]) gs w' → K (a.put o.dst v) w') → Oper.wp P o a w K Q)
    (hQ : ∀ us gs w, us.length = chain.length → (∀ j, al.contains j = true → (gs j).isSome = true) → J us gs w → Q .normal { a0 with tmps := (frameA ops chain al pv us gs).foldl (fun t p => t.setIfInBounds p.1 p.2) a0.tmps } w) :
    (Code.region id ops true).wp P Q a0 W := by
  have hgd : ∀ (i : Nat) (o : Oper), ops[i]? = some o → o.guard = none := fun i o ho => by
    have := List.all_eq_true.1 hg o (by simpa using Array.mem_of_getElem? ho)
    simpa using this
  have hdep : ∀ (i : Nat) (o : Oper), ops[i]? = some o → deps.getD i [] = depsOf o := fun i o ho => by
    rw [← hd, List.getD_eq_getElem?_getD, List.getElem?_map]
    have : ops.toList[i]? = some o := by simpa using ho
    rw [this]; rfl
  have hsl : ∀ j s, slots[j]? = some (some s) → dstO ops j = some s := fun j s h => by
    rw [← hs, List.getElem?_map, Option.map_eq_some_iff] at h
    obtain ⟨o', h1, h2⟩ := h
    have h1' : ops[j]? = some o' := by simpa using h1
    simp [dstO, h1', h2]
  have hallt : ∀ j, al.contains j = true → j < ops.size ∧ chain.contains j = false := fun j hj => by
    have := List.all_eq_true.1 hal j (by simpa using hj)
    simpa using this
  refine wp_region_any hm ?_
  refine wpAny_inv (AlInv ops chain al pv a0 J) (fun l a w h => h.1) ?_ (hordB hord) ?_ _ _ _ _ (by simp) ?_
  · intro l a w hI i o ho hl hall K hK
    obtain ⟨hsz0, hdf, hsz, hnot, hcl, us, gs, hul, hcu, hga, hval, hJ⟩ := hI
    have hi : i < ops.size := (Array.getElem?_eq_some_iff.1 ho).1
    have hnl := not_listed hl
    have hself : (l.setIfInBounds i true).getD i false = true := getD_set_self (by omega)
    have hdone : ∀ j, (deps.getD i []).contains j = true → l.getD j false = true := fun j hj => by
      rw [hdep i o ho] at hj
      obtain ⟨d, hd1, hd2, hd3⟩ := edge_of (edge_deps hj)
      rw [← hd3]
      exact hall d hd1 hd2
    have hfind : SeesA slots deps chain al pv us gs a0 a i := by
      refine ⟨fun s v hc hv => ?_, fun j s v he hj hc ha hv => ?_, fun p j s v hp he hj hv => ?_, fun j s he hj hc ha => ?_, fun j he ha => (hga j ha).1 (hdone j he), fun p j hp he => (hcu p j hp).1 (hdone j he), fun p j s v hp hj hl0 hv => by
        have := hnot s fun j' hj' => by
          have e : j' = j := dst_inj hdst hj' (hsl j s hj)
          subst e
          cases hx : l.getD j' false
          · rfl
          · exact absurd ((hcu p _ hp).1 hx) (by omega)
        rw [← hv]
        simp [Act.eval, this]⟩
      · have hn : some s ∉ ops.toList.map (·.dst) := by rw [hs]; simpa using hc
        have := hnot s (fun j hj => by
          unfold dstO at hj
          rw [Option.bind_eq_some_iff] at hj
          obtain ⟨o', h1, h2⟩ := hj
          exact absurd (List.mem_map.2 ⟨o', by simpa using Array.mem_of_getElem? h1, h2⟩) hn)
        rw [← hv]
        simp [Act.eval, this]
      · refine eval_of ?_
        rw [hval j s (hdone j he) (hsl j s hj)]
        have : chain.idxOf? j = none := idxOf_none (by simpa using hc)
        simp only [valA, this, ha]
        simp [hv]
      · refine eval_of ?_
        rw [hval j s (hdone j he) (hsl j s hj)]
        have : chain.idxOf? j = some p := idxOf_some hnd hp
        simp only [valA, this]
        simp [hv]
      · obtain ⟨g, hg'⟩ := Option.isSome_iff_exists.1 ((hga j ha).1 (hdone j he))
        refine ⟨g, hg', eval_of ?_⟩
        rw [hval j s (hdone j he) (hsl j s hj)]
        have : chain.idxOf? j = none := idxOf_none (by simpa using hc)
        simp only [valA, this, ha, hg']
        rfl
    have hclosed : ∀ j o', (l.setIfInBounds i true).getD j false = true → ops[j]? = some o' → ∀ d ∈ o'.after, Region.binds .any d = true → (l.setIfInBounds i true).getD d.on false = true := by
      intro j o' hj ho' d hd hb
      have mono : ∀ k, l.getD k false = true → (l.setIfInBounds i true).getD k false = true := fun k hk => by
        by_cases hik : i = k
        · subst hik; exact hself
        · rw [getD_set_other hik]; exact hk
      by_cases hij : i = j
      · subst hij
        rw [ho] at ho'
        cases ho'
        exact mono _ (hall d hd hb)
      · rw [getD_set_other hij] at hj
        exact mono _ (hcl j o' hj ho' d hd hb)
    have hput : ∀ v s, (∀ j, dstO ops j = some s → (l.setIfInBounds i true).getD j false = false) → (a.put o.dst v).tmps[s]? = a0.tmps[s]? := fun v s hsn => by
      have hsn' : ∀ j, dstO ops j = some s → l.getD j false = false := fun j hj => by
        have h1 := hsn j hj
        by_cases hij : i = j
        · subst hij; rw [hself] at h1; cases h1
        · rwa [getD_set_other hij] at h1
      cases hd : o.dst with
      | none => simp only [Act.put]; exact hnot s hsn'
      | some t =>
        have : dstO ops i = some t := by unfold dstO; rw [ho]; exact hd
        have hts : t ≠ s := fun e => by
          have h1 := hsn i (by rw [this, e])
          rw [hself] at h1; cases h1
        simp only [Act.put]
        rw [Array.getElem?_setIfInBounds_ne hts]
        exact hnot s hsn'
    have hputd : ∀ v, (a.put o.dst v).defers = a0.defers ∧ (a.put o.dst v).tmps.size = a0.tmps.size := fun v => by
      cases hd : o.dst with
      | none => exact ⟨hdf, hsz⟩
      | some t => exact ⟨hdf, by simpa [Act.put] using hsz⟩
    have hputv : ∀ us' gs' v, valA chain al pv us' gs' i = v → (∀ j, l.getD j false = true → valA chain al pv us' gs' j = valA chain al pv us gs j) → ∀ j s, (l.setIfInBounds i true).getD j false = true → dstO ops j = some s → (a.put o.dst v).tmps[s]? = some (valA chain al pv us' gs' j) := by
      intro us' gs' v hv hsame j s hj hd
      by_cases hij : i = j
      · subst hij
        have hod : o.dst = some s := by unfold dstO at hd; rw [ho] at hd; exact hd
        rw [hod, hv]
        have := dst_lt hdst hd
        simp [Act.put, hsz, this]
      · rw [getD_set_other hij] at hj
        rw [hsame j hj]
        cases hod : o.dst with
        | none => simp only [Act.put]; exact hval j s hj hd
        | some t =>
          have h1 : dstO ops i = some t := by unfold dstO; rw [ho]; exact hod
          have hts : t ≠ s := fun e => hij (dst_inj hdst h1 (by rw [hd, e]))
          simp only [Act.put]
          rw [Array.getElem?_setIfInBounds_ne hts]
          exact hval j s hj hd
    have hlim : i ∉ chain → ∀ p c, chain[p]? = some c → (deps.getD c []).contains i = true → us.length ≤ p := fun hic p c hp he => by
      rcases Nat.lt_or_ge p us.length with h | h
      · have hclt := chainB_lt hch hp
        have hoc : ops[c]? = some ops[c] := by simp [hclt]
        rw [hdep c _ hoc] at he
        obtain ⟨d, hd1, hd2, hd3⟩ := edge_of (edge_deps he)
        have := hcl c _ ((hcu p c hp).2 h) hoc d hd1 hd2
        rw [hd3, hnl] at this
        cases this
      · exact h
    refine want_none (hgd i o ho) ?_
    by_cases hc : i ∈ chain
    · obtain ⟨p, hp⟩ := List.getElem?_of_mem hc
      have hle : us.length ≤ p := by
        rcases Nat.lt_or_ge p us.length with h | h
        · have := (hcu p i hp).2 h
          rw [hnl] at this
          cases this
        · exact h
      have hge : p ≤ us.length := by
        cases p with
        | zero => omega
        | succ q =>
          have hpl := (List.getElem?_eq_some_iff.1 hp).1
          have hq : chain[q]? = some chain[q] := List.getElem?_eq_getElem (by omega)
          obtain ⟨o', ho', he⟩ := chainB_edge hch hq hp
          rw [ho] at ho'
          cases ho'
          obtain ⟨d, hd1, hd2, hd3⟩ := edge_of he
          have := (hcu q _ hq).1 (by rw [← hd3]; exact hall d hd1 hd2)
          omega
      have hpl := (List.getElem?_eq_some_iff.1 hp).1
      refine hlink p i o hp ho a w us gs K (by omega) hJ hfind (fun v w' hJ' => ?_)
      apply hK
      have hlen : (us ++ [v]).length = us.length + 1 := by simp
      refine ⟨by simpa using hsz0, (hputd v).1, (hputd v).2, hput v, hclosed, us ++ [v], gs, by rw [hlen]; omega, fun q c hq => ?_, fun j hj => ?_, hputv _ gs v ?_ ?_, hJ'⟩
      · rw [hlen]
        by_cases hic : i = c
        · subst hic
          have : q = p := by
            have h1 := idxOf_some hnd hq
            have h2 := idxOf_some hnd hp
            rw [h1] at h2
            exact Option.some.inj h2
          rw [hself]
          simp
          omega
        · rw [getD_set_other hic, hcu q c hq]
          have : q ≠ p := fun e => hic (by rw [e, hp] at hq; exact Option.some.inj hq)
          omega
      · have : i ≠ j := fun e => by
          have := (hallt j hj).2
          rw [← e] at this
          exact absurd hc (by simpa using this)
        rw [getD_set_other this]
        exact hga j hj
      · simp only [valA, idxOf_some hnd hp]
        rw [List.getD_eq_getElem?_getD, List.getElem?_append_right (by omega)]
        have : p - us.length = 0 := by omega
        simp [this]
      · intro j hj
        unfold valA
        cases hx : chain.idxOf? j with
        | none => rfl
        | some q =>
          have hq : chain[q]? = some j := by
            obtain ⟨h1, h2, _⟩ := List.idxOf?_eq_some_iff.1 hx
            rw [List.getElem?_eq_getElem h1, h2]
          have := (hcu q j hq).1 hj
          simp only [List.getD_eq_getElem?_getD]
          rw [List.getElem?_append_left this]
    · have hcf : chain.contains i = false := by simpa using hc
      have hcq : ∀ q c, chain[q]? = some c → ((l.setIfInBounds i true).getD c false = true ↔ q < us.length) := fun q c hq => by
        have : i ≠ c := fun e => hc (by rw [e]; exact List.mem_of_getElem? hq)
        rw [getD_set_other this]
        exact hcu q c hq
      cases ha : al.contains i with
      | true =>
        have hgn : gs i = none := by
          have := hga i ha
          rw [hnl] at this
          cases h : gs i with
          | none => rfl
          | some g => rw [h] at this; simp at this
        refine halloc i o ho ha a w K ?_
        apply hK
        refine ⟨by simpa using hsz0, (hputd _).1, (hputd _).2, hput _, hclosed, us, upd gs i w.heap.size, hul, hcq, fun j hj => ?_, hputv us _ _ ?_ (fun j hj => ?_), hJal i ha us gs w hJ hgn (hlim hc)⟩
        · by_cases hij : j = i
          · subst hij
            rw [hself, upd_self]
            simp
          · rw [getD_set_other (Ne.symm hij), upd_other _ hij]
            exact hga j hj
        · simp only [valA, idxOf_none hc, ha, upd_self]
          rfl
        · have hij : j ≠ i := fun e => by rw [e, hnl] at hj; cases hj
          simp only [valA, upd_other _ hij]
      | false =>
        refine hpure i o ho hcf ha a w us gs K hJ hfind (hlim hc) ?_
        apply hK
        refine ⟨by simpa using hsz0, (hputd _).1, (hputd _).2, hput _, hclosed, us, gs, hul, hcq, fun j hj => ?_, hputv us gs _ ?_ (fun _ _ => rfl), hJ⟩
        · have : i ≠ j := fun e => by rw [e, hj] at ha; cases ha
          rw [getD_set_other this]
          exact hga j hj
        · simp only [valA, idxOf_none hc, ha]
          rfl
  · rintro l a w ⟨hsz0, hdf, hsz, hnot, hcl, us, gs, hul, hcu, hga, hval, hJ⟩ hall
    have hlen : us.length = chain.length := by
      rcases Nat.lt_or_ge us.length chain.length with h | h
      · have hq : chain[us.length]? = some chain[us.length] := List.getElem?_eq_getElem h
        have := (hcu _ _ hq).1 (hall _ (chainB_lt hch hq))
        omega
      · omega
    have hfr := frame_eq (a0 := a0.tmps) (frameA ops chain al pv us gs) a.tmps a0.tmps hsz (fun p hp => by
      obtain ⟨j, hj, hv⟩ := List.mem_filterMap.1 hp
      rw [Option.map_eq_some_iff] at hv
      obtain ⟨s, hd, rfl⟩ := hv
      exact hval j s (hall j (by simpa using hj)) hd) (fun s hsn => hnot s fun j hj => absurd (by
        have hjl : j < ops.size := by
          unfold dstO at hj
          rw [Option.bind_eq_some_iff] at hj
          obtain ⟨o', h1, _⟩ := hj
          exact (Array.getElem?_eq_some_iff.1 h1).1
        rw [List.mem_map]
        exact ⟨(s, valA chain al pv us gs j), List.mem_filterMap.2 ⟨j, by simpa using hjl, by rw [hj]; rfl⟩, rfl⟩) hsn)
    have : a = { a0 with tmps := (frameA ops chain al pv us gs).foldl (fun t p => t.setIfInBounds p.1 p.2) a0.tmps } := by
      obtain ⟨at_, ad⟩ := a
      simp only at hfr hdf
      rw [hfr, hdf]
    rw [this]
    exact hQ us gs w hlen (fun j hj => (hga j hj).1 (hall j (hallt j hj).1)) hJ
  · refine ⟨by simp, rfl, rfl, fun _ _ => rfl, fun j o h => ?_, [], fun _ => none, by simp, fun i c hc => ?_, fun j hj => ?_, fun j s h => ?_, h0⟩
    · simp [Array.getElem?_replicate] at h
      split at h <;> simp at h
    · have : (Array.replicate ops.size false).getD c false = false := by
        simp [Array.getElem?_replicate]
        split <;> rfl
      rw [this]
      simp
    · have : (Array.replicate ops.size false).getD j false = false := by
        simp [Array.getElem?_replicate]
        split <;> rfl
      rw [this]
      simp
    · simp [Array.getElem?_replicate] at h
      split at h <;> simp at h
end Go.Proofs.YtagfedbdakmlgaaGreatDoor

/-! Kept -/
namespace Go.Proofs.YtagfedbdakmlgaaGreatDoor
set_option linter.unusedVariables false
set_option linter.unusedSimpArgs false
open Go.RowKit Go.Maps

/-- the maps stay as they are -/
def KM (w w' : World) : Prop := ∀ (b : Nat) (es : Array MapEntry) (cl : Nat), w.heap[b]? = some (Obj.map es cl) → w'.heap[b]? = some (Obj.map es cl)
/-- only rows of elements of type T have changed, and there is more memory -/
structure Only (T : TypeId) (w w' : World) : Prop where
  kb : ∀ T', T' ≠ T → KB T' w w'
  km : KM w w'
section
variable {T T' : TypeId} {w w1 w2 : World}
theorem Only.refl (w : World) : Only T w w := ⟨fun _ _ => KB.refl w, fun _ _ _ h => h⟩
theorem Only.trans (h : Only T w w1) (k : Only T w1 w2) : Only T w w2 := ⟨fun T' hn => (h.kb T' hn).trans (k.kb T' hn), fun b es cl hb => k.km b es cl (h.km b es cl hb)⟩
theorem Only.ext (k : Ext w w1) : Only T w w1 := ⟨fun _ _ => KB.ext k, fun b _ _ hb => (k.block b (Array.getElem?_eq_some_iff.1 hb).1).trans hb⟩
theorem Only.put {g : Nat} {cs cs' : Array Value} (hB : Blk w g T cs) : Only T w (putB w g T cs') := ⟨fun _ hn => KB.put hB hn, fun b es cl hb => by
  have hn : g ≠ b := fun e => by subst e; rw [show w.heap[g]? = _ from hB] at hb; cases hb
  unfold putB
  simp only
  rw [Array.getElem?_setIfInBounds_ne hn]
  exact hb⟩
theorem Only.set {p : Addr} {u : Value} (hT : Typed w T p.block) : Only T w (w.setCell p u) := ⟨fun _ hn => KB.set hT hn, fun b es cl hb => by
  have hn : b ≠ p.block := fun e => by subst e; obtain ⟨cur, hc⟩ := hT; rw [hc] at hb; cases hb
  rw [RowKit.Below.heap_setCell _ _ _ _ hn]
  exact hb⟩
theorem Only.sets {g : Nat} : ∀ (vs : List Value) (o : Nat) (w : World), Typed w T g → Only T w (w.setCells g o vs)
  | [], _, w, _ => Only.refl w
  | v :: vs, o, w, h => (Only.set (p := ⟨g, o, none⟩) h).trans (Only.sets vs (o + 1) _ (h.setCell _ _))
theorem Only.grown {row : Option Nat} (hg : w.grownBy w1 row) (hr : ∀ q, row = some q → Typed w T q) : Only T w w1 := ⟨fun _ hn => KB.grown hg hr hn, fun b es cl hb => by
  refine (hg.block b (Array.getElem?_eq_some_iff.1 hb).1 (fun e => ?_)).trans hb
  obtain ⟨cur, hc⟩ := hr b e.symm
  rw [hc] at hb; cases hb⟩
theorem Blk.kb {g : Nat} {cs : Array Value} (h : Blk w g T cs) (k : KB T w w1) : Blk w1 g T cs := k g cs h
theorem Blk.only {g : Nat} {cs : Array Value} (h : Blk w g T' cs) (k : Only T w w1) (hn : T' ≠ T) : Blk w1 g T' cs := (k.kb T' hn) g cs h
end

/-- a map that leads each number of the events l to its place and one -/
def MapI (w : World) (T : TypeId) (B : Nat) (l : List Ev) : Prop := ∃ (n : Nat) (D : DataW Unit), w.ownsMap Tryz.prog 2 (plainElem Tryz.prog T) B n D ∧ n ≤ l.length ∧ IsMap D ∧
  ∀ id k, IW id → findE l id = some k → D.atKey (.int .i64 id) (.lit (.int .i64 0)) = .lit (.int .i64 ((k : Int) + 1))
theorem MapI.made (w : World) (T : TypeId) : MapI (w.alloc (.map #[] 0)) T w.heap.size [] :=
  ⟨0, .map [], World.ownsMap_made w _ _ _, Nat.le_refl _, isMap_empty, fun _ _ _ h => by simp [findE] at h⟩
theorem MapI.km {w w1 : World} {T : TypeId} {B : Nat} {l : List Ev} (h : MapI w T B l) (k : KM w w1) : MapI w1 T B l := by
  obtain ⟨n, D, ⟨es, cl, h1, h2⟩, h3⟩ := h
  exact ⟨n, D, ⟨es, cl, k B es cl h1, h2⟩, h3⟩
theorem MapI.ext {w w1 : World} {T : TypeId} {B : Nat} {l : List Ev} (h : MapI w T B l) (k : Ext w w1) : MapI w1 T B l := h.km (Only.ext (T := 0) k).km
theorem MapI.put {w1 : World} {T : TypeId} {B n : Nat} {l : List Ev} {D : DataW Unit} {x : Ev} (hn : n ≤ l.length) (hm : IsMap D)
    (ha : ∀ id k, IW id → findE l id = some k → D.atKey (.int .i64 id) (.lit (.int .i64 0)) = .lit (.int .i64 ((k : Int) + 1))) (hx : IW x.id) (hno : findE l x.id = none)
    (h : w1.ownsMap Tryz.prog 2 (plainElem Tryz.prog T) B (n + 1) (D.put (.int .i64 x.id) (.lit (.int .i64 ((l.length : Int) + 1))))) : MapI w1 T B (l ++ [x]) := by
  refine ⟨n + 1, _, h, by simp; omega, hm.put _ _, fun id k hid hk => ?_⟩
  rw [findE_snoc] at hk
  by_cases he : id = x.id
  · subst he
    rw [hno] at hk
    simp at hk
    subst hk
    exact atKey_put_same hm hx.isKey _ _
  · rw [atKey_put_other (by simpa using he)]
    refine ha id k hid ?_
    cases hf : findE l id with
    | some j => rw [hf] at hk; simpa using hk
    | none => rw [hf] at hk; simp [Ne.symm he] at hk

/-- a variable that is made at whatever time and filled at the chain's place p -/
structure VarJ (T : TypeId) (al p : Nat) (cs0 cs1 : Array Value) (r0 : Value) (W : World) (us : List Value) (gs : Nat → Option Nat) (w : World) : Prop where
  ext : Ext W w
  val : ∀ u, us[0]? = some u → u = r0
  va : ∀ g, gs al = some g → W.heap.size ≤ g ∧ Blk w g T (if us.length ≤ p then cs0 else cs1)
section
variable {T : TypeId} {al p : Nat} {cs0 cs1 : Array Value} {r0 : Value} {W w w2 : World} {us : List Value} {gs : Nat → Option Nat} {v : Value}
theorem VarJ.start (W : World) : VarJ T al p cs0 cs1 r0 W [] (fun _ => none) W.drew := ⟨(Ext.refl W).drew, fun u hu => by simp at hu, fun g h => by cases h⟩
theorem VarJ.alloc (h : VarJ T al p cs0 cs1 r0 W us gs w) (hl : us.length ≤ p) : VarJ T al p cs0 cs1 r0 W us (upd gs al w.heap.size) (w.alloc (.cells cs0 T)) := by
  refine ⟨h.ext.alloc _, h.val, fun g hg => ?_⟩
  rw [upd_self] at hg
  obtain rfl : w.heap.size = g := Option.some.inj hg
  rw [if_pos hl]
  exact ⟨h.ext.size, Blk.new w _ _⟩
theorem VarJ.call (h : VarJ T al p cs0 cs1 r0 W [] gs w) (hl : 0 < p) (hx : Ext w w2) (hv : v = r0) : VarJ T al p cs0 cs1 r0 W ([] ++ [v]) gs w2 := by
  refine ⟨h.ext.trans hx, fun u hu => by simp at hu; subst hu; exact hv, fun g hg => ?_⟩
  obtain ⟨h1, h2⟩ := h.va g hg
  rw [if_pos (by simp)] at h2
  rw [if_pos (by simp; omega)]
  exact ⟨h1, h2.ext hx⟩
theorem VarJ.blk {g : Nat} (h : VarJ T al p cs0 cs1 r0 W us gs w) (hg : gs al = some g) (hl : us.length ≤ p) : Blk w g T cs0 := by
  have := (h.va g hg).2
  rwa [if_pos hl] at this
theorem VarJ.store {g : Nat} (h : VarJ T al p cs0 cs1 r0 W us gs w) (hg : gs al = some g) (hl : us.length = p) (hv : us = [] → v = r0) : VarJ T al p cs0 cs1 r0 W (us ++ [v]) gs (putB w g T cs1) := by
  obtain ⟨h1, h2⟩ := h.va g hg
  refine ⟨h.ext.put h1 _ _, fun u hu => ?_, fun g' hg' => ?_⟩
  · cases us with
    | nil => simp at hu; subst hu; exact hv rfl
    | cons a us => exact h.val u (by simpa using hu)
  · rw [hg] at hg'
    obtain rfl := Option.some.inj hg'
    rw [if_neg (by simp; omega)]
    exact ⟨h1, (h.blk hg (by omega)).put _⟩
theorem VarJ.end_ {g : Nat} (h : VarJ T al p cs0 cs1 r0 W us gs w) (hg : gs al = some g) (hl : p < us.length) : W.heap.size ≤ g ∧ Blk w g T cs1 := by
  have := h.va g hg
  rwa [if_neg (by omega)] at this
end
theorem getElem_ltq {α : Type} {l : List α} {p : Nat} (h : p < l.length) : ∃ v, l[p]? = some v := ⟨_, List.getElem?_eq_getElem h⟩
/-- an element of a list of events of one's own -/
theorem EvsOwn.head {w : World} {L n c k : Nat} {A : Option Addr} {l : List Ev} {e : Ev} (h : EvsOwn w L (.slice A n c) n l) (hk : l[k]? = some e) : ∃ g A' n' c', A = some ⟨g, 0, none⟩ ∧ L ≤ g ∧ g < w.heap.size ∧ Typed w 66 g ∧
    (∀ j u, (e.cells A' n' c').toList[j]? = some u → w.cell? ⟨g, k * 7 + j, none⟩ = some u) ∧ (∀ j, w.frozen? ⟨g, j, none⟩ = false) ∧ EGood w L (EH.of e A' n' c') e := by
  obtain ⟨hs, h1, h2, h3, h4⟩ := h
  have hkn : k < n := by rw [← h3]; exact (List.getElem?_eq_some_iff.1 hk).1
  obtain ⟨g, cap, hv, hb, hlt⟩ := own_form h1 (by omega)
  injection hv with hA hn hc
  subst hA hc
  obtain ⟨x, hx⟩ : ∃ x, hs[k]? = some x := ⟨_, List.getElem?_eq_getElem (by omega)⟩
  have hg := h4 k x e hx hk
  refine ⟨g, x.A, x.n, x.c, rfl, hb, hlt, own_typed h1 g rfl, fun j u hu => ?_, fun j => h1.frozenAt j, by rw [← hg.1]; exact hg⟩
  have hj : j < 7 := (List.getElem?_eq_some_iff.1 hu).1
  rw [h1.cellAt (k * 7 + j) (by omega), flatMap_at EH.vals 7 EH.len hs k x j hx hj, hg.1, EH.of_vals]
  exact hu
/-- an event's number and span are set anew -/
theorem EvsOwn.edit {w : World} {L n c k g : Nat} {l : List Ev} {e : Ev} (i a b : Int) (h : EvsOwn w L (.slice (some ⟨g, 0, none⟩) n c) n l) (hk : l[k]? = some e) :
    EvsOwn (w.setCells g (k * 7) [.int .i64 i, .int .i64 a, .int .i64 b]) L (.slice (some ⟨g, 0, none⟩) n c) n (l.set k ⟨i, a, b, e.region, e.kind, e.speaker, e.rows⟩) := by
  obtain ⟨hs, h1, h2, h3, h4⟩ := h
  have hkn : k < n := by rw [← h3]; exact (List.getElem?_eq_some_iff.1 hk).1
  have hty : Typed w 66 g := own_typed h1 g rfl
  obtain ⟨x, hx⟩ : ∃ x, hs[k]? = some x := ⟨_, List.getElem?_eq_getElem (by omega)⟩
  have hg := h4 k x e hx hk
  have kb : ∀ {T : TypeId}, T ≠ 66 → KB T w (w.setCells g (k * 7) [.int .i64 i, .int .i64 a, .int .i64 b]) := fun hne => KB.sets hne _ _ _ hty
  refine ⟨hs.set k ⟨i, a, b, e.region, e.kind, e.speaker, x.A, x.n, x.c⟩, ?_, by simpa using h2, by simpa using h3, fun j y z hy hz => ?_⟩
  · have e1 := flat_set EH.len hs k 0 x ⟨i, x.inn, x.out, x.region, x.kind, x.speaker, x.A, x.n, x.c⟩ (.int .i64 i) hx rfl (by omega)
    have hx1 : (hs.set k ⟨i, x.inn, x.out, x.region, x.kind, x.speaker, x.A, x.n, x.c⟩)[k]? = some ⟨i, x.inn, x.out, x.region, x.kind, x.speaker, x.A, x.n, x.c⟩ := List.getElem?_set_self (by omega)
    have e2 := flat_set EH.len _ k 1 _ ⟨i, a, x.out, x.region, x.kind, x.speaker, x.A, x.n, x.c⟩ (.int .i64 a) hx1 rfl (by omega)
    rw [List.set_set] at e2
    have hx2 : (hs.set k ⟨i, a, x.out, x.region, x.kind, x.speaker, x.A, x.n, x.c⟩)[k]? = some ⟨i, a, x.out, x.region, x.kind, x.speaker, x.A, x.n, x.c⟩ := List.getElem?_set_self (by omega)
    have e3 := flat_set EH.len _ k 2 _ ⟨i, a, b, x.region, x.kind, x.speaker, x.A, x.n, x.c⟩ (.int .i64 b) hx2 rfl (by omega)
    rw [List.set_set] at e3
    have h5 := own_sets [.int .i64 i, .int .i64 a, .int .i64 b] (k * 7) w _ h1
    have e4 : setMany (hs.flatMap EH.vals) (k * 7) [.int .i64 i, .int .i64 a, .int .i64 b] = (hs.set k ⟨i, a, b, x.region, x.kind, x.speaker, x.A, x.n, x.c⟩).flatMap EH.vals := by
      rw [← e3, ← e2, ← e1]
      rfl
    rw [e4] at h5
    have hgx := hg.1
    have er : x.region = e.region := by rw [hgx]; rfl
    have ek : x.kind = e.kind := by rw [hgx]; rfl
    have es : x.speaker = e.speaker := by rw [hgx]; rfl
    rw [er, ek, es] at h5
    exact h5
  · by_cases hkj : k = j
    · subst hkj
      rw [List.getElem?_set_self (by omega)] at hy hz
      cases hy
      cases hz
      exact ⟨rfl, hg.2.1, hg.2.2.1, hg.2.2.2.kb (kb (by decide)) (kb (by decide))⟩
    · rw [List.getElem?_set_ne hkj] at hy hz
      exact (h4 j y z hy hz).kb (kb (by decide)) (kb (by decide))
/-- 'out = append(out, x)' in a drawn region: the element is built, appended, assigned -/
structure ApJ (T : TypeId) (size : Nat) (cells : Array Value) (base : Nat) (v : Value) (k : Nat) (xs : List Value) (W : World) (us : List Value) (w' : World) : Prop where
  only : Only T W w'
  nil : us = [] → Ext W w'
  one : ∀ u, us = [u] → ∃ g, u = .slice (some ⟨g, 0, none⟩) 1 1 ∧ W.heap.size ≤ g ∧ Blk w' g T cells ∧ Ext W w'
  two : ∀ u u1, us = [u, u1] → ∃ w5, Ext W w5 ∧ w5.grownBy w' v.ownBlock ∧ w'.ownsRow base T size u1 (k + 1) (xs ++ cells.toList)
  three : ∀ u u1 u2, us = [u, u1, u2] → u2 = u1 ∧ ∃ w5, Ext W w5 ∧ w5.grownBy w' v.ownBlock ∧ w'.ownsRow base T size u1 (k + 1) (xs ++ cells.toList)
section
variable {T : TypeId} {size : Nat} {cells : Array Value} {base : Nat} {v : Value} {k : Nat} {xs : List Value} {W w' w2 : World} {u0 u1 : Value}
theorem ApJ.start (W : World) : ApJ T size cells base v k xs W [] W.drew := ⟨Only.ext (Ext.refl W).drew, fun _ => (Ext.refl W).drew, fun u h => by simp at h, fun u u1 h => by simp at h, fun u u1 u2 h => by simp at h⟩
theorem ApJ.build (h : ApJ T size cells base v k xs W [] w') : ApJ T size cells base v k xs W ([] ++ [.slice (some ⟨w'.heap.size, 0, none⟩) 1 1]) (w'.alloc (.cells cells T)) :=
  ⟨Only.ext ((h.nil rfl).alloc _), fun h => by simp at h, fun u hu => by simp at hu; subst hu; exact ⟨_, rfl, (h.nil rfl).size, Blk.new w' _ _, (h.nil rfl).alloc _⟩, fun u u1 h => by simp at h, fun u u1 u2 h => by simp at h⟩
theorem ApJ.app (hx : Ext W w') (hv : ∀ q, v.ownBlock = some q → Typed w' T q) (hg : w'.grownBy w2 v.ownBlock) (ho : w2.ownsRow base T size u1 (k + 1) (xs ++ cells.toList)) : ApJ T size cells base v k xs W ([u0] ++ [u1]) w2 :=
  ⟨(Only.ext hx).trans (Only.grown hg hv), fun h => by simp at h, fun u h => by simp at h, fun u u1 h => by simp at h; obtain ⟨rfl, rfl⟩ := h; exact ⟨w', hx, hg, ho⟩, fun u u1 u2 h => by simp at h⟩
theorem ApJ.asg (h : ApJ T size cells base v k xs W [u0, u1] w') : ApJ T size cells base v k xs W ([u0, u1] ++ [u1]) w' :=
  ⟨h.only, fun h => by simp at h, fun u h => by simp at h, fun u u1 h => by simp at h, fun a b c e => by simp at e; obtain ⟨rfl, rfl, rfl⟩ := e; exact ⟨rfl, h.two _ _ rfl⟩⟩
end
/-- an event's number and span are stored, one after the other, in a drawn region -/
structure StJ (g o : Nat) (i a b : Value) (W : World) (us : List Value) (w' : World) : Prop where
  only : Only 66 W w'
  nil : us = [] → Ext W w'
  one : ∀ u, us = [u] → ∃ w5, Ext W w5 ∧ w' = w5.setCell ⟨g, o, none⟩ i
  two : ∀ u u1, us = [u, u1] → ∃ w5, Ext W w5 ∧ w' = w5.setCells g o [i, a, b]
section
variable {g o : Nat} {i a b : Value} {W w' : World} {u0 u1 : Value}
theorem StJ.start (W : World) : StJ g o i a b W [] W.drew := ⟨Only.ext (Ext.refl W).drew, fun _ => (Ext.refl W).drew, fun u h => by simp at h, fun u u1 h => by simp at h⟩
theorem StJ.first (h : StJ g o i a b W [] w') (hT : Typed W 66 g) : StJ g o i a b W ([] ++ [u0]) (w'.setCell ⟨g, o, none⟩ i) :=
  ⟨(Only.ext (h.nil rfl)).trans (Only.set (p := ⟨g, o, none⟩) (hT.ext (h.nil rfl))), fun h => by simp at h, fun u hu => ⟨w', h.nil rfl, rfl⟩, fun u u1 h => by simp at h⟩
theorem StJ.second (h : StJ g o i a b W [u0] w') (hT : Typed W 66 g) : StJ g o i a b W ([u0] ++ [u1]) (w'.setCells g (o + 1) [a, b]) := by
  obtain ⟨w5, hx, rfl⟩ := h.one u0 rfl
  exact ⟨h.only.trans (Only.sets _ _ _ ((hT.ext hx).setCell _ _)), fun h => by simp at h, fun u h => by simp at h, fun u v e => ⟨w5, hx, rfl⟩⟩
end
theorem putB_grown (w : World) (g : Nat) (T : TypeId) (cs : Array Value) : w.grownBy (putB w g T cs) (some g) :=
  ⟨rfl, rfl, rfl, by simp [putB], fun i _ hi => by unfold putB; simp only; rw [Array.getElem?_setIfInBounds_ne (fun e => hi (by rw [e]))]⟩
end Go.Proofs.YtagfedbdakmlgaaGreatDoor

/-! RatioQ -/
namespace Go.Proofs.YtagfedbdakmlgaaGreatDoor
set_option linter.unusedVariables false
set_option linter.unusedSimpArgs false
open Go.RowKit

theorem size_any (n : Int) (w : World) (h : 0 ≤ n) (h9 : n ≤ 9223372036854775807) : Calls Tryz.prog 220 #[.int .i64 n] w fun e w' => e = .returned (.int .u64 n) ∧ w = w' := by
  go_enter Tryz.func220, Tryz.ntmps220
  go_wp2
  go_ret
  exact ⟨rfl, rfl⟩
theorem known_any (m : Int) (w : World) (h1 : 1 ≤ m) (h3 : m ≤ 3) : Calls Tryz.prog 219 #[.int .u8 m] w fun e w' => e = .returned (.bool true) ∧ w = w' := by
  go_enter Tryz.func219, Tryz.ntmps219
  go_wp2
  go_ret
  exact ⟨rfl, rfl⟩
/-- is a remainder rounded up? (mode 1: down, 2: to the nearest, 3: up) -/
def awayB (r d m : Int) : Bool := if r = 0 then false else if m = 1 then false else if m = 3 then true else decide (d - r ≤ r)
set_option maxRecDepth 100000 in
set_option maxHeartbeats 1000000 in
theorem away_any (r d m : Int) (w : World) (hr : 0 ≤ r) (hd : r < d) (h9 : d ≤ 9223372036854775807) (h1 : 1 ≤ m) (h3 : m ≤ 3) : Calls Tryz.prog 221 #[.bool false, .int .u64 r, .int .u64 d, .int .u8 m] w fun e w' => e = .returned (.bool (awayB r d m)) ∧ w = w' := by
  by_cases h0 : r = 0
  · subst h0
    go_enter Tryz.func221, Tryz.ntmps221
    go_wp2
    go_ret
    exact ⟨rfl, rfl⟩
  · have e0 : (r == 0) = false := by simpa using h0
    have hm : m = 1 ∨ m = 2 ∨ m = 3 := by omega
    rcases hm with rfl | rfl | rfl
    · have HF : Hid (awayB r d 1 = false) := by show _ = _; unfold awayB; rw [if_neg h0]; rfl
      go_enter Tryz.func221, Tryz.ntmps221
      go_wp2
      go_ret
      exact ⟨ret_bool HF.out.symm, rfl⟩
    · have HF : Hid (awayB r d 2 = decide (d - r ≤ r)) := by show _ = _; unfold awayB; rw [if_neg h0]; rfl
      by_cases hg : d - r < r
      · go_enter Tryz.func221, Tryz.ntmps221
        go_wp2
        go_ret
        exact ⟨ret_bool (by rw [HF.out, decide_eq_true (by omega)]), rfl⟩
      · by_cases hq : r = d - r
        · have hq' : (r == d - r) = true := by simpa using hq
          have HQ := Lib.hid hq
          clear hq
          go_enter Tryz.func221, Tryz.ntmps221
          go_wp2
          go_ret
          exact ⟨ret_bool (by rw [HF.out, decide_eq_true (by have := HQ.out; omega)]), rfl⟩
        · have hq' : (r == d - r) = false := by simpa using hq
          go_enter Tryz.func221, Tryz.ntmps221
          go_wp2
          go_ret
          exact ⟨ret_bool (by rw [HF.out, decide_eq_false (by omega)]), rfl⟩
    · have HF : Hid (awayB r d 3 = true) := by show _ = _; unfold awayB; rw [if_neg h0]; rfl
      go_enter Tryz.func221, Tryz.ntmps221
      go_wp2
      go_ret
      exact ⟨ret_bool HF.out.symm, rfl⟩
theorem quo_u64 {n d : Int} {w : World} (hn : 0 ≤ n) (hd : 1 ≤ d) (hn9 : n ≤ 9223372036854775807) (hd9 : d ≤ 9223372036854775807) : (do eqGuard .quo 218 (.tmp 24) (.tmp 26) (.int .u64 n) (.int .u64 d); binOp .quo 218 (.int .u64 n) (.int .u64 d) : Sem Value).run Tryz.prog w = .ok (.int .u64 (n / d)) w := by
  have h1 : 0 ≤ n / d := Int.ediv_nonneg hn (by omega)
  have h2 : n / d ≤ n := Int.ediv_le_self _ hn
  have hd0 : (d == 0) = false := by simp; omega
  have e : n.tdiv d = n / d := Int.tdiv_eq_ediv_of_nonneg hn
  have hz : ¬ d = 0 := by omega
  go_simp
  simp [IntKind.wrap, IntKind.bits, IntKind.signed]
  omega
theorem rem_u64 {n d : Int} {w : World} (hn : 0 ≤ n) (hd : 1 ≤ d) (hn9 : n ≤ 9223372036854775807) (hd9 : d ≤ 9223372036854775807) : (do eqGuard .rem 218 (.tmp 29) (.tmp 31) (.int .u64 n) (.int .u64 d); binOp .rem 218 (.int .u64 n) (.int .u64 d) : Sem Value).run Tryz.prog w = .ok (.int .u64 (n % d)) w := by
  have h1 : 0 ≤ n % d := Int.emod_nonneg _ (by omega)
  have h2 : n % d < d := Int.emod_lt_of_pos _ (by omega)
  have e : n.tmod d = n % d := Int.tmod_eq_emod_of_nonneg hn
  have hz : ¬ d = 0 := by omega
  go_simp
/-- a quotient of numbers that are not negative -/
def quoI (n d m : Int) : Int := if awayB (n % d) d m = true then n / d + 1 else n / d
set_option maxRecDepth 100000 in
set_option maxHeartbeats 2000000 in
theorem Quotient_any (n d m : Int) (w : World) (hn0 : 0 ≤ n) (hn9 : n ≤ 4611686018427387904) (hd1 : 1 ≤ d) (hd9 : d ≤ 9223372036854775807) (h1 : 1 ≤ m) (h3 : m ≤ 3) :
    Calls Tryz.prog 204 #[.int .i64 n, .int .i64 d, .int .u8 m] w fun e w' => e = .returned (.tuple #[.int .i64 (quoI n d m), .int .i64 0]) ∧ Ext w w' := by
  have hq0 : 0 ≤ n / d := Int.ediv_nonneg hn0 (by omega)
  have hq1 : n / d ≤ n := Int.ediv_le_self _ hn0
  have hr0 : 0 ≤ n % d := Int.emod_nonneg _ (by omega)
  have hr1 : n % d < d := Int.emod_lt_of_pos _ (by omega)
  have hd0 : (d == 0) = false := by simp; omega
  have hnl : decide (n < 0) = false := by simp; omega
  have hdl : decide (d < 0) = false := by simp; omega
  go_enter Tryz.func204, Tryz.ntmps204
  go_wp2_with fail
  refine (known_any m _ h1 h3).mono ?_
  rintro e w1 ⟨rfl, rfl⟩
  go_wp2_with fail
--@gen quo
  refine wp_region_vals [.int .i64 (n), .int .u64 (n), .int .i64 (d), .int .u64 (d), .int .u64 (n / d), .int .i64 (n), .int .u64 (n), .int .i64 (d), .int .u64 (d), .int .u64 (n % d), .int .u64 (n / d), .int .u64 (n % d)] [(23, .int .i64 (n)), (24, .int .u64 (n)), (25, .int .i64 (d)), (26, .int .u64 (d)), (27, .int .u64 (n / d)), (28, .int .i64 (n)), (29, .int .u64 (n)), (30, .int .i64 (d)), (31, .int .u64 (d)), (32, .int .u64 (n % d)), (9, .int .u64 (n / d)), (10, .int .u64 (n % d))] (by kernel_rfl) (by kernel_rfl) (by kernel_rfl) rfl rfl ?_ ?_
  · intro i o ho a w' K' hx hn hd hk
    match i, ho with
    | 0, ho =>
      simp only [List.getElem?_toArray, List.getElem?_cons_zero, List.getElem?_cons_succ, Option.some.injEq] at ho
      subst ho
      refine want_none rfl ?_
      exact wp_move _ _ rfl ((hn 0 rfl).trans (show _ = .int .i64 (n) from rfl)) (hk _ rfl w' (Ext.refl _))
    | 1, ho =>
      simp only [List.getElem?_toArray, List.getElem?_cons_zero, List.getElem?_cons_succ, Option.some.injEq] at ho
      subst ho
      refine want_none rfl ?_
      exact wp_call1s rfl (eval_of (hd 0 23 (.int .i64 (n)) rfl rfl rfl)) Tryz.call220 ((size_any n w' hn0 (by omega)).mono fun _ _ h => ⟨h.1, h.2 ▸ Ext.refl _⟩) (hk _ rfl)
    | 2, ho =>
      simp only [List.getElem?_toArray, List.getElem?_cons_zero, List.getElem?_cons_succ, Option.some.injEq] at ho
      subst ho
      refine want_none rfl ?_
      exact wp_move _ _ rfl ((hn 1 rfl).trans (show _ = .int .i64 (d) from rfl)) (hk _ rfl w' (Ext.refl _))
    | 3, ho =>
      simp only [List.getElem?_toArray, List.getElem?_cons_zero, List.getElem?_cons_succ, Option.some.injEq] at ho
      subst ho
      refine want_none rfl ?_
      exact wp_call1s rfl (eval_of (hd 2 25 (.int .i64 (d)) rfl rfl rfl)) Tryz.call220 ((size_any d w' (by omega) hd9).mono fun _ _ h => ⟨h.1, h.2 ▸ Ext.refl _⟩) (hk _ rfl)
    | 4, ho =>
      simp only [List.getElem?_toArray, List.getElem?_cons_zero, List.getElem?_cons_succ, Option.some.injEq] at ho
      subst ho
      refine want_none rfl ?_
      exact wp_bin rfl (eval_of (hd 1 24 (.int .u64 (n)) rfl rfl rfl)) (eval_of (hd 3 26 (.int .u64 (d)) rfl rfl rfl)) (by exact quo_u64 hn0 hd1 (by omega) hd9) (hk _ rfl w' (Ext.refl _))
    | 5, ho =>
      simp only [List.getElem?_toArray, List.getElem?_cons_zero, List.getElem?_cons_succ, Option.some.injEq] at ho
      subst ho
      refine want_none rfl ?_
      exact wp_move _ _ rfl ((hn 0 rfl).trans (show _ = .int .i64 (n) from rfl)) (hk _ rfl w' (Ext.refl _))
    | 6, ho =>
      simp only [List.getElem?_toArray, List.getElem?_cons_zero, List.getElem?_cons_succ, Option.some.injEq] at ho
      subst ho
      refine want_none rfl ?_
      exact wp_call1s rfl (eval_of (hd 5 28 (.int .i64 (n)) rfl rfl rfl)) Tryz.call220 ((size_any n w' hn0 (by omega)).mono fun _ _ h => ⟨h.1, h.2 ▸ Ext.refl _⟩) (hk _ rfl)
    | 7, ho =>
      simp only [List.getElem?_toArray, List.getElem?_cons_zero, List.getElem?_cons_succ, Option.some.injEq] at ho
      subst ho
      refine want_none rfl ?_
      exact wp_move _ _ rfl ((hn 1 rfl).trans (show _ = .int .i64 (d) from rfl)) (hk _ rfl w' (Ext.refl _))
    | 8, ho =>
      simp only [List.getElem?_toArray, List.getElem?_cons_zero, List.getElem?_cons_succ, Option.some.injEq] at ho
      subst ho
      refine want_none rfl ?_
      exact wp_call1s rfl (eval_of (hd 7 30 (.int .i64 (d)) rfl rfl rfl)) Tryz.call220 ((size_any d w' (by omega) hd9).mono fun _ _ h => ⟨h.1, h.2 ▸ Ext.refl _⟩) (hk _ rfl)
    | 9, ho =>
      simp only [List.getElem?_toArray, List.getElem?_cons_zero, List.getElem?_cons_succ, Option.some.injEq] at ho
      subst ho
      refine want_none rfl ?_
      exact wp_bin rfl (eval_of (hd 6 29 (.int .u64 (n)) rfl rfl rfl)) (eval_of (hd 8 31 (.int .u64 (d)) rfl rfl rfl)) (by exact rem_u64 hn0 hd1 (by omega) hd9) (hk _ rfl w' (Ext.refl _))
    | 10, ho =>
      simp only [List.getElem?_toArray, List.getElem?_cons_zero, List.getElem?_cons_succ, Option.some.injEq] at ho
      subst ho
      refine want_none rfl ?_
      exact wp_assignx _ _ rfl (eval_of (hd 4 27 (.int .u64 (n / d)) rfl rfl rfl)) (hk _ rfl w' (Ext.refl _))
    | 11, ho =>
      simp only [List.getElem?_toArray, List.getElem?_cons_zero, List.getElem?_cons_succ, Option.some.injEq] at ho
      subst ho
      refine want_none rfl ?_
      exact wp_assignx _ _ rfl (eval_of (hd 9 32 (.int .u64 (n % d)) rfl rfl rfl)) (hk _ rfl w' (Ext.refl _))
    | i + 12, ho => simp at ho
--@gend quo
  intro w1 hx
  simp only [Act.put, List.foldl_cons, List.foldl_nil, List.setIfInBounds_toArray, List.set_cons_zero, List.set_cons_succ]
  have HQ : Hid (∀ b, awayB (n % d) d m = b → quoI n d m = if b = true then n / d + 1 else n / d) := fun b hb => by unfold quoI; rw [hb]
  go_wp2_with fail
  refine (size_any d _ (by omega) hd9).mono ?_
  rintro e w2 ⟨rfl, rfl⟩
  go_wp2_with fail
  refine (away_any (n % d) d m _ hr0 hr1 hd9 h1 h3).mono ?_
  rintro e w2 ⟨rfl, rfl⟩
  cases hb : awayB (n % d) d m
  · have HB := Lib.hid hb
    clear hb
    go_wp2_with fail
    go_ret2
    exact ⟨by rw [HQ.out _ HB.out]; rfl, hx⟩
  · have HB := Lib.hid hb
    clear hb
    go_wp2_with fail
    go_ret2
    exact ⟨by rw [HQ.out _ HB.out]; rfl, hx⟩
end Go.Proofs.YtagfedbdakmlgaaGreatDoor
