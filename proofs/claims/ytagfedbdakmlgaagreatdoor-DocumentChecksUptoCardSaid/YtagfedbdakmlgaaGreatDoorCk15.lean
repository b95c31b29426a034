/- Laid together: Positions that move from one text to another, plainly. The walks of the other functions 'runes'. The characters on which a comment stands, plainly; calls in a drawn region, one after the other. A comment closed, a comment removed: plainly; own rows of comments under a store, cut, mended. The walk of document.New. A comment moved from one text to another, plainly. The walk of document.Follow. The walk of comment.Add. The walks of comment.find and comment.Quoted. The walk of comment.Move. The walk of the law package's awake: the chapter's example. The walk of the law package's awake: the chapter's example. The walk of document.Head. -/
import Derived.Test.YtagfedbdakmlgaaGreatDoorRows
import Derived.Test.YtagfedbdakmlgaaGreatDoorCk14
import Derived.Test.YtagfedbdakmlgaaGreatDoorCk09
import Derived.Test.YtagfedbdakmlgaaGreatDoorCk13
import Derived.Test.YtagfedbdakmlgaaGreatDoorCk05
import Derived.Test.YtagfedbdakmlgaaGreatDoorCk12
import Derived.Laws.OwnMore
import Derived.Test.YtagfedbdakmlgaaGreatDoorCk06
import Derived.Test.YtagfedbdakmlgaaGreatDoorCk04

/-! MoveP -/
namespace Go.Proofs.YtagfedbdakmlgaaGreatDoor.Mv
set_option linter.unusedVariables false
set_option linter.unusedSimpArgs false
/-- the length of the common beginning -/
def pre : List Int → List Int → Nat
  | x :: a, y :: b => if x = y then pre a b + 1 else 0
  | _, _ => 0
theorem pre_le : ∀ a b : List Int, pre a b ≤ a.length ∧ pre a b ≤ b.length
  | [], b => by simp [pre]
  | x :: a, [] => by simp [pre]
  | x :: a, y :: b => by
    have := pre_le a b
    simp only [pre, List.length_cons]; split <;> omega
theorem pre_eq : ∀ (a b : List Int) (k : Nat), k < pre a b → a[k]? = b[k]?
  | [], b, k, h => by simp [pre] at h
  | x :: a, [], k, h => by simp [pre] at h
  | x :: a, y :: b, k, h => by
    simp only [pre] at h
    split at h
    · rename_i e
      subst e
      cases k with
      | zero => rfl
      | succ k => simpa using pre_eq a b k (by omega)
    · omega
theorem pre_ne : ∀ (a b : List Int) (x y : Int), a[pre a b]? = some x → b[pre a b]? = some y → x ≠ y
  | [], b, x, y, h, _ => by simp at h
  | u :: a, [], x, y, _, h => by simp at h
  | u :: a, v :: b, x, y, h1, h2 => by
    simp only [pre] at h1 h2
    split at h1
    · rename_i e
      rw [if_pos e] at h2
      simp only [List.getElem?_cons_succ] at h1 h2
      exact pre_ne a b x y h1 h2
    · rename_i e
      rw [if_neg e] at h2
      simp only [List.getElem?_cons_zero, Option.some.injEq] at h1 h2
      subst h1 h2
      exact e
/-- a loop over the common beginning: a place that all places ahead have reached -/
theorem pre_step {a b : List Int} {k : Nat} {x y : Int} (h : k ≤ pre a b) (h1 : a[k]? = some x) (h2 : b[k]? = some y) (he : x = y) : k + 1 ≤ pre a b := by
  rcases Nat.lt_or_ge k (pre a b) with hl | hl
  · exact hl
  · obtain rfl : k = pre a b := by omega
    exact absurd he (pre_ne a b x y h1 h2)
theorem pre_stop {a b : List Int} {k : Nat} (h : k ≤ pre a b) (hs : a.length ≤ k ∨ b.length ≤ k ∨ ∃ x y, a[k]? = some x ∧ b[k]? = some y ∧ x ≠ y) : k = pre a b := by
  have := pre_le a b
  rcases hs with hs | hs | ⟨x, y, h1, h2, hne⟩
  · omega
  · omega
  · rcases Nat.lt_or_ge k (pre a b) with hl | hl
    · have := pre_eq a b k hl
      rw [h1, h2] at this
      exact absurd (Option.some.inj this) hne
    · omega
/-- the length of the common end behind p -/
def suf (a b : List Int) (p : Nat) : Nat := pre (a.drop p).reverse (b.drop p).reverse
theorem suf_le (a b : List Int) (p : Nat) : suf a b p ≤ a.length - p ∧ suf a b p ≤ b.length - p := by
  have := pre_le (a.drop p).reverse (b.drop p).reverse
  simpa [suf] using this
theorem rev_at (a : List Int) (p k : Nat) (h : k < a.length - p) : (a.drop p).reverse[k]? = a[a.length - 1 - k]? := by
  rw [List.getElem?_reverse (by simpa using h), List.getElem?_drop]
  congr 1
  simp only [List.length_drop]; omega
theorem suf_step {a b : List Int} {p k : Nat} {x y : Int} (h : k ≤ suf a b p) (ha : k < a.length - p) (hb : k < b.length - p) (h1 : a[a.length - 1 - k]? = some x) (h2 : b[b.length - 1 - k]? = some y) (he : x = y) : k + 1 ≤ suf a b p :=
  pre_step h (by rw [rev_at a p k ha]; exact h1) (by rw [rev_at b p k hb]; exact h2) he
theorem suf_stop {a b : List Int} {p k : Nat} (h : k ≤ suf a b p) (hs : a.length - p ≤ k ∨ b.length - p ≤ k ∨ ∃ x y, k < a.length - p ∧ k < b.length - p ∧ a[a.length - 1 - k]? = some x ∧ b[b.length - 1 - k]? = some y ∧ x ≠ y) : k = suf a b p := by
  refine pre_stop h ?_
  rcases hs with hs | hs | ⟨x, y, g1, g2, h1, h2, hne⟩
  · exact .inl (by simpa using hs)
  · exact .inr (.inl (by simpa using hs))
  · exact .inr (.inr ⟨x, y, by rw [rev_at a p k g1]; exact h1, by rw [rev_at b p k g2]; exact h2, hne⟩)
/-- where a beginning, an end comes to lie -/
def from_ (n m p s : Nat) (i : Int) : Int := if (n : Int) - s ≤ i then i + m - n else if i < p then i else m - s
def to_ (n m p s : Nat) (i : Int) : Int := if i ≤ p then i else if (n : Int) - s < i then i + m - n else p
def clamp (n : Nat) (i : Int) : Int := min (max i 0) n
def move (a b : List Int) (i : Int) (e : Bool) : Int :=
  if e = true then to_ a.length b.length (pre a b) (suf a b (pre a b)) (clamp a.length i) else from_ a.length b.length (pre a b) (suf a b (pre a b)) (clamp a.length i)
theorem ends (a b : List Int) : pre a b + suf a b (pre a b) ≤ a.length ∧ pre a b + suf a b (pre a b) ≤ b.length := by
  have h1 := pre_le a b
  have h2 := suf_le a b (pre a b)
  omega
end Go.Proofs.YtagfedbdakmlgaaGreatDoor.Mv

/-! Runes3 -/
namespace Go.Proofs.YtagfedbdakmlgaaGreatDoor
set_option linter.unusedVariables false
set_option linter.unusedSimpArgs false
open Go.RowKit
set_option maxRecDepth 100000 in
set_option maxHeartbeats 1000000 in
theorem DRunes_any (s : ByteArray) (w : World) (hs : s.size ≤ 35184372088831) :
    Calls Tryz.prog 138 #[.string s] w (RunesPost s w) := by
  have h1 := Ext.refl w
  go_enter Tryz.func138, Tryz.ntmps138
  go_wp2_with fail
  go_loopw [3] (fun v wr => RunesRel s w w.heap.size v wr) (fun _ wr => s.size - wr.iterPos w.heap.size)
  case atStart => exact ⟨0, [], w.iter_heap s 0, h1.iter s 0, rfl, Nat.le_refl _, ⟨rfl, .inl ⟨rfl, rfl⟩⟩⟩
  case round =>
    obtain ⟨pos, l, hk, hx, hp, hle, hown⟩ := hrel
    have hpos0 := Lib.hid (iterPos_of hk)
    have HP := Lib.hid hp
    clear hp
    by_cases hlt : pos < s.size
    · have hn := fun ty => Lib.run_next_any_at (P := Tryz.prog) wr _ s pos ty hk hlt
      have hstep := Lib.hid (runes_step s pos hlt)
      have hw := dec_pos s pos hlt
      have hk2 := Lib.iterAt_heap wr _ s pos (pos + (Utf8.decode s pos).2) hk
      have hx2 := hx.iterAt (Nat.le_refl _) s (pos + (Utf8.decode s pos).2)
      have hown2 := own_iterAt hown (k := w.heap.size) (by omega) s (pos + (Utf8.decode s pos).2)
      obtain ⟨W1, hW1⟩ : ∃ W1, W1 = wr.iterAt w.heap.size s (pos + (Utf8.decode s pos).2) := ⟨_, rfl⟩
      rw [← hW1] at hn hk2 hx2 hown2
      have hlt9 : w.heap.size < W1.heap.size := (Array.getElem?_eq_some_iff.1 hk2).1
      clear hW1 hk hown hx
      have HK := Lib.hid hk2
      clear hk2
      go_wp2_with (at_builtin; refine wpList_append1 rfl (.tmp 11) (.tmp 13) 111 rfl info_rune Tryz.underlying111 rfl (by decide) (hown2.alloc _) (by exact rfl) W1.heap.size _ (by exact rfl) (by exact Blk.new' rfl) (by exact rfl) (by simp [Value.oneCell']) (by omega) (by simp [maxLen]; omega) (by simp; omega) ?_; intro v' w3 hown3 hgr)
      have hk3 : w3.heap[w.heap.size]? = some (.stringIter s (pos + (Utf8.decode s pos).2)) := by
        rw [hgr.block w.heap.size (by simp; omega) (fun h => by have := own_lt hown2 _ h.symm; omega), Below.heap_alloc _ _ _ hlt9]
        exact HK.out
      refine ⟨⟨pos + (Utf8.decode s pos).2, l ++ [((Utf8.decode s pos).1 : Int)], hk3, (hx2.alloc _).grown hgr (fun q hq => by have := own_lt hown2 q hq; omega), ?_, ?_, ?_⟩, ?_⟩
      · rw [HP.out, hstep.out]; simp
      · rw [List.length_append, List.length_singleton]; omega
      · rw [List.length_append, List.flatMap_append]; exact hown3
      · rw [iterPos_of hk3, hpos0.out]; omega
    · have hn := fun ty => Lib.run_next_end_at (P := Tryz.prog) wr _ s pos ty hk hlt
      have hl : runes s 0 = l := by rw [HP.out, runes_end s pos hlt]; simp
      obtain ⟨A, c, rfl, hc, _, hsl, _⟩ := own_sl (f := fun x : Int => [Value.int .i32 x]) (size := 1) (fun _ => rfl) rfl hown
      have HL := Lib.hid hl
      have HX := Lib.hid hx
      clear hl hx hown HP
      go_wp2_with fail
      go_ret
      exact ⟨A, l.length, c, rfl, by rw [HL.out]; exact hsl, hc, HX.out⟩
theorem RunesAt.ext {w w1 : World} {A : Option Addr} {n : Nat} {l : List Int} (h : RunesAt w A n l) (k : Ext w w1) : RunesAt w1 A n l := Sl.ext (Cells.stays _) h k
theorem RunesAt.cell {w : World} {A : Option Addr} {n : Nat} {l : List Int} (h : RunesAt w A n l) {i : Nat} (hi : i < n) : ∃ b off x, A = some ⟨b, off, none⟩ ∧ l[i]? = some x ∧ w.cell? ⟨b, off + i, none⟩ = some (.int .i32 x) := by
  obtain ⟨b, off, x, hA, hx, hc⟩ := h.at_ hi
  exact ⟨b, off, x, hA, hx, by simpa using hc 0 (.int .i32 x) rfl⟩
theorem runesAt_len (s : ByteArray) : ∀ f pos, (runesAt s f pos).length ≤ f
  | 0, _ => Nat.le_refl _
  | f + 1, pos => by
    unfold runesAt
    split
    · have := runesAt_len s f (pos + (Utf8.decode s pos).2); simp only [List.length_cons]; omega
    · simp
theorem runes_len (s : ByteArray) : (runes s 0).length ≤ s.size := runesAt_len s s.size 0
def PreRel (W : World) (a b : List Int) (v : Value) (wr : World) : Prop := ∃ k : Nat, k ≤ Mv.pre a b ∧ v = .int .i64 k ∧ Ext W wr
def SufRel (W : World) (a b : List Int) (v : Value) (wr : World) : Prop := ∃ k : Nat, k ≤ Mv.suf a b (Mv.pre a b) ∧ v = .int .i64 k ∧ Ext W wr
end Go.Proofs.YtagfedbdakmlgaaGreatDoor

/-! QuoteP -/
namespace Go.Proofs.YtagfedbdakmlgaaGreatDoor
set_option linter.unusedVariables false
set_option linter.unusedSimpArgs false
open Go.RowKit
def qstep (fr til : Int) (acc : ByteArray) (p : Int × Nat) : ByteArray := if fr ≤ (p.2 : Int) ∧ (p.2 : Int) < til then acc ++ Utf8.encode p.1 else acc
/-- the characters from fr on up to til -/
def quoteT (fr til : Int) (l : List Int) : ByteArray := l.zipIdx.foldl (qstep fr til) ⟨#[]⟩
def Doc.cfErr (d : Doc) (id : Int) : Int := if d.err ≠ 0 then d.err else if findCI d.coms id < 0 then 6 else 0
def Doc.cfIdx (d : Doc) (id : Int) : Int := if d.cfErr id = 0 then findCI d.coms id else 0
/-- what Quoted comes to -/
def Doc.quX (d : Doc) (id : Int) : ByteArray × Int :=
  if d.err ≠ 0 then (⟨#[]⟩, d.err) else match findC d.coms id with
    | none => (⟨#[]⟩, 6)
    | some k => match d.coms[k]? with
      | none => (⟨#[]⟩, 6)
      | some c => if c.lost = true then (⟨#[]⟩, 17) else match findE d.evs c.ev with
        | none => (⟨#[]⟩, 6)
        | some m => match d.evs[m]? with
          | none => (⟨#[]⟩, 6)
          | some x => (quoteT c.fr c.til (runes ⟨x.text.toArray⟩ 0), 0)
section
variable {d : Doc} {id : Int} {k m : Nat} {c : Com} {x : Ev}
end
/-- results of calls, one after the other -/
structure QJ (ps : List (Value → World → Prop)) (W : World) (us : List Value) (w' : World) : Prop where
  ext : Ext W w'
  val : ∀ (i : Nat) (u : Value) (p : Value → World → Prop), us[i]? = some u → ps[i]? = some p → p u w'
def QSt (ps : List (Value → World → Prop)) : Prop := ∀ p ∈ ps, ∀ u w w', Ext w w' → p u w → p u w'
theorem QJ.start (ps : List (Value → World → Prop)) (W : World) : QJ ps W [] W.drew := ⟨(Ext.refl W).drew, fun i u p h => by simp at h⟩
theorem QJ.push {ps : List (Value → World → Prop)} {W w' w2 : World} {us : List Value} {v : Value} (h : QJ ps W us w') (hst : QSt ps) (hx : Ext w' w2) (hv : ∀ p : Value → World → Prop, ps[us.length]? = some p → p v w2) : QJ ps W (us ++ [v]) w2 :=
  ⟨h.ext.trans hx, fun i u p hu hp => by
    by_cases hi : i < us.length
    · rw [List.getElem?_append_left hi] at hu
      exact hst p (List.mem_of_getElem? hp) u w' w2 hx (h.val i u p hu hp)
    · rw [List.getElem?_append_right (by omega)] at hu
      have hl := (List.getElem?_eq_some_iff.1 hu).1
      simp at hl
      have hi' : i = us.length := by omega
      subst hi'
      simp at hu
      subst hu
      exact hv p hp⟩
end Go.Proofs.YtagfedbdakmlgaaGreatDoor

/-! CloseP -/
namespace Go.Proofs.YtagfedbdakmlgaaGreatDoor
set_option linter.unusedVariables false
set_option linter.unusedSimpArgs false
open Go.RowKit
/-- a document and an error -/
abbrev DE := Doc × Int
def DEPost (X : DE) (w : World) (en : Ending) (w' : World) : Prop :=
  ∃ h', en = .returned (.tuple #[.agg (X.1.cells h'), .int .i64 X.2]) ∧ DocOwn w' w.heap.size X.1 h' ∧ Ext w w'
theorem dePost_err {X : DE} {e : Int} {w w' : World} (he : X = (Doc.zero, e)) (hx : Ext w w') : DEPost X w (.returned (.tuple #[.agg docZero, .int .i64 e])) w' := by
  subst he
  exact ⟨docH0, by rw [docZero_cells], docZero_own _ _, hx⟩
def Com.shut (c : Com) : Com := ⟨c.id, c.ev, c.fr, c.til, c.author, c.text, true, c.lost⟩
def Doc.withComs (d : Doc) (l : List Com) : Doc := ⟨d.title, d.lang, d.rate, d.drop, d.last, d.regs, d.evs, l⟩
/-- what Close comes to -/
def Doc.clX (d : Doc) (id : Int) : DE :=
  if d.err ≠ 0 then (Doc.zero, d.err) else match findC d.coms id with
    | none => (Doc.zero, 6)
    | some k => match d.coms[k]? with
      | none => (Doc.zero, 6)
      | some c => if c.done = true then (Doc.zero, 17) else (d.withComs (d.coms.set k c.shut), 0)
/-- what Remove comes to -/
def Doc.rmX (d : Doc) (id : Int) : DE :=
  if d.err ≠ 0 then (Doc.zero, d.err) else match findC d.coms id with
    | none => (Doc.zero, 6)
    | some k => (d.withComs (d.coms.take k ++ d.coms.drop (k + 1)), 0)
section
variable {d : Doc} {id : Int} {k : Nat} {c : Com}
end
/-- a cell of an element is stored -/
theorem flatMap_setC {α : Type} {f : α → List Value} {s : Nat} (hf : ∀ x, (f x).length = s) : ∀ {l : List α} {k j : Nat} {x y : α} {u : Value}, l[k]? = some x → f y = (f x).set j u → j < s → (l.flatMap f).set (k * s + j) u = (l.set k y).flatMap f
  | [], k, j, x, y, u, hx, _, _ => by simp at hx
  | z :: l, 0, j, x, y, u, hx, hy, hj => by
    simp only [List.getElem?_cons_zero, Option.some.injEq] at hx
    subst hx
    simp only [List.flatMap_cons, List.set_cons_zero, Nat.zero_mul, Nat.zero_add]
    rw [List.set_append_left _ _ (by rw [hf]; exact hj), hy]
  | z :: l, k + 1, j, x, y, u, hx, hy, hj => by
    simp only [List.getElem?_cons_succ] at hx
    simp only [List.flatMap_cons, List.set_cons_succ]
    have e : (k + 1) * s + j = (f z).length + (k * s + j) := by rw [hf, Nat.succ_mul]; omega
    rw [e, List.set_append_right _ _ (by omega), Nat.add_sub_cancel_left, flatMap_setC hf hx hy hj]
/-- one's own document with a comment shut -/
theorem DocOwn.shut {w : World} {L k : Nat} {d : Doc} {h : DocH} {c : Com} (o : DocOwn w L d h) (hc : d.coms[k]? = some c) : ∃ g, h.ca = some ⟨g, 0, none⟩ ∧ L ≤ g ∧ Typed w 78 g ∧ w.cell? ⟨g, k * 8 + 6, none⟩ = some (.bool c.done) ∧ w.frozen? ⟨g, k * 8 + 6, none⟩ = false ∧
    DocOwn (w.setCell ⟨g, k * 8 + 6, none⟩ (.bool true)) L (d.withComs (d.coms.set k c.shut)) h ∧ w.grownBy (w.setCell ⟨g, k * 8 + 6, none⟩ (.bool true)) (some g) := by
  obtain ⟨a1, a2, a3, a4, a5⟩ := o
  have hk := (List.getElem?_eq_some_iff.1 hc).1
  have hty := own_typed a4
  have hlt := own_lt a4
  rcases a4.2 with ⟨hv, hn⟩ | ⟨g, cap, cur, hv, hg, hb, hnc, hcm, hcs, ht⟩
  · rw [hn] at a5; omega
  · have hca : h.ca = some ⟨g, 0, none⟩ := by injection hv
    rw [hca] at a4 hty
    have hs := a4.stored (k * 8 + 6) (.bool true)
    have hT : Typed w 78 g := hty g rfl
    have hkb : ∀ {T : TypeId}, T ≠ 78 → KB T w (w.setCell ⟨g, k * 8 + 6, none⟩ (.bool true)) := fun hne => KB.grown hs.2 (fun q hq => by cases hq; exact hT) hne
    have hfl : (d.coms.flatMap Com.vals).set (k * 8 + 6) (.bool true) = (d.coms.set k c.shut).flatMap Com.vals := flatMap_setC (f := Com.vals) (s := 8) (fun _ => rfl) hc rfl (by omega)
    refine ⟨g, hca, hg, hT, ?_, hT.frozen _, ⟨own_kb a1 (hkb (by decide)), a2, a3.kb (hkb (by decide)) (hkb (by decide)) (hkb (by decide)), ?_, by show (d.coms.set k c.shut).length = _; simpa using a5⟩, hs.2⟩
    · rw [a4.cellAt (k * 8 + 6) (by omega), flatMap_at Com.vals 8 (fun _ => rfl) d.coms k c 6 hc (by omega)]
      rfl
    · show World.ownsRow _ _ _ _ _ _ ((d.coms.set k c.shut).flatMap Com.vals)
      rw [← hfl, hca]
      exact hs.1
end Go.Proofs.YtagfedbdakmlgaaGreatDoor

/-! NewD -/
namespace Go.Proofs.YtagfedbdakmlgaaGreatDoor
set_option linter.unusedVariables false
set_option linter.unusedSimpArgs false
open Go.RowKit
/-- what New comes to -/
def newX (r : Int) (drop : Bool) : DE := if rateE r drop = 0 then (⟨⟨#[]⟩, ⟨#[]⟩, r, drop, 0, [], [], []⟩, 0) else (Doc.zero, rateE r drop)
theorem new_own (w : World) (L : Nat) (r : Int) (drop : Bool) : DocOwn w L ⟨⟨#[]⟩, ⟨#[]⟩, r, drop, 0, [], [], []⟩ docH0 := ⟨⟨rfl, .inl ⟨rfl, rfl⟩⟩, rfl, EvsOwn.nil _ _, ⟨rfl, .inl ⟨rfl, rfl⟩⟩, rfl⟩
set_option maxRecDepth 100000 in
set_option maxHeartbeats 2000000 in
theorem DNew_any (r : Int) (drop : Bool) (w : World) (h0 : 0 ≤ r) (h1 : r ≤ 255) : Calls Tryz.prog 47 #[.int .u8 r, .bool drop] w (DEPost (newX r drop) w) := by
  have HR := Lib.hid (fun w' => drate_any r drop w' h0 h1)
  have HX : Hid (Ext w (w.alloc (.cells docZero 27))) := (Ext.refl w).alloc _
  have HZ : Hid (Blk (w.alloc (.cells docZero 27)) w.heap.size 27 docZero) := Blk.new w _ _
  unfold docZero at HX HZ
  go_enter Tryz.func47, Tryz.ntmps47
  go_wp2_with fail
  refine (HR.out _).mono ?_
  rintro en w1 ⟨rfl, hx1⟩
  have HX1 := Lib.hid (HX.out.trans hx1)
  have HZ1 := Lib.hid (HZ.out.ext hx1)
  clear hx1 HX HZ
  by_cases he : rateE r drop = 0
  · have HN : Hid (newX r drop = (⟨⟨#[]⟩, ⟨#[]⟩, r, drop, 0, [], [], []⟩, 0)) := by show _ = _; unfold newX; rw [if_pos he]
    rw [he]
    clear he
    go_wp2_with (refine wpList_storeB rfl 27 (.tmp 4) _ rfl w.heap.size 27 _ _ (by exact rfl) (by exact rfl) (by exact HZ1.out) (by exact rfl) (by exact size_docI) (by simp [Value.oneCell']) ?_)
    refine bodyPost_ret (v := .tuple #[.agg #[.string ⟨#[]⟩, .string ⟨#[]⟩, .int .u8 r, .bool drop, .int .i64 0, .slice none 0 0, .slice none 0 0, .slice none 0 0], .int .i64 0]) ?_ rfl ⟨docH0, ?_, ?_, ?_⟩
    · exact results_B_tmp (P := Tryz.prog) Tryz.results47 (g := w.heap.size) rfl (by exact HZ1.out.put _) Tryz.underlying27 rfl size_docI
    · rw [HN.out]; rfl
    · rw [HN.out]; exact new_own _ _ _ _
    · exact HX1.out.put (Nat.le_refl _) _ _
  · have HN : Hid (newX r drop = (Doc.zero, rateE r drop)) := by show _ = _; unfold newX; rw [if_neg he]
    have hne : (rateE r drop != 0) = true := by simpa using he
    clear he
    go_wp2_with (refine wpList_storeB rfl 27 (.tmp 4) _ rfl w.heap.size 27 _ _ (by exact rfl) (by exact rfl) (by exact HZ1.out) (by exact rfl) (by exact size_docI) (by simp [Value.oneCell']) ?_)
    refine bodyPost_ret (v := .tuple #[.agg docZero, .int .i64 (rateE r drop)]) ?_ rfl ?_
    · exact results_B_tmp (P := Tryz.prog) Tryz.results47 (g := w.heap.size) rfl (by exact HZ1.out.put _) Tryz.underlying27 rfl size_docI
    · exact dePost_err HN.out (HX1.out.put (Nat.le_refl _) _ _)
end Go.Proofs.YtagfedbdakmlgaaGreatDoor

/-! FolP -/
namespace Go.Proofs.YtagfedbdakmlgaaGreatDoor
set_option linter.unusedVariables false
set_option linter.unusedSimpArgs false
open Go.RowKit
def wfrom (n m p s : Nat) (i : Int) : Int := if (n : Int) - s ≤ i then IntKind.i64.wrap (i + ((m : Int) - n)) else if i < p then i else (m : Int) - s
def wto (n m p s : Nat) (i : Int) : Int := if i ≤ p then i else if (n : Int) - s < i then IntKind.i64.wrap (i + ((m : Int) - n)) else p
def Com.moved (c : Com) (f t : Int) : Com := if t ≤ f then ⟨c.id, c.ev, 0, 0, c.author, c.text, c.done, true⟩ else ⟨c.id, c.ev, f, t, c.author, c.text, c.done, c.lost⟩
/-- what Follow comes to -/
def Com.fol (c : Com) (a b : List Int) : Com := if c.lost = true then c else c.moved (wfrom a.length b.length (Mv.pre a b) (Mv.suf a b (Mv.pre a b)) c.fr) (wto a.length b.length (Mv.pre a b) (Mv.suf a b (Mv.pre a b)) c.til)
theorem size_comI : (Tryz.prog.info? 78).map (·.size) = some 8 := by kernel_rfl
def comZero : Array Value := #[.int .i64 0, .int .i64 0, .int .i64 0, .int .i64 0, .string ⟨#[]⟩, .string ⟨#[]⟩, .bool false, .bool false]
end Go.Proofs.YtagfedbdakmlgaaGreatDoor

/-! FollowD -/
namespace Go.Proofs.YtagfedbdakmlgaaGreatDoor
set_option linter.unusedVariables false
set_option linter.unusedSimpArgs false
open Go.RowKit
set_option maxRecDepth 100000 in
set_option maxHeartbeats 8000000 in
theorem DFollow_any (c : Com) (before after : ByteArray) (w : World) (hb : before.size ≤ 35184372088831) (ha : after.size ≤ 35184372088831) :
    Calls Tryz.prog 91 #[.agg c.vals.toArray, .string before, .string after] w fun en w' => en = .returned (.agg (c.fol (runes before 0) (runes after 0)).vals.toArray) ∧ Ext w w' := by
  have HRa := Lib.hid (fun w' => DRunes_any before w' hb)
  have HRb := Lib.hid (fun w' => DRunes_any after w' ha)
  have hna := runes_len before
  have hnb := runes_len after
  have HX : Hid (Ext w ((w.alloc (.cells #[.int .i64 c.id, .int .i64 c.ev, .int .i64 c.fr, .int .i64 c.til, .string c.author, .string c.text, .bool c.done, .bool c.lost] 78)).alloc (.cells #[.int .i64 0, .int .i64 0, .int .i64 0, .int .i64 0, .string ⟨#[]⟩, .string ⟨#[]⟩, .bool false, .bool false] 78))) := ((Ext.refl w).alloc _).alloc _
  have HB : Hid (Blk ((w.alloc (.cells #[.int .i64 c.id, .int .i64 c.ev, .int .i64 c.fr, .int .i64 c.til, .string c.author, .string c.text, .bool c.done, .bool c.lost] 78)).alloc (.cells #[.int .i64 0, .int .i64 0, .int .i64 0, .int .i64 0, .string ⟨#[]⟩, .string ⟨#[]⟩, .bool false, .bool false] 78)) w.heap.size 78 #[.int .i64 c.id, .int .i64 c.ev, .int .i64 c.fr, .int .i64 c.til, .string c.author, .string c.text, .bool c.done, .bool c.lost]) := (Blk.new w _ _).alloc _
  have HZ : Hid (Blk ((w.alloc (.cells #[.int .i64 c.id, .int .i64 c.ev, .int .i64 c.fr, .int .i64 c.til, .string c.author, .string c.text, .bool c.done, .bool c.lost] 78)).alloc (.cells #[.int .i64 0, .int .i64 0, .int .i64 0, .int .i64 0, .string ⟨#[]⟩, .string ⟨#[]⟩, .bool false, .bool false] 78)) (w.heap.size + 1) 78 #[.int .i64 0, .int .i64 0, .int .i64 0, .int .i64 0, .string ⟨#[]⟩, .string ⟨#[]⟩, .bool false, .bool false]) := Blk.new' (by simp)
  unfold RunesPost at HRa HRb
  unfold Com.vals
  generalize runes before 0 = a at *
  generalize runes after 0 = b at *
  go_enter Tryz.func91, Tryz.ntmps91
  have hcb := fun o => HB.out.cell o
  cases hlo : c.lost
  case true =>
    have HF : Hid (c.fol a b = c) := by show _ = _; unfold Com.fol; rw [if_pos hlo]
    have HLo := Lib.hid hlo
    rw [hlo] at HB HX HZ hcb
    clear hlo
    go_wp2_with (first | (refine wpList_loadB rfl 78 (.tmp 3) rfl (w.heap.size) 78 _ _ (by exact rfl) (by exact HB.out) Tryz.underlying78 rfl (by exact size_comI) ?_) | (refine wpList_storeB rfl 78 (.tmp 6) _ rfl (w.heap.size + 1) 78 _ _ (by exact rfl) (by exact rfl) (by exact HZ.out) (by exact rfl) (by exact size_comI) (by simp [Value.oneCell']) ?_))
    refine bodyPost_ret (v := .agg #[.int .i64 c.id, .int .i64 c.ev, .int .i64 c.fr, .int .i64 c.til, .string c.author, .string c.text, .bool c.done, .bool true]) ?_ rfl ⟨?_, HX.out.put (by omega) _ _⟩
    · exact results_B (P := Tryz.prog) Tryz.results91 (g := w.heap.size + 1) rfl (by exact HZ.out.put _) Tryz.underlying78 rfl size_comI
    · rw [HF.out, HLo.out]
  have HLo := Lib.hid hlo
  rw [hlo] at HB HX HZ hcb
  clear hlo
  go_wp2_with fail
  clear hcb
  refine (HRa.out _).mono ?_
  rintro en w1 ⟨A, n, c1, rfl, hat1, hc1, hx1⟩
  go_wp2_with fail
  refine (HRb.out _).mono ?_
  rintro en W ⟨B, m, c2, rfl, hat2, hc2, hx2⟩
  have HXW := Lib.hid (HX.out.trans (hx1.trans hx2))
  have HBW := Lib.hid (HB.out.ext (hx1.trans hx2))
  have HZW := Lib.hid (HZ.out.ext (hx1.trans hx2))
  have HA := Lib.hid (hat1.ext hx2)
  have HBr := Lib.hid hat2
  have HLa := Lib.hid hat1.len
  have HLb := Lib.hid hat2.len
  have hn9 : n ≤ 35184372088831 := by have := hat1.len; omega
  have hm9 : m ≤ 35184372088831 := by have := hat2.len; omega
  clear hx1 hx2 hat1 hat2 hna hnb HRa HRb HX HB HZ
  have hpl := Mv.pre_le a b
  have hsl := Mv.suf_le a b (Mv.pre a b)
  have hla := HLa.out
  have hlb := HLb.out
  obtain ⟨P0, hP0⟩ : ∃ P0, P0 = Mv.pre a b := ⟨_, rfl⟩
  obtain ⟨S0, hS0⟩ : ∃ S0, S0 = Mv.suf a b (Mv.pre a b) := ⟨_, rfl⟩
  have hp1 : P0 ≤ n ∧ P0 ≤ m := by omega
  have hs1 : P0 + S0 ≤ n ∧ P0 + S0 ≤ m := by rw [hP0, hS0]; omega
  have HP0 := Lib.hid hP0
  have HS0 := Lib.hid hS0
  clear hpl hsl hP0 hS0 hla hlb
  obtain ⟨hpn, hpm⟩ := hp1
  obtain ⟨hsn, hsm⟩ := hs1
  go_upto_block 0 with fail
  go_cut [11] (fun s11 wr => s11 = .int .i64 P0 ∧ Ext W wr)
  case first =>
    go_wp2_with fail
    go_loopg [11] n (fun kx v wr => ∃ k : Nat, v = .int .i64 k ∧ k ≤ P0 ∧ n - k ≤ kx ∧ Hid (Ext W wr))
    case atStart => exact ⟨0, rfl, Nat.zero_le _, by omega, (show Hid _ from Ext.refl _)⟩
    case round =>
      obtain ⟨k, rfl, hkP, hkx, HX⟩ := hrel
      have HK : Hid (k ≤ Mv.pre a b) := by show _ ≤ _; rw [← HP0.out]; exact hkP
      by_cases hlt : k < n ∧ k < m
      · obtain ⟨hn1, hm1⟩ := hlt
        obtain ⟨b1, o1, x, hA1, hx1, c1⟩ := (HA.out.ext HX.out).cell hn1
        obtain ⟨b2, o2, y, hA2, hx2, c2⟩ := (HBr.out.ext HX.out).cell hm1
        subst hA1 hA2
        have hmn : (k : Int) < min (n : Int) (m : Int) := by omega
        have hn1i : (k : Int) < (n : Int) := by omega
        have hm1i : (k : Int) < (m : Int) := by omega
        have hk0 : (0 : Int) ≤ (k : Int) := by omega
        have fc1 := fun (y : EW wr) => y.ext.cell c1
        have fc2 := fun (y : EW wr) => y.ext.cell c2
        clear c1 c2
        by_cases he : x = y
        · have heb : (x == y) = true := by simpa using he
          have HN := Lib.hid (Mv.pre_step HK.out hx1 hx2 he)
          clear hx1 hx2 he
          go_wp2_with fail
          refine wp_region_ew wr (Ext.refl _) (by kernel_rfl) (by kernel_rfl) ?_
          repeat (go_big_quiet_step ((fail)))
          refine wpQuiet_nil ?_
          rintro w9 ⟨⟨_, hx9⟩, rfl⟩
          clear fc1 fc2
          go_wp2_with fail
          go_roundg (n - (k + 1))
          case measure => omega
          case rel => exact ⟨k + 1, by go_num, by rw [HP0.out]; exact HN.out, Nat.le_refl _, (show Hid _ from HX.out.trans hx9)⟩
        have heb : (x == y) = false := by simpa using he
        have hkp : k = P0 := by rw [HP0.out]; exact Mv.pre_stop HK.out (.inr (.inr ⟨x, y, hx1, hx2, he⟩))
        clear hx1 hx2 he
        have HKP := Lib.hid hkp
        clear hkp
        go_wp2_with fail
        refine wp_region_ew wr (Ext.refl _) (by kernel_rfl) (by kernel_rfl) ?_
        repeat (go_big_quiet_step ((fail)))
        refine wpQuiet_nil ?_
        rintro w9 ⟨⟨_, hx9⟩, rfl⟩
        clear fc1 fc2 hmn hn1i hm1i hk0 heb
        go_wp2_with fail
        go_meet
        case rel => exact ⟨by rw [HKP.out], HX.out.trans hx9⟩
      have hkp : k = P0 := by
        rw [HP0.out]
        refine Mv.pre_stop HK.out ?_
        have h1 := HLa.out
        have h2 := HLb.out
        by_cases h : k < n
        · exact .inr (.inl (by omega))
        · exact .inl (by omega)
      have HKP := Lib.hid hkp
      clear hkp
      have hmn : decide ((k : Int) < min (n : Int) (m : Int)) = false := decide_eq_false (by omega)
      go_wp2_with fail
      refine wp_region_ew wr (Ext.refl _) (by kernel_rfl) (by kernel_rfl) ?_
      repeat (go_big_quiet_step ((fail)))
      refine wpQuiet_nil ?_
      rintro w9 ⟨⟨_, hx9⟩, rfl⟩
      clear hmn hlt
      go_wp2_with fail
      go_meet
      case rel => exact ⟨by rw [HKP.out], HX.out.trans hx9⟩
  case rest =>
  obtain ⟨rfl, hxc⟩ := hcut
  have HX2 := Lib.hid (HXW.out.trans hxc)
  have HB2 := Lib.hid (HBW.out.ext hxc)
  have HZ2 := Lib.hid (HZW.out.ext hxc)
  have HA2 := Lib.hid (HA.out.ext hxc)
  have HBr2 := Lib.hid (HBr.out.ext hxc)
  clear hxc HXW HBW HZW HA HBr
  go_upto_block 2 with fail
  go_cut [12] (fun s12 wr => s12 = .int .i64 S0 ∧ Ext wc wr)
  case first =>
    go_wp2_with fail
    go_loopg [12] n (fun kx v wr => ∃ j : Nat, v = .int .i64 j ∧ j ≤ S0 ∧ n - j ≤ kx ∧ Hid (Ext wc wr))
    case atStart => exact ⟨0, rfl, Nat.zero_le _, by omega, (show Hid _ from Ext.refl _)⟩
    case round =>
      obtain ⟨j, rfl, hjS, hkx, HXo⟩ := hrel
      have HJ : Hid (j ≤ Mv.suf a b (Mv.pre a b)) := by show _ ≤ _; rw [← HS0.out]; exact hjS
      have hj0 : (0 : Int) ≤ (j : Int) := by omega
      by_cases hlt2 : j < n - P0 ∧ j < m - P0
      · obtain ⟨hn2, hm2⟩ := hlt2
        obtain ⟨b1, o1, x, hA1, hx1, c1⟩ := (HA2.out.ext HXo.out).cell (i := n - 1 - j) (by omega)
        obtain ⟨b2, o2, y, hA2, hx2, c2⟩ := (HBr2.out.ext HXo.out).cell (i := m - 1 - j) (by omega)
        have hmn : (j : Int) < min (n : Int) (m : Int) - (P0 : Int) := by omega
        have hd1 : (j : Int) < (n : Int) - (P0 : Int) := by omega
        have hd2 : (j : Int) < (m : Int) - (P0 : Int) := by omega
        have hi1 : (n : Int) - 1 - (j : Int) = ((n - 1 - j : Nat) : Int) := by omega
        have hi2 : (m : Int) - 1 - (j : Int) = ((m - 1 - j : Nat) : Int) := by omega
        have hi3 : ((n : Int) - 1 - (j : Int)).toNat = n - 1 - j := by omega
        have hi4 : ((m : Int) - 1 - (j : Int)).toNat = m - 1 - j := by omega
        have hi5 : (0 : Int) ≤ (n : Int) - 1 - (j : Int) ∧ (n : Int) - 1 - (j : Int) < (n : Int) := by omega
        have hi6 : (0 : Int) ≤ (m : Int) - 1 - (j : Int) ∧ (m : Int) - 1 - (j : Int) < (m : Int) := by omega
        obtain ⟨hi7, hi8⟩ := hi5
        obtain ⟨hi9, hi10⟩ := hi6
        have hi11 : n - 1 - j < n := by omega
        have hi12 : m - 1 - j < m := by omega
        have fc1 := fun (y : EW wr) => y.ext.cell c1
        have fc2 := fun (y : EW wr) => y.ext.cell c2
        clear c1 c2
        by_cases he : x = y
        · have heb : (x == y) = true := by simpa using he
          have HN := Lib.hid (Mv.suf_step HJ.out (by have := HLa.out; have := HP0.out; omega) (by have := HLb.out; have := HP0.out; omega) (by rw [HLa.out]; exact hx1) (by rw [HLb.out]; exact hx2) he)
          clear hx1 hx2 he
          subst hA1 hA2
          go_wp2_with fail
          refine wp_region_ew wr (Ext.refl _) (by kernel_rfl) (by kernel_rfl) ?_
          repeat (go_big_quiet_step ((fail)))
          refine wpQuiet_nil ?_
          rintro w9 ⟨⟨_, hx9⟩, rfl⟩
          clear fc1 fc2
          go_wp2_with fail
          go_roundg (n - (j + 1))
          case measure => omega
          case rel => exact ⟨j + 1, by go_num, by rw [HS0.out]; exact HN.out, Nat.le_refl _, (show Hid _ from HXo.out.trans hx9)⟩
        have heb : (x == y) = false := by simpa using he
        have hjs : j = S0 := by
          rw [HS0.out]
          exact Mv.suf_stop HJ.out (.inr (.inr ⟨x, y, by have := HLa.out; have := HP0.out; omega, by have := HLb.out; have := HP0.out; omega, by rw [HLa.out]; exact hx1, by rw [HLb.out]; exact hx2, he⟩))
        have HJS := Lib.hid hjs
        clear hx1 hx2 he hjs
        subst hA1 hA2
        go_wp2_with fail
        refine wp_region_ew wr (Ext.refl _) (by kernel_rfl) (by kernel_rfl) ?_
        repeat (go_big_quiet_step ((fail)))
        refine wpQuiet_nil ?_
        rintro w9 ⟨⟨_, hx9⟩, rfl⟩
        clear fc1 fc2 hmn hd1 hd2 hi1 hi2 hi3 hi4 hi7 hi8 hi9 hi10 hi11 hi12 heb
        go_wp2_with fail
        go_meet
        case rel => exact ⟨by rw [HJS.out], HXo.out.trans hx9⟩
      have hjs : j = S0 := by
        rw [HS0.out]
        refine Mv.suf_stop HJ.out ?_
        have h1 := HLa.out
        have h2 := HLb.out
        have h3 := HP0.out
        by_cases h : j < n - P0
        · exact .inr (.inl (by omega))
        · exact .inl (by omega)
      have HJS := Lib.hid hjs
      clear hjs
      have hmn : decide ((j : Int) < min (n : Int) (m : Int) - (P0 : Int)) = false := decide_eq_false (by omega)
      go_wp2_with fail
      refine wp_region_ew wr (Ext.refl _) (by kernel_rfl) (by kernel_rfl) ?_
      repeat (go_big_quiet_step ((fail)))
      refine wpQuiet_nil ?_
      rintro w9 ⟨⟨_, hx9⟩, rfl⟩
      clear hmn hlt2
      go_wp2_with fail
      go_meet
      case rel => exact ⟨by rw [HJS.out], HXo.out.trans hx9⟩
  case rest =>
  obtain ⟨rfl, hxc⟩ := hcut
  have HX3 := Lib.hid (HX2.out.trans hxc)
  have HB3 := Lib.hid (HB2.out.ext hxc)
  have HZ3 := Lib.hid (HZ2.out.ext hxc)
  clear hxc HX2 HB2 HZ2 HA2 HBr2
  obtain ⟨F, hF⟩ : ∃ F, F = wfrom n m P0 S0 c.fr := ⟨_, rfl⟩
  obtain ⟨G, hG⟩ : ∃ G, G = wto n m P0 S0 c.til := ⟨_, rfl⟩
  have HFf := Lib.hid hF
  have HGg := Lib.hid hG
  clear hF hG
  go_upto_block 4 with fail
  go_cut [68] (fun s68 wr => Ext w wr ∧ Blk wr w.heap.size 78 #[.int .i64 c.id, .int .i64 c.ev, .int .i64 F, .int .i64 c.til, .string c.author, .string c.text, .bool c.done, .bool false] ∧ Blk wr (w.heap.size + 1) 78 #[.int .i64 0, .int .i64 0, .int .i64 0, .int .i64 0, .string ⟨#[]⟩, .string ⟨#[]⟩, .bool false, .bool false])
  case first =>
    have hcb := fun o => HB3.out.cell o
    have hfb := fun o => HB3.out.frozen o
    have hsb := setCell_put HB3.out 2 (.int .i64 F)
    simp at hsb
    by_cases z1 : (n : Int) - (S0 : Int) ≤ c.fr
    · have hw : IntKind.i64.wrap (c.fr + ((m : Int) - (n : Int))) = F := by rw [HFf.out]; unfold wfrom; rw [if_pos z1]
      go_wp2_with fail
      go_meet
      case rel => exact ⟨HX3.out.put (Nat.le_refl _) _ _, HB3.out.put _, HZ3.out.put_other (by omega) _⟩
    by_cases z2 : (P0 : Int) ≤ c.fr
    · have hw : (m : Int) - (S0 : Int) = F := by rw [HFf.out]; unfold wfrom; rw [if_neg z1, if_neg (by omega)]
      go_wp2_with fail
      go_meet
      case rel => exact ⟨HX3.out.put (Nat.le_refl _) _ _, HB3.out.put _, HZ3.out.put_other (by omega) _⟩
    have hw : Hid (F = c.fr) := by show _ = _; rw [HFf.out]; unfold wfrom; rw [if_neg z1, if_pos (by omega)]
    go_wp2_with fail
    go_meet
    case rel => exact ⟨HX3.out, by rw [hw.out]; exact HB3.out, HZ3.out⟩
  case rest =>
  obtain ⟨hx4, hb4, hz4⟩ := hcut
  have HX4 := Lib.hid hx4
  have HB4 := Lib.hid hb4
  have HZ4 := Lib.hid hz4
  clear hx4 hb4 hz4 HX3 HB3 HZ3
  go_upto_block 5 with fail
  go_cut [93] (fun s93 wr => Ext w wr ∧ Blk wr w.heap.size 78 #[.int .i64 c.id, .int .i64 c.ev, .int .i64 F, .int .i64 G, .string c.author, .string c.text, .bool c.done, .bool false] ∧ Blk wr (w.heap.size + 1) 78 #[.int .i64 0, .int .i64 0, .int .i64 0, .int .i64 0, .string ⟨#[]⟩, .string ⟨#[]⟩, .bool false, .bool false])
  case first =>
    have hcb := fun o => HB4.out.cell o
    have hfb := fun o => HB4.out.frozen o
    have hsb := fun u => setCell_put HB4.out 3 u
    simp at hsb
    by_cases z1 : c.til ≤ (P0 : Int)
    · have hw : Hid (G = c.til) := by show _ = _; rw [HGg.out]; unfold wto; rw [if_pos z1]
      go_wp2_with fail
      go_meet
      case rel => exact ⟨HX4.out, by rw [hw.out]; exact HB4.out, HZ4.out⟩
    by_cases z2 : (n : Int) - (S0 : Int) < c.til
    · have hw : IntKind.i64.wrap (c.til + ((m : Int) - (n : Int))) = G := by rw [HGg.out]; unfold wto; rw [if_neg z1, if_pos z2]
      go_wp2_with fail
      go_meet
      case rel => exact ⟨HX4.out.put (Nat.le_refl _) _ _, HB4.out.put _, HZ4.out.put_other (by omega) _⟩
    have hw : Hid (G = (P0 : Int)) := by show _ = _; rw [HGg.out]; unfold wto; rw [if_neg z1, if_neg z2]
    go_wp2_with fail
    go_meet
    case rel => rw [hw.out]; exact ⟨HX4.out.put (Nat.le_refl _) _ _, HB4.out.put _, HZ4.out.put_other (by omega) _⟩
  case rest =>
  obtain ⟨hx5, hb5, hz5⟩ := hcut
  have HX5 := Lib.hid hx5
  have HB5 := Lib.hid hb5
  have HZ5 := Lib.hid hz5
  have hcb := fun o => HB5.out.cell o
  have hfb := fun o => HB5.out.frozen o
  clear hx5 hb5 hz5 HX4 HB4 HZ4
  have HFol : Hid (c.fol a b = c.moved F G) := by
    show _ = _
    unfold Com.fol
    rw [if_neg (by rw [HLo.out]; decide), HFf.out, HGg.out, HLa.out, HLb.out, ← HS0.out, ← HP0.out]
  by_cases hge : G ≤ F
  · have HM : Hid (c.moved F G = ⟨c.id, c.ev, 0, 0, c.author, c.text, c.done, true⟩) := by show _ = _; unfold Com.moved; rw [if_pos hge]
    have s1 := setCell_put HB5.out 2 (.int .i64 0)
    have HB6 := Lib.hid (HB5.out.put #[.int .i64 c.id, .int .i64 c.ev, .int .i64 0, .int .i64 G, .string c.author, .string c.text, .bool c.done, .bool false])
    have s2 := setCell_put HB6.out 3 (.int .i64 0)
    have HB7 := Lib.hid (HB6.out.put #[.int .i64 c.id, .int .i64 c.ev, .int .i64 0, .int .i64 0, .string c.author, .string c.text, .bool c.done, .bool false])
    have s3 := setCell_put HB7.out 7 (.bool true)
    have hc6 := fun o => HB6.out.cell o
    have hc7 := fun o => HB7.out.cell o
    have hf6 := fun o => HB6.out.frozen o
    have hf7 := fun o => HB7.out.frozen o
    simp at s1 s2 s3
    have HZ8 := Lib.hid (((HZ5.out.put_other (g' := w.heap.size) (t' := 78) (by omega) #[.int .i64 c.id, .int .i64 c.ev, .int .i64 0, .int .i64 G, .string c.author, .string c.text, .bool c.done, .bool false]).put_other (g' := w.heap.size) (t' := 78) (by omega) #[.int .i64 c.id, .int .i64 c.ev, .int .i64 0, .int .i64 0, .string c.author, .string c.text, .bool c.done, .bool false]).put_other (g' := w.heap.size) (t' := 78) (by omega) #[.int .i64 c.id, .int .i64 c.ev, .int .i64 0, .int .i64 0, .string c.author, .string c.text, .bool c.done, .bool true])
    have HX8 := Lib.hid (((HX5.out.put (g := w.heap.size) (Nat.le_refl _) 78 #[.int .i64 c.id, .int .i64 c.ev, .int .i64 0, .int .i64 G, .string c.author, .string c.text, .bool c.done, .bool false]).put (g := w.heap.size) (Nat.le_refl _) 78 #[.int .i64 c.id, .int .i64 c.ev, .int .i64 0, .int .i64 0, .string c.author, .string c.text, .bool c.done, .bool false]).put (g := w.heap.size) (Nat.le_refl _) 78 #[.int .i64 c.id, .int .i64 c.ev, .int .i64 0, .int .i64 0, .string c.author, .string c.text, .bool c.done, .bool true])
    have HB8 := Lib.hid (HB7.out.put #[.int .i64 c.id, .int .i64 c.ev, .int .i64 0, .int .i64 0, .string c.author, .string c.text, .bool c.done, .bool true])
    go_wp2_with (first | (refine wpList_loadB rfl 78 (.tmp 3) rfl (w.heap.size) 78 _ _ (by exact rfl) (by exact HB8.out) Tryz.underlying78 rfl (by exact size_comI) ?_) | (refine wpList_storeB rfl 78 (.tmp 6) _ rfl (w.heap.size + 1) 78 _ _ (by exact rfl) (by exact rfl) (by exact HZ8.out) (by exact rfl) (by exact size_comI) (by simp [Value.oneCell']) ?_))
    refine bodyPost_ret (v := .agg #[.int .i64 c.id, .int .i64 c.ev, .int .i64 0, .int .i64 0, .string c.author, .string c.text, .bool c.done, .bool true]) ?_ rfl ⟨?_, HX8.out.put (by omega) _ _⟩
    · exact results_B (P := Tryz.prog) Tryz.results91 (g := w.heap.size + 1) rfl (by exact HZ8.out.put _) Tryz.underlying78 rfl size_comI
    · rw [HFol.out, HM.out]
  · have HM : Hid (c.moved F G = ⟨c.id, c.ev, F, G, c.author, c.text, c.done, c.lost⟩) := by show _ = _; unfold Com.moved; rw [if_neg hge]
    go_wp2_with (first | (refine wpList_loadB rfl 78 (.tmp 3) rfl (w.heap.size) 78 _ _ (by exact rfl) (by exact HB5.out) Tryz.underlying78 rfl (by exact size_comI) ?_) | (refine wpList_storeB rfl 78 (.tmp 6) _ rfl (w.heap.size + 1) 78 _ _ (by exact rfl) (by exact rfl) (by exact HZ5.out) (by exact rfl) (by exact size_comI) (by simp [Value.oneCell']) ?_))
    refine bodyPost_ret (v := .agg #[.int .i64 c.id, .int .i64 c.ev, .int .i64 F, .int .i64 G, .string c.author, .string c.text, .bool c.done, .bool false]) ?_ rfl ⟨?_, HX5.out.put (by omega) _ _⟩
    · exact results_B (P := Tryz.prog) Tryz.results91 (g := w.heap.size + 1) rfl (by exact HZ5.out.put _) Tryz.underlying78 rfl size_comI
    · rw [HFol.out, HM.out, HLo.out]
end Go.Proofs.YtagfedbdakmlgaaGreatDoor

/-! AddD -/
namespace Go.Proofs.YtagfedbdakmlgaaGreatDoor
set_option linter.unusedVariables false
set_option linter.unusedSimpArgs false
open Go.RowKit
end Go.Proofs.YtagfedbdakmlgaaGreatDoor

/-! QuoteD -/
namespace Go.Proofs.YtagfedbdakmlgaaGreatDoor
set_option linter.unusedVariables false
set_option linter.unusedSimpArgs false
open Go.RowKit
def QtRel (W : World) (fr til : Int) (l : List Int) (n : Nat) (v i : Value) (wr : World) : Prop := ∃ k : Nat, k ≤ n ∧ v = .string (quoteT fr til (l.take k)) ∧ i = .int .i64 k ∧ Ext W wr
end Go.Proofs.YtagfedbdakmlgaaGreatDoor

/-! Move -/
namespace Go.Proofs.YtagfedbdakmlgaaGreatDoor
set_option linter.unusedVariables false
set_option linter.unusedSimpArgs false
open Go.RowKit
end Go.Proofs.YtagfedbdakmlgaaGreatDoor

/-! Awake14 -/
namespace Go.Proofs.YtagfedbdakmlgaaGreatDoor
set_option linter.unusedVariables false
set_option linter.unusedSimpArgs false
open Go.RowKit
def q0a : Run := ⟨⟨#[72, 105, 44]⟩, 0, false, false, ⟨#[]⟩⟩
def q0b : Run := ⟨⟨#[121, 111, 117, 46]⟩, 0, false, false, ⟨#[]⟩⟩
def q0e : Ev := ⟨1, 10, 50, ⟨#[]⟩, 1, ⟨#[]⟩, [[q0a], [q0b]]⟩
def q0 : Doc := ⟨⟨#[]⟩, ⟨#[]⟩, 3, false, 1, [], [q0e], []⟩
def q1 : Doc := ⟨⟨#[]⟩, ⟨#[]⟩, 3, false, 2, [], [q0e], [⟨2, 1, 0, 2, ⟨#[65, 78, 78]⟩, ⟨#[63]⟩, false, false⟩]⟩
def q0h (g : Nat) : DocH := ⟨none, 0, 0, some ⟨g, 0, none⟩, 1, 1, none, 0, 0⟩
theorem sl_1 {α : Type} {C : World → Nat → Nat → α → Prop} {w : World} {size g : Nat} {x : α} (h : C w g 0 x) : Sl w size C (some ⟨g, 0, none⟩) 1 [x] := by
  refine ⟨rfl, fun _ => ⟨g, 0, rfl, fun i y hy => ?_⟩⟩
  match i, hy with
  | 0, hy => simp at hy; subst hy; simpa using h
  | i + 1, hy => simp at hy
end Go.Proofs.YtagfedbdakmlgaaGreatDoor

/-! Awake12 -/
namespace Go.Proofs.YtagfedbdakmlgaaGreatDoor
set_option linter.unusedVariables false
set_option linter.unusedSimpArgs false
open Go.RowKit
def a12r : Run := ⟨⟨#[83, 101, 101, 32, 121, 111, 117, 32, 115, 111, 111, 110]⟩, 0, false, false, ⟨#[]⟩⟩
def a12e : Ev := ⟨0, 0, 9, ⟨#[]⟩, 1, ⟨#[]⟩, [[a12r]]⟩
def a12d : Doc := ⟨⟨#[]⟩, ⟨#[]⟩, 3, false, 0, [], [], []⟩
def a12d2 : Doc := ⟨⟨#[]⟩, ⟨#[]⟩, 3, false, 4, [], [], []⟩
def a12c : Com := ⟨0, 0, 4, 7, ⟨#[]⟩, ⟨#[]⟩, false, false⟩
theorem a12_new : newX 3 false = (a12d, 0) := by kernel_rfl
theorem a12_err : a12d2.insErr a12e = 0 := by kernel_rfl
theorem a12_ins : a12d2.insX a12e = (a12d2.insD a12e, 5, 0) := by unfold Doc.insX; rw [a12_err]; rfl
theorem a12_f1 : a12c.fol (runes ⟨#[83, 101, 101, 32, 121, 111, 117, 32, 115, 111, 111, 110]⟩ 0) (runes ⟨#[83, 101, 101, 32, 97, 108, 108, 32, 111, 102, 32, 121, 111, 117, 32, 115, 111, 111, 110]⟩ 0) = ⟨0, 0, 11, 14, ⟨#[]⟩, ⟨#[]⟩, false, false⟩ := by kernel_rfl
theorem a12_f2 : a12c.fol (runes ⟨#[83, 101, 101, 32, 121, 111, 117, 32, 115, 111, 111, 110]⟩ 0) (runes ⟨#[83, 101, 101, 32, 115, 111, 111, 110]⟩ 0) = ⟨0, 0, 0, 0, ⟨#[]⟩, ⟨#[]⟩, false, true⟩ := by kernel_rfl
theorem a12_f3 : a12c.fol (runes ⟨#[83, 101, 101, 32, 121, 111, 117, 32, 115, 111, 111, 110]⟩ 0) (runes ⟨#[83, 101, 101, 32, 121, 111, 117, 114, 32, 100, 111, 103, 32, 115, 111, 111, 110]⟩ 0) = ⟨0, 0, 4, 7, ⟨#[]⟩, ⟨#[]⟩, false, false⟩ := by kernel_rfl
theorem a12_small : EvSmall a12e := by
  refine ⟨by decide, by decide, fun r hr => ?_⟩
  simp only [a12e, List.mem_cons, List.not_mem_nil, or_false] at hr
  subst hr
  refine ⟨by decide, fun x hx => ?_⟩
  simp only [List.mem_singleton] at hx
  subst hx
  exact ⟨by decide, by decide⟩
theorem a12_fit : DocFit a12d2 := ⟨⟨by decide, by decide, by decide, by decide⟩, (fun r hr => by cases hr), (fun e he => by cases he), (fun e he => by cases he), (fun c hc => by cases hc)⟩
theorem a12_at {w : World} {h : DocH} (k : DocAt w a12d h) : DocAt w a12d2 h := ⟨k.regs, k.evs, k.coms⟩
set_option maxRecDepth 100000 in
set_option maxHeartbeats 8000000 in
theorem awake12_any (w : World) (hE : Env w) : Calls Tryz.prog 29 #[] w fun en w' => en = .returned (.bool true) ∧ Ext w w' := by
  have HEn := Lib.hid hE
  have HNw := Lib.hid (fun w' => DNew_any 3 false w' (by decide) (by decide))
  have HF1 := Lib.hid (fun w' => DFollow_any a12c ⟨#[83, 101, 101, 32, 121, 111, 117, 32, 115, 111, 111, 110]⟩ ⟨#[83, 101, 101, 32, 97, 108, 108, 32, 111, 102, 32, 121, 111, 117, 32, 115, 111, 111, 110]⟩ w' (by decide) (by decide))
  have HF2 := Lib.hid (fun w' => DFollow_any a12c ⟨#[83, 101, 101, 32, 121, 111, 117, 32, 115, 111, 111, 110]⟩ ⟨#[83, 101, 101, 32, 115, 111, 111, 110]⟩ w' (by decide) (by decide))
  have HF3 := Lib.hid (fun w' => DFollow_any a12c ⟨#[83, 101, 101, 32, 121, 111, 117, 32, 115, 111, 111, 110]⟩ ⟨#[83, 101, 101, 32, 121, 111, 117, 114, 32, 100, 111, 103, 32, 115, 111, 111, 110]⟩ w' (by decide) (by decide))
  rw [a12_f1] at HF1
  rw [a12_f2] at HF2
  rw [a12_f3] at HF3
  rw [a12_new] at HNw
  unfold Com.vals a12c at HF1 HF2 HF3
  unfold DEPost at HNw
  clear hE
  go_enter Tryz.func29, Tryz.ntmps29
  go_wp2_with fail
  refine (HNw.out _).mono ?_
  rintro en w1 ⟨⟨ra, rn, rc, ea, en1, ec, ca, cn, cc⟩, rfl, ho1, hx1⟩
  have HO1 := Lib.hid (show DocOwn w1 w.heap.size a12d ⟨ra, rn, rc, ea, en1, ec, ca, cn, cc⟩ from ho1)
  have HX1 := Lib.hid hx1
  clear ho1 hx1 HNw
  unfold Doc.cells a12d
  dsimp only
  have hbn := Blk.new w1 27 #[.string ⟨#[]⟩, .string ⟨#[]⟩, .int .u8 3, .bool false, .int .i64 0, .slice ra rn rc, .slice ea en1 ec, .slice ca cn cc]
  have hs1 := setCell_put hbn 4 (.int .i64 4)
  have hf1 := hbn.frozen 4
  have hc1 := hbn.cell 4
  simp at hs1 hc1
  go_upto_region 3 with fail
  obtain ⟨gd, hgd⟩ : ∃ gd, gd = w1.heap.size := ⟨_, rfl⟩
  obtain ⟨W2, hW2⟩ : ∃ W2, W2 = putB (w1.alloc (.cells #[.string ⟨#[]⟩, .string ⟨#[]⟩, .int .u8 3, .bool false, .int .i64 0, .slice ra rn rc, .slice ea en1 ec, .slice ca cn cc] 27)) w1.heap.size 27 #[.string ⟨#[]⟩, .string ⟨#[]⟩, .int .u8 3, .bool false, .int .i64 4, .slice ra rn rc, .slice ea en1 ec, .slice ca cn cc] := ⟨_, rfl⟩
  rw [← hW2, ← hgd]
  have HX2 : Hid (Ext w W2) := by show Ext _ _; rw [hW2]; exact (HX1.out.alloc _).put HX1.out.size _ _
  have HB2 : Hid (Blk W2 gd 27 #[.string ⟨#[]⟩, .string ⟨#[]⟩, .int .u8 3, .bool false, .int .i64 4, .slice ra rn rc, .slice ea en1 ec, .slice ca cn cc]) := by show Blk _ _ _ _; rw [hW2, hgd]; exact hbn.put _
  have HA2 : Hid (DocAt W2 a12d ⟨ra, rn, rc, ea, en1, ec, ca, cn, cc⟩) := by
    show DocAt _ _ _
    rw [hW2]
    have ho := (HO1.out.ext ((Ext.refl w1).alloc (.cells #[.string ⟨#[]⟩, .string ⟨#[]⟩, .int .u8 3, .bool false, .int .i64 0, .slice ra rn rc, .slice ea en1 ec, .slice ca cn cc] 27))).put hbn #[.string ⟨#[]⟩, .string ⟨#[]⟩, .int .u8 3, .bool false, .int .i64 4, .slice ra rn rc, .slice ea en1 ec, .slice ca cn cc]
    exact ho.at_
  have hrl := HO1.out.rlen
  have hel := HO1.out.evs.len
  have hcl := HO1.out.clen
  clear hs1 hf1 hc1 hbn hW2 hgd HX1 HO1
  go_upto_region 4 with fail
  have HX3 : Hid (Ext w (((W2.alloc (.cells #[.string ⟨#[83, 101, 101, 32, 121, 111, 117, 32, 115, 111, 111, 110]⟩, .int .u8 0, .bool false, .bool false, .string ⟨#[]⟩] 84)).alloc (.cells #[.slice (some ⟨W2.heap.size, 0, none⟩) 1 1] 87)).alloc (.cells #[.int .i64 0, .int .i64 0, .int .i64 9, .string ⟨#[]⟩, .int .u8 1, .string ⟨#[]⟩, .slice (some ⟨W2.heap.size + 1, 0, none⟩) 1 1] 66))) := ((HX2.out.alloc _).alloc _).alloc _
  have hx23 : Ext W2 (((W2.alloc (.cells #[.string ⟨#[83, 101, 101, 32, 121, 111, 117, 32, 115, 111, 111, 110]⟩, .int .u8 0, .bool false, .bool false, .string ⟨#[]⟩] 84)).alloc (.cells #[.slice (some ⟨W2.heap.size, 0, none⟩) 1 1] 87)).alloc (.cells #[.int .i64 0, .int .i64 0, .int .i64 9, .string ⟨#[]⟩, .int .u8 1, .string ⟨#[]⟩, .slice (some ⟨W2.heap.size + 1, 0, none⟩) 1 1] 66)) := (((Ext.refl W2).alloc _).alloc _).alloc _
  have HR3 : Hid (Blk (((W2.alloc (.cells #[.string ⟨#[83, 101, 101, 32, 121, 111, 117, 32, 115, 111, 111, 110]⟩, .int .u8 0, .bool false, .bool false, .string ⟨#[]⟩] 84)).alloc (.cells #[.slice (some ⟨W2.heap.size, 0, none⟩) 1 1] 87)).alloc (.cells #[.int .i64 0, .int .i64 0, .int .i64 9, .string ⟨#[]⟩, .int .u8 1, .string ⟨#[]⟩, .slice (some ⟨W2.heap.size + 1, 0, none⟩) 1 1] 66)) (W2.heap.size) 84 #[.string ⟨#[83, 101, 101, 32, 121, 111, 117, 32, 115, 111, 111, 110]⟩, .int .u8 0, .bool false, .bool false, .string ⟨#[]⟩]) := ((Blk.new W2 _ _).alloc _).alloc _
  have HW3 : Hid (Blk (((W2.alloc (.cells #[.string ⟨#[83, 101, 101, 32, 121, 111, 117, 32, 115, 111, 111, 110]⟩, .int .u8 0, .bool false, .bool false, .string ⟨#[]⟩] 84)).alloc (.cells #[.slice (some ⟨W2.heap.size, 0, none⟩) 1 1] 87)).alloc (.cells #[.int .i64 0, .int .i64 0, .int .i64 9, .string ⟨#[]⟩, .int .u8 1, .string ⟨#[]⟩, .slice (some ⟨W2.heap.size + 1, 0, none⟩) 1 1] 66)) (W2.heap.size + 1) 87 #[.slice (some ⟨W2.heap.size, 0, none⟩) 1 1]) := (Blk.new' (by simp)).alloc _
  have HV3 : Hid (Blk (((W2.alloc (.cells #[.string ⟨#[83, 101, 101, 32, 121, 111, 117, 32, 115, 111, 111, 110]⟩, .int .u8 0, .bool false, .bool false, .string ⟨#[]⟩] 84)).alloc (.cells #[.slice (some ⟨W2.heap.size, 0, none⟩) 1 1] 87)).alloc (.cells #[.int .i64 0, .int .i64 0, .int .i64 9, .string ⟨#[]⟩, .int .u8 1, .string ⟨#[]⟩, .slice (some ⟨W2.heap.size + 1, 0, none⟩) 1 1] 66)) (W2.heap.size + 1 + 1) 66 #[.int .i64 0, .int .i64 0, .int .i64 9, .string ⟨#[]⟩, .int .u8 1, .string ⟨#[]⟩, .slice (some ⟨W2.heap.size + 1, 0, none⟩) 1 1]) := Blk.new' (by simp)
  have HB3 := Lib.hid (HB2.out.ext hx23)
  have HA3 := Lib.hid (HA2.out.ext hx23)
  obtain ⟨gr, hgr⟩ : ∃ gr, gr = W2.heap.size := ⟨_, rfl⟩
  rw [← hgr] at HR3 HW3 HV3 HX3 HB3 HA3 hx23 ⊢
  generalize hWg : (((W2.alloc (.cells #[.string ⟨#[83, 101, 101, 32, 121, 111, 117, 32, 115, 111, 111, 110]⟩, .int .u8 0, .bool false, .bool false, .string ⟨#[]⟩] 84)).alloc (.cells #[.slice (some ⟨gr, 0, none⟩) 1 1] 87)).alloc (.cells #[.int .i64 0, .int .i64 0, .int .i64 9, .string ⟨#[]⟩, .int .u8 1, .string ⟨#[]⟩, .slice (some ⟨gr + 1, 0, none⟩) 1 1] 66)) = W3 at *
  clear hWg HX2 HB2 HA2 hx23 hgr
  have hev : EvAt W3 a12e (some ⟨gr + 1, 0, none⟩) 1 1 := ⟨sl_1 ⟨some ⟨gr, 0, none⟩, 1, 1, HW3.out.cell 0, Nat.le_refl _, by decide, sl_1 ⟨HR3.out.cell 0, HR3.out.cell 1, HR3.out.cell 2, HR3.out.cell 3, HR3.out.cell 4⟩⟩, Nat.le_refl _, by decide⟩
  have HIn := Lib.hid (fun w' (hx : Ext W3 w') => DInsert_any a12d2 ⟨ra, rn, rc, ea, en1, ec, ca, cn, cc⟩ a12e (some ⟨gr + 1, 0, none⟩) 1 1 w' (HEn.out.ext (HX3.out.trans hx)) (a12_at (HA3.out.ext hx)) a12_fit (by simp [a12d] at hrl; simp only; omega) (by simp [a12d] at hrl; simp only; omega) (by simp [a12d] at hel; simp only; omega) (by simp [a12d] at hcl; simp only; omega) (hev.ext hx) a12_small)
  rw [a12_ins] at HIn
  unfold DIEPost Doc.cells Ev.cells a12d2 a12e at HIn
  dsimp only at HIn
  clear hev hrl hel hcl HR3 HW3 HA3
  go_wp2_with (first | (refine wpList_loadB rfl 27 (.tmp 1) rfl gd 27 _ _ (by exact rfl) (by exact HB3.out) Tryz.underlying27 rfl (by exact size_docI) ?_) | (refine wpList_loadB rfl 66 (.tmp 3) rfl (gr + 1 + 1) 66 _ _ (by exact rfl) (by exact HV3.out) Tryz.underlying66 rfl (by exact size_event) ?_))
  refine (HIn.out _ (Ext.refl _)).mono ?_
  rintro en w4 ⟨⟨ra2, rn2, rc2, ea2, en2, ec2, ca2, cn2, cc2⟩, rfl, -, hx4⟩
  dsimp only
  have HX4 := Lib.hid (HX3.out.trans hx4)
  clear hx4 HIn HX3 HB3 HV3
  generalize (Doc.insD _ _).title = dt1
  generalize (Doc.insD _ _).lang = dt2
  generalize (Doc.insD _ _).rate = dt3
  generalize (Doc.insD _ _).drop = dt4
  generalize (Doc.insD _ _).last = dt5
  have HX5 : Hid (Ext w ((w4.alloc (.cells #[.string dt1, .string dt2, .int .u8 dt3, .bool dt4, .int .i64 dt5, .slice ra2 rn2 rc2, .slice ea2 en2 ec2, .slice ca2 cn2 cc2] 27)).alloc (.cells #[.int .i64 0, .int .i64 0, .int .i64 4, .int .i64 7, .string ⟨#[]⟩, .string ⟨#[]⟩, .bool false, .bool false] 78))) := (HX4.out.alloc _).alloc _
  have HB5 : Hid (Blk ((w4.alloc (.cells #[.string dt1, .string dt2, .int .u8 dt3, .bool dt4, .int .i64 dt5, .slice ra2 rn2 rc2, .slice ea2 en2 ec2, .slice ca2 cn2 cc2] 27)).alloc (.cells #[.int .i64 0, .int .i64 0, .int .i64 4, .int .i64 7, .string ⟨#[]⟩, .string ⟨#[]⟩, .bool false, .bool false] 78)) (w4.heap.size + 1) 78 #[.int .i64 0, .int .i64 0, .int .i64 4, .int .i64 7, .string ⟨#[]⟩, .string ⟨#[]⟩, .bool false, .bool false]) := Blk.new' (by simp)
  go_upto_region 6 with fail
  obtain ⟨gc, hgc⟩ : ∃ gc, gc = w4.heap.size + 1 := ⟨_, rfl⟩
  rw [← hgc] at HB5 ⊢
  generalize hWg : ((w4.alloc (.cells #[.string dt1, .string dt2, .int .u8 dt3, .bool dt4, .int .i64 dt5, .slice ra2 rn2 rc2, .slice ea2 en2 ec2, .slice ca2 cn2 cc2] 27)).alloc (.cells #[.int .i64 0, .int .i64 0, .int .i64 4, .int .i64 7, .string ⟨#[]⟩, .string ⟨#[]⟩, .bool false, .bool false] 78)) = W5 at *
  clear hWg HX4 hgc
  go_wp2_with (refine wpList_loadB rfl 78 (.tmp 7) rfl gc 78 _ _ (by exact rfl) (by exact HB5.out) Tryz.underlying78 rfl (by exact size_comI) ?_)
  refine (HF1.out _).mono ?_
  rintro en w_1 ⟨rfl, hx_2⟩
  have HX_3 := Lib.hid (HX5.out.trans hx_2)
  have HB_4 := Lib.hid (HB5.out.ext hx_2)
  clear hx_2 HX5 HB5
  have HB_5 := Lib.hid (Blk.new w_1 78 #[.int .i64 0, .int .i64 0, .int .i64 11, .int .i64 14, .string ⟨#[]⟩, .string ⟨#[]⟩, .bool false, .bool false])
  have ha_6 := (Ext.refl w_1).alloc (.cells #[.int .i64 0, .int .i64 0, .int .i64 11, .int .i64 14, .string ⟨#[]⟩, .string ⟨#[]⟩, .bool false, .bool false] 78)
  have HX_7 := Lib.hid (HX_3.out.trans ha_6)
  have HB_8 := Lib.hid (HB_4.out.ext ha_6)
  clear ha_6 HX_3 HB_4
  go_wp2_with (refine wpList_loadB rfl 78 (.tmp 7) rfl gc 78 _ _ (by exact rfl) (by exact HB_8.out) Tryz.underlying78 rfl (by exact size_comI) ?_)
  refine (HF2.out _).mono ?_
  rintro en w_9 ⟨rfl, hx_10⟩
  have HX_11 := Lib.hid (HX_7.out.trans hx_10)
  have HB_12 := Lib.hid (HB_8.out.ext hx_10)
  have HB_13 := Lib.hid (HB_5.out.ext hx_10)
  clear hx_10 HX_7 HB_8 HB_5
  have HB_14 := Lib.hid (Blk.new w_9 78 #[.int .i64 0, .int .i64 0, .int .i64 0, .int .i64 0, .string ⟨#[]⟩, .string ⟨#[]⟩, .bool false, .bool true])
  have ha_15 := (Ext.refl w_9).alloc (.cells #[.int .i64 0, .int .i64 0, .int .i64 0, .int .i64 0, .string ⟨#[]⟩, .string ⟨#[]⟩, .bool false, .bool true] 78)
  have HX_16 := Lib.hid (HX_11.out.trans ha_15)
  have HB_17 := Lib.hid (HB_12.out.ext ha_15)
  have HB_18 := Lib.hid (HB_13.out.ext ha_15)
  clear ha_15 HX_11 HB_12 HB_13
  go_wp2_with (refine wpList_loadB rfl 78 (.tmp 7) rfl gc 78 _ _ (by exact rfl) (by exact HB_17.out) Tryz.underlying78 rfl (by exact size_comI) ?_)
  refine (HF3.out _).mono ?_
  rintro en w_19 ⟨rfl, hx_20⟩
  have HX_21 := Lib.hid (HX_16.out.trans hx_20)
  have HB_22 := Lib.hid (HB_17.out.ext hx_20)
  have HB_23 := Lib.hid (HB_18.out.ext hx_20)
  have HB_24 := Lib.hid (HB_14.out.ext hx_20)
  clear hx_20 HX_16 HB_17 HB_18 HB_14
  have HB_25 := Lib.hid (Blk.new w_19 78 #[.int .i64 0, .int .i64 0, .int .i64 4, .int .i64 7, .string ⟨#[]⟩, .string ⟨#[]⟩, .bool false, .bool false])
  have ha_26 := (Ext.refl w_19).alloc (.cells #[.int .i64 0, .int .i64 0, .int .i64 4, .int .i64 7, .string ⟨#[]⟩, .string ⟨#[]⟩, .bool false, .bool false] 78)
  have HX_27 := Lib.hid (HX_21.out.trans ha_26)
  have HB_28 := Lib.hid (HB_22.out.ext ha_26)
  have HB_29 := Lib.hid (HB_23.out.ext ha_26)
  have HB_30 := Lib.hid (HB_24.out.ext ha_26)
  clear ha_26 HX_21 HB_22 HB_23 HB_24
  clear HB_28
  have hc_31 := fun o => HB_29.out.cell o
  have hc_32 := fun o => HB_30.out.cell o
  have hc_33 := fun o => HB_25.out.cell o
  go_wp2_with fail
  clear hc_31 hc_32 hc_33
  go_ret
  exact ⟨by first | rfl | simp, HX_27.out⟩
end Go.Proofs.YtagfedbdakmlgaaGreatDoor

/-! HeadD -/
namespace Go.Proofs.YtagfedbdakmlgaaGreatDoor
set_option linter.unusedVariables false
set_option linter.unusedSimpArgs false
open Go.RowKit
def Doc.head (d : Doc) : Value := .agg #[.string d.title, .string d.lang, .int .u8 d.rate, .bool d.drop, .int .i64 d.last]
set_option maxRecDepth 100000 in
set_option maxHeartbeats 1000000 in
theorem DHead_any (d : Doc) (h : DocH) (w : World) : Calls Tryz.prog 36 #[.agg (d.cells h)] w fun e w' => e = .returned d.head ∧ Ext w w' := by
  have HX := Lib.hid (((Ext.refl w).alloc (.cells (d.cells h) 27)))
  unfold Doc.cells at *
  go_enter Tryz.func36, Tryz.ntmps36
  go_wp2
  exact bodyPost_ret (v := d.head) (by simp [results, Tryz.results36, go_sem, Doc.head]) rfl ⟨rfl, HX.out.alloc _⟩
end Go.Proofs.YtagfedbdakmlgaaGreatDoor
