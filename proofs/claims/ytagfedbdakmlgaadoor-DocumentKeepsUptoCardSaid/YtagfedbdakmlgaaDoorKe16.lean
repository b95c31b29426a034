/- Laid together: A comment closed, a comment removed: plainly; own rows of comments under a store, cut, mended. The walk of document.New. A comment moved from one text to another, plainly. The walk of document.Follow. The walk of comment.Add. The walks of comment.find and comment.Quoted. The walk of comment.Move. The walk of the law package's awake: the chapter's example. The walk of the law package's awake: the chapter's example. A document without an event, plainly; own rows under the stores. A document in another rate is accepted; its drifts are small: plainly. A region that draws its order, by an invariant: each operation is met once, whatever came ahead of it. The walks of event.Split and of the reference's Split: the errors. What a join of two events comes to; appends of rows, at a step of a region that draws its order. -/
import Derived.Test.YtagfedbdakmlgaaDoorKe15
import Derived.Test.YtagfedbdakmlgaaDoorKe14
import Derived.Test.YtagfedbdakmlgaaDoorKe13
import Derived.Laws.OwnMore
import Derived.Test.YtagfedbdakmlgaaDoorKe06
import Derived.Test.YtagfedbdakmlgaaDoorKe05
import Derived.Test.YtagfedbdakmlgaaDoorKe09
import Derived.Test.YtagfedbdakmlgaaDoorKe11
import Derived.Test.YtagfedbdakmlgaaDoorKe04
import Derived.Deep.AppendLies

/-! CloseP -/
namespace Go.Proofs.YtagfedbdakmlgaaDoor
set_option linter.unusedVariables false
set_option linter.unusedSimpArgs false
open Go.RowKit
/-- a document and an error -/
abbrev DE := Doc × Int
def DEPost (X : DE) (w : World) (en : Ending) (w' : World) : Prop :=
  ∃ h', en = .returned (.tuple #[.agg (X.1.cells h'), .int .i64 X.2]) ∧ DocOwn w' w.heap.size X.1 h' ∧ Ext w w'
theorem dePost_err {X : DE} {e : Int} {w w' : World} (he : X = (Doc.zero, e)) (hx : Ext w w') : DEPost X w (.returned (.tuple #[.agg docZero, .int .i64 e])) w' := by
  subst he
  exact ⟨docH0, by rw [docZero_cells], docZero_own _ _, hx⟩
def Com.shut (c : Com) : Com := ⟨c.id, c.ev, c.fr, c.til, c.author, c.text, true, c.lost⟩
def Doc.withComs (d : Doc) (l : List Com) : Doc := ⟨d.title, d.lang, d.rate, d.drop, d.last, d.regs, d.evs, l⟩
/-- what Close comes to -/
def Doc.clX (d : Doc) (id : Int) : DE :=
  if d.err ≠ 0 then (Doc.zero, d.err) else match findC d.coms id with
    | none => (Doc.zero, 6)
    | some k => match d.coms[k]? with
      | none => (Doc.zero, 6)
      | some c => if c.done = true then (Doc.zero, 17) else (d.withComs (d.coms.set k c.shut), 0)
/-- what Remove comes to -/
def Doc.rmX (d : Doc) (id : Int) : DE :=
  if d.err ≠ 0 then (Doc.zero, d.err) else match findC d.coms id with
    | none => (Doc.zero, 6)
    | some k => (d.withComs (d.coms.take k ++ d.coms.drop (k + 1)), 0)
section
variable {d : Doc} {id : Int} {k : Nat} {c : Com}
end
/-- a cell of an element is stored -/
theorem flatMap_setC {α : Type} {f : α → List Value} {s : Nat} (hf : ∀ x, (f x).length = s) : ∀ {l : List α} {k j : Nat} {x y : α} {u : Value}, l[k]? = some x → f y = (f x).set j u → j < s → (l.flatMap f).set (k * s + j) u = (l.set k y).flatMap f
  | [], k, j, x, y, u, hx, _, _ => by simp at hx
  | z :: l, 0, j, x, y, u, hx, hy, hj => by
    simp only [List.getElem?_cons_zero, Option.some.injEq] at hx
    subst hx
    simp only [List.flatMap_cons, List.set_cons_zero, Nat.zero_mul, Nat.zero_add]
    rw [List.set_append_left _ _ (by rw [hf]; exact hj), hy]
  | z :: l, k + 1, j, x, y, u, hx, hy, hj => by
    simp only [List.getElem?_cons_succ] at hx
    simp only [List.flatMap_cons, List.set_cons_succ]
    have e : (k + 1) * s + j = (f z).length + (k * s + j) := by rw [hf, Nat.succ_mul]; omega
    rw [e, List.set_append_right _ _ (by omega), Nat.add_sub_cancel_left, flatMap_setC hf hx hy hj]
theorem flatMap_take {α : Type} {f : α → List Value} {s : Nat} (hf : ∀ x, (f x).length = s) (l : List α) : ∀ (k : Nat), (l.flatMap f).take (k * s) = (l.take k).flatMap f := by
  induction l with
  | nil => intro k; simp
  | cons z l ih =>
    intro k
    cases k with
    | zero => simp
    | succ k =>
      simp only [List.flatMap_cons, List.take_succ_cons]
      have e : (k + 1) * s = (f z).length + k * s := by rw [hf, Nat.succ_mul]; omega
      rw [e, List.take_length_add_append, ih]
theorem flatMap_drop {α : Type} {f : α → List Value} {s : Nat} (hf : ∀ x, (f x).length = s) (l : List α) : ∀ (k : Nat), (l.flatMap f).drop (k * s) = (l.drop k).flatMap f := by
  induction l with
  | nil => intro k; simp
  | cons z l ih =>
    intro k
    cases k with
    | zero => simp
    | succ k =>
      simp only [List.flatMap_cons, List.drop_succ_cons]
      have e : (k + 1) * s = (f z).length + k * s := by rw [hf, Nat.succ_mul]; omega
      rw [e, List.drop_length_add_append, ih]
/-- one's own document with a comment shut -/
theorem DocOwn.shut {w : World} {L k : Nat} {d : Doc} {h : DocH} {c : Com} (o : DocOwn w L d h) (hc : d.coms[k]? = some c) : ∃ g, h.ca = some ⟨g, 0, none⟩ ∧ L ≤ g ∧ Typed w 31 g ∧ w.cell? ⟨g, k * 8 + 6, none⟩ = some (.bool c.done) ∧ w.frozen? ⟨g, k * 8 + 6, none⟩ = false ∧
    DocOwn (w.setCell ⟨g, k * 8 + 6, none⟩ (.bool true)) L (d.withComs (d.coms.set k c.shut)) h ∧ w.grownBy (w.setCell ⟨g, k * 8 + 6, none⟩ (.bool true)) (some g) := by
  obtain ⟨a1, a2, a3, a4, a5⟩ := o
  have hk := (List.getElem?_eq_some_iff.1 hc).1
  have hty := own_typed a4
  have hlt := own_lt a4
  rcases a4.2 with ⟨hv, hn⟩ | ⟨g, cap, cur, hv, hg, hb, hnc, hcm, hcs, ht⟩
  · rw [hn] at a5; omega
  · have hca : h.ca = some ⟨g, 0, none⟩ := by injection hv
    rw [hca] at a4 hty
    have hs := a4.stored (k * 8 + 6) (.bool true)
    have hT : Typed w 31 g := hty g rfl
    have hkb : ∀ {T : TypeId}, T ≠ 31 → KB T w (w.setCell ⟨g, k * 8 + 6, none⟩ (.bool true)) := fun hne => KB.grown hs.2 (fun q hq => by cases hq; exact hT) hne
    have hfl : (d.coms.flatMap Com.vals).set (k * 8 + 6) (.bool true) = (d.coms.set k c.shut).flatMap Com.vals := flatMap_setC (f := Com.vals) (s := 8) (fun _ => rfl) hc rfl (by omega)
    refine ⟨g, hca, hg, hT, ?_, hT.frozen _, ⟨own_kb a1 (hkb (by decide)), a2, a3.kb (hkb (by decide)) (hkb (by decide)) (hkb (by decide)), ?_, by show (d.coms.set k c.shut).length = _; simpa using a5⟩, hs.2⟩
    · rw [a4.cellAt (k * 8 + 6) (by omega), flatMap_at Com.vals 8 (fun _ => rfl) d.coms k c 6 hc (by omega)]
      rfl
    · show World.ownsRow _ _ _ _ _ _ ((d.coms.set k c.shut).flatMap Com.vals)
      rw [← hfl, hca]
      exact hs.1
end Go.Proofs.YtagfedbdakmlgaaDoor

/-! NewD -/
namespace Go.Proofs.YtagfedbdakmlgaaDoor
set_option linter.unusedVariables false
set_option linter.unusedSimpArgs false
open Go.RowKit
/-- what New comes to -/
def newX (r : Int) (drop : Bool) : DE := if rateE r drop = 0 then (⟨⟨#[]⟩, ⟨#[]⟩, r, drop, 0, [], [], []⟩, 0) else (Doc.zero, rateE r drop)
theorem new_own (w : World) (L : Nat) (r : Int) (drop : Bool) : DocOwn w L ⟨⟨#[]⟩, ⟨#[]⟩, r, drop, 0, [], [], []⟩ docH0 := ⟨⟨rfl, .inl ⟨rfl, rfl⟩⟩, rfl, EvsOwn.nil _ _, ⟨rfl, .inl ⟨rfl, rfl⟩⟩, rfl⟩
set_option maxRecDepth 100000 in
set_option maxHeartbeats 2000000 in
theorem DNew_any (r : Int) (drop : Bool) (w : World) (h0 : 0 ≤ r) (h1 : r ≤ 255) : Calls Tryd.prog 33 #[.int .u8 r, .bool drop] w (DEPost (newX r drop) w) := by
  have HR := Lib.hid (fun w' => drate_any r drop w' h0 h1)
  have HX : Hid (Ext w (w.alloc (.cells docZero 39))) := (Ext.refl w).alloc _
  have HZ : Hid (Blk (w.alloc (.cells docZero 39)) w.heap.size 39 docZero) := Blk.new w _ _
  unfold docZero at HX HZ
  go_enter Tryd.func33, Tryd.ntmps33
  go_wp2_with fail
  refine (HR.out _).mono ?_
  rintro en w1 ⟨rfl, hx1⟩
  have HX1 := Lib.hid (HX.out.trans hx1)
  have HZ1 := Lib.hid (HZ.out.ext hx1)
  clear hx1 HX HZ
  by_cases he : rateE r drop = 0
  · have HN : Hid (newX r drop = (⟨⟨#[]⟩, ⟨#[]⟩, r, drop, 0, [], [], []⟩, 0)) := by show _ = _; unfold newX; rw [if_pos he]
    rw [he]
    clear he
    go_wp2_with (refine wpList_storeB rfl 39 (.tmp 4) _ rfl w.heap.size 39 _ _ (by exact rfl) (by exact rfl) (by exact HZ1.out) (by exact rfl) (by exact size_docI) (by simp [Value.oneCell']) ?_)
    refine bodyPost_ret (v := .tuple #[.agg #[.string ⟨#[]⟩, .string ⟨#[]⟩, .int .u8 r, .bool drop, .int .i64 0, .slice none 0 0, .slice none 0 0, .slice none 0 0], .int .i64 0]) ?_ rfl ⟨docH0, ?_, ?_, ?_⟩
    · exact results_B_tmp (P := Tryd.prog) Tryd.results33 (g := w.heap.size) rfl (by exact HZ1.out.put _) Tryd.underlying39 rfl size_docI
    · rw [HN.out]; rfl
    · rw [HN.out]; exact new_own _ _ _ _
    · exact HX1.out.put (Nat.le_refl _) _ _
  · have HN : Hid (newX r drop = (Doc.zero, rateE r drop)) := by show _ = _; unfold newX; rw [if_neg he]
    have hne : (rateE r drop != 0) = true := by simpa using he
    clear he
    go_wp2_with (refine wpList_storeB rfl 39 (.tmp 4) _ rfl w.heap.size 39 _ _ (by exact rfl) (by exact rfl) (by exact HZ1.out) (by exact rfl) (by exact size_docI) (by simp [Value.oneCell']) ?_)
    refine bodyPost_ret (v := .tuple #[.agg docZero, .int .i64 (rateE r drop)]) ?_ rfl ?_
    · exact results_B_tmp (P := Tryd.prog) Tryd.results33 (g := w.heap.size) rfl (by exact HZ1.out.put _) Tryd.underlying39 rfl size_docI
    · exact dePost_err HN.out (HX1.out.put (Nat.le_refl _) _ _)
end Go.Proofs.YtagfedbdakmlgaaDoor

/-! FolP -/
namespace Go.Proofs.YtagfedbdakmlgaaDoor
set_option linter.unusedVariables false
set_option linter.unusedSimpArgs false
open Go.RowKit
def wfrom (n m p s : Nat) (i : Int) : Int := if (n : Int) - s ≤ i then IntKind.i64.wrap (i + ((m : Int) - n)) else if i < p then i else (m : Int) - s
def wto (n m p s : Nat) (i : Int) : Int := if i ≤ p then i else if (n : Int) - s < i then IntKind.i64.wrap (i + ((m : Int) - n)) else p
def Com.moved (c : Com) (f t : Int) : Com := if t ≤ f then ⟨c.id, c.ev, 0, 0, c.author, c.text, c.done, true⟩ else ⟨c.id, c.ev, f, t, c.author, c.text, c.done, c.lost⟩
/-- what Follow comes to -/
def Com.fol (c : Com) (a b : List Int) : Com := if c.lost = true then c else c.moved (wfrom a.length b.length (Mv.pre a b) (Mv.suf a b (Mv.pre a b)) c.fr) (wto a.length b.length (Mv.pre a b) (Mv.suf a b (Mv.pre a b)) c.til)
theorem size_comI : (Tryd.prog.info? 31).map (·.size) = some 8 := by kernel_rfl
def comZero : Array Value := #[.int .i64 0, .int .i64 0, .int .i64 0, .int .i64 0, .string ⟨#[]⟩, .string ⟨#[]⟩, .bool false, .bool false]
end Go.Proofs.YtagfedbdakmlgaaDoor

/-! FollowD -/
namespace Go.Proofs.YtagfedbdakmlgaaDoor
set_option linter.unusedVariables false
set_option linter.unusedSimpArgs false
open Go.RowKit
set_option maxRecDepth 100000 in
set_option maxHeartbeats 8000000 in
theorem DFollow_any (c : Com) (before after : ByteArray) (w : World) (hb : before.size ≤ 35184372088831) (ha : after.size ≤ 35184372088831) :
    Calls Tryd.prog 11 #[.agg c.vals.toArray, .string before, .string after] w fun en w' => en = .returned (.agg (c.fol (runes before 0) (runes after 0)).vals.toArray) ∧ Ext w w' := by
  have HRa := Lib.hid (fun w' => DRunes_any before w' hb)
  have HRb := Lib.hid (fun w' => DRunes_any after w' ha)
  have hna := runes_len before
  have hnb := runes_len after
  have HX : Hid (Ext w ((w.alloc (.cells #[.int .i64 c.id, .int .i64 c.ev, .int .i64 c.fr, .int .i64 c.til, .string c.author, .string c.text, .bool c.done, .bool c.lost] 31)).alloc (.cells #[.int .i64 0, .int .i64 0, .int .i64 0, .int .i64 0, .string ⟨#[]⟩, .string ⟨#[]⟩, .bool false, .bool false] 31))) := ((Ext.refl w).alloc _).alloc _
  have HB : Hid (Blk ((w.alloc (.cells #[.int .i64 c.id, .int .i64 c.ev, .int .i64 c.fr, .int .i64 c.til, .string c.author, .string c.text, .bool c.done, .bool c.lost] 31)).alloc (.cells #[.int .i64 0, .int .i64 0, .int .i64 0, .int .i64 0, .string ⟨#[]⟩, .string ⟨#[]⟩, .bool false, .bool false] 31)) w.heap.size 31 #[.int .i64 c.id, .int .i64 c.ev, .int .i64 c.fr, .int .i64 c.til, .string c.author, .string c.text, .bool c.done, .bool c.lost]) := (Blk.new w _ _).alloc _
  have HZ : Hid (Blk ((w.alloc (.cells #[.int .i64 c.id, .int .i64 c.ev, .int .i64 c.fr, .int .i64 c.til, .string c.author, .string c.text, .bool c.done, .bool c.lost] 31)).alloc (.cells #[.int .i64 0, .int .i64 0, .int .i64 0, .int .i64 0, .string ⟨#[]⟩, .string ⟨#[]⟩, .bool false, .bool false] 31)) (w.heap.size + 1) 31 #[.int .i64 0, .int .i64 0, .int .i64 0, .int .i64 0, .string ⟨#[]⟩, .string ⟨#[]⟩, .bool false, .bool false]) := Blk.new' (by simp)
  unfold RunesPost at HRa HRb
  unfold Com.vals
  generalize runes before 0 = a at *
  generalize runes after 0 = b at *
  go_enter Tryd.func11, Tryd.ntmps11
  have hcb := fun o => HB.out.cell o
  cases hlo : c.lost
  case true =>
    have HF : Hid (c.fol a b = c) := by show _ = _; unfold Com.fol; rw [if_pos hlo]
    have HLo := Lib.hid hlo
    rw [hlo] at HB HX HZ hcb
    clear hlo
    go_wp2_with (first | (refine wpList_loadB rfl 31 (.tmp 3) rfl (w.heap.size) 31 _ _ (by exact rfl) (by exact HB.out) Tryd.underlying31 rfl (by exact size_comI) ?_) | (refine wpList_storeB rfl 31 (.tmp 6) _ rfl (w.heap.size + 1) 31 _ _ (by exact rfl) (by exact rfl) (by exact HZ.out) (by exact rfl) (by exact size_comI) (by simp [Value.oneCell']) ?_))
    refine bodyPost_ret (v := .agg #[.int .i64 c.id, .int .i64 c.ev, .int .i64 c.fr, .int .i64 c.til, .string c.author, .string c.text, .bool c.done, .bool true]) ?_ rfl ⟨?_, HX.out.put (by omega) _ _⟩
    · exact results_B (P := Tryd.prog) Tryd.results11 (g := w.heap.size + 1) rfl (by exact HZ.out.put _) Tryd.underlying31 rfl size_comI
    · rw [HF.out, HLo.out]
  have HLo := Lib.hid hlo
  rw [hlo] at HB HX HZ hcb
  clear hlo
  go_wp2_with fail
  clear hcb
  refine (HRa.out _).mono ?_
  rintro en w1 ⟨A, n, c1, rfl, hat1, hc1, hx1⟩
  go_wp2_with fail
  refine (HRb.out _).mono ?_
  rintro en W ⟨B, m, c2, rfl, hat2, hc2, hx2⟩
  have HXW := Lib.hid (HX.out.trans (hx1.trans hx2))
  have HBW := Lib.hid (HB.out.ext (hx1.trans hx2))
  have HZW := Lib.hid (HZ.out.ext (hx1.trans hx2))
  have HA := Lib.hid (hat1.ext hx2)
  have HBr := Lib.hid hat2
  have HLa := Lib.hid hat1.len
  have HLb := Lib.hid hat2.len
  have hn9 : n ≤ 35184372088831 := by have := hat1.len; omega
  have hm9 : m ≤ 35184372088831 := by have := hat2.len; omega
  clear hx1 hx2 hat1 hat2 hna hnb HRa HRb HX HB HZ
  have hpl := Mv.pre_le a b
  have hsl := Mv.suf_le a b (Mv.pre a b)
  have hla := HLa.out
  have hlb := HLb.out
  obtain ⟨P0, hP0⟩ : ∃ P0, P0 = Mv.pre a b := ⟨_, rfl⟩
  obtain ⟨S0, hS0⟩ : ∃ S0, S0 = Mv.suf a b (Mv.pre a b) := ⟨_, rfl⟩
  have hp1 : P0 ≤ n ∧ P0 ≤ m := by omega
  have hs1 : P0 + S0 ≤ n ∧ P0 + S0 ≤ m := by rw [hP0, hS0]; omega
  have HP0 := Lib.hid hP0
  have HS0 := Lib.hid hS0
  clear hpl hsl hP0 hS0 hla hlb
  obtain ⟨hpn, hpm⟩ := hp1
  obtain ⟨hsn, hsm⟩ := hs1
  go_upto_block 0 with fail
  go_cut [11] (fun s11 wr => s11 = .int .i64 P0 ∧ Ext W wr)
  case first =>
    go_wp2_with fail
    go_loopg [11] n (fun kx v wr => ∃ k : Nat, v = .int .i64 k ∧ k ≤ P0 ∧ n - k ≤ kx ∧ Hid (Ext W wr))
    case atStart => exact ⟨0, rfl, Nat.zero_le _, by omega, (show Hid _ from Ext.refl _)⟩
    case round =>
      obtain ⟨k, rfl, hkP, hkx, HX⟩ := hrel
      have HK : Hid (k ≤ Mv.pre a b) := by show _ ≤ _; rw [← HP0.out]; exact hkP
      by_cases hlt : k < n ∧ k < m
      · obtain ⟨hn1, hm1⟩ := hlt
        obtain ⟨b1, o1, x, hA1, hx1, c1⟩ := (HA.out.ext HX.out).cell hn1
        obtain ⟨b2, o2, y, hA2, hx2, c2⟩ := (HBr.out.ext HX.out).cell hm1
        subst hA1 hA2
        have hmn : (k : Int) < min (n : Int) (m : Int) := by omega
        have hn1i : (k : Int) < (n : Int) := by omega
        have hm1i : (k : Int) < (m : Int) := by omega
        have hk0 : (0 : Int) ≤ (k : Int) := by omega
        have fc1 := fun (y : EW wr) => y.ext.cell c1
        have fc2 := fun (y : EW wr) => y.ext.cell c2
        clear c1 c2
        by_cases he : x = y
        · have heb : (x == y) = true := by simpa using he
          have HN := Lib.hid (Mv.pre_step HK.out hx1 hx2 he)
          clear hx1 hx2 he
          go_wp2_with fail
          refine wp_region_ew wr (Ext.refl _) (by kernel_rfl) (by kernel_rfl) ?_
          repeat (go_big_quiet_step ((fail)))
          refine wpQuiet_nil ?_
          rintro w9 ⟨⟨_, hx9⟩, rfl⟩
          clear fc1 fc2
          go_wp2_with fail
          go_roundg (n - (k + 1))
          case measure => omega
          case rel => exact ⟨k + 1, by go_num, by rw [HP0.out]; exact HN.out, Nat.le_refl _, (show Hid _ from HX.out.trans hx9)⟩
        have heb : (x == y) = false := by simpa using he
        have hkp : k = P0 := by rw [HP0.out]; exact Mv.pre_stop HK.out (.inr (.inr ⟨x, y, hx1, hx2, he⟩))
        clear hx1 hx2 he
        have HKP := Lib.hid hkp
        clear hkp
        go_wp2_with fail
        refine wp_region_ew wr (Ext.refl _) (by kernel_rfl) (by kernel_rfl) ?_
        repeat (go_big_quiet_step ((fail)))
        refine wpQuiet_nil ?_
        rintro w9 ⟨⟨_, hx9⟩, rfl⟩
        clear fc1 fc2 hmn hn1i hm1i hk0 heb
        go_wp2_with fail
        go_meet
        case rel => exact ⟨by rw [HKP.out], HX.out.trans hx9⟩
      have hkp : k = P0 := by
        rw [HP0.out]
        refine Mv.pre_stop HK.out ?_
        have h1 := HLa.out
        have h2 := HLb.out
        by_cases h : k < n
        · exact .inr (.inl (by omega))
        · exact .inl (by omega)
      have HKP := Lib.hid hkp
      clear hkp
      have hmn : decide ((k : Int) < min (n : Int) (m : Int)) = false := decide_eq_false (by omega)
      go_wp2_with fail
      refine wp_region_ew wr (Ext.refl _) (by kernel_rfl) (by kernel_rfl) ?_
      repeat (go_big_quiet_step ((fail)))
      refine wpQuiet_nil ?_
      rintro w9 ⟨⟨_, hx9⟩, rfl⟩
      clear hmn hlt
      go_wp2_with fail
      go_meet
      case rel => exact ⟨by rw [HKP.out], HX.out.trans hx9⟩
  case rest =>
  obtain ⟨rfl, hxc⟩ := hcut
  have HX2 := Lib.hid (HXW.out.trans hxc)
  have HB2 := Lib.hid (HBW.out.ext hxc)
  have HZ2 := Lib.hid (HZW.out.ext hxc)
  have HA2 := Lib.hid (HA.out.ext hxc)
  have HBr2 := Lib.hid (HBr.out.ext hxc)
  clear hxc HXW HBW HZW HA HBr
  go_upto_block 2 with fail
  go_cut [12] (fun s12 wr => s12 = .int .i64 S0 ∧ Ext wc wr)
  case first =>
    go_wp2_with fail
    go_loopg [12] n (fun kx v wr => ∃ j : Nat, v = .int .i64 j ∧ j ≤ S0 ∧ n - j ≤ kx ∧ Hid (Ext wc wr))
    case atStart => exact ⟨0, rfl, Nat.zero_le _, by omega, (show Hid _ from Ext.refl _)⟩
    case round =>
      obtain ⟨j, rfl, hjS, hkx, HXo⟩ := hrel
      have HJ : Hid (j ≤ Mv.suf a b (Mv.pre a b)) := by show _ ≤ _; rw [← HS0.out]; exact hjS
      have hj0 : (0 : Int) ≤ (j : Int) := by omega
      by_cases hlt2 : j < n - P0 ∧ j < m - P0
      · obtain ⟨hn2, hm2⟩ := hlt2
        obtain ⟨b1, o1, x, hA1, hx1, c1⟩ := (HA2.out.ext HXo.out).cell (i := n - 1 - j) (by omega)
        obtain ⟨b2, o2, y, hA2, hx2, c2⟩ := (HBr2.out.ext HXo.out).cell (i := m - 1 - j) (by omega)
        have hmn : (j : Int) < min (n : Int) (m : Int) - (P0 : Int) := by omega
        have hd1 : (j : Int) < (n : Int) - (P0 : Int) := by omega
        have hd2 : (j : Int) < (m : Int) - (P0 : Int) := by omega
        have hi1 : (n : Int) - 1 - (j : Int) = ((n - 1 - j : Nat) : Int) := by omega
        have hi2 : (m : Int) - 1 - (j : Int) = ((m - 1 - j : Nat) : Int) := by omega
        have hi3 : ((n : Int) - 1 - (j : Int)).toNat = n - 1 - j := by omega
        have hi4 : ((m : Int) - 1 - (j : Int)).toNat = m - 1 - j := by omega
        have hi5 : (0 : Int) ≤ (n : Int) - 1 - (j : Int) ∧ (n : Int) - 1 - (j : Int) < (n : Int) := by omega
        have hi6 : (0 : Int) ≤ (m : Int) - 1 - (j : Int) ∧ (m : Int) - 1 - (j : Int) < (m : Int) := by omega
        obtain ⟨hi7, hi8⟩ := hi5
        obtain ⟨hi9, hi10⟩ := hi6
        have hi11 : n - 1 - j < n := by omega
        have hi12 : m - 1 - j < m := by omega
        have fc1 := fun (y : EW wr) => y.ext.cell c1
        have fc2 := fun (y : EW wr) => y.ext.cell c2
        clear c1 c2
        by_cases he : x = y
        · have heb : (x == y) = true := by simpa using he
          have HN := Lib.hid (Mv.suf_step HJ.out (by have := HLa.out; have := HP0.out; omega) (by have := HLb.out; have := HP0.out; omega) (by rw [HLa.out]; exact hx1) (by rw [HLb.out]; exact hx2) he)
          clear hx1 hx2 he
          subst hA1 hA2
          go_wp2_with fail
          refine wp_region_ew wr (Ext.refl _) (by kernel_rfl) (by kernel_rfl) ?_
          repeat (go_big_quiet_step ((fail)))
          refine wpQuiet_nil ?_
          rintro w9 ⟨⟨_, hx9⟩, rfl⟩
          clear fc1 fc2
          go_wp2_with fail
          go_roundg (n - (j + 1))
          case measure => omega
          case rel => exact ⟨j + 1, by go_num, by rw [HS0.out]; exact HN.out, Nat.le_refl _, (show Hid _ from HXo.out.trans hx9)⟩
        have heb : (x == y) = false := by simpa using he
        have hjs : j = S0 := by
          rw [HS0.out]
          exact Mv.suf_stop HJ.out (.inr (.inr ⟨x, y, by have := HLa.out; have := HP0.out; omega, by have := HLb.out; have := HP0.out; omega, by rw [HLa.out]; exact hx1, by rw [HLb.out]; exact hx2, he⟩))
        have HJS := Lib.hid hjs
        clear hx1 hx2 he hjs
        subst hA1 hA2
        go_wp2_with fail
        refine wp_region_ew wr (Ext.refl _) (by kernel_rfl) (by kernel_rfl) ?_
        repeat (go_big_quiet_step ((fail)))
        refine wpQuiet_nil ?_
        rintro w9 ⟨⟨_, hx9⟩, rfl⟩
        clear fc1 fc2 hmn hd1 hd2 hi1 hi2 hi3 hi4 hi7 hi8 hi9 hi10 hi11 hi12 heb
        go_wp2_with fail
        go_meet
        case rel => exact ⟨by rw [HJS.out], HXo.out.trans hx9⟩
      have hjs : j = S0 := by
        rw [HS0.out]
        refine Mv.suf_stop HJ.out ?_
        have h1 := HLa.out
        have h2 := HLb.out
        have h3 := HP0.out
        by_cases h : j < n - P0
        · exact .inr (.inl (by omega))
        · exact .inl (by omega)
      have HJS := Lib.hid hjs
      clear hjs
      have hmn : decide ((j : Int) < min (n : Int) (m : Int) - (P0 : Int)) = false := decide_eq_false (by omega)
      go_wp2_with fail
      refine wp_region_ew wr (Ext.refl _) (by kernel_rfl) (by kernel_rfl) ?_
      repeat (go_big_quiet_step ((fail)))
      refine wpQuiet_nil ?_
      rintro w9 ⟨⟨_, hx9⟩, rfl⟩
      clear hmn hlt2
      go_wp2_with fail
      go_meet
      case rel => exact ⟨by rw [HJS.out], HXo.out.trans hx9⟩
  case rest =>
  obtain ⟨rfl, hxc⟩ := hcut
  have HX3 := Lib.hid (HX2.out.trans hxc)
  have HB3 := Lib.hid (HB2.out.ext hxc)
  have HZ3 := Lib.hid (HZ2.out.ext hxc)
  clear hxc HX2 HB2 HZ2 HA2 HBr2
  obtain ⟨F, hF⟩ : ∃ F, F = wfrom n m P0 S0 c.fr := ⟨_, rfl⟩
  obtain ⟨G, hG⟩ : ∃ G, G = wto n m P0 S0 c.til := ⟨_, rfl⟩
  have HFf := Lib.hid hF
  have HGg := Lib.hid hG
  clear hF hG
  go_upto_block 4 with fail
  go_cut [68] (fun s68 wr => Ext w wr ∧ Blk wr w.heap.size 31 #[.int .i64 c.id, .int .i64 c.ev, .int .i64 F, .int .i64 c.til, .string c.author, .string c.text, .bool c.done, .bool false] ∧ Blk wr (w.heap.size + 1) 31 #[.int .i64 0, .int .i64 0, .int .i64 0, .int .i64 0, .string ⟨#[]⟩, .string ⟨#[]⟩, .bool false, .bool false])
  case first =>
    have hcb := fun o => HB3.out.cell o
    have hfb := fun o => HB3.out.frozen o
    have hsb := setCell_put HB3.out 2 (.int .i64 F)
    simp at hsb
    by_cases z1 : (n : Int) - (S0 : Int) ≤ c.fr
    · have hw : IntKind.i64.wrap (c.fr + ((m : Int) - (n : Int))) = F := by rw [HFf.out]; unfold wfrom; rw [if_pos z1]
      go_wp2_with fail
      go_meet
      case rel => exact ⟨HX3.out.put (Nat.le_refl _) _ _, HB3.out.put _, HZ3.out.put_other (by omega) _⟩
    by_cases z2 : (P0 : Int) ≤ c.fr
    · have hw : (m : Int) - (S0 : Int) = F := by rw [HFf.out]; unfold wfrom; rw [if_neg z1, if_neg (by omega)]
      go_wp2_with fail
      go_meet
      case rel => exact ⟨HX3.out.put (Nat.le_refl _) _ _, HB3.out.put _, HZ3.out.put_other (by omega) _⟩
    have hw : Hid (F = c.fr) := by show _ = _; rw [HFf.out]; unfold wfrom; rw [if_neg z1, if_pos (by omega)]
    go_wp2_with fail
    go_meet
    case rel => exact ⟨HX3.out, by rw [hw.out]; exact HB3.out, HZ3.out⟩
  case rest =>
  obtain ⟨hx4, hb4, hz4⟩ := hcut
  have HX4 := Lib.hid hx4
  have HB4 := Lib.hid hb4
  have HZ4 := Lib.hid hz4
  clear hx4 hb4 hz4 HX3 HB3 HZ3
  go_upto_block 5 with fail
  go_cut [93] (fun s93 wr => Ext w wr ∧ Blk wr w.heap.size 31 #[.int .i64 c.id, .int .i64 c.ev, .int .i64 F, .int .i64 G, .string c.author, .string c.text, .bool c.done, .bool false] ∧ Blk wr (w.heap.size + 1) 31 #[.int .i64 0, .int .i64 0, .int .i64 0, .int .i64 0, .string ⟨#[]⟩, .string ⟨#[]⟩, .bool false, .bool false])
  case first =>
    have hcb := fun o => HB4.out.cell o
    have hfb := fun o => HB4.out.frozen o
    have hsb := fun u => setCell_put HB4.out 3 u
    simp at hsb
    by_cases z1 : c.til ≤ (P0 : Int)
    · have hw : Hid (G = c.til) := by show _ = _; rw [HGg.out]; unfold wto; rw [if_pos z1]
      go_wp2_with fail
      go_meet
      case rel => exact ⟨HX4.out, by rw [hw.out]; exact HB4.out, HZ4.out⟩
    by_cases z2 : (n : Int) - (S0 : Int) < c.til
    · have hw : IntKind.i64.wrap (c.til + ((m : Int) - (n : Int))) = G := by rw [HGg.out]; unfold wto; rw [if_neg z1, if_pos z2]
      go_wp2_with fail
      go_meet
      case rel => exact ⟨HX4.out.put (Nat.le_refl _) _ _, HB4.out.put _, HZ4.out.put_other (by omega) _⟩
    have hw : Hid (G = (P0 : Int)) := by show _ = _; rw [HGg.out]; unfold wto; rw [if_neg z1, if_neg z2]
    go_wp2_with fail
    go_meet
    case rel => rw [hw.out]; exact ⟨HX4.out.put (Nat.le_refl _) _ _, HB4.out.put _, HZ4.out.put_other (by omega) _⟩
  case rest =>
  obtain ⟨hx5, hb5, hz5⟩ := hcut
  have HX5 := Lib.hid hx5
  have HB5 := Lib.hid hb5
  have HZ5 := Lib.hid hz5
  have hcb := fun o => HB5.out.cell o
  have hfb := fun o => HB5.out.frozen o
  clear hx5 hb5 hz5 HX4 HB4 HZ4
  have HFol : Hid (c.fol a b = c.moved F G) := by
    show _ = _
    unfold Com.fol
    rw [if_neg (by rw [HLo.out]; decide), HFf.out, HGg.out, HLa.out, HLb.out, ← HS0.out, ← HP0.out]
  by_cases hge : G ≤ F
  · have HM : Hid (c.moved F G = ⟨c.id, c.ev, 0, 0, c.author, c.text, c.done, true⟩) := by show _ = _; unfold Com.moved; rw [if_pos hge]
    have s1 := setCell_put HB5.out 2 (.int .i64 0)
    have HB6 := Lib.hid (HB5.out.put #[.int .i64 c.id, .int .i64 c.ev, .int .i64 0, .int .i64 G, .string c.author, .string c.text, .bool c.done, .bool false])
    have s2 := setCell_put HB6.out 3 (.int .i64 0)
    have HB7 := Lib.hid (HB6.out.put #[.int .i64 c.id, .int .i64 c.ev, .int .i64 0, .int .i64 0, .string c.author, .string c.text, .bool c.done, .bool false])
    have s3 := setCell_put HB7.out 7 (.bool true)
    have hc6 := fun o => HB6.out.cell o
    have hc7 := fun o => HB7.out.cell o
    have hf6 := fun o => HB6.out.frozen o
    have hf7 := fun o => HB7.out.frozen o
    simp at s1 s2 s3
    have HZ8 := Lib.hid (((HZ5.out.put_other (g' := w.heap.size) (t' := 31) (by omega) #[.int .i64 c.id, .int .i64 c.ev, .int .i64 0, .int .i64 G, .string c.author, .string c.text, .bool c.done, .bool false]).put_other (g' := w.heap.size) (t' := 31) (by omega) #[.int .i64 c.id, .int .i64 c.ev, .int .i64 0, .int .i64 0, .string c.author, .string c.text, .bool c.done, .bool false]).put_other (g' := w.heap.size) (t' := 31) (by omega) #[.int .i64 c.id, .int .i64 c.ev, .int .i64 0, .int .i64 0, .string c.author, .string c.text, .bool c.done, .bool true])
    have HX8 := Lib.hid (((HX5.out.put (g := w.heap.size) (Nat.le_refl _) 31 #[.int .i64 c.id, .int .i64 c.ev, .int .i64 0, .int .i64 G, .string c.author, .string c.text, .bool c.done, .bool false]).put (g := w.heap.size) (Nat.le_refl _) 31 #[.int .i64 c.id, .int .i64 c.ev, .int .i64 0, .int .i64 0, .string c.author, .string c.text, .bool c.done, .bool false]).put (g := w.heap.size) (Nat.le_refl _) 31 #[.int .i64 c.id, .int .i64 c.ev, .int .i64 0, .int .i64 0, .string c.author, .string c.text, .bool c.done, .bool true])
    have HB8 := Lib.hid (HB7.out.put #[.int .i64 c.id, .int .i64 c.ev, .int .i64 0, .int .i64 0, .string c.author, .string c.text, .bool c.done, .bool true])
    go_wp2_with (first | (refine wpList_loadB rfl 31 (.tmp 3) rfl (w.heap.size) 31 _ _ (by exact rfl) (by exact HB8.out) Tryd.underlying31 rfl (by exact size_comI) ?_) | (refine wpList_storeB rfl 31 (.tmp 6) _ rfl (w.heap.size + 1) 31 _ _ (by exact rfl) (by exact rfl) (by exact HZ8.out) (by exact rfl) (by exact size_comI) (by simp [Value.oneCell']) ?_))
    refine bodyPost_ret (v := .agg #[.int .i64 c.id, .int .i64 c.ev, .int .i64 0, .int .i64 0, .string c.author, .string c.text, .bool c.done, .bool true]) ?_ rfl ⟨?_, HX8.out.put (by omega) _ _⟩
    · exact results_B (P := Tryd.prog) Tryd.results11 (g := w.heap.size + 1) rfl (by exact HZ8.out.put _) Tryd.underlying31 rfl size_comI
    · rw [HFol.out, HM.out]
  · have HM : Hid (c.moved F G = ⟨c.id, c.ev, F, G, c.author, c.text, c.done, c.lost⟩) := by show _ = _; unfold Com.moved; rw [if_neg hge]
    go_wp2_with (first | (refine wpList_loadB rfl 31 (.tmp 3) rfl (w.heap.size) 31 _ _ (by exact rfl) (by exact HB5.out) Tryd.underlying31 rfl (by exact size_comI) ?_) | (refine wpList_storeB rfl 31 (.tmp 6) _ rfl (w.heap.size + 1) 31 _ _ (by exact rfl) (by exact rfl) (by exact HZ5.out) (by exact rfl) (by exact size_comI) (by simp [Value.oneCell']) ?_))
    refine bodyPost_ret (v := .agg #[.int .i64 c.id, .int .i64 c.ev, .int .i64 F, .int .i64 G, .string c.author, .string c.text, .bool c.done, .bool false]) ?_ rfl ⟨?_, HX5.out.put (by omega) _ _⟩
    · exact results_B (P := Tryd.prog) Tryd.results11 (g := w.heap.size + 1) rfl (by exact HZ5.out.put _) Tryd.underlying31 rfl size_comI
    · rw [HFol.out, HM.out, HLo.out]
end Go.Proofs.YtagfedbdakmlgaaDoor

/-! AddD -/
namespace Go.Proofs.YtagfedbdakmlgaaDoor
set_option linter.unusedVariables false
set_option linter.unusedSimpArgs false
open Go.RowKit
end Go.Proofs.YtagfedbdakmlgaaDoor

/-! QuoteD -/
namespace Go.Proofs.YtagfedbdakmlgaaDoor
set_option linter.unusedVariables false
set_option linter.unusedSimpArgs false
open Go.RowKit
def QtRel (W : World) (fr til : Int) (l : List Int) (n : Nat) (v i : Value) (wr : World) : Prop := ∃ k : Nat, k ≤ n ∧ v = .string (quoteT fr til (l.take k)) ∧ i = .int .i64 k ∧ Ext W wr
theorem text_size (e : Ev) {n : Nat} (h : e.bytes ≤ 1099511627776) (hn : n * 24 ≤ 140737488355328) (hl : e.rows.length = n) : (⟨e.text.toArray⟩ : ByteArray).size ≤ 35184372088831 := by
  have h1 := join_len [10] (e.rows.map rowText)
  have h2 : ((e.rows.map rowText).map List.length) = e.rows.map rowBytes := by
    rw [List.map_map]
    apply List.map_congr_left
    intro r _
    exact rowText_len r
  have h3 : (⟨e.text.toArray⟩ : ByteArray).size = e.text.length := rfl
  rw [h2] at h1
  unfold Ev.bytes at h
  rw [h3]
  unfold Ev.text
  simp only [List.length_map, List.length_singleton, Nat.mul_one] at h1
  omega
end Go.Proofs.YtagfedbdakmlgaaDoor

/-! Move -/
namespace Go.Proofs.YtagfedbdakmlgaaDoor
set_option linter.unusedVariables false
set_option linter.unusedSimpArgs false
open Go.RowKit
end Go.Proofs.YtagfedbdakmlgaaDoor

/-! Awake14 -/
namespace Go.Proofs.YtagfedbdakmlgaaDoor
set_option linter.unusedVariables false
set_option linter.unusedSimpArgs false
open Go.RowKit
def q0a : Run := ⟨⟨#[72, 105, 44]⟩, 0, false, false, ⟨#[]⟩⟩
def q0b : Run := ⟨⟨#[121, 111, 117, 46]⟩, 0, false, false, ⟨#[]⟩⟩
def q0e : Ev := ⟨1, 10, 50, ⟨#[]⟩, 1, ⟨#[]⟩, [[q0a], [q0b]]⟩
def q0 : Doc := ⟨⟨#[]⟩, ⟨#[]⟩, 3, false, 1, [], [q0e], []⟩
def q1 : Doc := ⟨⟨#[]⟩, ⟨#[]⟩, 3, false, 2, [], [q0e], [⟨2, 1, 0, 2, ⟨#[65, 78, 78]⟩, ⟨#[63]⟩, false, false⟩]⟩
def q0h (g : Nat) : DocH := ⟨none, 0, 0, some ⟨g, 0, none⟩, 1, 1, none, 0, 0⟩
theorem sl_1 {α : Type} {C : World → Nat → Nat → α → Prop} {w : World} {size g : Nat} {x : α} (h : C w g 0 x) : Sl w size C (some ⟨g, 0, none⟩) 1 [x] := by
  refine ⟨rfl, fun _ => ⟨g, 0, rfl, fun i y hy => ?_⟩⟩
  match i, hy with
  | 0, hy => simp at hy; subst hy; simpa using h
  | i + 1, hy => simp at hy
end Go.Proofs.YtagfedbdakmlgaaDoor

/-! Awake12 -/
namespace Go.Proofs.YtagfedbdakmlgaaDoor
set_option linter.unusedVariables false
set_option linter.unusedSimpArgs false
open Go.RowKit
def a12r : Run := ⟨⟨#[83, 101, 101, 32, 121, 111, 117, 32, 115, 111, 111, 110]⟩, 0, false, false, ⟨#[]⟩⟩
def a12e : Ev := ⟨0, 0, 9, ⟨#[]⟩, 1, ⟨#[]⟩, [[a12r]]⟩
def a12d : Doc := ⟨⟨#[]⟩, ⟨#[]⟩, 3, false, 0, [], [], []⟩
def a12d2 : Doc := ⟨⟨#[]⟩, ⟨#[]⟩, 3, false, 4, [], [], []⟩
def a12c : Com := ⟨0, 0, 4, 7, ⟨#[]⟩, ⟨#[]⟩, false, false⟩
theorem a12_new : newX 3 false = (a12d, 0) := by kernel_rfl
theorem a12_err : a12d2.insErr a12e = 0 := by kernel_rfl
theorem a12_ins : a12d2.insX a12e = (a12d2.insD a12e, 5, 0) := by unfold Doc.insX; rw [a12_err]; rfl
theorem a12_f1 : a12c.fol (runes ⟨#[83, 101, 101, 32, 121, 111, 117, 32, 115, 111, 111, 110]⟩ 0) (runes ⟨#[83, 101, 101, 32, 97, 108, 108, 32, 111, 102, 32, 121, 111, 117, 32, 115, 111, 111, 110]⟩ 0) = ⟨0, 0, 11, 14, ⟨#[]⟩, ⟨#[]⟩, false, false⟩ := by kernel_rfl
theorem a12_f2 : a12c.fol (runes ⟨#[83, 101, 101, 32, 121, 111, 117, 32, 115, 111, 111, 110]⟩ 0) (runes ⟨#[83, 101, 101, 32, 115, 111, 111, 110]⟩ 0) = ⟨0, 0, 0, 0, ⟨#[]⟩, ⟨#[]⟩, false, true⟩ := by kernel_rfl
theorem a12_f3 : a12c.fol (runes ⟨#[83, 101, 101, 32, 121, 111, 117, 32, 115, 111, 111, 110]⟩ 0) (runes ⟨#[83, 101, 101, 32, 121, 111, 117, 114, 32, 100, 111, 103, 32, 115, 111, 111, 110]⟩ 0) = ⟨0, 0, 4, 7, ⟨#[]⟩, ⟨#[]⟩, false, false⟩ := by kernel_rfl
theorem a12_small : EvSmall a12e := by
  refine ⟨by decide, by decide, fun r hr => ?_⟩
  simp only [a12e, List.mem_cons, List.not_mem_nil, or_false] at hr
  subst hr
  refine ⟨by decide, fun x hx => ?_⟩
  simp only [List.mem_singleton] at hx
  subst hx
  exact ⟨by decide, by decide⟩
theorem a12_fit : DocFit a12d2 := ⟨⟨by decide, by decide, by decide, by decide⟩, (fun r hr => by cases hr), (fun e he => by cases he), (fun e he => by cases he), (fun c hc => by cases hc)⟩
theorem a12_at {w : World} {h : DocH} (k : DocAt w a12d h) : DocAt w a12d2 h := ⟨k.regs, k.evs, k.coms⟩
set_option maxRecDepth 100000 in
set_option maxHeartbeats 8000000 in
theorem awake12_any (w : World) (hE : Env w) : Calls Tryd.prog 10 #[] w fun en w' => en = .returned (.bool true) ∧ Ext w w' := by
  have HEn := Lib.hid hE
  have HNw := Lib.hid (fun w' => DNew_any 3 false w' (by decide) (by decide))
  have HF1 := Lib.hid (fun w' => DFollow_any a12c ⟨#[83, 101, 101, 32, 121, 111, 117, 32, 115, 111, 111, 110]⟩ ⟨#[83, 101, 101, 32, 97, 108, 108, 32, 111, 102, 32, 121, 111, 117, 32, 115, 111, 111, 110]⟩ w' (by decide) (by decide))
  have HF2 := Lib.hid (fun w' => DFollow_any a12c ⟨#[83, 101, 101, 32, 121, 111, 117, 32, 115, 111, 111, 110]⟩ ⟨#[83, 101, 101, 32, 115, 111, 111, 110]⟩ w' (by decide) (by decide))
  have HF3 := Lib.hid (fun w' => DFollow_any a12c ⟨#[83, 101, 101, 32, 121, 111, 117, 32, 115, 111, 111, 110]⟩ ⟨#[83, 101, 101, 32, 121, 111, 117, 114, 32, 100, 111, 103, 32, 115, 111, 111, 110]⟩ w' (by decide) (by decide))
  rw [a12_f1] at HF1
  rw [a12_f2] at HF2
  rw [a12_f3] at HF3
  rw [a12_new] at HNw
  unfold Com.vals a12c at HF1 HF2 HF3
  unfold DEPost at HNw
  clear hE
  go_enter Tryd.func10, Tryd.ntmps10
  go_wp2_with fail
  refine (HNw.out _).mono ?_
  rintro en w1 ⟨⟨ra, rn, rc, ea, en1, ec, ca, cn, cc⟩, rfl, ho1, hx1⟩
  have HO1 := Lib.hid (show DocOwn w1 w.heap.size a12d ⟨ra, rn, rc, ea, en1, ec, ca, cn, cc⟩ from ho1)
  have HX1 := Lib.hid hx1
  clear ho1 hx1 HNw
  unfold Doc.cells a12d
  dsimp only
  have hbn := Blk.new w1 39 #[.string ⟨#[]⟩, .string ⟨#[]⟩, .int .u8 3, .bool false, .int .i64 0, .slice ra rn rc, .slice ea en1 ec, .slice ca cn cc]
  have hs1 := setCell_put hbn 4 (.int .i64 4)
  have hf1 := hbn.frozen 4
  have hc1 := hbn.cell 4
  simp at hs1 hc1
  go_upto_region 3 with fail
  obtain ⟨gd, hgd⟩ : ∃ gd, gd = w1.heap.size := ⟨_, rfl⟩
  obtain ⟨W2, hW2⟩ : ∃ W2, W2 = putB (w1.alloc (.cells #[.string ⟨#[]⟩, .string ⟨#[]⟩, .int .u8 3, .bool false, .int .i64 0, .slice ra rn rc, .slice ea en1 ec, .slice ca cn cc] 39)) w1.heap.size 39 #[.string ⟨#[]⟩, .string ⟨#[]⟩, .int .u8 3, .bool false, .int .i64 4, .slice ra rn rc, .slice ea en1 ec, .slice ca cn cc] := ⟨_, rfl⟩
  rw [← hW2, ← hgd]
  have HX2 : Hid (Ext w W2) := by show Ext _ _; rw [hW2]; exact (HX1.out.alloc _).put HX1.out.size _ _
  have HB2 : Hid (Blk W2 gd 39 #[.string ⟨#[]⟩, .string ⟨#[]⟩, .int .u8 3, .bool false, .int .i64 4, .slice ra rn rc, .slice ea en1 ec, .slice ca cn cc]) := by show Blk _ _ _ _; rw [hW2, hgd]; exact hbn.put _
  have HA2 : Hid (DocAt W2 a12d ⟨ra, rn, rc, ea, en1, ec, ca, cn, cc⟩) := by
    show DocAt _ _ _
    rw [hW2]
    have ho := (HO1.out.ext ((Ext.refl w1).alloc (.cells #[.string ⟨#[]⟩, .string ⟨#[]⟩, .int .u8 3, .bool false, .int .i64 0, .slice ra rn rc, .slice ea en1 ec, .slice ca cn cc] 39))).put hbn #[.string ⟨#[]⟩, .string ⟨#[]⟩, .int .u8 3, .bool false, .int .i64 4, .slice ra rn rc, .slice ea en1 ec, .slice ca cn cc]
    exact ho.at_
  have hrl := HO1.out.rlen
  have hel := HO1.out.evs.len
  have hcl := HO1.out.clen
  clear hs1 hf1 hc1 hbn hW2 hgd HX1 HO1
  go_upto_region 4 with fail
  have HX3 : Hid (Ext w (((W2.alloc (.cells #[.string ⟨#[83, 101, 101, 32, 121, 111, 117, 32, 115, 111, 111, 110]⟩, .int .u8 0, .bool false, .bool false, .string ⟨#[]⟩] 66)).alloc (.cells #[.slice (some ⟨W2.heap.size, 0, none⟩) 1 1] 61)).alloc (.cells #[.int .i64 0, .int .i64 0, .int .i64 9, .string ⟨#[]⟩, .int .u8 1, .string ⟨#[]⟩, .slice (some ⟨W2.heap.size + 1, 0, none⟩) 1 1] 45))) := ((HX2.out.alloc _).alloc _).alloc _
  have hx23 : Ext W2 (((W2.alloc (.cells #[.string ⟨#[83, 101, 101, 32, 121, 111, 117, 32, 115, 111, 111, 110]⟩, .int .u8 0, .bool false, .bool false, .string ⟨#[]⟩] 66)).alloc (.cells #[.slice (some ⟨W2.heap.size, 0, none⟩) 1 1] 61)).alloc (.cells #[.int .i64 0, .int .i64 0, .int .i64 9, .string ⟨#[]⟩, .int .u8 1, .string ⟨#[]⟩, .slice (some ⟨W2.heap.size + 1, 0, none⟩) 1 1] 45)) := (((Ext.refl W2).alloc _).alloc _).alloc _
  have HR3 : Hid (Blk (((W2.alloc (.cells #[.string ⟨#[83, 101, 101, 32, 121, 111, 117, 32, 115, 111, 111, 110]⟩, .int .u8 0, .bool false, .bool false, .string ⟨#[]⟩] 66)).alloc (.cells #[.slice (some ⟨W2.heap.size, 0, none⟩) 1 1] 61)).alloc (.cells #[.int .i64 0, .int .i64 0, .int .i64 9, .string ⟨#[]⟩, .int .u8 1, .string ⟨#[]⟩, .slice (some ⟨W2.heap.size + 1, 0, none⟩) 1 1] 45)) (W2.heap.size) 66 #[.string ⟨#[83, 101, 101, 32, 121, 111, 117, 32, 115, 111, 111, 110]⟩, .int .u8 0, .bool false, .bool false, .string ⟨#[]⟩]) := ((Blk.new W2 _ _).alloc _).alloc _
  have HW3 : Hid (Blk (((W2.alloc (.cells #[.string ⟨#[83, 101, 101, 32, 121, 111, 117, 32, 115, 111, 111, 110]⟩, .int .u8 0, .bool false, .bool false, .string ⟨#[]⟩] 66)).alloc (.cells #[.slice (some ⟨W2.heap.size, 0, none⟩) 1 1] 61)).alloc (.cells #[.int .i64 0, .int .i64 0, .int .i64 9, .string ⟨#[]⟩, .int .u8 1, .string ⟨#[]⟩, .slice (some ⟨W2.heap.size + 1, 0, none⟩) 1 1] 45)) (W2.heap.size + 1) 61 #[.slice (some ⟨W2.heap.size, 0, none⟩) 1 1]) := (Blk.new' (by simp)).alloc _
  have HV3 : Hid (Blk (((W2.alloc (.cells #[.string ⟨#[83, 101, 101, 32, 121, 111, 117, 32, 115, 111, 111, 110]⟩, .int .u8 0, .bool false, .bool false, .string ⟨#[]⟩] 66)).alloc (.cells #[.slice (some ⟨W2.heap.size, 0, none⟩) 1 1] 61)).alloc (.cells #[.int .i64 0, .int .i64 0, .int .i64 9, .string ⟨#[]⟩, .int .u8 1, .string ⟨#[]⟩, .slice (some ⟨W2.heap.size + 1, 0, none⟩) 1 1] 45)) (W2.heap.size + 1 + 1) 45 #[.int .i64 0, .int .i64 0, .int .i64 9, .string ⟨#[]⟩, .int .u8 1, .string ⟨#[]⟩, .slice (some ⟨W2.heap.size + 1, 0, none⟩) 1 1]) := Blk.new' (by simp)
  have HB3 := Lib.hid (HB2.out.ext hx23)
  have HA3 := Lib.hid (HA2.out.ext hx23)
  obtain ⟨gr, hgr⟩ : ∃ gr, gr = W2.heap.size := ⟨_, rfl⟩
  rw [← hgr] at HR3 HW3 HV3 HX3 HB3 HA3 hx23 ⊢
  generalize hWg : (((W2.alloc (.cells #[.string ⟨#[83, 101, 101, 32, 121, 111, 117, 32, 115, 111, 111, 110]⟩, .int .u8 0, .bool false, .bool false, .string ⟨#[]⟩] 66)).alloc (.cells #[.slice (some ⟨gr, 0, none⟩) 1 1] 61)).alloc (.cells #[.int .i64 0, .int .i64 0, .int .i64 9, .string ⟨#[]⟩, .int .u8 1, .string ⟨#[]⟩, .slice (some ⟨gr + 1, 0, none⟩) 1 1] 45)) = W3 at *
  clear hWg HX2 HB2 HA2 hx23 hgr
  have hev : EvAt W3 a12e (some ⟨gr + 1, 0, none⟩) 1 1 := ⟨sl_1 ⟨some ⟨gr, 0, none⟩, 1, 1, HW3.out.cell 0, Nat.le_refl _, by decide, sl_1 ⟨HR3.out.cell 0, HR3.out.cell 1, HR3.out.cell 2, HR3.out.cell 3, HR3.out.cell 4⟩⟩, Nat.le_refl _, by decide⟩
  have HIn := Lib.hid (fun w' (hx : Ext W3 w') => DInsert_any a12d2 ⟨ra, rn, rc, ea, en1, ec, ca, cn, cc⟩ a12e (some ⟨gr + 1, 0, none⟩) 1 1 w' (HEn.out.ext (HX3.out.trans hx)) (a12_at (HA3.out.ext hx)) a12_fit (by simp [a12d] at hrl; simp only; omega) (by simp [a12d] at hrl; simp only; omega) (by simp [a12d] at hel; simp only; omega) (by simp [a12d] at hcl; simp only; omega) (hev.ext hx) a12_small)
  rw [a12_ins] at HIn
  unfold DIEPost Doc.cells Ev.cells a12d2 a12e at HIn
  dsimp only at HIn
  clear hev hrl hel hcl HR3 HW3 HA3
  go_wp2_with (first | (refine wpList_loadB rfl 39 (.tmp 1) rfl gd 39 _ _ (by exact rfl) (by exact HB3.out) Tryd.underlying39 rfl (by exact size_docI) ?_) | (refine wpList_loadB rfl 45 (.tmp 3) rfl (gr + 1 + 1) 45 _ _ (by exact rfl) (by exact HV3.out) Tryd.underlying45 rfl (by exact size_event) ?_))
  refine (HIn.out _ (Ext.refl _)).mono ?_
  rintro en w4 ⟨⟨ra2, rn2, rc2, ea2, en2, ec2, ca2, cn2, cc2⟩, rfl, -, hx4⟩
  dsimp only
  have HX4 := Lib.hid (HX3.out.trans hx4)
  clear hx4 HIn HX3 HB3 HV3
  generalize (Doc.insD _ _).title = dt1
  generalize (Doc.insD _ _).lang = dt2
  generalize (Doc.insD _ _).rate = dt3
  generalize (Doc.insD _ _).drop = dt4
  generalize (Doc.insD _ _).last = dt5
  have HX5 : Hid (Ext w ((w4.alloc (.cells #[.string dt1, .string dt2, .int .u8 dt3, .bool dt4, .int .i64 dt5, .slice ra2 rn2 rc2, .slice ea2 en2 ec2, .slice ca2 cn2 cc2] 39)).alloc (.cells #[.int .i64 0, .int .i64 0, .int .i64 4, .int .i64 7, .string ⟨#[]⟩, .string ⟨#[]⟩, .bool false, .bool false] 31))) := (HX4.out.alloc _).alloc _
  have HB5 : Hid (Blk ((w4.alloc (.cells #[.string dt1, .string dt2, .int .u8 dt3, .bool dt4, .int .i64 dt5, .slice ra2 rn2 rc2, .slice ea2 en2 ec2, .slice ca2 cn2 cc2] 39)).alloc (.cells #[.int .i64 0, .int .i64 0, .int .i64 4, .int .i64 7, .string ⟨#[]⟩, .string ⟨#[]⟩, .bool false, .bool false] 31)) (w4.heap.size + 1) 31 #[.int .i64 0, .int .i64 0, .int .i64 4, .int .i64 7, .string ⟨#[]⟩, .string ⟨#[]⟩, .bool false, .bool false]) := Blk.new' (by simp)
  go_upto_region 6 with fail
  obtain ⟨gc, hgc⟩ : ∃ gc, gc = w4.heap.size + 1 := ⟨_, rfl⟩
  rw [← hgc] at HB5 ⊢
  generalize hWg : ((w4.alloc (.cells #[.string dt1, .string dt2, .int .u8 dt3, .bool dt4, .int .i64 dt5, .slice ra2 rn2 rc2, .slice ea2 en2 ec2, .slice ca2 cn2 cc2] 39)).alloc (.cells #[.int .i64 0, .int .i64 0, .int .i64 4, .int .i64 7, .string ⟨#[]⟩, .string ⟨#[]⟩, .bool false, .bool false] 31)) = W5 at *
  clear hWg HX4 hgc
  go_wp2_with (refine wpList_loadB rfl 31 (.tmp 7) rfl gc 31 _ _ (by exact rfl) (by exact HB5.out) Tryd.underlying31 rfl (by exact size_comI) ?_)
  refine (HF1.out _).mono ?_
  rintro en w_1 ⟨rfl, hx_2⟩
  have HX_3 := Lib.hid (HX5.out.trans hx_2)
  have HB_4 := Lib.hid (HB5.out.ext hx_2)
  clear hx_2 HX5 HB5
  have HB_5 := Lib.hid (Blk.new w_1 31 #[.int .i64 0, .int .i64 0, .int .i64 11, .int .i64 14, .string ⟨#[]⟩, .string ⟨#[]⟩, .bool false, .bool false])
  have ha_6 := (Ext.refl w_1).alloc (.cells #[.int .i64 0, .int .i64 0, .int .i64 11, .int .i64 14, .string ⟨#[]⟩, .string ⟨#[]⟩, .bool false, .bool false] 31)
  have HX_7 := Lib.hid (HX_3.out.trans ha_6)
  have HB_8 := Lib.hid (HB_4.out.ext ha_6)
  clear ha_6 HX_3 HB_4
  go_wp2_with (refine wpList_loadB rfl 31 (.tmp 7) rfl gc 31 _ _ (by exact rfl) (by exact HB_8.out) Tryd.underlying31 rfl (by exact size_comI) ?_)
  refine (HF2.out _).mono ?_
  rintro en w_9 ⟨rfl, hx_10⟩
  have HX_11 := Lib.hid (HX_7.out.trans hx_10)
  have HB_12 := Lib.hid (HB_8.out.ext hx_10)
  have HB_13 := Lib.hid (HB_5.out.ext hx_10)
  clear hx_10 HX_7 HB_8 HB_5
  have HB_14 := Lib.hid (Blk.new w_9 31 #[.int .i64 0, .int .i64 0, .int .i64 0, .int .i64 0, .string ⟨#[]⟩, .string ⟨#[]⟩, .bool false, .bool true])
  have ha_15 := (Ext.refl w_9).alloc (.cells #[.int .i64 0, .int .i64 0, .int .i64 0, .int .i64 0, .string ⟨#[]⟩, .string ⟨#[]⟩, .bool false, .bool true] 31)
  have HX_16 := Lib.hid (HX_11.out.trans ha_15)
  have HB_17 := Lib.hid (HB_12.out.ext ha_15)
  have HB_18 := Lib.hid (HB_13.out.ext ha_15)
  clear ha_15 HX_11 HB_12 HB_13
  go_wp2_with (refine wpList_loadB rfl 31 (.tmp 7) rfl gc 31 _ _ (by exact rfl) (by exact HB_17.out) Tryd.underlying31 rfl (by exact size_comI) ?_)
  refine (HF3.out _).mono ?_
  rintro en w_19 ⟨rfl, hx_20⟩
  have HX_21 := Lib.hid (HX_16.out.trans hx_20)
  have HB_22 := Lib.hid (HB_17.out.ext hx_20)
  have HB_23 := Lib.hid (HB_18.out.ext hx_20)
  have HB_24 := Lib.hid (HB_14.out.ext hx_20)
  clear hx_20 HX_16 HB_17 HB_18 HB_14
  have HB_25 := Lib.hid (Blk.new w_19 31 #[.int .i64 0, .int .i64 0, .int .i64 4, .int .i64 7, .string ⟨#[]⟩, .string ⟨#[]⟩, .bool false, .bool false])
  have ha_26 := (Ext.refl w_19).alloc (.cells #[.int .i64 0, .int .i64 0, .int .i64 4, .int .i64 7, .string ⟨#[]⟩, .string ⟨#[]⟩, .bool false, .bool false] 31)
  have HX_27 := Lib.hid (HX_21.out.trans ha_26)
  have HB_28 := Lib.hid (HB_22.out.ext ha_26)
  have HB_29 := Lib.hid (HB_23.out.ext ha_26)
  have HB_30 := Lib.hid (HB_24.out.ext ha_26)
  clear ha_26 HX_21 HB_22 HB_23 HB_24
  clear HB_28
  have hc_31 := fun o => HB_29.out.cell o
  have hc_32 := fun o => HB_30.out.cell o
  have hc_33 := fun o => HB_25.out.cell o
  go_wp2_with fail
  clear hc_31 hc_32 hc_33
  go_ret
  exact ⟨by first | rfl | simp, HX_27.out⟩
end Go.Proofs.YtagfedbdakmlgaaDoor

/-! RemP -/
namespace Go.Proofs.YtagfedbdakmlgaaDoor
set_option linter.unusedVariables false
set_option linter.unusedSimpArgs false
open Go.RowKit
def Com.lose (id : Int) (c : Com) : Com := if c.ev = id then ⟨c.id, c.ev, 0, 0, c.author, c.text, c.done, true⟩ else c
def Doc.cutE (d : Doc) (k : Nat) : Doc := ⟨d.title, d.lang, d.rate, d.drop, d.last, d.regs, d.evs.take k ++ d.evs.drop (k + 1), d.coms⟩
/-- what Remove comes to -/
def Doc.remX (d : Doc) (id : Int) : DE :=
  if d.err ≠ 0 then (Doc.zero, d.err) else match findE d.evs id with
    | none => (Doc.zero, 6)
    | some k => ((d.cutE k).withComs (d.coms.map (Com.lose id)), 0)
section
variable {d : Doc} {id : Int} {k : Nat}
theorem rem_1 (h : d.err ≠ 0) : d.remX id = (Doc.zero, d.err) := by unfold Doc.remX; rw [if_pos h]
theorem rem_2 (h : d.err = 0) (h2 : findE d.evs id = none) : d.remX id = (Doc.zero, 6) := by unfold Doc.remX; rw [if_neg (by simpa using h), h2]
theorem rem_3 (h : d.err = 0) (h2 : findE d.evs id = some k) : d.remX id = ((d.cutE k).withComs (d.coms.map (Com.lose id)), 0) := by unfold Doc.remX; rw [if_neg (by simpa using h), h2]
end
theorem DocOwn.ev_at {w : World} {L k : Nat} {d : Doc} {h : DocH} (o : DocOwn w L d h) (hk : k < h.en) : ∃ g, h.ea = some ⟨g, 0, none⟩ ∧ L ≤ g := by
  obtain ⟨hs, h1, -⟩ := o.evs
  rcases h1.2 with ⟨hv, hn⟩ | ⟨g, cap, cur, hv, hg, hb, hnc, hcm, hcs, ht⟩
  · omega
  · exact ⟨g, by injection hv, hg⟩
/-- events of one's own without one of them -/
theorem EvsOwn.cut {w w' : World} {L n k : Nat} {v : Value} {hs : List EH} {l : List Ev} (h2 : hs.length = n) (h3 : l.length = n) (h4 : ∀ (i : Nat) (h : EH) (e : Ev), hs[i]? = some h → l[i]? = some e → EGood w L h e) (hk : k < n)
    (k1 : KB 61 w w') (k2 : KB 66 w w') (ho : w'.ownsRow L 45 7 v (n - 1) ((hs.take k ++ hs.drop (k + 1)).flatMap EH.vals)) : EvsOwn w' L v (n - 1) (l.take k ++ l.drop (k + 1)) := by
  refine ⟨hs.take k ++ hs.drop (k + 1), ho, ?_, ?_, fun i h e hi he => ?_⟩
  · rw [List.length_append, List.length_take, List.length_drop]; omega
  · rw [List.length_append, List.length_take, List.length_drop]; omega
  · rw [List.getElem?_append] at hi he
    rw [List.length_take, h2] at hi
    rw [List.length_take, h3] at he
    split at hi
    · rename_i hlt
      rw [if_pos hlt] at he
      rw [List.getElem?_take_of_lt (by omega)] at hi he
      exact (h4 i h e hi he).kb k1 k2
    · rename_i hlt
      rw [if_neg hlt] at he
      rw [List.getElem?_drop] at hi he
      exact (h4 _ h e hi he).kb k1 k2
/-- a cell of a comment of a document of one's own is stored -/
theorem DocOwn.com_set {w : World} {L k j g : Nat} {d : Doc} {h : DocH} {c c' : Com} {u : Value} (o : DocOwn w L d h) (hca : h.ca = some ⟨g, 0, none⟩) (hc : d.coms[k]? = some c) (hv : c'.vals = c.vals.set j u) (hj : j < 8) :
    DocOwn (w.setCell ⟨g, k * 8 + j, none⟩ u) L (d.withComs (d.coms.set k c')) h ∧ w.grownBy (w.setCell ⟨g, k * 8 + j, none⟩ u) (some g) := by
  obtain ⟨a1, a2, a3, a4, a5⟩ := o
  have hty := own_typed a4
  rw [hca] at a4 hty
  have hs := a4.stored (k * 8 + j) u
  have hT : Typed w 31 g := hty g rfl
  have hkb : ∀ {T : TypeId}, T ≠ 31 → KB T w (w.setCell ⟨g, k * 8 + j, none⟩ u) := fun hne => KB.grown hs.2 (fun q hq => by cases hq; exact hT) hne
  have hfl : (d.coms.flatMap Com.vals).set (k * 8 + j) u = (d.coms.set k c').flatMap Com.vals := flatMap_setC (f := Com.vals) (s := 8) (fun _ => rfl) hc hv hj
  refine ⟨⟨own_kb a1 (hkb (by decide)), a2, a3.kb (hkb (by decide)) (hkb (by decide)) (hkb (by decide)), ?_, by show (d.coms.set k c').length = _; simpa using a5⟩, hs.2⟩
  show World.ownsRow _ _ _ _ _ _ ((d.coms.set k c').flatMap Com.vals)
  rw [← hfl, hca]
  exact hs.1
theorem DocOwn.com_cell {w : World} {L k j g : Nat} {d : Doc} {h : DocH} {c : Com} {u : Value} (o : DocOwn w L d h) (hca : h.ca = some ⟨g, 0, none⟩) (hc : d.coms[k]? = some c) (hu : c.vals[j]? = some u) : w.cell? ⟨g, k * 8 + j, none⟩ = some u ∧ w.frozen? ⟨g, k * 8 + j, none⟩ = false := by
  have hk := (List.getElem?_eq_some_iff.1 hc).1
  have hj : j < 8 := by have := (List.getElem?_eq_some_iff.1 hu).1; exact this
  have a4 := o.coms
  have hty := own_typed a4
  rw [hca] at a4 hty
  have a5 := o.clen
  exact ⟨by rw [a4.cellAt (k * 8 + j) (by omega), flatMap_at Com.vals 8 (fun _ => rfl) d.coms k c j hc hj, hu], (hty g rfl).frozen _⟩
theorem lose_step (id : Int) (l : List Com) (i : Nat) (c : Com) (h : l[i]? = some c) : ((l.take i).map (Com.lose id) ++ l.drop i)[i]? = some c ∧ ∀ c' : Com, ((l.take i).map (Com.lose id) ++ l.drop i).set i c' = (l.take i).map (Com.lose id) ++ c' :: l.drop (i + 1) := by
  have hi := (List.getElem?_eq_some_iff.1 h).1
  have hl : ((l.take i).map (Com.lose id)).length = i := by rw [List.length_map, List.length_take]; omega
  constructor
  · rw [List.getElem?_append_right (by omega), hl, Nat.sub_self, drop_at l i c h]; rfl
  · intro c'
    rw [List.set_append_right _ _ (by omega), hl, Nat.sub_self, drop_at l i c h]
    rfl
theorem lose_next (id : Int) (l : List Com) (i : Nat) (c : Com) (h : l[i]? = some c) : (l.take (i + 1)).map (Com.lose id) ++ l.drop (i + 1) = (l.take i).map (Com.lose id) ++ c.lose id :: l.drop (i + 1) := by
  rw [take_snoc' l i c h, List.map_append, List.append_assoc]
  rfl
end Go.Proofs.YtagfedbdakmlgaaDoor

/-! RetV -/
namespace Go.Proofs.YtagfedbdakmlgaaDoor
set_option linter.unusedVariables false
set_option linter.unusedSimpArgs false
open Go.RowKit
section
variable {d : Doc} {b m : Int} {drop : Bool}
/-- what a comment that is not lost must have -/
def Com.Good (c : Com) (evs : List Ev) : Prop := (∃ k e, findE evs c.ev = some k ∧ evs[k]? = some e ∧ 0 ≤ c.fr ∧ c.fr < c.til ∧ c.til ≤ e.len) ∧ nameB c.author = true ∧ vld c.text = true ∧ c.text.toList.isEmpty = false ∧ c.text.size ≤ 400
end
end Go.Proofs.YtagfedbdakmlgaaDoor

/-! RegionInv -/
namespace Go.Proofs.YtagfedbdakmlgaaDoor
set_option linter.unusedVariables false
set_option linter.unusedSimpArgs false
open Go.RowKit
/-- what the region 'a, b := Clone(e), Clone(e)' keeps, whatever has been done of it -/
def C2Inv (mk : Value → Value → Value → Value → Value → Value → Act) (e : Ev) (A : Option Addr) (n c : Nat) (W : World) (l : Array Bool) (a : Act) (w : World) : Prop :=
  l.size = 8 ∧ Ext W w ∧ ∃ v1 v2 v3 v4 va vb : Value, a = mk v1 v2 v3 v4 va vb ∧ (l.getD 0 false = true → v1 = .agg (e.cells A n c)) ∧ (l.getD 2 false = true → v3 = .agg (e.cells A n c)) ∧
    (l.getD 1 false = true → ∃ A1 c1, v2 = .agg (e.cells A1 n c1) ∧ n ≤ c1 ∧ RowsFresh w W.heap.size A1 n e.rows) ∧ (l.getD 3 false = true → ∃ A1 c1, v4 = .agg (e.cells A1 n c1) ∧ n ≤ c1 ∧ RowsFresh w W.heap.size A1 n e.rows) ∧
    (l.getD 4 false = true → ∃ g cs, va = .pointer (some ⟨g, 0, none⟩) ∧ W.heap.size ≤ g ∧ Blk w g 45 cs ∧ cs.size = 7 ∧ (l.getD 6 false = true → v2 = .agg cs)) ∧
    (l.getD 5 false = true → ∃ g cs, vb = .pointer (some ⟨g, 0, none⟩) ∧ W.heap.size ≤ g ∧ Blk w g 45 cs ∧ cs.size = 7 ∧ (l.getD 7 false = true → v4 = .agg cs)) ∧
    (l.getD 4 false = true → l.getD 5 false = true → va ≠ vb) ∧ (l.getD 6 false = true → l.getD 1 false = true) ∧ (l.getD 7 false = true → l.getD 3 false = true) ∧ (l.getD 6 false = true → l.getD 4 false = true) ∧ (l.getD 7 false = true → l.getD 5 false = true)
theorem wp_alloc_ev {o : Oper} {a : Act} {w : World} {K : Act → World → Prop} {Q : Exit → Act → World → Prop} (ho : o.op = .alloc 45) (h : K (a.put o.dst (.pointer (some ⟨w.heap.size, 0, none⟩))) (w.alloc (.cells evZero 45))) : o.wp Tryd.prog a w K Q := by
  obtain ⟨dst, op, ty, pos, after, guard⟩ := o
  simp only at ho
  subst ho
  unfold evZero at h
  go_simp
  exact h
/-- a frame with six slots written -/
def put6 (a : Act) (x1 x2 x3 x4 sa sb : Nat) (v1 v2 v3 v4 va vb : Value) : Act :=
  { a with tmps := (((((a.tmps.setIfInBounds x1 v1).setIfInBounds x2 v2).setIfInBounds x3 v3).setIfInBounds x4 v4).setIfInBounds sa va).setIfInBounds sb vb }
end Go.Proofs.YtagfedbdakmlgaaDoor

/-! Split -/
namespace Go.Proofs.YtagfedbdakmlgaaDoor
set_option linter.unusedVariables false
set_option linter.unusedSimpArgs false
open Go.RowKit
/-- the error of a split -/
def Ev.splitErr (e : Ev) (frame : Int) (row : Int) (id : Int) : Int :=
  if row < 1 ∨ (e.rows.length : Int) ≤ row then 1
  else if frame ≤ e.inn ∨ e.out ≤ frame ∨ id < 1 ∨ 1099511627776 < id then 2
  else if id = e.id then 7 else 0
def Ev.left (e : Ev) (frame : Int) (row : Nat) : Ev := { e with out := frame, rows := e.rows.take row }
def Ev.right (e : Ev) (frame : Int) (row : Nat) (id : Int) : Ev := { e with id := id, inn := frame, rows := e.rows.drop row }
def Ev.zero : Ev := ⟨0, 0, 0, ⟨#[]⟩, 0, ⟨#[]⟩, []⟩
def Ev.splitL (e : Ev) (frame row id : Int) : Ev := if e.splitErr frame row id = 0 then e.left frame row.toNat else Ev.zero
def Ev.splitR (e : Ev) (frame row id : Int) : Ev := if e.splitErr frame row id = 0 then e.right frame row.toNat id else Ev.zero
/-- what a split comes to -/
def SplitPost (e : Ev) (frame row id : Int) (w : World) (en : Ending) (w' : World) : Prop :=
  ∃ A1 n1 c1 A2 n2 c2, en = .returned (.tuple #[.agg ((e.splitL frame row id).cells A1 n1 c1), .agg ((e.splitR frame row id).cells A2 n2 c2), .int .i64 (e.splitErr frame row id)]) ∧
    n1 ≤ c1 ∧ n2 ≤ c2 ∧ n1 ≤ e.rows.length ∧ n2 ≤ e.rows.length ∧ RowsFresh w' w.heap.size A1 n1 (e.splitL frame row id).rows ∧ RowsFresh w' w.heap.size A2 n2 (e.splitR frame row id).rows ∧ Ext w w'
theorem RowsFresh.nil (w : World) (L c : Nat) : RowsFresh w L none 0 [] := ⟨[], Sl.nil, fun i h r a b => by simp at a, rfl, fun ad h => (by cases h), fun x hx => (by cases hx)⟩
def SplitErrs (k : Int) (w : World) (en : Ending) (w' : World) : Prop := en = .returned (.tuple #[.agg evZero, .agg evZero, .int .i64 k]) ∧ Ext w w'
theorem SplitErrs.post {e : Ev} {frame row id : Int} {w : World} {en : Ending} {w' : World} (h : SplitErrs (e.splitErr frame row id) w en w') (hk : e.splitErr frame row id ≠ 0) : SplitPost e frame row id w en w' := by
  have e1 : e.splitL frame row id = Ev.zero := if_neg hk
  have e2 : e.splitR frame row id = Ev.zero := if_neg hk
  refine ⟨none, 0, 0, none, 0, 0, ?_, Nat.le_refl _, Nat.le_refl _, Nat.zero_le _, Nat.zero_le _, ?_, ?_, h.2⟩
  · rw [e1, e2]; exact h.1
  · rw [e1]; exact RowsFresh.nil _ _ 0
  · rw [e2]; exact RowsFresh.nil _ _ 0
/-- the cases of a split that fails -/
inductive SplitBad (e : Ev) (frame row id : Int) : Int → Prop
  | low : (row < 1) → SplitBad e frame row id 1
  | high : 1 ≤ row → (e.rows.length : Int) ≤ row → SplitBad e frame row id 1
  | ahead : 1 ≤ row → row < e.rows.length → frame ≤ e.inn → SplitBad e frame row id 2
  | behind : 1 ≤ row → row < e.rows.length → e.inn < frame → e.out ≤ frame → SplitBad e frame row id 2
  | idLow : 1 ≤ row → row < e.rows.length → e.inn < frame → frame < e.out → id < 1 → SplitBad e frame row id 2
  | idHigh : 1 ≤ row → row < e.rows.length → e.inn < frame → frame < e.out → 1 ≤ id → 1099511627776 < id → SplitBad e frame row id 2
  | same : 1 ≤ row → row < e.rows.length → e.inn < frame → frame < e.out → 1 ≤ id → id ≤ 1099511627776 → id = e.id → SplitBad e frame row id 7
end Go.Proofs.YtagfedbdakmlgaaDoor

/-! JoinA -/
namespace Go.Proofs.YtagfedbdakmlgaaDoor
set_option linter.unusedVariables false
set_option linter.unusedSimpArgs false
open Go.RowKit
def Ev.joinErr (x y : Ev) : Int := if lessB x y = false then 8 else if 4 < x.rows.length + y.rows.length then 9 else 0
def Ev.joined (x y : Ev) : Ev := { x with inn := min x.inn y.inn, out := max x.out y.out, rows := x.rows ++ y.rows }
def Ev.join (x y : Ev) : Ev := if x.joinErr y = 0 then x.joined y else Ev.zero
def JoinPost (x y : Ev) (w : World) (en : Ending) (w' : World) : Prop :=
  ∃ A n c, en = .returned (.tuple #[.agg ((x.join y).cells A n c), .int .i64 (x.joinErr y)]) ∧ n ≤ c ∧ n ≤ 4 ∧ RowsFresh w' w.heap.size A n (x.join y).rows ∧ Ext w w'
/-- a block of another type is as it was behind an append -/
theorem Blk.grown {w w1 : World} {g : Nat} {t T : TypeId} {cs : Array Value} {row : Option Nat} (h : Blk w g t cs) (hg : w.grownBy w1 row) (hr : ∀ q, row = some q → Typed w T q) (hne : t ≠ T) : Blk w1 g t cs := by
  refine (hg.block g h.lt (fun e => ?_)).trans h
  exact Typed.ne h.typed (hr g e.symm) hne rfl
end Go.Proofs.YtagfedbdakmlgaaDoor
