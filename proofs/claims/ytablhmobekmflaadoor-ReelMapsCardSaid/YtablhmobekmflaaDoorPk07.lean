/- Laid together: slices.Values, slices.AppendSeq, slices.Collect at spans. slices.AppendSeq and slices.Collect at spans, against slices.Values. slices.SortFunc and slices.SortedFunc of spans, at the comparison of span.merge. The walk of span.merge. The walk of captionerref05.put: a span set into a list in its order. The walk of captionerref05.Join; span.Norm at spans in range. What stores into rows of one type leave as it is. The maps, the cover and the played frames of an edit list, plainly; pieces in memory. -/
import Derived.RangeFuncNested
import Derived.RangeFuncBound
import Derived.RangeFuncCalls
import Derived.RangeFuncLeaves
import Derived.Shelf.Abstract
import Derived.Shelf.RegionOpen
import Derived.WalkKit
import Derived.OwnWalkIn
import Derived.TacticsInMore
import Derived.LoopNIn
import Derived.LoopIn
import Derived.Maps.AppendAt
import Derived.Test.YtablhmobekmflaaDoorPk01
import Derived.Test.YtablhmobekmflaaDoorPk06
import Derived.Shelf.SlSortCmp.WholeK
import Derived.Shelf.SlSortCmp.NoneTotal
import Derived.Laws.OwnMore
import Derived.Test.YtablhmobekmflaaDoorPk03
import Derived.Test.YtablhmobekmflaaDoorPk04
import Derived.Test.YtablhmobekmflaaDoorPk05
import Derived.Test.YtablhmobekmflaaDoorPk02

/-! SpIt -/
namespace Go.Proofs.YtablhmobekmflaaDoor
set_option linter.unusedVariables false
set_option linter.unusedSimpArgs false
open Go.RowKit Go.Shelf
attribute [local go_sem] Oper.semAt_some
def Spn.vals (s : Spn) : List Value := [.int .i64 s.inn, .int .i64 s.out]
def Spn.enc (s : Spn) : Value := .agg #[.int .i64 s.inn, .int .i64 s.out]
def SpnsAt (w : World) (A : Option Addr) (n : Nat) (l : List Spn) : Prop := Sl w 2 (Cells Spn.vals) A n l
theorem SpnsAt.ext {w w1 : World} {A : Option Addr} {n : Nat} {l : List Spn} (h : SpnsAt w A n l) (k : Ext w w1) : SpnsAt w1 A n l := Sl.ext (Cells.stays _) h k
theorem info_span : (Tryd.prog.info? 48).map (fun i => (i.zero, i.size, i.bytes)) = some (some (.agg #[.int .i64 0, .int .i64 0]), 2, 16) := by kernel_rfl
theorem spn_ones (x : Spn) : ∀ v ∈ x.vals, v.oneCell' = true := by
  intro v hv
  simp only [Spn.vals, List.mem_cons, List.not_mem_nil, or_false] at hv
  rcases hv with rfl | rfl <;> rfl
theorem SpnsAt.below {n₀ : Nat} {w w1 : World} {b off n : Nat} {l : List Spn} (h : SpnsAt w (some ⟨b, off, none⟩) n l) (hb : b < n₀) (k : Below n₀ w w1) : SpnsAt w1 (some ⟨b, off, none⟩) n l :=
  ⟨h.1, fun hn => by
    obtain ⟨b', off', e, hc⟩ := h.2 hn
    cases e
    exact ⟨b, off, rfl, fun i x hx j u hu => (k.cell (p := ⟨b, off + i * 2 + j, none⟩) hb).trans (hc i x hx j u hu)⟩⟩
set_option maxRecDepth 100000 in
set_option maxHeartbeats 2000000 in
theorem SpValues1_in (F : Fence) (n : Nat) (h7 : F.fn 56) (hro : F.round = none) (hn : 1 ≤ n) (l Bs n₀ b off cap : Nat) (zs : List Spn) (hz : zs.length ≤ 1000000) (hb : b < n₀) (J Jx : List Spn → World → Prop)
    (W : World) (hJ : AbidesFrom W.heap.size J)
    (hY : ∀ pre x W, J pre W → pre.length < zs.length → YieldAt F (n - 1) Tryd.prog l #[Spn.enc x] W fun e W' =>
      (e = .returned (.bool true) ∧ J (pre ++ [x]) W' ∧ Below n₀ W W') ∨ (e = .returned (.bool false) ∧ Jx (pre ++ [x]) W'))
    (hBs : W.cell? ⟨Bs, 0, none⟩ = some (.slice (some ⟨b, off, none⟩) zs.length cap)) (hc : SpnsAt W (some ⟨b, off, none⟩) zs.length zs) (hnW : n₀ ≤ W.heap.size) (h0 : J [] W) :
    CallsIn F n Tryd.prog 56 #[.func (.yield l) #[] #[], .pointer (some ⟨Bs, 0, none⟩)] W fun e W' => (∃ v, e = .returned v) ∧
      ((∃ ys, ys = zs ∧ J ys W') ∨ (∃ pre, pre <+: zs ∧ Jx pre W')) := by
  refine callsIn_of_wp Tryd.func56 rfl h7 ?_ hro
  simp only [Tryd.ntmps56, List.size_toArray, List.length_cons, List.length_nil, Nat.reduceAdd, Nat.reduceSub, Array.replicate_succ, Array.replicate_zero, List.push_toArray, List.append_toArray, List.nil_append, List.cons_append]
  gi_wp2
  gi_loopw [7] (fun i wr => ∃ k : Nat, k ≤ zs.length ∧ i = .int .i64 k ∧ J (zs.take k) wr ∧ Below n₀ W wr) (fun i _ => zs.length - (intOf i).toNat)
  case atStart => exact ⟨0, Nat.zero_le _, rfl, h0, Below.refl _ _⟩
  case round =>
    obtain ⟨k, hk, rfl, hJs, hnx⟩ := hrel
    by_cases hlt : k < zs.length
    · obtain ⟨b', off', x, e, hx, hC⟩ := (hc.below hb hnx).at_ hlt
      cases e
      have c0 := hC 0 _ rfl
      have c1 := hC 1 _ rfl
      simp only [Nat.add_zero] at c0
      obtain ⟨fn, tmps, assign, body, hy, hR⟩ := hY (zs.take k) x (wr.alloc (.cells #[.int .i64 x.inn, .int .i64 x.out] 48)) (hJ _ wr _ none hJs (World.grownBy_alloc _ _ none) (fun r e => by cases e)) (by rw [List.length_take]; omega)
      unfold Spn.enc at hy
      gi_wp2
      refine hR.mono ?_
      rintro e W3 (⟨rfl, hJ3, hk3⟩ | ⟨rfl, hJx3⟩)
      · gi_wp2
        go_roundw
        case rel => exact ⟨k + 1, by omega, by go_num, by rw [take_snoc' _ _ _ hx]; exact hJ3, (hnx.alloc (by have := hnx.size; omega) _).trans hk3⟩
        case measure => simp [intOf]; omega
      · gi_wp2
        refine bodyPost_ret (results_none rfl _ _ _) rfl ?_
        exact ⟨⟨_, rfl⟩, .inr ⟨_, by rw [← take_snoc' _ _ _ hx]; exact List.take_prefix _ _, hJx3⟩⟩
    · obtain rfl : k = zs.length := by omega
      gi_wp2
      go_end0
      exact ⟨⟨_, rfl⟩, .inl ⟨_, rfl, by rw [List.take_length] at hJs; exact hJs⟩⟩
set_option maxRecDepth 100000 in
set_option maxHeartbeats 1000000 in
theorem SpValues1_none_in (F : Fence) (n : Nat) (h7 : F.fn 56) (hro : F.round = none) (l Bs : Nat) (A : Option Addr) (cap : Nat) (J : List Spn → World → Prop) (W : World) (hBs : W.cell? ⟨Bs, 0, none⟩ = some (.slice A 0 cap)) (h0 : J [] W) :
    CallsIn F n Tryd.prog 56 #[.func (.yield l) #[] #[], .pointer (some ⟨Bs, 0, none⟩)] W fun e W' => (∃ v, e = .returned v) ∧ J [] W' := by
  refine callsIn_of_wp Tryd.func56 rfl h7 ?_ hro
  simp only [Tryd.ntmps56, List.size_toArray, List.length_cons, List.length_nil, Nat.reduceAdd, Nat.reduceSub, Array.replicate_succ, Array.replicate_zero, List.push_toArray, List.append_toArray, List.nil_append, List.cons_append]
  gi_wp2
  gi_loopw [7] (fun i wr => i = .int .i64 0 ∧ J [] wr) (fun _ _ => 0)
  case atStart => exact ⟨rfl, h0⟩
  case round =>
    obtain ⟨rfl, hJs⟩ := hrel
    gi_wp2
    go_end0
    exact ⟨⟨_, rfl⟩, hJs⟩
set_option maxHeartbeats 1000000 in
theorem SpValues_in (F : Fence) (n : Nat) (h5 : F.fn 45) (hro : F.round = none) (a : Option Addr) (len cap : Nat) (w : World) :
    CallsIn F n Tryd.prog 45 #[.slice a len cap] w fun e w' => e = .returned (.func (.func 56) #[] #[.pointer (some ⟨w.heap.size, 0, none⟩)]) ∧ w' = w.alloc (.cells #[.slice a len cap] 38) := by
  refine callsIn_of_wp Tryd.func45 rfl h5 ?_ hro
  simp only [Tryd.ntmps45, List.size_toArray, List.length_cons, List.length_nil, Nat.reduceAdd, Nat.reduceSub, Array.replicate_succ, Array.replicate_zero, List.push_toArray, List.append_toArray, List.nil_append, List.cons_append]
  gi_wp2
  go_ret
  exact ⟨rfl, rfl⟩
theorem SpValues_stops (F : Fence) (n : Nat) (h7 : F.fn 56) (hro : F.round = none) (hn : 1 ≤ n) (Bs n₀ : Nat) (A : Option Addr) (m cap : Nat) (zs : List Spn) (hz : m ≤ 1000000) (w : World) (hBs : Bs < w.heap.size) (hn₀ : n₀ ≤ w.heap.size)
    (hc : w.cell? ⟨Bs, 0, none⟩ = some (.slice A m cap)) (hI : SpnsAt w A m zs) (hA : ∀ ad, A = some ad → m ≠ 0 → ad.block < n₀) :
    SeqStopsK F n Tryd.prog 56 #[.pointer (some ⟨Bs, 0, none⟩)] (fun x : Spn => #[Spn.enc x]) (Below n₀) (fun ys => ys = zs) (fun pre => pre <+: zs) zs.length w := fun l J Jx W hW hJ _ hY h0 => by
  have hc' := (hW.cell (p := ⟨Bs, 0, none⟩) hBs).trans hc
  have hl := hI.len
  by_cases hm : m = 0
  · subst hm
    obtain rfl : zs = [] := List.eq_nil_of_length_eq_zero hl
    exact (SpValues1_none_in F n h7 hro l Bs A cap J W hc' h0).mono fun e W' ⟨he, hj⟩ => ⟨he, .inl ⟨_, rfl, hj⟩⟩
  · obtain ⟨b, off, rfl, hcs⟩ := hI.2 (by omega)
    have hb := hA _ rfl hm
    subst hl
    exact SpValues1_in F n h7 hro hn l Bs n₀ b off cap zs hz hb J Jx W hJ hY hc' (hI.below (n₀ := n₀) hb (hW.mono hn₀)) (by have := hW.size; omega) h0
end Go.Proofs.YtablhmobekmflaaDoor

/-! SpAp -/
namespace Go.Proofs.YtablhmobekmflaaDoor
set_option linter.unusedVariables false
set_option linter.unusedSimpArgs false
open Go.RowKit Go.Shelf
attribute [local go_sem] Oper.semAt_some
theorem blk_turned {W W' : World} {B : Nat} {T : TypeId} {cs : Array Value} {row : Option Nat} (h : W.heap[B]? = some (.cells cs T (0, 0))) (hg : W.grownBy W' row) (hr : ∀ r, row = some r → ∃ o : Obj, W.heap[r]? = some o ∧ o.isCells = false) : W'.heap[B]? = some (.cells cs T (0, 0)) :=
  (hg.block B (Array.getElem?_eq_some_iff.1 h).1 (fun e => by obtain ⟨o, ho, hc⟩ := hr B e.symm; rw [h] at ho; cases ho; cases hc)).trans h
def SpAx (h0 g : Nat) (lb : Array Value) (x : Spn) (a' : Act) (W : World) : Prop :=
  ∃ Bx, h0 < Bx ∧ Blk W Bx 48 #[.int .i64 x.inn, .int .i64 x.out] ∧
    a' = { tmps := #[.slice none 0 0, .func (.func g) #[] lb, .pointer (some ⟨h0, 0, none⟩), undef, .slice none 0 0, .pointer (some ⟨Bx, 0, none⟩), .func (.func g) #[] lb, Spn.enc x, undef, undef, undef, undef, undef], defers := [] }
theorem flat_snocS (pre : List Spn) (x : Spn) : (pre ++ [x]).flatMap Spn.vals = pre.flatMap Spn.vals ++ [.int .i64 x.inn, .int .i64 x.out] := by
  rw [List.flatMap_append]; rfl
set_option maxRecDepth 100000 in
set_option maxHeartbeats 2000000 in
theorem SpAppendSeq_in (F : Fence) (n : Nat) (h11 : F.fn 69) (hro : F.round = none) (hn : 2 ≤ n) (g : Nat) (lb : Array Value) (hFg : F.fn g) (eg : ∀ args w, (callFunc g args).run Tryd.prog w = .ok (.enter g args) w)
    (zs : List Spn) (hz : zs.length ≤ 1000000) (n₀ : Nat) (w : World) (hn₀ : n₀ ≤ w.heap.size) (hseq : SeqStopsK F (n - 1) Tryd.prog g lb (fun x : Spn => #[Spn.enc x]) (Below n₀) (fun ys => ys = zs) (fun pre => pre <+: zs) zs.length w) :
    CallsIn F n Tryd.prog 69 #[.slice none 0 0, .func (.func g) #[] lb] w fun e w' => ∃ v, e = .returned v ∧ w'.ownsRow w.heap.size 48 2 v zs.length (zs.flatMap Spn.vals) ∧ (v = .slice none 0 0 ↔ zs = []) ∧ Below w.heap.size w w' := by
  have h1 : 1 ≤ n := by omega
  obtain ⟨i0, hi, hz0, hz1, hz2⟩ := info_parts info_span
  refine callsIn_of_wp_marks Tryd.func69 rfl h11 ?_ hro
  simp only [Tryd.ntmps69, List.size_toArray, List.length_cons, List.length_nil, Nat.reduceAdd, Nat.reduceSub, Array.replicate_succ, Array.replicate_zero, List.push_toArray, List.append_toArray, List.nil_append, List.cons_append]
  gi_wp2
  have bO := Boxed.new w 38 (.slice none 0 0)
  have hB0 : Below w.heap.size w (w.alloc (.cells #[.slice none 0 0] 38)) := (Below.refl _ w).alloc (Nat.le_refl _) _
  refine wpIn_rangeFunc_ownH hro h1 (gf := g) (lb := lb) rfl hFg eg hseq (fun h k => belowK_t h k) (belowK_b (by simp; omega)) hB0 (fun _ => rfl)
    (fun pre W => (∃ v, Boxed W w.heap.size 38 v ∧ W.ownsRow w.heap.size 48 2 v pre.length (pre.flatMap Spn.vals) ∧ (v = .slice none 0 0 ↔ pre = [])) ∧ Below w.heap.size w W)
    (fun _ _ _ => False)
    (OwnFrom.and (Own.from (holdsRow_own w.heap.size w.heap.size 38 48 2 (fun pre : List Spn => pre.length) (fun pre => pre.flatMap Spn.vals) (fun pre v => v = .slice none 0 0 ↔ pre = [])) _) (ownFrom_below (Nat.le_refl _) (by simp)))
    (fun _ _ _ _ _ hs _ _ => hs)
    ⟨⟨_, bO, World.ownsRow_nil _ _ _ _, by simp⟩, hB0⟩
    (SpAx w.heap.size g lb)
    (fun x a' _ W W' row hs hg hr => by obtain ⟨Bx, hBx, hb, he⟩ := hs; exact ⟨Bx, hBx, blk_turned hb hg (fun r e => (hr r e).2), he⟩)
    ?assign ?body ?done ?stop
  case assign =>
    rintro l pre x W K ⟨⟨v, hv, hrow, hnil⟩, hB⟩ hK
    have hsz := hB.size
    have hvl := hv.lt
    unfold Spn.enc
    gi_wp2
    exact hK _ _ ((KeepsOthers.alloc _ _).from _) ((Below.refl _ W).alloc (by omega) _) ⟨⟨v, hv.alloc _, hrow.alloc _, hnil⟩, hB.alloc hB.size _⟩ ⟨W.heap.size, hvl, Blk.new W _ _, rfl⟩
  case body =>
    rintro l pre x a' W hl ⟨r, hr⟩ ⟨⟨v, hv, hrow, hnil⟩, hB⟩ ⟨Bx, hBx, bX, rfl⟩ hlt
    have hc := hv.cell
    have x0 := bX.cell 0
    have x1 := bX.cell 1
    simp only [List.getElem?_toArray, List.getElem?_cons_zero, List.getElem?_cons_succ] at x0 x1
    gi_wp2_with (gi_at_builtin; refine wpListIn_append_own _ rfl _ _ 38 rfl w.heap.size 48 i0 (.agg #[.int .i64 0, .int .i64 0]) 2 16 Tryd.underlying38 hi hz0 hz1 hz2 rfl (by decide) _ _ _ rfl (hrow.alloc _) ⟨W.heap.size, 0, none⟩ 1 1 [.int .i64 x.inn, .int .i64 x.out] rfl rfl (news_new _ _ _) (by simp [Value.oneCell']) (by simp [maxLen] <;> omega) (by omega) (by have := hB.size; simp; omega) ?_; intro v' w1 hown' hgrow _; obtain ⟨g', cap', rfl⟩ := ownsRow_succ hown'; obtain ⟨hv1, hv2, hr2, hk2, hb2⟩ := hv.appended (by decide) hrow hB.size (Nat.le_refl _) hown' hgrow; have hc1 := hv1.cell; have hf1 := hv1.frozen)
    exact ⟨hk2.from _, hb2.mono hn₀, ⟨_, hv2, by rw [flat_snocS]; simpa using hr2, by simp⟩, hB.trans hb2⟩
  case done =>
    rintro D ys W hD rfl ⟨⟨v, hv, hrow, hnil⟩, hB⟩ hK
    have hc := hv.cell
    gi_wp2
    refine ⟨by simp, .inl ⟨_, _, rfl, run_takeDeferred hK, ?_⟩⟩
    exact ⟨_, results_tmp rfl _ _ _, v, rfl, ownsRow_putObj hrow _ hK rfl, hnil, hB.trans (belowK_b (w := w) (Nat.le_refl _) W D _ _ (by simp at hD; omega) hK rfl rfl)⟩
  case stop =>
    rintro D c pre W _ _ h _
    exact h.elim
set_option maxHeartbeats 1000000 in
theorem SpCollect_any (A : Option Addr) (m cap : Nat) (zs : List Spn) (w : World) (Bs : Nat) (hz : m ≤ 1000000) (hBs : Bs < w.heap.size) (hc : w.cell? ⟨Bs, 0, none⟩ = some (.slice A m cap)) (hI : SpnsAt w A m zs) :
    Calls Tryd.prog 54 #[.func (.func 56) #[] #[.pointer (some ⟨Bs, 0, none⟩)]] w fun e w' => ∃ v, e = .returned v ∧ w'.ownsRow w.heap.size 48 2 v m (zs.flatMap Spn.vals) ∧ (v = .slice none 0 0 ↔ zs = []) ∧ Ext w w' := by
  have hl := hI.len
  have hap : Calls Tryd.prog 69 #[.slice none 0 0, .func (.func 56) #[] #[.pointer (some ⟨Bs, 0, none⟩)]] w fun e w' => ∃ v, e = .returned v ∧ w'.ownsRow w.heap.size 48 2 v m (zs.flatMap Spn.vals) ∧ (v = .slice none 0 0 ↔ zs = []) ∧ Ext w w' := by
    subst hl
    refine (callsIn_wide (n := 3)).1 ?_
    refine SpAppendSeq_in Fence.wide 3 trivial rfl (by omega) _ _ trivial (enters_of Tryd.func56 (by kernel_rfl) rfl) zs hz w.heap.size w (Nat.le_refl _) ?_
    refine SpValues_stops Fence.wide 2 trivial rfl (by omega) Bs w.heap.size A zs.length cap zs hz w hBs (Nat.le_refl _) hc hI ?_
    intro ad hA h0
    obtain ⟨b, off, hA', hcs⟩ := hI.2 (by omega)
    have hl0 : 0 < zs.length := by omega
    have := World.block_lt_of_cell? w _ (hcs 0 zs[0] (List.getElem?_eq_getElem hl0) 0 _ rfl)
    rw [hA'] at hA
    cases hA
    exact this
  have HA := Lib.hid hap
  clear hap
  go_enter Tryd.func54, Tryd.ntmps54
  go_wp2_with fail
  refine HA.out.mono ?_
  rintro e w' ⟨v, rfl, h1, h2, h3⟩
  have H1 := Lib.hid h1
  have H2 := Lib.hid h2
  have H3 := Lib.hid h3
  clear h1 h2 h3 HA
  go_wp2_with fail
  go_ret
  exact ⟨v, rfl, H1.out, H2.out, H3.out⟩
end Go.Proofs.YtablhmobekmflaaDoor

/-! SpSrt -/
namespace Go.Proofs.YtablhmobekmflaaDoor
set_option linter.unusedVariables false
set_option linter.unusedSimpArgs false
open Go.RowKit Go.Shelf Go.Sort
instance : Inhabited Spn := ⟨⟨0, 0⟩⟩
def cmpSp (x y : Spn) : Int := cmpI x.inn y.inn
def ltSp (x y : Spn) : Bool := decide (x.inn < y.inn)
theorem ltOf_Sp : ltOf cmpSp = ltSp := by
  funext x y
  unfold ltOf cmpSp ltSp cmpI
  apply decide_eq_decide.2
  split
  · simp; assumption
  · split <;> omega
theorem ltSp_swo : SWO ltSp where
  irrefl x := by unfold ltSp; simp
  trans x y z h1 h2 := by unfold ltSp at *; simp only [decide_eq_true_eq] at *; omega
  ntrans x y z h1 h2 := by unfold ltSp at *; simp only [decide_eq_false_iff_not] at *; omega
theorem cmpSp_enter : ∀ args w, (callFunc 46 args).run Tryd.prog w = .ok (.enter 46 args) w := Go.Proofs.enters_of Tryd.func46 (by kernel_rfl) rfl
set_option maxRecDepth 100000 in
set_option maxHeartbeats 1000000 in
theorem cmpSp_any (x y : Spn) (w : World) : Calls Tryd.prog 46 #[.agg x.vals.toArray, .agg y.vals.toArray] w fun e w' => e = .returned (.int .i64 (cmpSp x y)) ∧ Extd w w' := by
  show Calls Tryd.prog 46 #[.agg #[.int .i64 x.inn, .int .i64 x.out], .agg #[.int .i64 y.inn, .int .i64 y.out]] w _
  have HX := Lib.hid (((Extd.refl w).alloc (.cells #[.int .i64 x.inn, .int .i64 x.out] 48)).alloc (.cells #[.int .i64 y.inn, .int .i64 y.out] 48))
  have HC := Lib.hid (fun w' => Compare_any x.inn y.inn w')
  unfold cmpSp
  go_enter Tryd.func46, Tryd.ntmps46
  go_wp2_with fail
  refine (HC.out _).mono ?_
  rintro e w1 ⟨rfl, rfl⟩
  go_wp2_with fail
  go_ret
  exact ⟨rfl, HX.out⟩
theorem arr_sortedSp {d : Array Spn} (h : SortedIn ltSp 0 d.size d) : d.toList.Pairwise fun x y => ltSp y x = false := by
  refine List.pairwise_iff_getElem.2 fun i j hi hj hij => ?_
  have hi' : i < d.size := by simpa using hi
  have hj' : j < d.size := by simpa using hj
  have := h i j (Nat.zero_le _) hij hj'
  rw [getElem!_pos d j hj', getElem!_pos d i hi'] at this
  simpa using this
theorem SortNoneSp (F : Value) (w : World) : Calls Tryd.prog 55 #[.slice none 0 0, F] w fun e w' => e = .returned (.tuple #[]) ∧ w' = w := AnyF.slices_SortFunc_none Tryd.srtSp none 0 F w
theorem SortSp_own {w0 w : World} {L g n c : Nat} {l : List Spn} (hx : Ext w0 w) (hL : w0.heap.size ≤ L) (h1 : w.ownsRow L 48 2 (.slice (some ⟨g, 0, none⟩) n c) n (l.flatMap Spn.vals)) (hl : l.length = n) (hn : n < 4611686018427387904) :
    Calls Tryd.prog 55 #[.slice (some ⟨g, 0, none⟩) n c, .func (.func 46) #[] #[]] w fun e w' => e = .returned (.tuple #[]) ∧ Ext w0 w' ∧ ∃ l' : List Spn, l'.Perm l ∧ (l'.Pairwise fun x y => ltSp y x = false) ∧ w'.ownsRow L 48 2 (.slice (some ⟨g, 0, none⟩) n c) n (l'.flatMap Spn.vals) := by
  have hLg : L ≤ g := own_lt h1 g rfl
  have hg : g < w.heap.size := by
    rcases h1.2 with ⟨hv, -⟩ | ⟨g', cap, cur, hv, -, hb, -⟩
    · cases hv
    · cases hv; exact (Array.getElem?_eq_some_iff.1 hb).1
  have hz : l.toArray.size = n := by simp [hl]
  have hH := own_holds (enc := Spn.vals) (k := 2) (fun _ => rfl) h1 hl
  have hcmp : CmpLays Tryd.prog 46 #[] Spn.vals 2 cmpSp g 0 l.toArray.size w := fun m os dk hs x y => (cmpSp_any x y _).mono fun e w' ⟨he, hx⟩ => ⟨he, hx.grow⟩
  have hcon := AnyQ.slices_SortFunc Tryd.srtSp 2 Tryd.isAgg48 Tryd.sizeOf48 Spn.vals (fun _ => rfl) spn_ones cmpSp (by rw [ltOf_Sp]; exact ltSp_swo) 46 #[] g 0 c l.toArray w cmpSp_enter hcmp hH hg (by rw [hz]; exact hn)
  rw [hz, ltOf_Sp] at hcon
  refine Calls.mono hcon ?_
  rintro e w' ⟨rfl, d', m, os, hp, hs, rfl⟩
  obtain ⟨hsz, -, hperm⟩ := hp
  have hd : d'.size = n := by rw [hsz, hz]
  have e1 : d'.extract 0 n = d' := by rw [← hd]; exact Array.extract_size
  have e2 : l.toArray.extract 0 n = l.toArray := by rw [← hz]; exact Array.extract_size
  rw [e1, e2] at hperm
  have hS : SWK Spn.vals 2 w g 0 d'.toList.toArray (sortWorldK Spn.vals 2 w g 0 m d' os) := ⟨m, os, by simp⟩
  have hO := swk_own (enc := Spn.vals) (fun _ => rfl) h1 hS (by simpa using hd)
  exact ⟨rfl, hx.grown (swk_grown (enc := Spn.vals) (k := 2) (g := g) (l := d'.toList) ⟨m, os, by simp⟩) (fun q hq => by cases hq; omega), d'.toList, by simpa using hperm, arr_sortedSp (by rw [hd]; exact hs), hO⟩
set_option maxHeartbeats 1000000 in
theorem SortedFunc_any (A : Option Addr) (m cap : Nat) (zs : List Spn) (w : World) (Bs : Nat) (hz : m ≤ 1000000) (hBs : Bs < w.heap.size) (hc : w.cell? ⟨Bs, 0, none⟩ = some (.slice A m cap)) (hI : SpnsAt w A m zs) :
    Calls Tryd.prog 44 #[.func (.func 56) #[] #[.pointer (some ⟨Bs, 0, none⟩)], .func (.func 46) #[] #[]] w fun e w' =>
      ∃ (v : Value) (l : List Spn), e = .returned v ∧ l.Perm zs ∧ (l.Pairwise fun x y => ltSp y x = false) ∧ w'.ownsRow w.heap.size 48 2 v m (l.flatMap Spn.vals) ∧ Ext w w' := by
  have hl := hI.len
  have HC := Lib.hid (SpCollect_any A m cap zs w Bs hz hBs hc hI)
  have HL := Lib.hid hl
  clear hBs hc hI hl
  go_enter Tryd.func44, Tryd.ntmps44
  go_wp2_with fail
  refine HC.out.mono ?_
  rintro e w1 ⟨v, rfl, h1, h2, h3⟩
  have H1 := Lib.hid h1
  have H3 := Lib.hid h3
  have H2 := Lib.hid h2
  clear h1 h2 h3 HC
  by_cases h0 : zs = []
  · have hv := H2.out.2 h0
    subst hv
    go_wp2_with fail
    refine (SortNoneSp _ _).mono ?_
    rintro e w2 ⟨rfl, rfl⟩
    go_wp2_with fail
    go_ret
    exact ⟨_, zs, rfl, List.Perm.refl _, by rw [h0]; exact List.Pairwise.nil, H1.out, H3.out⟩
  · have hm : 0 < m := by rw [← HL.out]; exact List.length_pos_iff.2 h0
    obtain ⟨g, c, rfl, -⟩ := own_form H1.out hm
    have HS := Lib.hid (SortSp_own H3.out (Nat.le_refl _) H1.out HL.out (by omega))
    clear h0 H2
    go_wp2_with fail
    refine HS.out.mono ?_
    rintro e w2 ⟨rfl, hx, l', hp, hs, ho⟩
    have HR := Lib.hid (And.intro hp (And.intro hs (And.intro ho hx)))
    clear hx hp hs ho HS
    go_wp2_with fail
    go_ret
    exact ⟨_, l', rfl, HR.out.1, HR.out.2.1, HR.out.2.2.1, HR.out.2.2.2⟩
end Go.Proofs.YtablhmobekmflaaDoor

/-! MrgD -/
namespace Go.Proofs.YtablhmobekmflaaDoor
set_option linter.unusedVariables false
set_option linter.unusedSimpArgs false
open Go.RowKit
def mgl (l : List Spn) : List Spn := (l.filter fun s => decide (s.inn < s.out)).foldl mgStep []
theorem mgl_skip {l : List Spn} {x : Spn} (h : ¬ x.inn < x.out) : mgl (l ++ [x]) = mgl l := by
  unfold mgl; rw [List.filter_append]; simp [h]
theorem mgl_add {l : List Spn} {x : Spn} (h : x.inn < x.out) : mgl (l ++ [x]) = mgStep (mgl l) x := by
  unfold mgl; rw [List.filter_append, List.foldl_append]; simp [h]
theorem mgStep_len (l : List Spn) (s : Spn) : (mgStep l s).length ≤ l.length + 1 := by
  unfold mgStep
  split
  · split
    · rename_i x hx _
      have : l ≠ [] := by rintro rfl; simp at hx
      have := List.length_pos_iff.2 this
      simp
    · simp
  · simp
theorem mg_fold_len : ∀ (l m : List Spn), (l.foldl mgStep m).length ≤ m.length + l.length
  | [], m => by simp
  | x :: l, m => by
    have := mg_fold_len l (mgStep m x)
    have := mgStep_len m x
    simp only [List.foldl_cons, List.length_cons]; omega
theorem mgl_len (l : List Spn) : (mgl l).length ≤ l.length := by
  have h := mg_fold_len (l.filter fun s => decide (s.inn < s.out)) []
  have := List.length_filter_le (fun s : Spn => decide (s.inn < s.out)) l
  unfold mgl; simp at h; omega
theorem sp_cell {w : World} {base : Nat} {v : Value} {ps : List Spn} {p : Spn} (h : w.ownsRow base 48 2 v (ps.length + 1) ((ps ++ [p]).flatMap Spn.vals)) : ∃ g cap, v = .slice (some ⟨g, 0, none⟩) (ps.length + 1) cap ∧ base ≤ g ∧ g < w.heap.size ∧ Cells Spn.vals w g (ps.length * 2) p := by
  obtain ⟨g, cap, rfl, h1, h2⟩ := own_form h (by omega)
  obtain ⟨A', c', he, _, _, hS, _⟩ := own_sl (f := Spn.vals) (size := 2) (fun _ => rfl) (l := ps ++ [p]) (by simp) h
  injection he with e1 e2 e3
  subst e1
  obtain ⟨b, off, x, hA, hx, hC⟩ := hS.at_ (i := ps.length) (by omega)
  injection hA with hA
  injection hA with e4 e5
  subst e4 e5
  have : x = p := by simpa using hx.symm
  subst this
  exact ⟨g, cap, rfl, h1, h2, by simpa using hC⟩
theorem sp_set {ps : List Spn} {p : Spn} (o : Int) : ((ps ++ [p]).flatMap Spn.vals).set (ps.length * 2 + 1) (.int .i64 o) = (ps ++ [(⟨p.inn, o⟩ : Spn)]).flatMap Spn.vals := by
  have hl : (ps.flatMap Spn.vals).length = ps.length * 2 := flatMap_len Spn.vals 2 (fun _ => rfl) ps
  rw [List.flatMap_append, List.flatMap_append, List.set_append_right _ _ (by omega), hl]
  congr 1
  rw [show ps.length * 2 + 1 - ps.length * 2 = 1 by omega]
  rfl
theorem snocSp {l : List Spn} (h : l ≠ []) : ∃ ps p, l = ps ++ [p] := by
  rcases List.eq_nil_or_concat l with rfl | ⟨ps, p, e⟩
  · exact absurd rfl h
  · exact ⟨ps, p, by rw [List.concat_eq_append] at e; exact e⟩
def SpnsPost (l : List Spn) (w : World) (en : Ending) (w' : World) : Prop := ∃ A c, en = .returned (.slice A l.length c) ∧ SpnsAt w' A l.length l ∧ l.length ≤ c ∧ Ext w w' ∧ ∀ ad, A = some ad → w.heap.size ≤ ad.block
def MgRel (w1 : World) (m : Nat) (l : List Spn) (v i : Value) (wr : World) : Prop :=
  ∃ k : Nat, k ≤ m ∧ i = .int .i64 k ∧ Ext w1 wr ∧ wr.ownsRow w1.heap.size 48 2 v (mgl (l.take k)).length ((mgl (l.take k)).flatMap Spn.vals)
set_option maxRecDepth 100000 in
set_option maxHeartbeats 8000000 in
theorem Merge_any (A : Option Addr) (n c : Nat) (zs : List Spn) (w : World) (hl : SpnsAt w A n zs) (hn : n ≤ 1000000) :
    Calls Tryd.prog 28 #[.slice A n c] w (SpnsPost (joinS zs) w) := by
  have HV := Lib.hid ((callsIn_wide (n := 1)).1 (SpValues_in Fence.wide 1 trivial rfl A n c w))
  have HXv := Lib.hid ((Ext.refl w).alloc (.cells #[.slice A n c] 38))
  have HSF := Lib.hid (SortedFunc_any A n c zs (w.alloc (.cells #[.slice A n c] 38)) w.heap.size hn (by simp) (by rw [(Blk.new w 38 #[.slice A n c]).cell 0]; rfl) (hl.ext HXv.out))
  have hlen := hl.len
  clear hl
  unfold SpnsPost
  go_enter Tryd.func28, Tryd.ntmps28
  go_wp2_with fail
  refine HV.out.mono ?_
  rintro e w0 ⟨rfl, rfl⟩
  go_wp2_with fail
  refine HSF.out.mono ?_
  rintro e w1 ⟨v, l, rfl, hp, hs, ho, hx⟩
  have hll : l.length = n := by rw [hp.length_eq]; exact hlen
  have HX1 := Lib.hid (HXv.out.trans hx)
  have HMJ : Hid (mgl l = joinS zs) := merge_join hp (hs.imp fun {x y} h => by unfold ltSp at h; simpa using h)
  obtain ⟨SA, sc, rfl, hsc, hscm, hS, hfr⟩ := own_sl (f := Spn.vals) (size := 2) (fun _ => rfl) hll ho
  have HL : Hid (SpnsAt w1 SA n l) := hS
  have hz1 := HX1.out.size
  clear HV HXv HSF hlen hp hs ho hx hS hfr hsc hscm
  go_wp2_with fail
  go_loopw [3, 13] (fun v i wr => MgRel w1 n l v i wr) (fun _ i _ => n - (intOf i).toNat)
  case atStart => exact ⟨0, Nat.zero_le _, rfl, Ext.refl _, ⟨rfl, .inl ⟨rfl, rfl⟩⟩⟩
  case round =>
    obtain ⟨k, hk, rfl, hx, hown⟩ := hrel
    have HX := Lib.hid hx
    have HO := Lib.hid hown
    have hml : (mgl (l.take k)).length ≤ k := by have := mgl_len (l.take k); rw [List.length_take] at this; omega
    have hzr := hx.size
    clear hx hown
    by_cases hlt : k < n
    case neg =>
      have hkn : k = n := by omega
      subst hkn
      have HT : Hid (mgl (l.take k) = joinS zs) := by show _ = _; rw [List.take_of_length_le (by omega)]; exact HMJ.out
      rw [HT.out] at HO
      obtain ⟨A', c', rfl, hc, _, hS, hfr⟩ := own_sl (f := Spn.vals) (size := 2) (fun _ => rfl) rfl HO.out
      have HR := Lib.hid (And.intro hc (And.intro hS (And.intro hfr (HX1.out.trans HX.out))))
      clear hc hS hfr HO HT
      go_wp2_with fail
      go_ret
      exact ⟨A', c', rfl, HR.out.2.1, HR.out.1, HR.out.2.2.2, fun ad h => Nat.le_trans hz1 (HR.out.2.2.1 ad h)⟩
    obtain ⟨b, off, x, rfl, hxk, hC⟩ := (HL.out.ext HX.out).at_ hlt
    have c0 := hC 0 _ rfl
    have c1 := hC 1 _ rfl
    simp only [Nat.add_zero] at c0
    have HTk := Lib.hid (take_snoc' l k x hxk)
    have HBx := Lib.hid (Blk.new wr 48 #[.int .i64 x.inn, .int .i64 x.out])
    have HXx := Lib.hid ((Ext.refl wr).alloc (.cells #[.int .i64 x.inn, .int .i64 x.out] 48))
    clear hC hxk
    by_cases hio : x.inn < x.out
    case neg =>
      have hge : x.inn ≥ x.out := by omega
      have hd1 : decide (x.inn ≥ x.out) = true := by simpa using hge
      have hd2 : decide (x.out ≤ x.inn) = true := by simpa using hge
      have HT2 : Hid (mgl (l.take (k + 1)) = mgl (l.take k)) := by show _ = _; rw [HTk.out, mgl_skip hio]
      clear hio hge
      go_wp2_with fail
      exact ⟨⟨k + 1, by omega, by go_num, HX.out.trans HXx.out, by rw [HT2.out]; exact own_ext HO.out HXx.out⟩, by simp [intOf]; omega⟩
    have hd1 : decide (x.inn ≥ x.out) = false := by simp; omega
    have hd2 : decide (x.out ≤ x.inn) = false := by simp; omega
    have HT2 : Hid (mgl (l.take (k + 1)) = mgStep (mgl (l.take k)) x) := by show _ = _; rw [HTk.out, mgl_add hio]
    clear hio HTk
    generalize mgl (l.take k) = os at *
    rcases Classical.em (os = []) with hos | hos
    · subst hos
      obtain ⟨A', cap', rfl, hcap, hcm, _, _⟩ := own_sl (f := Spn.vals) (size := 2) (l := []) (fun _ => rfl) rfl HO.out
      rw [mg_none] at HT2
      simp only [List.length_nil] at *
      go_wp2_with fail
      go_quiet (fail)
      go_upto_region 10 with fail
      refine wp_drewN ?_
      intro w3 hx3 hs3
      have HXw3 := Lib.hid (HXx.out.trans hx3)
      have HO3 := Lib.hid (own_ext HO.out HXw3.out)
      have HBx3 := Lib.hid (HBx.out.ext hx3)
      have hcl3 := fun o => HBx3.out.cell o
      have hb3 := HXw3.out.size
      clear hx3 hs3
      go_wp2_with (at_builtin; refine wpList_append1 rfl (.tmp 49) (.tmp 51) 38 rfl info_span Tryd.underlying38 rfl (by decide) (HO3.out.alloc _) (by exact rfl) w3.heap.size _ (by exact rfl) (by exact Blk.new' rfl) (by exact rfl) (by simp [Value.oneCell']) (by omega) (by simp [maxLen] <;> omega) (by first | omega | (simp; omega) | simp) ?_; intro v5 w5 hown5 hgr; have HO5 := Lib.hid hown5; have HX5 := Lib.hid (Ext.grown ((HX.out.trans HXw3.out).alloc _) hgr (fun q hq => own_lt HO3.out q hq)); clear hown5 hgr)
      exact ⟨⟨k + 1, by omega, by go_num, HX5.out, by rw [HT2.out]; exact HO5.out⟩, by simp [intOf]; omega⟩
    obtain ⟨ps, p, rfl⟩ := snocSp hos
    clear hos
    have hlen : (ps ++ [p]).length = ps.length + 1 := by simp
    rw [hlen] at HO hml
    clear hlen
    obtain ⟨g, cap, rfl, hg1, hg2, hCp⟩ := sp_cell HO.out
    have p1 := HXx.out.cell (hCp 1 _ rfl)
    rw [mg_snoc] at HT2
    by_cases hjoin : x.inn ≤ p.out
    · rw [if_pos hjoin] at HT2
      have d1 : decide (x.inn ≤ p.out) = true := by simpa using hjoin
      clear hjoin
      go_wp2_with fail
      go_quiet (fail)
      go_upto_region 9 with fail
      refine wp_drewN ?_
      intro w3 hx3 hs3
      have HXw3 := Lib.hid (HXx.out.trans hx3)
      have HO3 := Lib.hid (own_ext HO.out HXw3.out)
      have HBx3 := Lib.hid (HBx.out.ext hx3)
      have q1 := hx3.cell p1
      have b1 := HBx3.out.cell 1
      simp only [List.getElem?_toArray, List.getElem?_cons_zero, List.getElem?_cons_succ] at b1
      have hfg := World.ownsRow.frozenAt HO3.out (ps.length * 2 + 1)
      obtain ⟨hst, hgr⟩ := World.ownsRow.stored HO3.out (ps.length * 2 + 1) (.int .i64 (max p.out x.out))
      have HO5 := Lib.hid hst
      have HX5 := Lib.hid (Ext.grown (HX.out.trans HXw3.out) hgr (fun q hq => by cases hq; exact hg1))
      have HSO := Lib.hid (sp_set (ps := ps) (p := p) (max p.out x.out))
      clear hst hgr hx3 hs3 p1
      go_region
      try simp only [Exit.inBlock, Exit.then]
      have HF := Lib.hid (And.intro (HX5.out.drew) (own_ext HO5.out (Ext.refl _).drew))
      go_wp2_with fail
      exact ⟨⟨k + 1, by omega, by go_num, HF.out.1, by rw [HT2.out, ← HSO.out, show (ps ++ [(⟨p.inn, max p.out x.out⟩ : Spn)]).length = ps.length + 1 by simp]; exact HF.out.2⟩, by simp [intOf]; omega⟩
    · rw [if_neg hjoin] at HT2
      have d1 : decide (x.inn ≤ p.out) = false := by simpa using hjoin
      clear hjoin
      go_wp2_with fail
      go_quiet (fail)
      go_upto_region 10 with fail
      refine wp_drewN ?_
      intro w3 hx3 hs3
      have HXw3 := Lib.hid (HXx.out.trans hx3)
      have HO3 := Lib.hid (own_ext HO.out HXw3.out)
      have HBx3 := Lib.hid (HBx.out.ext hx3)
      have hcl3 := fun o => HBx3.out.cell o
      have hb3 := HXw3.out.size
      clear hx3 hs3 p1
      go_wp2_with (at_builtin; refine wpList_append1 rfl (.tmp 49) (.tmp 51) 38 rfl info_span Tryd.underlying38 rfl (by decide) (HO3.out.alloc _) (by exact rfl) w3.heap.size _ (by exact rfl) (by exact Blk.new' rfl) (by exact rfl) (by simp [Value.oneCell']) (by omega) (by simp [maxLen] <;> omega) (by first | omega | (simp; omega) | simp) ?_; intro v5 w5 hown5 hgr; have HO5 := Lib.hid hown5; have HX5 := Lib.hid (Ext.grown ((HX.out.trans HXw3.out).alloc _) hgr (fun q hq => own_lt HO3.out q hq)); clear hown5 hgr)
      exact ⟨⟨k + 1, by omega, by go_num, HX5.out, by rw [HT2.out, show ps ++ [p, x] = (ps ++ [p]) ++ [x] by simp, List.flatMap_append, show ((ps ++ [p]) ++ [x]).length = ps.length + 1 + 1 by simp]; exact HO5.out⟩, by simp [intOf]; omega⟩
end Go.Proofs.YtablhmobekmflaaDoor

/-! PutS -/
namespace Go.Proofs.YtablhmobekmflaaDoor
set_option linter.unusedVariables false
set_option linter.unusedSimpArgs false
open Go.RowKit
def putT (l : List Spn) (s : Spn) : Nat := (l.takeWhile fun x => decide (x.inn ≤ s.inn)).length
def PutSPost (l : List Spn) (w : World) (en : Ending) (w' : World) : Prop := ∃ v, en = .returned v ∧ w'.ownsRow w.heap.size 48 2 v l.length (l.flatMap Spn.vals) ∧ Ext w w'
def PutSRel (w0 : World) (l : List Spn) (s : Spn) (i : Value) (wr : World) : Prop := ∃ k : Nat, k ≤ putT l s ∧ i = .int .i64 k ∧ Ext w0 wr
end Go.Proofs.YtablhmobekmflaaDoor

/-! JnS -/
namespace Go.Proofs.YtablhmobekmflaaDoor
set_option linter.unusedVariables false
set_option linter.unusedSimpArgs false
open Go.RowKit
def srtK (zs : List Spn) (k : Nat) : List Spn := sortS' (full (zs.take k))
def J1Rel (w : World) (n : Nat) (zs : List Spn) (v i : Value) (wr : World) : Prop :=
  ∃ k : Nat, k ≤ n ∧ i = .int .i64 k ∧ Ext w wr ∧ wr.ownsRow w.heap.size 48 2 v (srtK zs k).length ((srtK zs k).flatMap Spn.vals) ∧ (srtK zs k = [] → v = .slice none 0 0)
def J2Rel (w1 : World) (m : Nat) (l : List Spn) (v i : Value) (wr : World) : Prop :=
  ∃ k : Nat, k ≤ m ∧ i = .int .i64 k ∧ Ext w1 wr ∧ wr.ownsRow w1.heap.size 48 2 v (mg (l.take k)).length ((mg (l.take k)).flatMap Spn.vals)
def NmRel (w : World) (n : Nat) (i : Value) (wr : World) : Prop := ∃ k : Nat, k ≤ n ∧ i = .int .i64 k ∧ Ext w wr
def SpnsPost2 (l : List Spn) (w : World) (en : Ending) (w' : World) : Prop := ∃ A c, en = .returned (.tuple #[.slice A l.length c, .int .i64 0]) ∧ SpnsAt w' A l.length l ∧ l.length ≤ c ∧ Ext w w' ∧ ∀ ad, A = some ad → w.heap.size ≤ ad.block
set_option maxRecDepth 100000 in
set_option maxHeartbeats 2000000 in
theorem Norm_ok (A : Option Addr) (n c : Nat) (zs : List Spn) (w : World) (hl : SpnsAt w A n zs) (hn : n ≤ 400) (hr : ∀ s ∈ zs, s.inn < s.out → 0 ≤ s.inn ∧ s.out ≤ 10378368000) :
    Calls Tryd.prog 16 #[.slice A n c] w (SpnsPost2 (joinS zs) w) := by
  have HL := Lib.hid hl
  have HR := Lib.hid hr
  have HM := Lib.hid (fun w' (hx : Ext w w') => Merge_any A n c zs w' (hl.ext hx) (by omega))
  have hb : decide ((n : Int) > 400) = false := by simp; omega
  have hb2 : decide ((400 : Int) < n) = false := by simp; omega
  clear hl hr
  unfold SpnsPost2
  unfold SpnsPost at HM
  go_enter Tryd.func16, Tryd.ntmps16
  go_wp2_with fail
  clear hb hb2
  go_loopw [11] (fun i wr => NmRel w n i wr) (fun i _ => n - (intOf i).toNat)
  case atStart => exact ⟨0, Nat.zero_le _, rfl, Ext.refl _⟩
  case round =>
    obtain ⟨k, hk, rfl, hx⟩ := hrel
    have HX := Lib.hid hx
    clear hx
    by_cases hlt : k < n
    · obtain ⟨b, off, x, rfl, hxk, hC⟩ := (HL.out.ext HX.out).at_ hlt
      have c0 := hC 0 _ rfl
      have c1 := hC 1 _ rfl
      simp only [Nat.add_zero] at c0
      have hxr := HR.out x (List.mem_of_getElem? hxk)
      have HXx := Lib.hid (HX.out.alloc (.cells #[.int .i64 x.inn, .int .i64 x.out] 48))
      clear hC hxk
      by_cases hio : x.inn < x.out
      · obtain ⟨h1, h2⟩ := hxr hio
        have d1 : decide (x.inn < x.out) = true := by simpa using hio
        have d2 : decide (x.inn < 0) = false := by simpa using h1
        have d3 : decide (x.out > 10378368000) = false := by simpa using h2
        have d4 : decide (10378368000 < x.out) = false := by simpa using h2
        clear hio hxr h1 h2
        go_wp2_with fail
        exact ⟨⟨k + 1, by omega, by go_num, HXx.out⟩, by simp [intOf]; omega⟩
      · have d1 : decide (x.inn < x.out) = false := by simpa using hio
        clear hio hxr
        go_wp2_with fail
        exact ⟨⟨k + 1, by omega, by go_num, HXx.out⟩, by simp [intOf]; omega⟩
    · have hkn : k = n := by omega
      subst hkn
      go_wp2_with fail
      refine (HM.out _ HX.out).mono ?_
      rintro e w2 ⟨A', c', rfl, h1, h2, h3, h4⟩
      have HF := Lib.hid (And.intro h1 (And.intro h2 (And.intro (HX.out.trans h3) (fun ad h => Nat.le_trans HX.out.size (h4 ad h)))))
      clear h1 h2 h3 h4
      go_wp2_with fail
      go_ret2
      exact ⟨A', c', rfl, HF.out.1, HF.out.2.1, HF.out.2.2.1, HF.out.2.2.2⟩
end Go.Proofs.YtablhmobekmflaaDoor

/-! KbB -/
namespace Go.Proofs.YtablhmobekmflaaDoor
set_option linter.unusedVariables false
set_option linter.unusedSimpArgs false
open Go.RowKit Go.Maps
/-- the rows of elements of type T stay as they are -/
def KB (T : TypeId) (w w' : World) : Prop := ∀ (b : Nat) (cur : Array Value), w.heap[b]? = some (Obj.cells cur T (0, 0)) → w'.heap[b]? = some (Obj.cells cur T (0, 0))
section
variable {T T' : TypeId} {w w1 w2 : World} {L n : Nat} {A : Option Addr}
theorem KB.refl (w : World) : KB T w w := fun _ _ h => h
theorem KB.trans (h : KB T w w1) (k : KB T w1 w2) : KB T w w2 := fun b cur hb => k b cur (h b cur hb)
theorem KB.ext (k : Ext w w1) : KB T w w1 := fun b _ hb => (k.block b (Array.getElem?_eq_some_iff.1 hb).1).trans hb
theorem KB.put {g : Nat} {cs cs' : Array Value} (hB : Blk w g T' cs) (hne : T ≠ T') : KB T w (putB w g T' cs') := fun b cur hb => by
  have hn : g ≠ b := (Typed.ne ⟨cur, hb⟩ hB.typed hne).symm
  unfold putB
  simp only
  rw [Array.getElem?_setIfInBounds_ne hn]
  exact hb
theorem KB.set {p : Addr} {u : Value} (hT : Typed w T' p.block) (hne : T ≠ T') : KB T w (w.setCell p u) := fun b cur hb => by
  have hn : b ≠ p.block := Typed.ne ⟨cur, hb⟩ hT hne
  rw [RowKit.Below.heap_setCell _ _ _ _ hn]
  exact hb
theorem KB.grown {row : Option Nat} (hg : w.grownBy w1 row) (hr : ∀ q, row = some q → Typed w T' q) (hne : T ≠ T') : KB T w w1 := fun b cur hb => by
  refine (hg.block b (Array.getElem?_eq_some_iff.1 hb).1 (fun e => ?_)).trans hb
  exact Typed.ne ⟨cur, hb⟩ (hr b e.symm) hne rfl
theorem Typed.kb (h : Typed w T n) (k : KB T w w1) : Typed w1 T n := h.elim fun cur hb => ⟨cur, k _ _ hb⟩
end
/-- the maps stay as they are -/
def KM (w w' : World) : Prop := ∀ (b : Nat) (es : Array MapEntry) (cl : Nat), w.heap[b]? = some (Obj.map es cl) → w'.heap[b]? = some (Obj.map es cl)
/-- only rows of elements of type T have changed, and there is more memory -/
structure Only (T : TypeId) (w w' : World) : Prop where
  kb : ∀ T', T' ≠ T → KB T' w w'
  km : KM w w'
section
variable {T T' : TypeId} {w w1 w2 : World}
theorem Only.refl (w : World) : Only T w w := ⟨fun _ _ => KB.refl w, fun _ _ _ h => h⟩
theorem Only.trans (h : Only T w w1) (k : Only T w1 w2) : Only T w w2 := ⟨fun T' hn => (h.kb T' hn).trans (k.kb T' hn), fun b es cl hb => k.km b es cl (h.km b es cl hb)⟩
theorem Only.ext (k : Ext w w1) : Only T w w1 := ⟨fun _ _ => KB.ext k, fun b _ _ hb => (k.block b (Array.getElem?_eq_some_iff.1 hb).1).trans hb⟩
theorem Only.put {g : Nat} {cs cs' : Array Value} (hB : Blk w g T cs) : Only T w (putB w g T cs') := ⟨fun _ hn => KB.put hB hn, fun b es cl hb => by
  have hn : g ≠ b := fun e => by subst e; rw [show w.heap[g]? = _ from hB] at hb; cases hb
  unfold putB
  simp only
  rw [Array.getElem?_setIfInBounds_ne hn]
  exact hb⟩
theorem Only.set {p : Addr} {u : Value} (hT : Typed w T p.block) : Only T w (w.setCell p u) := ⟨fun _ hn => KB.set hT hn, fun b es cl hb => by
  have hn : b ≠ p.block := fun e => by subst e; obtain ⟨cur, hc⟩ := hT; rw [hc] at hb; cases hb
  rw [RowKit.Below.heap_setCell _ _ _ _ hn]
  exact hb⟩
theorem Only.grown {row : Option Nat} (hg : w.grownBy w1 row) (hr : ∀ q, row = some q → Typed w T q) : Only T w w1 := ⟨fun _ hn => KB.grown hg hr hn, fun b es cl hb => by
  refine (hg.block b (Array.getElem?_eq_some_iff.1 hb).1 (fun e => ?_)).trans hb
  obtain ⟨cur, hc⟩ := hr b e.symm
  rw [hc] at hb; cases hb⟩
theorem Blk.kb {g : Nat} {cs : Array Value} (h : Blk w g T cs) (k : KB T w w1) : Blk w1 g T cs := k g cs h
theorem Blk.only {g : Nat} {cs : Array Value} (h : Blk w g T' cs) (k : Only T w w1) (hn : T' ≠ T) : Blk w1 g T' cs := (k.kb T' hn) g cs h
end
theorem getElem_ltq {α : Type} {l : List α} {p : Nat} (h : p < l.length) : ∃ v, l[p]? = some v := ⟨_, List.getElem?_eq_getElem h⟩
end Go.Proofs.YtablhmobekmflaaDoor

/-! PcsP -/
namespace Go.Proofs.YtablhmobekmflaaDoor
set_option linter.unusedVariables false
set_option linter.unusedSimpArgs false
open Go.RowKit
/-- a piece of a map -/
structure Pc where
  inn : Int
  out : Int
  dst : Int
  n : Int
  d : Int
  deriving DecidableEq
def Pc.vals (p : Pc) : List Value := [.int .i64 p.inn, .int .i64 p.out, .int .i64 p.dst, .int .i64 p.n, .int .i64 p.d]
def PcsAt (w : World) (A : Option Addr) (n : Nat) (l : List Pc) : Prop := Sl w 5 (Cells Pc.vals) A n l
theorem PcsAt.ext {w w1 : World} {A : Option Addr} {n : Nat} {l : List Pc} (h : PcsAt w A n l) (k : Ext w w1) : PcsAt w1 A n l := Sl.ext (Cells.stays _) h k
theorem info_pc : (Tryd.prog.info? 57).map (fun i => (i.zero, i.size, i.bytes)) = some (some (.agg #[.int .i64 0, .int .i64 0, .int .i64 0, .int .i64 0, .int .i64 0]), 5, 40) := by kernel_rfl
theorem size_pc : (Tryd.prog.info? 57).map (·.size) = some 5 := by kernel_rfl
def Cut.pc (c : Cut) : Pc := ⟨c.inn, c.out, c.src, c.n, c.d⟩
def pcsC (l : List Cut) (s : ByteArray) : List Pc := (l.filter fun c => decide (c.reel = s)).map Cut.pc
def covC (l : List Cut) : List Spn := l.map fun c => ⟨c.inn, c.out⟩
def Cut.pl (c : Cut) : Spn := ⟨c.src, srcAt c (c.out - 1) + 1⟩
def plC (l : List Cut) (s : ByteArray) : List Spn := (l.filter fun c => decide (c.reel = s)).map Cut.pl
def pcsE (e : Edl) (s : ByteArray) : List Pc := if edlErr e = 0 then pcsC e.cuts s else []
def covE (e : Edl) : List Spn := if edlErr e = 0 then joinS (covC e.cuts) else []
def plE (e : Edl) (s : ByteArray) : List Spn := if edlErr e = 0 then joinS (plC e.cuts s) else []
theorem filt_yes {l : List Cut} {k : Nat} {c : Cut} {s : ByteArray} (h : l[k]? = some c) (hs : c.reel = s) : (l.take (k + 1)).filter (fun c => decide (c.reel = s)) = (l.take k).filter (fun c => decide (c.reel = s)) ++ [c] := by
  rw [take_snoc' _ _ _ h, List.filter_append]; simp [hs]
theorem filt_no {l : List Cut} {k : Nat} {c : Cut} {s : ByteArray} (h : l[k]? = some c) (hs : ¬ c.reel = s) : (l.take (k + 1)).filter (fun c => decide (c.reel = s)) = (l.take k).filter (fun c => decide (c.reel = s)) := by
  rw [take_snoc' _ _ _ h, List.filter_append]; simp [hs]
theorem pcsC_yes {l : List Cut} {k : Nat} {c : Cut} {s : ByteArray} (h : l[k]? = some c) (hs : c.reel = s) : pcsC (l.take (k + 1)) s = pcsC (l.take k) s ++ [c.pc] := by unfold pcsC; rw [filt_yes h hs, List.map_append]; rfl
theorem pcsC_no {l : List Cut} {k : Nat} {c : Cut} {s : ByteArray} (h : l[k]? = some c) (hs : ¬ c.reel = s) : pcsC (l.take (k + 1)) s = pcsC (l.take k) s := by unfold pcsC; rw [filt_no h hs]
theorem plC_yes {l : List Cut} {k : Nat} {c : Cut} {s : ByteArray} (h : l[k]? = some c) (hs : c.reel = s) : plC (l.take (k + 1)) s = plC (l.take k) s ++ [c.pl] := by unfold plC; rw [filt_yes h hs, List.map_append]; rfl
theorem plC_no {l : List Cut} {k : Nat} {c : Cut} {s : ByteArray} (h : l[k]? = some c) (hs : ¬ c.reel = s) : plC (l.take (k + 1)) s = plC (l.take k) s := by unfold plC; rw [filt_no h hs]
theorem covC_add {l : List Cut} {k : Nat} {c : Cut} (h : l[k]? = some c) : covC (l.take (k + 1)) = covC (l.take k) ++ [⟨c.inn, c.out⟩] := by unfold covC; rw [take_snoc' _ _ _ h, List.map_append]; rfl
theorem pcsC_len (l : List Cut) (s : ByteArray) (k : Nat) : (pcsC (l.take k) s).length ≤ k := by
  have := List.length_filter_le (fun c : Cut => decide (c.reel = s)) (l.take k)
  unfold pcsC; rw [List.length_map]; rw [List.length_take] at this; omega
theorem plC_len (l : List Cut) (s : ByteArray) (k : Nat) : (plC (l.take k) s).length ≤ k := by
  have := List.length_filter_le (fun c : Cut => decide (c.reel = s)) (l.take k)
  unfold plC; rw [List.length_map]; rw [List.length_take] at this; omega
theorem covC_len (l : List Cut) (k : Nat) : (covC (l.take k)).length ≤ k := by unfold covC; rw [List.length_map, List.length_take]; omega
theorem srcAt_bd {c : Cut} (h : c.Sane) {t : Int} (h1 : c.inn ≤ t) (h2 : t < c.out) : 0 ≤ srcAt c t ∧ srcAt c t ≤ 50000000 := by
  obtain ⟨a1, a2, a3, a4, a5, a6, a7, a8, a9⟩ := h
  have hm := mul_bd8 (a := t - c.inn) (n := c.n) (by omega) (by omega) a4 a5
  have hq := div_bd hm.1 hm.2 a6
  unfold srcAt; omega
theorem pl_sane {c : Cut} (h : c.Sane) : 0 ≤ c.pl.inn ∧ c.pl.out ≤ 10378368000 := by
  have h2 := srcAt_bd h (t := c.out - 1) (by have := h.2.1; omega) (by omega)
  exact ⟨h.2.2.2.2.2.2.2.1, by show srcAt c (c.out - 1) + 1 ≤ _; omega⟩
def LPost {α : Type} (f : α → List Value) (size : Nat) (l : List α) (err : Int) (w : World) (en : Ending) (w' : World) : Prop :=
  ∃ A c, en = .returned (.tuple #[.slice A l.length c, .int .i64 err]) ∧ Sl w' size (Cells f) A l.length l ∧ l.length ≤ c ∧ Ext w w' ∧ ∀ ad, A = some ad → w.heap.size ≤ ad.block
def LRel {α : Type} (f : α → List Value) (size : Nat) (T : TypeId) (w1 : World) (n : Nat) (F : Nat → List α) (v i : Value) (wr : World) : Prop :=
  ∃ k : Nat, k ≤ n ∧ i = .int .i64 k ∧ Ext w1 wr ∧ wr.ownsRow w1.heap.size T size v (F k).length ((F k).flatMap f)
/-- 'out = append(out, span)' behind a call, in a drawn region -/
def PyS (cells : Array Value) (base : Nat) (v : Value) (k : Nat) (xs : List Value) (W : World) : List Value → World → Prop
  | [], w' => Ext W w'
  | [_], w' => Ext W w'
  | [_, u1], w' => (∃ g, u1 = .slice (some ⟨g, 0, none⟩) 1 1 ∧ Blk w' g 48 cells) ∧ Ext W w'
  | [_, _, u2], w' => ∃ w5, Ext W w5 ∧ w5.grownBy w' v.ownBlock ∧ w'.ownsRow base 48 2 u2 (k + 1) (xs ++ cells.toList)
  | [_, _, u2, u3], w' => u3 = u2 ∧ ∃ w5, Ext W w5 ∧ w5.grownBy w' v.ownBlock ∧ w'.ownsRow base 48 2 u2 (k + 1) (xs ++ cells.toList)
  | _, _ => False
structure PyJ (r : Int) (cells : Array Value) (base : Nat) (v : Value) (k : Nat) (xs : List Value) (W : World) (us : List Value) (w' : World) : Prop where
  only : Only 48 W w'
  val : ∀ u, us[0]? = some u → u = .int .i64 r
  st : PyS cells base v k xs W us w'
section
variable {r : Int} {cells : Array Value} {base k : Nat} {v : Value} {xs : List Value} {W w' w2 : World} {u0 u1 u2 : Value}
theorem PyJ.start (W : World) : PyJ r cells base v k xs W [] W.drew := ⟨Only.ext (Ext.refl W).drew, fun u h => by simp at h, (Ext.refl W).drew⟩
theorem PyJ.call (h : PyJ r cells base v k xs W [] w') (hx : Ext w' w2) : PyJ r cells base v k xs W ([] ++ [.int .i64 r]) w2 :=
  ⟨h.only.trans (Only.ext hx), fun u hu => by simpa using hu.symm, Ext.trans h.st hx⟩
theorem PyJ.build (h : PyJ r cells base v k xs W [u0] w') : PyJ r cells base v k xs W ([u0] ++ [.slice (some ⟨w'.heap.size, 0, none⟩) 1 1]) (w'.alloc (.cells cells 48)) :=
  ⟨h.only.trans (Only.ext ((Ext.refl w').alloc _)), fun u hu => h.val u (by simpa using hu), ⟨⟨_, rfl, Blk.new w' _ _⟩, Ext.alloc h.st _⟩⟩
theorem PyJ.app (h : PyJ r cells base v k xs W [u0, u1] w') (hv : ∀ q, v.ownBlock = some q → Typed w' 48 q) (hg : w'.grownBy w2 v.ownBlock) (ho : w2.ownsRow base 48 2 u2 (k + 1) (xs ++ cells.toList)) : PyJ r cells base v k xs W ([u0, u1] ++ [u2]) w2 :=
  ⟨h.only.trans (Only.grown hg hv), fun u hu => h.val u (by simpa using hu), ⟨w', h.st.2, hg, ho⟩⟩
theorem PyJ.asg (h : PyJ r cells base v k xs W [u0, u1, u2] w') : PyJ r cells base v k xs W ([u0, u1, u2] ++ [u2]) w' := ⟨h.only, fun u hu => h.val u (by simpa using hu), ⟨rfl, h.st⟩⟩
end
theorem wp_append1p {P : Program} {o : Oper} {a : Act} {w : World} {K : Act → World → Prop} {Q : Exit → Act → World → Prop} (s x : Operand) (t : TypeId)
    (ho : o.op = .call { callee := .builtin .append, args := #[s, x], argTypes := #[t, t] })
    {base : Nat} {e : TypeId} {z : Value} {size bytes : Nat} (inf : (P.info? e).map (fun i => (i.zero, i.size, i.bytes)) = some (some z, size, bytes)) (ht : P.underlying t = some (.slice e)) (hzs : z.cells.size = size) (hsz : 0 < size)
    {v : Value} {n : Nat} {xs : List Value} (hown : w.ownsRow base e size v n xs) (hs : a.eval s = v) (g : Nat) (news : Array Value) (hx : a.eval x = .slice (some ⟨g, 0, none⟩) 1 1) (hB : Blk w g e news) (hl : news.size = size) (h1 : news.all (·.oneCell') = true)
    (hroom : (n + 1) * bytes ≤ 140737488355328) (hmax : n + 1 ≤ maxLen) (hbase : base ≤ w.heap.size)
    (h : ∀ v' w', w'.ownsRow base e size v' (n + 1) (xs ++ news.toList) → w.grownBy w' v.ownBlock → K (a.put o.dst v') w') : o.wp P a w K Q := by
  obtain ⟨i, hi, hz0, hz1, hz2⟩ := info_parts inf
  obtain ⟨v', w', hrun, h2, h3, _, _⟩ := run_append_own_at (P := P) w base t o.type e i z size bytes ht hi hz0 hz1 hz2 hzs hsz v n xs hown ⟨g, 0, none⟩ 1 1 news.toList (by simpa using hl)
    (fun j u hu => by rw [Addr.add_mid, Nat.zero_add, hB.cell]; simpa using hu) (fun u hu => (Array.all_eq_true_iff_forall_mem.1 h1) u (by simpa using hu)) hmax hroom hbase
  unfold Oper.wp execOp
  simp only [ho, resolve, invoke, builtin, Sem.run_bind, Sem.run_pure, Result.andThen_ok, List.map_toArray, List.map_cons, List.map_nil, hs, hx, hrun]
  exact h v' w' h2 h3
end Go.Proofs.YtablhmobekmflaaDoor
