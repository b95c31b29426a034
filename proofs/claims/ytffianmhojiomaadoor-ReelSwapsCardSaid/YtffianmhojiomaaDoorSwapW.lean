/- The walk of reel.Swap. -/
import Derived.Test.YtffianmhojiomaaDoorSwapP
import Derived.Test.YtffianmhojiomaaDoorJoinL
import Derived.Lib.SliceRun
namespace Go.Proofs.YtffianmhojiomaaDoor
set_option linter.unusedVariables false
set_option linter.unusedSimpArgs false
open Go.RowKit

theorem own_put {w : World} {base : Nat} {e : TypeId} {size : Nat} {v : Value} {n : Nat} {xs : List Value} (h : w.ownsRow base e size v n xs) {g : Nat} (hg : g < base) (t : TypeId) (cs : Array Value) : (putB w g t cs).ownsRow base e size v n xs := by
  refine ⟨h.1, ?_⟩
  rcases h.2 with hn | ⟨k, cap, cur, rfl, hb, hk, rest⟩
  · exact .inl hn
  · exact .inr ⟨k, cap, cur, rfl, hb, by unfold putB; simp only; rw [Array.getElem?_setIfInBounds_ne (by omega)]; exact hk, rest⟩
theorem Blk.set_other {w : World} {g : Nat} {t : TypeId} {cs : Array Value} (h : Blk w g t cs) {p : Addr} (hne : p.block ≠ g) (u : Value) : Blk (w.setCell p u) g t cs := by
  unfold Blk World.setCell
  simp only
  rw [Array.getElem?_modify, if_neg hne]
  exact h
theorem flatMap_set {α : Type} (f : α → List Value) (size : Nat) (hf : ∀ x, (f x).length = size) : ∀ (l : List α) (i : Nat) (x x' : α) (j : Nat) (u : Value), l[i]? = some x → j < size → f x' = (f x).set j u → (l.flatMap f).set (i * size + j) u = (l.set i x').flatMap f
  | [], i, x, x', j, u, hx, _, _ => by simp at hx
  | y :: l, 0, x, x', j, u, hx, hj, he => by
    simp at hx
    subst hx
    rw [List.flatMap_cons, Nat.zero_mul, Nat.zero_add, List.set_append_left _ _ (by rw [hf]; exact hj), ← he]
    rfl
  | y :: l, i + 1, x, x', j, u, hx, hj, he => by
    have ih := flatMap_set f size hf l i x x' j u (by simpa using hx) hj he
    rw [List.flatMap_cons, List.set_append_right _ _ (by rw [hf, Nat.succ_mul]; omega), hf, show (i + 1) * size + j - size = i * size + j by rw [Nat.succ_mul]; omega, ih]
    rfl
/-- a row of cuts that the call itself has made, and the blocks that it keeps beside it -/
structure OwJ (w0 : World) (base g cap n : Nat) (bs : List (Nat × TypeId × Array Value)) (ls : List Cut) (w : World) : Prop where
  ext : Ext w0 w
  own : w.ownsRow base 67 7 (.slice (some ⟨g, 0, none⟩) n cap) n (ls.flatMap Cut.vals)
  hg : base ≤ g
  h0 : w0.heap.size ≤ base
  blk : ∀ b ∈ bs, b.1 < base ∧ Blk w b.1 b.2.1 b.2.2
section
variable {w0 w : World} {base g cap n : Nat} {bs : List (Nat × TypeId × Array Value)} {ls : List Cut}
theorem OwJ.drew (h : OwJ w0 base g cap n bs ls w) : OwJ w0 base g cap n bs ls w.drew := ⟨h.ext.drew, own_ext h.own ((Ext.refl w).drew), h.hg, h.h0, fun b hb => ⟨(h.blk b hb).1, (h.blk b hb).2.drew⟩⟩
theorem OwJ.len (h : OwJ w0 base g cap n bs ls w) : ls.length = n := by
  have := h.own.1
  rw [flatMap_len Cut.vals 7 (fun _ => rfl)] at this
  omega
theorem OwJ.sl (h : OwJ w0 base g cap n bs ls w) : CutsAt w (some ⟨g, 0, none⟩) n ls ∧ n ≤ cap := by
  obtain ⟨A, c, he, hc, _, hS, _⟩ := own_sl (f := Cut.vals) (size := 7) (fun _ => rfl) h.len h.own
  injection he with h1 h2 h3
  subst h1 h3
  exact ⟨hS, hc⟩
theorem OwJ.at_ (h : OwJ w0 base g cap n bs ls w) {i j : Nat} {x : Cut} {u : Value} (hx : ls[i]? = some x) (hu : (Cut.vals x)[j]? = some u) : w.cell? ⟨g, i * 7 + j, none⟩ = some u ∧ w.frozen? ⟨g, i * 7 + j, none⟩ = false := by
  refine ⟨?_, World.ownsRow.frozenAt h.own _⟩
  have hi := (List.getElem?_eq_some_iff.1 hx).1
  obtain ⟨b, off, he, hc⟩ := h.sl.1.2 (by rw [h.len] at hi; omega)
  injection he with he
  injection he with h1 h2
  subst h1 h2
  have := hc i x hx j u hu
  simpa using this
theorem OwJ.store (h : OwJ w0 base g cap n bs ls w) {i j : Nat} {x x' : Cut} {u : Value} (hx : ls[i]? = some x) (hv : Cut.vals x' = (Cut.vals x).set j u) (hj : j < 7) : OwJ w0 base g cap n bs (ls.set i x') (w.setCell ⟨g, i * 7 + j, none⟩ u) := by
  obtain ⟨h1, _⟩ := World.ownsRow.stored h.own (i * 7 + j) u
  rw [flatMap_set Cut.vals 7 (fun _ => rfl) ls i x x' j u hx hj hv] at h1
  have := h.hg
  exact ⟨h.ext.setCell (by show _ ≤ g; have := h.h0; omega) u, h1, h.hg, h.h0, fun b hb => ⟨(h.blk b hb).1, (h.blk b hb).2.set_other (by show g ≠ b.1; have := (h.blk b hb).1; omega) u⟩⟩
end
def SwSt (w0 : World) (base g cap n : Nat) (bs : List (Nat × TypeId × Array Value)) (l0 l1 l2 l3 : List Cut) : List Value → World → Prop
  | [], w => OwJ w0 base g cap n bs l0 w
  | [_], w => OwJ w0 base g cap n bs l1 w
  | [_, _], w => OwJ w0 base g cap n bs l2 w
  | [_, _, _], w => OwJ w0 base g cap n bs l3 w
  | _, _ => False
theorem SwSt.keep {w0 w : World} {base g cap n : Nat} {bs : List (Nat × TypeId × Array Value)} {l0 l1 l2 l3 : List Cut} : ∀ {us : List Value}, SwSt w0 base g cap n bs l0 l1 l2 l3 us w → ∀ b ∈ bs, Blk w b.1 b.2.1 b.2.2
  | [], h, b, hb => (OwJ.blk h b hb).2
  | [_], h, b, hb => (OwJ.blk h b hb).2
  | [_, _], h, b, hb => (OwJ.blk h b hb).2
  | [_, _, _], h, b, hb => (OwJ.blk h b hb).2
  | _ :: _ :: _ :: _ :: _, h, _, _ => h.elim
theorem wp_ix_cut0 {o : Oper} {a : Act} {w : World} {K : Act → World → Prop} {Q : Exit → Act → World → Prop} {s s' : Nat} {b n c k : Nat} (ho : o.op = .indexAddr 23 (.tmp s) (.tmp s')) (hx : a.eval (.tmp s) = .slice (some ⟨b, 0, none⟩) n c) (hy : a.eval (.tmp s') = .int .i64 k) (hk : k < n) (h : K (a.put o.dst (.pointer (some ⟨b, k * 7, none⟩))) w) : o.wp Tryd.prog a w K Q := by
  refine wp_ix_cut ho hx hy hk ?_
  rw [Nat.zero_add]
  exact h
def CloneCutsPost (l : List Cut) (n : Nat) (w : World) (e : Ending) (w' : World) : Prop :=
  ∃ g c, e = .returned (.slice (some ⟨g, 0, none⟩) n c) ∧ w'.ownsRow w.heap.size 67 7 (.slice (some ⟨g, 0, none⟩) n c) n (l.flatMap Cut.vals) ∧ w.heap.size ≤ g ∧ Ext w w'
set_option maxHeartbeats 1000000 in
theorem CloneCuts_any (ad : Addr) (n c : Nat) (l : List Cut) (w : World) (hl : CutsAt w (some ad) n l) (hn : n ≤ 1000000) (h0 : 0 < n) :
    Calls Tryd.prog 32 #[.slice (some ad) n c] w (CloneCutsPost l n w) := by
  have hq := fun w => Lib.run_eql_slice_nil (P := Tryd.prog) w 23 67 (some ad) n c 0 0 Tryd.underlying23
  have HL := Lib.hid hl
  clear hl
  simp only [Option.isNone_some] at hq
  go_enter Tryd.func32, Tryd.ntmps32
  go_wp2_with (at_builtin; refine wpList_appendS rfl (.tmp 5) (.tmp 6) 23 rfl info_cut Tryd.underlying23 rfl (by decide) (by exact own_nil0 w _ _ w.heap.size (Nat.le_refl _)) (by exact rfl) (by exact rfl) (by exact Sl.ext (Cells.stays _) HL.out ((Ext.refl w).alloc _)) (fun _ => rfl) (by intro r u hu; simp [Cut.vals] at hu; rcases hu with rfl | rfl | rfl | rfl | rfl | rfl | rfl <;> rfl) (by omega) (by simp [maxLen]; omega) (by simp) ?_; intro v' w' hown hgr hnil)
  go_ret
  simp only [Nat.zero_add, List.nil_append] at hown
  obtain ⟨g, cap, rfl, h1, _⟩ := own_form hown h0
  exact ⟨g, cap, rfl, hown, h1, ((Ext.refl w).alloc _).grown hgr (fun q hq => by simp [Value.ownBlock] at hq; omega)⟩

theorem mem0 {α : Type} {a : α} {l : List α} : a ∈ a :: l := List.mem_cons_self ..
theorem mem1 {α : Type} {a b : α} {l : List α} : b ∈ a :: b :: l := List.mem_cons_of_mem _ mem0
theorem mem2 {α : Type} {a b c : α} {l : List α} : c ∈ a :: b :: c :: l := List.mem_cons_of_mem _ mem1
theorem mem3 {α : Type} {a b c d : α} {l : List α} : d ∈ a :: b :: c :: d :: l := List.mem_cons_of_mem _ mem2
theorem set_at {l : List Cut} {i : Nat} {x y : Cut} (h : l[i]? = some x) : (l.set i y)[i]? = some y := List.getElem?_set_self (List.getElem?_eq_some_iff.1 h).1
theorem set_again {l : List Cut} {i : Nat} (x y : Cut) : (l.set i x).set i y = l.set i y := List.set_set ..

set_option maxRecDepth 100000 in
set_option maxHeartbeats 8000000 in
theorem Swap_good (e : Edl) (A : Option Addr) (n c : Nat) (a b : ByteArray) (w : World) (hE : Env w) (hl : CutsAt w A n e.cuts) (hn : n ≤ 1000000) (hok : EdlOk e) (hpre : swapPre e a b = 0) :
    Calls Tryd.prog 14 #[.agg (e.cells A n c), .string a, .string b] w (EdlPost (swapE e a b) (swapErr e a b) w) := by
  obtain ⟨g1, g2, g3, g4⟩ := pre_good hpre
  obtain ⟨i1, j1, hij, ra, rb, _, hlen⟩ := swap_places hpre
  have HEr := Lib.hid (swapErr_chk hpre)
  have HSL : Hid (swapL e a b = { e with cuts := swapC e.cuts (lastI e.cuts a e.cuts.length) (lastI e.cuts b e.cuts.length) }) := rfl
  have HFt := Lib.hid (swapC_fits hok.fits i1 j1)
  have HCw : Hid (swapC e.cuts (lastI e.cuts a e.cuts.length) (lastI e.cuts b e.cuts.length) = (e.cuts.set (lastI e.cuts a e.cuts.length) ((cutI e.cuts (lastI e.cuts a e.cuts.length)).take3 (cutI e.cuts (lastI e.cuts b e.cuts.length)))).set (lastI e.cuts b e.cuts.length) ((cutI e.cuts (lastI e.cuts b e.cuts.length)).take3 (cutI e.cuts (lastI e.cuts a e.cuts.length)))) := rfl
  rw [hl.len] at g3 g4 i1 j1 hij ra rb hlen HSL HFt HCw
  have HBad := Lib.hid (@swapE_bad e a b)
  have HGood := Lib.hid (@swapE_ok e a b)
  have HL := Lib.hid hl
  have HX := Lib.hid (((Ext.refl w).alloc (.cells (e.cells A n c) 32)).alloc (.cells edlZero 32))
  have HB0 := Lib.hid ((Blk.new w 32 (e.cells A n c)).alloc (.cells edlZero 32))
  have HB1 := Lib.hid (Blk.new' (w := w.alloc (.cells (e.cells A n c) 32)) (g := w.heap.size + 1) (t := 32) (cs := edlZero) (by simp))
  have HCk := Lib.hid (fun w' (hx : Ext w w') => Check_any e A n c w' (hE.ext hx) (hl.ext hx) hn hok.r0 hok.r1 hok.title hok.fits)
  have HC2 := Lib.hid (fun (cs : List Cut) A' n' c' w' (hx : Ext w w') (hl' : CutsAt w' A' n' cs) (hn : n' ≤ 1000000) (hf : ∀ c ∈ cs, c.Fits) => Check_any { e with cuts := cs } A' n' c' w' (hE.ext hx) hl' hn hok.r0 hok.r1 hok.title hf)
  have HOa := Lib.hid (fun w' (hx : Ext w w') => only_any e A n c a w' (hl.ext hx) hn)
  have HOb := Lib.hid (fun w' (hx : Ext w w') => only_any e A n c b w' (hl.ext hx) hn)
  have hsa := edl_sane g1 (List.mem_of_getElem? (cutI_get (by rw [hl.len]; exact i1)))
  have hsb := edl_sane g1 (List.mem_of_getElem? (cutI_get (by rw [hl.len]; exact j1)))
  rw [g3] at HOa
  rw [g4] at HOb
  rw [g1] at HCk
  unfold EdlPost
  clear hok hE hpre g1 g3 g4 hl
  generalize lastI e.cuts a n = ia at *
  generalize lastI e.cuts b n = ib at *
  have hab' : (a.toList == b.toList) = false := by rw [bs_eq]; simpa using g2
  clear g2
  obtain ⟨bk, off, rfl, hra, hka⟩ := HL.out.at_cut i1
  obtain ⟨bk', off', hA', hrb, hkb⟩ := HL.out.at_cut j1
  cases hA'
  have HRra := Lib.hid hra
  have HRrb := Lib.hid hrb
  have HKa := Lib.hid hka
  have HKb := Lib.hid hkb
  clear hra hrb hka hkb
  generalize cutI e.cuts ia = xa at *
  generalize cutI e.cuts ib = xb at *
  obtain ⟨num, rl, src, inn, out, nn, dd⟩ := xa
  obtain ⟨num', rl', src', inn', out', nn', dd'⟩ := xb
  obtain ⟨sa1, sa2, sa3, sa4, sa5, sa6, sa7, sa8, sa9⟩ := hsa
  obtain ⟨sb1, sb2, sb3, sb4, sb5, sb6, sb7, sb8, sb9⟩ := hsb
  dsimp only at *
  clear ra rb
  unfold Edl.cells edlZero at *
  go_enter Tryd.func14, Tryd.ntmps14
  go_wp2_with (refine wpList_loadB rfl 32 (.tmp 3) rfl w.heap.size 32 _ _ (by exact rfl) (by exact HB0.out) Tryd.underlying32 rfl (by exact size_list) ?_)
  refine (HCk.out _ HX.out).mono ?_
  rintro en w1 ⟨rfl, hx1⟩
  have HX1 := Lib.hid (HX.out.trans hx1)
  have HBl := Lib.hid (HB0.out.ext hx1)
  have HBr := Lib.hid (HB1.out.ext hx1)
  clear hx1 HB0 HB1 HX
  go_wp2_with (refine wpList_loadB rfl 32 (.tmp 3) rfl w.heap.size 32 _ _ (by exact rfl) (by exact HBl.out) Tryd.underlying32 rfl (by exact size_list) ?_)
  refine (HOa.out _ HX1.out).mono ?_
  rintro en w2 ⟨rfl, hx2⟩
  have HX2 := Lib.hid (HX1.out.trans hx2)
  have HBl2 := Lib.hid (HBl.out.ext hx2)
  have HBr2 := Lib.hid (HBr.out.ext hx2)
  clear hx2 HX1 HBl HBr
  go_wp2_with (refine wpList_loadB rfl 32 (.tmp 3) rfl w.heap.size 32 _ _ (by exact rfl) (by exact HBl2.out) Tryd.underlying32 rfl (by exact size_list) ?_)
  refine (HOb.out _ HX2.out).mono ?_
  rintro en w3 ⟨rfl, hx3⟩
  have HX3 := Lib.hid (HX2.out.trans hx3)
  have HBl3 := Lib.hid (HBl2.out.ext hx3)
  have HBr3 := Lib.hid (HBr2.out.ext hx3)
  clear hx3 HX2 HBl2 HBr2 HOa HOb HCk
  have hcl := fun o => HBl3.out.cell o
  obtain ⟨k0, k1, k2, k3, k4, k5, k6⟩ := HKa.out
  obtain ⟨m0, m1, m2, m3, m4, m5, m6⟩ := HKb.out
  have c0 := HX3.out.cell k0
  have c1 := HX3.out.cell k1
  have c2 := HX3.out.cell k2
  have c3 := HX3.out.cell k3
  have c4 := HX3.out.cell k4
  have c5 := HX3.out.cell k5
  have c6 := HX3.out.cell k6
  have d0 := HX3.out.cell m0
  have d1 := HX3.out.cell m1
  have d2 := HX3.out.cell m2
  have d3 := HX3.out.cell m3
  have d4 := HX3.out.cell m4
  have d5 := HX3.out.cell m5
  have d6 := HX3.out.cell m6
  clear k0 k1 k2 k3 k4 k5 k6 m0 m1 m2 m3 m4 m5 m6 HKa HKb
  have hia := i1
  have hib := j1
  go_wp2_with fail
  refine wp_region_allocs [some 55, some 56, some 57, some 58, some 59, some 60, some 61, some 62, some 63, some 64, some 13, some 14, none, none] [[], [0], [], [1, 2], [3], [], [5], [], [6, 7], [8], [], [], [10, 4, 0, 1, 2, 3, 4, 10, 11], [11, 9, 12, 0, 1, 2, 3, 4, 5, 6, 7, 8, 9, 10, 11, 12]] [12, 13] [10, 11] [.pointer (some ⟨w.heap.size, 3, none⟩), .slice (some ⟨bk, off, none⟩) n c, .int .i64 ia, .pointer (some ⟨bk, off + ia * 7, none⟩), .agg #[.int .i64 num, .string rl, .int .i64 src, .int .i64 inn, .int .i64 out, .int .i64 nn, .int .i64 dd], .pointer (some ⟨w.heap.size, 3, none⟩), .slice (some ⟨bk, off, none⟩) n c, .int .i64 ib, .pointer (some ⟨bk, off + ib * 7, none⟩), .agg #[.int .i64 num', .string rl', .int .i64 src', .int .i64 inn', .int .i64 out', .int .i64 nn', .int .i64 dd'], undef, undef, undef, undef] (fun _ => .cells #[.int .i64 0, .string ⟨#[]⟩, .int .i64 0, .int .i64 0, .int .i64 0, .int .i64 0, .int .i64 0] 67) (TwoJ 67 10 11 7 #[.int .i64 num, .string rl, .int .i64 src, .int .i64 inn, .int .i64 out, .int .i64 nn, .int .i64 dd] #[.int .i64 num', .string rl', .int .i64 src', .int .i64 inn', .int .i64 out', .int .i64 nn', .int .i64 dd'] w3) (by kernel_rfl) (by kernel_rfl) (by kernel_rfl) (by kernel_rfl) (by kernel_rfl) (by kernel_rfl) (by kernel_rfl) (by decide) (by kernel_rfl) ?_ ?_ ?_ ?_ ?_ ?_
  · exact twoJ_start w3
  · clear hcl
    intro i o ho ha a w' K' hk
    match i, ho with
    | 0, ho => simp at ha
    | 1, ho => simp at ha
    | 2, ho => simp at ha
    | 3, ho => simp at ha
    | 4, ho => simp at ha
    | 5, ho => simp at ha
    | 6, ho => simp at ha
    | 7, ho => simp at ha
    | 8, ho => simp at ha
    | 9, ho => simp at ha
    | 10, ho =>
      simp only [List.getElem?_toArray, List.getElem?_cons_zero, List.getElem?_cons_succ, Option.some.injEq] at ho
      subst ho
      exact wp_alloc_cut rfl hk
    | 11, ho =>
      simp only [List.getElem?_toArray, List.getElem?_cons_zero, List.getElem?_cons_succ, Option.some.injEq] at ho
      subst ho
      exact wp_alloc_cut rfl hk
    | 12, ho => simp at ha
    | 13, ho => simp at ha
    | i + 14, ho => simp at ho
  · clear hcl
    intro i ha us gs w' hJ hn hlim
    match i, ha with
    | 0, ha => simp at ha
    | 1, ha => simp at ha
    | 2, ha => simp at ha
    | 3, ha => simp at ha
    | 4, ha => simp at ha
    | 5, ha => simp at ha
    | 6, ha => simp at ha
    | 7, ha => simp at ha
    | 8, ha => simp at ha
    | 9, ha => simp at ha
    | 10, ha => exact twoJ_p hJ (by decide) rfl (hlim 0 12 rfl rfl)
    | 11, ha => exact twoJ_q hJ (by decide) rfl (by have := hlim 0 12 rfl rfl; omega)
    | 12, ha => simp at ha
    | 13, ha => simp at ha
    | i + 14, ha => simp at ha
  · clear hcl
    intro i o ho hc ha a w' us gs K' hJ hF hlim hk
    match i, ho with
    | 0, ho =>
      simp only [List.getElem?_toArray, List.getElem?_cons_zero, List.getElem?_cons_succ, Option.some.injEq] at ho
      subst ho
      have e3 := hF.old 3 (.pointer (some ⟨w.heap.size, 0, none⟩)) rfl rfl
      simp only [Act.eval] at e3
      clear hF hlim hJ
      go_simp
      exact hk
    | 1, ho =>
      simp only [List.getElem?_toArray, List.getElem?_cons_zero, List.getElem?_cons_succ, Option.some.injEq] at ho
      subst ho
      have e55 := hF.pure 0 55 (.pointer (some ⟨w.heap.size, 3, none⟩)) rfl rfl rfl rfl rfl
      have hcl : w'.cell? ⟨w.heap.size, 3, none⟩ = some (.slice (some ⟨bk, off, none⟩) n c) := (HBl3.out.ext hJ.ext).cell 3
      simp only [Act.eval] at e55
      clear hF hlim hJ
      go_simp
      exact hk
    | 2, ho =>
      simp only [List.getElem?_toArray, List.getElem?_cons_zero, List.getElem?_cons_succ, Option.some.injEq] at ho
      subst ho
      have e9 := hF.old 9 (.int .i64 ia) rfl rfl
      simp only [Act.eval] at e9
      clear hF hlim hJ
      go_simp
      exact hk
    | 3, ho =>
      simp only [List.getElem?_toArray, List.getElem?_cons_zero, List.getElem?_cons_succ, Option.some.injEq] at ho
      subst ho
      have e56 := hF.pure 1 56 (.slice (some ⟨bk, off, none⟩) n c) rfl rfl rfl rfl rfl
      have e57 := hF.pure 2 57 (.int .i64 ia) rfl rfl rfl rfl rfl
      have hix : ia < n := hia
      have hix2 : ¬ n ≤ ia := by omega
      simp only [Act.eval] at e56 e57
      clear hF hlim hJ
      go_simp
      exact hk
    | 4, ho =>
      simp only [List.getElem?_toArray, List.getElem?_cons_zero, List.getElem?_cons_succ, Option.some.injEq] at ho
      subst ho
      have e58 := hF.pure 3 58 (.pointer (some ⟨bk, off + ia * 7, none⟩)) rfl rfl rfl rfl rfl
      have h0 := hJ.ext.cell c0
      have h1 := hJ.ext.cell c1
      have h2 := hJ.ext.cell c2
      have h3 := hJ.ext.cell c3
      have h4 := hJ.ext.cell c4
      have h5 := hJ.ext.cell c5
      have h6 := hJ.ext.cell c6
      clear c0 c1 c2 c3 c4 c5 c6 d0 d1 d2 d3 d4 d5 d6
      simp only [Act.eval] at e58
      clear hF hlim hJ
      go_simp
      exact hk
    | 5, ho =>
      simp only [List.getElem?_toArray, List.getElem?_cons_zero, List.getElem?_cons_succ, Option.some.injEq] at ho
      subst ho
      have e3 := hF.old 3 (.pointer (some ⟨w.heap.size, 0, none⟩)) rfl rfl
      simp only [Act.eval] at e3
      clear hF hlim hJ
      go_simp
      exact hk
    | 6, ho =>
      simp only [List.getElem?_toArray, List.getElem?_cons_zero, List.getElem?_cons_succ, Option.some.injEq] at ho
      subst ho
      have e60 := hF.pure 5 60 (.pointer (some ⟨w.heap.size, 3, none⟩)) rfl rfl rfl rfl rfl
      have hcl : w'.cell? ⟨w.heap.size, 3, none⟩ = some (.slice (some ⟨bk, off, none⟩) n c) := (HBl3.out.ext hJ.ext).cell 3
      simp only [Act.eval] at e60
      clear hF hlim hJ
      go_simp
      exact hk
    | 7, ho =>
      simp only [List.getElem?_toArray, List.getElem?_cons_zero, List.getElem?_cons_succ, Option.some.injEq] at ho
      subst ho
      have e11 := hF.old 11 (.int .i64 ib) rfl rfl
      simp only [Act.eval] at e11
      clear hF hlim hJ
      go_simp
      exact hk
    | 8, ho =>
      simp only [List.getElem?_toArray, List.getElem?_cons_zero, List.getElem?_cons_succ, Option.some.injEq] at ho
      subst ho
      have e61 := hF.pure 6 61 (.slice (some ⟨bk, off, none⟩) n c) rfl rfl rfl rfl rfl
      have e62 := hF.pure 7 62 (.int .i64 ib) rfl rfl rfl rfl rfl
      have hix : ib < n := hib
      have hix2 : ¬ n ≤ ib := by omega
      simp only [Act.eval] at e61 e62
      clear hF hlim hJ
      go_simp
      exact hk
    | 9, ho =>
      simp only [List.getElem?_toArray, List.getElem?_cons_zero, List.getElem?_cons_succ, Option.some.injEq] at ho
      subst ho
      have e63 := hF.pure 8 63 (.pointer (some ⟨bk, off + ib * 7, none⟩)) rfl rfl rfl rfl rfl
      have h0 := hJ.ext.cell d0
      have h1 := hJ.ext.cell d1
      have h2 := hJ.ext.cell d2
      have h3 := hJ.ext.cell d3
      have h4 := hJ.ext.cell d4
      have h5 := hJ.ext.cell d5
      have h6 := hJ.ext.cell d6
      clear c0 c1 c2 c3 c4 c5 c6 d0 d1 d2 d3 d4 d5 d6
      simp only [Act.eval] at e63
      clear hF hlim hJ
      go_simp
      exact hk
    | 10, ho => simp at ha
    | 11, ho => simp at ha
    | 12, ho => simp at hc
    | 13, ho => simp at hc
    | i + 14, ho => simp at ho
  · clear hcl
    intro p c' o hp ho a w' us gs K' hl hJ hF hk
    match p, hp with
    | 0, hp =>
      obtain rfl : 12 = c' := by simpa using hp
      simp only [List.getElem?_toArray, List.getElem?_cons_zero, List.getElem?_cons_succ, Option.some.injEq] at ho
      subst ho
      obtain rfl : us = [] := List.eq_nil_of_length_eq_zero hl
      obtain ⟨g13, hg13, e13⟩ := hF.ptr 10 13 rfl rfl rfl rfl
      have e59 := hF.pure 4 59 (.agg #[.int .i64 num, .string rl, .int .i64 src, .int .i64 inn, .int .i64 out, .int .i64 nn, .int .i64 dd]) rfl rfl rfl rfl rfl
      obtain ⟨_, cs, hcs, hB, _⟩ := hJ.va g13 hg13
      exact wp_storeB 67 (.tmp 13) (.tmp 59) rfl g13 67 _ _ e13 e59 (by exact size_cut) (by simp [Value.oneCell']) hB hcs (hk undef _ (twoJ_a hJ hg13 rfl hB))
    | 1, hp =>
      obtain rfl : 13 = c' := by simpa using hp
      simp only [List.getElem?_toArray, List.getElem?_cons_zero, List.getElem?_cons_succ, Option.some.injEq] at ho
      subst ho
      obtain ⟨u0, rfl⟩ := list_1 hl
      obtain ⟨g14, hg14, e14⟩ := hF.ptr 11 14 rfl rfl rfl rfl
      have e64 := hF.pure 9 64 (.agg #[.int .i64 num', .string rl', .int .i64 src', .int .i64 inn', .int .i64 out', .int .i64 nn', .int .i64 dd']) rfl rfl rfl rfl rfl
      obtain ⟨_, cs, hcs, hB, _⟩ := hJ.vb g14 hg14
      exact wp_storeB 67 (.tmp 14) (.tmp 64) rfl g14 67 _ _ e14 e64 (by exact size_cut) (by simp [Value.oneCell']) hB hcs (hk undef _ (twoJ_b hJ hg14 rfl hB))
    | p + 2, hp => simp at hp
  intro us gs w4 hl hgs hJ
  rename_i hK
  obtain ⟨u0, u1, rfl⟩ := list_2 hl
  obtain ⟨ga, gb, hga, hgb, hga1, hgb1, hgne, hBa, hBb⟩ := hJ.end_ (fun j hj => hgs j (by rcases hj with rfl | rfl <;> rfl))
  refine hK _ _ ?_
  clear hK
  generalize hL : frameA _ _ _ _ _ _ = L
  obtain rfl : L = [(55, .pointer (some ⟨w.heap.size, 3, none⟩)), (56, .slice (some ⟨bk, off, none⟩) n c), (57, .int .i64 ia), (58, .pointer (some ⟨bk, off + ia * 7, none⟩)), (59, .agg #[.int .i64 num, .string rl, .int .i64 src, .int .i64 inn, .int .i64 out, .int .i64 nn, .int .i64 dd]), (60, .pointer (some ⟨w.heap.size, 3, none⟩)), (61, .slice (some ⟨bk, off, none⟩) n c), (62, .int .i64 ib), (63, .pointer (some ⟨bk, off + ib * 7, none⟩)), (64, .agg #[.int .i64 num', .string rl', .int .i64 src', .int .i64 inn', .int .i64 out', .int .i64 nn', .int .i64 dd']), (13, .pointer ((gs 10).map fun g => ⟨g, 0, none⟩)), (14, .pointer ((gs 11).map fun g => ⟨g, 0, none⟩))] := hL.symm.trans (by kernel_rfl)
  rw [hga, hgb]
  clear hL hl hgs
  simp only [Act.put, Option.map_some, List.foldl_cons, List.foldl_nil, List.setIfInBounds_toArray, List.set_cons_zero, List.set_cons_succ]
  have HX4 := Lib.hid (HX3.out.trans hJ.ext)
  have HBl4 := Lib.hid (HBl3.out.ext hJ.ext)
  have HBr4 := Lib.hid (HBr3.out.ext hJ.ext)
  have HBa := Lib.hid hBa
  have HBb := Lib.hid hBb
  have hgl : w.heap.size + 1 < ga := by have := HBr3.out.lt; omega
  have hgl' : w.heap.size + 1 < gb := by have := HBr3.out.lt; omega
  clear hJ hBa hBb hga hgb hcl HBl3 HBr3 HX3 hga1 hgb1 c0 c1 c2 c3 c4 c5 c6 d0 d1 d2 d3 d4 d5 d6
  have hca4 := fun o => HBa.out.cell o
  have hcb4 := fun o => HBb.out.cell o
  have hcl4 := fun o => HBl4.out.cell o
  have hlen' : (out - inn != out' - inn') = false := by simpa using hlen
  go_wp2_with fail
  have hpos : 0 < n := by omega
  refine (CloneCuts_any ⟨bk, off, none⟩ n c e.cuts w4 (HL.out.ext HX4.out) hn hpos).mono ?_
  rintro en w5 ⟨g, cap, rfl, hown, hg4, hx5⟩
  have hla := HBa.out.lt
  have hlb := HBb.out.lt
  have HX5 := Lib.hid (HX4.out.trans hx5)
  have HBl5 := Lib.hid (HBl4.out.ext hx5)
  have HBr5 := Lib.hid (HBr4.out.ext hx5)
  have HBa5 := Lib.hid (HBa.out.ext hx5)
  have HBb5 := Lib.hid (HBb.out.ext hx5)
  have hcl5 := fun o => HBl5.out.cell o
  have hfl5 := fun o => HBl5.out.frozen o
  have hset := setCell_put HBl5.out 3 (.slice (some ⟨g, 0, none⟩) n cap)
  have HJ0 : Hid (OwJ w w4.heap.size g cap n [(w.heap.size, 32, #[.string e.title, .int .u8 e.rate, .bool e.drop, .slice (some ⟨g, 0, none⟩) n cap]), (w.heap.size + 1, 32, #[.string ⟨#[]⟩, .int .u8 0, .bool false, .slice none 0 0]), (ga, 67, #[.int .i64 num, .string rl, .int .i64 src, .int .i64 inn, .int .i64 out, .int .i64 nn, .int .i64 dd]), (gb, 67, #[.int .i64 num', .string rl', .int .i64 src', .int .i64 inn', .int .i64 out', .int .i64 nn', .int .i64 dd'])] e.cuts (w5.setCell ⟨w.heap.size, 3, none⟩ (.slice (some ⟨g, 0, none⟩) n cap))) := by
    show OwJ ..
    rw [hset]
    refine ⟨HX5.out.put (Nat.le_refl _) _ _, own_put hown (by omega) _ _, hg4, by omega, fun b hb => ?_⟩
    simp only [List.mem_cons, List.not_mem_nil, or_false] at hb
    rcases hb with rfl | rfl | rfl | rfl
    · exact ⟨by dsimp only; omega, HBl5.out.put _⟩
    · exact ⟨by dsimp only; omega, HBr5.out.put_other (by omega) _⟩
    · exact ⟨hla, HBa5.out.put_other (by omega) _⟩
    · exact ⟨hlb, HBb5.out.put_other (by omega) _⟩
  clear hown hx5 hset HBl4 HBr4 HBa HBb hca4 hcb4 hcl4 HBl5 HBr5 HBa5 HBb5 HX4 HX5
  go_wp2_with fail
  generalize w5.setCell ⟨w.heap.size, 3, none⟩ (.slice (some ⟨g, 0, none⟩) n cap) = w6 at *
  clear hcl5 hfl5
  generalize w4.heap.size = base at *
  have HI0 := HRra
  go_wp2_with fail
  refine wp_region_links [some 85, some 86, some 87, some 88, some 89, some 90, some 91, some 92, some 93, some 94, some 95, some 96, some 97, some 98, some 99, some 100, some 101, none, some 102, some 103, none, some 104, some 105, none] [[], [0], [], [], [3], [], [], [6], [], [], [9], [], [11], [], [13], [1, 2, 0, 1, 2, 9, 10], [15, 0, 1, 2, 9, 10], [16, 10, 0, 1, 2, 9, 10], [4, 5, 0, 1, 2, 3, 4, 5, 9, 10, 11, 12, 15, 16, 17], [18, 0, 1, 2, 3, 4, 5, 9, 10, 11, 12, 15, 16, 17], [19, 12, 17, 0, 1, 2, 3, 4, 5, 9, 10, 11, 12, 15, 16, 17], [7, 8, 0, 1, 2, 3, 4, 5, 6, 7, 8, 9, 10, 11, 12, 13, 14, 15, 16, 17, 18, 19, 20], [21, 0, 1, 2, 3, 4, 5, 6, 7, 8, 9, 10, 11, 12, 13, 14, 15, 16, 17, 18, 19, 20], [22, 14, 20, 0, 1, 2, 3, 4, 5, 6, 7, 8, 9, 10, 11, 12, 13, 14, 15, 16, 17, 18, 19, 20]] [17, 20, 23] [.pointer (some ⟨w.heap.size, 3, none⟩), .slice (some ⟨g, 0, none⟩) n cap, .int .i64 ia, .pointer (some ⟨w.heap.size, 3, none⟩), .slice (some ⟨g, 0, none⟩) n cap, .int .i64 ia, .pointer (some ⟨w.heap.size, 3, none⟩), .slice (some ⟨g, 0, none⟩) n cap, .int .i64 ia, .pointer (some ⟨gb, 1, none⟩), .string rl', .pointer (some ⟨gb, 2, none⟩), .int .i64 src', .pointer (some ⟨gb, 5, none⟩), .agg #[.int .i64 nn', .int .i64 dd'], .pointer (some ⟨g, ia * 7, none⟩), .pointer (some ⟨g, ia * 7 + 1, none⟩), undef, .pointer (some ⟨g, ia * 7, none⟩), .pointer (some ⟨g, ia * 7 + 2, none⟩), undef, .pointer (some ⟨g, ia * 7, none⟩), .pointer (some ⟨g, ia * 7 + 5, none⟩), undef] (SwSt w base g cap n [(w.heap.size, 32, #[.string e.title, .int .u8 e.rate, .bool e.drop, .slice (some ⟨g, 0, none⟩) n cap]), (w.heap.size + 1, 32, #[.string ⟨#[]⟩, .int .u8 0, .bool false, .slice none 0 0]), (ga, 67, #[.int .i64 num, .string rl, .int .i64 src, .int .i64 inn, .int .i64 out, .int .i64 nn, .int .i64 dd]), (gb, 67, #[.int .i64 num', .string rl', .int .i64 src', .int .i64 inn', .int .i64 out', .int .i64 nn', .int .i64 dd'])] e.cuts (e.cuts.set ia (⟨num, rl', src, inn, out, nn, dd⟩ : Cut)) (e.cuts.set ia (⟨num, rl', src', inn, out, nn, dd⟩ : Cut)) (e.cuts.set ia (⟨num, rl', src', inn, out, nn', dd'⟩ : Cut))) (by kernel_rfl) (by kernel_rfl) (by kernel_rfl) (by kernel_rfl) (by kernel_rfl) (by kernel_rfl) (by kernel_rfl) (by decide) ?_ ?_ ?_ ?_
  · exact HJ0.out.drew
  · intro i o ho hc a w' us K' hJ hF hlim hk
    match i, ho with
    | 0, ho =>
      simp only [List.getElem?_toArray, List.getElem?_cons_zero, List.getElem?_cons_succ, Option.some.injEq] at ho
      subst ho
      have e3 := hF.old 3 (.pointer (some ⟨w.heap.size, 0, none⟩)) rfl rfl
      simp only [Act.eval] at e3
      clear hF hlim hJ
      go_simp
      exact hk
    | 1, ho =>
      simp only [List.getElem?_toArray, List.getElem?_cons_zero, List.getElem?_cons_succ, Option.some.injEq] at ho
      subst ho
      have e85 := hF.pure 0 85 (.pointer (some ⟨w.heap.size, 3, none⟩)) rfl rfl rfl rfl
      have hcl : w'.cell? ⟨w.heap.size, 3, none⟩ = some (.slice (some ⟨g, 0, none⟩) n cap) := (hJ.keep _ mem0).cell 3
      simp only [Act.eval] at e85
      clear hF hlim hJ
      go_simp
      exact hk
    | 2, ho =>
      simp only [List.getElem?_toArray, List.getElem?_cons_zero, List.getElem?_cons_succ, Option.some.injEq] at ho
      subst ho
      have e9 := hF.old 9 (.int .i64 ia) rfl rfl
      simp only [Act.eval] at e9
      clear hF hlim hJ
      go_simp
      exact hk
    | 3, ho =>
      simp only [List.getElem?_toArray, List.getElem?_cons_zero, List.getElem?_cons_succ, Option.some.injEq] at ho
      subst ho
      have e3 := hF.old 3 (.pointer (some ⟨w.heap.size, 0, none⟩)) rfl rfl
      simp only [Act.eval] at e3
      clear hF hlim hJ
      go_simp
      exact hk
    | 4, ho =>
      simp only [List.getElem?_toArray, List.getElem?_cons_zero, List.getElem?_cons_succ, Option.some.injEq] at ho
      subst ho
      have e88 := hF.pure 3 88 (.pointer (some ⟨w.heap.size, 3, none⟩)) rfl rfl rfl rfl
      have hcl : w'.cell? ⟨w.heap.size, 3, none⟩ = some (.slice (some ⟨g, 0, none⟩) n cap) := (hJ.keep _ mem0).cell 3
      simp only [Act.eval] at e88
      clear hF hlim hJ
      go_simp
      exact hk
    | 5, ho =>
      simp only [List.getElem?_toArray, List.getElem?_cons_zero, List.getElem?_cons_succ, Option.some.injEq] at ho
      subst ho
      have e9 := hF.old 9 (.int .i64 ia) rfl rfl
      simp only [Act.eval] at e9
      clear hF hlim hJ
      go_simp
      exact hk
    | 6, ho =>
      simp only [List.getElem?_toArray, List.getElem?_cons_zero, List.getElem?_cons_succ, Option.some.injEq] at ho
      subst ho
      have e3 := hF.old 3 (.pointer (some ⟨w.heap.size, 0, none⟩)) rfl rfl
      simp only [Act.eval] at e3
      clear hF hlim hJ
      go_simp
      exact hk
    | 7, ho =>
      simp only [List.getElem?_toArray, List.getElem?_cons_zero, List.getElem?_cons_succ, Option.some.injEq] at ho
      subst ho
      have e91 := hF.pure 6 91 (.pointer (some ⟨w.heap.size, 3, none⟩)) rfl rfl rfl rfl
      have hcl : w'.cell? ⟨w.heap.size, 3, none⟩ = some (.slice (some ⟨g, 0, none⟩) n cap) := (hJ.keep _ mem0).cell 3
      simp only [Act.eval] at e91
      clear hF hlim hJ
      go_simp
      exact hk
    | 8, ho =>
      simp only [List.getElem?_toArray, List.getElem?_cons_zero, List.getElem?_cons_succ, Option.some.injEq] at ho
      subst ho
      have e9 := hF.old 9 (.int .i64 ia) rfl rfl
      simp only [Act.eval] at e9
      clear hF hlim hJ
      go_simp
      exact hk
    | 9, ho =>
      simp only [List.getElem?_toArray, List.getElem?_cons_zero, List.getElem?_cons_succ, Option.some.injEq] at ho
      subst ho
      have e14 := hF.old 14 (.pointer (some ⟨gb, 0, none⟩)) rfl rfl
      simp only [Act.eval] at e14
      clear hF hlim hJ
      go_simp
      exact hk
    | 10, ho =>
      simp only [List.getElem?_toArray, List.getElem?_cons_zero, List.getElem?_cons_succ, Option.some.injEq] at ho
      subst ho
      have e94 := hF.pure 9 94 (.pointer (some ⟨gb, 1, none⟩)) rfl rfl rfl rfl
      have hcl : w'.cell? ⟨gb, 1, none⟩ = some (.string rl') := (hJ.keep _ mem3).cell 1
      simp only [Act.eval] at e94
      clear hF hlim hJ
      go_simp
      exact hk
    | 11, ho =>
      simp only [List.getElem?_toArray, List.getElem?_cons_zero, List.getElem?_cons_succ, Option.some.injEq] at ho
      subst ho
      have e14 := hF.old 14 (.pointer (some ⟨gb, 0, none⟩)) rfl rfl
      simp only [Act.eval] at e14
      clear hF hlim hJ
      go_simp
      exact hk
    | 12, ho =>
      simp only [List.getElem?_toArray, List.getElem?_cons_zero, List.getElem?_cons_succ, Option.some.injEq] at ho
      subst ho
      have e96 := hF.pure 11 96 (.pointer (some ⟨gb, 2, none⟩)) rfl rfl rfl rfl
      have hcl : w'.cell? ⟨gb, 2, none⟩ = some (.int .i64 src') := (hJ.keep _ mem3).cell 2
      simp only [Act.eval] at e96
      clear hF hlim hJ
      go_simp
      exact hk
    | 13, ho =>
      simp only [List.getElem?_toArray, List.getElem?_cons_zero, List.getElem?_cons_succ, Option.some.injEq] at ho
      subst ho
      have e14 := hF.old 14 (.pointer (some ⟨gb, 0, none⟩)) rfl rfl
      simp only [Act.eval] at e14
      clear hF hlim hJ
      go_simp
      exact hk
    | 14, ho =>
      simp only [List.getElem?_toArray, List.getElem?_cons_zero, List.getElem?_cons_succ, Option.some.injEq] at ho
      subst ho
      have e98 := hF.pure 13 98 (.pointer (some ⟨gb, 5, none⟩)) rfl rfl rfl rfl
      have hcl : w'.cell? ⟨gb, 5, none⟩ = some (.int .i64 nn') := (hJ.keep _ mem3).cell 5
      have hcl2 : w'.cell? ⟨gb, 6, none⟩ = some (.int .i64 dd') := (hJ.keep _ mem3).cell 6
      simp only [Act.eval] at e98
      clear hF hlim hJ
      go_simp
      exact hk
    | 15, ho =>
      simp only [List.getElem?_toArray, List.getElem?_cons_zero, List.getElem?_cons_succ, Option.some.injEq] at ho
      subst ho
      have e86 := hF.pure 1 86 (.slice (some ⟨g, 0, none⟩) n cap) rfl rfl rfl rfl
      have e87 := hF.pure 2 87 (.int .i64 ia) rfl rfl rfl rfl
      exact wp_ix_cut0 rfl e86 e87 i1 hk
    | 16, ho =>
      simp only [List.getElem?_toArray, List.getElem?_cons_zero, List.getElem?_cons_succ, Option.some.injEq] at ho
      subst ho
      have e100 := hF.pure 15 100 (.pointer (some ⟨g, ia * 7, none⟩)) rfl rfl rfl rfl
      simp only [Act.eval] at e100
      clear hF hlim hJ
      go_simp
      exact hk
    | 17, ho => simp at hc
    | 18, ho =>
      simp only [List.getElem?_toArray, List.getElem?_cons_zero, List.getElem?_cons_succ, Option.some.injEq] at ho
      subst ho
      have e89 := hF.pure 4 89 (.slice (some ⟨g, 0, none⟩) n cap) rfl rfl rfl rfl
      have e90 := hF.pure 5 90 (.int .i64 ia) rfl rfl rfl rfl
      exact wp_ix_cut0 rfl e89 e90 i1 hk
    | 19, ho =>
      simp only [List.getElem?_toArray, List.getElem?_cons_zero, List.getElem?_cons_succ, Option.some.injEq] at ho
      subst ho
      have e102 := hF.pure 18 102 (.pointer (some ⟨g, ia * 7, none⟩)) rfl rfl rfl rfl
      simp only [Act.eval] at e102
      clear hF hlim hJ
      go_simp
      exact hk
    | 20, ho => simp at hc
    | 21, ho =>
      simp only [List.getElem?_toArray, List.getElem?_cons_zero, List.getElem?_cons_succ, Option.some.injEq] at ho
      subst ho
      have e92 := hF.pure 7 92 (.slice (some ⟨g, 0, none⟩) n cap) rfl rfl rfl rfl
      have e93 := hF.pure 8 93 (.int .i64 ia) rfl rfl rfl rfl
      exact wp_ix_cut0 rfl e92 e93 i1 hk
    | 22, ho =>
      simp only [List.getElem?_toArray, List.getElem?_cons_zero, List.getElem?_cons_succ, Option.some.injEq] at ho
      subst ho
      have e104 := hF.pure 21 104 (.pointer (some ⟨g, ia * 7, none⟩)) rfl rfl rfl rfl
      simp only [Act.eval] at e104
      clear hF hlim hJ
      go_simp
      exact hk
    | 23, ho => simp at hc
    | i + 24, ho => simp at ho
  · intro p c' o hp ho a w' us K' hl hJ hF hk
    match p, hp with
    | 0, hp =>
      obtain rfl : 17 = c' := by simpa using hp
      simp only [List.getElem?_toArray, List.getElem?_cons_zero, List.getElem?_cons_succ, Option.some.injEq] at ho
      subst ho
      obtain rfl : us = [] := List.eq_nil_of_length_eq_zero hl
      have e101 := hF.pure 16 101 (.pointer (some ⟨g, ia * 7 + 1, none⟩)) rfl rfl rfl rfl
      have e95 := hF.pure 10 95 (.string rl') rfl rfl rfl rfl
      have hJ : OwJ w base g cap n [(w.heap.size, 32, #[.string e.title, .int .u8 e.rate, .bool e.drop, .slice (some ⟨g, 0, none⟩) n cap]), (w.heap.size + 1, 32, #[.string ⟨#[]⟩, .int .u8 0, .bool false, .slice none 0 0]), (ga, 67, #[.int .i64 num, .string rl, .int .i64 src, .int .i64 inn, .int .i64 out, .int .i64 nn, .int .i64 dd]), (gb, 67, #[.int .i64 num', .string rl', .int .i64 src', .int .i64 inn', .int .i64 out', .int .i64 nn', .int .i64 dd'])] e.cuts w' := hJ
      obtain ⟨hc1, hf1⟩ := hJ.at_ (j := 1) HI0.out rfl
      have HK := Lib.hid (hk undef _ (show OwJ w base g cap n [(w.heap.size, 32, #[.string e.title, .int .u8 e.rate, .bool e.drop, .slice (some ⟨g, 0, none⟩) n cap]), (w.heap.size + 1, 32, #[.string ⟨#[]⟩, .int .u8 0, .bool false, .slice none 0 0]), (ga, 67, #[.int .i64 num, .string rl, .int .i64 src, .int .i64 inn, .int .i64 out, .int .i64 nn, .int .i64 dd]), (gb, 67, #[.int .i64 num', .string rl', .int .i64 src', .int .i64 inn', .int .i64 out', .int .i64 nn', .int .i64 dd'])] (e.cuts.set ia (⟨num, rl', src, inn, out, nn, dd⟩ : Cut)) _ from hJ.store (j := 1) (u := .string rl') (x' := (⟨num, rl', src, inn, out, nn, dd⟩ : Cut)) HI0.out rfl (by decide)))
      simp only [Act.eval] at e101 e95
      clear hF hk hJ
      go_simp
      exact HK.out
    | 1, hp =>
      obtain rfl : 20 = c' := by simpa using hp
      simp only [List.getElem?_toArray, List.getElem?_cons_zero, List.getElem?_cons_succ, Option.some.injEq] at ho
      subst ho
      obtain ⟨u0, rfl⟩ := list_1 hl
      have e103 := hF.pure 19 103 (.pointer (some ⟨g, ia * 7 + 2, none⟩)) rfl rfl rfl rfl
      have e97 := hF.pure 12 97 (.int .i64 src') rfl rfl rfl rfl
      have hJ : OwJ w base g cap n [(w.heap.size, 32, #[.string e.title, .int .u8 e.rate, .bool e.drop, .slice (some ⟨g, 0, none⟩) n cap]), (w.heap.size + 1, 32, #[.string ⟨#[]⟩, .int .u8 0, .bool false, .slice none 0 0]), (ga, 67, #[.int .i64 num, .string rl, .int .i64 src, .int .i64 inn, .int .i64 out, .int .i64 nn, .int .i64 dd]), (gb, 67, #[.int .i64 num', .string rl', .int .i64 src', .int .i64 inn', .int .i64 out', .int .i64 nn', .int .i64 dd'])] (e.cuts.set ia (⟨num, rl', src, inn, out, nn, dd⟩ : Cut)) w' := hJ
      obtain ⟨hc1, hf1⟩ := hJ.at_ (j := 2) (x := (⟨num, rl', src, inn, out, nn, dd⟩ : Cut)) (set_at HI0.out) rfl
      have HK := Lib.hid (hk undef _ (show OwJ w base g cap n [(w.heap.size, 32, #[.string e.title, .int .u8 e.rate, .bool e.drop, .slice (some ⟨g, 0, none⟩) n cap]), (w.heap.size + 1, 32, #[.string ⟨#[]⟩, .int .u8 0, .bool false, .slice none 0 0]), (ga, 67, #[.int .i64 num, .string rl, .int .i64 src, .int .i64 inn, .int .i64 out, .int .i64 nn, .int .i64 dd]), (gb, 67, #[.int .i64 num', .string rl', .int .i64 src', .int .i64 inn', .int .i64 out', .int .i64 nn', .int .i64 dd'])] (e.cuts.set ia (⟨num, rl', src', inn, out, nn, dd⟩ : Cut)) _ from set_again (l := e.cuts) (⟨num, rl', src, inn, out, nn, dd⟩ : Cut) (⟨num, rl', src', inn, out, nn, dd⟩ : Cut) ▸ hJ.store (j := 2) (u := .int .i64 src') (x := (⟨num, rl', src, inn, out, nn, dd⟩ : Cut)) (x' := (⟨num, rl', src', inn, out, nn, dd⟩ : Cut)) (set_at HI0.out) rfl (by decide)))
      simp only [Act.eval] at e103 e97
      clear hF hk hJ
      go_simp
      exact HK.out
    | 2, hp =>
      obtain rfl : 23 = c' := by simpa using hp
      simp only [List.getElem?_toArray, List.getElem?_cons_zero, List.getElem?_cons_succ, Option.some.injEq] at ho
      subst ho
      obtain ⟨u0, u1, rfl⟩ := list_2 hl
      have e105 := hF.pure 22 105 (.pointer (some ⟨g, ia * 7 + 5, none⟩)) rfl rfl rfl rfl
      have e99 := hF.pure 14 99 (.agg #[.int .i64 nn', .int .i64 dd']) rfl rfl rfl rfl
      have hJ : OwJ w base g cap n [(w.heap.size, 32, #[.string e.title, .int .u8 e.rate, .bool e.drop, .slice (some ⟨g, 0, none⟩) n cap]), (w.heap.size + 1, 32, #[.string ⟨#[]⟩, .int .u8 0, .bool false, .slice none 0 0]), (ga, 67, #[.int .i64 num, .string rl, .int .i64 src, .int .i64 inn, .int .i64 out, .int .i64 nn, .int .i64 dd]), (gb, 67, #[.int .i64 num', .string rl', .int .i64 src', .int .i64 inn', .int .i64 out', .int .i64 nn', .int .i64 dd'])] (e.cuts.set ia (⟨num, rl', src', inn, out, nn, dd⟩ : Cut)) w' := hJ
      obtain ⟨hc1, hf1⟩ := hJ.at_ (j := 5) (x := (⟨num, rl', src', inn, out, nn, dd⟩ : Cut)) (set_at HI0.out) rfl
      obtain ⟨hc2, hf2⟩ := hJ.at_ (j := 6) (x := (⟨num, rl', src', inn, out, nn, dd⟩ : Cut)) (set_at HI0.out) rfl
      have hJ3 := hJ.store (j := 5) (u := .int .i64 nn') (x := (⟨num, rl', src', inn, out, nn, dd⟩ : Cut)) (x' := (⟨num, rl', src', inn, out, nn', dd⟩ : Cut)) (set_at HI0.out) rfl (by decide)
      rw [set_again] at hJ3
      have hJ4 := hJ3.store (j := 6) (u := .int .i64 dd') (x := (⟨num, rl', src', inn, out, nn', dd⟩ : Cut)) (x' := (⟨num, rl', src', inn, out, nn', dd'⟩ : Cut)) (set_at HI0.out) rfl (by decide)
      rw [set_again] at hJ4
      obtain ⟨hc3, hf3⟩ := hJ3.at_ (j := 6) (x := (⟨num, rl', src', inn, out, nn', dd⟩ : Cut)) (set_at HI0.out) rfl
      have HK := Lib.hid (hk undef _ hJ4)
      simp only [Act.eval] at e105 e99
      clear hF hk hJ hJ3 hJ4
      go_simp
      exact HK.out
    | p + 3, hp => simp at hp
  intro us w7 hl hJ
  obtain ⟨u0, u1, u2, rfl⟩ := list_3 hl
  rename_i hK
  refine hK _ _ ?_
  clear hK
  generalize hL : frameL _ _ _ _ = L
  obtain rfl : L = [(85, .pointer (some ⟨w.heap.size, 3, none⟩)), (86, .slice (some ⟨g, 0, none⟩) n cap), (87, .int .i64 ia), (88, .pointer (some ⟨w.heap.size, 3, none⟩)), (89, .slice (some ⟨g, 0, none⟩) n cap), (90, .int .i64 ia), (91, .pointer (some ⟨w.heap.size, 3, none⟩)), (92, .slice (some ⟨g, 0, none⟩) n cap), (93, .int .i64 ia), (94, .pointer (some ⟨gb, 1, none⟩)), (95, .string rl'), (96, .pointer (some ⟨gb, 2, none⟩)), (97, .int .i64 src'), (98, .pointer (some ⟨gb, 5, none⟩)), (99, .agg #[.int .i64 nn', .int .i64 dd']), (100, .pointer (some ⟨g, ia * 7, none⟩)), (101, .pointer (some ⟨g, ia * 7 + 1, none⟩)), (102, .pointer (some ⟨g, ia * 7, none⟩)), (103, .pointer (some ⟨g, ia * 7 + 2, none⟩)), (104, .pointer (some ⟨g, ia * 7, none⟩)), (105, .pointer (some ⟨g, ia * 7 + 5, none⟩))] := hL.symm.trans (by kernel_rfl)
  clear hL hl
  simp only [Act.put, List.foldl_cons, List.foldl_nil, List.setIfInBounds_toArray, List.set_cons_zero, List.set_cons_succ]
  have HJ1 := Lib.hid (show OwJ w base g cap n [(w.heap.size, 32, #[.string e.title, .int .u8 e.rate, .bool e.drop, .slice (some ⟨g, 0, none⟩) n cap]), (w.heap.size + 1, 32, #[.string ⟨#[]⟩, .int .u8 0, .bool false, .slice none 0 0]), (ga, 67, #[.int .i64 num, .string rl, .int .i64 src, .int .i64 inn, .int .i64 out, .int .i64 nn, .int .i64 dd]), (gb, 67, #[.int .i64 num', .string rl', .int .i64 src', .int .i64 inn', .int .i64 out', .int .i64 nn', .int .i64 dd'])] (e.cuts.set ia (⟨num, rl', src', inn, out, nn', dd'⟩ : Cut)) w7 from hJ)
  clear hJ
  have HI1 : Hid (((e.cuts.set ia (⟨num, rl', src', inn, out, nn', dd'⟩ : Cut)))[ib]? = some (⟨num', rl', src', inn', out', nn', dd'⟩ : Cut)) := by show _ = _; rw [List.getElem?_set_ne hij]; exact HRrb.out
  clear HJ0
  go_wp2_with fail
  refine wp_region_links [some 106, some 107, some 108, some 109, some 110, some 111, some 112, some 113, some 114, some 115, some 116, some 117, some 118, some 119, some 120, some 121, some 122, none, some 123, some 124, none, some 125, some 126, none] [[], [0], [], [], [3], [], [], [6], [], [], [9], [], [11], [], [13], [1, 2, 0, 1, 2, 9, 10], [15, 0, 1, 2, 9, 10], [16, 10, 0, 1, 2, 9, 10], [4, 5, 0, 1, 2, 3, 4, 5, 9, 10, 11, 12, 15, 16, 17], [18, 0, 1, 2, 3, 4, 5, 9, 10, 11, 12, 15, 16, 17], [19, 12, 17, 0, 1, 2, 3, 4, 5, 9, 10, 11, 12, 15, 16, 17], [7, 8, 0, 1, 2, 3, 4, 5, 6, 7, 8, 9, 10, 11, 12, 13, 14, 15, 16, 17, 18, 19, 20], [21, 0, 1, 2, 3, 4, 5, 6, 7, 8, 9, 10, 11, 12, 13, 14, 15, 16, 17, 18, 19, 20], [22, 14, 20, 0, 1, 2, 3, 4, 5, 6, 7, 8, 9, 10, 11, 12, 13, 14, 15, 16, 17, 18, 19, 20]] [17, 20, 23] [.pointer (some ⟨w.heap.size, 3, none⟩), .slice (some ⟨g, 0, none⟩) n cap, .int .i64 ib, .pointer (some ⟨w.heap.size, 3, none⟩), .slice (some ⟨g, 0, none⟩) n cap, .int .i64 ib, .pointer (some ⟨w.heap.size, 3, none⟩), .slice (some ⟨g, 0, none⟩) n cap, .int .i64 ib, .pointer (some ⟨ga, 1, none⟩), .string rl, .pointer (some ⟨ga, 2, none⟩), .int .i64 src, .pointer (some ⟨ga, 5, none⟩), .agg #[.int .i64 nn, .int .i64 dd], .pointer (some ⟨g, ib * 7, none⟩), .pointer (some ⟨g, ib * 7 + 1, none⟩), undef, .pointer (some ⟨g, ib * 7, none⟩), .pointer (some ⟨g, ib * 7 + 2, none⟩), undef, .pointer (some ⟨g, ib * 7, none⟩), .pointer (some ⟨g, ib * 7 + 5, none⟩), undef] (SwSt w base g cap n [(w.heap.size, 32, #[.string e.title, .int .u8 e.rate, .bool e.drop, .slice (some ⟨g, 0, none⟩) n cap]), (w.heap.size + 1, 32, #[.string ⟨#[]⟩, .int .u8 0, .bool false, .slice none 0 0]), (ga, 67, #[.int .i64 num, .string rl, .int .i64 src, .int .i64 inn, .int .i64 out, .int .i64 nn, .int .i64 dd]), (gb, 67, #[.int .i64 num', .string rl', .int .i64 src', .int .i64 inn', .int .i64 out', .int .i64 nn', .int .i64 dd'])] (e.cuts.set ia (⟨num, rl', src', inn, out, nn', dd'⟩ : Cut)) ((e.cuts.set ia (⟨num, rl', src', inn, out, nn', dd'⟩ : Cut)).set ib (⟨num', rl, src', inn', out', nn', dd'⟩ : Cut)) ((e.cuts.set ia (⟨num, rl', src', inn, out, nn', dd'⟩ : Cut)).set ib (⟨num', rl, src, inn', out', nn', dd'⟩ : Cut)) ((e.cuts.set ia (⟨num, rl', src', inn, out, nn', dd'⟩ : Cut)).set ib (⟨num', rl, src, inn', out', nn, dd⟩ : Cut))) (by kernel_rfl) (by kernel_rfl) (by kernel_rfl) (by kernel_rfl) (by kernel_rfl) (by kernel_rfl) (by kernel_rfl) (by decide) ?_ ?_ ?_ ?_
  · exact HJ1.out.drew
  · intro i o ho hc a w' us K' hJ hF hlim hk
    match i, ho with
    | 0, ho =>
      simp only [List.getElem?_toArray, List.getElem?_cons_zero, List.getElem?_cons_succ, Option.some.injEq] at ho
      subst ho
      have e3 := hF.old 3 (.pointer (some ⟨w.heap.size, 0, none⟩)) rfl rfl
      simp only [Act.eval] at e3
      clear hF hlim hJ
      go_simp
      exact hk
    | 1, ho =>
      simp only [List.getElem?_toArray, List.getElem?_cons_zero, List.getElem?_cons_succ, Option.some.injEq] at ho
      subst ho
      have e106 := hF.pure 0 106 (.pointer (some ⟨w.heap.size, 3, none⟩)) rfl rfl rfl rfl
      have hcl : w'.cell? ⟨w.heap.size, 3, none⟩ = some (.slice (some ⟨g, 0, none⟩) n cap) := (hJ.keep _ mem0).cell 3
      simp only [Act.eval] at e106
      clear hF hlim hJ
      go_simp
      exact hk
    | 2, ho =>
      simp only [List.getElem?_toArray, List.getElem?_cons_zero, List.getElem?_cons_succ, Option.some.injEq] at ho
      subst ho
      have e11 := hF.old 11 (.int .i64 ib) rfl rfl
      simp only [Act.eval] at e11
      clear hF hlim hJ
      go_simp
      exact hk
    | 3, ho =>
      simp only [List.getElem?_toArray, List.getElem?_cons_zero, List.getElem?_cons_succ, Option.some.injEq] at ho
      subst ho
      have e3 := hF.old 3 (.pointer (some ⟨w.heap.size, 0, none⟩)) rfl rfl
      simp only [Act.eval] at e3
      clear hF hlim hJ
      go_simp
      exact hk
    | 4, ho =>
      simp only [List.getElem?_toArray, List.getElem?_cons_zero, List.getElem?_cons_succ, Option.some.injEq] at ho
      subst ho
      have e109 := hF.pure 3 109 (.pointer (some ⟨w.heap.size, 3, none⟩)) rfl rfl rfl rfl
      have hcl : w'.cell? ⟨w.heap.size, 3, none⟩ = some (.slice (some ⟨g, 0, none⟩) n cap) := (hJ.keep _ mem0).cell 3
      simp only [Act.eval] at e109
      clear hF hlim hJ
      go_simp
      exact hk
    | 5, ho =>
      simp only [List.getElem?_toArray, List.getElem?_cons_zero, List.getElem?_cons_succ, Option.some.injEq] at ho
      subst ho
      have e11 := hF.old 11 (.int .i64 ib) rfl rfl
      simp only [Act.eval] at e11
      clear hF hlim hJ
      go_simp
      exact hk
    | 6, ho =>
      simp only [List.getElem?_toArray, List.getElem?_cons_zero, List.getElem?_cons_succ, Option.some.injEq] at ho
      subst ho
      have e3 := hF.old 3 (.pointer (some ⟨w.heap.size, 0, none⟩)) rfl rfl
      simp only [Act.eval] at e3
      clear hF hlim hJ
      go_simp
      exact hk
    | 7, ho =>
      simp only [List.getElem?_toArray, List.getElem?_cons_zero, List.getElem?_cons_succ, Option.some.injEq] at ho
      subst ho
      have e112 := hF.pure 6 112 (.pointer (some ⟨w.heap.size, 3, none⟩)) rfl rfl rfl rfl
      have hcl : w'.cell? ⟨w.heap.size, 3, none⟩ = some (.slice (some ⟨g, 0, none⟩) n cap) := (hJ.keep _ mem0).cell 3
      simp only [Act.eval] at e112
      clear hF hlim hJ
      go_simp
      exact hk
    | 8, ho =>
      simp only [List.getElem?_toArray, List.getElem?_cons_zero, List.getElem?_cons_succ, Option.some.injEq] at ho
      subst ho
      have e11 := hF.old 11 (.int .i64 ib) rfl rfl
      simp only [Act.eval] at e11
      clear hF hlim hJ
      go_simp
      exact hk
    | 9, ho =>
      simp only [List.getElem?_toArray, List.getElem?_cons_zero, List.getElem?_cons_succ, Option.some.injEq] at ho
      subst ho
      have e13 := hF.old 13 (.pointer (some ⟨ga, 0, none⟩)) rfl rfl
      simp only [Act.eval] at e13
      clear hF hlim hJ
      go_simp
      exact hk
    | 10, ho =>
      simp only [List.getElem?_toArray, List.getElem?_cons_zero, List.getElem?_cons_succ, Option.some.injEq] at ho
      subst ho
      have e115 := hF.pure 9 115 (.pointer (some ⟨ga, 1, none⟩)) rfl rfl rfl rfl
      have hcl : w'.cell? ⟨ga, 1, none⟩ = some (.string rl) := (hJ.keep _ mem2).cell 1
      simp only [Act.eval] at e115
      clear hF hlim hJ
      go_simp
      exact hk
    | 11, ho =>
      simp only [List.getElem?_toArray, List.getElem?_cons_zero, List.getElem?_cons_succ, Option.some.injEq] at ho
      subst ho
      have e13 := hF.old 13 (.pointer (some ⟨ga, 0, none⟩)) rfl rfl
      simp only [Act.eval] at e13
      clear hF hlim hJ
      go_simp
      exact hk
    | 12, ho =>
      simp only [List.getElem?_toArray, List.getElem?_cons_zero, List.getElem?_cons_succ, Option.some.injEq] at ho
      subst ho
      have e117 := hF.pure 11 117 (.pointer (some ⟨ga, 2, none⟩)) rfl rfl rfl rfl
      have hcl : w'.cell? ⟨ga, 2, none⟩ = some (.int .i64 src) := (hJ.keep _ mem2).cell 2
      simp only [Act.eval] at e117
      clear hF hlim hJ
      go_simp
      exact hk
    | 13, ho =>
      simp only [List.getElem?_toArray, List.getElem?_cons_zero, List.getElem?_cons_succ, Option.some.injEq] at ho
      subst ho
      have e13 := hF.old 13 (.pointer (some ⟨ga, 0, none⟩)) rfl rfl
      simp only [Act.eval] at e13
      clear hF hlim hJ
      go_simp
      exact hk
    | 14, ho =>
      simp only [List.getElem?_toArray, List.getElem?_cons_zero, List.getElem?_cons_succ, Option.some.injEq] at ho
      subst ho
      have e119 := hF.pure 13 119 (.pointer (some ⟨ga, 5, none⟩)) rfl rfl rfl rfl
      have hcl : w'.cell? ⟨ga, 5, none⟩ = some (.int .i64 nn) := (hJ.keep _ mem2).cell 5
      have hcl2 : w'.cell? ⟨ga, 6, none⟩ = some (.int .i64 dd) := (hJ.keep _ mem2).cell 6
      simp only [Act.eval] at e119
      clear hF hlim hJ
      go_simp
      exact hk
    | 15, ho =>
      simp only [List.getElem?_toArray, List.getElem?_cons_zero, List.getElem?_cons_succ, Option.some.injEq] at ho
      subst ho
      have e107 := hF.pure 1 107 (.slice (some ⟨g, 0, none⟩) n cap) rfl rfl rfl rfl
      have e108 := hF.pure 2 108 (.int .i64 ib) rfl rfl rfl rfl
      exact wp_ix_cut0 rfl e107 e108 j1 hk
    | 16, ho =>
      simp only [List.getElem?_toArray, List.getElem?_cons_zero, List.getElem?_cons_succ, Option.some.injEq] at ho
      subst ho
      have e121 := hF.pure 15 121 (.pointer (some ⟨g, ib * 7, none⟩)) rfl rfl rfl rfl
      simp only [Act.eval] at e121
      clear hF hlim hJ
      go_simp
      exact hk
    | 17, ho => simp at hc
    | 18, ho =>
      simp only [List.getElem?_toArray, List.getElem?_cons_zero, List.getElem?_cons_succ, Option.some.injEq] at ho
      subst ho
      have e110 := hF.pure 4 110 (.slice (some ⟨g, 0, none⟩) n cap) rfl rfl rfl rfl
      have e111 := hF.pure 5 111 (.int .i64 ib) rfl rfl rfl rfl
      exact wp_ix_cut0 rfl e110 e111 j1 hk
    | 19, ho =>
      simp only [List.getElem?_toArray, List.getElem?_cons_zero, List.getElem?_cons_succ, Option.some.injEq] at ho
      subst ho
      have e123 := hF.pure 18 123 (.pointer (some ⟨g, ib * 7, none⟩)) rfl rfl rfl rfl
      simp only [Act.eval] at e123
      clear hF hlim hJ
      go_simp
      exact hk
    | 20, ho => simp at hc
    | 21, ho =>
      simp only [List.getElem?_toArray, List.getElem?_cons_zero, List.getElem?_cons_succ, Option.some.injEq] at ho
      subst ho
      have e113 := hF.pure 7 113 (.slice (some ⟨g, 0, none⟩) n cap) rfl rfl rfl rfl
      have e114 := hF.pure 8 114 (.int .i64 ib) rfl rfl rfl rfl
      exact wp_ix_cut0 rfl e113 e114 j1 hk
    | 22, ho =>
      simp only [List.getElem?_toArray, List.getElem?_cons_zero, List.getElem?_cons_succ, Option.some.injEq] at ho
      subst ho
      have e125 := hF.pure 21 125 (.pointer (some ⟨g, ib * 7, none⟩)) rfl rfl rfl rfl
      simp only [Act.eval] at e125
      clear hF hlim hJ
      go_simp
      exact hk
    | 23, ho => simp at hc
    | i + 24, ho => simp at ho
  · intro p c' o hp ho a w' us K' hl hJ hF hk
    match p, hp with
    | 0, hp =>
      obtain rfl : 17 = c' := by simpa using hp
      simp only [List.getElem?_toArray, List.getElem?_cons_zero, List.getElem?_cons_succ, Option.some.injEq] at ho
      subst ho
      obtain rfl : us = [] := List.eq_nil_of_length_eq_zero hl
      have e122 := hF.pure 16 122 (.pointer (some ⟨g, ib * 7 + 1, none⟩)) rfl rfl rfl rfl
      have e116 := hF.pure 10 116 (.string rl) rfl rfl rfl rfl
      have hJ : OwJ w base g cap n [(w.heap.size, 32, #[.string e.title, .int .u8 e.rate, .bool e.drop, .slice (some ⟨g, 0, none⟩) n cap]), (w.heap.size + 1, 32, #[.string ⟨#[]⟩, .int .u8 0, .bool false, .slice none 0 0]), (ga, 67, #[.int .i64 num, .string rl, .int .i64 src, .int .i64 inn, .int .i64 out, .int .i64 nn, .int .i64 dd]), (gb, 67, #[.int .i64 num', .string rl', .int .i64 src', .int .i64 inn', .int .i64 out', .int .i64 nn', .int .i64 dd'])] (e.cuts.set ia (⟨num, rl', src', inn, out, nn', dd'⟩ : Cut)) w' := hJ
      obtain ⟨hc1, hf1⟩ := hJ.at_ (j := 1) HI1.out rfl
      have HK := Lib.hid (hk undef _ (show OwJ w base g cap n [(w.heap.size, 32, #[.string e.title, .int .u8 e.rate, .bool e.drop, .slice (some ⟨g, 0, none⟩) n cap]), (w.heap.size + 1, 32, #[.string ⟨#[]⟩, .int .u8 0, .bool false, .slice none 0 0]), (ga, 67, #[.int .i64 num, .string rl, .int .i64 src, .int .i64 inn, .int .i64 out, .int .i64 nn, .int .i64 dd]), (gb, 67, #[.int .i64 num', .string rl', .int .i64 src', .int .i64 inn', .int .i64 out', .int .i64 nn', .int .i64 dd'])] ((e.cuts.set ia (⟨num, rl', src', inn, out, nn', dd'⟩ : Cut)).set ib (⟨num', rl, src', inn', out', nn', dd'⟩ : Cut)) _ from hJ.store (j := 1) (u := .string rl) (x' := (⟨num', rl, src', inn', out', nn', dd'⟩ : Cut)) HI1.out rfl (by decide)))
      simp only [Act.eval] at e122 e116
      clear hF hk hJ
      go_simp
      exact HK.out
    | 1, hp =>
      obtain rfl : 20 = c' := by simpa using hp
      simp only [List.getElem?_toArray, List.getElem?_cons_zero, List.getElem?_cons_succ, Option.some.injEq] at ho
      subst ho
      obtain ⟨u0, rfl⟩ := list_1 hl
      have e124 := hF.pure 19 124 (.pointer (some ⟨g, ib * 7 + 2, none⟩)) rfl rfl rfl rfl
      have e118 := hF.pure 12 118 (.int .i64 src) rfl rfl rfl rfl
      have hJ : OwJ w base g cap n [(w.heap.size, 32, #[.string e.title, .int .u8 e.rate, .bool e.drop, .slice (some ⟨g, 0, none⟩) n cap]), (w.heap.size + 1, 32, #[.string ⟨#[]⟩, .int .u8 0, .bool false, .slice none 0 0]), (ga, 67, #[.int .i64 num, .string rl, .int .i64 src, .int .i64 inn, .int .i64 out, .int .i64 nn, .int .i64 dd]), (gb, 67, #[.int .i64 num', .string rl', .int .i64 src', .int .i64 inn', .int .i64 out', .int .i64 nn', .int .i64 dd'])] ((e.cuts.set ia (⟨num, rl', src', inn, out, nn', dd'⟩ : Cut)).set ib (⟨num', rl, src', inn', out', nn', dd'⟩ : Cut)) w' := hJ
      obtain ⟨hc1, hf1⟩ := hJ.at_ (j := 2) (x := (⟨num', rl, src', inn', out', nn', dd'⟩ : Cut)) (set_at HI1.out) rfl
      have HK := Lib.hid (hk undef _ (show OwJ w base g cap n [(w.heap.size, 32, #[.string e.title, .int .u8 e.rate, .bool e.drop, .slice (some ⟨g, 0, none⟩) n cap]), (w.heap.size + 1, 32, #[.string ⟨#[]⟩, .int .u8 0, .bool false, .slice none 0 0]), (ga, 67, #[.int .i64 num, .string rl, .int .i64 src, .int .i64 inn, .int .i64 out, .int .i64 nn, .int .i64 dd]), (gb, 67, #[.int .i64 num', .string rl', .int .i64 src', .int .i64 inn', .int .i64 out', .int .i64 nn', .int .i64 dd'])] ((e.cuts.set ia (⟨num, rl', src', inn, out, nn', dd'⟩ : Cut)).set ib (⟨num', rl, src, inn', out', nn', dd'⟩ : Cut)) _ from set_again (l := (e.cuts.set ia (⟨num, rl', src', inn, out, nn', dd'⟩ : Cut))) (⟨num', rl, src', inn', out', nn', dd'⟩ : Cut) (⟨num', rl, src, inn', out', nn', dd'⟩ : Cut) ▸ hJ.store (j := 2) (u := .int .i64 src) (x := (⟨num', rl, src', inn', out', nn', dd'⟩ : Cut)) (x' := (⟨num', rl, src, inn', out', nn', dd'⟩ : Cut)) (set_at HI1.out) rfl (by decide)))
      simp only [Act.eval] at e124 e118
      clear hF hk hJ
      go_simp
      exact HK.out
    | 2, hp =>
      obtain rfl : 23 = c' := by simpa using hp
      simp only [List.getElem?_toArray, List.getElem?_cons_zero, List.getElem?_cons_succ, Option.some.injEq] at ho
      subst ho
      obtain ⟨u0, u1, rfl⟩ := list_2 hl
      have e126 := hF.pure 22 126 (.pointer (some ⟨g, ib * 7 + 5, none⟩)) rfl rfl rfl rfl
      have e120 := hF.pure 14 120 (.agg #[.int .i64 nn, .int .i64 dd]) rfl rfl rfl rfl
      have hJ : OwJ w base g cap n [(w.heap.size, 32, #[.string e.title, .int .u8 e.rate, .bool e.drop, .slice (some ⟨g, 0, none⟩) n cap]), (w.heap.size + 1, 32, #[.string ⟨#[]⟩, .int .u8 0, .bool false, .slice none 0 0]), (ga, 67, #[.int .i64 num, .string rl, .int .i64 src, .int .i64 inn, .int .i64 out, .int .i64 nn, .int .i64 dd]), (gb, 67, #[.int .i64 num', .string rl', .int .i64 src', .int .i64 inn', .int .i64 out', .int .i64 nn', .int .i64 dd'])] ((e.cuts.set ia (⟨num, rl', src', inn, out, nn', dd'⟩ : Cut)).set ib (⟨num', rl, src, inn', out', nn', dd'⟩ : Cut)) w' := hJ
      obtain ⟨hc1, hf1⟩ := hJ.at_ (j := 5) (x := (⟨num', rl, src, inn', out', nn', dd'⟩ : Cut)) (set_at HI1.out) rfl
      obtain ⟨hc2, hf2⟩ := hJ.at_ (j := 6) (x := (⟨num', rl, src, inn', out', nn', dd'⟩ : Cut)) (set_at HI1.out) rfl
      have hJ3 := hJ.store (j := 5) (u := .int .i64 nn) (x := (⟨num', rl, src, inn', out', nn', dd'⟩ : Cut)) (x' := (⟨num', rl, src, inn', out', nn, dd'⟩ : Cut)) (set_at HI1.out) rfl (by decide)
      rw [set_again] at hJ3
      have hJ4 := hJ3.store (j := 6) (u := .int .i64 dd) (x := (⟨num', rl, src, inn', out', nn, dd'⟩ : Cut)) (x' := (⟨num', rl, src, inn', out', nn, dd⟩ : Cut)) (set_at HI1.out) rfl (by decide)
      rw [set_again] at hJ4
      obtain ⟨hc3, hf3⟩ := hJ3.at_ (j := 6) (x := (⟨num', rl, src, inn', out', nn, dd'⟩ : Cut)) (set_at HI1.out) rfl
      have HK := Lib.hid (hk undef _ hJ4)
      simp only [Act.eval] at e126 e120
      clear hF hk hJ hJ3 hJ4
      go_simp
      exact HK.out
    | p + 3, hp => simp at hp
  intro us w8 hl hJ
  obtain ⟨u0, u1, u2, rfl⟩ := list_3 hl
  rename_i hK
  refine hK _ _ ?_
  clear hK
  generalize hL : frameL _ _ _ _ = L
  obtain rfl : L = [(106, .pointer (some ⟨w.heap.size, 3, none⟩)), (107, .slice (some ⟨g, 0, none⟩) n cap), (108, .int .i64 ib), (109, .pointer (some ⟨w.heap.size, 3, none⟩)), (110, .slice (some ⟨g, 0, none⟩) n cap), (111, .int .i64 ib), (112, .pointer (some ⟨w.heap.size, 3, none⟩)), (113, .slice (some ⟨g, 0, none⟩) n cap), (114, .int .i64 ib), (115, .pointer (some ⟨ga, 1, none⟩)), (116, .string rl), (117, .pointer (some ⟨ga, 2, none⟩)), (118, .int .i64 src), (119, .pointer (some ⟨ga, 5, none⟩)), (120, .agg #[.int .i64 nn, .int .i64 dd]), (121, .pointer (some ⟨g, ib * 7, none⟩)), (122, .pointer (some ⟨g, ib * 7 + 1, none⟩)), (123, .pointer (some ⟨g, ib * 7, none⟩)), (124, .pointer (some ⟨g, ib * 7 + 2, none⟩)), (125, .pointer (some ⟨g, ib * 7, none⟩)), (126, .pointer (some ⟨g, ib * 7 + 5, none⟩))] := hL.symm.trans (by kernel_rfl)
  clear hL hl
  simp only [Act.put, List.foldl_cons, List.foldl_nil, List.setIfInBounds_toArray, List.set_cons_zero, List.set_cons_succ]
  have hJ8 : OwJ w base g cap n [(w.heap.size, 32, #[.string e.title, .int .u8 e.rate, .bool e.drop, .slice (some ⟨g, 0, none⟩) n cap]), (w.heap.size + 1, 32, #[.string ⟨#[]⟩, .int .u8 0, .bool false, .slice none 0 0]), (ga, 67, #[.int .i64 num, .string rl, .int .i64 src, .int .i64 inn, .int .i64 out, .int .i64 nn, .int .i64 dd]), (gb, 67, #[.int .i64 num', .string rl', .int .i64 src', .int .i64 inn', .int .i64 out', .int .i64 nn', .int .i64 dd'])] ((e.cuts.set ia (⟨num, rl', src', inn, out, nn', dd'⟩ : Cut)).set ib (⟨num', rl, src, inn', out', nn, dd⟩ : Cut)) w8 := hJ
  have hcw : ((e.cuts.set ia (⟨num, rl', src', inn, out, nn', dd'⟩ : Cut)).set ib (⟨num', rl, src, inn', out', nn, dd⟩ : Cut)) = swapC e.cuts ia ib := HCw.out.symm
  rw [hcw] at hJ8
  obtain ⟨hS8, hcap8⟩ := hJ8.sl
  have HS8 := Lib.hid hS8
  have HX8 := Lib.hid hJ8.ext
  have HBl8 := Lib.hid (hJ8.blk _ mem0).2
  have HBr8 := Lib.hid (hJ8.blk _ mem1).2
  have hgb8 := hJ8.hg
  have hb08 := (hJ8.blk _ mem1).1
  dsimp only at HBl8 HBr8 hb08
  clear hJ hJ8 hS8 hcw HJ1 HI1
  have HSE := Lib.hid (show swapErr e a b = edlErr { e with cuts := swapC e.cuts ia ib } by rw [HEr.out, HSL.out])
  go_wp2_with (refine wpList_loadB rfl 32 (.tmp 3) rfl w.heap.size 32 _ _ (by exact rfl) (by exact HBl8.out) Tryd.underlying32 rfl (by exact size_list) ?_)
  refine (HC2.out (swapC e.cuts ia ib) _ _ _ _ HX8.out HS8.out hn HFt.out).mono ?_
  rintro en w9 ⟨rfl, hx9⟩
  rw [← HSE.out]
  have HX9 := Lib.hid (HX8.out.trans hx9)
  have HBl9 := Lib.hid (HBl8.out.ext hx9)
  have HBr9 := Lib.hid (HBr8.out.ext hx9)
  have HS9 := Lib.hid (HS8.out.ext hx9)
  clear hx9 HX8 HBl8 HBr8 HS8
  by_cases hse : swapErr e a b = 0
  case neg =>
    have hne : (swapErr e a b != 0) = true := by simpa using hse
    have HNe := Lib.hid hse
    clear hse
    go_wp2_with (refine wpList_storeB rfl 32 (.tmp 6) (.tmp 131) rfl (w.heap.size + 1) 32 _ _ (by exact rfl) (by exact rfl) (by exact HBr9.out) (by exact rfl) (by exact size_list) (by simp [Value.oneCell']) ?_)
    refine bodyPost_ret (v := .tuple #[.agg #[.string ⟨#[]⟩, .int .u8 0, .bool false, .slice none 0 0], .int .i64 (swapErr e a b)]) ?_ rfl ⟨none, 0, 0, by rw [HBad.out HNe.out]; rfl, by rw [HBad.out HNe.out]; exact Sl.nil, Nat.le_refl _, ?_⟩
    · exact results_B_tmp (P := Tryd.prog) Tryd.results14 (g := w.heap.size + 1) rfl (by exact HBr9.out.put _) Tryd.underlying32 rfl size_list
    · exact HX9.out.put (by omega) _ _
  case pos =>
    have HZe := Lib.hid hse
    rw [hse]
    clear hse
    go_wp2_with (first | (refine wpList_loadB rfl 32 (.tmp 3) rfl w.heap.size 32 _ _ (by exact rfl) (by exact HBl9.out) Tryd.underlying32 rfl (by exact size_list) ?_) | (refine wpList_storeB rfl 32 (.tmp 6) (.tmp 133) rfl (w.heap.size + 1) 32 _ _ (by exact rfl) (by exact rfl) (by exact HBr9.out) (by exact rfl) (by exact size_list) (by simp [Value.oneCell']) ?_))
    refine bodyPost_ret (v := .tuple #[.agg #[.string e.title, .int .u8 e.rate, .bool e.drop, .slice (some ⟨g, 0, none⟩) n cap], .int .i64 0]) ?_ rfl ⟨some ⟨g, 0, none⟩, n, cap, by rw [HGood.out HZe.out, HSL.out, HZe.out], ?_, hcap8, ?_⟩
    · exact results_B_tmp (P := Tryd.prog) Tryd.results14 (g := w.heap.size + 1) rfl (by exact HBr9.out.put _) Tryd.underlying32 rfl size_list
    · rw [HGood.out HZe.out, HSL.out]
      refine CutsAt.same HS9.out fun ad had o => ?_
      obtain rfl := Option.some.inj had
      exact putB_cell_other (by show g ≠ _; omega)
    · exact HX9.out.put (by omega) _ _
theorem Swap_any (e : Edl) (A : Option Addr) (n c : Nat) (a b : ByteArray) (w : World) (hE : Env w) (hl : CutsAt w A n e.cuts) (hn : n ≤ 1000000) (hok : EdlOk e) :
    Calls Tryd.prog 14 #[.agg (e.cells A n c), .string a, .string b] w (EdlPost (swapE e a b) (swapErr e a b) w) := by
  by_cases h : swapPre e a b = 0
  · exact Swap_good e A n c a b w hE hl hn hok h
  · refine (Swap_pre e A n c a b w hE hl hn hok h).mono fun en w' h' => ?_
    obtain ⟨rfl, hx⟩ := h'
    have h1 := swapErr_pre h
    have h2 := swapE_bad (e := e) (a := a) (b := b) (by rw [h1]; exact h)
    exact ⟨none, 0, 0, by rw [h2, h1]; rfl, by rw [h2]; exact Sl.nil, Nat.le_refl _, hx⟩
end Go.Proofs.YtffianmhojiomaaDoor
