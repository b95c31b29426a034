/- The walk of the reference's Swap. -/
import Derived.Test.YtffianmhojiomaaDoorSwapW
import Derived.Test.YtffianmhojiomaaDoorPlaces
namespace Go.Proofs.YtffianmhojiomaaDoor
set_option linter.unusedVariables false
set_option linter.unusedSimpArgs false
open Go.RowKit

def PlJ (l : List Cut) (n base : Nat) (a b : ByteArray) (W : World) : List Value → World → Prop
  | [], w => Ext W w
  | [u0], w => PlacesAt l n base a u0 w ∧ Ext W w
  | [u0, u1], w => (PlacesAt l n base a u0 w ∧ PlacesAt l n base b u1 w) ∧ Ext W w
  | [u0, u1, u2], w => (PlacesAt l n base a u0 w ∧ PlacesAt l n base b u1 w ∧ u2 = u0) ∧ Ext W w
  | [u0, u1, u2, u3], w => (PlacesAt l n base a u0 w ∧ PlacesAt l n base b u1 w ∧ u2 = u0 ∧ u3 = u1) ∧ Ext W w
  | _, _ => False
theorem PlJ.ext {l : List Cut} {n base : Nat} {a b : ByteArray} {W w : World} : ∀ {us : List Value}, PlJ l n base a b W us w → Ext W w
  | [], h => h
  | [_], h => h.2
  | [_, _], h => h.2
  | [_, _, _], h => h.2
  | [_, _, _, _], h => h.2
  | _ :: _ :: _ :: _ :: _ :: _, h => h.elim
theorem PlacesAt.le {l : List Cut} {n base base' : Nat} {s : ByteArray} {v : Value} {w : World} (h : PlacesAt l n base s v w) (hb : base' ≤ base) : PlacesAt l n base' s v w := by
  refine ⟨h.1, ?_⟩
  rcases h.2 with h0 | ⟨g, cap, cur, h1, hb', hrest⟩
  · exact .inl h0
  · exact .inr ⟨g, cap, cur, h1, by omega, hrest⟩
theorem PlacesAt.ext {l : List Cut} {n base : Nat} {s : ByteArray} {v : Value} {w w1 : World} (h : PlacesAt l n base s v w) (k : Ext w w1) : PlacesAt l n base s v w1 := own_ext h k
theorem PlacesAt.form {l : List Cut} {n base : Nat} {s : ByteArray} {v : Value} {w : World} (h : PlacesAt l n base s v w) : ∃ A cap, v = .slice A (cntI l s n) cap ∧ (cntI l s n = 1 → ∃ g, A = some ⟨g, 0, none⟩ ∧ w.cell? ⟨g, 0, none⟩ = some (.int .i64 (lastI l s n))) := by
  obtain ⟨A, c, he, hc, _, hS, _⟩ := own_sl (f := fun k => [intV k]) (size := 1) (fun _ => rfl) (l := placesL l s n) (places_len l s n) (by have := h; unfold PlacesAt at this; rw [show (placesL l s n).flatMap (fun k => [intV k]) = (placesL l s n).map intV from by induction placesL l s n <;> simp_all]; exact this)
  refine ⟨A, c, he, fun h1 => ?_⟩
  obtain ⟨b, off, hA, hx⟩ := hS.2 (by omega)
  have hp := places_one h1
  have := hx 0 (lastI l s n) (by rw [hp]; rfl) 0 (intV (lastI l s n)) rfl
  rcases h.2 with ⟨_, h0⟩ | ⟨g, cap, cur, hv, _⟩
  · omega
  · rw [hv] at he
    injection he with h2
    rw [← h2] at hA
    injection hA with hA
    injection hA with h3 h4
    subst h3 h4
    exact ⟨g, h2.symm, by simpa [intV] using this⟩
def Sw2 (w0 : World) (base g cap n : Nat) (bs : List (Nat × TypeId × Array Value)) (l0 l1 l2 : List Cut) : List Value → World → Prop
  | [], w => OwJ w0 base g cap n bs l0 w
  | [_], w => OwJ w0 base g cap n bs l1 w
  | [_, _], w => OwJ w0 base g cap n bs l2 w
  | _, _ => False
theorem Sw2.start {w0 w : World} {base g cap n : Nat} {bs : List (Nat × TypeId × Array Value)} {l0 l1 l2 : List Cut} : ∀ {us : List Value}, Sw2 w0 base g cap n bs l0 l1 l2 us w → us.length ≤ 0 → OwJ w0 base g cap n bs l0 w
  | [], h, _ => h
  | _ :: _, _, h => by simp at h
def sw2 (l : List Cut) (i j : Nat) (x y : Cut) : List Cut := (l.set i x).set j y
theorem sw2_i {l : List Cut} {i j : Nat} {x y : Cut} (hij : i ≠ j) (hi : i < l.length) : (sw2 l i j x y)[i]? = some x := by unfold sw2; rw [List.getElem?_set_ne (Ne.symm hij), List.getElem?_set_self hi]
theorem sw2_j {l : List Cut} {i j : Nat} {x y : Cut} (hj : j < l.length) : (sw2 l i j x y)[j]? = some y := by unfold sw2; rw [List.getElem?_set_self (by simpa using hj)]
theorem sw2_si {l : List Cut} {i j : Nat} {x y x' : Cut} (hij : i ≠ j) : (sw2 l i j x y).set i x' = sw2 l i j x' y := by unfold sw2; rw [List.set_comm _ _ (Ne.symm hij), List.set_set]
theorem sw2_sj {l : List Cut} {i j : Nat} {x y y' : Cut} : (sw2 l i j x y).set j y' = sw2 l i j x y' := by unfold sw2; rw [List.set_set]
theorem sw2_self {l : List Cut} {i j : Nat} {x y : Cut} (hi : l[i]? = some x) (hj : l[j]? = some y) : sw2 l i j x y = l := by
  have h1 : l.set i x = l := by
    obtain ⟨h, rfl⟩ := List.getElem?_eq_some_iff.1 hi
    exact List.set_getElem_self h
  unfold sw2
  rw [h1]
  obtain ⟨h, rfl⟩ := List.getElem?_eq_some_iff.1 hj
  exact List.set_getElem_self h
theorem OwJ.more {w0 w w' : World} {base g cap n : Nat} {bs : List (Nat × TypeId × Array Value)} {ls : List Cut} (h : OwJ w0 base g cap n bs ls w) (hx : Ext w w') : OwJ w0 base g cap n bs ls w' := ⟨h.ext.trans hx, own_ext h.own hx, h.hg, h.h0, fun b hb => ⟨(h.blk b hb).1, (h.blk b hb).2.ext hx⟩⟩
theorem wp_call2p {P : Program} {o : Oper} {a : Act} {w : World} {K : Act → World → Prop} {Q : Exit → Act → World → Prop} {f : FuncId} {x y : Operand} {ts : Array TypeId} {v u : Value} {R : Value → World → Prop} (ho : o.op = .call { callee := .value (.func f), args := #[x, y], argTypes := ts }) (hx : a.eval x = v) (hy : a.eval y = u)
    (hent : ∀ args w, (callFunc f args).run P w = .ok (.enter f args) w) (hc : Calls P f #[v, u] w fun en w' => ∃ r, en = .returned r ∧ R r w' ∧ Ext w w') (h : ∀ r w', R r w' → Ext w w' → K (a.put o.dst r) w') : o.wp P a w K Q := by
  have h2 : Calls P f #[v, u] w (fun
      | .returned u, w'' => K (a.put o.dst u) w''
      | .panicked chain, w'' => Q (.panic chain) a w''
      | .outgrown, _ => LetsOut Q) := hc.mono fun en w' hr => by
    obtain ⟨r, rfl, hk, hx⟩ := hr
    exact h r w' hk hx
  unfold Oper.wp execOp
  simp only [ho]
  have hev : a.eval (.func f) = .func (.func f) #[] #[] := rfl
  simp [resolve, invoke, hev, hx, hy, hent, Sem.run_bind, Deferred.ofValue]
  exact h2

theorem swap_pre_bad {e : Edl} {na nb : ByteArray} (h : swapPre e na nb ≠ 0) : swapE e na nb = zeroE := swapE_bad (by rw [swapErr_pre h]; exact h)
set_option maxRecDepth 100000 in
set_option maxHeartbeats 8000000 in
theorem RSwap_any (e : Edl) (A : Option Addr) (n c : Nat) (na nb : ByteArray) (w : World) (hl : CutsAt w A n e.cuts) (hn : n ≤ 1000000) (hok : EdlOk e) :
    Calls Tryd.prog 15 #[.agg (e.cells A n c), .string na, .string nb] w (EdlPost (swapE e na nb) (swapErr e na nb) w) := by
  have HPb := Lib.hid (@swap_pre_bad e na nb)
  have HPe := Lib.hid (@swapErr_pre e na nb)
  have HPc := Lib.hid (@swapErr_chk e na nb)
  have HBad := Lib.hid (@swapE_bad e na nb)
  have HGood := Lib.hid (@swapE_ok e na nb)
  have HSL : Hid (swapL e na nb = { e with cuts := swapC e.cuts (lastI e.cuts na n) (lastI e.cuts nb n) }) := by show _ = _; unfold swapL; rw [hl.len]
  have HPl := Lib.hid (fun (h : swapPre e na nb = 0) => swap_places h)
  have HFt := Lib.hid (fun i j (h1 : i < e.cuts.length) (h2 : j < e.cuts.length) => swapC_fits hok.fits h1 h2)
  have HL := Lib.hid hl
  have HLn := Lib.hid hl.len
  have HX := Lib.hid (((Ext.refl w).alloc (.cells (e.cells A n c) 25)).alloc (.cells edlZero 25))
  have HB0 := Lib.hid ((Blk.new w 25 (e.cells A n c)).alloc (.cells edlZero 25))
  have HB1 := Lib.hid (Blk.new' (w := w.alloc (.cells (e.cells A n c) 25)) (g := w.heap.size + 1) (t := 25) (cs := edlZero) (by simp))
  have HCk := Lib.hid (fun w' (hx : Ext w w') => RCheck_any e A n c w' (hl.ext hx) hn hok.r0 hok.r1 hok.title hok.fits)
  have HC2 := Lib.hid (fun (cs : List Cut) A' n' c' w' (hl' : CutsAt w' A' n' cs) (hn : n' ≤ 1000000) (hf : ∀ c ∈ cs, c.Fits) => RCheck_any { e with cuts := cs } A' n' c' w' hl' hn hok.r0 hok.r1 hok.title hf)
  have HPs := Lib.hid (fun s w' (hx : Ext w w') => places_any e A n c s w' (hl.ext hx) hn)
  have HSn := Lib.hid (fun (h : edlErr e = 0) (c : Cut) (hc : c ∈ e.cuts) => edl_sane h hc)
  have P1 := Lib.hid (@pre_edl e na nb)
  have P2 := Lib.hid (@pre_same e na nb)
  have P3 := Lib.hid (@pre_none e na nb n hl.len)
  have P4 := Lib.hid (@pre_many e na nb n hl.len)
  have P5 := Lib.hid (@pre_len e na nb n hl.len)
  have P6 := Lib.hid (@pre_ok e na nb n hl.len)
  unfold EdlPost
  clear hl hok
  unfold Edl.cells edlZero at *
  go_enter Tryd.func15, Tryd.ntmps15
  go_wp2_with (refine wpList_loadB rfl 25 (.tmp 3) rfl w.heap.size 25 _ _ (by exact rfl) (by exact HB0.out) Tryd.underlying25 rfl (by exact rsize_list) ?_)
  refine (HCk.out _ HX.out).mono ?_
  rintro en w1 ⟨rfl, hx1⟩
  have HX1 := Lib.hid (HX.out.trans hx1)
  have HBl := Lib.hid (HB0.out.ext hx1)
  have HBr := Lib.hid (HB1.out.ext hx1)
  clear hx1 HB0 HB1 HX
  by_cases hee : edlErr e = 0
  case neg =>
    have hne : (edlErr e != 0) = true := by simpa using hee
    have HEr := Lib.hid hee
    clear hee
    go_wp2_with (refine wpList_storeB rfl 25 (.tmp 6) (.tmp 19) rfl (w.heap.size + 1) 25 _ _ (by exact rfl) (by exact rfl) (by exact HBr.out) (by exact rfl) (by exact rsize_list) (by simp [Value.oneCell']) ?_)
    have hpz := P1.out HEr.out
    refine bodyPost_ret (v := .tuple #[.agg #[.string ⟨#[]⟩, .int .u8 0, .bool false, .slice none 0 0], .int .i64 (edlErr e)]) ?_ rfl ⟨none, 0, 0, by rw [HPb.out (by rw [hpz]; exact HEr.out), HPe.out (by rw [hpz]; exact HEr.out), hpz]; rfl, by rw [HPb.out (by rw [hpz]; exact HEr.out)]; exact Sl.nil, Nat.le_refl _, ?_⟩
    · exact results_B_tmp (P := Tryd.prog) Tryd.results15 (g := w.heap.size + 1) rfl (by exact HBr.out.put _) Tryd.underlying25 rfl rsize_list
    · exact HX1.out.put (by omega) _ _
  rw [hee]
  have HZ := Lib.hid hee
  clear hee P1
  by_cases hab : na = nb
  · have hab' : (na.toList == nb.toList) = true := by rw [bs_eq]; simpa using hab
    have HAB := Lib.hid hab
    clear hab
    go_wp2_with (refine wpList_storeB rfl 25 (.tmp 6) (.tmp 24) rfl (w.heap.size + 1) 25 _ _ (by exact rfl) (by exact rfl) (by exact HBr.out) (by exact rfl) (by exact rsize_list) (by simp [Value.oneCell']) ?_)
    have hpz := P2.out HZ.out HAB.out
    refine bodyPost_ret (v := .tuple #[.agg #[.string ⟨#[]⟩, .int .u8 0, .bool false, .slice none 0 0], .int .i64 (1)]) ?_ rfl ⟨none, 0, 0, by rw [HPb.out (by rw [hpz]; decide), HPe.out (by rw [hpz]; decide), hpz]; rfl, by rw [HPb.out (by rw [hpz]; decide)]; exact Sl.nil, Nat.le_refl _, ?_⟩
    · exact results_B_tmp (P := Tryd.prog) Tryd.results15 (g := w.heap.size + 1) rfl (by exact HBr.out.put _) Tryd.underlying25 rfl rsize_list
    · exact HX1.out.put (by omega) _ _
  have hab' : (na.toList == nb.toList) = false := by rw [bs_eq]; simpa using hab
  have HAB := Lib.hid hab
  clear hab P2
  go_wp2_with fail
  have hb1 := HBr.out.lt
  refine wp_region_links [some 25, some 26, some 27, some 28, some 29, some 30, some 9, some 10] [[], [], [0, 1], [], [], [3, 4, 2], [2, 5, 0, 1, 2], [5, 6, 0, 1, 2, 3, 4, 5, 6]] [2, 5, 6, 7] [.agg #[.string e.title, .int .u8 e.rate, .bool e.drop, .slice A n c], .string na, undef, .agg #[.string e.title, .int .u8 e.rate, .bool e.drop, .slice A n c], .string nb, undef, undef, undef] (PlJ e.cuts n w1.heap.size na nb w1) (by kernel_rfl) (by kernel_rfl) (by kernel_rfl) (by kernel_rfl) (by kernel_rfl) (by kernel_rfl) (by kernel_rfl) (by decide) ?_ ?_ ?_ ?_
  · exact (Ext.refl w1).drew
  · intro i o ho hc a w' us K' hJ hF hlim hk
    match i, ho with
    | 0, ho =>
      simp only [List.getElem?_toArray, List.getElem?_cons_zero, List.getElem?_cons_succ, Option.some.injEq] at ho
      subst ho
      have e3 := hF.old 3 (.pointer (some ⟨w.heap.size, 0, none⟩)) rfl rfl
      exact wp_loadB 25 (.tmp 3) rfl w.heap.size 25 _ _ e3 (HBl.out.ext hJ.ext) Tryd.underlying25 rfl (by exact rsize_list) hk
    | 1, ho =>
      simp only [List.getElem?_toArray, List.getElem?_cons_zero, List.getElem?_cons_succ, Option.some.injEq] at ho
      subst ho
      have e1 := hF.old 1 (.string na) rfl rfl
      simp only [Act.eval] at e1
      clear hF hlim hJ
      go_simp
      exact hk
    | 2, ho => simp at hc
    | 3, ho =>
      simp only [List.getElem?_toArray, List.getElem?_cons_zero, List.getElem?_cons_succ, Option.some.injEq] at ho
      subst ho
      have e3 := hF.old 3 (.pointer (some ⟨w.heap.size, 0, none⟩)) rfl rfl
      exact wp_loadB 25 (.tmp 3) rfl w.heap.size 25 _ _ e3 (HBl.out.ext hJ.ext) Tryd.underlying25 rfl (by exact rsize_list) hk
    | 4, ho =>
      simp only [List.getElem?_toArray, List.getElem?_cons_zero, List.getElem?_cons_succ, Option.some.injEq] at ho
      subst ho
      have e2 := hF.old 2 (.string nb) rfl rfl
      simp only [Act.eval] at e2
      clear hF hlim hJ
      go_simp
      exact hk
    | 5, ho => simp at hc
    | 6, ho => simp at hc
    | 7, ho => simp at hc
    | i + 8, ho => simp at ho
  · intro p c' o hp ho a w' us K' hl hJ hF hk
    match p, hp with
    | 0, hp =>
      obtain rfl : 2 = c' := by simpa using hp
      simp only [List.getElem?_toArray, List.getElem?_cons_zero, List.getElem?_cons_succ, Option.some.injEq] at ho
      subst ho
      obtain rfl : us = [] := List.eq_nil_of_length_eq_zero hl
      have e25 := hF.pure 0 25 (.agg #[.string e.title, .int .u8 e.rate, .bool e.drop, .slice A n c]) rfl rfl rfl rfl
      have e26 := hF.pure 1 26 (.string na) rfl rfl rfl rfl
      have hJ0 : Ext w1 w' := hJ
      exact wp_call2p rfl e25 e26 Tryd.call33 (HPs.out na _ (HX1.out.trans hJ.ext)) (fun v w5 hp hx5 => hk _ w5 ⟨hp.le hJ.ext.size, hJ0.trans hx5⟩)
    | 1, hp =>
      obtain rfl : 5 = c' := by simpa using hp
      simp only [List.getElem?_toArray, List.getElem?_cons_zero, List.getElem?_cons_succ, Option.some.injEq] at ho
      subst ho
      obtain ⟨u0, rfl⟩ := list_1 hl
      have e28 := hF.pure 3 28 (.agg #[.string e.title, .int .u8 e.rate, .bool e.drop, .slice A n c]) rfl rfl rfl rfl
      have e29 := hF.pure 4 29 (.string nb) rfl rfl rfl rfl
      have hJ0 : PlacesAt e.cuts n w1.heap.size na u0 w' ∧ Ext w1 w' := hJ
      exact wp_call2p rfl e28 e29 Tryd.call33 (HPs.out nb _ (HX1.out.trans hJ.ext)) (fun v w5 hp hx5 => hk _ w5 ⟨⟨hJ0.1.ext hx5, hp.le hJ.ext.size⟩, hJ0.2.trans hx5⟩)
    | 2, hp =>
      obtain rfl : 6 = c' := by simpa using hp
      simp only [List.getElem?_toArray, List.getElem?_cons_zero, List.getElem?_cons_succ, Option.some.injEq] at ho
      subst ho
      obtain ⟨u0, u1, rfl⟩ := list_2 hl
      have e27 := hF.link 0 2 27 _ rfl rfl rfl rfl
      exact wp_assignx _ _ rfl e27 (hk _ _ ⟨⟨hJ.1.1, hJ.1.2, rfl⟩, hJ.2⟩)
    | 3, hp =>
      obtain rfl : 7 = c' := by simpa using hp
      simp only [List.getElem?_toArray, List.getElem?_cons_zero, List.getElem?_cons_succ, Option.some.injEq] at ho
      subst ho
      obtain ⟨u0, u1, u2, rfl⟩ := list_3 hl
      have e30 := hF.link 1 5 30 _ rfl rfl rfl rfl
      exact wp_assignx _ _ rfl e30 (hk _ _ ⟨⟨hJ.1.1, hJ.1.2.1, hJ.1.2.2, rfl⟩, hJ.2⟩)
    | p + 4, hp => simp at hp
  intro us w3 hl hJ
  obtain ⟨u0, u1, u2, u3, rfl⟩ := list_4 hl
  rename_i hK
  refine hK _ _ ?_
  clear hK
  generalize hL : frameL _ _ _ _ = L
  obtain rfl : L = [(25, .agg #[.string e.title, .int .u8 e.rate, .bool e.drop, .slice A n c]), (26, .string na), (27, u0), (28, .agg #[.string e.title, .int .u8 e.rate, .bool e.drop, .slice A n c]), (29, .string nb), (30, u1), (9, u2), (10, u3)] := hL.symm.trans (by kernel_rfl)
  clear hL hl
  simp only [Act.put, List.foldl_cons, List.foldl_nil, List.setIfInBounds_toArray, List.set_cons_zero, List.set_cons_succ]
  obtain ⟨⟨hpa, hpb, rfl, rfl⟩, hx3⟩ := hJ
  have HX3 := Lib.hid (HX1.out.trans hx3)
  have HBl3 := Lib.hid (HBl.out.ext hx3)
  have HBr3 := Lib.hid (HBr.out.ext hx3)
  obtain ⟨A1, k1, rfl, hone1⟩ := hpa.form
  obtain ⟨A2, k2, rfl, hone2⟩ := hpb.form
  have HOn1 := Lib.hid hone1
  have HOn2 := Lib.hid hone2
  clear hx3 HX1 HBl HBr hpa hpb hone1 hone2
  have HIa := Lib.hid (lastI_is e.cuts na n)
  have HIb := Lib.hid (lastI_is e.cuts nb n)
  generalize hia : lastI e.cuts na n = ia at *
  generalize hib : lastI e.cuts nb n = ib at *
  generalize hca : cntI e.cuts na n = ca at *
  generalize hcb : cntI e.cuts nb n = cb at *
  have HGe := Lib.hid (And.intro hia (And.intro hib (And.intro hca hcb)))
  clear hia hib hca hcb
  by_cases hc0 : ca = 0
  · subst hc0
    go_wp2_with (refine wpList_storeB rfl 25 (.tmp 6) (.tmp 39) rfl (w.heap.size + 1) 25 _ _ (by exact rfl) (by exact rfl) (by exact HBr3.out) (by exact rfl) (by exact rsize_list) (by simp [Value.oneCell']) ?_)
    have hpz := P3.out HZ.out HAB.out (by simp)
    refine bodyPost_ret (v := .tuple #[.agg #[.string ⟨#[]⟩, .int .u8 0, .bool false, .slice none 0 0], .int .i64 (6)]) ?_ rfl ⟨none, 0, 0, by rw [HPb.out (by rw [hpz]; decide), HPe.out (by rw [hpz]; decide), hpz]; rfl, by rw [HPb.out (by rw [hpz]; decide)]; exact Sl.nil, Nat.le_refl _, ?_⟩
    · exact results_B_tmp (P := Tryd.prog) Tryd.results15 (g := w.heap.size + 1) rfl (by exact HBr3.out.put _) Tryd.underlying25 rfl rsize_list
    · exact HX3.out.put (by omega) _ _
  have hc0i : ¬ (ca : Int) = 0 := by omega
  have hc0b : ((ca : Int) == 0) = false := by simp; omega
  by_cases hd0 : cb = 0
  · subst hd0
    go_wp2_with (refine wpList_storeB rfl 25 (.tmp 6) (.tmp 39) rfl (w.heap.size + 1) 25 _ _ (by exact rfl) (by exact rfl) (by exact HBr3.out) (by exact rfl) (by exact rsize_list) (by simp [Value.oneCell']) ?_)
    have hpz := P3.out HZ.out HAB.out (by simp)
    refine bodyPost_ret (v := .tuple #[.agg #[.string ⟨#[]⟩, .int .u8 0, .bool false, .slice none 0 0], .int .i64 (6)]) ?_ rfl ⟨none, 0, 0, by rw [HPb.out (by rw [hpz]; decide), HPe.out (by rw [hpz]; decide), hpz]; rfl, by rw [HPb.out (by rw [hpz]; decide)]; exact Sl.nil, Nat.le_refl _, ?_⟩
    · exact results_B_tmp (P := Tryd.prog) Tryd.results15 (g := w.heap.size + 1) rfl (by exact HBr3.out.put _) Tryd.underlying25 rfl rsize_list
    · exact HX3.out.put (by omega) _ _
  have hd0i : ¬ (cb : Int) = 0 := by omega
  have hd0b : ((cb : Int) == 0) = false := by simp; omega
  have HNo : Hid (¬ (ca = 0 ∨ cb = 0)) := by show ¬ _; omega
  clear P3
  by_cases hc1 : 1 < ca
  · have hc1i : (1 : Int) < (ca : Int) := by omega
    go_wp2_with (refine wpList_storeB rfl 25 (.tmp 6) (.tmp 48) rfl (w.heap.size + 1) 25 _ _ (by exact rfl) (by exact rfl) (by exact HBr3.out) (by exact rfl) (by exact rsize_list) (by simp [Value.oneCell']) ?_)
    have hpz := P4.out HZ.out HAB.out HNo.out (.inl hc1)
    refine bodyPost_ret (v := .tuple #[.agg #[.string ⟨#[]⟩, .int .u8 0, .bool false, .slice none 0 0], .int .i64 (7)]) ?_ rfl ⟨none, 0, 0, by rw [HPb.out (by rw [hpz]; decide), HPe.out (by rw [hpz]; decide), hpz]; rfl, by rw [HPb.out (by rw [hpz]; decide)]; exact Sl.nil, Nat.le_refl _, ?_⟩
    · exact results_B_tmp (P := Tryd.prog) Tryd.results15 (g := w.heap.size + 1) rfl (by exact HBr3.out.put _) Tryd.underlying25 rfl rsize_list
    · exact HX3.out.put (by omega) _ _
  have hc1i : ¬ (1 : Int) < (ca : Int) := by omega
  by_cases hd1 : 1 < cb
  · have hd1i : (1 : Int) < (cb : Int) := by omega
    go_wp2_with (refine wpList_storeB rfl 25 (.tmp 6) (.tmp 48) rfl (w.heap.size + 1) 25 _ _ (by exact rfl) (by exact rfl) (by exact HBr3.out) (by exact rfl) (by exact rsize_list) (by simp [Value.oneCell']) ?_)
    have hpz := P4.out HZ.out HAB.out HNo.out (.inr hd1)
    refine bodyPost_ret (v := .tuple #[.agg #[.string ⟨#[]⟩, .int .u8 0, .bool false, .slice none 0 0], .int .i64 (7)]) ?_ rfl ⟨none, 0, 0, by rw [HPb.out (by rw [hpz]; decide), HPe.out (by rw [hpz]; decide), hpz]; rfl, by rw [HPb.out (by rw [hpz]; decide)]; exact Sl.nil, Nat.le_refl _, ?_⟩
    · exact results_B_tmp (P := Tryd.prog) Tryd.results15 (g := w.heap.size + 1) rfl (by exact HBr3.out.put _) Tryd.underlying25 rfl rsize_list
    · exact HX3.out.put (by omega) _ _
  have hd1i : ¬ (1 : Int) < (cb : Int) := by omega
  have HOne : Hid (¬ (1 < ca ∨ 1 < cb)) := by show ¬ _; omega
  clear P4
  obtain rfl : ca = 1 := by omega
  obtain rfl : cb = 1 := by omega
  obtain ⟨hia, hria⟩ := HIa.out (by omega)
  obtain ⟨hib, hrib⟩ := HIb.out (by omega)
  obtain ⟨q1, rfl, hq1⟩ := HOn1.out rfl
  obtain ⟨q2, rfl, hq2⟩ := HOn2.out rfl
  have hij : ia ≠ ib := fun h => HAB.out (by
    have h2 := hria
    rw [h] at h2
    unfold isR at h2 hrib
    rw [hrib] at h2
    exact (Option.some.inj h2).symm)
  clear hria hrib HIa HIb HOn1 HOn2
  obtain ⟨bk, off, rfl, hra, hka⟩ := HL.out.at_cut hia
  have hrb := (HL.out.at_cut hib).elim fun _ h => h.elim fun _ h => h.2.1
  have hsa := HSn.out HZ.out _ (List.mem_of_getElem? hra)
  have hsb := HSn.out HZ.out _ (List.mem_of_getElem? hrb)
  have HRra := Lib.hid hra
  have HRrb := Lib.hid hrb
  have hcl := fun o => HBl3.out.cell o
  clear hra hrb hka HSn hc0 hc0i hc0b hd0 hd0i hd0b hc1 hc1i hd1 hd1i
  have hpos : 0 < n := by omega
  go_wp2_with fail
  go_quiet (fail)
  go_upto_region 12 with fail
  refine wp_drewN ?_
  intro w4 hx4 hs4
  have HX4 := Lib.hid (HX3.out.trans hx4)
  have HBl4 := Lib.hid (HBl3.out.ext hx4)
  have HBr4 := Lib.hid (HBr3.out.ext hx4)
  have hw4 := HX4.out.size
  have hb4 := HBr4.out.lt
  clear hx4 hcl HX3 HBl3 HBr3 hq1 hq2 hs4
  have hcl := fun o => (HBl4.out.alloc (.cells #[] 67)).cell o
  go_wp2_with (at_builtin; refine wpList_appendS rfl (.tmp 55) (.tmp 57) 23 rfl info_cut Tryd.underlying23 rfl (by decide) (by exact own_nil0 w4 _ _ w4.heap.size (Nat.le_refl _)) (by exact rfl) (by exact rfl) (by exact Sl.ext (Cells.stays _) (HL.out.ext HX4.out) ((Ext.refl w4).alloc _)) (fun _ => rfl) (by intro r u hu; simp [Cut.vals] at hu; rcases hu with rfl | rfl | rfl | rfl | rfl | rfl | rfl <;> rfl) (by omega) (by simp [maxLen]; omega) (by simp) ?_; intro v5 w5 hown hgr hnil; have HOw := Lib.hid hown; have HGr := Lib.hid hgr; clear hown hgr hnil)
  have hown := HOw.out
  have hgr := HGr.out
  simp only [Nat.zero_add, List.nil_append] at hown
  obtain ⟨g, cap, rfl, hg4, _⟩ := own_form hown hpos
  have hx5 : Ext w4 w5 := ((Ext.refl w4).alloc _).grown hgr (fun q hq => by simp [Value.ownBlock] at hq; omega)
  have HCw : Hid (swapC e.cuts ia ib = sw2 e.cuts ia ib ((cutI e.cuts ia).take3 (cutI e.cuts ib)) ((cutI e.cuts ib).take3 (cutI e.cuts ia))) := rfl
  have HJ0 : Hid (OwJ w w4.heap.size g cap n [(w.heap.size, 25, #[.string e.title, .int .u8 e.rate, .bool e.drop, .slice (some ⟨bk, off, none⟩) n c]), (w.heap.size + 1, 25, #[.string ⟨#[]⟩, .int .u8 0, .bool false, .slice none 0 0])] (sw2 e.cuts ia ib (cutI e.cuts ia) (cutI e.cuts ib)) w5) := by
    show OwJ ..
    rw [sw2_self HRra.out HRrb.out]
    refine ⟨HX4.out.trans hx5, hown, hg4, hw4, fun nb hb => ?_⟩
    simp only [List.mem_cons, List.not_mem_nil, or_false] at hb
    rcases hb with rfl | rfl
    · exact ⟨by dsimp only; omega, HBl4.out.ext hx5⟩
    · exact ⟨hb4, HBr4.out.ext hx5⟩
  have hil : ia < e.cuts.length := by rw [HLn.out]; exact hia
  have hjl : ib < e.cuts.length := by rw [HLn.out]; exact hib
  have HIL := Lib.hid hil
  have HJL := Lib.hid hjl
  clear hown hx5 hgr HOw HGr HBl4 HBr4 HX4 hcl hil hjl
  generalize w4.heap.size = base at *
  generalize cutI e.cuts ia = xa at *
  generalize cutI e.cuts ib = xb at *
  obtain ⟨num, rl, src, inn, out, nn, dd⟩ := xa
  obtain ⟨num', rl', src', inn', out', nn', dd'⟩ := xb
  obtain ⟨sa1, sa2, sa3, sa4, sa5, sa6, sa7, sa8, sa9⟩ := hsa
  obtain ⟨sb1, sb2, sb3, sb4, sb5, sb6, sb7, sb8, sb9⟩ := hsb
  dsimp only at *
  have ka3 := (HJ0.out.at_ (j := 3) (sw2_i hij HIL.out) rfl).1
  have ka4 := (HJ0.out.at_ (j := 4) (sw2_i hij HIL.out) rfl).1
  have kb3 := (HJ0.out.at_ (j := 3) (sw2_j HJL.out) rfl).1
  have kb4 := (HJ0.out.at_ (j := 4) (sw2_j HJL.out) rfl).1
  by_cases hlen : out - inn = out' - inn'
  case neg =>
    have hlen' : (out - inn != out' - inn') = true := by simpa using hlen
    have HLe := Lib.hid hlen
    clear hlen
    go_quiet (fail)
    go_upto_region 14 with fail
    refine wp_drewN ?_
    intro w6 hx6 hs6
    have HX6 := Lib.hid (HJ0.out.ext.trans hx6)
    have HBr6 := Lib.hid ((HJ0.out.blk _ mem1).2.ext hx6)
    dsimp only at HBr6
    clear hx6 hs6
    go_wp2_with (refine wpList_storeB rfl 25 (.tmp 6) (.tmp 86) rfl (w.heap.size + 1) 25 _ _ (by exact rfl) (by exact rfl) (by exact HBr6.out) (by exact rfl) (by exact rsize_list) (by simp [Value.oneCell']) ?_)
    have hpz := P5.out HZ.out HAB.out HNo.out HOne.out HLe.out
    refine bodyPost_ret (v := .tuple #[.agg #[.string ⟨#[]⟩, .int .u8 0, .bool false, .slice none 0 0], .int .i64 (1)]) ?_ rfl ⟨none, 0, 0, by rw [HPb.out (by rw [hpz]; decide), HPe.out (by rw [hpz]; decide), hpz]; rfl, by rw [HPb.out (by rw [hpz]; decide)]; exact Sl.nil, Nat.le_refl _, ?_⟩
    · exact results_B_tmp (P := Tryd.prog) Tryd.results15 (g := w.heap.size + 1) rfl (by exact HBr6.out.put _) Tryd.underlying25 rfl rsize_list
    · exact HX6.out.put (by omega) _ _
  have hlen' : (out - inn != out' - inn') = false := by simpa using hlen
  have HLe := Lib.hid hlen
  have hpz : swapPre e na nb = 0 := P6.out HZ.out HAB.out HNo.out HOne.out hlen
  have HPz := Lib.hid hpz
  clear hlen hpz
  go_quiet (fail)
  go_upto_region 15 with fail
  refine wp_drewN ?_
  intro w6 hx6 hs6
  have HJ1 := Lib.hid (HJ0.out.more hx6)
  clear hx6 hs6 HJ0 ka3 ka4 kb3 kb4
  refine wp_region_links [some 87, some 88, some 89, some 90, some 91, some 92, some 93, some 94, some 95, some 96, some 97, some 98, some 99, some 100, some 101, some 102, none, some 103, some 104, none] [[], [], [], [], [], [], [4, 5], [6], [7], [], [], [9, 10], [11], [12], [0, 1, 0, 1, 4, 5, 6, 7, 8, 13], [14, 0, 1, 4, 5, 6, 7, 8, 13], [15, 8, 0, 1, 4, 5, 6, 7, 8, 13], [2, 3, 0, 1, 2, 3, 4, 5, 6, 7, 8, 9, 10, 11, 12, 13, 14, 15, 16], [17, 0, 1, 2, 3, 4, 5, 6, 7, 8, 9, 10, 11, 12, 13, 14, 15, 16], [18, 13, 16, 0, 1, 2, 3, 4, 5, 6, 7, 8, 9, 10, 11, 12, 13, 14, 15, 16]] [16, 19] [.slice (some ⟨g, 0, none⟩) n cap, .int .i64 ia, .slice (some ⟨g, 0, none⟩) n cap, .int .i64 ib, .slice (some ⟨g, 0, none⟩) n cap, .int .i64 ib, .pointer (some ⟨g, ib * 7, none⟩), .pointer (some ⟨g, ib * 7 + 1, none⟩), .string rl', .slice (some ⟨g, 0, none⟩) n cap, .int .i64 ia, .pointer (some ⟨g, ia * 7, none⟩), .pointer (some ⟨g, ia * 7 + 1, none⟩), .string rl, .pointer (some ⟨g, ia * 7, none⟩), .pointer (some ⟨g, ia * 7 + 1, none⟩), undef, .pointer (some ⟨g, ib * 7, none⟩), .pointer (some ⟨g, ib * 7 + 1, none⟩), undef] (Sw2 w base g cap n [(w.heap.size, 25, #[.string e.title, .int .u8 e.rate, .bool e.drop, .slice (some ⟨bk, off, none⟩) n c]), (w.heap.size + 1, 25, #[.string ⟨#[]⟩, .int .u8 0, .bool false, .slice none 0 0])] (sw2 e.cuts ia ib (⟨num, rl, src, inn, out, nn, dd⟩ : Cut) (⟨num', rl', src', inn', out', nn', dd'⟩ : Cut)) (sw2 e.cuts ia ib (⟨num, rl', src, inn, out, nn, dd⟩ : Cut) (⟨num', rl', src', inn', out', nn', dd'⟩ : Cut)) (sw2 e.cuts ia ib (⟨num, rl', src, inn, out, nn, dd⟩ : Cut) (⟨num', rl, src', inn', out', nn', dd'⟩ : Cut))) (by kernel_rfl) (by kernel_rfl) (by kernel_rfl) (by kernel_rfl) (by kernel_rfl) (by kernel_rfl) (by kernel_rfl) (by decide) ?_ ?_ ?_ ?_
  · exact HJ1.out.drew
  · intro i o ho hc a w' us K' hJ hF hlim hk
    match i, ho with
    | 0, ho =>
      simp only [List.getElem?_toArray, List.getElem?_cons_zero, List.getElem?_cons_succ, Option.some.injEq] at ho
      subst ho
      have e13 := hF.old 13 (.slice (some ⟨g, 0, none⟩) n cap) rfl rfl
      simp only [Act.eval] at e13
      clear hF hlim hJ
      go_simp
      exact hk
    | 1, ho =>
      simp only [List.getElem?_toArray, List.getElem?_cons_zero, List.getElem?_cons_succ, Option.some.injEq] at ho
      subst ho
      have e11 := hF.old 11 (.int .i64 ia) rfl rfl
      simp only [Act.eval] at e11
      clear hF hlim hJ
      go_simp
      exact hk
    | 2, ho =>
      simp only [List.getElem?_toArray, List.getElem?_cons_zero, List.getElem?_cons_succ, Option.some.injEq] at ho
      subst ho
      have e13 := hF.old 13 (.slice (some ⟨g, 0, none⟩) n cap) rfl rfl
      simp only [Act.eval] at e13
      clear hF hlim hJ
      go_simp
      exact hk
    | 3, ho =>
      simp only [List.getElem?_toArray, List.getElem?_cons_zero, List.getElem?_cons_succ, Option.some.injEq] at ho
      subst ho
      have e12 := hF.old 12 (.int .i64 ib) rfl rfl
      simp only [Act.eval] at e12
      clear hF hlim hJ
      go_simp
      exact hk
    | 4, ho =>
      simp only [List.getElem?_toArray, List.getElem?_cons_zero, List.getElem?_cons_succ, Option.some.injEq] at ho
      subst ho
      have e13 := hF.old 13 (.slice (some ⟨g, 0, none⟩) n cap) rfl rfl
      simp only [Act.eval] at e13
      clear hF hlim hJ
      go_simp
      exact hk
    | 5, ho =>
      simp only [List.getElem?_toArray, List.getElem?_cons_zero, List.getElem?_cons_succ, Option.some.injEq] at ho
      subst ho
      have e12 := hF.old 12 (.int .i64 ib) rfl rfl
      simp only [Act.eval] at e12
      clear hF hlim hJ
      go_simp
      exact hk
    | 6, ho =>
      simp only [List.getElem?_toArray, List.getElem?_cons_zero, List.getElem?_cons_succ, Option.some.injEq] at ho
      subst ho
      have e91 := hF.pure 4 91 (.slice (some ⟨g, 0, none⟩) n cap) rfl rfl rfl rfl
      have e92 := hF.pure 5 92 (.int .i64 ib) rfl rfl rfl rfl
      exact wp_ix_cut0 rfl e91 e92 hib hk
    | 7, ho =>
      simp only [List.getElem?_toArray, List.getElem?_cons_zero, List.getElem?_cons_succ, Option.some.injEq] at ho
      subst ho
      have e93 := hF.pure 6 93 (.pointer (some ⟨g, ib * 7, none⟩)) rfl rfl rfl rfl
      simp only [Act.eval] at e93
      clear hF hlim hJ
      go_simp
      exact hk
    | 8, ho =>
      simp only [List.getElem?_toArray, List.getElem?_cons_zero, List.getElem?_cons_succ, Option.some.injEq] at ho
      subst ho
      have e94 := hF.pure 7 94 (.pointer (some ⟨g, ib * 7 + 1, none⟩)) rfl rfl rfl rfl
      have hJs := hJ.start (hlim 0 16 rfl rfl)
      have hcl := (hJs.at_ (j := 1) (sw2_j HJL.out) rfl).1
      clear hJs
      simp only [Act.eval] at e94
      clear hF hlim hJ
      go_simp
      exact hk
    | 9, ho =>
      simp only [List.getElem?_toArray, List.getElem?_cons_zero, List.getElem?_cons_succ, Option.some.injEq] at ho
      subst ho
      have e13 := hF.old 13 (.slice (some ⟨g, 0, none⟩) n cap) rfl rfl
      simp only [Act.eval] at e13
      clear hF hlim hJ
      go_simp
      exact hk
    | 10, ho =>
      simp only [List.getElem?_toArray, List.getElem?_cons_zero, List.getElem?_cons_succ, Option.some.injEq] at ho
      subst ho
      have e11 := hF.old 11 (.int .i64 ia) rfl rfl
      simp only [Act.eval] at e11
      clear hF hlim hJ
      go_simp
      exact hk
    | 11, ho =>
      simp only [List.getElem?_toArray, List.getElem?_cons_zero, List.getElem?_cons_succ, Option.some.injEq] at ho
      subst ho
      have e96 := hF.pure 9 96 (.slice (some ⟨g, 0, none⟩) n cap) rfl rfl rfl rfl
      have e97 := hF.pure 10 97 (.int .i64 ia) rfl rfl rfl rfl
      exact wp_ix_cut0 rfl e96 e97 hia hk
    | 12, ho =>
      simp only [List.getElem?_toArray, List.getElem?_cons_zero, List.getElem?_cons_succ, Option.some.injEq] at ho
      subst ho
      have e98 := hF.pure 11 98 (.pointer (some ⟨g, ia * 7, none⟩)) rfl rfl rfl rfl
      simp only [Act.eval] at e98
      clear hF hlim hJ
      go_simp
      exact hk
    | 13, ho =>
      simp only [List.getElem?_toArray, List.getElem?_cons_zero, List.getElem?_cons_succ, Option.some.injEq] at ho
      subst ho
      have e99 := hF.pure 12 99 (.pointer (some ⟨g, ia * 7 + 1, none⟩)) rfl rfl rfl rfl
      have hJs := hJ.start (hlim 0 16 rfl rfl)
      have hcl := (hJs.at_ (j := 1) (sw2_i hij HIL.out) rfl).1
      clear hJs
      simp only [Act.eval] at e99
      clear hF hlim hJ
      go_simp
      exact hk
    | 14, ho =>
      simp only [List.getElem?_toArray, List.getElem?_cons_zero, List.getElem?_cons_succ, Option.some.injEq] at ho
      subst ho
      have e87 := hF.pure 0 87 (.slice (some ⟨g, 0, none⟩) n cap) rfl rfl rfl rfl
      have e88 := hF.pure 1 88 (.int .i64 ia) rfl rfl rfl rfl
      exact wp_ix_cut0 rfl e87 e88 hia hk
    | 15, ho =>
      simp only [List.getElem?_toArray, List.getElem?_cons_zero, List.getElem?_cons_succ, Option.some.injEq] at ho
      subst ho
      have e101 := hF.pure 14 101 (.pointer (some ⟨g, ia * 7, none⟩)) rfl rfl rfl rfl
      simp only [Act.eval] at e101
      clear hF hlim hJ
      go_simp
      exact hk
    | 16, ho => simp at hc
    | 17, ho =>
      simp only [List.getElem?_toArray, List.getElem?_cons_zero, List.getElem?_cons_succ, Option.some.injEq] at ho
      subst ho
      have e89 := hF.pure 2 89 (.slice (some ⟨g, 0, none⟩) n cap) rfl rfl rfl rfl
      have e90 := hF.pure 3 90 (.int .i64 ib) rfl rfl rfl rfl
      exact wp_ix_cut0 rfl e89 e90 hib hk
    | 18, ho =>
      simp only [List.getElem?_toArray, List.getElem?_cons_zero, List.getElem?_cons_succ, Option.some.injEq] at ho
      subst ho
      have e103 := hF.pure 17 103 (.pointer (some ⟨g, ib * 7, none⟩)) rfl rfl rfl rfl
      simp only [Act.eval] at e103
      clear hF hlim hJ
      go_simp
      exact hk
    | 19, ho => simp at hc
    | i + 20, ho => simp at ho
  · intro p c' o hp ho a w' us K' hl hJ hF hk
    match p, hp with
    | 0, hp =>
      obtain rfl : 16 = c' := by simpa using hp
      simp only [List.getElem?_toArray, List.getElem?_cons_zero, List.getElem?_cons_succ, Option.some.injEq] at ho
      subst ho
      obtain rfl : us = [] := List.eq_nil_of_length_eq_zero hl
      have e102 := hF.pure 15 102 (.pointer (some ⟨g, ia * 7 + 1, none⟩)) rfl rfl rfl rfl
      have e95 := hF.pure 8 95 (.string rl') rfl rfl rfl rfl
      have hJ : OwJ w base g cap n [(w.heap.size, 25, #[.string e.title, .int .u8 e.rate, .bool e.drop, .slice (some ⟨bk, off, none⟩) n c]), (w.heap.size + 1, 25, #[.string ⟨#[]⟩, .int .u8 0, .bool false, .slice none 0 0])] (sw2 e.cuts ia ib (⟨num, rl, src, inn, out, nn, dd⟩ : Cut) (⟨num', rl', src', inn', out', nn', dd'⟩ : Cut)) w' := hJ
      obtain ⟨hc1, hf1⟩ := hJ.at_ (j := 1) (x := (⟨num, rl, src, inn, out, nn, dd⟩ : Cut)) (sw2_i hij HIL.out) rfl
      have hJ2 := hJ.store (j := 1) (u := .string rl') (x := (⟨num, rl, src, inn, out, nn, dd⟩ : Cut)) (x' := (⟨num, rl', src, inn, out, nn, dd⟩ : Cut)) (sw2_i hij HIL.out) rfl (by decide)
      rw [sw2_si hij] at hJ2
      have HK := Lib.hid (hk undef _ hJ2)
      simp only [Act.eval] at e102 e95
      clear hF hk hJ hJ2
      go_simp
      exact HK.out
    | 1, hp =>
      obtain rfl : 19 = c' := by simpa using hp
      simp only [List.getElem?_toArray, List.getElem?_cons_zero, List.getElem?_cons_succ, Option.some.injEq] at ho
      subst ho
      obtain ⟨u0, rfl⟩ := list_1 hl
      have e104 := hF.pure 18 104 (.pointer (some ⟨g, ib * 7 + 1, none⟩)) rfl rfl rfl rfl
      have e100 := hF.pure 13 100 (.string rl) rfl rfl rfl rfl
      have hJ : OwJ w base g cap n [(w.heap.size, 25, #[.string e.title, .int .u8 e.rate, .bool e.drop, .slice (some ⟨bk, off, none⟩) n c]), (w.heap.size + 1, 25, #[.string ⟨#[]⟩, .int .u8 0, .bool false, .slice none 0 0])] (sw2 e.cuts ia ib (⟨num, rl', src, inn, out, nn, dd⟩ : Cut) (⟨num', rl', src', inn', out', nn', dd'⟩ : Cut)) w' := hJ
      obtain ⟨hc1, hf1⟩ := hJ.at_ (j := 1) (x := (⟨num', rl', src', inn', out', nn', dd'⟩ : Cut)) (sw2_j HJL.out) rfl
      have hJ2 := hJ.store (j := 1) (u := .string rl) (x := (⟨num', rl', src', inn', out', nn', dd'⟩ : Cut)) (x' := (⟨num', rl, src', inn', out', nn', dd'⟩ : Cut)) (sw2_j HJL.out) rfl (by decide)
      rw [sw2_sj] at hJ2
      have HK := Lib.hid (hk undef _ hJ2)
      simp only [Act.eval] at e104 e100
      clear hF hk hJ hJ2
      go_simp
      exact HK.out
    | p + 2, hp => simp at hp
  intro us w7a hl hJ
  obtain ⟨u0, u1, rfl⟩ := list_2 hl
  rename_i hK
  refine hK _ _ ?_
  clear hK
  generalize hL : frameL _ _ _ _ = L
  obtain rfl : L = [(87, .slice (some ⟨g, 0, none⟩) n cap), (88, .int .i64 ia), (89, .slice (some ⟨g, 0, none⟩) n cap), (90, .int .i64 ib), (91, .slice (some ⟨g, 0, none⟩) n cap), (92, .int .i64 ib), (93, .pointer (some ⟨g, ib * 7, none⟩)), (94, .pointer (some ⟨g, ib * 7 + 1, none⟩)), (95, .string rl'), (96, .slice (some ⟨g, 0, none⟩) n cap), (97, .int .i64 ia), (98, .pointer (some ⟨g, ia * 7, none⟩)), (99, .pointer (some ⟨g, ia * 7 + 1, none⟩)), (100, .string rl), (101, .pointer (some ⟨g, ia * 7, none⟩)), (102, .pointer (some ⟨g, ia * 7 + 1, none⟩)), (103, .pointer (some ⟨g, ib * 7, none⟩)), (104, .pointer (some ⟨g, ib * 7 + 1, none⟩))] := hL.symm.trans (by kernel_rfl)
  clear hL hl
  simp only [Act.put, List.foldl_cons, List.foldl_nil, List.setIfInBounds_toArray, List.set_cons_zero, List.set_cons_succ]
  have HJ2 := Lib.hid (show OwJ w base g cap n [(w.heap.size, 25, #[.string e.title, .int .u8 e.rate, .bool e.drop, .slice (some ⟨bk, off, none⟩) n c]), (w.heap.size + 1, 25, #[.string ⟨#[]⟩, .int .u8 0, .bool false, .slice none 0 0])] (sw2 e.cuts ia ib (⟨num, rl', src, inn, out, nn, dd⟩ : Cut) (⟨num', rl, src', inn', out', nn', dd'⟩ : Cut)) w7a from hJ)
  clear hJ HJ1
  go_wp2_with fail
  refine wp_region_links [some 105, some 106, some 107, some 108, some 109, some 110, some 111, some 112, some 113, some 114, some 115, some 116, some 117, some 118, some 119, some 120, none, some 121, some 122, none] [[], [], [], [], [], [], [4, 5], [6], [7], [], [], [9, 10], [11], [12], [0, 1, 0, 1, 4, 5, 6, 7, 8, 13], [14, 0, 1, 4, 5, 6, 7, 8, 13], [15, 8, 0, 1, 4, 5, 6, 7, 8, 13], [2, 3, 0, 1, 2, 3, 4, 5, 6, 7, 8, 9, 10, 11, 12, 13, 14, 15, 16], [17, 0, 1, 2, 3, 4, 5, 6, 7, 8, 9, 10, 11, 12, 13, 14, 15, 16], [18, 13, 16, 0, 1, 2, 3, 4, 5, 6, 7, 8, 9, 10, 11, 12, 13, 14, 15, 16]] [16, 19] [.slice (some ⟨g, 0, none⟩) n cap, .int .i64 ia, .slice (some ⟨g, 0, none⟩) n cap, .int .i64 ib, .slice (some ⟨g, 0, none⟩) n cap, .int .i64 ib, .pointer (some ⟨g, ib * 7, none⟩), .pointer (some ⟨g, ib * 7 + 2, none⟩), .int .i64 src', .slice (some ⟨g, 0, none⟩) n cap, .int .i64 ia, .pointer (some ⟨g, ia * 7, none⟩), .pointer (some ⟨g, ia * 7 + 2, none⟩), .int .i64 src, .pointer (some ⟨g, ia * 7, none⟩), .pointer (some ⟨g, ia * 7 + 2, none⟩), undef, .pointer (some ⟨g, ib * 7, none⟩), .pointer (some ⟨g, ib * 7 + 2, none⟩), undef] (Sw2 w base g cap n [(w.heap.size, 25, #[.string e.title, .int .u8 e.rate, .bool e.drop, .slice (some ⟨bk, off, none⟩) n c]), (w.heap.size + 1, 25, #[.string ⟨#[]⟩, .int .u8 0, .bool false, .slice none 0 0])] (sw2 e.cuts ia ib (⟨num, rl', src, inn, out, nn, dd⟩ : Cut) (⟨num', rl, src', inn', out', nn', dd'⟩ : Cut)) (sw2 e.cuts ia ib (⟨num, rl', src', inn, out, nn, dd⟩ : Cut) (⟨num', rl, src', inn', out', nn', dd'⟩ : Cut)) (sw2 e.cuts ia ib (⟨num, rl', src', inn, out, nn, dd⟩ : Cut) (⟨num', rl, src, inn', out', nn', dd'⟩ : Cut))) (by kernel_rfl) (by kernel_rfl) (by kernel_rfl) (by kernel_rfl) (by kernel_rfl) (by kernel_rfl) (by kernel_rfl) (by decide) ?_ ?_ ?_ ?_
  · exact HJ2.out.drew
  · intro i o ho hc a w' us K' hJ hF hlim hk
    match i, ho with
    | 0, ho =>
      simp only [List.getElem?_toArray, List.getElem?_cons_zero, List.getElem?_cons_succ, Option.some.injEq] at ho
      subst ho
      have e13 := hF.old 13 (.slice (some ⟨g, 0, none⟩) n cap) rfl rfl
      simp only [Act.eval] at e13
      clear hF hlim hJ
      go_simp
      exact hk
    | 1, ho =>
      simp only [List.getElem?_toArray, List.getElem?_cons_zero, List.getElem?_cons_succ, Option.some.injEq] at ho
      subst ho
      have e11 := hF.old 11 (.int .i64 ia) rfl rfl
      simp only [Act.eval] at e11
      clear hF hlim hJ
      go_simp
      exact hk
    | 2, ho =>
      simp only [List.getElem?_toArray, List.getElem?_cons_zero, List.getElem?_cons_succ, Option.some.injEq] at ho
      subst ho
      have e13 := hF.old 13 (.slice (some ⟨g, 0, none⟩) n cap) rfl rfl
      simp only [Act.eval] at e13
      clear hF hlim hJ
      go_simp
      exact hk
    | 3, ho =>
      simp only [List.getElem?_toArray, List.getElem?_cons_zero, List.getElem?_cons_succ, Option.some.injEq] at ho
      subst ho
      have e12 := hF.old 12 (.int .i64 ib) rfl rfl
      simp only [Act.eval] at e12
      clear hF hlim hJ
      go_simp
      exact hk
    | 4, ho =>
      simp only [List.getElem?_toArray, List.getElem?_cons_zero, List.getElem?_cons_succ, Option.some.injEq] at ho
      subst ho
      have e13 := hF.old 13 (.slice (some ⟨g, 0, none⟩) n cap) rfl rfl
      simp only [Act.eval] at e13
      clear hF hlim hJ
      go_simp
      exact hk
    | 5, ho =>
      simp only [List.getElem?_toArray, List.getElem?_cons_zero, List.getElem?_cons_succ, Option.some.injEq] at ho
      subst ho
      have e12 := hF.old 12 (.int .i64 ib) rfl rfl
      simp only [Act.eval] at e12
      clear hF hlim hJ
      go_simp
      exact hk
    | 6, ho =>
      simp only [List.getElem?_toArray, List.getElem?_cons_zero, List.getElem?_cons_succ, Option.some.injEq] at ho
      subst ho
      have e109 := hF.pure 4 109 (.slice (some ⟨g, 0, none⟩) n cap) rfl rfl rfl rfl
      have e110 := hF.pure 5 110 (.int .i64 ib) rfl rfl rfl rfl
      exact wp_ix_cut0 rfl e109 e110 hib hk
    | 7, ho =>
      simp only [List.getElem?_toArray, List.getElem?_cons_zero, List.getElem?_cons_succ, Option.some.injEq] at ho
      subst ho
      have e111 := hF.pure 6 111 (.pointer (some ⟨g, ib * 7, none⟩)) rfl rfl rfl rfl
      simp only [Act.eval] at e111
      clear hF hlim hJ
      go_simp
      exact hk
    | 8, ho =>
      simp only [List.getElem?_toArray, List.getElem?_cons_zero, List.getElem?_cons_succ, Option.some.injEq] at ho
      subst ho
      have e112 := hF.pure 7 112 (.pointer (some ⟨g, ib * 7 + 2, none⟩)) rfl rfl rfl rfl
      have hJs := hJ.start (hlim 0 16 rfl rfl)
      have hcl := (hJs.at_ (j := 2) (sw2_j HJL.out) rfl).1
      clear hJs
      simp only [Act.eval] at e112
      clear hF hlim hJ
      go_simp
      exact hk
    | 9, ho =>
      simp only [List.getElem?_toArray, List.getElem?_cons_zero, List.getElem?_cons_succ, Option.some.injEq] at ho
      subst ho
      have e13 := hF.old 13 (.slice (some ⟨g, 0, none⟩) n cap) rfl rfl
      simp only [Act.eval] at e13
      clear hF hlim hJ
      go_simp
      exact hk
    | 10, ho =>
      simp only [List.getElem?_toArray, List.getElem?_cons_zero, List.getElem?_cons_succ, Option.some.injEq] at ho
      subst ho
      have e11 := hF.old 11 (.int .i64 ia) rfl rfl
      simp only [Act.eval] at e11
      clear hF hlim hJ
      go_simp
      exact hk
    | 11, ho =>
      simp only [List.getElem?_toArray, List.getElem?_cons_zero, List.getElem?_cons_succ, Option.some.injEq] at ho
      subst ho
      have e114 := hF.pure 9 114 (.slice (some ⟨g, 0, none⟩) n cap) rfl rfl rfl rfl
      have e115 := hF.pure 10 115 (.int .i64 ia) rfl rfl rfl rfl
      exact wp_ix_cut0 rfl e114 e115 hia hk
    | 12, ho =>
      simp only [List.getElem?_toArray, List.getElem?_cons_zero, List.getElem?_cons_succ, Option.some.injEq] at ho
      subst ho
      have e116 := hF.pure 11 116 (.pointer (some ⟨g, ia * 7, none⟩)) rfl rfl rfl rfl
      simp only [Act.eval] at e116
      clear hF hlim hJ
      go_simp
      exact hk
    | 13, ho =>
      simp only [List.getElem?_toArray, List.getElem?_cons_zero, List.getElem?_cons_succ, Option.some.injEq] at ho
      subst ho
      have e117 := hF.pure 12 117 (.pointer (some ⟨g, ia * 7 + 2, none⟩)) rfl rfl rfl rfl
      have hJs := hJ.start (hlim 0 16 rfl rfl)
      have hcl := (hJs.at_ (j := 2) (sw2_i hij HIL.out) rfl).1
      clear hJs
      simp only [Act.eval] at e117
      clear hF hlim hJ
      go_simp
      exact hk
    | 14, ho =>
      simp only [List.getElem?_toArray, List.getElem?_cons_zero, List.getElem?_cons_succ, Option.some.injEq] at ho
      subst ho
      have e105 := hF.pure 0 105 (.slice (some ⟨g, 0, none⟩) n cap) rfl rfl rfl rfl
      have e106 := hF.pure 1 106 (.int .i64 ia) rfl rfl rfl rfl
      exact wp_ix_cut0 rfl e105 e106 hia hk
    | 15, ho =>
      simp only [List.getElem?_toArray, List.getElem?_cons_zero, List.getElem?_cons_succ, Option.some.injEq] at ho
      subst ho
      have e119 := hF.pure 14 119 (.pointer (some ⟨g, ia * 7, none⟩)) rfl rfl rfl rfl
      simp only [Act.eval] at e119
      clear hF hlim hJ
      go_simp
      exact hk
    | 16, ho => simp at hc
    | 17, ho =>
      simp only [List.getElem?_toArray, List.getElem?_cons_zero, List.getElem?_cons_succ, Option.some.injEq] at ho
      subst ho
      have e107 := hF.pure 2 107 (.slice (some ⟨g, 0, none⟩) n cap) rfl rfl rfl rfl
      have e108 := hF.pure 3 108 (.int .i64 ib) rfl rfl rfl rfl
      exact wp_ix_cut0 rfl e107 e108 hib hk
    | 18, ho =>
      simp only [List.getElem?_toArray, List.getElem?_cons_zero, List.getElem?_cons_succ, Option.some.injEq] at ho
      subst ho
      have e121 := hF.pure 17 121 (.pointer (some ⟨g, ib * 7, none⟩)) rfl rfl rfl rfl
      simp only [Act.eval] at e121
      clear hF hlim hJ
      go_simp
      exact hk
    | 19, ho => simp at hc
    | i + 20, ho => simp at ho
  · intro p c' o hp ho a w' us K' hl hJ hF hk
    match p, hp with
    | 0, hp =>
      obtain rfl : 16 = c' := by simpa using hp
      simp only [List.getElem?_toArray, List.getElem?_cons_zero, List.getElem?_cons_succ, Option.some.injEq] at ho
      subst ho
      obtain rfl : us = [] := List.eq_nil_of_length_eq_zero hl
      have e120 := hF.pure 15 120 (.pointer (some ⟨g, ia * 7 + 2, none⟩)) rfl rfl rfl rfl
      have e113 := hF.pure 8 113 (.int .i64 src') rfl rfl rfl rfl
      have hJ : OwJ w base g cap n [(w.heap.size, 25, #[.string e.title, .int .u8 e.rate, .bool e.drop, .slice (some ⟨bk, off, none⟩) n c]), (w.heap.size + 1, 25, #[.string ⟨#[]⟩, .int .u8 0, .bool false, .slice none 0 0])] (sw2 e.cuts ia ib (⟨num, rl', src, inn, out, nn, dd⟩ : Cut) (⟨num', rl, src', inn', out', nn', dd'⟩ : Cut)) w' := hJ
      obtain ⟨hc1, hf1⟩ := hJ.at_ (j := 2) (x := (⟨num, rl', src, inn, out, nn, dd⟩ : Cut)) (sw2_i hij HIL.out) rfl
      have hJ2 := hJ.store (j := 2) (u := .int .i64 src') (x := (⟨num, rl', src, inn, out, nn, dd⟩ : Cut)) (x' := (⟨num, rl', src', inn, out, nn, dd⟩ : Cut)) (sw2_i hij HIL.out) rfl (by decide)
      rw [sw2_si hij] at hJ2
      have HK := Lib.hid (hk undef _ hJ2)
      simp only [Act.eval] at e120 e113
      clear hF hk hJ hJ2
      go_simp
      exact HK.out
    | 1, hp =>
      obtain rfl : 19 = c' := by simpa using hp
      simp only [List.getElem?_toArray, List.getElem?_cons_zero, List.getElem?_cons_succ, Option.some.injEq] at ho
      subst ho
      obtain ⟨u0, rfl⟩ := list_1 hl
      have e122 := hF.pure 18 122 (.pointer (some ⟨g, ib * 7 + 2, none⟩)) rfl rfl rfl rfl
      have e118 := hF.pure 13 118 (.int .i64 src) rfl rfl rfl rfl
      have hJ : OwJ w base g cap n [(w.heap.size, 25, #[.string e.title, .int .u8 e.rate, .bool e.drop, .slice (some ⟨bk, off, none⟩) n c]), (w.heap.size + 1, 25, #[.string ⟨#[]⟩, .int .u8 0, .bool false, .slice none 0 0])] (sw2 e.cuts ia ib (⟨num, rl', src', inn, out, nn, dd⟩ : Cut) (⟨num', rl, src', inn', out', nn', dd'⟩ : Cut)) w' := hJ
      obtain ⟨hc1, hf1⟩ := hJ.at_ (j := 2) (x := (⟨num', rl, src', inn', out', nn', dd'⟩ : Cut)) (sw2_j HJL.out) rfl
      have hJ2 := hJ.store (j := 2) (u := .int .i64 src) (x := (⟨num', rl, src', inn', out', nn', dd'⟩ : Cut)) (x' := (⟨num', rl, src, inn', out', nn', dd'⟩ : Cut)) (sw2_j HJL.out) rfl (by decide)
      rw [sw2_sj] at hJ2
      have HK := Lib.hid (hk undef _ hJ2)
      simp only [Act.eval] at e122 e118
      clear hF hk hJ hJ2
      go_simp
      exact HK.out
    | p + 2, hp => simp at hp
  intro us w7b hl hJ
  obtain ⟨u0, u1, rfl⟩ := list_2 hl
  rename_i hK
  refine hK _ _ ?_
  clear hK
  generalize hL : frameL _ _ _ _ = L
  obtain rfl : L = [(105, .slice (some ⟨g, 0, none⟩) n cap), (106, .int .i64 ia), (107, .slice (some ⟨g, 0, none⟩) n cap), (108, .int .i64 ib), (109, .slice (some ⟨g, 0, none⟩) n cap), (110, .int .i64 ib), (111, .pointer (some ⟨g, ib * 7, none⟩)), (112, .pointer (some ⟨g, ib * 7 + 2, none⟩)), (113, .int .i64 src'), (114, .slice (some ⟨g, 0, none⟩) n cap), (115, .int .i64 ia), (116, .pointer (some ⟨g, ia * 7, none⟩)), (117, .pointer (some ⟨g, ia * 7 + 2, none⟩)), (118, .int .i64 src), (119, .pointer (some ⟨g, ia * 7, none⟩)), (120, .pointer (some ⟨g, ia * 7 + 2, none⟩)), (121, .pointer (some ⟨g, ib * 7, none⟩)), (122, .pointer (some ⟨g, ib * 7 + 2, none⟩))] := hL.symm.trans (by kernel_rfl)
  clear hL hl
  simp only [Act.put, List.foldl_cons, List.foldl_nil, List.setIfInBounds_toArray, List.set_cons_zero, List.set_cons_succ]
  have HJ3 := Lib.hid (show OwJ w base g cap n [(w.heap.size, 25, #[.string e.title, .int .u8 e.rate, .bool e.drop, .slice (some ⟨bk, off, none⟩) n c]), (w.heap.size + 1, 25, #[.string ⟨#[]⟩, .int .u8 0, .bool false, .slice none 0 0])] (sw2 e.cuts ia ib (⟨num, rl', src', inn, out, nn, dd⟩ : Cut) (⟨num', rl, src, inn', out', nn', dd'⟩ : Cut)) w7b from hJ)
  clear hJ HJ2
  go_wp2_with fail
  refine wp_region_links [some 123, some 124, some 125, some 126, some 127, some 128, some 129, some 130, some 131, some 132, some 133, some 134, some 135, some 136, some 137, some 138, none, some 139, some 140, none] [[], [], [], [], [], [], [4, 5], [6], [7], [], [], [9, 10], [11], [12], [0, 1, 0, 1, 4, 5, 6, 7, 8, 13], [14, 0, 1, 4, 5, 6, 7, 8, 13], [15, 8, 0, 1, 4, 5, 6, 7, 8, 13], [2, 3, 0, 1, 2, 3, 4, 5, 6, 7, 8, 9, 10, 11, 12, 13, 14, 15, 16], [17, 0, 1, 2, 3, 4, 5, 6, 7, 8, 9, 10, 11, 12, 13, 14, 15, 16], [18, 13, 16, 0, 1, 2, 3, 4, 5, 6, 7, 8, 9, 10, 11, 12, 13, 14, 15, 16]] [16, 19] [.slice (some ⟨g, 0, none⟩) n cap, .int .i64 ia, .slice (some ⟨g, 0, none⟩) n cap, .int .i64 ib, .slice (some ⟨g, 0, none⟩) n cap, .int .i64 ib, .pointer (some ⟨g, ib * 7, none⟩), .pointer (some ⟨g, ib * 7 + 5, none⟩), .agg #[.int .i64 nn', .int .i64 dd'], .slice (some ⟨g, 0, none⟩) n cap, .int .i64 ia, .pointer (some ⟨g, ia * 7, none⟩), .pointer (some ⟨g, ia * 7 + 5, none⟩), .agg #[.int .i64 nn, .int .i64 dd], .pointer (some ⟨g, ia * 7, none⟩), .pointer (some ⟨g, ia * 7 + 5, none⟩), undef, .pointer (some ⟨g, ib * 7, none⟩), .pointer (some ⟨g, ib * 7 + 5, none⟩), undef] (Sw2 w base g cap n [(w.heap.size, 25, #[.string e.title, .int .u8 e.rate, .bool e.drop, .slice (some ⟨bk, off, none⟩) n c]), (w.heap.size + 1, 25, #[.string ⟨#[]⟩, .int .u8 0, .bool false, .slice none 0 0])] (sw2 e.cuts ia ib (⟨num, rl', src', inn, out, nn, dd⟩ : Cut) (⟨num', rl, src, inn', out', nn', dd'⟩ : Cut)) (sw2 e.cuts ia ib (⟨num, rl', src', inn, out, nn', dd'⟩ : Cut) (⟨num', rl, src, inn', out', nn', dd'⟩ : Cut)) (sw2 e.cuts ia ib (⟨num, rl', src', inn, out, nn', dd'⟩ : Cut) (⟨num', rl, src, inn', out', nn, dd⟩ : Cut))) (by kernel_rfl) (by kernel_rfl) (by kernel_rfl) (by kernel_rfl) (by kernel_rfl) (by kernel_rfl) (by kernel_rfl) (by decide) ?_ ?_ ?_ ?_
  · exact HJ3.out.drew
  · intro i o ho hc a w' us K' hJ hF hlim hk
    match i, ho with
    | 0, ho =>
      simp only [List.getElem?_toArray, List.getElem?_cons_zero, List.getElem?_cons_succ, Option.some.injEq] at ho
      subst ho
      have e13 := hF.old 13 (.slice (some ⟨g, 0, none⟩) n cap) rfl rfl
      simp only [Act.eval] at e13
      clear hF hlim hJ
      go_simp
      exact hk
    | 1, ho =>
      simp only [List.getElem?_toArray, List.getElem?_cons_zero, List.getElem?_cons_succ, Option.some.injEq] at ho
      subst ho
      have e11 := hF.old 11 (.int .i64 ia) rfl rfl
      simp only [Act.eval] at e11
      clear hF hlim hJ
      go_simp
      exact hk
    | 2, ho =>
      simp only [List.getElem?_toArray, List.getElem?_cons_zero, List.getElem?_cons_succ, Option.some.injEq] at ho
      subst ho
      have e13 := hF.old 13 (.slice (some ⟨g, 0, none⟩) n cap) rfl rfl
      simp only [Act.eval] at e13
      clear hF hlim hJ
      go_simp
      exact hk
    | 3, ho =>
      simp only [List.getElem?_toArray, List.getElem?_cons_zero, List.getElem?_cons_succ, Option.some.injEq] at ho
      subst ho
      have e12 := hF.old 12 (.int .i64 ib) rfl rfl
      simp only [Act.eval] at e12
      clear hF hlim hJ
      go_simp
      exact hk
    | 4, ho =>
      simp only [List.getElem?_toArray, List.getElem?_cons_zero, List.getElem?_cons_succ, Option.some.injEq] at ho
      subst ho
      have e13 := hF.old 13 (.slice (some ⟨g, 0, none⟩) n cap) rfl rfl
      simp only [Act.eval] at e13
      clear hF hlim hJ
      go_simp
      exact hk
    | 5, ho =>
      simp only [List.getElem?_toArray, List.getElem?_cons_zero, List.getElem?_cons_succ, Option.some.injEq] at ho
      subst ho
      have e12 := hF.old 12 (.int .i64 ib) rfl rfl
      simp only [Act.eval] at e12
      clear hF hlim hJ
      go_simp
      exact hk
    | 6, ho =>
      simp only [List.getElem?_toArray, List.getElem?_cons_zero, List.getElem?_cons_succ, Option.some.injEq] at ho
      subst ho
      have e127 := hF.pure 4 127 (.slice (some ⟨g, 0, none⟩) n cap) rfl rfl rfl rfl
      have e128 := hF.pure 5 128 (.int .i64 ib) rfl rfl rfl rfl
      exact wp_ix_cut0 rfl e127 e128 hib hk
    | 7, ho =>
      simp only [List.getElem?_toArray, List.getElem?_cons_zero, List.getElem?_cons_succ, Option.some.injEq] at ho
      subst ho
      have e129 := hF.pure 6 129 (.pointer (some ⟨g, ib * 7, none⟩)) rfl rfl rfl rfl
      simp only [Act.eval] at e129
      clear hF hlim hJ
      go_simp
      exact hk
    | 8, ho =>
      simp only [List.getElem?_toArray, List.getElem?_cons_zero, List.getElem?_cons_succ, Option.some.injEq] at ho
      subst ho
      have e130 := hF.pure 7 130 (.pointer (some ⟨g, ib * 7 + 5, none⟩)) rfl rfl rfl rfl
      have hJs := hJ.start (hlim 0 16 rfl rfl)
      have hcl := (hJs.at_ (j := 5) (sw2_j HJL.out) rfl).1
      have hcl2 := (hJs.at_ (j := 6) (sw2_j HJL.out) rfl).1
      clear hJs
      simp only [Act.eval] at e130
      clear hF hlim hJ
      go_simp
      exact hk
    | 9, ho =>
      simp only [List.getElem?_toArray, List.getElem?_cons_zero, List.getElem?_cons_succ, Option.some.injEq] at ho
      subst ho
      have e13 := hF.old 13 (.slice (some ⟨g, 0, none⟩) n cap) rfl rfl
      simp only [Act.eval] at e13
      clear hF hlim hJ
      go_simp
      exact hk
    | 10, ho =>
      simp only [List.getElem?_toArray, List.getElem?_cons_zero, List.getElem?_cons_succ, Option.some.injEq] at ho
      subst ho
      have e11 := hF.old 11 (.int .i64 ia) rfl rfl
      simp only [Act.eval] at e11
      clear hF hlim hJ
      go_simp
      exact hk
    | 11, ho =>
      simp only [List.getElem?_toArray, List.getElem?_cons_zero, List.getElem?_cons_succ, Option.some.injEq] at ho
      subst ho
      have e132 := hF.pure 9 132 (.slice (some ⟨g, 0, none⟩) n cap) rfl rfl rfl rfl
      have e133 := hF.pure 10 133 (.int .i64 ia) rfl rfl rfl rfl
      exact wp_ix_cut0 rfl e132 e133 hia hk
    | 12, ho =>
      simp only [List.getElem?_toArray, List.getElem?_cons_zero, List.getElem?_cons_succ, Option.some.injEq] at ho
      subst ho
      have e134 := hF.pure 11 134 (.pointer (some ⟨g, ia * 7, none⟩)) rfl rfl rfl rfl
      simp only [Act.eval] at e134
      clear hF hlim hJ
      go_simp
      exact hk
    | 13, ho =>
      simp only [List.getElem?_toArray, List.getElem?_cons_zero, List.getElem?_cons_succ, Option.some.injEq] at ho
      subst ho
      have e135 := hF.pure 12 135 (.pointer (some ⟨g, ia * 7 + 5, none⟩)) rfl rfl rfl rfl
      have hJs := hJ.start (hlim 0 16 rfl rfl)
      have hcl := (hJs.at_ (j := 5) (sw2_i hij HIL.out) rfl).1
      have hcl2 := (hJs.at_ (j := 6) (sw2_i hij HIL.out) rfl).1
      clear hJs
      simp only [Act.eval] at e135
      clear hF hlim hJ
      go_simp
      exact hk
    | 14, ho =>
      simp only [List.getElem?_toArray, List.getElem?_cons_zero, List.getElem?_cons_succ, Option.some.injEq] at ho
      subst ho
      have e123 := hF.pure 0 123 (.slice (some ⟨g, 0, none⟩) n cap) rfl rfl rfl rfl
      have e124 := hF.pure 1 124 (.int .i64 ia) rfl rfl rfl rfl
      exact wp_ix_cut0 rfl e123 e124 hia hk
    | 15, ho =>
      simp only [List.getElem?_toArray, List.getElem?_cons_zero, List.getElem?_cons_succ, Option.some.injEq] at ho
      subst ho
      have e137 := hF.pure 14 137 (.pointer (some ⟨g, ia * 7, none⟩)) rfl rfl rfl rfl
      simp only [Act.eval] at e137
      clear hF hlim hJ
      go_simp
      exact hk
    | 16, ho => simp at hc
    | 17, ho =>
      simp only [List.getElem?_toArray, List.getElem?_cons_zero, List.getElem?_cons_succ, Option.some.injEq] at ho
      subst ho
      have e125 := hF.pure 2 125 (.slice (some ⟨g, 0, none⟩) n cap) rfl rfl rfl rfl
      have e126 := hF.pure 3 126 (.int .i64 ib) rfl rfl rfl rfl
      exact wp_ix_cut0 rfl e125 e126 hib hk
    | 18, ho =>
      simp only [List.getElem?_toArray, List.getElem?_cons_zero, List.getElem?_cons_succ, Option.some.injEq] at ho
      subst ho
      have e139 := hF.pure 17 139 (.pointer (some ⟨g, ib * 7, none⟩)) rfl rfl rfl rfl
      simp only [Act.eval] at e139
      clear hF hlim hJ
      go_simp
      exact hk
    | 19, ho => simp at hc
    | i + 20, ho => simp at ho
  · intro p c' o hp ho a w' us K' hl hJ hF hk
    match p, hp with
    | 0, hp =>
      obtain rfl : 16 = c' := by simpa using hp
      simp only [List.getElem?_toArray, List.getElem?_cons_zero, List.getElem?_cons_succ, Option.some.injEq] at ho
      subst ho
      obtain rfl : us = [] := List.eq_nil_of_length_eq_zero hl
      have e138 := hF.pure 15 138 (.pointer (some ⟨g, ia * 7 + 5, none⟩)) rfl rfl rfl rfl
      have e131 := hF.pure 8 131 (.agg #[.int .i64 nn', .int .i64 dd']) rfl rfl rfl rfl
      have hJ : OwJ w base g cap n [(w.heap.size, 25, #[.string e.title, .int .u8 e.rate, .bool e.drop, .slice (some ⟨bk, off, none⟩) n c]), (w.heap.size + 1, 25, #[.string ⟨#[]⟩, .int .u8 0, .bool false, .slice none 0 0])] (sw2 e.cuts ia ib (⟨num, rl', src', inn, out, nn, dd⟩ : Cut) (⟨num', rl, src, inn', out', nn', dd'⟩ : Cut)) w' := hJ
      obtain ⟨hc1, hf1⟩ := hJ.at_ (j := 5) (x := (⟨num, rl', src', inn, out, nn, dd⟩ : Cut)) (sw2_i hij HIL.out) rfl
      obtain ⟨hc2, hf2⟩ := hJ.at_ (j := 6) (x := (⟨num, rl', src', inn, out, nn, dd⟩ : Cut)) (sw2_i hij HIL.out) rfl
      have hJ2 := hJ.store (j := 5) (u := .int .i64 nn') (x := (⟨num, rl', src', inn, out, nn, dd⟩ : Cut)) (x' := (⟨num, rl', src', inn, out, nn', dd⟩ : Cut)) (sw2_i hij HIL.out) rfl (by decide)
      rw [sw2_si hij] at hJ2
      obtain ⟨hc3, hf3⟩ := hJ2.at_ (j := 6) (x := (⟨num, rl', src', inn, out, nn', dd⟩ : Cut)) (sw2_i hij HIL.out) rfl
      have hJ3 := hJ2.store (j := 6) (u := .int .i64 dd') (x := (⟨num, rl', src', inn, out, nn', dd⟩ : Cut)) (x' := (⟨num, rl', src', inn, out, nn', dd'⟩ : Cut)) (sw2_i hij HIL.out) rfl (by decide)
      rw [sw2_si hij] at hJ3
      have HK := Lib.hid (hk undef _ hJ3)
      simp only [Act.eval] at e138 e131
      clear hF hk hJ hJ2 hJ3
      go_simp
      exact HK.out
    | 1, hp =>
      obtain rfl : 19 = c' := by simpa using hp
      simp only [List.getElem?_toArray, List.getElem?_cons_zero, List.getElem?_cons_succ, Option.some.injEq] at ho
      subst ho
      obtain ⟨u0, rfl⟩ := list_1 hl
      have e140 := hF.pure 18 140 (.pointer (some ⟨g, ib * 7 + 5, none⟩)) rfl rfl rfl rfl
      have e136 := hF.pure 13 136 (.agg #[.int .i64 nn, .int .i64 dd]) rfl rfl rfl rfl
      have hJ : OwJ w base g cap n [(w.heap.size, 25, #[.string e.title, .int .u8 e.rate, .bool e.drop, .slice (some ⟨bk, off, none⟩) n c]), (w.heap.size + 1, 25, #[.string ⟨#[]⟩, .int .u8 0, .bool false, .slice none 0 0])] (sw2 e.cuts ia ib (⟨num, rl', src', inn, out, nn', dd'⟩ : Cut) (⟨num', rl, src, inn', out', nn', dd'⟩ : Cut)) w' := hJ
      obtain ⟨hc1, hf1⟩ := hJ.at_ (j := 5) (x := (⟨num', rl, src, inn', out', nn', dd'⟩ : Cut)) (sw2_j HJL.out) rfl
      obtain ⟨hc2, hf2⟩ := hJ.at_ (j := 6) (x := (⟨num', rl, src, inn', out', nn', dd'⟩ : Cut)) (sw2_j HJL.out) rfl
      have hJ2 := hJ.store (j := 5) (u := .int .i64 nn) (x := (⟨num', rl, src, inn', out', nn', dd'⟩ : Cut)) (x' := (⟨num', rl, src, inn', out', nn, dd'⟩ : Cut)) (sw2_j HJL.out) rfl (by decide)
      rw [sw2_sj] at hJ2
      obtain ⟨hc3, hf3⟩ := hJ2.at_ (j := 6) (x := (⟨num', rl, src, inn', out', nn, dd'⟩ : Cut)) (sw2_j HJL.out) rfl
      have hJ3 := hJ2.store (j := 6) (u := .int .i64 dd) (x := (⟨num', rl, src, inn', out', nn, dd'⟩ : Cut)) (x' := (⟨num', rl, src, inn', out', nn, dd⟩ : Cut)) (sw2_j HJL.out) rfl (by decide)
      rw [sw2_sj] at hJ3
      have HK := Lib.hid (hk undef _ hJ3)
      simp only [Act.eval] at e140 e136
      clear hF hk hJ hJ2 hJ3
      go_simp
      exact HK.out
    | p + 2, hp => simp at hp
  intro us w8 hl hJ
  obtain ⟨u0, u1, rfl⟩ := list_2 hl
  rename_i hK
  refine hK _ _ ?_
  clear hK
  generalize hL : frameL _ _ _ _ = L
  obtain rfl : L = [(123, .slice (some ⟨g, 0, none⟩) n cap), (124, .int .i64 ia), (125, .slice (some ⟨g, 0, none⟩) n cap), (126, .int .i64 ib), (127, .slice (some ⟨g, 0, none⟩) n cap), (128, .int .i64 ib), (129, .pointer (some ⟨g, ib * 7, none⟩)), (130, .pointer (some ⟨g, ib * 7 + 5, none⟩)), (131, .agg #[.int .i64 nn', .int .i64 dd']), (132, .slice (some ⟨g, 0, none⟩) n cap), (133, .int .i64 ia), (134, .pointer (some ⟨g, ia * 7, none⟩)), (135, .pointer (some ⟨g, ia * 7 + 5, none⟩)), (136, .agg #[.int .i64 nn, .int .i64 dd]), (137, .pointer (some ⟨g, ia * 7, none⟩)), (138, .pointer (some ⟨g, ia * 7 + 5, none⟩)), (139, .pointer (some ⟨g, ib * 7, none⟩)), (140, .pointer (some ⟨g, ib * 7 + 5, none⟩))] := hL.symm.trans (by kernel_rfl)
  clear hL hl
  simp only [Act.put, List.foldl_cons, List.foldl_nil, List.setIfInBounds_toArray, List.set_cons_zero, List.set_cons_succ]
  have HJ4 := Lib.hid (show OwJ w base g cap n [(w.heap.size, 25, #[.string e.title, .int .u8 e.rate, .bool e.drop, .slice (some ⟨bk, off, none⟩) n c]), (w.heap.size + 1, 25, #[.string ⟨#[]⟩, .int .u8 0, .bool false, .slice none 0 0])] (sw2 e.cuts ia ib (⟨num, rl', src', inn, out, nn', dd'⟩ : Cut) (⟨num', rl, src, inn', out', nn, dd⟩ : Cut)) w8 from hJ)
  clear hJ HJ3
  have hJ8 := HJ4.out
  rw [show sw2 e.cuts ia ib (⟨num, rl', src', inn, out, nn', dd'⟩ : Cut) (⟨num', rl, src, inn', out', nn, dd⟩ : Cut) = swapC e.cuts ia ib from HCw.out.symm] at hJ8
  obtain ⟨hS8, hcap8⟩ := hJ8.sl
  have HS8 := Lib.hid hS8
  have HX8 := Lib.hid hJ8.ext
  have HBl8 := Lib.hid (hJ8.blk _ mem0).2
  have HBr8 := Lib.hid (hJ8.blk _ mem1).2
  have hgb8 := hJ8.hg
  have hb08 := (hJ8.blk _ mem1).1
  dsimp only at HBl8 HBr8 hb08
  clear hJ8 hS8 HJ4
  have hcl := fun o => HBl8.out.cell o
  have hfl := fun o => HBl8.out.frozen o
  have hset := setCell_put HBl8.out 3 (.slice (some ⟨g, 0, none⟩) n cap)
  have HB9 := Lib.hid (show Blk (w8.setCell ⟨w.heap.size, 3, none⟩ (.slice (some ⟨g, 0, none⟩) n cap)) w.heap.size 25 #[.string e.title, .int .u8 e.rate, .bool e.drop, .slice (some ⟨g, 0, none⟩) n cap] by rw [hset]; exact HBl8.out.put _)
  have HBr9 := Lib.hid (show Blk (w8.setCell ⟨w.heap.size, 3, none⟩ (.slice (some ⟨g, 0, none⟩) n cap)) (w.heap.size + 1) 25 #[.string ⟨#[]⟩, .int .u8 0, .bool false, .slice none 0 0] by rw [hset]; exact HBr8.out.put_other (by omega) _)
  have HX9 := Lib.hid (show Ext w (w8.setCell ⟨w.heap.size, 3, none⟩ (.slice (some ⟨g, 0, none⟩) n cap)) by rw [hset]; exact HX8.out.put (Nat.le_refl _) _ _)
  have HS9 := Lib.hid (show CutsAt (w8.setCell ⟨w.heap.size, 3, none⟩ (.slice (some ⟨g, 0, none⟩) n cap)) (some ⟨g, 0, none⟩) n (swapC e.cuts ia ib) by
    rw [hset]
    refine CutsAt.same HS8.out fun ad had o => ?_
    obtain rfl := Option.some.inj had
    exact putB_cell_other (by show g ≠ _; omega))
  clear hset HX8 HS8 HBr8
  have HSE := Lib.hid (show swapErr e na nb = edlErr { e with cuts := swapC e.cuts ia ib } by rw [HPc.out HPz.out, HSL.out])
  go_wp2_with (refine wpList_loadB rfl 25 (.tmp 3) rfl w.heap.size 25 _ _ (by exact rfl) (by exact HB9.out) Tryd.underlying25 rfl (by exact rsize_list) ?_)
  refine (HC2.out (swapC e.cuts ia ib) _ _ _ _ HS9.out hn (HFt.out ia ib HIL.out HJL.out)).mono ?_
  rintro en w9 ⟨rfl, hx9⟩
  rw [← HSE.out]
  have HXa := Lib.hid (HX9.out.trans hx9)
  have HBla := Lib.hid (HB9.out.ext hx9)
  have HBra := Lib.hid (HBr9.out.ext hx9)
  have HSa := Lib.hid (HS9.out.ext hx9)
  clear hx9 HX9 HB9 HBr9 HS9 hcl hfl HBl8
  by_cases hse : swapErr e na nb = 0
  case neg =>
    have hne : (swapErr e na nb != 0) = true := by simpa using hse
    have HNe := Lib.hid hse
    clear hse
    go_wp2_with (refine wpList_storeB rfl 25 (.tmp 6) (.tmp 147) rfl (w.heap.size + 1) 25 _ _ (by exact rfl) (by exact rfl) (by exact HBra.out) (by exact rfl) (by exact rsize_list) (by simp [Value.oneCell']) ?_)
    refine bodyPost_ret (v := .tuple #[.agg #[.string ⟨#[]⟩, .int .u8 0, .bool false, .slice none 0 0], .int .i64 (swapErr e na nb)]) ?_ rfl ⟨none, 0, 0, by rw [HBad.out HNe.out]; rfl, by rw [HBad.out HNe.out]; exact Sl.nil, Nat.le_refl _, ?_⟩
    · exact results_B_tmp (P := Tryd.prog) Tryd.results15 (g := w.heap.size + 1) rfl (by exact HBra.out.put _) Tryd.underlying25 rfl rsize_list
    · exact HXa.out.put (by omega) _ _
  case pos =>
    have HZe := Lib.hid hse
    rw [hse]
    clear hse
    go_wp2_with (first | (refine wpList_loadB rfl 25 (.tmp 3) rfl w.heap.size 25 _ _ (by exact rfl) (by exact HBla.out) Tryd.underlying25 rfl (by exact rsize_list) ?_) | (refine wpList_storeB rfl 25 (.tmp 6) (.tmp 149) rfl (w.heap.size + 1) 25 _ _ (by exact rfl) (by exact rfl) (by exact HBra.out) (by exact rfl) (by exact rsize_list) (by simp [Value.oneCell']) ?_))
    refine bodyPost_ret (v := .tuple #[.agg #[.string e.title, .int .u8 e.rate, .bool e.drop, .slice (some ⟨g, 0, none⟩) n cap], .int .i64 0]) ?_ rfl ⟨some ⟨g, 0, none⟩, n, cap, by rw [HGood.out HZe.out, HSL.out, HZe.out], ?_, hcap8, ?_⟩
    · exact results_B_tmp (P := Tryd.prog) Tryd.results15 (g := w.heap.size + 1) rfl (by exact HBra.out.put _) Tryd.underlying25 rfl rsize_list
    · rw [HGood.out HZe.out, HSL.out]
      refine CutsAt.same HSa.out fun ad had o => ?_
      obtain rfl := Option.some.inj had
      exact putB_cell_other (by show g ≠ _; omega)
    · exact HXa.out.put (by omega) _ _
end Go.Proofs.YtffianmhojiomaaDoor
