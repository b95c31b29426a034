/- Texts laid together. -/
import Derived.Test.YtbmblnhfmpolbaaGreatDoorTm10
import Derived.Test.YtbmblnhfmpolbaaGreatDoorTm07
set_option linter.unusedVariables false
set_option linter.unusedSimpArgs false
namespace Go.Proofs.YtbmblnhfmpolbaaGreatDoor
section
open Go.RowKit Go.Maps
theorem zero_int (w : World) : (zeroValue 3).run Tryz.prog w = .ok (.int .i64 0) w := by kernel_rfl
def Com.cells (c : Com) : Array Value := #[.int .i64 c.id, .int .i64 c.ev, .int .i64 c.fr, .int .i64 c.til, .string c.author, .string c.text, .bool c.done, .bool c.lost]
def EvsSmall (l : List Ev) : Prop := ∀ e ∈ l, EvSmall e ∧ e.bytes ≤ 1099511627776
theorem anc_no {c : Com} {last : Int} {evs : List Ev} (h : c.ev < 1 ∨ last < c.ev) : c.anchorErr last evs = 2 := by unfold Com.anchorErr; rw [if_pos h]
theorem anc_lost {c : Com} {last : Int} {evs : List Ev} (h : ¬ (c.ev < 1 ∨ last < c.ev)) (h1 : c.lost = true) : c.anchorErr last evs = if c.fr ≠ 0 ∨ c.til ≠ 0 then 2 else 0 := by unfold Com.anchorErr; rw [if_neg h, if_pos h1]
theorem anc_none {c : Com} {last : Int} {evs : List Ev} (h : ¬ (c.ev < 1 ∨ last < c.ev)) (h1 : c.lost = false) (h2 : findE evs c.ev = none) : c.anchorErr last evs = 6 := by unfold Com.anchorErr; rw [if_neg h, if_neg (by simp [h1]), h2]
theorem anc_some {c : Com} {last : Int} {evs : List Ev} {k : Nat} {e : Ev} (h : ¬ (c.ev < 1 ∨ last < c.ev)) (h1 : c.lost = false) (h2 : findE evs c.ev = some k) (h3 : evs[k]? = some e) : c.anchorErr last evs = if c.fr < 0 ∨ c.til ≤ c.fr ∨ e.len < c.til then 2 else 0 := by
 unfold Com.anchorErr
 rw [if_neg h, if_neg (by simp [h1]), h2]
 dsimp only
 rw [h3]
 simp
theorem findE_lt {l : List Ev} {id : Int} {k : Nat} (h : findE l id = some k) : k < l.length := by
 unfold findE at h
 exact (List.findIdx?_eq_some_iff_getElem.1 h).1
theorem size_evt : (Tryz.prog.info? 60).map (·.size) = some 7 := by kernel_rfl
theorem wp_ix_ev {o : Oper} {a : Act} {w : World} {K : Act → World → Prop} {Q : Exit → Act → World → Prop} {s s' : Nat} {b off n c k : Nat} (ho : o.op = .indexAddr 24 (.tmp s) (.tmp s')) (hx : a.eval (.tmp s) = .slice (some ⟨b, off, none⟩) n c) (hy : a.eval (.tmp s') = .int .i64 k) (hk : k < n) (h : K (a.put o.dst (.pointer (some ⟨b, off + k * 7, none⟩))) w) : o.wp Tryz.prog a w K Q := by
 obtain ⟨dst, op, ty, pos, after, guard⟩ := o
 simp only at ho
 subst ho
 have fx : a.tmps[s]?.getD undef = .slice (some ⟨b, off, none⟩) n c := by simpa [Act.eval] using hx
 have fy : a.tmps[s']?.getD undef = .int .i64 k := by simpa [Act.eval] using hy
 clear hx hy
 go_simp
 exact h
theorem wp_load_ev {o : Oper} {a : Act} {w : World} {K : Act → World → Prop} {Q : Exit → Act → World → Prop} {s : Nat} (ho : o.op = .load 60 (.tmp s)) (g off : Nat) (e : Ev) (A : Option Addr) (n c : Nat) (hx : a.eval (.tmp s) = .pointer (some ⟨g, off, none⟩))
 (hC : ∀ j u, (e.cells A n c).toList[j]? = some u → w.cell? ⟨g, off + j, none⟩ = some u) (h : K (a.put o.dst (.agg (e.cells A n c))) w) : o.wp Tryz.prog a w K Q := by
 obtain ⟨dst, op, ty, pos, after, guard⟩ := o
 simp only at ho
 subst ho
 have fx : a.tmps[s]?.getD undef = .pointer (some ⟨g, off, none⟩) := by simpa [Act.eval] using hx
 have c0 : w.cell? ⟨g, off, none⟩ = some (.int .i64 e.id) := by simpa using hC 0 _ rfl
 have c1 := hC 1 _ rfl
 have c2 := hC 2 _ rfl
 have c3 := hC 3 _ rfl
 have c4 := hC 4 _ rfl
 have c5 := hC 5 _ rfl
 have c6 := hC 6 _ rfl
 unfold Ev.cells at h
 clear hC hx
 go_simp
 exact h
set_option maxRecDepth 100000 in
set_option maxHeartbeats 4000000 in
theorem anchored_any (d : Doc) (h : DocH) (c : Com) (B : Nat) (w : World) (hE : Env w) (hat : DocAt w d h) (hm : MapE w 3 B d.evs) (hsm : EvsSmall d.evs) (hn : h.en ≤ 1000000) (hce : IW c.ev) :
 Calls Tryz.prog 85 #[.agg (d.cells h), .agg c.cells, .map (some B)] w fun en w' => en = .returned (.int .i64 (c.anchorErr d.last d.evs)) ∧ Ext w w' := by
 have HX := Lib.hid (((Ext.refl w).alloc (.cells (d.cells h) 27)).alloc (.cells c.cells 64))
 have HB0 := Lib.hid ((Blk.new w 27 (d.cells h)).alloc (.cells c.cells 64))
 have HB1 := Lib.hid (Blk.new' (w := w.alloc (.cells (d.cells h) 27)) (g := w.heap.size + 1) (t := 64) (cs := c.cells) (by simp))
 have HEv := Lib.hid hat.evs
 have HEl := Lib.hid hat.evs.len
 have HSm := Lib.hid hsm
 have HEn := Lib.hid hE
 have HM := Lib.hid (hm.ext HX.out)
 have HKey := Lib.hid hce.key
 have HCe := Lib.hid hce
 have H1 := Lib.hid (@anc_no c d.last d.evs)
 have H2 := Lib.hid (@anc_lost c d.last d.evs)
 have H3 := Lib.hid (@anc_none c d.last d.evs)
 have H4 := Lib.hid (fun k e => @anc_some c d.last d.evs k e)
 clear hat hsm hm hE hce
 unfold Doc.cells Com.cells at *
 obtain ⟨hra, hrn, hrc, hea, hen, hec, hca, hcn, hcc⟩ := h
 obtain ⟨cid, cev, cfr, ctil, cau, ctx, cdn, clo⟩ := c
 dsimp only at *
 go_enter Tryz.func85, Tryz.ntmps85
 have hcd := fun o => HB0.out.cell o
 have hkc := fun o => HB1.out.cell o
 by_cases he1 : cev < 1
 · go_wp2_with fail
   go_ret
   exact ⟨ret_int (H1.out (.inl he1)).symm, HX.out⟩
 by_cases he2 : d.last < cev
 · go_wp2_with fail
   go_ret
   exact ⟨ret_int (H1.out (.inr he2)).symm, HX.out⟩
 have HNo : Hid (¬ (cev < 1 ∨ d.last < cev)) := by show ¬ _; omega
 cases clo
 case true =>
  have HF := Lib.hid (H2.out HNo.out rfl)
  by_cases hf0 : cfr = 0
  · by_cases ht0 : ctil = 0
    · have h1 : (cfr != 0) = false := by simpa using hf0
      have h2 : (ctil != 0) = false := by simpa using ht0
      have HG := Lib.hid (HF.out.trans (if_neg (by omega)))
      clear hf0 ht0
      go_wp2_with fail
      go_ret
      exact ⟨ret_int HG.out.symm, HX.out⟩
    · have h1 : (cfr != 0) = false := by simpa using hf0
      have h2 : (ctil != 0) = true := by simpa using ht0
      have HG := Lib.hid (HF.out.trans (if_pos (.inr ht0)))
      clear hf0 ht0
      go_wp2_with fail
      go_ret
      exact ⟨ret_int HG.out.symm, HX.out⟩
  · have h1 : (cfr != 0) = true := by simpa using hf0
    have HG := Lib.hid (HF.out.trans (if_pos (.inl hf0)))
    clear hf0
    go_wp2_with fail
    go_ret
    exact ⟨ret_int HG.out.symm, HX.out⟩
 case false =>
  obtain ⟨nm, Dm, hown, hnm, hmap, hhas, hatk⟩ := HM.out
  have HOw := Lib.hid hown
  have HHas := Lib.hid (hhas cev HCe.out)
  have HAtk := Lib.hid (fun k => hatk cev k HCe.out)
  clear hown hmap hhas hatk
  cases hf : findE d.evs cev with
  | none =>
   have HG := Lib.hid (H3.out HNo.out rfl hf)
   have hh : Maps.has Dm (.int .i64 cev) = false := by rw [HHas.out, hf]; rfl
   clear hf
   go_wp2_with (at_lookup; refine wpList_lookup_own_ok_int _ rfl _ _ 116 rfl 2 3 .i64 key64 Tryz.underlying116 Tryz.underlying3 (zero_int _) B nm Dm rfl (by exact HOw.out) _ _ rfl (by exact HKey.out) ?_; intro c0 hat hwc; have HAt0 := Lib.hid hat; clear hat hwc)
   go_ret
   exact ⟨ret_int HG.out.symm, HX.out⟩
  | some k =>
   have hkl := findE_lt hf
   rw [HEl.out] at hkl
   obtain ⟨b, off, e, rfl, hev, A', n', c', hC, hEv⟩ := (HEv.out.ext HX.out).at_ hkl
   have HG := Lib.hid (H4.out k e HNo.out rfl hf hev)
   have HC := Lib.hid hC
   have HLen := Lib.hid (fun w' (hx : Ext ((w.alloc (.cells #[.string d.title, .string d.lang, .int .u8 d.rate, .bool d.drop, .int .i64 d.last, .slice hra hrn hrc, .slice (some ⟨b, off, none⟩) hen hec, .slice hca hcn hcc] 27)).alloc (.cells #[.int .i64 cid, .int .i64 cev, .int .i64 cfr, .int .i64 ctil, .string cau, .string ctx, .bool cdn, .bool false] 64)) w') => ELen_any e A' n' c' w' (HEn.out.ext (HX.out.trans hx)) (hEv.ext hx) (HSm.out e (List.mem_of_getElem? hev)).1.2.2 (HSm.out e (List.mem_of_getElem? hev)).2)
   have hh : Maps.has Dm (.int .i64 cev) = true := by rw [HHas.out, hf]; rfl
   have HK0 := Lib.hid (HAtk.out k hf)
   clear hf hev hC hEv
   go_wp2_with (at_lookup; refine wpList_lookup_own_ok_int _ rfl _ _ 116 rfl 2 3 .i64 key64 Tryz.underlying116 Tryz.underlying3 (zero_int _) B nm Dm rfl (by exact HOw.out) _ _ rfl (by exact HKey.out) ?_; intro c0 hat hwc; have HAt0 := Lib.hid hat; clear hat hwc)
   obtain rfl : c0 = k := by
    have h1 := HAt0.out
    rw [HK0.out] at h1
    simpa using h1.symm
   clear HAt0
   by_cases hf0 : cfr < 0
   · have HGG := Lib.hid (HG.out.trans (if_pos (.inl hf0)))
     refine wp_region_vals [.pointer (some ⟨w.heap.size + 1, 2, none⟩), .int .i64 cfr, .bool true, .bool true, undef, undef, undef, undef, undef, .bool true, .bool true, undef, undef, undef, undef, undef, undef, undef, undef, undef, .bool true] [(38, .pointer (some ⟨w.heap.size + 1, 2, none⟩)), (39, .int .i64 cfr), (40, .bool true), (41, .bool true), (42, undef), (43, undef), (44, undef), (45, undef), (46, undef), (47, .bool true), (48, .bool true), (49, undef), (50, undef), (51, undef), (52, undef), (53, undef), (54, undef), (55, undef), (56, undef), (57, undef), (58, .bool true)] (by kernel_rfl) (by kernel_rfl) (by kernel_rfl) rfl rfl ?_ ?_
     · intro i o ho a w' K' hx hn hd hk
       match i, ho with
       | 0, ho =>
        simp only [List.getElem?_toArray, List.getElem?_cons_zero, List.getElem?_cons_succ, Option.some.injEq] at ho
        subst ho
        refine want_none rfl ?_
        have ex4 := ((hn 4 rfl).trans (show _ = Value.pointer (some ⟨w.heap.size + 1, 0, none⟩) from rfl))
        simp only [Act.eval] at ex4
        have HK := Lib.hid (hk (.pointer (some ⟨w.heap.size + 1, 2, none⟩)) rfl w' (Ext.refl _))
        clear hx hn hd hk
        go_simp
        exact HK.out
       | 1, ho =>
        simp only [List.getElem?_toArray, List.getElem?_cons_zero, List.getElem?_cons_succ, Option.some.injEq] at ho
        subst ho
        refine want_none rfl ?_
        have ex38 := (eval_of (hd 0 38 (.pointer (some ⟨w.heap.size + 1, 2, none⟩)) rfl rfl rfl))
        have hcl : w'.cell? ⟨w.heap.size + 1, 2, none⟩ = some (.int .i64 cfr) := (HB1.out.ext hx).cell 2
        simp only [Act.eval] at ex38
        have HK := Lib.hid (hk (.int .i64 cfr) rfl w' (Ext.refl _))
        clear hx hn hd hk
        go_simp
        exact HK.out
       | 2, ho =>
        simp only [List.getElem?_toArray, List.getElem?_cons_zero, List.getElem?_cons_succ, Option.some.injEq] at ho
        subst ho
        refine want_none rfl ?_
        exact wp_bin rfl (eval_of (hd 1 39 (.int .i64 cfr) rfl rfl rfl)) rfl (by first | (go_simp; done) | (go_simp; simp; omega) | (simp; omega)) (hk _ rfl w' (Ext.refl _))
       | 3, ho =>
        simp only [List.getElem?_toArray, List.getElem?_cons_zero, List.getElem?_cons_succ, Option.some.injEq] at ho
        subst ho
        refine want_none rfl ?_
        exact wp_move _ _ rfl (eval_of (hd 2 40 (.bool true) rfl rfl rfl)) (hk _ rfl w' (Ext.refl _))
       | 4, ho =>
        simp only [List.getElem?_toArray, List.getElem?_cons_zero, List.getElem?_cons_succ, Option.some.injEq] at ho
        subst ho
        refine want_no rfl rfl (hd 3 41 (.bool true) rfl rfl rfl) rfl ?_
        exact hk undef rfl w' (Ext.refl _)
       | 5, ho =>
        simp only [List.getElem?_toArray, List.getElem?_cons_zero, List.getElem?_cons_succ, Option.some.injEq] at ho
        subst ho
        refine want_no rfl rfl (hd 3 41 (.bool true) rfl rfl rfl) rfl ?_
        exact hk undef rfl w' (Ext.refl _)
       | 6, ho =>
        simp only [List.getElem?_toArray, List.getElem?_cons_zero, List.getElem?_cons_succ, Option.some.injEq] at ho
        subst ho
        refine want_no rfl rfl (hd 3 41 (.bool true) rfl rfl rfl) rfl ?_
        exact hk undef rfl w' (Ext.refl _)
       | 7, ho =>
        simp only [List.getElem?_toArray, List.getElem?_cons_zero, List.getElem?_cons_succ, Option.some.injEq] at ho
        subst ho
        refine want_no rfl rfl (hd 3 41 (.bool true) rfl rfl rfl) rfl ?_
        exact hk undef rfl w' (Ext.refl _)
       | 8, ho =>
        simp only [List.getElem?_toArray, List.getElem?_cons_zero, List.getElem?_cons_succ, Option.some.injEq] at ho
        subst ho
        refine want_no rfl rfl (hd 3 41 (.bool true) rfl rfl rfl) rfl ?_
        exact hk undef rfl w' (Ext.refl _)
       | 9, ho =>
        simp only [List.getElem?_toArray, List.getElem?_cons_zero, List.getElem?_cons_succ, Option.some.injEq] at ho
        subst ho
        refine want_none rfl ?_
        exact wp_pick _ _ _ true _ rfl (eval_of (hd 3 41 (.bool true) rfl rfl rfl)) (by exact rfl) (hk _ rfl w' (Ext.refl _))
       | 10, ho =>
        simp only [List.getElem?_toArray, List.getElem?_cons_zero, List.getElem?_cons_succ, Option.some.injEq] at ho
        subst ho
        refine want_none rfl ?_
        exact wp_move _ _ rfl (eval_of (hd 9 47 (.bool true) rfl rfl rfl)) (hk _ rfl w' (Ext.refl _))
       | 11, ho =>
        simp only [List.getElem?_toArray, List.getElem?_cons_zero, List.getElem?_cons_succ, Option.some.injEq] at ho
        subst ho
        refine want_no rfl rfl (hd 10 48 (.bool true) rfl rfl rfl) rfl ?_
        exact hk undef rfl w' (Ext.refl _)
       | 12, ho =>
        simp only [List.getElem?_toArray, List.getElem?_cons_zero, List.getElem?_cons_succ, Option.some.injEq] at ho
        subst ho
        refine want_no rfl rfl (hd 10 48 (.bool true) rfl rfl rfl) rfl ?_
        exact hk undef rfl w' (Ext.refl _)
       | 13, ho =>
        simp only [List.getElem?_toArray, List.getElem?_cons_zero, List.getElem?_cons_succ, Option.some.injEq] at ho
        subst ho
        refine want_no rfl rfl (hd 10 48 (.bool true) rfl rfl rfl) rfl ?_
        exact hk undef rfl w' (Ext.refl _)
       | 14, ho =>
        simp only [List.getElem?_toArray, List.getElem?_cons_zero, List.getElem?_cons_succ, Option.some.injEq] at ho
        subst ho
        refine want_no rfl rfl (hd 10 48 (.bool true) rfl rfl rfl) rfl ?_
        exact hk undef rfl w' (Ext.refl _)
       | 15, ho =>
        simp only [List.getElem?_toArray, List.getElem?_cons_zero, List.getElem?_cons_succ, Option.some.injEq] at ho
        subst ho
        refine want_no rfl rfl (hd 10 48 (.bool true) rfl rfl rfl) rfl ?_
        exact hk undef rfl w' (Ext.refl _)
       | 16, ho =>
        simp only [List.getElem?_toArray, List.getElem?_cons_zero, List.getElem?_cons_succ, Option.some.injEq] at ho
        subst ho
        refine want_no rfl rfl (hd 10 48 (.bool true) rfl rfl rfl) rfl ?_
        exact hk undef rfl w' (Ext.refl _)
       | 17, ho =>
        simp only [List.getElem?_toArray, List.getElem?_cons_zero, List.getElem?_cons_succ, Option.some.injEq] at ho
        subst ho
        refine want_no rfl rfl (hd 10 48 (.bool true) rfl rfl rfl) rfl ?_
        exact hk undef rfl w' (Ext.refl _)
       | 18, ho =>
        simp only [List.getElem?_toArray, List.getElem?_cons_zero, List.getElem?_cons_succ, Option.some.injEq] at ho
        subst ho
        refine want_no rfl rfl (hd 10 48 (.bool true) rfl rfl rfl) rfl ?_
        exact hk undef rfl w' (Ext.refl _)
       | 19, ho =>
        simp only [List.getElem?_toArray, List.getElem?_cons_zero, List.getElem?_cons_succ, Option.some.injEq] at ho
        subst ho
        refine want_no rfl rfl (hd 10 48 (.bool true) rfl rfl rfl) rfl ?_
        exact hk undef rfl w' (Ext.refl _)
       | 20, ho =>
        simp only [List.getElem?_toArray, List.getElem?_cons_zero, List.getElem?_cons_succ, Option.some.injEq] at ho
        subst ho
        refine want_none rfl ?_
        exact wp_pick _ _ _ true _ rfl (eval_of (hd 10 48 (.bool true) rfl rfl rfl)) (by exact rfl) (hk _ rfl w' (Ext.refl _))
       | i + 21, ho => simp at ho
     intro w9 hx9
     simp only [Act.put, List.foldl_cons, List.foldl_nil, List.setIfInBounds_toArray, List.set_cons_zero, List.set_cons_succ]
     go_wp2_with fail
     go_ret
     exact ⟨ret_int HGG.out.symm, HX.out.trans hx9⟩
   by_cases hf1 : ctil ≤ cfr
   · have HGG := Lib.hid (HG.out.trans (if_pos (.inr (.inl hf1))))
     refine wp_region_vals [.pointer (some ⟨w.heap.size + 1, 2, none⟩), .int .i64 cfr, .bool false, .bool false, .pointer (some ⟨w.heap.size + 1, 2, none⟩), .int .i64 cfr, .pointer (some ⟨w.heap.size + 1, 3, none⟩), .int .i64 ctil, .bool true, .bool true, .bool true, undef, undef, undef, undef, undef, undef, undef, undef, undef, .bool true] [(38, .pointer (some ⟨w.heap.size + 1, 2, none⟩)), (39, .int .i64 cfr), (40, .bool false), (41, .bool false), (42, .pointer (some ⟨w.heap.size + 1, 2, none⟩)), (43, .int .i64 cfr), (44, .pointer (some ⟨w.heap.size + 1, 3, none⟩)), (45, .int .i64 ctil), (46, .bool true), (47, .bool true), (48, .bool true), (49, undef), (50, undef), (51, undef), (52, undef), (53, undef), (54, undef), (55, undef), (56, undef), (57, undef), (58, .bool true)] (by kernel_rfl) (by kernel_rfl) (by kernel_rfl) rfl rfl ?_ ?_
     · intro i o ho a w' K' hx hn hd hk
       match i, ho with
       | 0, ho =>
        simp only [List.getElem?_toArray, List.getElem?_cons_zero, List.getElem?_cons_succ, Option.some.injEq] at ho
        subst ho
        refine want_none rfl ?_
        have ex4 := ((hn 4 rfl).trans (show _ = Value.pointer (some ⟨w.heap.size + 1, 0, none⟩) from rfl))
        simp only [Act.eval] at ex4
        have HK := Lib.hid (hk (.pointer (some ⟨w.heap.size + 1, 2, none⟩)) rfl w' (Ext.refl _))
        clear hx hn hd hk
        go_simp
        exact HK.out
       | 1, ho =>
        simp only [List.getElem?_toArray, List.getElem?_cons_zero, List.getElem?_cons_succ, Option.some.injEq] at ho
        subst ho
        refine want_none rfl ?_
        have ex38 := (eval_of (hd 0 38 (.pointer (some ⟨w.heap.size + 1, 2, none⟩)) rfl rfl rfl))
        have hcl : w'.cell? ⟨w.heap.size + 1, 2, none⟩ = some (.int .i64 cfr) := (HB1.out.ext hx).cell 2
        simp only [Act.eval] at ex38
        have HK := Lib.hid (hk (.int .i64 cfr) rfl w' (Ext.refl _))
        clear hx hn hd hk
        go_simp
        exact HK.out
       | 2, ho =>
        simp only [List.getElem?_toArray, List.getElem?_cons_zero, List.getElem?_cons_succ, Option.some.injEq] at ho
        subst ho
        refine want_none rfl ?_
        exact wp_bin rfl (eval_of (hd 1 39 (.int .i64 cfr) rfl rfl rfl)) rfl (by first | (go_simp; done) | (go_simp; simp; omega) | (simp; omega)) (hk _ rfl w' (Ext.refl _))
       | 3, ho =>
        simp only [List.getElem?_toArray, List.getElem?_cons_zero, List.getElem?_cons_succ, Option.some.injEq] at ho
        subst ho
        refine want_none rfl ?_
        exact wp_move _ _ rfl (eval_of (hd 2 40 (.bool false) rfl rfl rfl)) (hk _ rfl w' (Ext.refl _))
       | 4, ho =>
        simp only [List.getElem?_toArray, List.getElem?_cons_zero, List.getElem?_cons_succ, Option.some.injEq] at ho
        subst ho
        refine want_yes rfl rfl (hd 3 41 (.bool false) rfl rfl rfl) rfl ?_
        have ex4 := ((hn 4 rfl).trans (show _ = Value.pointer (some ⟨w.heap.size + 1, 0, none⟩) from rfl))
        simp only [Act.eval] at ex4
        have HK := Lib.hid (hk (.pointer (some ⟨w.heap.size + 1, 2, none⟩)) rfl w' (Ext.refl _))
        clear hx hn hd hk
        go_simp
        exact HK.out
       | 5, ho =>
        simp only [List.getElem?_toArray, List.getElem?_cons_zero, List.getElem?_cons_succ, Option.some.injEq] at ho
        subst ho
        refine want_yes rfl rfl (hd 3 41 (.bool false) rfl rfl rfl) rfl ?_
        have ex42 := (eval_of (hd 4 42 (.pointer (some ⟨w.heap.size + 1, 2, none⟩)) rfl rfl rfl))
        have hcl : w'.cell? ⟨w.heap.size + 1, 2, none⟩ = some (.int .i64 cfr) := (HB1.out.ext hx).cell 2
        simp only [Act.eval] at ex42
        have HK := Lib.hid (hk (.int .i64 cfr) rfl w' (Ext.refl _))
        clear hx hn hd hk
        go_simp
        exact HK.out
       | 6, ho =>
        simp only [List.getElem?_toArray, List.getElem?_cons_zero, List.getElem?_cons_succ, Option.some.injEq] at ho
        subst ho
        refine want_yes rfl rfl (hd 3 41 (.bool false) rfl rfl rfl) rfl ?_
        have ex4 := ((hn 4 rfl).trans (show _ = Value.pointer (some ⟨w.heap.size + 1, 0, none⟩) from rfl))
        simp only [Act.eval] at ex4
        have HK := Lib.hid (hk (.pointer (some ⟨w.heap.size + 1, 3, none⟩)) rfl w' (Ext.refl _))
        clear hx hn hd hk
        go_simp
        exact HK.out
       | 7, ho =>
        simp only [List.getElem?_toArray, List.getElem?_cons_zero, List.getElem?_cons_succ, Option.some.injEq] at ho
        subst ho
        refine want_yes rfl rfl (hd 3 41 (.bool false) rfl rfl rfl) rfl ?_
        have ex44 := (eval_of (hd 6 44 (.pointer (some ⟨w.heap.size + 1, 3, none⟩)) rfl rfl rfl))
        have hcl : w'.cell? ⟨w.heap.size + 1, 3, none⟩ = some (.int .i64 ctil) := (HB1.out.ext hx).cell 3
        simp only [Act.eval] at ex44
        have HK := Lib.hid (hk (.int .i64 ctil) rfl w' (Ext.refl _))
        clear hx hn hd hk
        go_simp
        exact HK.out
       | 8, ho =>
        simp only [List.getElem?_toArray, List.getElem?_cons_zero, List.getElem?_cons_succ, Option.some.injEq] at ho
        subst ho
        refine want_yes rfl rfl (hd 3 41 (.bool false) rfl rfl rfl) rfl ?_
        exact wp_bin rfl (eval_of (hd 5 43 (.int .i64 cfr) rfl rfl rfl)) (eval_of (hd 7 45 (.int .i64 ctil) rfl rfl rfl)) (by first | (go_simp; done) | (go_simp; simp; omega) | (simp; omega)) (hk _ rfl w' (Ext.refl _))
       | 9, ho =>
        simp only [List.getElem?_toArray, List.getElem?_cons_zero, List.getElem?_cons_succ, Option.some.injEq] at ho
        subst ho
        refine want_none rfl ?_
        exact wp_pick _ _ _ false _ rfl (eval_of (hd 3 41 (.bool false) rfl rfl rfl)) (by exact (eval_of (hd 8 46 (.bool true) rfl rfl rfl))) (hk _ rfl w' (Ext.refl _))
       | 10, ho =>
        simp only [List.getElem?_toArray, List.getElem?_cons_zero, List.getElem?_cons_succ, Option.some.injEq] at ho
        subst ho
        refine want_none rfl ?_
        exact wp_move _ _ rfl (eval_of (hd 9 47 (.bool true) rfl rfl rfl)) (hk _ rfl w' (Ext.refl _))
       | 11, ho =>
        simp only [List.getElem?_toArray, List.getElem?_cons_zero, List.getElem?_cons_succ, Option.some.injEq] at ho
        subst ho
        refine want_no rfl rfl (hd 10 48 (.bool true) rfl rfl rfl) rfl ?_
        exact hk undef rfl w' (Ext.refl _)
       | 12, ho =>
        simp only [List.getElem?_toArray, List.getElem?_cons_zero, List.getElem?_cons_succ, Option.some.injEq] at ho
        subst ho
        refine want_no rfl rfl (hd 10 48 (.bool true) rfl rfl rfl) rfl ?_
        exact hk undef rfl w' (Ext.refl _)
       | 13, ho =>
        simp only [List.getElem?_toArray, List.getElem?_cons_zero, List.getElem?_cons_succ, Option.some.injEq] at ho
        subst ho
        refine want_no rfl rfl (hd 10 48 (.bool true) rfl rfl rfl) rfl ?_
        exact hk undef rfl w' (Ext.refl _)
       | 14, ho =>
        simp only [List.getElem?_toArray, List.getElem?_cons_zero, List.getElem?_cons_succ, Option.some.injEq] at ho
        subst ho
        refine want_no rfl rfl (hd 10 48 (.bool true) rfl rfl rfl) rfl ?_
        exact hk undef rfl w' (Ext.refl _)
       | 15, ho =>
        simp only [List.getElem?_toArray, List.getElem?_cons_zero, List.getElem?_cons_succ, Option.some.injEq] at ho
        subst ho
        refine want_no rfl rfl (hd 10 48 (.bool true) rfl rfl rfl) rfl ?_
        exact hk undef rfl w' (Ext.refl _)
       | 16, ho =>
        simp only [List.getElem?_toArray, List.getElem?_cons_zero, List.getElem?_cons_succ, Option.some.injEq] at ho
        subst ho
        refine want_no rfl rfl (hd 10 48 (.bool true) rfl rfl rfl) rfl ?_
        exact hk undef rfl w' (Ext.refl _)
       | 17, ho =>
        simp only [List.getElem?_toArray, List.getElem?_cons_zero, List.getElem?_cons_succ, Option.some.injEq] at ho
        subst ho
        refine want_no rfl rfl (hd 10 48 (.bool true) rfl rfl rfl) rfl ?_
        exact hk undef rfl w' (Ext.refl _)
       | 18, ho =>
        simp only [List.getElem?_toArray, List.getElem?_cons_zero, List.getElem?_cons_succ, Option.some.injEq] at ho
        subst ho
        refine want_no rfl rfl (hd 10 48 (.bool true) rfl rfl rfl) rfl ?_
        exact hk undef rfl w' (Ext.refl _)
       | 19, ho =>
        simp only [List.getElem?_toArray, List.getElem?_cons_zero, List.getElem?_cons_succ, Option.some.injEq] at ho
        subst ho
        refine want_no rfl rfl (hd 10 48 (.bool true) rfl rfl rfl) rfl ?_
        exact hk undef rfl w' (Ext.refl _)
       | 20, ho =>
        simp only [List.getElem?_toArray, List.getElem?_cons_zero, List.getElem?_cons_succ, Option.some.injEq] at ho
        subst ho
        refine want_none rfl ?_
        exact wp_pick _ _ _ true _ rfl (eval_of (hd 10 48 (.bool true) rfl rfl rfl)) (by exact rfl) (hk _ rfl w' (Ext.refl _))
       | i + 21, ho => simp at ho
     intro w9 hx9
     simp only [Act.put, List.foldl_cons, List.foldl_nil, List.setIfInBounds_toArray, List.set_cons_zero, List.set_cons_succ]
     go_wp2_with fail
     go_ret
     exact ⟨ret_int HGG.out.symm, HX.out.trans hx9⟩
   cases hlt : decide (e.len < ctil)
   · have hlt' := of_decide_eq_false hlt
     have HGG := Lib.hid (HG.out.trans (if_neg (by omega)))
     refine wp_region_vals [.pointer (some ⟨w.heap.size + 1, 2, none⟩), .int .i64 cfr, .bool false, .bool false, .pointer (some ⟨w.heap.size + 1, 2, none⟩), .int .i64 cfr, .pointer (some ⟨w.heap.size + 1, 3, none⟩), .int .i64 ctil, .bool false, .bool false, .bool false, .pointer (some ⟨w.heap.size + 1, 3, none⟩), .int .i64 ctil, .pointer (some ⟨w.heap.size, 6, none⟩), .slice (some ⟨b, off, none⟩) hen hec, .int .i64 (k : Int), .pointer (some ⟨b, off + k * 7, none⟩), .agg (e.cells A' n' c'), .int .i64 e.len, .bool false, .bool false] [(38, .pointer (some ⟨w.heap.size + 1, 2, none⟩)), (39, .int .i64 cfr), (40, .bool false), (41, .bool false), (42, .pointer (some ⟨w.heap.size + 1, 2, none⟩)), (43, .int .i64 cfr), (44, .pointer (some ⟨w.heap.size + 1, 3, none⟩)), (45, .int .i64 ctil), (46, .bool false), (47, .bool false), (48, .bool false), (49, .pointer (some ⟨w.heap.size + 1, 3, none⟩)), (50, .int .i64 ctil), (51, .pointer (some ⟨w.heap.size, 6, none⟩)), (52, .slice (some ⟨b, off, none⟩) hen hec), (53, .int .i64 (k : Int)), (54, .pointer (some ⟨b, off + k * 7, none⟩)), (55, .agg (e.cells A' n' c')), (56, .int .i64 e.len), (57, .bool false), (58, .bool false)] (by kernel_rfl) (by kernel_rfl) (by kernel_rfl) rfl rfl ?_ ?_
     · intro i o ho a w' K' hx hn hd hk
       match i, ho with
       | 0, ho =>
        simp only [List.getElem?_toArray, List.getElem?_cons_zero, List.getElem?_cons_succ, Option.some.injEq] at ho
        subst ho
        refine want_none rfl ?_
        have ex4 := ((hn 4 rfl).trans (show _ = Value.pointer (some ⟨w.heap.size + 1, 0, none⟩) from rfl))
        simp only [Act.eval] at ex4
        have HK := Lib.hid (hk (.pointer (some ⟨w.heap.size + 1, 2, none⟩)) rfl w' (Ext.refl _))
        clear hx hn hd hk
        go_simp
        exact HK.out
       | 1, ho =>
        simp only [List.getElem?_toArray, List.getElem?_cons_zero, List.getElem?_cons_succ, Option.some.injEq] at ho
        subst ho
        refine want_none rfl ?_
        have ex38 := (eval_of (hd 0 38 (.pointer (some ⟨w.heap.size + 1, 2, none⟩)) rfl rfl rfl))
        have hcl : w'.cell? ⟨w.heap.size + 1, 2, none⟩ = some (.int .i64 cfr) := (HB1.out.ext hx).cell 2
        simp only [Act.eval] at ex38
        have HK := Lib.hid (hk (.int .i64 cfr) rfl w' (Ext.refl _))
        clear hx hn hd hk
        go_simp
        exact HK.out
       | 2, ho =>
        simp only [List.getElem?_toArray, List.getElem?_cons_zero, List.getElem?_cons_succ, Option.some.injEq] at ho
        subst ho
        refine want_none rfl ?_
        exact wp_bin rfl (eval_of (hd 1 39 (.int .i64 cfr) rfl rfl rfl)) rfl (by first | (go_simp; done) | (go_simp; simp; omega) | (simp; omega)) (hk _ rfl w' (Ext.refl _))
       | 3, ho =>
        simp only [List.getElem?_toArray, List.getElem?_cons_zero, List.getElem?_cons_succ, Option.some.injEq] at ho
        subst ho
        refine want_none rfl ?_
        exact wp_move _ _ rfl (eval_of (hd 2 40 (.bool false) rfl rfl rfl)) (hk _ rfl w' (Ext.refl _))
       | 4, ho =>
        simp only [List.getElem?_toArray, List.getElem?_cons_zero, List.getElem?_cons_succ, Option.some.injEq] at ho
        subst ho
        refine want_yes rfl rfl (hd 3 41 (.bool false) rfl rfl rfl) rfl ?_
        have ex4 := ((hn 4 rfl).trans (show _ = Value.pointer (some ⟨w.heap.size + 1, 0, none⟩) from rfl))
        simp only [Act.eval] at ex4
        have HK := Lib.hid (hk (.pointer (some ⟨w.heap.size + 1, 2, none⟩)) rfl w' (Ext.refl _))
        clear hx hn hd hk
        go_simp
        exact HK.out
       | 5, ho =>
        simp only [List.getElem?_toArray, List.getElem?_cons_zero, List.getElem?_cons_succ, Option.some.injEq] at ho
        subst ho
        refine want_yes rfl rfl (hd 3 41 (.bool false) rfl rfl rfl) rfl ?_
        have ex42 := (eval_of (hd 4 42 (.pointer (some ⟨w.heap.size + 1, 2, none⟩)) rfl rfl rfl))
        have hcl : w'.cell? ⟨w.heap.size + 1, 2, none⟩ = some (.int .i64 cfr) := (HB1.out.ext hx).cell 2
        simp only [Act.eval] at ex42
        have HK := Lib.hid (hk (.int .i64 cfr) rfl w' (Ext.refl _))
        clear hx hn hd hk
        go_simp
        exact HK.out
       | 6, ho =>
        simp only [List.getElem?_toArray, List.getElem?_cons_zero, List.getElem?_cons_succ, Option.some.injEq] at ho
        subst ho
        refine want_yes rfl rfl (hd 3 41 (.bool false) rfl rfl rfl) rfl ?_
        have ex4 := ((hn 4 rfl).trans (show _ = Value.pointer (some ⟨w.heap.size + 1, 0, none⟩) from rfl))
        simp only [Act.eval] at ex4
        have HK := Lib.hid (hk (.pointer (some ⟨w.heap.size + 1, 3, none⟩)) rfl w' (Ext.refl _))
        clear hx hn hd hk
        go_simp
        exact HK.out
       | 7, ho =>
        simp only [List.getElem?_toArray, List.getElem?_cons_zero, List.getElem?_cons_succ, Option.some.injEq] at ho
        subst ho
        refine want_yes rfl rfl (hd 3 41 (.bool false) rfl rfl rfl) rfl ?_
        have ex44 := (eval_of (hd 6 44 (.pointer (some ⟨w.heap.size + 1, 3, none⟩)) rfl rfl rfl))
        have hcl : w'.cell? ⟨w.heap.size + 1, 3, none⟩ = some (.int .i64 ctil) := (HB1.out.ext hx).cell 3
        simp only [Act.eval] at ex44
        have HK := Lib.hid (hk (.int .i64 ctil) rfl w' (Ext.refl _))
        clear hx hn hd hk
        go_simp
        exact HK.out
       | 8, ho =>
        simp only [List.getElem?_toArray, List.getElem?_cons_zero, List.getElem?_cons_succ, Option.some.injEq] at ho
        subst ho
        refine want_yes rfl rfl (hd 3 41 (.bool false) rfl rfl rfl) rfl ?_
        exact wp_bin rfl (eval_of (hd 5 43 (.int .i64 cfr) rfl rfl rfl)) (eval_of (hd 7 45 (.int .i64 ctil) rfl rfl rfl)) (by first | (go_simp; done) | (go_simp; simp; omega) | (simp; omega)) (hk _ rfl w' (Ext.refl _))
       | 9, ho =>
        simp only [List.getElem?_toArray, List.getElem?_cons_zero, List.getElem?_cons_succ, Option.some.injEq] at ho
        subst ho
        refine want_none rfl ?_
        exact wp_pick _ _ _ false _ rfl (eval_of (hd 3 41 (.bool false) rfl rfl rfl)) (by exact (eval_of (hd 8 46 (.bool false) rfl rfl rfl))) (hk _ rfl w' (Ext.refl _))
       | 10, ho =>
        simp only [List.getElem?_toArray, List.getElem?_cons_zero, List.getElem?_cons_succ, Option.some.injEq] at ho
        subst ho
        refine want_none rfl ?_
        exact wp_move _ _ rfl (eval_of (hd 9 47 (.bool false) rfl rfl rfl)) (hk _ rfl w' (Ext.refl _))
       | 11, ho =>
        simp only [List.getElem?_toArray, List.getElem?_cons_zero, List.getElem?_cons_succ, Option.some.injEq] at ho
        subst ho
        refine want_yes rfl rfl (hd 10 48 (.bool false) rfl rfl rfl) rfl ?_
        have ex4 := ((hn 4 rfl).trans (show _ = Value.pointer (some ⟨w.heap.size + 1, 0, none⟩) from rfl))
        simp only [Act.eval] at ex4
        have HK := Lib.hid (hk (.pointer (some ⟨w.heap.size + 1, 3, none⟩)) rfl w' (Ext.refl _))
        clear hx hn hd hk
        go_simp
        exact HK.out
       | 12, ho =>
        simp only [List.getElem?_toArray, List.getElem?_cons_zero, List.getElem?_cons_succ, Option.some.injEq] at ho
        subst ho
        refine want_yes rfl rfl (hd 10 48 (.bool false) rfl rfl rfl) rfl ?_
        have ex49 := (eval_of (hd 11 49 (.pointer (some ⟨w.heap.size + 1, 3, none⟩)) rfl rfl rfl))
        have hcl : w'.cell? ⟨w.heap.size + 1, 3, none⟩ = some (.int .i64 ctil) := (HB1.out.ext hx).cell 3
        simp only [Act.eval] at ex49
        have HK := Lib.hid (hk (.int .i64 ctil) rfl w' (Ext.refl _))
        clear hx hn hd hk
        go_simp
        exact HK.out
       | 13, ho =>
        simp only [List.getElem?_toArray, List.getElem?_cons_zero, List.getElem?_cons_succ, Option.some.injEq] at ho
        subst ho
        refine want_yes rfl rfl (hd 10 48 (.bool false) rfl rfl rfl) rfl ?_
        have ex3 := ((hn 3 rfl).trans (show _ = Value.pointer (some ⟨w.heap.size, 0, none⟩) from rfl))
        simp only [Act.eval] at ex3
        have HK := Lib.hid (hk (.pointer (some ⟨w.heap.size, 6, none⟩)) rfl w' (Ext.refl _))
        clear hx hn hd hk
        go_simp
        exact HK.out
       | 14, ho =>
        simp only [List.getElem?_toArray, List.getElem?_cons_zero, List.getElem?_cons_succ, Option.some.injEq] at ho
        subst ho
        refine want_yes rfl rfl (hd 10 48 (.bool false) rfl rfl rfl) rfl ?_
        have ex51 := (eval_of (hd 13 51 (.pointer (some ⟨w.heap.size, 6, none⟩)) rfl rfl rfl))
        have hcl : w'.cell? ⟨w.heap.size, 6, none⟩ = some (.slice (some ⟨b, off, none⟩) hen hec) := (HB0.out.ext hx).cell 6
        simp only [Act.eval] at ex51
        have HK := Lib.hid (hk (.slice (some ⟨b, off, none⟩) hen hec) rfl w' (Ext.refl _))
        clear hx hn hd hk
        go_simp
        exact HK.out
       | 15, ho =>
        simp only [List.getElem?_toArray, List.getElem?_cons_zero, List.getElem?_cons_succ, Option.some.injEq] at ho
        subst ho
        refine want_yes rfl rfl (hd 10 48 (.bool false) rfl rfl rfl) rfl ?_
        exact wp_move _ _ rfl ((hn 7 rfl).trans (show _ = Value.int .i64 (k : Int) from rfl)) (hk _ rfl w' (Ext.refl _))
       | 16, ho =>
        simp only [List.getElem?_toArray, List.getElem?_cons_zero, List.getElem?_cons_succ, Option.some.injEq] at ho
        subst ho
        refine want_yes rfl rfl (hd 10 48 (.bool false) rfl rfl rfl) rfl ?_
        exact wp_ix_ev rfl (eval_of (hd 14 52 (.slice (some ⟨b, off, none⟩) hen hec) rfl rfl rfl)) (eval_of (hd 15 53 (.int .i64 (k : Int)) rfl rfl rfl)) hkl (hk _ rfl w' (Ext.refl _))
       | 17, ho =>
        simp only [List.getElem?_toArray, List.getElem?_cons_zero, List.getElem?_cons_succ, Option.some.injEq] at ho
        subst ho
        refine want_yes rfl rfl (hd 10 48 (.bool false) rfl rfl rfl) rfl ?_
        exact wp_load_ev rfl b _ e _ _ _ (eval_of (hd 16 54 (.pointer (some ⟨b, off + k * 7, none⟩)) rfl rfl rfl)) (fun j u hu => hx.cell (HC.out j u hu)) (hk _ rfl w' (Ext.refl _))
       | 18, ho =>
        simp only [List.getElem?_toArray, List.getElem?_cons_zero, List.getElem?_cons_succ, Option.some.injEq] at ho
        subst ho
        refine want_yes rfl rfl (hd 10 48 (.bool false) rfl rfl rfl) rfl ?_
        exact wp_call1s rfl (eval_of (hd 17 55 (.agg (e.cells A' n' c')) rfl rfl rfl)) Tryz.call120 (HLen.out w' hx) (hk _ rfl)
       | 19, ho =>
        simp only [List.getElem?_toArray, List.getElem?_cons_zero, List.getElem?_cons_succ, Option.some.injEq] at ho
        subst ho
        refine want_yes rfl rfl (hd 10 48 (.bool false) rfl rfl rfl) rfl ?_
        exact wp_bin rfl (eval_of (hd 12 50 (.int .i64 ctil) rfl rfl rfl)) (eval_of (hd 18 56 (.int .i64 e.len) rfl rfl rfl)) (by first | (go_simp; done) | (go_simp; rw [hlt]) | (simp [hlt])) (hk _ rfl w' (Ext.refl _))
       | 20, ho =>
        simp only [List.getElem?_toArray, List.getElem?_cons_zero, List.getElem?_cons_succ, Option.some.injEq] at ho
        subst ho
        refine want_none rfl ?_
        exact wp_pick _ _ _ false _ rfl (eval_of (hd 10 48 (.bool false) rfl rfl rfl)) (by exact (eval_of (hd 19 57 (.bool false) rfl rfl rfl))) (hk _ rfl w' (Ext.refl _))
       | i + 21, ho => simp at ho
     intro w9 hx9
     simp only [Act.put, List.foldl_cons, List.foldl_nil, List.setIfInBounds_toArray, List.set_cons_zero, List.set_cons_succ]
     go_wp2_with fail
     go_ret
     exact ⟨ret_int HGG.out.symm, HX.out.trans hx9⟩
   · have hlt' := of_decide_eq_true hlt
     have HGG := Lib.hid (HG.out.trans (if_pos (.inr (.inr hlt'))))
     refine wp_region_vals [.pointer (some ⟨w.heap.size + 1, 2, none⟩), .int .i64 cfr, .bool false, .bool false, .pointer (some ⟨w.heap.size + 1, 2, none⟩), .int .i64 cfr, .pointer (some ⟨w.heap.size + 1, 3, none⟩), .int .i64 ctil, .bool false, .bool false, .bool false, .pointer (some ⟨w.heap.size + 1, 3, none⟩), .int .i64 ctil, .pointer (some ⟨w.heap.size, 6, none⟩), .slice (some ⟨b, off, none⟩) hen hec, .int .i64 (k : Int), .pointer (some ⟨b, off + k * 7, none⟩), .agg (e.cells A' n' c'), .int .i64 e.len, .bool true, .bool true] [(38, .pointer (some ⟨w.heap.size + 1, 2, none⟩)), (39, .int .i64 cfr), (40, .bool false), (41, .bool false), (42, .pointer (some ⟨w.heap.size + 1, 2, none⟩)), (43, .int .i64 cfr), (44, .pointer (some ⟨w.heap.size + 1, 3, none⟩)), (45, .int .i64 ctil), (46, .bool false), (47, .bool false), (48, .bool false), (49, .pointer (some ⟨w.heap.size + 1, 3, none⟩)), (50, .int .i64 ctil), (51, .pointer (some ⟨w.heap.size, 6, none⟩)), (52, .slice (some ⟨b, off, none⟩) hen hec), (53, .int .i64 (k : Int)), (54, .pointer (some ⟨b, off + k * 7, none⟩)), (55, .agg (e.cells A' n' c')), (56, .int .i64 e.len), (57, .bool true), (58, .bool true)] (by kernel_rfl) (by kernel_rfl) (by kernel_rfl) rfl rfl ?_ ?_
     · intro i o ho a w' K' hx hn hd hk
       match i, ho with
       | 0, ho =>
        simp only [List.getElem?_toArray, List.getElem?_cons_zero, List.getElem?_cons_succ, Option.some.injEq] at ho
        subst ho
        refine want_none rfl ?_
        have ex4 := ((hn 4 rfl).trans (show _ = Value.pointer (some ⟨w.heap.size + 1, 0, none⟩) from rfl))
        simp only [Act.eval] at ex4
        have HK := Lib.hid (hk (.pointer (some ⟨w.heap.size + 1, 2, none⟩)) rfl w' (Ext.refl _))
        clear hx hn hd hk
        go_simp
        exact HK.out
       | 1, ho =>
        simp only [List.getElem?_toArray, List.getElem?_cons_zero, List.getElem?_cons_succ, Option.some.injEq] at ho
        subst ho
        refine want_none rfl ?_
        have ex38 := (eval_of (hd 0 38 (.pointer (some ⟨w.heap.size + 1, 2, none⟩)) rfl rfl rfl))
        have hcl : w'.cell? ⟨w.heap.size + 1, 2, none⟩ = some (.int .i64 cfr) := (HB1.out.ext hx).cell 2
        simp only [Act.eval] at ex38
        have HK := Lib.hid (hk (.int .i64 cfr) rfl w' (Ext.refl _))
        clear hx hn hd hk
        go_simp
        exact HK.out
       | 2, ho =>
        simp only [List.getElem?_toArray, List.getElem?_cons_zero, List.getElem?_cons_succ, Option.some.injEq] at ho
        subst ho
        refine want_none rfl ?_
        exact wp_bin rfl (eval_of (hd 1 39 (.int .i64 cfr) rfl rfl rfl)) rfl (by first | (go_simp; done) | (go_simp; simp; omega) | (simp; omega)) (hk _ rfl w' (Ext.refl _))
       | 3, ho =>
        simp only [List.getElem?_toArray, List.getElem?_cons_zero, List.getElem?_cons_succ, Option.some.injEq] at ho
        subst ho
        refine want_none rfl ?_
        exact wp_move _ _ rfl (eval_of (hd 2 40 (.bool false) rfl rfl rfl)) (hk _ rfl w' (Ext.refl _))
       | 4, ho =>
        simp only [List.getElem?_toArray, List.getElem?_cons_zero, List.getElem?_cons_succ, Option.some.injEq] at ho
        subst ho
        refine want_yes rfl rfl (hd 3 41 (.bool false) rfl rfl rfl) rfl ?_
        have ex4 := ((hn 4 rfl).trans (show _ = Value.pointer (some ⟨w.heap.size + 1, 0, none⟩) from rfl))
        simp only [Act.eval] at ex4
        have HK := Lib.hid (hk (.pointer (some ⟨w.heap.size + 1, 2, none⟩)) rfl w' (Ext.refl _))
        clear hx hn hd hk
        go_simp
        exact HK.out
       | 5, ho =>
        simp only [List.getElem?_toArray, List.getElem?_cons_zero, List.getElem?_cons_succ, Option.some.injEq] at ho
        subst ho
        refine want_yes rfl rfl (hd 3 41 (.bool false) rfl rfl rfl) rfl ?_
        have ex42 := (eval_of (hd 4 42 (.pointer (some ⟨w.heap.size + 1, 2, none⟩)) rfl rfl rfl))
        have hcl : w'.cell? ⟨w.heap.size + 1, 2, none⟩ = some (.int .i64 cfr) := (HB1.out.ext hx).cell 2
        simp only [Act.eval] at ex42
        have HK := Lib.hid (hk (.int .i64 cfr) rfl w' (Ext.refl _))
        clear hx hn hd hk
        go_simp
        exact HK.out
       | 6, ho =>
        simp only [List.getElem?_toArray, List.getElem?_cons_zero, List.getElem?_cons_succ, Option.some.injEq] at ho
        subst ho
        refine want_yes rfl rfl (hd 3 41 (.bool false) rfl rfl rfl) rfl ?_
        have ex4 := ((hn 4 rfl).trans (show _ = Value.pointer (some ⟨w.heap.size + 1, 0, none⟩) from rfl))
        simp only [Act.eval] at ex4
        have HK := Lib.hid (hk (.pointer (some ⟨w.heap.size + 1, 3, none⟩)) rfl w' (Ext.refl _))
        clear hx hn hd hk
        go_simp
        exact HK.out
       | 7, ho =>
        simp only [List.getElem?_toArray, List.getElem?_cons_zero, List.getElem?_cons_succ, Option.some.injEq] at ho
        subst ho
        refine want_yes rfl rfl (hd 3 41 (.bool false) rfl rfl rfl) rfl ?_
        have ex44 := (eval_of (hd 6 44 (.pointer (some ⟨w.heap.size + 1, 3, none⟩)) rfl rfl rfl))
        have hcl : w'.cell? ⟨w.heap.size + 1, 3, none⟩ = some (.int .i64 ctil) := (HB1.out.ext hx).cell 3
        simp only [Act.eval] at ex44
        have HK := Lib.hid (hk (.int .i64 ctil) rfl w' (Ext.refl _))
        clear hx hn hd hk
        go_simp
        exact HK.out
       | 8, ho =>
        simp only [List.getElem?_toArray, List.getElem?_cons_zero, List.getElem?_cons_succ, Option.some.injEq] at ho
        subst ho
        refine want_yes rfl rfl (hd 3 41 (.bool false) rfl rfl rfl) rfl ?_
        exact wp_bin rfl (eval_of (hd 5 43 (.int .i64 cfr) rfl rfl rfl)) (eval_of (hd 7 45 (.int .i64 ctil) rfl rfl rfl)) (by first | (go_simp; done) | (go_simp; simp; omega) | (simp; omega)) (hk _ rfl w' (Ext.refl _))
       | 9, ho =>
        simp only [List.getElem?_toArray, List.getElem?_cons_zero, List.getElem?_cons_succ, Option.some.injEq] at ho
        subst ho
        refine want_none rfl ?_
        exact wp_pick _ _ _ false _ rfl (eval_of (hd 3 41 (.bool false) rfl rfl rfl)) (by exact (eval_of (hd 8 46 (.bool false) rfl rfl rfl))) (hk _ rfl w' (Ext.refl _))
       | 10, ho =>
        simp only [List.getElem?_toArray, List.getElem?_cons_zero, List.getElem?_cons_succ, Option.some.injEq] at ho
        subst ho
        refine want_none rfl ?_
        exact wp_move _ _ rfl (eval_of (hd 9 47 (.bool false) rfl rfl rfl)) (hk _ rfl w' (Ext.refl _))
       | 11, ho =>
        simp only [List.getElem?_toArray, List.getElem?_cons_zero, List.getElem?_cons_succ, Option.some.injEq] at ho
        subst ho
        refine want_yes rfl rfl (hd 10 48 (.bool false) rfl rfl rfl) rfl ?_
        have ex4 := ((hn 4 rfl).trans (show _ = Value.pointer (some ⟨w.heap.size + 1, 0, none⟩) from rfl))
        simp only [Act.eval] at ex4
        have HK := Lib.hid (hk (.pointer (some ⟨w.heap.size + 1, 3, none⟩)) rfl w' (Ext.refl _))
        clear hx hn hd hk
        go_simp
        exact HK.out
       | 12, ho =>
        simp only [List.getElem?_toArray, List.getElem?_cons_zero, List.getElem?_cons_succ, Option.some.injEq] at ho
        subst ho
        refine want_yes rfl rfl (hd 10 48 (.bool false) rfl rfl rfl) rfl ?_
        have ex49 := (eval_of (hd 11 49 (.pointer (some ⟨w.heap.size + 1, 3, none⟩)) rfl rfl rfl))
        have hcl : w'.cell? ⟨w.heap.size + 1, 3, none⟩ = some (.int .i64 ctil) := (HB1.out.ext hx).cell 3
        simp only [Act.eval] at ex49
        have HK := Lib.hid (hk (.int .i64 ctil) rfl w' (Ext.refl _))
        clear hx hn hd hk
        go_simp
        exact HK.out
       | 13, ho =>
        simp only [List.getElem?_toArray, List.getElem?_cons_zero, List.getElem?_cons_succ, Option.some.injEq] at ho
        subst ho
        refine want_yes rfl rfl (hd 10 48 (.bool false) rfl rfl rfl) rfl ?_
        have ex3 := ((hn 3 rfl).trans (show _ = Value.pointer (some ⟨w.heap.size, 0, none⟩) from rfl))
        simp only [Act.eval] at ex3
        have HK := Lib.hid (hk (.pointer (some ⟨w.heap.size, 6, none⟩)) rfl w' (Ext.refl _))
        clear hx hn hd hk
        go_simp
        exact HK.out
       | 14, ho =>
        simp only [List.getElem?_toArray, List.getElem?_cons_zero, List.getElem?_cons_succ, Option.some.injEq] at ho
        subst ho
        refine want_yes rfl rfl (hd 10 48 (.bool false) rfl rfl rfl) rfl ?_
        have ex51 := (eval_of (hd 13 51 (.pointer (some ⟨w.heap.size, 6, none⟩)) rfl rfl rfl))
        have hcl : w'.cell? ⟨w.heap.size, 6, none⟩ = some (.slice (some ⟨b, off, none⟩) hen hec) := (HB0.out.ext hx).cell 6
        simp only [Act.eval] at ex51
        have HK := Lib.hid (hk (.slice (some ⟨b, off, none⟩) hen hec) rfl w' (Ext.refl _))
        clear hx hn hd hk
        go_simp
        exact HK.out
       | 15, ho =>
        simp only [List.getElem?_toArray, List.getElem?_cons_zero, List.getElem?_cons_succ, Option.some.injEq] at ho
        subst ho
        refine want_yes rfl rfl (hd 10 48 (.bool false) rfl rfl rfl) rfl ?_
        exact wp_move _ _ rfl ((hn 7 rfl).trans (show _ = Value.int .i64 (k : Int) from rfl)) (hk _ rfl w' (Ext.refl _))
       | 16, ho =>
        simp only [List.getElem?_toArray, List.getElem?_cons_zero, List.getElem?_cons_succ, Option.some.injEq] at ho
        subst ho
        refine want_yes rfl rfl (hd 10 48 (.bool false) rfl rfl rfl) rfl ?_
        exact wp_ix_ev rfl (eval_of (hd 14 52 (.slice (some ⟨b, off, none⟩) hen hec) rfl rfl rfl)) (eval_of (hd 15 53 (.int .i64 (k : Int)) rfl rfl rfl)) hkl (hk _ rfl w' (Ext.refl _))
       | 17, ho =>
        simp only [List.getElem?_toArray, List.getElem?_cons_zero, List.getElem?_cons_succ, Option.some.injEq] at ho
        subst ho
        refine want_yes rfl rfl (hd 10 48 (.bool false) rfl rfl rfl) rfl ?_
        exact wp_load_ev rfl b _ e _ _ _ (eval_of (hd 16 54 (.pointer (some ⟨b, off + k * 7, none⟩)) rfl rfl rfl)) (fun j u hu => hx.cell (HC.out j u hu)) (hk _ rfl w' (Ext.refl _))
       | 18, ho =>
        simp only [List.getElem?_toArray, List.getElem?_cons_zero, List.getElem?_cons_succ, Option.some.injEq] at ho
        subst ho
        refine want_yes rfl rfl (hd 10 48 (.bool false) rfl rfl rfl) rfl ?_
        exact wp_call1s rfl (eval_of (hd 17 55 (.agg (e.cells A' n' c')) rfl rfl rfl)) Tryz.call120 (HLen.out w' hx) (hk _ rfl)
       | 19, ho =>
        simp only [List.getElem?_toArray, List.getElem?_cons_zero, List.getElem?_cons_succ, Option.some.injEq] at ho
        subst ho
        refine want_yes rfl rfl (hd 10 48 (.bool false) rfl rfl rfl) rfl ?_
        exact wp_bin rfl (eval_of (hd 12 50 (.int .i64 ctil) rfl rfl rfl)) (eval_of (hd 18 56 (.int .i64 e.len) rfl rfl rfl)) (by first | (go_simp; done) | (go_simp; rw [hlt]) | (simp [hlt])) (hk _ rfl w' (Ext.refl _))
       | 20, ho =>
        simp only [List.getElem?_toArray, List.getElem?_cons_zero, List.getElem?_cons_succ, Option.some.injEq] at ho
        subst ho
        refine want_none rfl ?_
        exact wp_pick _ _ _ false _ rfl (eval_of (hd 10 48 (.bool false) rfl rfl rfl)) (by exact (eval_of (hd 19 57 (.bool true) rfl rfl rfl))) (hk _ rfl w' (Ext.refl _))
       | i + 21, ho => simp at ho
     intro w9 hx9
     simp only [Act.put, List.foldl_cons, List.foldl_nil, List.setIfInBounds_toArray, List.set_cons_zero, List.set_cons_succ]
     go_wp2_with fail
     go_ret
     exact ⟨ret_int HGG.out.symm, HX.out.trans hx9⟩
end
section
open Go.RowKit
def rateE (r : Int) (d : Bool) : Int := if rateOkB r d = true then 0 else 13
set_option maxRecDepth 100000 in
set_option maxHeartbeats 400000 in
theorem drate_any (r : Int) (d : Bool) (w : World) (h0 : 0 ≤ r) (h1 : r ≤ 255) : Calls Tryz.prog 76 #[.int .u8 r, .bool d] w fun e w' => e = .returned (.int .i64 (rateE r d)) ∧ Ext w w' := by
 have HF : Hid (rateE r d = if (rOk r && (!d || rDrop r)) = true then 0 else 13) := rfl
 cases ho : rOk r
 · have HO := Lib.hid ho
   clear ho
   go_enter Tryz.func76, Tryz.ntmps76
   go_wp2_with fail
   refine (TBValid_any r _ h0 h1).mono ?_
   rintro e w1 ⟨rfl, hx⟩
   rw [HO.out]
   go_wp2_with fail
   go_ret
   exact ⟨ret_int (by rw [HF.out, HO.out]; rfl), hx⟩
 · have HO := Lib.hid ho
   clear ho
   cases d
   · go_enter Tryz.func76, Tryz.ntmps76
     go_wp2_with fail
     refine (TBValid_any r _ h0 h1).mono ?_
     rintro e w1 ⟨rfl, hx⟩
     rw [HO.out]
     go_wp2_with fail
     go_ret
     exact ⟨ret_int (by rw [HF.out, HO.out]; rfl), hx⟩
   · go_enter Tryz.func76, Tryz.ntmps76
     go_wp2_with fail
     refine (TBValid_any r _ h0 h1).mono ?_
     rintro e w1 ⟨rfl, hx⟩
     rw [HO.out]
     go_wp2_with fail
     refine (CanDrop_any r _ h0 h1).mono ?_
     rintro e w2 ⟨rfl, hx2⟩
     cases hd : rDrop r
     · have HD := Lib.hid hd
       clear hd
       go_wp2_with fail
       go_ret
       exact ⟨ret_int (by rw [HF.out, HO.out, HD.out]; rfl), hx.trans hx2⟩
     · have HD := Lib.hid hd
       clear hd
       go_wp2_with fail
       go_ret
       exact ⟨ret_int (by rw [HF.out, HO.out, HD.out]; rfl), hx.trans hx2⟩
structure DocOk (d : Doc) : Prop where
 r0 : 0 ≤ d.rate
 r1 : d.rate ≤ 255
 title : d.title.size ≤ 9223372036854775807
 lang : d.lang.size ≤ 9223372036854775807
theorem head_char {d : Doc} (h : vld d.title = false) : d.headErr = 10 := by unfold Doc.headErr; rw [if_pos h]
theorem head_title {d : Doc} (h : vld d.title = true) (h1 : 400 < d.title.size) : d.headErr = 9 := by unfold Doc.headErr; rw [if_neg (by simp [h]), if_pos h1]
theorem head_lang {d : Doc} (h : vld d.title = true) (h1 : ¬ 400 < d.title.size) (h2 : d.lang.toList.isEmpty = false ∧ nameB d.lang = false) : d.headErr = 5 := by unfold Doc.headErr; rw [if_neg (by simp [h]), if_neg h1, if_pos h2]
theorem head_rate {d : Doc} (h : vld d.title = true) (h1 : ¬ 400 < d.title.size) (h2 : ¬ (d.lang.toList.isEmpty = false ∧ nameB d.lang = false)) (h3 : rateOkB d.rate d.drop = false) : d.headErr = 13 := by unfold Doc.headErr; rw [if_neg (by simp [h]), if_neg h1, if_neg h2, if_pos h3]
theorem head_last {d : Doc} (h : vld d.title = true) (h1 : ¬ 400 < d.title.size) (h2 : ¬ (d.lang.toList.isEmpty = false ∧ nameB d.lang = false)) (h3 : rateOkB d.rate d.drop = true) (h4 : d.last < 0 ∨ 1099511627776 < d.last) : d.headErr = 2 := by unfold Doc.headErr; rw [if_neg (by simp [h]), if_neg h1, if_neg h2, if_neg (by simp [h3]), if_pos h4]
theorem head_ok {d : Doc} (h : vld d.title = true) (h1 : ¬ 400 < d.title.size) (h2 : ¬ (d.lang.toList.isEmpty = false ∧ nameB d.lang = false)) (h3 : rateOkB d.rate d.drop = true) (h4 : ¬ (d.last < 0 ∨ 1099511627776 < d.last)) : d.headErr = 0 := by unfold Doc.headErr; rw [if_neg (by simp [h]), if_neg h1, if_neg h2, if_neg (by simp [h3]), if_neg h4]
set_option maxRecDepth 100000 in
set_option maxHeartbeats 2000000 in
theorem header_any (d : Doc) (h : DocH) (w : World) (hE : Env w) (hok : DocOk d) : Calls Tryz.prog 36 #[.agg (d.cells h)] w fun e w' => e = .returned (.int .i64 d.headErr) ∧ Ext w w' := by
 have HX := Lib.hid ((Ext.refl w).alloc (.cells (d.cells h) 27))
 have HB := Lib.hid (Blk.new w 27 (d.cells h))
 have HV := Lib.hid (fun w' (hx : Ext w w') => Valid_any d.title w' (hE.ext hx) hok.title)
 have HN := Lib.hid (fun w' => Name_any d.lang w' hok.lang)
 have HR := Lib.hid (fun w' => drate_any d.rate d.drop w' hok.r0 hok.r1)
 have H1 := Lib.hid (@head_char d)
 have H2 := Lib.hid (@head_title d)
 have H3 := Lib.hid (@head_lang d)
 have H4 := Lib.hid (@head_rate d)
 have H5 := Lib.hid (@head_last d)
 have H6 := Lib.hid (@head_ok d)
 clear hE hok
 unfold Doc.cells at *
 go_enter Tryz.func36, Tryz.ntmps36
 go_wp2_with fail
 refine (HV.out _ HX.out).mono ?_
 rintro en w1 ⟨rfl, hx1⟩
 have HX1 := Lib.hid (HX.out.trans hx1)
 have HB1 := Lib.hid (HB.out.ext hx1)
 clear hx1 HX HB
 have hc := fun o => HB1.out.cell o
 cases hv : vld d.title
 · have HA := Lib.hid hv
   clear hv
   go_wp2_with fail
   go_ret
   exact ⟨ret_int (H1.out HA.out).symm, HX1.out⟩
 have HA := Lib.hid hv
 clear hv
 by_cases h4 : 400 < d.title.size
 · have h4i : (400 : Int) < (d.title.size : Int) := by omega
   go_wp2_with fail
   go_ret
   exact ⟨ret_int (H2.out HA.out h4).symm, HX1.out⟩
 have h4i : ¬ (400 : Int) < (d.title.size : Int) := by omega
 have HT := Lib.hid h4
 clear h4
 have key : ∀ (P : Prop), (d.lang.toList.isEmpty = true → P) → (d.lang.toList.isEmpty = false → P) → P := fun P a b => by cases hx : d.lang.toList.isEmpty; exact b hx; exact a hx
 cases hl : d.lang.toList.isEmpty
 · have HLg := Lib.hid hl
   go_wp2_with fail
   refine (HN.out _).mono ?_
   rintro en w2 ⟨rfl, hx2⟩
   subst hx2
   cases hn : nameB d.lang
   · have HNm := Lib.hid hn
     clear hn
     go_wp2_with fail
     go_ret
     exact ⟨ret_int (H3.out HA.out HT.out ⟨HLg.out, HNm.out⟩).symm, HX1.out⟩
   have HNm : Hid (¬ (d.lang.toList.isEmpty = false ∧ nameB d.lang = false)) := by show ¬ _; rw [hn]; simp
   clear hn key
   go_wp2_with fail
   refine (HR.out _).mono ?_
   rintro en w2 ⟨rfl, hx2⟩
   have HX2 := Lib.hid (HX1.out.trans hx2)
   have HB2 := Lib.hid (HB1.out.ext hx2)
   clear hx2 hc
   have hc := fun o => HB2.out.cell o
   cases hr : rateOkB d.rate d.drop
   · have HRt := Lib.hid hr
     have he : rateE d.rate d.drop = 13 := by unfold rateE; rw [hr]; rfl
     rw [he]
     clear hr he
     go_wp2_with fail
     go_ret
     exact ⟨ret_int (H4.out HA.out HT.out HNm.out HRt.out).symm, HX2.out⟩
   have HRt := Lib.hid hr
   have he : rateE d.rate d.drop = 0 := by unfold rateE; rw [hr]; rfl
   rw [he]
   clear hr he
   by_cases hz : d.last < 0
   · go_wp2_with fail
     go_ret
     exact ⟨ret_int (H5.out HA.out HT.out HNm.out HRt.out (.inl hz)).symm, HX2.out⟩
   by_cases hy : 1099511627776 < d.last
   · go_wp2_with fail
     go_ret
     exact ⟨ret_int (H5.out HA.out HT.out HNm.out HRt.out (.inr hy)).symm, HX2.out⟩
   have HZ : Hid (¬ (d.last < 0 ∨ 1099511627776 < d.last)) := by show ¬ _; omega
   go_wp2_with fail
   go_ret
   exact ⟨ret_int (H6.out HA.out HT.out HNm.out HRt.out HZ.out).symm, HX2.out⟩
 · have HNm : Hid (¬ (d.lang.toList.isEmpty = false ∧ nameB d.lang = false)) := by show ¬ _; rw [hl]; simp
   clear key
   go_wp2_with fail
   refine (HR.out _).mono ?_
   rintro en w2 ⟨rfl, hx2⟩
   have HX2 := Lib.hid (HX1.out.trans hx2)
   have HB2 := Lib.hid (HB1.out.ext hx2)
   clear hx2 hc
   have hc := fun o => HB2.out.cell o
   cases hr : rateOkB d.rate d.drop
   · have HRt := Lib.hid hr
     have he : rateE d.rate d.drop = 13 := by unfold rateE; rw [hr]; rfl
     rw [he]
     clear hr he
     go_wp2_with fail
     go_ret
     exact ⟨ret_int (H4.out HA.out HT.out HNm.out HRt.out).symm, HX2.out⟩
   have HRt := Lib.hid hr
   have he : rateE d.rate d.drop = 0 := by unfold rateE; rw [hr]; rfl
   rw [he]
   clear hr he
   by_cases hz : d.last < 0
   · go_wp2_with fail
     go_ret
     exact ⟨ret_int (H5.out HA.out HT.out HNm.out HRt.out (.inl hz)).symm, HX2.out⟩
   by_cases hy : 1099511627776 < d.last
   · go_wp2_with fail
     go_ret
     exact ⟨ret_int (H5.out HA.out HT.out HNm.out HRt.out (.inr hy)).symm, HX2.out⟩
   have HZ : Hid (¬ (d.last < 0 ∨ 1099511627776 < d.last)) := by show ¬ _; omega
   go_wp2_with fail
   go_ret
   exact ⟨ret_int (H6.out HA.out HT.out HNm.out HRt.out HZ.out).symm, HX2.out⟩
end
end Go.Proofs.YtbmblnhfmpolbaaGreatDoor