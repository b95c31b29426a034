/- Laid together: The walks of the reference's regions: usable, Find, CheckList. The walk of the reference's Place. The walk of the reference's Spots, at accepted events. -/
import Derived.Test.YtajbhfmdmajpmaaGreatDoorPk10
import Derived.Test.YtajbhfmdmajpmaaGreatDoorPk05
import Derived.Test.YtajbhfmdmajpmaaGreatDoorPk03
import Derived.Test.YtajbhfmdmajpmaaGreatDoorPk09

/-! RegS -/
namespace Go.Proofs.YtajbhfmdmajpmaaGreatDoor
set_option linter.unusedVariables false
set_option linter.unusedSimpArgs false
open Go.RowKit
theorem wp_call0 {P : Program} {o : Oper} {a : Act} {w : World} {K : Act → World → Prop} {Q : Exit → Act → World → Prop} {f : FuncId} {ts : Array TypeId} (ho : o.op = .call { callee := .value (.func f), args := #[], argTypes := ts })
    (hent : ∀ args w, (callFunc f args).run P w = .ok (.enter f args) w) {r : Value} (hc : Calls P f #[] w fun en w' => en = .returned r ∧ Ext w w') (h : ∀ w', Ext w w' → K (a.put o.dst r) w') : o.wp P a w K Q := by
  have h2 : Calls P f #[] w (fun
      | .returned u, w'' => K (a.put o.dst u) w''
      | .panicked chain, w'' => Q (.panic chain) a w''
      | .outgrown, _ => LetsOut Q) := hc.mono fun en w' hr => by
    obtain ⟨rfl, hk⟩ := hr
    exact h w' hk
  unfold Oper.wp execOp
  have hev : a.eval (.func f) = .func (.func f) #[] #[] := rfl
  simp only [ho]
  simp [resolve, invoke, hev, hent, Sem.run_bind, Deferred.ofValue]
  exact h2
set_option maxRecDepth 100000 in
set_option maxHeartbeats 2000000 in
theorem R10usable_any (r : Reg) (w : World) (hs : r.name.size ≤ 9223372036854775807) : Calls Tryz.prog 143 #[r.val] w fun e w' => e = .returned (.bool r.usable) ∧ Ext w w' := by
  have hR := fun w => R10Check_any r w hs
  have hU : r.usable = decide (r = Reg.default ∨ r.check = 0) := rfl
  have hq0 := fun (hd : r ≠ Reg.default) w => eql_reg_no hd w
  have hq1 := fun (hd : r = Reg.default) w => eql_reg_yes Reg.default w
  generalize r.check = E at *
  by_cases hE : E = 0
  · subst hE
    have HU : Hid (r.usable = true) := by show _ = _; rw [hU]; exact decide_eq_true (.inr rfl)
    clear hU hq0 hq1
    obtain ⟨nm, top, hgt, lft, wid, al, bot⟩ := r
    have HR := Lib.hid hR
    have HB := Lib.hid (Blk.new w 125 #[.string nm, .int .i64 top, .int .i64 hgt, .int .i64 lft, .int .i64 wid, .int .u8 al, .bool bot])
    clear hR
    unfold Reg.val at HR ⊢
    dsimp only at HR ⊢
    go_enter Tryz.func143, Tryz.ntmps143
    go_wp2_with fail
    refine wp_region_vals [.agg #[.string nm, .int .i64 top, .int .i64 hgt, .int .i64 lft, .int .i64 wid, .int .u8 al, .bool bot], .int .i64 0, .bool true, .bool true, undef, undef, undef, .bool true, .bool true] [(3, .agg #[.string nm, .int .i64 top, .int .i64 hgt, .int .i64 lft, .int .i64 wid, .int .u8 al, .bool bot]), (4, .int .i64 0), (5, .bool true), (6, .bool true), (7, undef), (8, undef), (9, undef), (10, .bool true), (2, .bool true)] (by kernel_rfl) (by kernel_rfl) (by kernel_rfl) rfl rfl ?_ ?_
    · intro i o ho a w' K' hx hn hd hk
      match i, ho with
      | 0, ho =>
        simp only [List.getElem?_toArray, List.getElem?_cons_zero, List.getElem?_cons_succ, Option.some.injEq] at ho
        subst ho
        refine want_none rfl ?_
        exact wp_loadB 125 (.tmp 1) rfl _ 125 _ _ ((hn 1 rfl).trans (show _ = Value.pointer (some ⟨w.heap.size, 0, none⟩) from rfl)) (HB.out.ext hx) Tryz.underlying125 rfl (by exact info_reg) (hk _ rfl w' (Ext.refl _))
      | 1, ho =>
        simp only [List.getElem?_toArray, List.getElem?_cons_zero, List.getElem?_cons_succ, Option.some.injEq] at ho
        subst ho
        refine want_none rfl ?_
        exact wp_call1s rfl (eval_of (hd 0 3 (.agg #[.string nm, .int .i64 top, .int .i64 hgt, .int .i64 lft, .int .i64 wid, .int .u8 al, .bool bot]) rfl rfl rfl)) Tryz.call104 (HR.out w') (hk _ rfl)
      | 2, ho =>
        simp only [List.getElem?_toArray, List.getElem?_cons_zero, List.getElem?_cons_succ, Option.some.injEq] at ho
        subst ho
        refine want_none rfl ?_
        exact wp_bin rfl (eval_of (hd 1 4 (.int .i64 0) rfl rfl rfl)) rfl (by first | (go_simp; done) | simp | (simp; omega)) (hk _ rfl w' (Ext.refl _))
      | 3, ho =>
        simp only [List.getElem?_toArray, List.getElem?_cons_zero, List.getElem?_cons_succ, Option.some.injEq] at ho
        subst ho
        refine want_none rfl ?_
        exact wp_move _ _ rfl (eval_of (hd 2 5 (.bool true) rfl rfl rfl)) (hk _ rfl w' (Ext.refl _))
      | 4, ho =>
        simp only [List.getElem?_toArray, List.getElem?_cons_zero, List.getElem?_cons_succ, Option.some.injEq] at ho
        subst ho
        refine want_no rfl rfl (hd 3 6 (.bool true) rfl rfl rfl) rfl ?_
        exact hk undef rfl w' (Ext.refl _)
      | 5, ho =>
        simp only [List.getElem?_toArray, List.getElem?_cons_zero, List.getElem?_cons_succ, Option.some.injEq] at ho
        subst ho
        refine want_no rfl rfl (hd 3 6 (.bool true) rfl rfl rfl) rfl ?_
        exact hk undef rfl w' (Ext.refl _)
      | 6, ho =>
        simp only [List.getElem?_toArray, List.getElem?_cons_zero, List.getElem?_cons_succ, Option.some.injEq] at ho
        subst ho
        refine want_no rfl rfl (hd 3 6 (.bool true) rfl rfl rfl) rfl ?_
        exact hk undef rfl w' (Ext.refl _)
      | 7, ho =>
        simp only [List.getElem?_toArray, List.getElem?_cons_zero, List.getElem?_cons_succ, Option.some.injEq] at ho
        subst ho
        refine want_none rfl ?_
        exact wp_pick _ _ _ true _ rfl (eval_of (hd 3 6 (.bool true) rfl rfl rfl)) (by exact rfl) (hk _ rfl w' (Ext.refl _))
      | 8, ho =>
        simp only [List.getElem?_toArray, List.getElem?_cons_zero, List.getElem?_cons_succ, Option.some.injEq] at ho
        subst ho
        refine want_none rfl ?_
        exact wp_assignx _ _ rfl (eval_of (hd 7 10 (.bool true) rfl rfl rfl)) (hk _ rfl w' (Ext.refl _))
      | i + 9, ho => simp at ho
    intro w9 hx9
    simp only [Act.put, List.foldl_cons, List.foldl_nil, List.setIfInBounds_toArray, List.set_cons_zero, List.set_cons_succ]
    go_wp2_with fail
    go_ret
    exact ⟨by rw [HU.out]; rfl, ((Ext.refl w).alloc _).trans hx9⟩
  by_cases hd : r = Reg.default
  · have HU : Hid (r.usable = true) := by show _ = _; rw [hU]; exact decide_eq_true (.inl hd)
    have hq := hq1 hd
    clear hU hq0 hq1 hs
    subst hd
    have HR := Lib.hid hR
    have HB := Lib.hid (Blk.new w 125 #[.string ByteArray.empty, .int .i64 11, .int .i64 4, .int .i64 0, .int .i64 32, .int .u8 2, .bool true])
    clear hR
    unfold Reg.val Reg.default at HR hq ⊢
    unfold Reg.default at HU
    dsimp only at HR hq HU ⊢
    go_enter Tryz.func143, Tryz.ntmps143
    go_wp2_with fail
    refine wp_region_vals [.agg #[.string ByteArray.empty, .int .i64 11, .int .i64 4, .int .i64 0, .int .i64 32, .int .u8 2, .bool true], .int .i64 E, .bool false, .bool false, .agg #[.string ByteArray.empty, .int .i64 11, .int .i64 4, .int .i64 0, .int .i64 32, .int .u8 2, .bool true], .agg #[.string ByteArray.empty, .int .i64 11, .int .i64 4, .int .i64 0, .int .i64 32, .int .u8 2, .bool true], .bool true, .bool true, .bool true] [(3, .agg #[.string ByteArray.empty, .int .i64 11, .int .i64 4, .int .i64 0, .int .i64 32, .int .u8 2, .bool true]), (4, .int .i64 E), (5, .bool false), (6, .bool false), (7, .agg #[.string ByteArray.empty, .int .i64 11, .int .i64 4, .int .i64 0, .int .i64 32, .int .u8 2, .bool true]), (8, .agg #[.string ByteArray.empty, .int .i64 11, .int .i64 4, .int .i64 0, .int .i64 32, .int .u8 2, .bool true]), (9, .bool true), (10, .bool true), (2, .bool true)] (by kernel_rfl) (by kernel_rfl) (by kernel_rfl) rfl rfl ?_ ?_
    · intro i o ho a w' K' hx hn hd hk
      match i, ho with
      | 0, ho =>
        simp only [List.getElem?_toArray, List.getElem?_cons_zero, List.getElem?_cons_succ, Option.some.injEq] at ho
        subst ho
        refine want_none rfl ?_
        exact wp_loadB 125 (.tmp 1) rfl _ 125 _ _ ((hn 1 rfl).trans (show _ = Value.pointer (some ⟨w.heap.size, 0, none⟩) from rfl)) (HB.out.ext hx) Tryz.underlying125 rfl (by exact info_reg) (hk _ rfl w' (Ext.refl _))
      | 1, ho =>
        simp only [List.getElem?_toArray, List.getElem?_cons_zero, List.getElem?_cons_succ, Option.some.injEq] at ho
        subst ho
        refine want_none rfl ?_
        exact wp_call1s rfl (eval_of (hd 0 3 (.agg #[.string ByteArray.empty, .int .i64 11, .int .i64 4, .int .i64 0, .int .i64 32, .int .u8 2, .bool true]) rfl rfl rfl)) Tryz.call104 (HR.out w') (hk _ rfl)
      | 2, ho =>
        simp only [List.getElem?_toArray, List.getElem?_cons_zero, List.getElem?_cons_succ, Option.some.injEq] at ho
        subst ho
        refine want_none rfl ?_
        exact wp_bin rfl (eval_of (hd 1 4 (.int .i64 E) rfl rfl rfl)) rfl (by first | (go_simp; done) | simp | (simp; omega)) (hk _ rfl w' (Ext.refl _))
      | 3, ho =>
        simp only [List.getElem?_toArray, List.getElem?_cons_zero, List.getElem?_cons_succ, Option.some.injEq] at ho
        subst ho
        refine want_none rfl ?_
        exact wp_move _ _ rfl (eval_of (hd 2 5 (.bool false) rfl rfl rfl)) (hk _ rfl w' (Ext.refl _))
      | 4, ho =>
        simp only [List.getElem?_toArray, List.getElem?_cons_zero, List.getElem?_cons_succ, Option.some.injEq] at ho
        subst ho
        refine want_yes rfl rfl (hd 3 6 (.bool false) rfl rfl rfl) rfl ?_
        exact wp_loadB 125 (.tmp 1) rfl _ 125 _ _ ((hn 1 rfl).trans (show _ = Value.pointer (some ⟨w.heap.size, 0, none⟩) from rfl)) (HB.out.ext hx) Tryz.underlying125 rfl (by exact info_reg) (hk _ rfl w' (Ext.refl _))
      | 5, ho =>
        simp only [List.getElem?_toArray, List.getElem?_cons_zero, List.getElem?_cons_succ, Option.some.injEq] at ho
        subst ho
        refine want_yes rfl rfl (hd 3 6 (.bool false) rfl rfl rfl) rfl ?_
        exact wp_call0 rfl  Tryz.call140 (R10Default_any w') (hk _ rfl)
      | 6, ho =>
        simp only [List.getElem?_toArray, List.getElem?_cons_zero, List.getElem?_cons_succ, Option.some.injEq] at ho
        subst ho
        refine want_yes rfl rfl (hd 3 6 (.bool false) rfl rfl rfl) rfl ?_
        exact wp_bin rfl (eval_of (hd 4 7 (.agg #[.string ByteArray.empty, .int .i64 11, .int .i64 4, .int .i64 0, .int .i64 32, .int .u8 2, .bool true]) rfl rfl rfl)) (eval_of (hd 5 8 (.agg #[.string ByteArray.empty, .int .i64 11, .int .i64 4, .int .i64 0, .int .i64 32, .int .u8 2, .bool true]) rfl rfl rfl)) (by first | (go_simp; done) | (go_simp; exact hq w') | (go_simp; simp [hq]; done) | go_simp) (hk _ rfl w' (Ext.refl _))
      | 7, ho =>
        simp only [List.getElem?_toArray, List.getElem?_cons_zero, List.getElem?_cons_succ, Option.some.injEq] at ho
        subst ho
        refine want_none rfl ?_
        exact wp_pick _ _ _ false _ rfl (eval_of (hd 3 6 (.bool false) rfl rfl rfl)) (by exact (eval_of (hd 6 9 (.bool true) rfl rfl rfl))) (hk _ rfl w' (Ext.refl _))
      | 8, ho =>
        simp only [List.getElem?_toArray, List.getElem?_cons_zero, List.getElem?_cons_succ, Option.some.injEq] at ho
        subst ho
        refine want_none rfl ?_
        exact wp_assignx _ _ rfl (eval_of (hd 7 10 (.bool true) rfl rfl rfl)) (hk _ rfl w' (Ext.refl _))
      | i + 9, ho => simp at ho
    intro w9 hx9
    simp only [Act.put, List.foldl_cons, List.foldl_nil, List.setIfInBounds_toArray, List.set_cons_zero, List.set_cons_succ]
    go_wp2_with fail
    go_ret
    exact ⟨by rw [HU.out]; rfl, ((Ext.refl w).alloc _).trans hx9⟩
  · have HU : Hid (r.usable = false) := by show _ = _; rw [hU]; exact decide_eq_false (by simp [hd, hE])
    have hq := hq0 hd
    clear hU hq0 hq1 hs hd
    obtain ⟨nm, top, hgt, lft, wid, al, bot⟩ := r
    have HR := Lib.hid hR
    have HB := Lib.hid (Blk.new w 125 #[.string nm, .int .i64 top, .int .i64 hgt, .int .i64 lft, .int .i64 wid, .int .u8 al, .bool bot])
    clear hR
    unfold Reg.val at HR hq ⊢
    unfold Reg.default at hq
    dsimp only at HR hq ⊢
    go_enter Tryz.func143, Tryz.ntmps143
    go_wp2_with fail
    refine wp_region_vals [.agg #[.string nm, .int .i64 top, .int .i64 hgt, .int .i64 lft, .int .i64 wid, .int .u8 al, .bool bot], .int .i64 E, .bool false, .bool false, .agg #[.string nm, .int .i64 top, .int .i64 hgt, .int .i64 lft, .int .i64 wid, .int .u8 al, .bool bot], .agg #[.string ByteArray.empty, .int .i64 11, .int .i64 4, .int .i64 0, .int .i64 32, .int .u8 2, .bool true], .bool false, .bool false, .bool false] [(3, .agg #[.string nm, .int .i64 top, .int .i64 hgt, .int .i64 lft, .int .i64 wid, .int .u8 al, .bool bot]), (4, .int .i64 E), (5, .bool false), (6, .bool false), (7, .agg #[.string nm, .int .i64 top, .int .i64 hgt, .int .i64 lft, .int .i64 wid, .int .u8 al, .bool bot]), (8, .agg #[.string ByteArray.empty, .int .i64 11, .int .i64 4, .int .i64 0, .int .i64 32, .int .u8 2, .bool true]), (9, .bool false), (10, .bool false), (2, .bool false)] (by kernel_rfl) (by kernel_rfl) (by kernel_rfl) rfl rfl ?_ ?_
    · intro i o ho a w' K' hx hn hd hk
      match i, ho with
      | 0, ho =>
        simp only [List.getElem?_toArray, List.getElem?_cons_zero, List.getElem?_cons_succ, Option.some.injEq] at ho
        subst ho
        refine want_none rfl ?_
        exact wp_loadB 125 (.tmp 1) rfl _ 125 _ _ ((hn 1 rfl).trans (show _ = Value.pointer (some ⟨w.heap.size, 0, none⟩) from rfl)) (HB.out.ext hx) Tryz.underlying125 rfl (by exact info_reg) (hk _ rfl w' (Ext.refl _))
      | 1, ho =>
        simp only [List.getElem?_toArray, List.getElem?_cons_zero, List.getElem?_cons_succ, Option.some.injEq] at ho
        subst ho
        refine want_none rfl ?_
        exact wp_call1s rfl (eval_of (hd 0 3 (.agg #[.string nm, .int .i64 top, .int .i64 hgt, .int .i64 lft, .int .i64 wid, .int .u8 al, .bool bot]) rfl rfl rfl)) Tryz.call104 (HR.out w') (hk _ rfl)
      | 2, ho =>
        simp only [List.getElem?_toArray, List.getElem?_cons_zero, List.getElem?_cons_succ, Option.some.injEq] at ho
        subst ho
        refine want_none rfl ?_
        exact wp_bin rfl (eval_of (hd 1 4 (.int .i64 E) rfl rfl rfl)) rfl (by first | (go_simp; done) | simp | (simp; omega)) (hk _ rfl w' (Ext.refl _))
      | 3, ho =>
        simp only [List.getElem?_toArray, List.getElem?_cons_zero, List.getElem?_cons_succ, Option.some.injEq] at ho
        subst ho
        refine want_none rfl ?_
        exact wp_move _ _ rfl (eval_of (hd 2 5 (.bool false) rfl rfl rfl)) (hk _ rfl w' (Ext.refl _))
      | 4, ho =>
        simp only [List.getElem?_toArray, List.getElem?_cons_zero, List.getElem?_cons_succ, Option.some.injEq] at ho
        subst ho
        refine want_yes rfl rfl (hd 3 6 (.bool false) rfl rfl rfl) rfl ?_
        exact wp_loadB 125 (.tmp 1) rfl _ 125 _ _ ((hn 1 rfl).trans (show _ = Value.pointer (some ⟨w.heap.size, 0, none⟩) from rfl)) (HB.out.ext hx) Tryz.underlying125 rfl (by exact info_reg) (hk _ rfl w' (Ext.refl _))
      | 5, ho =>
        simp only [List.getElem?_toArray, List.getElem?_cons_zero, List.getElem?_cons_succ, Option.some.injEq] at ho
        subst ho
        refine want_yes rfl rfl (hd 3 6 (.bool false) rfl rfl rfl) rfl ?_
        exact wp_call0 rfl  Tryz.call140 (R10Default_any w') (hk _ rfl)
      | 6, ho =>
        simp only [List.getElem?_toArray, List.getElem?_cons_zero, List.getElem?_cons_succ, Option.some.injEq] at ho
        subst ho
        refine want_yes rfl rfl (hd 3 6 (.bool false) rfl rfl rfl) rfl ?_
        exact wp_bin rfl (eval_of (hd 4 7 (.agg #[.string nm, .int .i64 top, .int .i64 hgt, .int .i64 lft, .int .i64 wid, .int .u8 al, .bool bot]) rfl rfl rfl)) (eval_of (hd 5 8 (.agg #[.string ByteArray.empty, .int .i64 11, .int .i64 4, .int .i64 0, .int .i64 32, .int .u8 2, .bool true]) rfl rfl rfl)) (by first | (go_simp; done) | (go_simp; exact hq w') | (go_simp; simp [hq]; done) | go_simp) (hk _ rfl w' (Ext.refl _))
      | 7, ho =>
        simp only [List.getElem?_toArray, List.getElem?_cons_zero, List.getElem?_cons_succ, Option.some.injEq] at ho
        subst ho
        refine want_none rfl ?_
        exact wp_pick _ _ _ false _ rfl (eval_of (hd 3 6 (.bool false) rfl rfl rfl)) (by exact (eval_of (hd 6 9 (.bool false) rfl rfl rfl))) (hk _ rfl w' (Ext.refl _))
      | 8, ho =>
        simp only [List.getElem?_toArray, List.getElem?_cons_zero, List.getElem?_cons_succ, Option.some.injEq] at ho
        subst ho
        refine want_none rfl ?_
        exact wp_assignx _ _ rfl (eval_of (hd 7 10 (.bool false) rfl rfl rfl)) (hk _ rfl w' (Ext.refl _))
      | i + 9, ho => simp at ho
    intro w9 hx9
    simp only [Act.put, List.foldl_cons, List.foldl_nil, List.setIfInBounds_toArray, List.set_cons_zero, List.set_cons_succ]
    go_wp2_with fail
    go_ret
    exact ⟨by rw [HU.out]; rfl, ((Ext.refl w).alloc _).trans hx9⟩
theorem R10find_ret {w' : World} {g : Nat} {r : Reg} {b : Bool} {tmps : Array Value} (hB : Blk w' g 125 #[.string r.name, .int .i64 r.top, .int .i64 r.height, .int .i64 r.left, .int .i64 r.width, .int .u8 r.align, .bool r.bottom])
    (h4 : tmps.getD 4 undef = .pointer (some ⟨g, 0, none⟩)) (h5 : tmps.getD 5 undef = .bool b) : (results Tryz.f92 tmps).run Tryz.prog w' = .ok (.tuple #[r.val, .bool b]) w' := by
  rw [results_B_tmp (P := Tryz.prog) Tryz.results92 h4 hB Tryz.underlying125 rfl info_reg, h5]
  rfl
set_option maxHeartbeats 1000000 in
theorem R10Find_any (A : Option Addr) (n c : Nat) (l : List Reg) (nm : ByteArray) (w : World) (hl : RegsAt w A n l) (hn : n ≤ 9223372036854775807) :
    Calls Tryz.prog 92 #[.slice A n c, .string nm] w fun e w' => e = .returned (.tuple #[((findR l nm).getD Reg.zero).val, .bool (findR l nm).isSome]) ∧ Ext w w' := by
  by_cases h0 : nm.toList = []
  · have HF : Hid (findR l nm = some Reg.default) := by show findR l nm = _; unfold findR; rw [if_pos h0]
    have h0' : nm.toList.isEmpty = true := by rw [h0]; rfl
    clear h0
    go_enter Tryz.func92, Tryz.ntmps92
    go_wp2_with fail
    refine (R10Default_any _).mono ?_
    rintro e w1 ⟨rfl, hx1⟩
    unfold Reg.val Reg.default
    dsimp only
    have hB := Lib.hid (Blk.ext (Blk.new w _ _) hx1)
    go_wp2_with (refine wpList_storeB rfl 125 (.tmp 4) (.tmp 10) rfl w.heap.size 125 _ _ (by exact rfl) (by exact rfl) hB.out (by exact rfl) (by exact info_reg) (by simp [Value.oneCell']) ?_)
    refine bodyPost_ret (v := .tuple #[Reg.default.val, .bool true]) ?_ rfl ⟨?_, ?_⟩
    · exact R10find_ret (r := Reg.default) (hB.out.put _) rfl rfl
    · rw [HF.out]; rfl
    · exact (((Ext.refl w).alloc _).trans hx1).put (Nat.le_refl _) _ _
  · have HF : Hid (findR l nm = l.find? (fun r => r.name.toList == nm.toList)) := by show findR l nm = _; unfold findR; rw [if_neg h0]
    have h0' : nm.toList.isEmpty = false := by cases h : nm.toList with
      | nil => exact absurd h h0
      | cons a b => rfl
    clear h0
    have HL := Lib.hid hl
    clear hl
    go_enter Tryz.func92, Tryz.ntmps92
    go_wp2_with fail
    go_loopw [13] (fun i wr => FindRel w A n l nm i wr) (fun i _ => n - (intOf i).toNat)
    case atStart => exact ⟨0, Nat.zero_le _, rfl, Ext.refl _, rfl⟩
    case round =>
      obtain ⟨k, hk, rfl, hx, hp⟩ := hrel
      have HP := Lib.hid hp
      clear hp
      have hB := Lib.hid (Blk.ext (Blk.new w _ _) hx)
      have hxw : Ext w wr := ((Ext.refl w).alloc _).trans hx
      by_cases hlt : k < n
      · obtain ⟨b, off, r, rfl, hr, hC⟩ := (HL.out.ext hxw).at_ hlt
        have HR := Lib.hid hr
        clear hr
        obtain ⟨c0, c1, c2, c3, c4, c5, c6⟩ := hC
        have hdrop : Hid (l.drop k = r :: l.drop (k + 1)) := by
          show l.drop k = _
          have hkl := (List.getElem?_eq_some_iff.1 HR.out).1
          rw [List.drop_eq_getElem_cons hkl]
          congr 1
          exact (List.getElem?_eq_some_iff.1 HR.out).2
        by_cases hq : (r.name.toList == nm.toList) = true
        · go_wp2_with (refine wpList_storeB rfl 125 (.tmp 4) (.tmp 21) rfl w.heap.size 125 _ _ (by exact rfl) (by exact rfl) (hB.out.alloc _) (by exact rfl) (by exact info_reg) (by simp [Value.oneCell']) ?_)
          refine bodyPost_ret (v := .tuple #[r.val, .bool true]) ?_ rfl ⟨?_, ?_⟩
          · exact R10find_ret (r := r) ((hB.out.alloc _).put _) rfl rfl
          · rw [HF.out, HP.out, hdrop.out, List.find?_cons, hq]; rfl
          · exact (hxw.alloc _).put (Nat.le_refl _) _ _
        · have hq' : (r.name.toList == nm.toList) = false := by simpa using hq
          clear hq
          go_wp2_with fail
          refine ⟨⟨k + 1, by omega, by go_num, hx.alloc _, ?_⟩, by simp [intOf]; omega⟩
          rw [HP.out, hdrop.out, List.find?_cons, hq']
      · have hend : Hid (l.drop k = []) := List.drop_eq_nil_of_le (by rw [HL.out.len]; omega)
        go_wp2_with (refine wpList_storeB rfl 125 (.tmp 4) (.tmp 23) rfl w.heap.size 125 _ _ (by exact rfl) (by exact rfl) hB.out (by exact rfl) (by exact info_reg) (by simp [Value.oneCell']) ?_)
        refine bodyPost_ret (v := .tuple #[Reg.zero.val, .bool false]) ?_ rfl ⟨?_, ?_⟩
        · exact R10find_ret (r := Reg.zero) (hB.out.put _) rfl rfl
        · rw [HF.out, HP.out, hend.out]; rfl
        · exact hxw.put (Nat.le_refl _) _ _
set_option maxRecDepth 100000 in
set_option maxHeartbeats 4000000 in
theorem R10CheckList_any (A : Option Addr) (n c : Nat) (l : List Reg) (w : World) (hl : RegsAt w A n l) (hn : n ≤ 9223372036854775807) (hs : RegsSmall l) :
    Calls Tryz.prog 63 #[.slice A n c] w fun en w' => en = .returned (.int .i64 (regsErr l)) ∧ Ext w w' := by
  have HL := Lib.hid hl
  have HLn := Lib.hid hl.len
  have HSm := Lib.hid hs
  have HF : Hid (regsErr l = if 16 < l.length then 9 else regsLoop none l) := rfl
  rw [hl.len] at HF
  clear hl hs
  by_cases h16 : 16 < n
  · have h16i : (16 : Int) < (n : Int) := by omega
    go_enter Tryz.func63, Tryz.ntmps63
    go_wp2_with fail
    go_ret
    exact ⟨ret_int (by rw [HF.out, if_pos h16]), Ext.refl _⟩
  have h16i : ¬ (16 : Int) < (n : Int) := by omega
  have HG := Lib.hid (HF.out.trans (if_neg h16))
  go_enter Tryz.func63, Tryz.ntmps63
  go_wp2_with fail
  go_loopw [11] (fun i wr => ListRel w n l i wr) (fun i _ => n - (intOf i).toNat)
  case atStart => exact ⟨0, Nat.zero_le _, rfl, Ext.refl _, by simp [prevN]⟩
  case round =>
    obtain ⟨k, hk, rfl, hx, hP⟩ := hrel
    have HXr := Lib.hid hx
    by_cases hlt : k < n
    · obtain ⟨b, off, r, rfl, hr, c0, c1, c2, c3, c4, c5, c6⟩ := (HL.out.ext hx).at_ hlt
      have HS := Lib.hid (regs_step hr hP)
      have HPv := Lib.hid (fun h0 => prev_reg (HL.out.ext hx) (k := k) hk h0)
      have HCk := Lib.hid (fun w' => R10Check_any r w' (HSm.out r (List.mem_of_getElem? hr)))
      clear hr hP
      have HBc := Lib.hid (Blk.new wr 125 #[.string r.name, .int .i64 r.top, .int .i64 r.height, .int .i64 r.left, .int .i64 r.width, .int .u8 r.align, .bool r.bottom])
      have HXc := Lib.hid ((Ext.refl wr).alloc (.cells #[.string r.name, .int .i64 r.top, .int .i64 r.height, .int .i64 r.left, .int .i64 r.width, .int .u8 r.align, .bool r.bottom] 125))
      unfold Reg.val at HCk
      go_wp2_with (refine wpList_loadB rfl 125 (.tmp 4) rfl wr.heap.size 125 _ _ (by exact rfl) (by exact HBc.out) Tryz.underlying125 rfl (by exact info_reg) ?_)
      refine (HCk.out _).mono ?_
      rintro en w2 ⟨rfl, hx2⟩
      have HX2 := Lib.hid (HXc.out.trans hx2)
      have HB2 := Lib.hid (HBc.out.ext hx2)
      have hcb := fun o => HB2.out.cell o
      clear hx2 c0 c1 c2 c3 c4 c5 c6 HBc HXc
      by_cases hce : r.check = 0
      case neg =>
        have hne : (r.check != 0) = true := by simpa using hce
        have HC := Lib.hid hce
        clear hce
        go_wp2_with fail
        go_ret
        exact ⟨ret_int (by rw [HG.out, HS.out.1 HC.out]), hx.trans HX2.out⟩
      rw [hce]
      have HC := Lib.hid hce
      clear hce
      by_cases hk0 : k = 0
      · subst hk0
        have HN := Lib.hid (HS.out.2.2.2 HC.out (by simp [prevN]) (by simp [prevN]))
        go_wp2_with fail
        go_quiet (fail)
        go_wp2_with fail
        go_quiet (fail)
        go_wp2_with fail
        exact ⟨⟨1, by omega, by go_num, (hx.trans HX2.out).drewN _, HN.out⟩, by simp [intOf]; omega⟩
      obtain ⟨b', off', q, hA, p0, hq⟩ := HPv.out (by omega)
      cases hA
      have hki : (0 : Int) < (k : Int) := by omega
      have hkp : 0 < k := by omega
      have hk1 : ((k : Int) - 1).toNat = k - 1 := by omega
      have hk2 : (k : Int) - 1 = ((k - 1 : Nat) : Int) := by omega
      have pp0 := HX2.out.cell p0
      have HQ := Lib.hid hq
      clear p0 hq
      by_cases he : q = r.name
      · have he' : (r.name.toList == q.toList) = true := by rw [toList_eq_iff]; simpa using he.symm
        have HE := Lib.hid (HS.out.2.1 HC.out (by rw [HQ.out, he]))
        clear he
        go_wp2_with fail
        go_quiet (fail)
        go_wp2_with fail
        go_ret
        exact ⟨ret_int (by rw [HG.out, HE.out]), (hx.trans HX2.out).drewN _⟩
      have he' : (r.name.toList == q.toList) = false := by rw [toList_eq_iff]; simpa using fun h => he h.symm
      have HNe : Hid (prevN l k ≠ some r.name) := by show _ ≠ _; rw [HQ.out]; simpa using he
      clear he
      cases hl2 : Op.bytesLess r.name.toList q.toList
      case true =>
        have HE := Lib.hid (HS.out.2.2.1 HC.out HNe.out (by rw [HQ.out]; simp [hl2]))
        go_wp2_with fail
        go_quiet (fail)
        go_wp2_with fail
        go_quiet (fail)
        go_wp2_with fail
        go_ret
        exact ⟨ret_int (by rw [HG.out, HE.out]), ((hx.trans HX2.out).drewN _).drewN _⟩
      case false =>
        have HE := Lib.hid (HS.out.2.2.2 HC.out HNe.out (by rw [HQ.out]; simp [hl2]))
        go_wp2_with fail
        go_quiet (fail)
        go_wp2_with fail
        go_quiet (fail)
        go_wp2_with fail
        exact ⟨⟨k + 1, by omega, by go_num, (hx.trans HX2.out).drewN _, HE.out⟩, by simp [intOf]; omega⟩
    · have hkn : k = n := by omega
      subst hkn
      have HE := Lib.hid (hP.trans (by rw [List.drop_eq_nil_of_le (by have := HLn.out; omega)]; rfl) : regsLoop none l = 0)
      clear hP
      go_wp2_with fail
      go_ret
      exact ⟨ret_int (by rw [HG.out, HE.out]), hx⟩
end Go.Proofs.YtajbhfmdmajpmaaGreatDoor

/-! PlaceR -/
namespace Go.Proofs.YtajbhfmdmajpmaaGreatDoor
set_option linter.unusedVariables false
set_option linter.unusedSimpArgs false
open Go.RowKit
set_option maxRecDepth 100000 in
set_option maxHeartbeats 4000000 in
theorem R10Place_any (r : Reg) (A : Option Addr) (n c : Nat) (lens : List Int) (w : World) (hs : r.name.size ≤ 9223372036854775807) (hl : IntsAt w A n lens) (hn : n ≤ 9223372036854775807) :
    Calls Tryz.prog 98 #[r.val, .slice A n c] w (PlacePost r lens w) := by
  have hU := fun w => R10usable_any r w hs
  have hlen := hl.len
  cases hu : r.usable
  · have HP : Hid (r.place lens = 1) := by show r.place lens = 1; unfold Reg.place; rw [if_pos hu]
    have HU := Lib.hid hU
    have Hu := Lib.hid hu
    clear hU hu hlen hl
    obtain ⟨nm, top, hgt, lft, wid, al, bot⟩ := r
    unfold Reg.val at HU ⊢
    dsimp only at HU ⊢
    go_enter Tryz.func98, Tryz.ntmps98
    go_wp2_with fail
    refine (HU.out _).mono ?_
    rintro e w1 ⟨rfl, hx1⟩
    rw [Hu.out]
    go_wp2_with fail
    go_ret2
    exact placePost_err HP.out (by decide) rfl (((Ext.refl w).alloc _).trans hx1)
  · have hb := usable_bounds hu
    obtain ⟨⟨ht0, ht1⟩, ⟨hh0, hh1⟩, ⟨hl0, hl1⟩, ⟨hw0, hw1⟩⟩ := hb
    by_cases hgt9 : r.height < n
    · have HP : Hid (r.place lens = 9) := by show r.place lens = 9; unfold Reg.place; rw [if_neg (by rw [hu]; simp), if_pos (by rw [hlen]; exact hgt9)]
      have HU := Lib.hid hU
      have Hu := Lib.hid hu
      clear hU hu hlen hl
      obtain ⟨nm, top, hgt, lft, wid, al, bot⟩ := r
      unfold Reg.val at HU ⊢
      dsimp only at *
      go_enter Tryz.func98, Tryz.ntmps98
      go_wp2_with fail
      refine (HU.out _).mono ?_
      rintro e w1 ⟨rfl, hx1⟩
      rw [Hu.out]
      have hc := hx1.bcell.1 w.heap.size
      simp at hc
      go_wp2_with fail
      go_ret2
      exact placePost_err HP.out (by decide) rfl (((Ext.refl w).alloc _).trans hx1)
    · have hnh : (n : Int) ≤ r.height := by omega
      have hn15 : n ≤ 15 := by omega
      have HP : Hid (r.place lens = r.lensErr lens) := by show r.place lens = _; unfold Reg.place; rw [if_neg (by rw [hu]; simp), if_neg (by rw [hlen]; omega)]
      have HLn := Lib.hid hlen
      have HL := Lib.hid hl
      have HU := Lib.hid hU
      have Hu := Lib.hid hu
      clear hU hu hlen hl hgt9
      obtain ⟨i0, hi0, hz0, hz1, hz2⟩ := info_parts info_spot
      obtain ⟨nm, top, hgt, lft, wid, al, bot⟩ := r
      unfold Reg.val at HU ⊢
      dsimp only at *
      cases bot
      · go_enter Tryz.func98, Tryz.ntmps98
        go_wp2_with fail
        refine (HU.out _).mono ?_
        rintro e w1 ⟨rfl, hx1⟩
        rw [Hu.out]
        have hc := hx1.bcell.1 w.heap.size
        simp at hc
        go_wp2_with fail
        clear hc
        go_loopw [6, 20] (fun v i wr => PlaceRelI w #[.string nm, .int .i64 top, .int .i64 hgt, .int .i64 lft, .int .i64 wid, .int .u8 al, .bool false] ⟨nm, top, hgt, lft, wid, al, false⟩ top n lens v i wr) (fun _ i _ => n - (intOf i).toNat)
        case atStart => exact ⟨0, Nat.zero_le _, rfl, hx1, rfl, ⟨by simp [Reg.spots], .inl ⟨rfl, rfl⟩⟩⟩
        case round =>
          obtain ⟨k, hk, rfl, hx, hp, hown⟩ := hrel
          have HPr := Lib.hid hp
          clear hp
          have hB := Lib.hid (Blk.ext (Blk.new w _ _) hx)
          have hxw : Ext w wr := ((Ext.refl w).alloc _).trans hx
          have hc := fun o => hB.out.cell o
          have hsz : w.heap.size < wr.heap.size := hB.out.lt
          have hne : w.heap.size ≠ wr.heap.size := by omega
          by_cases hlt : k < n
          · obtain ⟨b, off, x, rfl, hxx, hcell⟩ := (HL.out.ext hxw).cell hlt
            have HX := Lib.hid hxx
            have HE := Lib.hid (lensErr_drop ⟨nm, top, hgt, lft, wid, al, false⟩ lens k x hxx)
            have HT := Lib.hid (take_snoc' lens k x hxx)
            have hkl : Hid ((lens.take k).length = k) := by show (lens.take k).length = k; rw [List.length_take, HLn.out]; omega
            clear hxx
            by_cases hneg : x < 0
            · go_wp2_with fail
              go_ret2
              exact placePost_err (k := 2) (by rw [HP.out, HPr.out, HE.out, if_pos (by omega)]) (by decide) rfl hxw
            · by_cases hwide : wid < x
              · go_wp2_with fail
                go_ret2
                exact placePost_err (k := 11) (by rw [HP.out, HPr.out, HE.out, if_neg (by omega), if_pos (by omega)]) (by decide) rfl hxw
              · have HS := Lib.hid (spots_snoc ⟨nm, top, hgt, lft, wid, al, false⟩ top (lens.take k) 0 x)
                have hE2 : Hid (Reg.lensErr ⟨nm, top, hgt, lft, wid, al, false⟩ lens = Reg.lensErr ⟨nm, top, hgt, lft, wid, al, false⟩ (lens.drop (k + 1))) := by
                  show _ = _
                  rw [HPr.out, HE.out, if_neg (by omega), if_neg (by omega)]
                by_cases ha3 : (al == 3) = true
                · have hal : al = 3 := by simpa using ha3
                  have HSp : Hid (Reg.spot ⟨nm, top, hgt, lft, wid, al, false⟩ top (0 + (lens.take k).length) x = ⟨top + k, lft + (wid - x), x⟩) := by
                    show _ = _
                    rw [hkl.out]; unfold Reg.spot; simp [hal]
                  clear hal
                  go_wp2_with (at_builtin; refine wpList_append1 rfl (.tmp 73) (.tmp 75) 115 rfl info_spot Tryz.underlying115 rfl (by decide) ((hown.alloc _).alloc _) (by exact rfl) (wr.heap.size + 1) _ (by exact rfl) (by exact Blk.new' (by simp)) (by exact rfl) (by simp [Value.oneCell']) (by omega) (by simp [maxLen]; omega) (by simp; omega) ?_; intro v' w' hown' hgr)
                  refine ⟨⟨k + 1, by omega, by go_num, ((hx.alloc _).alloc _).grown hgr (fun q hq => by have := own_lt hown q hq; simpa using this), hE2.out, ?_⟩, by simp [intOf]; omega⟩
                  rw [HT.out, HS.out, List.flatMap_append, HSp.out]
                  exact hown'
                · have ha3' : (al == 3) = false := by simpa using ha3
                  clear ha3
                  have hn3 : ¬ al = 3 := by simpa using ha3'
                  by_cases ha2 : (al == 2) = true
                  · have hal : al = 2 := by simpa using ha2
                    have HSp : Hid (Reg.spot ⟨nm, top, hgt, lft, wid, al, false⟩ top (0 + (lens.take k).length) x = ⟨top + k, lft + (wid - x) / 2, x⟩) := by
                      show _ = _
                      rw [hkl.out]; unfold Reg.spot; simp [hal]
                    clear hal hn3
                    go_wp2_with (at_builtin; refine wpList_append1 rfl (.tmp 73) (.tmp 75) 115 rfl info_spot Tryz.underlying115 rfl (by decide) ((hown.alloc _).alloc _) (by exact rfl) (wr.heap.size + 1) _ (by exact rfl) (by exact Blk.new' (by simp)) (by exact rfl) (by simp [Value.oneCell']) (by omega) (by simp [maxLen]; omega) (by simp; omega) ?_; intro v' w' hown' hgr)
                    refine ⟨⟨k + 1, by omega, by go_num, ((hx.alloc _).alloc _).grown hgr (fun q hq => by have := own_lt hown q hq; simpa using this), hE2.out, ?_⟩, by simp [intOf]; omega⟩
                    rw [HT.out, HS.out, List.flatMap_append, HSp.out]
                    exact hown'
                  · have ha2' : (al == 2) = false := by simpa using ha2
                    clear ha2
                    have hn2 : ¬ al = 2 := by simpa using ha2'
                    have HSp : Hid (Reg.spot ⟨nm, top, hgt, lft, wid, al, false⟩ top (0 + (lens.take k).length) x = ⟨top + k, lft, x⟩) := by
                      show _ = _
                      rw [hkl.out]; unfold Reg.spot; simp [hn3, hn2]
                    clear hn2 hn3
                    go_wp2_with (at_builtin; refine wpList_append1 rfl (.tmp 73) (.tmp 75) 115 rfl info_spot Tryz.underlying115 rfl (by decide) ((hown.alloc _).alloc _) (by exact rfl) (wr.heap.size + 1) _ (by exact rfl) (by exact Blk.new' (by simp)) (by exact rfl) (by simp [Value.oneCell']) (by omega) (by simp [maxLen]; omega) (by simp; omega) ?_; intro v' w' hown' hgr)
                    refine ⟨⟨k + 1, by omega, by go_num, ((hx.alloc _).alloc _).grown hgr (fun q hq => by have := own_lt hown q hq; simpa using this), hE2.out, ?_⟩, by simp [intOf]; omega⟩
                    rw [HT.out, HS.out, List.flatMap_append, HSp.out]
                    exact hown'
          · have hkn : k = n := by omega
            subst hkn
            have HD : Hid (lens.drop k = []) := List.drop_eq_nil_of_le (by rw [HLn.out]; omega)
            have HTk : Hid (lens.take k = lens) := List.take_of_length_le (by rw [HLn.out]; omega)
            have HO := Lib.hid hown
            clear hown
            go_wp2_with fail
            go_ret2
            exact placePost_ok (by rw [HP.out, HPr.out, HD.out]; rfl) (by rw [HLn.out]; rfl) (HTk.out ▸ HO.out) (by rw [HLn.out]) hxw
      · go_enter Tryz.func98, Tryz.ntmps98
        go_wp2_with fail
        refine (HU.out _).mono ?_
        rintro e w1 ⟨rfl, hx1⟩
        rw [Hu.out]
        have hc := hx1.bcell.1 w.heap.size
        simp at hc
        go_wp2_with fail
        clear hc
        go_loopw [6, 20] (fun v i wr => PlaceRelI w #[.string nm, .int .i64 top, .int .i64 hgt, .int .i64 lft, .int .i64 wid, .int .u8 al, .bool true] ⟨nm, top, hgt, lft, wid, al, true⟩ (top + (hgt - n)) n lens v i wr) (fun _ i _ => n - (intOf i).toNat)
        case atStart => exact ⟨0, Nat.zero_le _, rfl, hx1, rfl, ⟨by simp [Reg.spots], .inl ⟨rfl, rfl⟩⟩⟩
        case round =>
          obtain ⟨k, hk, rfl, hx, hp, hown⟩ := hrel
          have HPr := Lib.hid hp
          clear hp
          have hB := Lib.hid (Blk.ext (Blk.new w _ _) hx)
          have hxw : Ext w wr := ((Ext.refl w).alloc _).trans hx
          have hc := fun o => hB.out.cell o
          have hsz : w.heap.size < wr.heap.size := hB.out.lt
          have hne : w.heap.size ≠ wr.heap.size := by omega
          by_cases hlt : k < n
          · obtain ⟨b, off, x, rfl, hxx, hcell⟩ := (HL.out.ext hxw).cell hlt
            have HX := Lib.hid hxx
            have HE := Lib.hid (lensErr_drop ⟨nm, top, hgt, lft, wid, al, true⟩ lens k x hxx)
            have HT := Lib.hid (take_snoc' lens k x hxx)
            have hkl : Hid ((lens.take k).length = k) := by show (lens.take k).length = k; rw [List.length_take, HLn.out]; omega
            clear hxx
            by_cases hneg : x < 0
            · go_wp2_with fail
              go_ret2
              exact placePost_err (k := 2) (by rw [HP.out, HPr.out, HE.out, if_pos (by omega)]) (by decide) rfl hxw
            · by_cases hwide : wid < x
              · go_wp2_with fail
                go_ret2
                exact placePost_err (k := 11) (by rw [HP.out, HPr.out, HE.out, if_neg (by omega), if_pos (by omega)]) (by decide) rfl hxw
              · have HS := Lib.hid (spots_snoc ⟨nm, top, hgt, lft, wid, al, true⟩ (top + (hgt - n)) (lens.take k) 0 x)
                have hE2 : Hid (Reg.lensErr ⟨nm, top, hgt, lft, wid, al, true⟩ lens = Reg.lensErr ⟨nm, top, hgt, lft, wid, al, true⟩ (lens.drop (k + 1))) := by
                  show _ = _
                  rw [HPr.out, HE.out, if_neg (by omega), if_neg (by omega)]
                by_cases ha3 : (al == 3) = true
                · have hal : al = 3 := by simpa using ha3
                  have HSp : Hid (Reg.spot ⟨nm, top, hgt, lft, wid, al, true⟩ (top + (hgt - n)) (0 + (lens.take k).length) x = ⟨top + k + (hgt - n), lft + (wid - x), x⟩) := by
                    show _ = _
                    rw [hkl.out]; unfold Reg.spot; simp [hal]; omega
                  clear hal
                  go_wp2_with (at_builtin; refine wpList_append1 rfl (.tmp 73) (.tmp 75) 115 rfl info_spot Tryz.underlying115 rfl (by decide) ((hown.alloc _).alloc _) (by exact rfl) (wr.heap.size + 1) _ (by exact rfl) (by exact Blk.new' (by simp)) (by exact rfl) (by simp [Value.oneCell']) (by omega) (by simp [maxLen]; omega) (by simp; omega) ?_; intro v' w' hown' hgr)
                  refine ⟨⟨k + 1, by omega, by go_num, ((hx.alloc _).alloc _).grown hgr (fun q hq => by have := own_lt hown q hq; simpa using this), hE2.out, ?_⟩, by simp [intOf]; omega⟩
                  rw [HT.out, HS.out, List.flatMap_append, HSp.out]
                  exact hown'
                · have ha3' : (al == 3) = false := by simpa using ha3
                  clear ha3
                  have hn3 : ¬ al = 3 := by simpa using ha3'
                  by_cases ha2 : (al == 2) = true
                  · have hal : al = 2 := by simpa using ha2
                    have HSp : Hid (Reg.spot ⟨nm, top, hgt, lft, wid, al, true⟩ (top + (hgt - n)) (0 + (lens.take k).length) x = ⟨top + k + (hgt - n), lft + (wid - x) / 2, x⟩) := by
                      show _ = _
                      rw [hkl.out]; unfold Reg.spot; simp [hal]; omega
                    clear hal hn3
                    go_wp2_with (at_builtin; refine wpList_append1 rfl (.tmp 73) (.tmp 75) 115 rfl info_spot Tryz.underlying115 rfl (by decide) ((hown.alloc _).alloc _) (by exact rfl) (wr.heap.size + 1) _ (by exact rfl) (by exact Blk.new' (by simp)) (by exact rfl) (by simp [Value.oneCell']) (by omega) (by simp [maxLen]; omega) (by simp; omega) ?_; intro v' w' hown' hgr)
                    refine ⟨⟨k + 1, by omega, by go_num, ((hx.alloc _).alloc _).grown hgr (fun q hq => by have := own_lt hown q hq; simpa using this), hE2.out, ?_⟩, by simp [intOf]; omega⟩
                    rw [HT.out, HS.out, List.flatMap_append, HSp.out]
                    exact hown'
                  · have ha2' : (al == 2) = false := by simpa using ha2
                    clear ha2
                    have hn2 : ¬ al = 2 := by simpa using ha2'
                    have HSp : Hid (Reg.spot ⟨nm, top, hgt, lft, wid, al, true⟩ (top + (hgt - n)) (0 + (lens.take k).length) x = ⟨top + k + (hgt - n), lft, x⟩) := by
                      show _ = _
                      rw [hkl.out]; unfold Reg.spot; simp [hn3, hn2]; omega
                    clear hn2 hn3
                    go_wp2_with (at_builtin; refine wpList_append1 rfl (.tmp 73) (.tmp 75) 115 rfl info_spot Tryz.underlying115 rfl (by decide) ((hown.alloc _).alloc _) (by exact rfl) (wr.heap.size + 1) _ (by exact rfl) (by exact Blk.new' (by simp)) (by exact rfl) (by simp [Value.oneCell']) (by omega) (by simp [maxLen]; omega) (by simp; omega) ?_; intro v' w' hown' hgr)
                    refine ⟨⟨k + 1, by omega, by go_num, ((hx.alloc _).alloc _).grown hgr (fun q hq => by have := own_lt hown q hq; simpa using this), hE2.out, ?_⟩, by simp [intOf]; omega⟩
                    rw [HT.out, HS.out, List.flatMap_append, HSp.out]
                    exact hown'
          · have hkn : k = n := by omega
            subst hkn
            have HD : Hid (lens.drop k = []) := List.drop_eq_nil_of_le (by rw [HLn.out]; omega)
            have HTk : Hid (lens.take k = lens) := List.take_of_length_le (by rw [HLn.out]; omega)
            have HO := Lib.hid hown
            clear hown
            go_wp2_with fail
            go_ret2
            exact placePost_ok (by rw [HP.out, HPr.out, HD.out]; rfl) (by rw [HLn.out]; rfl) (HTk.out ▸ HO.out) (by rw [HLn.out]) hxw
end Go.Proofs.YtajbhfmdmajpmaaGreatDoor

/-! SpotsR -/
namespace Go.Proofs.YtajbhfmdmajpmaaGreatDoor
set_option linter.unusedVariables false
set_option linter.unusedSimpArgs false
open Go.RowKit
def SpRel (w w1 : World) (n : Nat) (rows : List Row) (v i : Value) (wr : World) : Prop :=
  ∃ k : Nat, k ≤ n ∧ i = .int .i64 k ∧ Ext w1 wr ∧ wr.ownsRow w1.heap.size 3 1 v k (((rows.take k).map rowLen).flatMap fun x => [Value.int .i64 x])
theorem lens_pos {e : Ev} {regs : List Reg} (h : e.err regs = 0) : ∀ r ∈ e.rows, 0 ≤ rowLen r := by
  obtain ⟨r, hr, hu, hh, h4, hl, hrows, hs, hsp⟩ := ev_spots h
  exact fun x hx => (lens_ok hl (rowLen x) (List.mem_map.2 ⟨x, hx, rfl⟩)).1
set_option maxRecDepth 100000 in
set_option maxHeartbeats 4000000 in
theorem R11Spots_ok (e : Ev) (A : Option Addr) (n c : Nat) (A2 : Option Addr) (n2 c2 : Nat) (regs : List Reg) (w : World) (hE : Env w) (he : EvAt w e A n c) (hb : ∀ r ∈ e.rows, RowSmall r) (hr : RegsAt w A2 n2 regs) (hr2 : n2 ≤ 9223372036854775807) (hrs : RegsSmall regs) (h0 : e.err regs = 0) :
    Calls Tryz.prog 74 #[.agg (e.cells A n c), .slice A2 n2 c2] w (SpotsPost e regs w) := by
  have hn24 : n * 24 ≤ 140737488355328 := by have := he.2; omega
  have HA := Lib.hid he.1
  have HLn := Lib.hid he.len
  have HEn := Lib.hid hE
  have HR := Lib.hid hr
  have HBd := Lib.hid hb
  have HPos := Lib.hid (lens_pos h0)
  have hsm := findR_small (nm := e.region) hrs
  obtain ⟨r, hf, -, -, -, -, -, hse, hsp⟩ := ev_spots h0
  have HSe := Lib.hid hse
  have HF : Hid (r.place (e.rows.map rowLen) = 0) := by
    have h1 := hse
    unfold Ev.spotsErr at h1
    rw [hf] at h1
    simp only at h1
    split at h1
    · simp at h1
    · exact h1
  have HSp := Lib.hid hsp
  have HPl := Lib.hid (fun A n c lens w hl hn => R10Place_any ((findR regs e.region).getD Reg.zero) A n c lens w hsm hl hn)
  have HFd := Lib.hid (fun w' (hx : Ext w w') => R10Find_any A2 n2 c2 regs e.region w' (hr.ext hx) hr2)
  rw [hf] at HPl HFd
  simp only [Option.getD_some, Option.isSome_some] at HPl HFd
  clear he hE hb hr hsm hse hsp h0 hf
  unfold Reg.val at HPl HFd
  unfold Ev.cells
  have HX0 := Lib.hid ((Ext.refl w).alloc (.cells #[.int .i64 e.id, .int .i64 e.inn, .int .i64 e.out, .string e.region, .int .u8 e.kind, .string e.speaker, .slice A n c] 53))
  have HB0 := Lib.hid (Blk.new w 53 #[.int .i64 e.id, .int .i64 e.inn, .int .i64 e.out, .string e.region, .int .u8 e.kind, .string e.speaker, .slice A n c])
  go_enter Tryz.func74, Tryz.ntmps74
  go_wp2_with fail
  refine (HFd.out _ HX0.out).mono ?_
  rintro en w1 ⟨rfl, hx1⟩
  have HX1 := Lib.hid ((HX0.out.trans hx1).alloc (.cells #[.string r.name, .int .i64 r.top, .int .i64 r.height, .int .i64 r.left, .int .i64 r.width, .int .u8 r.align, .bool r.bottom] 125))
  have HB1 := Lib.hid ((HB0.out.ext hx1).alloc (.cells #[.string r.name, .int .i64 r.top, .int .i64 r.height, .int .i64 r.left, .int .i64 r.width, .int .u8 r.align, .bool r.bottom] 125))
  have HZ1 := Lib.hid (Blk.new w1 125 #[.string r.name, .int .i64 r.top, .int .i64 r.height, .int .i64 r.left, .int .i64 r.width, .int .u8 r.align, .bool r.bottom])
  have hne : w.heap.size ≠ w1.heap.size := by have := (HB0.out.ext hx1).lt; omega
  have hc1 := fun o => (HB0.out.ext hx1).cell o
  clear hx1 HFd HX0 HB0
  go_upto_region 5 with fail
  clear hc1
  generalize w1.alloc (.cells #[.string r.name, .int .i64 r.top, .int .i64 r.height, .int .i64 r.left, .int .i64 r.width, .int .u8 r.align, .bool r.bottom] 125) = W1 at *
  generalize w1.heap.size = gr at *
  have hc1 := fun o => HB1.out.cell o
  go_wp2_with fail
  clear hc1
  go_loopw [8, 23] (fun v i wr => SpRel w W1 n e.rows v i wr) (fun _ i _ => n - (intOf i).toNat)
  case atStart => exact ⟨0, Nat.zero_le _, rfl, Ext.refl _, ⟨rfl, .inl ⟨rfl, rfl⟩⟩⟩
  case round =>
    obtain ⟨k, hk, rfl, hx, hown⟩ := hrel
    have HXx := Lib.hid hx
    have HO := Lib.hid hown
    clear hx hown
    have hszw := HX1.out.size
    by_cases hlt : k < n
    · obtain ⟨b, off, q, rfl, hq, A', n', c', hcell, hnc, hc40, hruns⟩ := (HA.out.ext (HX1.out.trans HXx.out)).at_ hlt
      simp only [Nat.mul_one] at hcell
      have HR' := Lib.hid hruns
      have hsm := HBd.out q (List.mem_of_getElem? hq)
      have HT := Lib.hid (take_snoc' e.rows k q hq)
      have hrb : rowBytes q < 4294967281 := hsm.1
      have hp0 := HPos.out q (List.mem_of_getElem? hq)
      have HLq := Lib.hid (fun w' (hx : Ext wr w') => R9Len_any A' n' c' q w' (HEn.out.ext ((HX1.out.trans HXx.out).trans hx)) (hruns.ext hx) (by omega) (by omega))
      obtain ⟨m, hm⟩ : ∃ m : Nat, rowLen q = m := ⟨(rowLen q).toNat, by omega⟩
      have HM := Lib.hid hm
      have hm0 : ¬ ((m : Int) < 0) := by omega
      rw [hm] at HLq
      clear hq hruns hsm hp0 hm
      have HXa := Lib.hid ((Ext.refl wr).alloc (.cells #[.slice A' n' c'] 107))
      have HBa := Lib.hid (Blk.new wr 107 #[.slice A' n' c'])
      have HOa := Lib.hid (HO.out.alloc (.cells #[.slice A' n' c'] 107))
      go_wp2_with fail
      refine (HLq.out _ HXa.out).mono ?_
      rintro en w2 ⟨rfl, hx2⟩
      have HXb := Lib.hid (HXa.out.trans hx2)
      have HBb := Lib.hid (HBa.out.ext hx2)
      have HOb := Lib.hid (own_ext HOa.out hx2)
      have hcb := fun o => HBb.out.cell o
      clear hx2 HXa HBa HOa
      go_wp2_with fail
      clear hcb
      refine (HLq.out _ HXb.out).mono ?_
      rintro en w3 ⟨rfl, hx3⟩
      have HXc := Lib.hid (HXb.out.trans hx3)
      have HOc := Lib.hid (own_ext HOb.out hx3)
      have hsz3 := HXc.out.size
      have hszx := HXx.out.size
      clear hx3 HXb HOb
      go_wp2_with (at_builtin; refine wpList_append1 rfl (.tmp 30) (.tmp 33) 47 rfl info_int Tryz.underlying47 rfl (by decide) (HOc.out.alloc _) (by exact rfl) w3.heap.size _ (by exact rfl) (by exact Blk.new' rfl) (by exact rfl) (by simp [Value.oneCell']) (by omega) (by simp [maxLen]; omega) (by simp; omega) ?_; intro v' w4 hown4 hgr)
      refine ⟨⟨k + 1, by omega, by go_num, ((HXx.out.trans HXc.out).alloc _).grown hgr (fun q hq => ?_), ?_⟩, by simp [intOf]; omega⟩
      · have := own_lt HO.out q hq; simpa using this
      · rw [HT.out, List.map_append, List.flatMap_append]
        have := hown4
        rw [← HM.out] at this
        exact this
    · have hkn : k = n := by omega
      subst hkn
      have HT : Hid (e.rows.take k = e.rows) := List.take_of_length_le (by rw [HLn.out]; omega)
      have hO := HO.out
      rw [HT.out] at hO
      have hl : (e.rows.map rowLen).length = k := by rw [List.length_map, HLn.out]
      obtain ⟨A1, c1, rfl, hc, _, hsl, _⟩ := own_sl (f := fun x : Int => [Value.int .i64 x]) (size := 1) (fun _ => rfl) hl hO
      have HI : Hid (IntsAt wr A1 k (e.rows.map rowLen)) := hsl
      have HZx := Lib.hid (HZ1.out.ext HXx.out)
      have HXf := Lib.hid (HX1.out.trans HXx.out)
      clear hl hO hsl HO HXx HZ1
      have hcz := fun o => HZx.out.cell o
      go_wp2_with fail
      refine (HPl.out _ _ _ _ _ HI.out (by omega)).mono ?_
      rintro en w3 ⟨A3, n3, c3, rfl, hsp, hnc3, hx3⟩
      go_wp2_with fail
      go_ret2
      refine ⟨A3, n3, c3, by rw [HSe.out, HF.out]; rfl, ?_, hnc3, HXf.out.trans hx3⟩
      rw [HF.out, if_pos rfl, List.length_map] at hsp
      rw [HSp.out]
      exact hsp
end Go.Proofs.YtajbhfmdmajpmaaGreatDoor
