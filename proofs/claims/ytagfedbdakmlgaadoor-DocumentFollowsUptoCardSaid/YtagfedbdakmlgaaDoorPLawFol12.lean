/- The walk of the law DocumentFollows. -/
import Derived.Test.YtagfedbdakmlgaaDoorPk19
import Derived.Test.YtagfedbdakmlgaaDoorPk20
import Derived.Test.YtagfedbdakmlgaaDoorPFolLP
import Derived.Test.YtagfedbdakmlgaaDoorPFree
import Derived.Laws.IdiomStrings
namespace Go.Proofs.YtagfedbdakmlgaaDoor
set_option linter.unusedVariables false
set_option linter.unusedSimpArgs false
open Go.RowKit

theorem runesFrom_list (s : ByteArray) : ∀ (f pos : Nat) (acc : Array Value), (Conv.runesFrom s f pos acc).toList = acc.toList ++ (runesAt s f pos).map fun x => .int .i32 x
  | 0, _, acc => by simp [Conv.runesFrom, runesAt]
  | f + 1, pos, acc => by
    unfold Conv.runesFrom runesAt
    split
    · rw [runesFrom_list s f]; simp
    · simp
/-- []rune(s): the characters of s, in memory of its own -/
theorem run_runes_at {P : Program} (src dst e : TypeId) (s : ByteArray) (hs : P.underlying src = some .string) (hd : P.underlying dst = some (.slice e)) (he : P.underlying e = some (.int .i32)) (h : s.size ≤ 35184372088831) :
    ∃ (c : World → Nat) (o : World → Obj), (∀ w, (convert src dst (.string s)).run P w = .ok (.slice (some ⟨w.heap.size, 0, none⟩) (runes s 0).length (c w)) (w.drew.alloc (o w))) ∧
      ∀ w w', Ext (w.drew.alloc (o w)) w' → (runes s 0).length ≤ c w ∧ RunesAt w' (some ⟨w.heap.size, 0, none⟩) (runes s 0).length (runes s 0) := by
  have hl := runes_len s
  have hsz : (Conv.runesFrom s s.size 0 #[]).size = (runes s 0).length := by
    have := congrArg List.length (runesFrom_list s s.size 0 #[])
    simpa [runes] using this
  refine ⟨fun w => grownCap w (runes s 0).length 0 e, fun w => .cells (Conv.runesFrom s s.size 0 #[] ++ Array.replicate (grownCap w (runes s 0).length 0 e - (runes s 0).length) (.int .i32 0)) e, fun w => ?_, fun w w' hx => ⟨?_, rfl, fun hn => ⟨w.heap.size, 0, rfl, fun i x hi j u hu => ?_⟩⟩⟩
  · have := run_runes_of_string (P := P) w src dst e s hs hd he (by rw [hsz]; omega)
    rw [hsz] at this
    exact this
  · exact grownCap_ge _ _ _ _
  · refine hx.cell ?_
    match j, hu with
    | 0, hu =>
      simp only [List.getElem?_cons_zero, Option.some.injEq] at hu
      subst hu
      have hlt := (List.getElem?_eq_some_iff.1 hi).1
      have h2 : (Conv.runesFrom s s.size 0 #[]).toList[i]? = some (.int .i32 x) := by
        rw [runesFrom_list]
        simp only [List.nil_append]
        rw [List.getElem?_map]
        have : (runesAt s s.size 0)[i]? = some x := hi
        rw [this]
        rfl
      show (w.drew.alloc _).cell? _ = _
      simp only [World.cell?, World.alloc, World.drew]
      simp
      rw [Array.getElem?_append_left (by rw [hsz]; exact hlt), ← Array.getElem?_toList, h2]
    | j + 1, hu => simp at hu
theorem wp_convert {P : Program} {o : Oper} {a : Act} {w w2 : World} {K : Act → World → Prop} {Q : Exit → Act → World → Prop} {s t : TypeId} {x : Operand} {v u : Value} (ho : o.op = .convert s t x) (hx : a.eval x = v) (hr : (convert s t v).run P w = .ok u w2) (h : K (a.put o.dst u) w2) : o.wp P a w K Q := by
  unfold Oper.wp execOp
  simp only [ho, hx, Sem.run_bind, Sem.run_pure, Result.andThen_ok, hr]
  exact h
/-- two conversions at whatever time, then two assignments -/
structure FoJ (W : World) (n m : Nat) (a b : List Int) (us : List Value) (gs : Nat → Option Value) (w' : World) : Prop where
  ext : Ext W w'
  q2 : ∀ v, gs 2 = some v → ∃ g c, v = .slice (some ⟨g, 0, none⟩) n c ∧ RunesAt w' (some ⟨g, 0, none⟩) n a ∧ n ≤ c
  q5 : ∀ v, gs 5 = some v → ∃ g c, v = .slice (some ⟨g, 0, none⟩) m c ∧ RunesAt w' (some ⟨g, 0, none⟩) m b ∧ m ≤ c
  u0 : ∀ u, us[0]? = some u → gs 2 = some u
  u1 : ∀ u, us[1]? = some u → gs 5 = some u
section
variable {W w' w2 : World} {n m : Nat} {a b : List Int} {us : List Value} {gs : Nat → Option Value}
theorem FoJ.start (W : World) : FoJ W n m a b [] (fun _ => none) W.drew := ⟨(Ext.refl W).drew, fun v h => by simp at h, fun v h => by simp at h, fun u h => by simp at h, fun u h => by simp at h⟩
theorem FoJ.al2 {g c : Nat} (h : FoJ W n m a b us gs w') (hg : gs 2 = none) (hr : n ≤ c ∧ RunesAt w2 (some ⟨g, 0, none⟩) n a) (hx : Ext w' w2) : FoJ W n m a b us (updF gs 2 (.slice (some ⟨g, 0, none⟩) n c)) w2 :=
  ⟨h.ext.trans hx, fun v hv => by rw [updF_self] at hv; cases hv; exact ⟨g, c, rfl, hr.2, hr.1⟩, fun v hv => by rw [updF_other _ (by decide)] at hv; obtain ⟨g, c, h1, h2, h3⟩ := h.q5 v hv; exact ⟨g, c, h1, h2.ext hx, h3⟩,
    (fun u hu => by have := h.u0 u hu; rw [hg] at this; cases this), fun u hu => by rw [updF_other _ (by decide)]; exact h.u1 u hu⟩
theorem FoJ.al5 {g c : Nat} (h : FoJ W n m a b us gs w') (hg : gs 5 = none) (hr : m ≤ c ∧ RunesAt w2 (some ⟨g, 0, none⟩) m b) (hx : Ext w' w2) : FoJ W n m a b us (updF gs 5 (.slice (some ⟨g, 0, none⟩) m c)) w2 :=
  ⟨h.ext.trans hx, fun v hv => by rw [updF_other _ (by decide)] at hv; obtain ⟨g, c, h1, h2, h3⟩ := h.q2 v hv; exact ⟨g, c, h1, h2.ext hx, h3⟩, fun v hv => by rw [updF_self] at hv; cases hv; exact ⟨g, c, rfl, hr.2, hr.1⟩,
    fun u hu => by rw [updF_other _ (by decide)]; exact h.u0 u hu, fun u hu => by have := h.u1 u hu; rw [hg] at this; cases this⟩
theorem FoJ.c6 {v : Value} (h : FoJ W n m a b [] gs w') (hv : gs 2 = some v) : FoJ W n m a b ([] ++ [v]) gs w' := ⟨h.ext, h.q2, h.q5, fun u hu => by simp at hu; rw [← hu]; exact hv, fun u hu => by simp at hu⟩
theorem FoJ.c7 {u0 v : Value} (h : FoJ W n m a b [u0] gs w') (hv : gs 5 = some v) : FoJ W n m a b ([u0] ++ [v]) gs w' := ⟨h.ext, h.q2, h.q5, fun u hu => by simp at hu; rw [← hu]; exact h.u0 u0 rfl, fun u hu => by simp at hu; rw [← hu]; exact hv⟩
theorem FoJ.p2 (h : FoJ W n m a b us gs w') (u : Value) (hu : us[0]? = some u) : ∃ g c, u = .slice (some ⟨g, 0, none⟩) n c ∧ RunesAt w' (some ⟨g, 0, none⟩) n a ∧ n ≤ c ∧ gs 2 = some (.slice (some ⟨g, 0, none⟩) n c) := by
  obtain ⟨g, c, rfl, h2, h3⟩ := h.q2 u (h.u0 u hu)
  exact ⟨g, c, rfl, h2, h3, h.u0 _ hu⟩
theorem FoJ.p5 (h : FoJ W n m a b us gs w') (u : Value) (hu : us[1]? = some u) : ∃ g c, u = .slice (some ⟨g, 0, none⟩) m c ∧ RunesAt w' (some ⟨g, 0, none⟩) m b ∧ m ≤ c ∧ gs 5 = some (.slice (some ⟨g, 0, none⟩) m c) := by
  obtain ⟨g, c, rfl, h2, h3⟩ := h.q5 u (h.u1 u hu)
  exact ⟨g, c, rfl, h2, h3, h.u1 _ hu⟩
end
set_option maxRecDepth 100000 in
set_option maxHeartbeats 8000000 in
theorem DocumentFollows_any (fr til : Int) (before after : ByteArray) (c : Com) (w : World) (hE : Env w) (hb : before.size ≤ 35184372088831) (ha : after.size ≤ 35184372088831) :
    Calls Tryd.prog 4 #[.agg #[.int .i64 fr, .int .i64 til, .string before, .string after], .agg c.vals.toArray] w fun en w' => en = .returned (.bool true) ∧ Ext w w' := by
  have HX : Hid (Ext w ((w.alloc (.cells #[.int .i64 fr, .int .i64 til, .string before, .string after] 29)).alloc (.cells #[.int .i64 c.id, .int .i64 c.ev, .int .i64 c.fr, .int .i64 c.til, .string c.author, .string c.text, .bool c.done, .bool c.lost] 31))) := ((Ext.refl w).alloc _).alloc _
  have HM : Hid (Blk ((w.alloc (.cells #[.int .i64 fr, .int .i64 til, .string before, .string after] 29)).alloc (.cells #[.int .i64 c.id, .int .i64 c.ev, .int .i64 c.fr, .int .i64 c.til, .string c.author, .string c.text, .bool c.done, .bool c.lost] 31)) w.heap.size 29 #[.int .i64 fr, .int .i64 til, .string before, .string after]) := (Blk.new w _ _).alloc _
  have HC : Hid (Blk ((w.alloc (.cells #[.int .i64 fr, .int .i64 til, .string before, .string after] 29)).alloc (.cells #[.int .i64 c.id, .int .i64 c.ev, .int .i64 c.fr, .int .i64 c.til, .string c.author, .string c.text, .bool c.done, .bool c.lost] 31)) (w.heap.size + 1) 31 #[.int .i64 c.id, .int .i64 c.ev, .int .i64 c.fr, .int .i64 c.til, .string c.author, .string c.text, .bool c.done, .bool c.lost]) := Blk.new' (by simp)
  have HEn := Lib.hid hE
  have HFa := Lib.hid (fun w' => DFollow_any c before after w' hb ha)
  have HFb := Lib.hid (fun w' => R12Follow_any c before after w' hb ha)
  have HFx := Lib.hid (fun w' => DFollow_any ⟨0, 0, fr, til, ⟨#[]⟩, ⟨#[]⟩, false, false⟩ before after w' hb ha)
  obtain ⟨fb, ob, hcb, hrb⟩ := run_runes_at (P := Tryd.prog) 9 26 21 before Tryd.underlying9 Tryd.underlying26 Tryd.underlying21 hb
  obtain ⟨fa, oa, hca, hra⟩ := run_runes_at (P := Tryd.prog) 9 26 21 after Tryd.underlying9 Tryd.underlying26 Tryd.underlying21 ha
  have hlb := runes_len before
  have hla := runes_len after
  have HCb := Lib.hid hcb
  have HCa := Lib.hid hca
  generalize c.fol (runes before 0) (runes after 0) = X at *
  unfold Com.vals at *
  clear hE hcb hca
  go_enter Tryd.func4, Tryd.ntmps4
  go_wp2_with fail
  refine (awake12_any _ (HEn.out.ext HX.out)).mono ?_
  rintro en w1 ⟨rfl, hx1⟩
  have HX1 := Lib.hid (HX.out.trans hx1)
  have HM1 := Lib.hid (HM.out.ext hx1)
  have HC1 := Lib.hid (HC.out.ext hx1)
  clear hx1 HX HM HC
  have HFa2 := Lib.hid (fun (y : EW w1) => HFa.out y.w)
  have HFb2 := Lib.hid (fun (y : EW w1) => HFb.out y.w)
  have hr1 := fun (x : EW w1) (o : Nat) => (HM1.out.ext x.ext).cell o
  have hr2 := fun (x : EW w1) (o : Nat) => (HC1.out.ext x.ext).cell o
  go_wp2_with fail
  refine wp_region_ew w1 (Ext.refl _) (by kernel_rfl) (by kernel_rfl) ?_
  repeat (go_big_quiet_step ((first | (go_at_call 11; exact EW.calls _ (HFa2.out _)) | (go_at_call 12; exact EW.calls _ (HFb2.out _)))))
  refine wpQuiet_nil ?_
  rintro W ⟨⟨_, hxW⟩, rfl⟩
  try dsimp only
  clear hr1 hr2 HFa2 HFb2 HFa HFb
  have HXW := Lib.hid (HX1.out.trans hxW)
  have HMW := Lib.hid (HM1.out.ext hxW)
  clear hxW HX1 HM1 HC1
  go_upto_region 5 with fail
  have hcb := HCb.out
  have hca := HCa.out
  generalize runes before 0 = a at *
  generalize runes after 0 = b at *
  obtain ⟨n, hn⟩ : ∃ n, n = a.length := ⟨_, rfl⟩
  obtain ⟨m, hm⟩ : ∃ m, m = b.length := ⟨_, rfl⟩
  rw [← hn] at hcb hrb
  rw [← hm] at hca hra
  have hn9 : n ≤ 35184372088831 := by omega
  have hm9 : m ≤ 35184372088831 := by omega
  have HLa := Lib.hid hn.symm
  have HLb := Lib.hid hm.symm
  clear HCb HCa hlb hla hn hm
  refine wp_region_free [some 28, some 29, some 30, some 31, some 32, some 33, some 5, some 6] [[], [0], [1], [], [3], [4], [2, 0, 1, 2], [5, 6, 0, 1, 2, 3, 4, 5, 6]] [6, 7] [2, 5] [.pointer (some ⟨w.heap.size, 2, none⟩), .string before, undef, .pointer (some ⟨w.heap.size, 3, none⟩), .string after, undef, undef, undef] (FoJ W n m a b) (by kernel_rfl) (by kernel_rfl) (by kernel_rfl) (by kernel_rfl) (by kernel_rfl) (by kernel_rfl) (by kernel_rfl) (by decide) (by decide) ?_ ?_ ?_ ?_ ?_
  · exact FoJ.start W
  · intro i o ho ha a w' us gs K' hJ hg hF hlim hk
    match i, ho with
    | 0, ho => simp at ha
    | 1, ho => simp at ha
    | 2, ho =>
      simp only [List.getElem?_toArray, List.getElem?_cons_zero, List.getElem?_cons_succ, Option.some.injEq] at ho
      subst ho
      have e29 := hF.pure 1 29 (.string before) rfl rfl rfl rfl rfl
      exact wp_convert rfl e29 (hcb w') (hk _ _ (hJ.al2 hg (hrb w' _ (Ext.refl _)) (((Ext.refl w').drew).alloc _)))
    | 3, ho => simp at ha
    | 4, ho => simp at ha
    | 5, ho =>
      simp only [List.getElem?_toArray, List.getElem?_cons_zero, List.getElem?_cons_succ, Option.some.injEq] at ho
      subst ho
      have e32 := hF.pure 4 32 (.string after) rfl rfl rfl rfl rfl
      exact wp_convert rfl e32 (hca w') (hk _ _ (hJ.al5 hg (hra w' _ (Ext.refl _)) (((Ext.refl w').drew).alloc _)))
    | 6, ho => simp at ha
    | 7, ho => simp at ha
    | i + 8, ho => simp at ho
  · intro i o ho hc ha a w' us gs K' hJ hF hlim hk
    match i, ho with
    | 0, ho =>
      simp only [List.getElem?_toArray, List.getElem?_cons_zero, List.getElem?_cons_succ, Option.some.injEq] at ho
      subst ho
      have e2 := hF.old 2 (.pointer (some ⟨w.heap.size, 0, none⟩)) rfl rfl
      simp only [Act.eval] at e2
      clear hF hlim hJ
      go_simp
      exact hk
    | 1, ho =>
      simp only [List.getElem?_toArray, List.getElem?_cons_zero, List.getElem?_cons_succ, Option.some.injEq] at ho
      subst ho
      have e28 := hF.pure 0 28 (.pointer (some ⟨w.heap.size, 2, none⟩)) rfl rfl rfl rfl rfl
      have hcl : w'.cell? ⟨w.heap.size, 2, none⟩ = some (.string before) := (HMW.out.ext hJ.ext).cell 2
      simp only [Act.eval] at e28
      clear hF hlim hJ
      go_simp
      exact hk
    | 2, ho => simp at ha
    | 3, ho =>
      simp only [List.getElem?_toArray, List.getElem?_cons_zero, List.getElem?_cons_succ, Option.some.injEq] at ho
      subst ho
      have e2 := hF.old 2 (.pointer (some ⟨w.heap.size, 0, none⟩)) rfl rfl
      simp only [Act.eval] at e2
      clear hF hlim hJ
      go_simp
      exact hk
    | 4, ho =>
      simp only [List.getElem?_toArray, List.getElem?_cons_zero, List.getElem?_cons_succ, Option.some.injEq] at ho
      subst ho
      have e31 := hF.pure 3 31 (.pointer (some ⟨w.heap.size, 3, none⟩)) rfl rfl rfl rfl rfl
      have hcl : w'.cell? ⟨w.heap.size, 3, none⟩ = some (.string after) := (HMW.out.ext hJ.ext).cell 3
      simp only [Act.eval] at e31
      clear hF hlim hJ
      go_simp
      exact hk
    | 5, ho => simp at ha
    | 6, ho => simp at hc
    | 7, ho => simp at hc
    | i + 8, ho => simp at ho
  · intro p c' o hp ho a w' us gs K' hl hJ hF hk
    match p, hp with
    | 0, hp =>
      obtain rfl : 6 = c' := by simpa using hp
      simp only [List.getElem?_toArray, List.getElem?_cons_zero, List.getElem?_cons_succ, Option.some.injEq] at ho
      subst ho
      obtain rfl : us = [] := List.eq_nil_of_length_eq_zero hl
      obtain ⟨v, hv, e30⟩ := hF.ptr 2 30 rfl rfl rfl rfl
      exact wp_assignx _ _ rfl e30 (hk _ _ (hJ.c6 hv))
    | 1, hp =>
      obtain rfl : 7 = c' := by simpa using hp
      simp only [List.getElem?_toArray, List.getElem?_cons_zero, List.getElem?_cons_succ, Option.some.injEq] at ho
      subst ho
      obtain ⟨u0, rfl⟩ := list_1 hl
      obtain ⟨v, hv, e33⟩ := hF.ptr 5 33 rfl rfl rfl rfl
      exact wp_assignx _ _ rfl e33 (hk _ _ (hJ.c7 hv))
    | p + 2, hp => simp at hp
  intro us gs w9 hl hgs hJ
  obtain ⟨u0, u1, rfl⟩ := list_2 hl
  first | (rename_i hK; refine hK _ _ ?_; clear hK) | (rename_i hK hK_1; refine hK _ _ ?_; clear hK) | (rename_i hK hK_1 hK_2; refine hK _ _ ?_; clear hK) | (rename_i hK hK_1 hK_2 hK_3; refine hK _ _ ?_; clear hK)
  obtain ⟨gA, cA, rfl, hat1, hc1, hg2⟩ := hJ.p2 u0 rfl
  obtain ⟨gB, cB, rfl, hat2, hc2, hg5⟩ := hJ.p5 u1 rfl
  generalize hL : frameF _ _ _ _ _ _ = L
  obtain rfl : L = [(28, .pointer (some ⟨w.heap.size, 2, none⟩)), (29, .string before), (30, (gs 2).getD undef), (31, .pointer (some ⟨w.heap.size, 3, none⟩)), (32, .string after), (33, (gs 5).getD undef), (5, .slice (some ⟨gA, 0, none⟩) n cA), (6, .slice (some ⟨gB, 0, none⟩) m cB)] := hL.symm.trans (by kernel_rfl)
  rw [hg2, hg5]
  clear hL hl
  simp only [Act.put, List.foldl_cons, List.foldl_nil, List.setIfInBounds_toArray, List.set_cons_zero, List.set_cons_succ, Option.getD_some]
  have HX9 := Lib.hid (HXW.out.trans hJ.ext)
  have HM9 := Lib.hid (HMW.out.ext hJ.ext)
  have HA := Lib.hid hat1
  have HBr := Lib.hid hat2
  clear hJ hgs hat1 hat2 hg2 hg5
  clear hcb hca hrb hra HXW HMW
  have hmc := fun o => HM9.out.cell o
  by_cases z1 : fr < 0
  · go_wp2_with fail
    go_ret
    exact ⟨rfl, HX9.out⟩
  by_cases z2 : til ≤ fr
  · go_wp2_with fail
    go_ret
    exact ⟨rfl, HX9.out⟩
  by_cases z3 : (n : Int) < til
  · go_wp2_with fail
    go_ret
    exact ⟨rfl, HX9.out⟩
  have he := Mv.ends a b
  obtain ⟨P0, hP0⟩ : ∃ P0, P0 = Mv.pre a b := ⟨_, rfl⟩
  obtain ⟨S0, hS0⟩ : ∃ S0, S0 = Mv.suf a b (Mv.pre a b) := ⟨_, rfl⟩
  have hsn : P0 + S0 ≤ n := by have := HLa.out; rw [hP0, hS0]; omega
  have hsm : P0 + S0 ≤ m := by have := HLb.out; rw [hP0, hS0]; omega
  have HP0 := Lib.hid hP0
  have HS0 := Lib.hid hS0
  clear he hP0 hS0
  obtain ⟨f', t', l', hfol, hcase⟩ : ∃ f' t' l', Com.fol ⟨0, 0, fr, til, ⟨#[]⟩, ⟨#[]⟩, false, false⟩ a b = ⟨0, 0, f', t', ⟨#[]⟩, ⟨#[]⟩, false, l'⟩ ∧ ((l' = true ∧ wto n m P0 S0 til ≤ wfrom n m P0 S0 fr) ∨ (l' = false ∧ f' = wfrom n m P0 S0 fr ∧ t' = wto n m P0 S0 til ∧ ¬ wto n m P0 S0 til ≤ wfrom n m P0 S0 fr)) := by
    rw [HP0.out, HS0.out, ← HLa.out, ← HLb.out]
    unfold Com.fol Com.moved
    simp only [Bool.false_eq_true, if_false]
    split
    · rename_i h
      exact ⟨0, 0, true, rfl, .inl ⟨rfl, h⟩⟩
    · rename_i h
      exact ⟨_, _, false, rfl, .inr ⟨rfl, rfl, rfl, h⟩⟩
  rw [hfol] at HFx
  have HCase := Lib.hid hcase
  clear hfol hcase
  go_wp2_with fail
  refine (HFx.out _).mono ?_
  rintro en w10 ⟨rfl, hx10⟩
  dsimp only
  have hbx := Blk.new w10 31 #[.int .i64 0, .int .i64 0, .int .i64 f', .int .i64 t', .string ⟨#[]⟩, .string ⟨#[]⟩, .bool false, .bool l']
  have ha := (Ext.refl w10).alloc (.cells #[.int .i64 0, .int .i64 0, .int .i64 f', .int .i64 t', .string ⟨#[]⟩, .string ⟨#[]⟩, .bool false, .bool l'] 31)
  have HX11 := Lib.hid ((HX9.out.trans hx10).trans ha)
  have HM11 := Lib.hid ((HM9.out.ext hx10).ext ha)
  have HA1 := Lib.hid ((HA.out.ext hx10).ext ha)
  have HB1 := Lib.hid ((HBr.out.ext hx10).ext ha)
  have HXc := Lib.hid hbx
  clear hmc hx10 ha hbx HX9 HM9 HA HBr HFx
  obtain ⟨gx, hgx⟩ : ∃ gx, gx = w10.heap.size := ⟨_, rfl⟩
  go_upto_block 0 with fail
  rw [← hgx] at HXc ⊢
  generalize hWg : (w10.alloc (.cells #[.int .i64 0, .int .i64 0, .int .i64 f', .int .i64 t', .string ⟨#[]⟩, .string ⟨#[]⟩, .bool false, .bool l'] 31)) = W1 at *
  clear hWg hgx
  go_cut [8] (fun s8 wr => s8 = .int .i64 P0 ∧ Ext W1 wr)
  case first =>
    go_wp2_with fail
    go_loopg [8] n (fun kx v wr => ∃ k : Nat, v = .int .i64 k ∧ k ≤ P0 ∧ n - k ≤ kx ∧ Hid (Ext W1 wr))
    case atStart => exact ⟨0, rfl, Nat.zero_le _, by omega, (show Hid _ from Ext.refl _)⟩
    case round =>
      obtain ⟨k, rfl, hkP, hkx, HX⟩ := hrel
      have HK : Hid (k ≤ Mv.pre a b) := by show _ ≤ _; rw [← HP0.out]; exact hkP
      by_cases hn1 : k < n
      case neg =>
        have HKP : Hid (k = P0) := by show _ = _; omega
        have hz1 : decide ((k : Int) < (n : Int)) = false := decide_eq_false (by omega)
        go_wp2_with fail
        refine wp_region_ew wr (Ext.refl _) (by kernel_rfl) (by kernel_rfl) ?_
        repeat (go_big_quiet_step ((fail)))
        refine wpQuiet_nil ?_
        rintro w9 ⟨⟨_, hx9⟩, rfl⟩
        clear hz1
        go_wp2_with fail
        go_meet
        case rel => exact ⟨by rw [HKP.out], HX.out.trans hx9⟩
      have hn1i : (k : Int) < (n : Int) := by omega
      by_cases hm1 : k < m
      case neg =>
        have HKP : Hid (k = P0) := by show _ = _; omega
        have hz1 : decide ((k : Int) < (m : Int)) = false := decide_eq_false (by omega)
        go_wp2_with fail
        refine wp_region_ew wr (Ext.refl _) (by kernel_rfl) (by kernel_rfl) ?_
        repeat (go_big_quiet_step ((fail)))
        refine wpQuiet_nil ?_
        rintro w9 ⟨⟨_, hx9⟩, rfl⟩
        clear hz1
        go_wp2_with fail
        go_meet
        case rel => exact ⟨by rw [HKP.out], HX.out.trans hx9⟩
      have hm1i : (k : Int) < (m : Int) := by omega
      obtain ⟨b1, o1, x, hA1, hx1, c1⟩ := (HA1.out.ext HX.out).cell hn1
      obtain ⟨b2, o2, y, hA2, hx2, c2⟩ := (HB1.out.ext HX.out).cell hm1
      cases hA1
      cases hA2
      have hk0 : (0 : Int) ≤ (k : Int) := by omega
      simp only [Nat.zero_add] at c1 c2
      have fc1 := fun (y : EW wr) => y.ext.cell c1
      have fc2 := fun (y : EW wr) => y.ext.cell c2
      clear c1 c2
      by_cases he : x = y
      · have heb : (x == y) = true := by simpa using he
        have HN := Lib.hid (Mv.pre_step HK.out hx1 hx2 he)
        clear hx1 hx2 he
        go_wp2_with fail
        refine wp_region_ew wr (Ext.refl _) (by kernel_rfl) (by kernel_rfl) ?_
        repeat (go_big_quiet_step ((fail)))
        refine wpQuiet_nil ?_
        rintro w9 ⟨⟨_, hx9⟩, rfl⟩
        clear fc1 fc2
        go_wp2_with fail
        go_roundg (n - (k + 1))
        case measure => omega
        case rel => exact ⟨k + 1, by go_num, by rw [HP0.out]; exact HN.out, Nat.le_refl _, (show Hid _ from HX.out.trans hx9)⟩
      have heb : (x == y) = false := by simpa using he
      have hkp : k = P0 := by rw [HP0.out]; exact Mv.pre_stop HK.out (.inr (.inr ⟨x, y, hx1, hx2, he⟩))
      clear hx1 hx2 he
      have HKP := Lib.hid hkp
      clear hkp
      go_wp2_with fail
      refine wp_region_ew wr (Ext.refl _) (by kernel_rfl) (by kernel_rfl) ?_
      repeat (go_big_quiet_step ((fail)))
      refine wpQuiet_nil ?_
      rintro w9 ⟨⟨_, hx9⟩, rfl⟩
      clear fc1 fc2 hk0 heb
      go_wp2_with fail
      go_meet
      case rel => exact ⟨by rw [HKP.out], HX.out.trans hx9⟩
  case rest =>
  obtain ⟨rfl, hxc⟩ := hcut
  have HX12 := Lib.hid (HX11.out.trans hxc)
  have HM12 := Lib.hid (HM11.out.ext hxc)
  have HA2 := Lib.hid (HA1.out.ext hxc)
  have HB2 := Lib.hid (HB1.out.ext hxc)
  have HXc2 := Lib.hid (HXc.out.ext hxc)
  clear hxc HX11 HM11 HA1 HB1 HXc
  go_upto_block 2 with fail
  go_cut [9] (fun s9 wr => s9 = .int .i64 S0 ∧ Ext wc wr)
  case first =>
    go_wp2_with fail
    go_loopg [9] n (fun kx v wr => ∃ j : Nat, v = .int .i64 j ∧ j ≤ S0 ∧ n - j ≤ kx ∧ Hid (Ext wc wr))
    case atStart => exact ⟨0, rfl, Nat.zero_le _, by omega, (show Hid _ from Ext.refl _)⟩
    case round =>
      obtain ⟨j, rfl, hjS, hkx, HXo⟩ := hrel
      have HJ : Hid (j ≤ Mv.suf a b (Mv.pre a b)) := by show _ ≤ _; rw [← HS0.out]; exact hjS
      have hj0 : (0 : Int) ≤ (j : Int) := by omega
      by_cases hn2 : j < n - P0
      case neg =>
        have HJS : Hid (j = S0) := by show _ = _; omega
        have hz1 : decide ((j : Int) < (n : Int) - (P0 : Int)) = false := decide_eq_false (by omega)
        go_wp2_with fail
        refine wp_region_ew wr (Ext.refl _) (by kernel_rfl) (by kernel_rfl) ?_
        repeat (go_big_quiet_step ((fail)))
        refine wpQuiet_nil ?_
        rintro w9 ⟨⟨_, hx9⟩, rfl⟩
        clear hz1
        go_wp2_with fail
        go_meet
        case rel => exact ⟨by rw [HJS.out], HXo.out.trans hx9⟩
      have hd1 : (j : Int) < (n : Int) - (P0 : Int) := by omega
      by_cases hm2 : j < m - P0
      case neg =>
        have HJS : Hid (j = S0) := by show _ = _; omega
        have hz1 : decide ((j : Int) < (m : Int) - (P0 : Int)) = false := decide_eq_false (by omega)
        go_wp2_with fail
        refine wp_region_ew wr (Ext.refl _) (by kernel_rfl) (by kernel_rfl) ?_
        repeat (go_big_quiet_step ((fail)))
        refine wpQuiet_nil ?_
        rintro w9 ⟨⟨_, hx9⟩, rfl⟩
        clear hz1
        go_wp2_with fail
        go_meet
        case rel => exact ⟨by rw [HJS.out], HXo.out.trans hx9⟩
      have hd2 : (j : Int) < (m : Int) - (P0 : Int) := by omega
      obtain ⟨b1, o1, x, hA1, hx1, c1⟩ := (HA2.out.ext HXo.out).cell (i := n - 1 - j) (by omega)
      obtain ⟨b2, o2, y, hA2, hx2, c2⟩ := (HB2.out.ext HXo.out).cell (i := m - 1 - j) (by omega)
      cases hA1
      cases hA2
      simp only [Nat.zero_add] at c1 c2
      obtain ⟨q1, hq1⟩ : ∃ q, q = n - 1 - j := ⟨_, rfl⟩
      obtain ⟨q2, hq2⟩ : ∃ q, q = m - 1 - j := ⟨_, rfl⟩
      have hi1 : (n : Int) - 1 - (j : Int) = (q1 : Int) := by omega
      have hi2 : (m : Int) - 1 - (j : Int) = (q2 : Int) := by omega
      have hi7 : q1 < n := by omega
      have hi8 : q2 < m := by omega
      have HQ1 := Lib.hid hq1
      have HQ2 := Lib.hid hq2
      rw [← hq1] at c1 hx1
      rw [← hq2] at c2 hx2
      have fc1 := fun (y : EW wr) => y.ext.cell c1
      have fc2 := fun (y : EW wr) => y.ext.cell c2
      clear c1 c2 hq1 hq2
      by_cases he : x = y
      · have heb : (x == y) = true := by simpa using he
        have HN := Lib.hid (Mv.suf_step HJ.out (by have := HLa.out; have := HP0.out; omega) (by have := HLb.out; have := HP0.out; omega) (by rw [HLa.out, ← HQ1.out]; exact hx1) (by rw [HLb.out, ← HQ2.out]; exact hx2) he)
        clear hx1 hx2 he
        go_wp2_with fail
        refine wp_region_ew wr (Ext.refl _) (by kernel_rfl) (by kernel_rfl) ?_
        repeat (go_big_quiet_step ((fail)))
        refine wpQuiet_nil ?_
        rintro w9 ⟨⟨_, hx9⟩, rfl⟩
        clear fc1 fc2
        go_wp2_with fail
        go_roundg (n - (j + 1))
        case measure => omega
        case rel => exact ⟨j + 1, by go_num, by rw [HS0.out]; exact HN.out, Nat.le_refl _, (show Hid _ from HXo.out.trans hx9)⟩
      have heb : (x == y) = false := by simpa using he
      have hjs : j = S0 := by
        rw [HS0.out]
        exact Mv.suf_stop HJ.out (.inr (.inr ⟨x, y, by have := HLa.out; have := HP0.out; omega, by have := HLb.out; have := HP0.out; omega, by rw [HLa.out, ← HQ1.out]; exact hx1, by rw [HLb.out, ← HQ2.out]; exact hx2, he⟩))
      have HJS := Lib.hid hjs
      clear hx1 hx2 he hjs
      go_wp2_with fail
      refine wp_region_ew wr (Ext.refl _) (by kernel_rfl) (by kernel_rfl) ?_
      repeat (go_big_quiet_step ((fail)))
      refine wpQuiet_nil ?_
      rintro w9 ⟨⟨_, hx9⟩, rfl⟩
      clear fc1 fc2 heb
      go_wp2_with fail
      go_meet
      case rel => exact ⟨by rw [HJS.out], HXo.out.trans hx9⟩
  case rest =>
  obtain ⟨rfl, hxc⟩ := hcut
  have HX13 := Lib.hid (HX12.out.trans hxc)
  have HM13 := Lib.hid (HM12.out.ext hxc)
  have HA3 := Lib.hid (HA2.out.ext hxc)
  have HB3 := Lib.hid (HB2.out.ext hxc)
  have HXc3 := Lib.hid (HXc2.out.ext hxc)
  clear hxc HX12 HM12 HA2 HB2 HXc2
  obtain ⟨W3, hW3⟩ : ∃ W3, W3 = wc := ⟨_, rfl⟩
  rw [← hW3] at HX13 HM13 HA3 HB3 HXc3 ⊢
  clear hW3
  have hmc := fun o => HM13.out.cell o
  go_wp2_with fail
  clear hmc
  go_loopg [10, 11] (til - fr).toNat (fun kx s10 s11 wr => ∃ (st : Int) (i : Nat), s10 = .int .i64 st ∧ s11 = .int .i64 i ∧ fr ≤ i ∧ (i : Int) ≤ til ∧ 0 ≤ st ∧ st ≤ i ∧ (til - i).toNat ≤ kx ∧ Hid (Ext W3 wr) ∧ Hid (l' = true → st = 0) ∧ Hid (∀ j : Int, fr ≤ j → j < i → kept n P0 S0 j → 1 ≤ st))
  case atStart => exact ⟨0, fr.toNat, rfl, by rw [show ((fr.toNat : Nat) : Int) = fr by omega], by omega, by omega, by omega, by omega, by omega, (show Hid _ from Ext.refl _), (show Hid _ from fun _ => rfl), (show Hid _ from fun j h1 h2 => by omega)⟩
  case round =>
    obtain ⟨st, i, rfl, rfl, hfi, hit, hst0, hsti, hkx, HX, HL, HK⟩ := hrel
    have HMi := Lib.hid (HM13.out.ext HX.out)
    have hmc := fun o => HMi.out.cell o
    by_cases hlt : (i : Int) < til
    · by_cases hpi : (P0 : Int) ≤ (i : Int)
      · by_cases hsi : (i : Int) < (n : Int) - (S0 : Int)
        · go_wp2_with fail
          go_roundg (til - (i + 1)).toNat
          case measure => omega
          case rel => exact ⟨st, i + 1, rfl, by go_num, by omega, by omega, hst0, by omega, by omega, HX, HL, (show Hid _ from fun j h1 h2 h3 => by
            by_cases hji : j = i
            · subst hji
              unfold kept at h3
              omega
            · exact HK.out j h1 (by omega) h3)⟩
        · -- behind the change
          have hk : kept n P0 S0 i := .inr (by omega)
          rcases HCase.out with ⟨h1, h2⟩ | ⟨h1, h2, h3, h4⟩
          · exact absurd hk (lost_none hn9 hm9 hsn hsm (by omega) (by omega) (by omega) h2 hfi hlt)
          · have hin := kept_in hn9 hm9 hsn hsm (F := fr) (T := til) (by omega) (by omega) (by omega) hk hfi hlt
            rw [← h2, ← h3] at hin
            have HL1 := Lib.hid h1
            obtain ⟨q, hq⟩ : ∃ q : Nat, (q : Int) = atOf n m P0 i := ⟨(atOf n m P0 i).toNat, by omega⟩
            have hqm : q < m := by omega
            have hin_ : i < n := by omega
            have hqf : ¬ (q : Int) < f' := by omega
            have hqt : ¬ t' ≤ (q : Int) := by omega
            have hqf2 : decide ((q : Int) < f') = false := decide_eq_false hqf
            have hqt2 : decide (t' ≤ (q : Int)) = false := decide_eq_false hqt
            have hsame : b[q]? = a[i]? := by
              have := kept_same a b (i := i) (by rw [HLa.out]; exact hin_) (by rw [HLa.out, ← HS0.out, ← HP0.out]; exact hk)
              rw [HLa.out, HLb.out, ← HP0.out, ← hq] at this
              simpa using this
            obtain ⟨b1, o1, x, hA1, hx1, c1⟩ := (HA3.out.ext HX.out).cell hin_
            obtain ⟨b2, o2, y, hA2, hx2, c2⟩ := (HB3.out.ext HX.out).cell hqm
            cases hA1
            cases hA2
            obtain rfl : y = x := by rw [hx1, hx2] at hsame; exact Option.some.inj hsame
            simp only [Nat.zero_add] at c1 c2
            have hqi : (i : Int) + (m : Int) - (n : Int) = (q : Int) := by unfold atOf at hq; rw [if_pos hpi] at hq; omega
            have HBx := Lib.hid (HXc3.out.ext HX.out)
            subst h1
            have fc1 := fun (y : EW wr) => y.ext.cell c1
            have fc2 := fun (y : EW wr) => y.ext.cell c2
            have fc3 := fun (y : EW wr) (o : Nat) => (HBx.out.ext y.ext).cell o
            clear c1 c2 hx1 hx2 hsame h2 h3 h4 hin hq hk
            go_wp2_with fail
            refine wp_region_ew wr (Ext.refl _) (by kernel_rfl) (by kernel_rfl) ?_
            repeat (go_big_quiet_step ((fail)))
            refine wpQuiet_nil ?_
            rintro w9 ⟨⟨_, hx9⟩, rfl⟩
            clear fc1 fc2 fc3
            go_wp2_with fail
            go_roundg (til - (i + 1)).toNat
            case measure => omega
            case rel => exact ⟨st + 1, i + 1, by go_num, by go_num, by omega, by omega, by omega, by omega, by omega, (show Hid _ from HX.out.trans hx9), (show Hid _ from fun h => by cases h), (show Hid _ from fun j _ _ _ => by omega)⟩
      · -- ahead of the change
        have hk : kept n P0 S0 i := .inl (by omega)
        rcases HCase.out with ⟨h1, h2⟩ | ⟨h1, h2, h3, h4⟩
        · exact absurd hk (lost_none hn9 hm9 hsn hsm (by omega) (by omega) (by omega) h2 hfi hlt)
        · have hin := kept_in hn9 hm9 hsn hsm (F := fr) (T := til) (by omega) (by omega) (by omega) hk hfi hlt
          rw [← h2, ← h3] at hin
          have HL1 := Lib.hid h1
          obtain ⟨q, hq⟩ : ∃ q : Nat, (q : Int) = atOf n m P0 i := ⟨(atOf n m P0 i).toNat, by omega⟩
          have hqm : q < m := by omega
          have hin_ : i < n := by omega
          have hqf : ¬ (q : Int) < f' := by omega
          have hqt : ¬ t' ≤ (q : Int) := by omega
          have hqf2 : decide ((q : Int) < f') = false := decide_eq_false hqf
          have hqt2 : decide (t' ≤ (q : Int)) = false := decide_eq_false hqt
          have hsame : b[q]? = a[i]? := by
            have := kept_same a b (i := i) (by rw [HLa.out]; exact hin_) (by rw [HLa.out, ← HS0.out, ← HP0.out]; exact hk)
            rw [HLa.out, HLb.out, ← HP0.out, ← hq] at this
            simpa using this
          obtain ⟨b1, o1, x, hA1, hx1, c1⟩ := (HA3.out.ext HX.out).cell hin_
          obtain ⟨b2, o2, y, hA2, hx2, c2⟩ := (HB3.out.ext HX.out).cell hqm
          cases hA1
          cases hA2
          obtain rfl : y = x := by rw [hx1, hx2] at hsame; exact Option.some.inj hsame
          simp only [Nat.zero_add] at c1 c2
          obtain rfl : i = q := by unfold atOf at hq; rw [if_neg hpi] at hq; omega
          have HBx := Lib.hid (HXc3.out.ext HX.out)
          subst h1
          have fc1 := fun (y : EW wr) => y.ext.cell c1
          have fc2 := fun (y : EW wr) => y.ext.cell c2
          have fc3 := fun (y : EW wr) (o : Nat) => (HBx.out.ext y.ext).cell o
          clear c1 c2 hx1 hx2 hsame h2 h3 h4 hin hq hk
          go_wp2_with fail
          refine wp_region_ew wr (Ext.refl _) (by kernel_rfl) (by kernel_rfl) ?_
          repeat (go_big_quiet_step ((fail)))
          refine wpQuiet_nil ?_
          rintro w9 ⟨⟨_, hx9⟩, rfl⟩
          clear fc1 fc2 fc3
          go_wp2_with fail
          go_roundg (til - (i + 1)).toNat
          case measure => omega
          case rel => exact ⟨st + 1, i + 1, by go_num, by go_num, by omega, by omega, by omega, by omega, by omega, (show Hid _ from HX.out.trans hx9), (show Hid _ from fun h => by cases h), (show Hid _ from fun j _ _ _ => by omega)⟩
    · obtain hie : (i : Int) = til := by omega
      have HBx := Lib.hid (HXc3.out.ext HX.out)
      have hbc := fun o => HBx.out.cell o
      rcases HCase.out with ⟨h1, h2⟩ | ⟨h1, h2, h3, h4⟩
      · have hs := HL.out h1
        subst h1
        subst hs
        go_wp2_with fail
        go_ret
        exact ⟨by first | rfl | simp, HX13.out.trans HX.out⟩
      · have hs1 : 1 ≤ st := by
          rcases some_kept hn9 hm9 hsn hsm (F := fr) (T := til) (by omega) (by omega) (by omega) (by omega) with h | h
          · exact HK.out _ (by omega) (by omega) h
          · exact HK.out _ (by omega) (by omega) h
        have hbd := kept_bd hn9 hm9 hsn hsm (F := fr) (T := til) (by omega) (by omega) (by omega)
        rw [← h2, ← h3] at hbd h4
        have hs2 : (st == 0) = false := by simp; omega
        obtain ⟨hbd1, hbd2⟩ := hbd
        have hbd3 : f' < t' := by omega
        clear h2 h3 hie
        subst h1
        go_wp2_with fail
        go_ret
        exact ⟨by first | rfl | simp, HX13.out.trans HX.out⟩
end Go.Proofs.YtagfedbdakmlgaaDoor
