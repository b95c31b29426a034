/- Laid together: The walk of the reference's New of documents. Arguments of chapter 14 (and 12), opened: a remark, numbers, strings. The walk of the law DocumentChecks. Arguments that are rates, spans, small numbers, booleans and lists of drifts, opened. -/
import Derived.Test.YtagfedbdakmlgaaGreatDoorCk15
import Derived.Test.YtagfedbdakmlgaaGreatDoorCk22
import Derived.Test.YtagfedbdakmlgaaGreatDoorCk08
import Derived.Test.YtagfedbdakmlgaaGreatDoorCk13
import Derived.Test.YtagfedbdakmlgaaGreatDoorCk17
import Derived.Test.YtagfedbdakmlgaaGreatDoorCk16
import Derived.Test.YtagfedbdakmlgaaGreatDoorCk18
import Derived.Test.YtagfedbdakmlgaaGreatDoorCk19
import Derived.Test.YtagfedbdakmlgaaGreatDoorCk09
import Derived.Test.YtagfedbdakmlgaaGreatDoorCk01
import Derived.OpenShut

/-! NewR -/
namespace Go.Proofs.YtagfedbdakmlgaaGreatDoor
set_option linter.unusedVariables false
set_option linter.unusedSimpArgs false
open Go.RowKit
def docNew (r : Int) (drop : Bool) : Doc := ⟨⟨#[]⟩, ⟨#[]⟩, r, drop, 0, [], [], []⟩
theorem vld_nil : vld ⟨#[]⟩ = true := rfl
theorem new_err (r : Int) (drop : Bool) : (docNew r drop).err = rateE r drop := by
  have h1 : (docNew r drop).headErr = rateE r drop := by
    unfold Doc.headErr docNew rateE
    simp only [vld_nil]
    rw [if_neg (by decide), if_neg (by decide), if_neg (fun h => by have h1 := h.1; rw [ByteArray.toList_eq] at h1; simp at h1)]
    cases hr : rateOkB r drop <;> simp
  by_cases h : rateE r drop = 0
  · rw [h] at h1 ⊢
    unfold Doc.err
    rw [if_neg (by rw [h1]; decide)]
    rfl
  · unfold Doc.err
    rw [if_pos (by rw [h1]; exact h), h1]
theorem new_fit {r : Int} {drop : Bool} (h0 : 0 ≤ r) (h1 : r ≤ 255) : DocFit (docNew r drop) :=
  ⟨⟨h0, h1, by show (0 : Nat) ≤ _; omega, by show (0 : Nat) ≤ _; omega⟩, fun x hx => by simp [docNew] at hx, fun x hx => by simp [docNew] at hx, fun x hx => by simp [docNew] at hx, fun x hx => by simp [docNew] at hx⟩
set_option maxRecDepth 100000 in
set_option maxHeartbeats 2000000 in
theorem R12New_any (r : Int) (drop : Bool) (w : World) (hE : Env w) (h0 : 0 ≤ r) (h1 : r ≤ 255) : Calls Tryz.prog 48 #[.int .u8 r, .bool drop] w (DEPost (newX r drop) w) := by
  have HCk := Lib.hid (fun w' (hx : Ext w w') => R12Check_any (docNew r drop) docH0 w' (hE.ext hx) (new_own w' 0 r drop).at_ (new_fit h0 h1) (by decide) (by decide) (by decide))
  rw [new_err] at HCk
  unfold docNew Doc.cells docH0 at HCk
  dsimp only at HCk
  have HX : Hid (Ext w ((w.alloc (.cells docZero 27)).alloc (.cells #[.string ⟨#[]⟩, .string ⟨#[]⟩, .int .u8 r, .bool drop, .int .i64 0, .slice none 0 0, .slice none 0 0, .slice none 0 0] 27))) := ((Ext.refl w).alloc _).alloc _
  have HZ : Hid (Blk ((w.alloc (.cells docZero 27)).alloc (.cells #[.string ⟨#[]⟩, .string ⟨#[]⟩, .int .u8 r, .bool drop, .int .i64 0, .slice none 0 0, .slice none 0 0, .slice none 0 0] 27)) w.heap.size 27 docZero) := (Blk.new w _ _).alloc _
  have HD : Hid (Blk ((w.alloc (.cells docZero 27)).alloc (.cells #[.string ⟨#[]⟩, .string ⟨#[]⟩, .int .u8 r, .bool drop, .int .i64 0, .slice none 0 0, .slice none 0 0, .slice none 0 0] 27)) (w.heap.size + 1) 27 #[.string ⟨#[]⟩, .string ⟨#[]⟩, .int .u8 r, .bool drop, .int .i64 0, .slice none 0 0, .slice none 0 0, .slice none 0 0]) := Blk.new' (by simp)
  unfold docZero at HX HZ HD
  go_enter Tryz.func48, Tryz.ntmps48
  go_wp2_with (refine wpList_loadB rfl 27 (.tmp 6) rfl (w.heap.size + 1) 27 _ _ (by exact rfl) (by exact HD.out) Tryz.underlying27 rfl (by exact size_docI) ?_)
  refine (HCk.out _ HX.out).mono ?_
  rintro en w1 ⟨rfl, hx1⟩
  have HX1 := Lib.hid (HX.out.trans hx1)
  have HZ1 := Lib.hid (HZ.out.ext hx1)
  have HD1 := Lib.hid (HD.out.ext hx1)
  clear hx1 HX HZ HD
  by_cases he : rateE r drop = 0
  · have HN : Hid (newX r drop = (⟨⟨#[]⟩, ⟨#[]⟩, r, drop, 0, [], [], []⟩, 0)) := by show _ = _; unfold newX; rw [if_pos he]
    rw [he]
    clear he
    go_wp2_with (first | (refine wpList_loadB rfl 27 (.tmp 6) rfl (w.heap.size + 1) 27 _ _ (by exact rfl) (by exact HD1.out) Tryz.underlying27 rfl (by exact size_docI) ?_) | refine wpList_storeB rfl 27 (.tmp 4) _ rfl w.heap.size 27 _ _ (by exact rfl) (by exact rfl) (by exact HZ1.out) (by exact rfl) (by exact size_docI) (by simp [Value.oneCell']) ?_)
    refine bodyPost_ret (v := .tuple #[.agg #[.string ⟨#[]⟩, .string ⟨#[]⟩, .int .u8 r, .bool drop, .int .i64 0, .slice none 0 0, .slice none 0 0, .slice none 0 0], .int .i64 0]) ?_ rfl ⟨docH0, ?_, ?_, ?_⟩
    · exact results_B_tmp (P := Tryz.prog) Tryz.results48 (g := w.heap.size) rfl (by exact HZ1.out.put _) Tryz.underlying27 rfl size_docI
    · rw [HN.out]; rfl
    · rw [HN.out]; exact new_own _ _ _ _
    · exact HX1.out.put (Nat.le_refl _) _ _
  · have HN : Hid (newX r drop = (Doc.zero, rateE r drop)) := by show _ = _; unfold newX; rw [if_neg he]
    have hne : (rateE r drop != 0) = true := by simpa using he
    clear he
    go_wp2_with (first | (refine wpList_loadB rfl 27 (.tmp 6) rfl (w.heap.size + 1) 27 _ _ (by exact rfl) (by exact HD1.out) Tryz.underlying27 rfl (by exact size_docI) ?_) | refine wpList_storeB rfl 27 (.tmp 4) _ rfl w.heap.size 27 _ _ (by exact rfl) (by exact rfl) (by exact HZ1.out) (by exact rfl) (by exact size_docI) (by simp [Value.oneCell']) ?_)
    refine bodyPost_ret (v := .tuple #[.agg docZero, .int .i64 (rateE r drop)]) ?_ rfl ?_
    · exact results_B_tmp (P := Tryz.prog) Tryz.results48 (g := w.heap.size) rfl (by exact HZ1.out.put _) Tryz.underlying27 rfl size_docI
    · exact dePost_err HN.out (HX1.out.put (Nat.le_refl _) _ _)
end Go.Proofs.YtagfedbdakmlgaaGreatDoor

/-! OpenC -/
namespace Go.Proofs.YtagfedbdakmlgaaGreatDoor
set_option linter.unusedVariables false
set_option linter.unusedSimpArgs false
open Go.RowKit Go.ChangeShapes Go.WideShapes Go.ChangeAt
set_option maxRecDepth 100000
theorem argC_int64 {H : Type} {enc : TypeId × Value → H} {W : World} {base : Nat} {v : Value} {d : DataW H} {p : List MemPlace} (hv : Value.okWide Tryz.prog W .any base 2 v) (h : DataW.Trod enc Tryz.prog W 0 (fun _ => true) true 2 v d p)
    (hw : ∀ n ∈ d.weights Tryz.prog 2, n ≤ reachBytes) : ∃ a : Int, v = .int .i64 a ∧ IW a := by
  obtain ⟨fuel, h⟩ := h
  obtain ⟨a, ha, hb⟩ := Opens.int Tryz.underlying2 H enc fuel _ _ h hw
  unfold Value.okWide at hv
  rw [Tryz.underlying2] at hv
  cases v with
  | agg cs => exact absurd hv (by unfold Cell.okWide; rw [Tryz.underlying2]; simp [Cell.ok])
  | _ => first | (refine ⟨a, ?_, bounds_i64 hb⟩; exact (List.cons.inj ha).1) | (simp at hv; done)
/-- the lists of a document of one's own are short -/
def DocShort (d : Doc) : Prop := d.regs.length ≤ 16 ∧ d.evs.length ≤ 1000000 ∧ d.coms.length ≤ 1000000
theorem DocOwn.short {w : World} {L : Nat} {d : Doc} {h : DocH} (o : DocOwn w L d h) (s : DocShort d) : h.rn ≤ 1000000000 ∧ h.en ≤ 1000000000 ∧ h.cn ≤ 1000000000 := by
  have h1 := o.rlen
  have h2 := o.evs.len
  have h3 := o.clen
  obtain ⟨s1, s2, s3⟩ := s
  omega
theorem zero_short : DocShort Doc.zero := ⟨by decide, by decide, by decide⟩
end Go.Proofs.YtagfedbdakmlgaaGreatDoor

/-! LawChk12 -/
namespace Go.Proofs.YtagfedbdakmlgaaGreatDoor
set_option linter.unusedVariables false
set_option linter.unusedSimpArgs false
open Go.RowKit
theorem newX_short (r : Int) (drop : Bool) : DocShort (newX r drop).1 := by
  unfold newX
  split
  · exact ⟨Nat.zero_le _, Nat.zero_le _, Nat.zero_le _⟩
  · exact zero_short
theorem wp_call2r {P : Program} {o : Oper} {a : Act} {w : World} {K : Act → World → Prop} {Q : Exit → Act → World → Prop} {f : FuncId} {x0 x1 : Operand} {ts : Array TypeId} {v0 v1 : Value} {R : Ending → World → Prop} (ho : o.op = .call { callee := .value (.func f), args := #[x0, x1], argTypes := ts })
    (h0 : a.eval x0 = v0) (h1 : a.eval x1 = v1) (hcall : ∀ args w, (callFunc f args).run P w = .ok (.enter f args) w) (hc : Calls P f #[v0, v1] w R)
    (h : ∀ e w', R e w' → ∃ v, e = .returned v ∧ K (a.put o.dst v) w') : o.wp P a w K Q := by
  have h2 : Calls P f #[v0, v1] w (fun
      | .returned u, w'' => K (a.put o.dst u) w''
      | .panicked chain, w'' => Q (.panic chain) a w''
      | .outgrown, _ => LetsOut Q) := hc.mono fun en w' hr => by
    obtain ⟨u, rfl, hk⟩ := h en w' hr
    exact hk
  unfold Oper.wp execOp
  simp only [ho]
  have hev : a.eval (.func f) = .func (.func f) #[] #[] := rfl
  simp [resolve, invoke, hev, h0, h1, hcall, Sem.run_bind, Deferred.ofValue]
  exact h2
set_option maxRecDepth 100000 in
set_option maxHeartbeats 8000000 in
theorem DocumentChecks_any (d : Doc) (h : DocH) (id fr : Int) (w : World) (hE : Env w) (hat : DocAt w d h) (hi : DocIn d h) :
    Calls Tryz.prog 7 #[.agg (d.cells h), .int .i64 id, .int .i64 fr] w fun en w' => en = .returned (.bool true) ∧ Ext w w' := by
  have HX : Hid (Ext w (w.alloc (.cells (d.cells h) 27))) := (Ext.refl w).alloc _
  have HB : Hid (Blk (w.alloc (.cells (d.cells h) 27)) w.heap.size 27 (d.cells h)) := Blk.new w _ _
  have hrn : h.rn ≤ 4611686018427387904 := by have h1 := hi.rc.2; omega
  have hnE := hi.en
  have hcn := hi.cn
  have HEn := Lib.hid hE
  have HAt := Lib.hid hat
  have HR0 := Lib.hid hi.fit.ok.r0
  have HR1 := Lib.hid hi.fit.ok.r1
  have HC1 := Lib.hid (fun w' (hx : Ext w w') => DCheck_any d h w' (hE.ext hx) (hat.ext hx) hi.fit hi.rn hi.en (by omega))
  have HC2 := Lib.hid (fun w' (hx : Ext w w') => R12Check_any d h w' (hE.ext hx) (hat.ext hx) hi.fit hi.rn hi.en (by omega))
  have HH1 := Lib.hid (fun w' => DHead_any d h w')
  have HH2 := Lib.hid (fun w' => R12Head_any d h w')
  have HF1 := Lib.hid (fun w' (hx : Ext w w') => DFind_any d h id w' (hat.evs.ext hx) (by omega))
  have HF2 := Lib.hid (fun w' (hx : Ext w w') => R12Find_any d h id w' (hat.evs.ext hx) hi.en)
  have HS1 := Lib.hid (fun w' (hx : Ext w w') => DSpan_any d h w' (hat.evs.ext hx) hi.en)
  have HS2 := Lib.hid (fun w' (hx : Ext w w') => R12Span_any d h w' (hat.evs.ext hx) hi.en)
  have HSa := Lib.hid (fun w' (hx : Ext w w') => DSame_big d d h h w' (hat.ext hx) (hat.ext hx) (by omega))
  have HA1 := Lib.hid (fun w' (hx : Ext w w') => DAt_any d h fr w' (hat.evs.ext hx) hi.en)
  have HA2 := Lib.hid (fun w' (hx : Ext w w') => R12At_any d h fr w' (hat.evs.ext hx) hi.en)
  have HT1 := Lib.hid (fun w' (hx : Ext w w') => DSort_any d.evs h.ea h.en h.ec w' (hat.evs.ext hx) (by omega))
  have HT2 := Lib.hid (fun w' (hx : Ext w w') => R12Sort_any d.evs h.ea h.en h.ec w' (hat.evs.ext hx) (by omega))
  have HAw := Lib.hid (fun w' (hx : Ext w w') => awake12_any w' (hE.ext hx))
  have hnh : ∀ w, (binOp .neq 54 d.head d.head).run Tryz.prog w = .ok (.bool false) w := fun w => by rw [neq_head]; simp
  rw [sameDoc_self] at HSa
  clear hE hat hi
  unfold Doc.cells at HX HB HC1 HC2 HH1 HH2 HF1 HF2 HS1 HS2 HSa HA1 HA2
  unfold Doc.head at HH1 HH2 hnh
  obtain ⟨hra, nr, hrc, hea, hen, hec, hca, nc, hcc⟩ := h
  dsimp only at *
  unfold Doc.cells
  dsimp only
  generalize d.err = E at *
  generalize findI d.evs id = F at *
  generalize hS0 : spL d.evs = S at *
  clear hS0
  go_enter Tryz.func7, Tryz.ntmps7
  go_upto_region 1 with fail
  obtain ⟨W1, hW1⟩ : ∃ W1, W1 = w.alloc (.cells #[.string d.title, .string d.lang, .int .u8 d.rate, .bool d.drop, .int .i64 d.last, .slice hra nr hrc, .slice hea hen hec, .slice hca nc hcc] 27) := ⟨_, rfl⟩
  rw [← hW1] at HX HB ⊢
  clear hW1
  have hLe := HAt.out.evs.len
  have hr_1 := fun (x : EW W1) (o : Nat) => (HB.out.ext x.ext).cell o
  refine wp_region_ew W1 (Ext.refl _) (by kernel_rfl) (by kernel_rfl) ?_
  repeat (go_big_quiet_step ((first | (go_at_call 29; exact EW.calls _ (HAw.out _ (HX.out.trans (EW.ext _)))) | (go_at_call 34; exact EW.calls _ (HC1.out _ (HX.out.trans (EW.ext _)))) | (go_at_call 35; exact EW.calls _ (HC2.out _ (HX.out.trans (EW.ext _)))) | (go_at_call 38; exact EW.calls _ (HF1.out _ (HX.out.trans (EW.ext _)))) | (go_at_call 39; exact EW.calls _ (HF2.out _ (HX.out.trans (EW.ext _)))) | (go_at_call 40; exact EW.calls _ (HS1.out _ (HX.out.trans (EW.ext _)))) | (go_at_call 41; exact EW.calls _ (HS2.out _ (HX.out.trans (EW.ext _)))) | (go_at_call 19; exact EW.calls _ (HSa.out _ (HX.out.trans (EW.ext _)))) | (go_at_call 36; exact EW.calls _ (HH1.out _)) | (go_at_call 37; exact EW.calls _ (HH2.out _)))))
  refine wpQuiet_nil ?_
  rintro w_2 ⟨⟨_, hx_3⟩, rfl⟩
  try dsimp only
  clear hr_1
  have HX_4 := Lib.hid (HX.out.trans hx_3)
  have HB_5 := Lib.hid (HB.out.ext hx_3)
  clear hx_3 HX HB
  go_wp2_with fail
  try clear hST
  have hST : QSt [(fun (u : Value) (w : World) => ∃ A c, u = .slice A (atL d.evs fr).length c ∧ IntsAt w A (atL d.evs fr).length (atL d.evs fr) ∧ (atL d.evs fr).length ≤ c), (fun (u : Value) (w : World) => ∃ A c, u = .slice A (atL d.evs fr).length c ∧ IntsAt w A (atL d.evs fr).length (atL d.evs fr) ∧ (atL d.evs fr).length ≤ c), (fun (u : Value) (w : World) => ∃ A c, u = .slice A (atL d.evs fr).length c ∧ IntsAt w A (atL d.evs fr).length (atL d.evs fr) ∧ (atL d.evs fr).length ≤ c), (fun (u : Value) (w : World) => ∃ A c, u = .slice A (atL d.evs fr).length c ∧ IntsAt w A (atL d.evs fr).length (atL d.evs fr) ∧ (atL d.evs fr).length ≤ c)] := by
    have h0 : ∀ (u : Value) (w w' : World), Ext w w' → (fun (u : Value) (w : World) => ∃ A c, u = .slice A (atL d.evs fr).length c ∧ IntsAt w A (atL d.evs fr).length (atL d.evs fr) ∧ (atL d.evs fr).length ≤ c) u w → (fun (u : Value) (w : World) => ∃ A c, u = .slice A (atL d.evs fr).length c ∧ IntsAt w A (atL d.evs fr).length (atL d.evs fr) ∧ (atL d.evs fr).length ≤ c) u w' := by
      rintro u w w' hx ⟨A, c, h1, h2, h3⟩
      exact ⟨A, c, h1, h2.ext hx, h3⟩
    intro p hp u w w' hx h
    simp only [List.mem_cons, List.not_mem_nil, or_false] at hp
    rcases hp with rfl | rfl | rfl | rfl <;> exact h0 u w w' hx h
  refine wp_region_links [some 55, some 56, some 57, some 58, some 59, some 60, some 7, some 8] [[], [], [0, 1], [], [], [3, 4, 2], [2, 5, 0, 1, 2], [5, 6, 0, 1, 2, 3, 4, 5, 6]] [2, 5, 6, 7] [.agg #[.string d.title, .string d.lang, .int .u8 d.rate, .bool d.drop, .int .i64 d.last, .slice hra nr hrc, .slice hea hen hec, .slice hca nc hcc], .int .i64 fr, undef, .agg #[.string d.title, .string d.lang, .int .u8 d.rate, .bool d.drop, .int .i64 d.last, .slice hra nr hrc, .slice hea hen hec, .slice hca nc hcc], .int .i64 fr, undef, undef, undef] (QJ [(fun (u : Value) (w : World) => ∃ A c, u = .slice A (atL d.evs fr).length c ∧ IntsAt w A (atL d.evs fr).length (atL d.evs fr) ∧ (atL d.evs fr).length ≤ c), (fun (u : Value) (w : World) => ∃ A c, u = .slice A (atL d.evs fr).length c ∧ IntsAt w A (atL d.evs fr).length (atL d.evs fr) ∧ (atL d.evs fr).length ≤ c), (fun (u : Value) (w : World) => ∃ A c, u = .slice A (atL d.evs fr).length c ∧ IntsAt w A (atL d.evs fr).length (atL d.evs fr) ∧ (atL d.evs fr).length ≤ c), (fun (u : Value) (w : World) => ∃ A c, u = .slice A (atL d.evs fr).length c ∧ IntsAt w A (atL d.evs fr).length (atL d.evs fr) ∧ (atL d.evs fr).length ≤ c)] w_2) (by kernel_rfl) (by kernel_rfl) (by kernel_rfl) (by kernel_rfl) (by kernel_rfl) (by kernel_rfl) (by kernel_rfl) (by decide) ?_ ?_ ?_ ?_
  · exact QJ.start _ w_2
  · intro i o ho hc a w' us K' hJ hF hlim hk
    match i, ho with
    | 0, ho =>
      simp only [List.getElem?_toArray, List.getElem?_cons_zero, List.getElem?_cons_succ, Option.some.injEq] at ho
      subst ho
      have e3 := hF.old 3 (.pointer (some ⟨w.heap.size, 0, none⟩)) rfl rfl
      exact wp_loadBk 27 (.tmp 3) rfl _ 27 _ _ e3 (HB_5.out.ext hJ.ext) Tryz.underlying27 rfl (by exact size_docI) hk
    | 1, ho =>
      simp only [List.getElem?_toArray, List.getElem?_cons_zero, List.getElem?_cons_succ, Option.some.injEq] at ho
      subst ho
      have e2 := hF.old 2 (.int .i64 fr) rfl rfl
      simp only [Act.eval] at e2
      clear hF hlim hJ
      go_simp
      exact hk
    | 2, ho => simp at hc
    | 3, ho =>
      simp only [List.getElem?_toArray, List.getElem?_cons_zero, List.getElem?_cons_succ, Option.some.injEq] at ho
      subst ho
      have e3 := hF.old 3 (.pointer (some ⟨w.heap.size, 0, none⟩)) rfl rfl
      exact wp_loadBk 27 (.tmp 3) rfl _ 27 _ _ e3 (HB_5.out.ext hJ.ext) Tryz.underlying27 rfl (by exact size_docI) hk
    | 4, ho =>
      simp only [List.getElem?_toArray, List.getElem?_cons_zero, List.getElem?_cons_succ, Option.some.injEq] at ho
      subst ho
      have e2 := hF.old 2 (.int .i64 fr) rfl rfl
      simp only [Act.eval] at e2
      clear hF hlim hJ
      go_simp
      exact hk
    | 5, ho => simp at hc
    | 6, ho => simp at hc
    | 7, ho => simp at hc
    | i + 8, ho => simp at ho
  · intro p c' o hp ho a w' us K' hl hJ hF hk
    match p, hp with
    | 0, hp =>
      obtain rfl : 2 = c' := by simpa using hp
      simp only [List.getElem?_toArray, List.getElem?_cons_zero, List.getElem?_cons_succ, Option.some.injEq] at ho
      subst ho
      obtain rfl : us = [] := List.eq_nil_of_length_eq_zero hl
      have e55 := hF.pure 0 55 (.agg #[.string d.title, .string d.lang, .int .u8 d.rate, .bool d.drop, .int .i64 d.last, .slice hra nr hrc, .slice hea hen hec, .slice hca nc hcc]) rfl rfl rfl rfl
      have e56 := hF.pure 1 56 (.int .i64 fr) rfl rfl rfl rfl
      refine wp_call2r rfl e55 e56 Tryz.call42 (HA1.out w' (HX_4.out.trans hJ.ext)) ?_
      rintro en w2 ⟨A9, c9, rfl, h9, hc9, hx9⟩
      exact ⟨_, rfl, hk _ w2 (hJ.push hST hx9 (fun p hp => by cases hp; exact ⟨A9, c9, rfl, h9, hc9⟩))⟩
    | 1, hp =>
      obtain rfl : 5 = c' := by simpa using hp
      simp only [List.getElem?_toArray, List.getElem?_cons_zero, List.getElem?_cons_succ, Option.some.injEq] at ho
      subst ho
      obtain ⟨u0, rfl⟩ := list_1 hl
      have e58 := hF.pure 3 58 (.agg #[.string d.title, .string d.lang, .int .u8 d.rate, .bool d.drop, .int .i64 d.last, .slice hra nr hrc, .slice hea hen hec, .slice hca nc hcc]) rfl rfl rfl rfl
      have e59 := hF.pure 4 59 (.int .i64 fr) rfl rfl rfl rfl
      refine wp_call2r rfl e58 e59 Tryz.call43 (HA2.out w' (HX_4.out.trans hJ.ext)) ?_
      rintro en w2 ⟨A9, c9, rfl, h9, hc9, hx9⟩
      exact ⟨_, rfl, hk _ w2 (hJ.push hST hx9 (fun p hp => by cases hp; exact ⟨A9, c9, rfl, h9, hc9⟩))⟩
    | 2, hp =>
      obtain rfl : 6 = c' := by simpa using hp
      simp only [List.getElem?_toArray, List.getElem?_cons_zero, List.getElem?_cons_succ, Option.some.injEq] at ho
      subst ho
      obtain ⟨u0, u1, rfl⟩ := list_2 hl
      have e57 := hF.link 0 2 57 _ rfl rfl rfl rfl
      obtain ⟨A9, c9, hu9, hq9⟩ : (fun (u : Value) (w : World) => ∃ A c, u = .slice A (atL d.evs fr).length c ∧ IntsAt w A (atL d.evs fr).length (atL d.evs fr) ∧ (atL d.evs fr).length ≤ c) u0 w' := hJ.val 0 u0 _ rfl rfl
      have HK := Lib.hid (hk u0 w' (hJ.push hST (Ext.refl _) (fun p hp => by cases hp; exact ⟨A9, c9, hu9, hq9⟩)))
      clear hk hF hJ
      rw [hu9] at HK
      rw [hu9] at e57
      simp only [Act.eval] at e57
      go_simp
      exact HK.out
    | 3, hp =>
      obtain rfl : 7 = c' := by simpa using hp
      simp only [List.getElem?_toArray, List.getElem?_cons_zero, List.getElem?_cons_succ, Option.some.injEq] at ho
      subst ho
      obtain ⟨u0, u1, u2, rfl⟩ := list_3 hl
      have e60 := hF.link 1 5 60 _ rfl rfl rfl rfl
      obtain ⟨A9, c9, hu9, hq9⟩ : (fun (u : Value) (w : World) => ∃ A c, u = .slice A (atL d.evs fr).length c ∧ IntsAt w A (atL d.evs fr).length (atL d.evs fr) ∧ (atL d.evs fr).length ≤ c) u1 w' := hJ.val 1 u1 _ rfl rfl
      have HK := Lib.hid (hk u1 w' (hJ.push hST (Ext.refl _) (fun p hp => by cases hp; exact ⟨A9, c9, hu9, hq9⟩)))
      clear hk hF hJ
      rw [hu9] at HK
      rw [hu9] at e60
      simp only [Act.eval] at e60
      go_simp
      exact HK.out
    | p + 4, hp => simp at hp
  intro us w93 hl hJ
  obtain ⟨u0, u1, u2, u3, rfl⟩ := list_4 hl
  first | (rename_i hK; refine hK _ _ ?_; clear hK) | (rename_i hK hK_1; refine hK _ _ ?_; clear hK) | (rename_i hK hK_1 hK_2; refine hK _ _ ?_; clear hK) | (rename_i hK hK_1 hK_2 hK_3; refine hK _ _ ?_; clear hK)
  generalize hL : frameL _ _ _ _ = L
  obtain rfl : L = [(55, .agg #[.string d.title, .string d.lang, .int .u8 d.rate, .bool d.drop, .int .i64 d.last, .slice hra nr hrc, .slice hea hen hec, .slice hca nc hcc]), (56, .int .i64 fr), (57, u0), (58, .agg #[.string d.title, .string d.lang, .int .u8 d.rate, .bool d.drop, .int .i64 d.last, .slice hra nr hrc, .slice hea hen hec, .slice hca nc hcc]), (59, .int .i64 fr), (60, u1), (7, u2), (8, u3)] := hL.symm.trans (by kernel_rfl)
  clear hL hl
  simp only [Act.put, List.foldl_cons, List.foldl_nil, List.setIfInBounds_toArray, List.set_cons_zero, List.set_cons_succ]
  obtain ⟨A3a, c3a, hu2, hq3a⟩ : (fun (u : Value) (w : World) => ∃ A c, u = .slice A (atL d.evs fr).length c ∧ IntsAt w A (atL d.evs fr).length (atL d.evs fr) ∧ (atL d.evs fr).length ≤ c) u2 w93 := hJ.val 2 u2 _ rfl rfl
  obtain ⟨A3b, c3b, hu3, hq3b⟩ : (fun (u : Value) (w : World) => ∃ A c, u = .slice A (atL d.evs fr).length c ∧ IntsAt w A (atL d.evs fr).length (atL d.evs fr) ∧ (atL d.evs fr).length ≤ c) u3 w93 := hJ.val 3 u3 _ rfl rfl
  subst hu2 hu3
  have hxJ := hJ.ext
  clear hJ
  have HX_6 := Lib.hid (HX_4.out.trans hxJ)
  have HB_7 := Lib.hid (HB_5.out.ext hxJ)
  clear hxJ HX_4 HB_5
  have HQ3a := Lib.hid hq3a.1
  have HQ3b := Lib.hid hq3b.1
  clear hq3a hq3b
  go_wp2_with fail
  try clear hST
  have hST : QSt [(fun (u : Value) (w : World) => ∃ A c, u = .slice A hen c ∧ EvsAt w A hen (srtE d.evs)), (fun (u : Value) (w : World) => ∃ A c, u = .slice A hen c ∧ EvsAt w A hen (srtE d.evs)), (fun (u : Value) (w : World) => ∃ A c, u = .slice A hen c ∧ EvsAt w A hen (srtE d.evs)), (fun (u : Value) (w : World) => ∃ A c, u = .slice A hen c ∧ EvsAt w A hen (srtE d.evs))] := by
    have h0 : ∀ (u : Value) (w w' : World), Ext w w' → (fun (u : Value) (w : World) => ∃ A c, u = .slice A hen c ∧ EvsAt w A hen (srtE d.evs)) u w → (fun (u : Value) (w : World) => ∃ A c, u = .slice A hen c ∧ EvsAt w A hen (srtE d.evs)) u w' := by
      rintro u w w' hx ⟨A, c, h1, h2⟩
      exact ⟨A, c, h1, h2.ext hx⟩
    intro p hp u w w' hx h
    simp only [List.mem_cons, List.not_mem_nil, or_false] at hp
    rcases hp with rfl | rfl | rfl | rfl <;> exact h0 u w w' hx h
  refine wp_region_links [some 61, some 62, some 63, some 64, some 65, some 66, some 9, some 10] [[], [0], [1], [], [3], [4, 2], [2, 5, 0, 1, 2], [5, 6, 0, 1, 2, 3, 4, 5, 6]] [2, 5, 6, 7] [.pointer (some ⟨w.heap.size, 6, none⟩), .slice hea hen hec, undef, .pointer (some ⟨w.heap.size, 6, none⟩), .slice hea hen hec, undef, undef, undef] (QJ [(fun (u : Value) (w : World) => ∃ A c, u = .slice A hen c ∧ EvsAt w A hen (srtE d.evs)), (fun (u : Value) (w : World) => ∃ A c, u = .slice A hen c ∧ EvsAt w A hen (srtE d.evs)), (fun (u : Value) (w : World) => ∃ A c, u = .slice A hen c ∧ EvsAt w A hen (srtE d.evs)), (fun (u : Value) (w : World) => ∃ A c, u = .slice A hen c ∧ EvsAt w A hen (srtE d.evs))] w93) (by kernel_rfl) (by kernel_rfl) (by kernel_rfl) (by kernel_rfl) (by kernel_rfl) (by kernel_rfl) (by kernel_rfl) (by decide) ?_ ?_ ?_ ?_
  · exact QJ.start _ w93
  · intro i o ho hc a w' us K' hJ hF hlim hk
    match i, ho with
    | 0, ho =>
      simp only [List.getElem?_toArray, List.getElem?_cons_zero, List.getElem?_cons_succ, Option.some.injEq] at ho
      subst ho
      have e3 := hF.old 3 (.pointer (some ⟨w.heap.size, 0, none⟩)) rfl rfl
      simp only [Act.eval] at e3
      clear hF hlim hJ
      go_simp
      exact hk
    | 1, ho =>
      simp only [List.getElem?_toArray, List.getElem?_cons_zero, List.getElem?_cons_succ, Option.some.injEq] at ho
      subst ho
      have e61 := hF.pure 0 61 (.pointer (some ⟨w.heap.size, 6, none⟩)) rfl rfl rfl rfl
      have hcl : w'.cell? ⟨w.heap.size, 6, none⟩ = some (.slice hea hen hec) := (HB_7.out.ext hJ.ext).cell 6
      simp only [Act.eval] at e61
      clear hF hlim hJ
      go_simp
      exact hk
    | 2, ho => simp at hc
    | 3, ho =>
      simp only [List.getElem?_toArray, List.getElem?_cons_zero, List.getElem?_cons_succ, Option.some.injEq] at ho
      subst ho
      have e3 := hF.old 3 (.pointer (some ⟨w.heap.size, 0, none⟩)) rfl rfl
      simp only [Act.eval] at e3
      clear hF hlim hJ
      go_simp
      exact hk
    | 4, ho =>
      simp only [List.getElem?_toArray, List.getElem?_cons_zero, List.getElem?_cons_succ, Option.some.injEq] at ho
      subst ho
      have e64 := hF.pure 3 64 (.pointer (some ⟨w.heap.size, 6, none⟩)) rfl rfl rfl rfl
      have hcl : w'.cell? ⟨w.heap.size, 6, none⟩ = some (.slice hea hen hec) := (HB_7.out.ext hJ.ext).cell 6
      simp only [Act.eval] at e64
      clear hF hlim hJ
      go_simp
      exact hk
    | 5, ho => simp at hc
    | 6, ho => simp at hc
    | 7, ho => simp at hc
    | i + 8, ho => simp at ho
  · intro p c' o hp ho a w' us K' hl hJ hF hk
    match p, hp with
    | 0, hp =>
      obtain rfl : 2 = c' := by simpa using hp
      simp only [List.getElem?_toArray, List.getElem?_cons_zero, List.getElem?_cons_succ, Option.some.injEq] at ho
      subst ho
      obtain rfl : us = [] := List.eq_nil_of_length_eq_zero hl
      have e62 := hF.pure 1 62 (.slice hea hen hec) rfl rfl rfl rfl
      refine wp_call1 rfl e62 Tryz.call44 (HT1.out w' (HX_6.out.trans hJ.ext)) ?_
      rintro en w2 ⟨v9, rfl, h9, hx9⟩
      obtain ⟨A9, c9, hv9, -, -, h9'⟩ := h9.at_
      exact ⟨_, rfl, hk _ w2 (hJ.push hST hx9 (fun p hp => by cases hp; exact ⟨A9, c9, hv9, h9'⟩))⟩
    | 1, hp =>
      obtain rfl : 5 = c' := by simpa using hp
      simp only [List.getElem?_toArray, List.getElem?_cons_zero, List.getElem?_cons_succ, Option.some.injEq] at ho
      subst ho
      obtain ⟨u0, rfl⟩ := list_1 hl
      have e65 := hF.pure 4 65 (.slice hea hen hec) rfl rfl rfl rfl
      refine wp_call1 rfl e65 Tryz.call45 (HT2.out w' (HX_6.out.trans hJ.ext)) ?_
      rintro en w2 ⟨v9, rfl, h9, hx9⟩
      obtain ⟨A9, c9, hv9, -, -, h9'⟩ := h9.at_
      exact ⟨_, rfl, hk _ w2 (hJ.push hST hx9 (fun p hp => by cases hp; exact ⟨A9, c9, hv9, h9'⟩))⟩
    | 2, hp =>
      obtain rfl : 6 = c' := by simpa using hp
      simp only [List.getElem?_toArray, List.getElem?_cons_zero, List.getElem?_cons_succ, Option.some.injEq] at ho
      subst ho
      obtain ⟨u0, u1, rfl⟩ := list_2 hl
      have e63 := hF.link 0 2 63 _ rfl rfl rfl rfl
      obtain ⟨A9, c9, hu9, hq9⟩ : (fun (u : Value) (w : World) => ∃ A c, u = .slice A hen c ∧ EvsAt w A hen (srtE d.evs)) u0 w' := hJ.val 0 u0 _ rfl rfl
      have HK := Lib.hid (hk u0 w' (hJ.push hST (Ext.refl _) (fun p hp => by cases hp; exact ⟨A9, c9, hu9, hq9⟩)))
      clear hk hF hJ
      rw [hu9] at HK
      rw [hu9] at e63
      simp only [Act.eval] at e63
      go_simp
      exact HK.out
    | 3, hp =>
      obtain rfl : 7 = c' := by simpa using hp
      simp only [List.getElem?_toArray, List.getElem?_cons_zero, List.getElem?_cons_succ, Option.some.injEq] at ho
      subst ho
      obtain ⟨u0, u1, u2, rfl⟩ := list_3 hl
      have e66 := hF.link 1 5 66 _ rfl rfl rfl rfl
      obtain ⟨A9, c9, hu9, hq9⟩ : (fun (u : Value) (w : World) => ∃ A c, u = .slice A hen c ∧ EvsAt w A hen (srtE d.evs)) u1 w' := hJ.val 1 u1 _ rfl rfl
      have HK := Lib.hid (hk u1 w' (hJ.push hST (Ext.refl _) (fun p hp => by cases hp; exact ⟨A9, c9, hu9, hq9⟩)))
      clear hk hF hJ
      rw [hu9] at HK
      rw [hu9] at e66
      simp only [Act.eval] at e66
      go_simp
      exact HK.out
    | p + 4, hp => simp at hp
  intro us w94 hl hJ
  obtain ⟨u0, u1, u2, u3, rfl⟩ := list_4 hl
  first | (rename_i hK; refine hK _ _ ?_; clear hK) | (rename_i hK hK_1; refine hK _ _ ?_; clear hK) | (rename_i hK hK_1 hK_2; refine hK _ _ ?_; clear hK) | (rename_i hK hK_1 hK_2 hK_3; refine hK _ _ ?_; clear hK)
  generalize hL : frameL _ _ _ _ = L
  obtain rfl : L = [(61, .pointer (some ⟨w.heap.size, 6, none⟩)), (62, .slice hea hen hec), (63, u0), (64, .pointer (some ⟨w.heap.size, 6, none⟩)), (65, .slice hea hen hec), (66, u1), (9, u2), (10, u3)] := hL.symm.trans (by kernel_rfl)
  clear hL hl
  simp only [Act.put, List.foldl_cons, List.foldl_nil, List.setIfInBounds_toArray, List.set_cons_zero, List.set_cons_succ]
  obtain ⟨A4a, c4a, hu2, hq4a⟩ : (fun (u : Value) (w : World) => ∃ A c, u = .slice A hen c ∧ EvsAt w A hen (srtE d.evs)) u2 w94 := hJ.val 2 u2 _ rfl rfl
  obtain ⟨A4b, c4b, hu3, hq4b⟩ : (fun (u : Value) (w : World) => ∃ A c, u = .slice A hen c ∧ EvsAt w A hen (srtE d.evs)) u3 w94 := hJ.val 3 u3 _ rfl rfl
  subst hu2 hu3
  have hxJ := hJ.ext
  clear hJ
  have HX_8 := Lib.hid (HX_6.out.trans hxJ)
  have HB_9 := Lib.hid (HB_7.out.ext hxJ)
  have HF_10 := Lib.hid (HQ3a.out.ext hxJ)
  have HF_11 := Lib.hid (HQ3b.out.ext hxJ)
  clear hxJ HX_6 HB_7 HQ3a HQ3b
  have HQ4a := Lib.hid hq4a
  have HQ4b := Lib.hid hq4b
  clear hq4a hq4b
  go_wp2_with fail
  have hAL : (atL d.evs fr).length ≤ 1000000 := Nat.le_trans (at_len d.evs fr d.evs.length) (by rw [hLe]; exact hnE)
  generalize atL d.evs fr = AL at *
  have hn0 : AL.length = AL.length := rfl
  go_loopw [81] (fun i wr => ∃ k : Nat, k ≤ AL.length ∧ i = .int .i64 k ∧ Ext w94 wr) (fun i _ => AL.length - (intOf i).toNat)
  case atStart => exact ⟨0, Nat.zero_le _, rfl, Ext.refl _⟩
  case round =>
    obtain ⟨k, hk, rfl, hx⟩ := hrel
    by_cases hlt : k < AL.length
    · obtain ⟨b1, o1, x1, hA1, hx1, q1⟩ := (HF_10.out.ext hx).cell hlt
      obtain ⟨b2, o2, x2, hA2, hx2, q2⟩ := (HF_11.out.ext hx).cell hlt
      rw [hx1] at hx2
      obtain rfl := Option.some.inj hx2
      subst hA1 hA2
      clear hx1 hx2
      go_upto_region 10 with fail
      go_quiet (fail)
      go_wp2_with fail
      exact ⟨⟨k + 1, by omega, by go_num, hx.drewN _⟩, by simp [intOf]; omega⟩
    obtain rfl : k = AL.length := by omega
    clear hlt hk
    have HX_12 := Lib.hid (HX_8.out.trans hx)
    have HB_13 := Lib.hid (HB_9.out.ext hx)
    have HF_14 := Lib.hid (HF_10.out.ext hx)
    have HF_15 := Lib.hid (HF_11.out.ext hx)
    have HF_16 := Lib.hid (HQ4a.out.ext hx)
    have HF_17 := Lib.hid (HQ4b.out.ext hx)
    clear hx HX_8 HB_9 HF_10 HF_11 HQ4a HQ4b
    go_wp2_with fail
    have hsl : (srtE d.evs).length = hen := by unfold srtE; rw [Stb.sortS_len]; exact hLe
    generalize srtE d.evs = SL at *
    obtain ⟨wq, rfl⟩ : ∃ wq : World, wq = wr := ⟨_, rfl⟩
    go_loopw [96] (fun i wr => ∃ k : Nat, k ≤ hen ∧ i = .int .i64 k ∧ Ext wq wr) (fun i _ => hen - (intOf i).toNat)
    case atStart => exact ⟨0, Nat.zero_le _, rfl, Ext.refl _⟩
    case round =>
      obtain ⟨k, hk, rfl, hx⟩ := hrel
      by_cases hlt : k < hen
      · obtain ⟨b1, o1, x1, A1, n1, c1', hA1, hx1, hat1, c0, c1, c2, c3, c4, c5, c6⟩ := (HF_16.out.ext hx).at_ev hlt
        obtain ⟨b2, o2, x2, A2, n2, c2', hA2, hx2, hat2, d0, d1, d2, d3, d4, d5, d6⟩ := (HF_17.out.ext hx).at_ev hlt
        rw [hx1] at hx2
        obtain rfl := Option.some.inj hx2
        subst hA1 hA2
        have HSm := Lib.hid (fun (y : EW wr) => RESame_any x1 x1 A1 n1 c1' A2 n2 c2' y.w (hat1.ext y.ext) (hat2.ext y.ext))
        rw [decide_eq_true rfl] at HSm
        unfold Ev.cells at HSm
        clear hat1 hat2 hx1 hx2
        have hk0 : (0 : Int) ≤ (k : Int) := by omega
        have hk1 : (k : Int) < (hen : Int) := by omega
        go_upto_region 16 with fail
        have HXk := Lib.hid hx
        have hr_18 := fun (y : EW wr) => y.ext.cell c0
        have hr_19 := fun (y : EW wr) => y.ext.cell c1
        have hr_20 := fun (y : EW wr) => y.ext.cell c2
        have hr_21 := fun (y : EW wr) => y.ext.cell c3
        have hr_22 := fun (y : EW wr) => y.ext.cell c4
        have hr_23 := fun (y : EW wr) => y.ext.cell c5
        have hr_24 := fun (y : EW wr) => y.ext.cell c6
        have hr_25 := fun (y : EW wr) => y.ext.cell d0
        have hr_26 := fun (y : EW wr) => y.ext.cell d1
        have hr_27 := fun (y : EW wr) => y.ext.cell d2
        have hr_28 := fun (y : EW wr) => y.ext.cell d3
        have hr_29 := fun (y : EW wr) => y.ext.cell d4
        have hr_30 := fun (y : EW wr) => y.ext.cell d5
        have hr_31 := fun (y : EW wr) => y.ext.cell d6
        refine wp_region_ew wr (Ext.refl _) (by kernel_rfl) (by kernel_rfl) ?_
        repeat (go_big_quiet_step ((go_at_call 46; exact EW.calls _ (HSm.out _))))
        refine wpQuiet_nil ?_
        rintro w_32 ⟨⟨_, hx_33⟩, rfl⟩
        try dsimp only
        clear hr_18 hr_19 hr_20 hr_21 hr_22 hr_23 hr_24 hr_25 hr_26 hr_27 hr_28 hr_29 hr_30 hr_31
        have HX_34 := Lib.hid (HXk.out.trans hx_33)
        clear hx_33 HXk
        go_wp2_with fail
        exact ⟨⟨k + 1, by omega, by go_num, HX_34.out⟩, by simp [intOf]; omega⟩
      obtain rfl : k = hen := by omega
      clear hlt hk
      have HX_35 := Lib.hid (HX_12.out.trans hx)
      have HB_36 := Lib.hid (HB_13.out.ext hx)
      clear hx HX_12 HB_13
      have HN1 := Lib.hid (fun w' => DNew_any d.rate d.drop w' HR0.out HR1.out)
      have HN2 := Lib.hid (fun w' (hx : Ext w w') => R12New_any d.rate d.drop w' (HEn.out.ext hx) HR0.out HR1.out)
      have HSh : Hid (DocShort (newX d.rate d.drop).1) := newX_short _ _
      unfold DEPost at HN1 HN2
      generalize hC1 : (newX d.rate d.drop).1 = C at *
      generalize (newX d.rate d.drop).2 = ce at *
      clear hC1
      unfold Doc.cells at HN1 HN2
      have hc_37 := fun o => HB_36.out.cell o
      go_wp2_with fail
      clear hc_37
      refine (HN1.out _).mono ?_
      rintro en w_38 ⟨⟨ra13, rn13, rc13, ea13, en13, ec13, ca13, cn13, cc13⟩, rfl, ho13, hx_39⟩
      dsimp only
      have HO13 := Lib.hid ho13
      have HS13 := Lib.hid (ho13.short HSh.out)
      clear ho13
      have HX_40 := Lib.hid (HX_35.out.trans hx_39)
      have HB_41 := Lib.hid (HB_36.out.ext hx_39)
      clear hx_39 HX_35 HB_36
      have HB_42 := Lib.hid (Blk.new w_38 27 #[.string C.title, .string C.lang, .int .u8 C.rate, .bool C.drop, .int .i64 C.last, .slice ra13 rn13 rc13, .slice ea13 en13 ec13, .slice ca13 cn13 cc13])
      have ha_43 := (Ext.refl w_38).alloc (.cells #[.string C.title, .string C.lang, .int .u8 C.rate, .bool C.drop, .int .i64 C.last, .slice ra13 rn13 rc13, .slice ea13 en13 ec13, .slice ca13 cn13 cc13] 27)
      have HX_44 := Lib.hid (HX_40.out.trans ha_43)
      have HB_45 := Lib.hid (HB_41.out.ext ha_43)
      have HF_46 := Lib.hid (HO13.out.ext ha_43)
      clear ha_43 HX_40 HB_41 HO13
      have hc_47 := fun o => HB_45.out.cell o
      go_wp2_with fail
      clear hc_47
      refine (HN2.out _ HX_44.out).mono ?_
      rintro en w_48 ⟨⟨ra15, rn15, rc15, ea15, en15, ec15, ca15, cn15, cc15⟩, rfl, ho15, hx_49⟩
      dsimp only
      have HO15 := Lib.hid ho15
      have HS15 := Lib.hid (ho15.short HSh.out)
      clear ho15
      have HX_50 := Lib.hid (HX_44.out.trans hx_49)
      have HB_51 := Lib.hid (HB_45.out.ext hx_49)
      have HB_52 := Lib.hid (HB_42.out.ext hx_49)
      have HF_53 := Lib.hid (HF_46.out.ext hx_49)
      clear hx_49 HX_44 HB_45 HB_42 HF_46
      have HB_54 := Lib.hid (Blk.new w_48 27 #[.string C.title, .string C.lang, .int .u8 C.rate, .bool C.drop, .int .i64 C.last, .slice ra15 rn15 rc15, .slice ea15 en15 ec15, .slice ca15 cn15 cc15])
      have ha_55 := (Ext.refl w_48).alloc (.cells #[.string C.title, .string C.lang, .int .u8 C.rate, .bool C.drop, .int .i64 C.last, .slice ra15 rn15 rc15, .slice ea15 en15 ec15, .slice ca15 cn15 cc15] 27)
      have HX_56 := Lib.hid (HX_50.out.trans ha_55)
      have HB_57 := Lib.hid (HB_51.out.ext ha_55)
      have HB_58 := Lib.hid (HB_52.out.ext ha_55)
      have HF_59 := Lib.hid (HF_53.out.ext ha_55)
      have HF_60 := Lib.hid (HO15.out.ext ha_55)
      clear ha_55 HX_50 HB_51 HB_52 HF_53 HO15
      have HSn := Lib.hid (fun w' hx => R12Same_any C C ⟨ra13, rn13, rc13, ea13, en13, ec13, ca13, cn13, cc13⟩ ⟨ra15, rn15, rc15, ea15, en15, ec15, ca15, cn15, cc15⟩ w' (HF_59.out.at_.ext hx) (HF_60.out.at_.ext hx) HS13.out HS15.out)
      rw [sameDoc_self] at HSn
      unfold Doc.cells at HSn
      dsimp only at HSn
      have hc_61 := fun o => HB_58.out.cell o
      have hc_62 := fun o => HB_54.out.cell o
      go_wp2_with fail
      clear hc_61 hc_62
      refine (HSn.out _ (Ext.refl _)).mono ?_
      rintro en w_63 ⟨rfl, hx_64⟩
      go_wp2_with fail
      go_ret
      exact ⟨by simp, HX_56.out.trans hx_64⟩
end Go.Proofs.YtagfedbdakmlgaaGreatDoor

/-! OpenR -/
namespace Go.Proofs.YtagfedbdakmlgaaGreatDoor
set_option linter.unusedVariables false
set_option linter.unusedSimpArgs false
open Go.RowKit Go.ChangeShapes Go.WideShapes Go.ChangeAt
set_option maxRecDepth 100000
end Go.Proofs.YtagfedbdakmlgaaGreatDoor
