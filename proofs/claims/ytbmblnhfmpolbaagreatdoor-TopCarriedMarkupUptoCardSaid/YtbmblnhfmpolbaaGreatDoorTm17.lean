/- Texts laid together. -/
import Derived.Test.YtbmblnhfmpolbaaGreatDoorTm16
import Derived.Test.YtbmblnhfmpolbaaGreatDoorTm13
set_option linter.unusedVariables false
set_option linter.unusedSimpArgs false
namespace Go.Proofs.YtbmblnhfmpolbaaGreatDoor
section
open Go.RowKit
def colC : Array Value := #[.string ⟨#[119, 104, 105, 116, 101]⟩, .string ⟨#[103, 114, 101, 101, 110]⟩, .string ⟨#[98, 108, 117, 101]⟩, .string ⟨#[99, 121, 97, 110]⟩, .string ⟨#[114, 101, 100]⟩, .string ⟨#[121, 101, 108, 108, 111, 119]⟩, .string ⟨#[109, 97, 103, 101, 110, 116, 97]⟩]
def alnC : Array Value := #[.string ⟨#[76, 69, 70, 84]⟩, .string ⟨#[67, 69, 78, 84, 69, 82]⟩, .string ⟨#[82, 73, 71, 72, 84]⟩]
def ColW (w : World) : Prop := Blk w 1 84 colC
def AlnW (w : World) : Prop := Blk w 0 73 alnC
theorem aln_at {a : Int} (h1 : 1 ≤ a) (h3 : a ≤ 3) : alnC[a.toNat - 1]? = some (.string (alignS a)) := by
 have : a = 1 ∨ a = 2 ∨ a = 3 := by omega
 rcases this with rfl | rfl | rfl <;> rfl
theorem col_at {a : Int} (h1 : 1 ≤ a) (h3 : a ≤ 6) : colC[a.toNat]? = some (.string (colorS a)) := by
 have : a = 1 ∨ a = 2 ∨ a = 3 ∨ a = 4 ∨ a = 5 ∨ a = 6 := by omega
 rcases this with rfl | rfl | rfl | rfl | rfl | rfl <;> rfl
structure NdJ (V : List Value) (m N : Nat) (cells : Array Value) (W : World) (F : World → Prop) (us : List Value) (w : World) : Prop where
 val : ∀ (i : Nat) (v : Value), us[i]? = some v → i < m → V[i]? = some v
 ext : us.length ≤ m + 1 → Ext W w
 blk : us.length = m + 1 → ∃ g, us[m]? = some (.slice (some ⟨g, 0, none⟩) N N) ∧ Blk w g 69 cells
 fin : us.length = m + 2 → F w
section
variable {V : List Value} {m N : Nat} {cells : Array Value} {W w w2 : World} {F : World → Prop} {us : List Value} {v : Value}
theorem NdJ.start : NdJ V m N cells W F [] W.drew := ⟨fun i v h => by simp at h, fun _ => (Ext.refl W).drew, fun h => by simp at h, fun h => by simp at h⟩
theorem NdJ.call (h : NdJ V m N cells W F us w) (hl : us.length < m) (hv : V[us.length]? = some v) (hx : Ext w w2) : NdJ V m N cells W F (us ++ [v]) w2 := by
 refine ⟨fun i u hi him => ?_, fun _ => (h.ext (by omega)).trans hx, fun hl' => by simp at hl'; omega, fun hl' => by simp at hl'; omega⟩
 by_cases hiu : i < us.length
 · rw [List.getElem?_append_left hiu] at hi
   exact h.val i u hi him
 · have := (List.getElem?_eq_some_iff.1 hi).1
   simp at this
   obtain rfl : i = us.length := by omega
   rw [List.getElem?_append_right (Nat.le_refl _)] at hi
   simp at hi
   rw [← hi]; exact hv
theorem NdJ.build (h : NdJ V m N cells W F us w) (hl : us.length = m) : NdJ V m N cells W F (us ++ [.slice (some ⟨w.heap.size, 0, none⟩) N N]) (w.alloc (.cells cells 69)) := by
 refine ⟨fun i u hi him => ?_, fun _ => (h.ext (by omega)).alloc _, fun _ => ⟨_, by rw [List.getElem?_append_right (by omega), hl]; simp, Blk.new w _ _⟩, fun hl' => by simp at hl'; omega⟩
 rw [List.getElem?_append_left (by omega)] at hi
 exact h.val i u hi him
theorem NdJ.elem (h : NdJ V m N cells W F us w) (hl : us.length = m + 1) (hF : F w2) : NdJ V m N cells W F (us ++ [v]) w2 := by
 refine ⟨fun i u hi him => ?_, fun hl' => by simp at hl'; omega, fun hl' => by simp at hl'; omega, fun _ => hF⟩
 rw [List.getElem?_append_left (by omega)] at hi
 exact h.val i u hi him
end
theorem wp_call4X {P : Program} {o : Oper} {a : Act} {w : World} {K : Act → World → Prop} {Q : Exit → Act → World → Prop} {f : FuncId} {x1 x2 x3 x4 : Operand} {ts : Array TypeId} {v1 v2 v3 v4 : Value} (ho : o.op = .call { callee := .value (.func f), args := #[x1, x2, x3, x4], argTypes := ts })
 (h1 : a.eval x1 = v1) (h2 : a.eval x2 = v2) (h3 : a.eval x3 = v3) (h4 : a.eval x4 = v4) (hent : ∀ args w, (callFunc f args).run P w = .ok (.enter f args) w) {R : Ending → World → Prop} (hc : Calls P f #[v1, v2, v3, v4] w R) (h : ∀ en w', R en w' → ∃ r, en = .returned r ∧ K (a.put o.dst r) w') : o.wp P a w K Q := by
 have h' : Calls P f #[v1, v2, v3, v4] w (fun
  | .returned u, w'' => K (a.put o.dst u) w''
  | .panicked chain, w'' => Q (.panic chain) a w''
  | .outgrown, _ => LetsOut Q) := hc.mono fun en w' hr => by
  obtain ⟨u, rfl, hk⟩ := h en w' hr
  exact hk
 unfold Oper.wp execOp
 simp only [ho]
 have hev : a.eval (.func f) = .func (.func f) #[] #[] := rfl
 simp [resolve, invoke, hev, h1, h2, h3, h4, hent, Sem.run_bind, Deferred.ofValue]
 exact h'
theorem attrs_blk {w : World} {g n : Nat} {l : List (ByteArray × ByteArray)} {cs : Array Value} (hB : Blk w g 69 cs) (hc : cs = (l.flatMap attrVs).toArray) (hn : l.length = n) : AttrsAt w (some ⟨g, 0, none⟩) n l := by
 refine ⟨hn, fun _ => ⟨g, 0, rfl, fun i x hx j u hu => ?_⟩⟩
 have hj : j < 2 := by have := (List.getElem?_eq_some_iff.1 hu).1; simpa [attrVs] using this
 rw [Nat.zero_add, hB.cell, hc]
 have := flatMap_at attrVs 2 (fun _ => rfl) l i x j hx hj
 rw [hu] at this
 simpa using this
def ElF (W : World) (B b : Nat) (l : List Nd) (w : World) : Prop := TreeAt w B b l ∧ Below B W w ∧ KpT W w
def NrRel (W1 : World) (B b : Nat) (d : Doc) (n : Nat) (v : Value) (wr : World) : Prop :=
 ∃ (k : Nat) (l : List Nd), k ≤ n ∧ v = .int .i64 k ∧ TreeAt wr B b l ∧ Ext W1 wr ∧ W1.heap.size < wr.heap.size ∧ l ++ ((d.regs.drop k).map regN ++ evNs d.evs) = nodesL d
def NeRel (W1 : World) (B b : Nat) (d : Doc) (n : Nat) (v : Value) (wr : World) : Prop :=
 ∃ (k : Nat) (l : List Nd), k ≤ n ∧ v = .int .i64 k ∧ TreeAt wr B b l ∧ Ext W1 wr ∧ W1.heap.size < wr.heap.size ∧ l ++ evNs (d.evs.drop k) = nodesL d
def NwRel (W1 : World) (B b : Nat) (L : List Nd) (rows : List Row) (R : List Nd) (n : Nat) (v : Value) (wr : World) : Prop :=
 ∃ (k : Nat) (l : List Nd), k ≤ n ∧ v = .int .i64 k ∧ TreeAt wr B b l ∧ Ext W1 wr ∧ W1.heap.size < wr.heap.size ∧ l ++ (rowNs (rows.drop k) ++ R) = L
def NuRel (W1 : World) (B b : Nat) (L : List Nd) (row : Row) (R : List Nd) (n : Nat) (v : Value) (wr : World) : Prop :=
 ∃ (k : Nat) (l : List Nd), k ≤ n ∧ v = .int .i64 k ∧ TreeAt wr B b l ∧ Ext W1 wr ∧ W1.heap.size < wr.heap.size ∧ l ++ (runNs (row.drop k) ++ R) = L
theorem pre_len {l r L : List Nd} (h : l ++ r = L) (hL : L.length ≤ 8192) : l.length ≤ 1000000 := by
 have := congrArg List.length h
 rw [List.length_append] at this
 omega
theorem reg_at {w : World} {A : Option Addr} {n : Nat} {l : List Reg} (h : RegsAt w A n l) {i : Nat} (hi : i < n) : ∃ b off r, A = some ⟨b, off, none⟩ ∧ l[i]? = some r ∧ RegC w b (off + i * 7) r := h.at_ hi
theorem nDig_le : ∀ u : Nat, Lib.nDigits u ≤ u + 1 := by
 intro u
 induction u using Nat.strongRecOn with
 | _ u ih =>
  by_cases h : u < 10
  · rw [Lib.nDigits_small h]; omega
  · rw [Lib.nDigits_big h]
    have := ih (u / 10) (by omega)
    omega
theorem decS_le {n : Int} (h : 0 ≤ n) (h1 : n ≤ 1099511627776) : (decS n).size ≤ 1099511627777 := by
 have e : (decS n).size = Lib.nDigits n.toNat := by
  rw [← size_toList]
  unfold decS
  simp only [Lib.itoa]
  rw [if_neg (by omega)]
  exact Lib.decDigits_length _
 have := nDig_le n.toNat
 omega
set_option maxHeartbeats 8000000 in
set_option maxRecDepth 100000 in
theorem Nodes_ok (d : Doc) (h : DocH) (w : World) (hE : Env w) (hTb : TabX w) (hCo : ColW w) (hAl : AlnW w) (hat : DocAt w d h) (hf : DocFit d) (hrn : h.rn ≤ 4) (hn : h.en ≤ 4) (hcn : h.cn ≤ 9223372036854775807) (hz : d.err = 0) (hok : TmOk d) (hfew : (nodesL d).length ≤ 8192) :
 Calls Tryz.prog 8 #[.agg (d.cells h)] w fun e w' => ∃ v L, e = .returned (.tuple #[v, .int .i64 0]) ∧ w.heap.size ≤ L ∧ NodesOwn w' L v (nodesL d) ∧ Ext w w' := by
 have HX0 := Lib.hid ((Ext.refl w).alloc (.cells (d.cells h) 27))
 have HBd := Lib.hid (Blk.new w 27 (d.cells h))
 have HCk : Hid (∀ w', Ext w w' → Calls Tryz.prog 17 #[.agg (d.cells h)] w' fun en w2 => en = .returned (.int .i64 0) ∧ Ext w' w2) := fun w' hx => by
  have := DCheck_any d h w' (hE.ext hx) (hat.ext hx) hf (by omega) (by omega) hcn
  rwa [hz] at this
 have HNm := Lib.hid (fun w' => TName_any d.rate w' (by have := hok.rate.1; omega) (by have := hok.rate.2; omega))
 have HNu := Lib.hid (fun s n w' (hx : Ext w w') h0 h1 => number_any s n w' h0 h1 (hTb.ext hx))
 have HDe := Lib.hid (fun n w' (hx : Ext w w') (h0 : (0 : Int) ≤ n) (h1 : n ≤ 1099511627776) => DecimalX n w' (by omega) (by omega) (hTb.ext hx))
 have HCo := Lib.hid hCo
 have HAl := Lib.hid hAl
 have HRg := Lib.hid hat.regs
 have HEv := Lib.hid hat.evs
 have HRl := Lib.hid hat.regs.len
 have HEl := Lib.hid hat.evs.len
 have HOk := Lib.hid hok
 have HFw := Lib.hid hfew
 obtain ⟨L, hL⟩ : ∃ L, L = nodesL d := ⟨_, rfl⟩
 have HLe := Lib.hid hL
 clear hat hf hE hTb hCo hAl hok hfew hcn hL hz
 obtain ⟨ra, rn, rc, ea, en, ec, ca, cn, cc⟩ := h
 unfold Doc.cells at *
 dsimp only at *
 go_enter Tryz.func8, Tryz.ntmps8
 go_wp2_with (refine wpList_loadB rfl 27 (.tmp 1) rfl w.heap.size 27 _ _ (by exact rfl) (by exact HBd.out) Tryz.underlying27 rfl (by exact size_doc) ?_)
 refine (HCk.out _ HX0.out).mono ?_
 rintro e W1 ⟨rfl, hx1⟩
 have HX1 := Lib.hid (HX0.out.trans hx1)
 have HB1 := Lib.hid (HBd.out.ext hx1)
 clear hx1
 go_wp2_with fail
 obtain ⟨W2, hW2⟩ : ∃ W2, W2 = W1.alloc (.cells #[.slice none 0 0] 66) := ⟨_, rfl⟩
 have HTr : Hid (TreeAt W2 W1.heap.size W1.heap.size []) := by show TreeAt _ _ _ _; rw [hW2]; exact ⟨_, Blk.new W1 _ _, NodesOwn.nil _ _, Nat.le_refl _⟩
 have HX12 : Hid (Ext W1 W2) := by show Ext _ _; rw [hW2]; exact (Ext.refl W1).alloc _
 have HZ2 : Hid (W1.heap.size < W2.heap.size) := by show _ < _; rw [hW2]; simp
 have HX2 := Lib.hid (HX1.out.trans HX12.out)
 have HB2 := Lib.hid (HB1.out.ext HX12.out)
 rw [← hW2]
 clear hW2
 have HLs := Lib.hid HOk.out.last
 have hz2 := HZ2.out
 have hls0 := HLs.out.1
 have hls1 := HLs.out.2
 have hl0 : ([] : List Nd).length = 0 := rfl
 refine wp_region_linksR [some 21, some 22, some 23, some 24, some 25, some 26, some 27, some 28, some 29, some 30, some 31, some 32, some 33, some 34, some 35, some 36, some 37, some 38] [[], [0], [1], [], [3], [4], [], [6], [7], [8], [], [10], [11, 8], [], [13], [14, 12], [2, 5, 9, 12, 15], [16, 15]] [8, 12, 15, 16, 17] [.pointer (some ⟨w.heap.size, 0, none⟩), .string d.title, .agg #[.string ⟨#[116, 105, 116, 108, 101]⟩, .string d.title], .pointer (some ⟨w.heap.size, 1, none⟩), .string d.lang, .agg #[.string ⟨#[108, 97, 110, 103]⟩, .string d.lang], .pointer (some ⟨w.heap.size, 2, none⟩), .int .u8 d.rate, undef, .agg #[.string ⟨#[114, 97, 116, 101]⟩, .string (rName d.rate)], .pointer (some ⟨w.heap.size, 3, none⟩), .bool d.drop, undef, .pointer (some ⟨w.heap.size, 4, none⟩), .int .i64 d.last, undef, undef, undef] (NdJ [.string (rName d.rate), .agg #[.string ⟨#[100, 114, 111, 112]⟩, .string (flagS d.drop)], .agg #[.string ⟨#[108, 97, 115, 116]⟩, .string (decS d.last)]] 3 5 #[.string ⟨#[116, 105, 116, 108, 101]⟩, .string d.title, .string ⟨#[108, 97, 110, 103]⟩, .string d.lang, .string ⟨#[114, 97, 116, 101]⟩, .string (rName d.rate), .string ⟨#[100, 114, 111, 112]⟩, .string (flagS d.drop), .string ⟨#[108, 97, 115, 116]⟩, .string (decS d.last)] W2 (ElF W2 W1.heap.size W1.heap.size ([] ++ [elN sTt (ttA d) 0]))) (by kernel_rfl) (by kernel_rfl) (by kernel_rfl) (by kernel_rfl) (by kernel_rfl) (by kernel_rfl) (by kernel_rfl) (by decide) ?_ ?_ ?_ ?_
 · exact NdJ.start
 · intro i o ho hc a w' us K' hJ hF hlim hk
   match i, ho with
   | 0, ho =>
    simp only [List.getElem?_toArray, List.getElem?_cons_zero, List.getElem?_cons_succ, Option.some.injEq] at ho
    subst ho
    have e1 := hF.old 1 (.pointer (some ⟨w.heap.size, 0, none⟩)) rfl rfl
    simp only [Act.eval] at e1
    clear hF hlim hJ
    go_simp
    exact hk
   | 1, ho =>
    simp only [List.getElem?_toArray, List.getElem?_cons_zero, List.getElem?_cons_succ, Option.some.injEq] at ho
    subst ho
    have e21 := hF.pure 0 21 (.pointer (some ⟨w.heap.size, 0, none⟩)) rfl rfl rfl rfl
    have hcl := (HB2.out.ext (hJ.ext (hlim 4 17 rfl (by kernel_rfl)))).cell 0
    simp only [List.getElem?_toArray, List.getElem?_cons_zero, List.getElem?_cons_succ] at hcl
    simp only [Act.eval] at e21
    clear hF hlim hJ
    go_simp
    exact hk
   | 2, ho =>
    simp only [List.getElem?_toArray, List.getElem?_cons_zero, List.getElem?_cons_succ, Option.some.injEq] at ho
    subst ho
    have e22 := hF.pure 1 22 (.string d.title) rfl rfl rfl rfl
    simp [Act.eval] at e22
    clear hF hlim hJ
    go_simp
    exact hk
   | 3, ho =>
    simp only [List.getElem?_toArray, List.getElem?_cons_zero, List.getElem?_cons_succ, Option.some.injEq] at ho
    subst ho
    have e1 := hF.old 1 (.pointer (some ⟨w.heap.size, 0, none⟩)) rfl rfl
    simp only [Act.eval] at e1
    clear hF hlim hJ
    go_simp
    exact hk
   | 4, ho =>
    simp only [List.getElem?_toArray, List.getElem?_cons_zero, List.getElem?_cons_succ, Option.some.injEq] at ho
    subst ho
    have e24 := hF.pure 3 24 (.pointer (some ⟨w.heap.size, 1, none⟩)) rfl rfl rfl rfl
    have hcl := (HB2.out.ext (hJ.ext (hlim 4 17 rfl (by kernel_rfl)))).cell 1
    simp only [List.getElem?_toArray, List.getElem?_cons_zero, List.getElem?_cons_succ] at hcl
    simp only [Act.eval] at e24
    clear hF hlim hJ
    go_simp
    exact hk
   | 5, ho =>
    simp only [List.getElem?_toArray, List.getElem?_cons_zero, List.getElem?_cons_succ, Option.some.injEq] at ho
    subst ho
    have e25 := hF.pure 4 25 (.string d.lang) rfl rfl rfl rfl
    simp [Act.eval] at e25
    clear hF hlim hJ
    go_simp
    exact hk
   | 6, ho =>
    simp only [List.getElem?_toArray, List.getElem?_cons_zero, List.getElem?_cons_succ, Option.some.injEq] at ho
    subst ho
    have e1 := hF.old 1 (.pointer (some ⟨w.heap.size, 0, none⟩)) rfl rfl
    simp only [Act.eval] at e1
    clear hF hlim hJ
    go_simp
    exact hk
   | 7, ho =>
    simp only [List.getElem?_toArray, List.getElem?_cons_zero, List.getElem?_cons_succ, Option.some.injEq] at ho
    subst ho
    have e27 := hF.pure 6 27 (.pointer (some ⟨w.heap.size, 2, none⟩)) rfl rfl rfl rfl
    have hcl := (HB2.out.ext (hJ.ext (hlim 4 17 rfl (by kernel_rfl)))).cell 2
    simp only [List.getElem?_toArray, List.getElem?_cons_zero, List.getElem?_cons_succ] at hcl
    simp only [Act.eval] at e27
    clear hF hlim hJ
    go_simp
    exact hk
   | 8, ho => simp at hc
   | 9, ho =>
    simp only [List.getElem?_toArray, List.getElem?_cons_zero, List.getElem?_cons_succ, Option.some.injEq] at ho
    subst ho
    obtain ⟨v29, hv29⟩ := getElem_ltq (hF.did 0 8 rfl rfl)
    have e29 := hF.link 0 8 29 _ rfl rfl rfl hv29
    obtain rfl := Option.some.inj (hJ.val 0 _ hv29 (by decide))
    simp [Act.eval] at e29
    clear hF hlim hJ
    go_simp
    exact hk
   | 10, ho =>
    simp only [List.getElem?_toArray, List.getElem?_cons_zero, List.getElem?_cons_succ, Option.some.injEq] at ho
    subst ho
    have e1 := hF.old 1 (.pointer (some ⟨w.heap.size, 0, none⟩)) rfl rfl
    simp only [Act.eval] at e1
    clear hF hlim hJ
    go_simp
    exact hk
   | 11, ho =>
    simp only [List.getElem?_toArray, List.getElem?_cons_zero, List.getElem?_cons_succ, Option.some.injEq] at ho
    subst ho
    have e31 := hF.pure 10 31 (.pointer (some ⟨w.heap.size, 3, none⟩)) rfl rfl rfl rfl
    have hcl := (HB2.out.ext (hJ.ext (hlim 4 17 rfl (by kernel_rfl)))).cell 3
    simp only [List.getElem?_toArray, List.getElem?_cons_zero, List.getElem?_cons_succ] at hcl
    simp only [Act.eval] at e31
    clear hF hlim hJ
    go_simp
    exact hk
   | 12, ho => simp at hc
   | 13, ho =>
    simp only [List.getElem?_toArray, List.getElem?_cons_zero, List.getElem?_cons_succ, Option.some.injEq] at ho
    subst ho
    have e1 := hF.old 1 (.pointer (some ⟨w.heap.size, 0, none⟩)) rfl rfl
    simp only [Act.eval] at e1
    clear hF hlim hJ
    go_simp
    exact hk
   | 14, ho =>
    simp only [List.getElem?_toArray, List.getElem?_cons_zero, List.getElem?_cons_succ, Option.some.injEq] at ho
    subst ho
    have e34 := hF.pure 13 34 (.pointer (some ⟨w.heap.size, 4, none⟩)) rfl rfl rfl rfl
    have hcl := (HB2.out.ext (hJ.ext (hlim 4 17 rfl (by kernel_rfl)))).cell 4
    simp only [List.getElem?_toArray, List.getElem?_cons_zero, List.getElem?_cons_succ] at hcl
    simp only [Act.eval] at e34
    clear hF hlim hJ
    go_simp
    exact hk
   | 15, ho => simp at hc
   | 16, ho => simp at hc
   | 17, ho => simp at hc
   | i + 18, ho => simp at ho
 · intro p c' o hp ho a w' us K' hl hJ hF hk
   match p, hp with
   | 0, hp =>
    obtain rfl : 8 = c' := by simpa using hp
    simp only [List.getElem?_toArray, List.getElem?_cons_zero, List.getElem?_cons_succ, Option.some.injEq] at ho
    subst ho
    obtain rfl : us = [] := List.eq_nil_of_length_eq_zero hl
    have e28 := hF.pure 7 28 (.int .u8 d.rate) rfl rfl rfl rfl
    exact wp_call1 rfl e28 Tryz.call19 (HNm.out w') (fun en w5 h5 => ⟨_, h5.1, hk _ w5 (hJ.call (by simp) rfl h5.2)⟩)
   | 1, hp =>
    obtain rfl : 12 = c' := by simpa using hp
    simp only [List.getElem?_toArray, List.getElem?_cons_zero, List.getElem?_cons_succ, Option.some.injEq] at ho
    subst ho
    obtain ⟨u0, rfl⟩ := list_1 hl
    have e32 := hF.pure 11 32 (.bool d.drop) rfl rfl rfl rfl
    exact wp_call2X rfl rfl e32 Tryz.call20 (flag_any _ _ w') (fun en w5 h5 => ⟨_, h5.1, hk _ w5 (hJ.call (by simp) rfl h5.2)⟩)
   | 2, hp =>
    obtain rfl : 15 = c' := by simpa using hp
    simp only [List.getElem?_toArray, List.getElem?_cons_zero, List.getElem?_cons_succ, Option.some.injEq] at ho
    subst ho
    obtain ⟨u0, u1, rfl⟩ := list_2 hl
    have e35 := hF.pure 14 35 (.int .i64 d.last) rfl rfl rfl rfl
    exact wp_call2X rfl rfl e35 Tryz.call21 (HNu.out _ _ w' (HX2.out.trans (hJ.ext (by simp))) (by omega) (by omega)) (fun en w5 h5 => ⟨_, h5.1, hk _ w5 (hJ.call (by simp) rfl h5.2)⟩)
   | 3, hp =>
    obtain rfl : 16 = c' := by simpa using hp
    simp only [List.getElem?_toArray, List.getElem?_cons_zero, List.getElem?_cons_succ, Option.some.injEq] at ho
    subst ho
    obtain ⟨u0, u1, u2, rfl⟩ := list_3 hl
    obtain rfl := Option.some.inj (hJ.val 0 _ rfl (by decide))
    obtain rfl := Option.some.inj (hJ.val 1 _ rfl (by decide))
    obtain rfl := Option.some.inj (hJ.val 2 _ rfl (by decide))
    have e23 := hF.pure 2 23 (.agg #[.string ⟨#[116, 105, 116, 108, 101]⟩, .string d.title]) rfl rfl rfl rfl
    have e26 := hF.pure 5 26 (.agg #[.string ⟨#[108, 97, 110, 103]⟩, .string d.lang]) rfl rfl rfl rfl
    have e30 := hF.pure 9 30 (.agg #[.string ⟨#[114, 97, 116, 101]⟩, .string (rName d.rate)]) rfl rfl rfl rfl
    have e33 := hF.link 1 12 33 _ rfl rfl rfl rfl
    have e36 := hF.link 2 15 36 _ rfl rfl rfl rfl
    have HK := Lib.hid (hk (.slice (some ⟨w'.heap.size, 0, none⟩) 5 5) (w'.alloc (.cells #[.string ⟨#[116, 105, 116, 108, 101]⟩, .string d.title, .string ⟨#[108, 97, 110, 103]⟩, .string d.lang, .string ⟨#[114, 97, 116, 101]⟩, .string (rName d.rate), .string ⟨#[100, 114, 111, 112]⟩, .string (flagS d.drop), .string ⟨#[108, 97, 115, 116]⟩, .string (decS d.last)] 69)) (hJ.build rfl))
    simp [Act.eval] at e23 e26 e30 e33 e36
    clear hk hF hJ
    go_simp
    exact HK.out
   | 4, hp =>
    obtain rfl : 17 = c' := by simpa using hp
    simp only [List.getElem?_toArray, List.getElem?_cons_zero, List.getElem?_cons_succ, Option.some.injEq] at ho
    subst ho
    obtain ⟨u0, u1, u2, u3, rfl⟩ := list_4 hl
    obtain ⟨gB, hgB, hBl⟩ := hJ.blk rfl
    obtain rfl := (Option.some.inj hgB).symm
    have hxJ := hJ.ext (by simp)
    have e5 := hF.old 5 (.pointer (some ⟨W1.heap.size, 0, none⟩)) rfl rfl
    have e37 := hF.link 3 16 37 _ rfl rfl rfl rfl
    exact wp_call4X rfl e5 rfl rfl e37 Tryz.call18 (element_any W1.heap.size W1.heap.size ([]) 0 sTt (some ⟨gB, 0, none⟩) 5 5 ((ttA d)) w' (HTr.out.ext hxJ) (attrs_blk hBl rfl rfl) (by decide) (by omega)) (fun en w5 h5 => ⟨_, h5.1, hk _ w5 (hJ.elem rfl ⟨h5.2.1, Below.trans (Below.mono hxJ (by omega)) h5.2.2.1, (KpT.ext hxJ).trans h5.2.2.2⟩)⟩)
   | p + 5, hp => simp at hp
 intro us w8 hl hJ
 obtain ⟨u0, u1, u2, u3, u4, rfl⟩ := list_5 hl
 first | (rename_i hK; refine hK _ _ ?_; clear hK) | (rename_i hK hK_1; refine hK _ _ ?_; clear hK) | (rename_i hK hK_1 hK_2; refine hK _ _ ?_; clear hK) | (rename_i hK hK_1 hK_2 hK_3; refine hK _ _ ?_; clear hK)
 generalize hL : frameL _ _ _ _ = L
 obtain rfl : L = [(21, .pointer (some ⟨w.heap.size, 0, none⟩)), (22, .string d.title), (23, .agg #[.string ⟨#[116, 105, 116, 108, 101]⟩, .string d.title]), (24, .pointer (some ⟨w.heap.size, 1, none⟩)), (25, .string d.lang), (26, .agg #[.string ⟨#[108, 97, 110, 103]⟩, .string d.lang]), (27, .pointer (some ⟨w.heap.size, 2, none⟩)), (28, .int .u8 d.rate), (29, u0), (30, .agg #[.string ⟨#[114, 97, 116, 101]⟩, .string (rName d.rate)]), (31, .pointer (some ⟨w.heap.size, 3, none⟩)), (32, .bool d.drop), (33, u1), (34, .pointer (some ⟨w.heap.size, 4, none⟩)), (35, .int .i64 d.last), (36, u2), (37, u3), (38, u4)] := hL.symm.trans (by kernel_rfl)
 clear hL hl
 simp only [Act.put, List.foldl_cons, List.foldl_nil, List.setIfInBounds_toArray, List.set_cons_zero, List.set_cons_succ]
 have hF := hJ.fin rfl
 have HT8 := Lib.hid hF.1
 have HX8 := Lib.hid (HX12.out.below hF.2.1 (Nat.le_refl _))
 have HZ8 : Hid (W1.heap.size < w8.heap.size) := by show _ < _; have := hF.2.1.size; omega
 have HB8 := Lib.hid (HB1.out.ext HX8.out)
 have hc8 := fun o => HB8.out.cell o
 clear hJ hF
 go_wp2_with fail
 clear hc8
 go_loopw [42] (fun v wr => NrRel W1 W1.heap.size W1.heap.size d rn v wr) (fun v _ => rn - (intOf v).toNat)
 case atStart => exact ⟨0, _, Nat.zero_le _, rfl, HT8.out, HX8.out, HZ8.out, rfl⟩
 case round =>
  obtain ⟨k, l, hk, rfl, ht, hx, hz, heq⟩ := hrel
  have HT := Lib.hid ht
  have HX := Lib.hid hx
  clear ht hx
  by_cases hlt : k < rn
  · obtain ⟨b, off, r, rfl, hr, c0, c1, c2, c3, c4, c5, c6⟩ := reg_at (HRg.out.ext (HX1.out.trans HX.out)) hlt
    have hrk := HOk.out.regs r (List.mem_of_getElem? hr)
    have hrt := hrk.top
    have hrh := hrk.height
    have hrl := hrk.left
    have hrw := hrk.width
    have hra := hrk.align
    have hlen := pre_len (heq.trans HLe.out.symm) (by rw [HLe.out]; exact HFw.out)
    rw [drop_at d.regs k r hr, List.map_cons, List.cons_append] at heq
    have HEq := Lib.hid heq
    have halq := aln_at hra.1 hra.2
    clear heq hr hrk
    obtain ⟨nm, tp, hgt, lf, wd, al, bt⟩ := r
    dsimp only at *
    have HBr := Lib.hid (Blk.new wr 53 #[.string nm, .int .i64 tp, .int .i64 hgt, .int .i64 lf, .int .i64 wd, .int .u8 al, .bool bt])
    have HXr := Lib.hid ((Ext.refl wr).alloc (.cells #[.string nm, .int .i64 tp, .int .i64 hgt, .int .i64 lf, .int .i64 wd, .int .u8 al, .bool bt] 53))
    have hcr := fun o => HBr.out.cell o
    have HAlr : Hid (∀ w', Ext wr w' → w'.cell? ⟨0, al.toNat - 1, none⟩ = some (.string (alignS al))) := fun w' hx' => by
     have : Blk w' 0 73 alnC := Blk.ext HAl.out (HX1.out.trans (HX.out.trans hx'))
     rw [this.cell]; exact halq
    clear halq
    have HWr : Hid (IntKind.u8.wrap (al - 1) = al - 1) := by
     have : al = 1 ∨ al = 2 ∨ al = 3 := by omega
     show _ = _
     rcases this with rfl | rfl | rfl <;> rfl
    rcases Bool.eq_false_or_eq_true bt with hb | hb
    all_goals
     go_wp2_with fail
     first | rw [show (⟨#[84, 79, 80]⟩ : ByteArray) = anchorS bt by rw [hb]; rfl] | rw [show (⟨#[66, 79, 84, 84, 79, 77]⟩ : ByteArray) = anchorS bt by rw [hb]; rfl]
     obtain ⟨W3, hW3⟩ : ∃ W3, W3 = wr.alloc (.cells #[.string nm, .int .i64 tp, .int .i64 hgt, .int .i64 lf, .int .i64 wd, .int .u8 al, .bool bt] 53) := ⟨_, rfl⟩
     rw [hb] at HBr HXr hW3
     rw [← hW3] at HBr HXr ⊢
     clear hcr hW3 hb
     obtain ⟨gr, hgr⟩ : ∃ gr, gr = wr.heap.size := ⟨_, rfl⟩
     rw [← hgr] at HBr ⊢
     have hz3 : W1.heap.size < W3.heap.size := by have := HXr.out.size; omega
     clear hgr
     have HX3 := Lib.hid (HX1.out.trans (HX.out.trans HXr.out))
     refine wp_region_linksR [some 48, some 49, some 50, some 51, some 52, some 53, some 54, some 55, some 56, some 57, some 58, some 59, some 60, some 61, some 62, some 63, some 64, some 65, some 66, some 67, some 68, some 69, some 70, some 71, some 72] [[], [0], [1], [], [3], [4], [], [6], [7, 5], [], [9], [10, 8], [], [12], [13, 11], [], [15], [16], [17], [18], [19], [], [21], [2, 5, 8, 11, 14, 20, 22], [23, 14]] [5, 8, 11, 14, 23, 24] [.pointer (some ⟨gr, 0, none⟩), .string nm, .agg #[.string ⟨#[110, 97, 109, 101]⟩, .string nm], .pointer (some ⟨gr, 1, none⟩), .int .i64 tp, undef, .pointer (some ⟨gr, 2, none⟩), .int .i64 hgt, undef, .pointer (some ⟨gr, 3, none⟩), .int .i64 lf, undef, .pointer (some ⟨gr, 4, none⟩), .int .i64 wd, undef, .pointer (some ⟨gr, 5, none⟩), .int .u8 al, .int .u8 (al - 1), .pointer (some ⟨0, al.toNat - 1, none⟩), .string (alignS al), .agg #[.string ⟨#[97, 108, 105, 103, 110]⟩, .string (alignS al)], .string (anchorS bt), .agg #[.string ⟨#[97, 110, 99, 104, 111, 114]⟩, .string (anchorS bt)], undef, undef] (NdJ [.agg #[.string ⟨#[116, 111, 112]⟩, .string (decS tp)], .agg #[.string ⟨#[104, 101, 105, 103, 104, 116]⟩, .string (decS hgt)], .agg #[.string ⟨#[108, 101, 102, 116]⟩, .string (decS lf)], .agg #[.string ⟨#[119, 105, 100, 116, 104]⟩, .string (decS wd)]] 4 7 #[.string ⟨#[110, 97, 109, 101]⟩, .string nm, .string ⟨#[116, 111, 112]⟩, .string (decS tp), .string ⟨#[104, 101, 105, 103, 104, 116]⟩, .string (decS hgt), .string ⟨#[108, 101, 102, 116]⟩, .string (decS lf), .string ⟨#[119, 105, 100, 116, 104]⟩, .string (decS wd), .string ⟨#[97, 108, 105, 103, 110]⟩, .string (alignS al), .string ⟨#[97, 110, 99, 104, 111, 114]⟩, .string (anchorS bt)] W3 (ElF W3 W1.heap.size W1.heap.size (l ++ [elN sRegion (regA ⟨nm, tp, hgt, lf, wd, al, bt⟩) 1]))) (by kernel_rfl) (by kernel_rfl) (by kernel_rfl) (by kernel_rfl) (by kernel_rfl) (by kernel_rfl) (by kernel_rfl) (by decide) ?_ ?_ ?_ ?_
     · exact NdJ.start
     · intro i o ho hc a w' us K' hJ hF hlim hk
       match i, ho with
       | 0, ho =>
        simp only [List.getElem?_toArray, List.getElem?_cons_zero, List.getElem?_cons_succ, Option.some.injEq] at ho
        subst ho
        have e7 := hF.old 7 (.pointer (some ⟨gr, 0, none⟩)) rfl rfl
        simp only [Act.eval] at e7
        clear hF hlim hJ
        go_simp
        exact hk
       | 1, ho =>
        simp only [List.getElem?_toArray, List.getElem?_cons_zero, List.getElem?_cons_succ, Option.some.injEq] at ho
        subst ho
        have e48 := hF.pure 0 48 (.pointer (some ⟨gr, 0, none⟩)) rfl rfl rfl rfl
        have hcl := (HBr.out.ext (hJ.ext (hlim 5 24 rfl (by kernel_rfl)))).cell 0
        simp only [List.getElem?_toArray, List.getElem?_cons_zero, List.getElem?_cons_succ] at hcl
        simp only [Act.eval] at e48
        clear hF hlim hJ
        go_simp
        exact hk
       | 2, ho =>
        simp only [List.getElem?_toArray, List.getElem?_cons_zero, List.getElem?_cons_succ, Option.some.injEq] at ho
        subst ho
        have e49 := hF.pure 1 49 (.string nm) rfl rfl rfl rfl
        simp [Act.eval] at e49
        clear hF hlim hJ
        go_simp
        exact hk
       | 3, ho =>
        simp only [List.getElem?_toArray, List.getElem?_cons_zero, List.getElem?_cons_succ, Option.some.injEq] at ho
        subst ho
        have e7 := hF.old 7 (.pointer (some ⟨gr, 0, none⟩)) rfl rfl
        simp only [Act.eval] at e7
        clear hF hlim hJ
        go_simp
        exact hk
       | 4, ho =>
        simp only [List.getElem?_toArray, List.getElem?_cons_zero, List.getElem?_cons_succ, Option.some.injEq] at ho
        subst ho
        have e51 := hF.pure 3 51 (.pointer (some ⟨gr, 1, none⟩)) rfl rfl rfl rfl
        have hcl := (HBr.out.ext (hJ.ext (hlim 5 24 rfl (by kernel_rfl)))).cell 1
        simp only [List.getElem?_toArray, List.getElem?_cons_zero, List.getElem?_cons_succ] at hcl
        simp only [Act.eval] at e51
        clear hF hlim hJ
        go_simp
        exact hk
       | 5, ho => simp at hc
       | 6, ho =>
        simp only [List.getElem?_toArray, List.getElem?_cons_zero, List.getElem?_cons_succ, Option.some.injEq] at ho
        subst ho
        have e7 := hF.old 7 (.pointer (some ⟨gr, 0, none⟩)) rfl rfl
        simp only [Act.eval] at e7
        clear hF hlim hJ
        go_simp
        exact hk
       | 7, ho =>
        simp only [List.getElem?_toArray, List.getElem?_cons_zero, List.getElem?_cons_succ, Option.some.injEq] at ho
        subst ho
        have e54 := hF.pure 6 54 (.pointer (some ⟨gr, 2, none⟩)) rfl rfl rfl rfl
        have hcl := (HBr.out.ext (hJ.ext (hlim 5 24 rfl (by kernel_rfl)))).cell 2
        simp only [List.getElem?_toArray, List.getElem?_cons_zero, List.getElem?_cons_succ] at hcl
        simp only [Act.eval] at e54
        clear hF hlim hJ
        go_simp
        exact hk
       | 8, ho => simp at hc
       | 9, ho =>
        simp only [List.getElem?_toArray, List.getElem?_cons_zero, List.getElem?_cons_succ, Option.some.injEq] at ho
        subst ho
        have e7 := hF.old 7 (.pointer (some ⟨gr, 0, none⟩)) rfl rfl
        simp only [Act.eval] at e7
        clear hF hlim hJ
        go_simp
        exact hk
       | 10, ho =>
        simp only [List.getElem?_toArray, List.getElem?_cons_zero, List.getElem?_cons_succ, Option.some.injEq] at ho
        subst ho
        have e57 := hF.pure 9 57 (.pointer (some ⟨gr, 3, none⟩)) rfl rfl rfl rfl
        have hcl := (HBr.out.ext (hJ.ext (hlim 5 24 rfl (by kernel_rfl)))).cell 3
        simp only [List.getElem?_toArray, List.getElem?_cons_zero, List.getElem?_cons_succ] at hcl
        simp only [Act.eval] at e57
        clear hF hlim hJ
        go_simp
        exact hk
       | 11, ho => simp at hc
       | 12, ho =>
        simp only [List.getElem?_toArray, List.getElem?_cons_zero, List.getElem?_cons_succ, Option.some.injEq] at ho
        subst ho
        have e7 := hF.old 7 (.pointer (some ⟨gr, 0, none⟩)) rfl rfl
        simp only [Act.eval] at e7
        clear hF hlim hJ
        go_simp
        exact hk
       | 13, ho =>
        simp only [List.getElem?_toArray, List.getElem?_cons_zero, List.getElem?_cons_succ, Option.some.injEq] at ho
        subst ho
        have e60 := hF.pure 12 60 (.pointer (some ⟨gr, 4, none⟩)) rfl rfl rfl rfl
        have hcl := (HBr.out.ext (hJ.ext (hlim 5 24 rfl (by kernel_rfl)))).cell 4
        simp only [List.getElem?_toArray, List.getElem?_cons_zero, List.getElem?_cons_succ] at hcl
        simp only [Act.eval] at e60
        clear hF hlim hJ
        go_simp
        exact hk
       | 14, ho => simp at hc
       | 15, ho =>
        simp only [List.getElem?_toArray, List.getElem?_cons_zero, List.getElem?_cons_succ, Option.some.injEq] at ho
        subst ho
        have e7 := hF.old 7 (.pointer (some ⟨gr, 0, none⟩)) rfl rfl
        simp only [Act.eval] at e7
        clear hF hlim hJ
        go_simp
        exact hk
       | 16, ho =>
        simp only [List.getElem?_toArray, List.getElem?_cons_zero, List.getElem?_cons_succ, Option.some.injEq] at ho
        subst ho
        have e63 := hF.pure 15 63 (.pointer (some ⟨gr, 5, none⟩)) rfl rfl rfl rfl
        have hcl := (HBr.out.ext (hJ.ext (hlim 5 24 rfl (by kernel_rfl)))).cell 5
        simp only [List.getElem?_toArray, List.getElem?_cons_zero, List.getElem?_cons_succ] at hcl
        simp only [Act.eval] at e63
        clear hF hlim hJ
        go_simp
        exact hk
       | 17, ho =>
        simp only [List.getElem?_toArray, List.getElem?_cons_zero, List.getElem?_cons_succ, Option.some.injEq] at ho
        subst ho
        have e64 := hF.pure 16 64 (.int .u8 al) rfl rfl rfl rfl
        simp [Act.eval] at e64
        clear hF hlim hJ
        go_simp
        rw [HWr.out]
        exact hk
       | 18, ho =>
        simp only [List.getElem?_toArray, List.getElem?_cons_zero, List.getElem?_cons_succ, Option.some.injEq] at ho
        subst ho
        have e65 := hF.pure 17 65 (.int .u8 (al - 1)) rfl rfl rfl rfl
        simp [Act.eval] at e65
        clear hF hlim hJ
        have hal3 : al - 1 < 3 := by omega
        go_simp
        exact hk
       | 19, ho =>
        simp only [List.getElem?_toArray, List.getElem?_cons_zero, List.getElem?_cons_succ, Option.some.injEq] at ho
        subst ho
        have e66 := hF.pure 18 66 (.pointer (some ⟨0, al.toNat - 1, none⟩)) rfl rfl rfl rfl
        have hcl := HAlr.out w' (HXr.out.trans (hJ.ext (hlim 5 24 rfl (by kernel_rfl))))
        simp [Act.eval] at e66
        clear hF hlim hJ
        go_simp
        exact hk
       | 20, ho =>
        simp only [List.getElem?_toArray, List.getElem?_cons_zero, List.getElem?_cons_succ, Option.some.injEq] at ho
        subst ho
        have e67 := hF.pure 19 67 (.string (alignS al)) rfl rfl rfl rfl
        simp [Act.eval] at e67
        clear hF hlim hJ
        go_simp
        exact hk
       | 21, ho =>
        simp only [List.getElem?_toArray, List.getElem?_cons_zero, List.getElem?_cons_succ, Option.some.injEq] at ho
        subst ho
        have e8 := hF.old 8 (.string (anchorS bt)) rfl rfl
        simp only [Act.eval] at e8
        clear hF hlim hJ
        go_simp
        exact hk
       | 22, ho =>
        simp only [List.getElem?_toArray, List.getElem?_cons_zero, List.getElem?_cons_succ, Option.some.injEq] at ho
        subst ho
        have e69 := hF.pure 21 69 (.string (anchorS bt)) rfl rfl rfl rfl
        simp [Act.eval] at e69
        clear hF hlim hJ
        go_simp
        exact hk
       | 23, ho => simp at hc
       | 24, ho => simp at hc
       | i + 25, ho => simp at ho
     · intro p c' o hp ho a w' us K' hl hJ hF hk
       match p, hp with
       | 0, hp =>
        obtain rfl : 5 = c' := by simpa using hp
        simp only [List.getElem?_toArray, List.getElem?_cons_zero, List.getElem?_cons_succ, Option.some.injEq] at ho
        subst ho
        obtain rfl : us = [] := List.eq_nil_of_length_eq_zero hl
        have e52 := hF.pure 4 52 (.int .i64 tp) rfl rfl rfl rfl
        exact wp_call2X rfl rfl e52 Tryz.call21 (HNu.out _ _ w' (HX3.out.trans (hJ.ext (by simp))) (by omega) (by omega)) (fun en w5 h5 => ⟨_, h5.1, hk _ w5 (hJ.call (by simp) rfl h5.2)⟩)
       | 1, hp =>
        obtain rfl : 8 = c' := by simpa using hp
        simp only [List.getElem?_toArray, List.getElem?_cons_zero, List.getElem?_cons_succ, Option.some.injEq] at ho
        subst ho
        obtain ⟨u0, rfl⟩ := list_1 hl
        have e55 := hF.pure 7 55 (.int .i64 hgt) rfl rfl rfl rfl
        exact wp_call2X rfl rfl e55 Tryz.call21 (HNu.out _ _ w' (HX3.out.trans (hJ.ext (by simp))) (by omega) (by omega)) (fun en w5 h5 => ⟨_, h5.1, hk _ w5 (hJ.call (by simp) rfl h5.2)⟩)
       | 2, hp =>
        obtain rfl : 11 = c' := by simpa using hp
        simp only [List.getElem?_toArray, List.getElem?_cons_zero, List.getElem?_cons_succ, Option.some.injEq] at ho
        subst ho
        obtain ⟨u0, u1, rfl⟩ := list_2 hl
        have e58 := hF.pure 10 58 (.int .i64 lf) rfl rfl rfl rfl
        exact wp_call2X rfl rfl e58 Tryz.call21 (HNu.out _ _ w' (HX3.out.trans (hJ.ext (by simp))) (by omega) (by omega)) (fun en w5 h5 => ⟨_, h5.1, hk _ w5 (hJ.call (by simp) rfl h5.2)⟩)
       | 3, hp =>
        obtain rfl : 14 = c' := by simpa using hp
        simp only [List.getElem?_toArray, List.getElem?_cons_zero, List.getElem?_cons_succ, Option.some.injEq] at ho
        subst ho
        obtain ⟨u0, u1, u2, rfl⟩ := list_3 hl
        have e61 := hF.pure 13 61 (.int .i64 wd) rfl rfl rfl rfl
        exact wp_call2X rfl rfl e61 Tryz.call21 (HNu.out _ _ w' (HX3.out.trans (hJ.ext (by simp))) (by omega) (by omega)) (fun en w5 h5 => ⟨_, h5.1, hk _ w5 (hJ.call (by simp) rfl h5.2)⟩)
       | 4, hp =>
        obtain rfl : 23 = c' := by simpa using hp
        simp only [List.getElem?_toArray, List.getElem?_cons_zero, List.getElem?_cons_succ, Option.some.injEq] at ho
        subst ho
        obtain ⟨u0, u1, u2, u3, rfl⟩ := list_4 hl
        obtain rfl := Option.some.inj (hJ.val 0 _ rfl (by decide))
        obtain rfl := Option.some.inj (hJ.val 1 _ rfl (by decide))
        obtain rfl := Option.some.inj (hJ.val 2 _ rfl (by decide))
        obtain rfl := Option.some.inj (hJ.val 3 _ rfl (by decide))
        have e50 := hF.pure 2 50 (.agg #[.string ⟨#[110, 97, 109, 101]⟩, .string nm]) rfl rfl rfl rfl
        have e53 := hF.link 0 5 53 _ rfl rfl rfl rfl
        have e56 := hF.link 1 8 56 _ rfl rfl rfl rfl
        have e59 := hF.link 2 11 59 _ rfl rfl rfl rfl
        have e62 := hF.link 3 14 62 _ rfl rfl rfl rfl
        have e68 := hF.pure 20 68 (.agg #[.string ⟨#[97, 108, 105, 103, 110]⟩, .string (alignS al)]) rfl rfl rfl rfl
        have e70 := hF.pure 22 70 (.agg #[.string ⟨#[97, 110, 99, 104, 111, 114]⟩, .string (anchorS bt)]) rfl rfl rfl rfl
        have HK := Lib.hid (hk (.slice (some ⟨w'.heap.size, 0, none⟩) 7 7) (w'.alloc (.cells #[.string ⟨#[110, 97, 109, 101]⟩, .string nm, .string ⟨#[116, 111, 112]⟩, .string (decS tp), .string ⟨#[104, 101, 105, 103, 104, 116]⟩, .string (decS hgt), .string ⟨#[108, 101, 102, 116]⟩, .string (decS lf), .string ⟨#[119, 105, 100, 116, 104]⟩, .string (decS wd), .string ⟨#[97, 108, 105, 103, 110]⟩, .string (alignS al), .string ⟨#[97, 110, 99, 104, 111, 114]⟩, .string (anchorS bt)] 69)) (hJ.build rfl))
        simp [Act.eval] at e50 e53 e56 e59 e62 e68 e70
        clear hk hF hJ
        go_simp
        exact HK.out
       | 5, hp =>
        obtain rfl : 24 = c' := by simpa using hp
        simp only [List.getElem?_toArray, List.getElem?_cons_zero, List.getElem?_cons_succ, Option.some.injEq] at ho
        subst ho
        obtain ⟨u0, u1, u2, u3, u4, rfl⟩ := list_5 hl
        obtain ⟨gB, hgB, hBl⟩ := hJ.blk rfl
        obtain rfl := (Option.some.inj hgB).symm
        have hxJ := hJ.ext (by simp)
        have e5 := hF.old 5 (.pointer (some ⟨W1.heap.size, 0, none⟩)) rfl rfl
        have e71 := hF.link 4 23 71 _ rfl rfl rfl rfl
        exact wp_call4X rfl e5 rfl rfl e71 Tryz.call18 (element_any W1.heap.size W1.heap.size (l) 1 sRegion (some ⟨gB, 0, none⟩) 7 7 ((regA ⟨nm, tp, hgt, lf, wd, al, bt⟩)) w' ((HT.out.ext HXr.out).ext hxJ) (attrs_blk hBl rfl rfl) (by decide) (by omega)) (fun en w5 h5 => ⟨_, h5.1, hk _ w5 (hJ.elem rfl ⟨h5.2.1, Below.trans (Below.mono hxJ (by omega)) h5.2.2.1, (KpT.ext hxJ).trans h5.2.2.2⟩)⟩)
       | p + 6, hp => simp at hp
     intro us w9 hl hJ
     obtain ⟨u0, u1, u2, u3, u4, u5, rfl⟩ := list_6 hl
     first | (rename_i hK; refine hK _ _ ?_; clear hK) | (rename_i hK hK_1; refine hK _ _ ?_; clear hK) | (rename_i hK hK_1 hK_2; refine hK _ _ ?_; clear hK) | (rename_i hK hK_1 hK_2 hK_3; refine hK _ _ ?_; clear hK)
     generalize hL : frameL _ _ _ _ = L
     obtain rfl : L = [(48, .pointer (some ⟨gr, 0, none⟩)), (49, .string nm), (50, .agg #[.string ⟨#[110, 97, 109, 101]⟩, .string nm]), (51, .pointer (some ⟨gr, 1, none⟩)), (52, .int .i64 tp), (53, u0), (54, .pointer (some ⟨gr, 2, none⟩)), (55, .int .i64 hgt), (56, u1), (57, .pointer (some ⟨gr, 3, none⟩)), (58, .int .i64 lf), (59, u2), (60, .pointer (some ⟨gr, 4, none⟩)), (61, .int .i64 wd), (62, u3), (63, .pointer (some ⟨gr, 5, none⟩)), (64, .int .u8 al), (65, .int .u8 (al - 1)), (66, .pointer (some ⟨0, al.toNat - 1, none⟩)), (67, .string (alignS al)), (68, .agg #[.string ⟨#[97, 108, 105, 103, 110]⟩, .string (alignS al)]), (69, .string (anchorS bt)), (70, .agg #[.string ⟨#[97, 110, 99, 104, 111, 114]⟩, .string (anchorS bt)]), (71, u4), (72, u5)] := hL.symm.trans (by kernel_rfl)
     clear hL hl
     simp only [Act.put, List.foldl_cons, List.foldl_nil, List.setIfInBounds_toArray, List.set_cons_zero, List.set_cons_succ]
     have hF := hJ.fin rfl
     have HF := Lib.hid hF
     have hz9 := hF.2.1.size
     clear hJ hF
     go_wp2_with fail
     exact ⟨⟨k + 1, _, by omega, by go_num, HF.out.1, (HX.out.trans HXr.out).below HF.out.2.1 (Nat.le_refl _), by omega, by simpa [regN, regA, List.append_assoc] using HEq.out⟩, by simp only [intOf]; omega⟩
  · have ek : k = rn := by omega
    subst ek
    have hdn : d.regs.drop k = [] := List.drop_eq_nil_of_le (by rw [HRl.out]; exact Nat.le_refl _)
    rw [hdn, List.map_nil, List.nil_append] at heq
    have HEq := Lib.hid heq
    have HB9 := Lib.hid (HB1.out.ext HX.out)
    have hc9 := fun o => HB9.out.cell o
    clear heq hdn
    go_wp2_with fail
    clear hc9
    go_loopw [77] (fun v wr2 => NeRel W1 W1.heap.size W1.heap.size d en v wr2) (fun v _ => en - (intOf v).toNat)
    case atStart => exact ⟨0, l, Nat.zero_le _, rfl, HT.out, HX.out, hz, HEq.out⟩
    case round =>
     obtain ⟨k2, l2, hk2, rfl, ht2, hx2, hz2', heq2⟩ := hrel
     have HT2 := Lib.hid ht2
     have HX2r := Lib.hid hx2
     clear ht2 hx2
     by_cases hlt2 : k2 < en
     · obtain ⟨be, offe, e, A', n', c', rfl, he, hev, e0, e1, e2, e3, e4, e5, e6⟩ := HEv.out.at_ev hlt2
       have hXe := HX1.out.trans HX2r.out
       replace e0 := hXe.cell e0
       replace e1 := hXe.cell e1
       replace e2 := hXe.cell e2
       replace e3 := hXe.cell e3
       replace e4 := hXe.cell e4
       replace e5 := hXe.cell e5
       replace e6 := hXe.cell e6
       clear hXe
       have hek := HOk.out.evs e (List.mem_of_getElem? he)
       have hei := hek.id
       have heo := hek.inn
       have heu := hek.out
       have hekd := hek.kind
       have hlen2 := pre_len (heq2.trans HLe.out.symm) (by rw [HLe.out]; exact HFw.out)
       have hdl : evNs (d.evs.drop k2) = evN e :: (rowNs e.rows ++ evNs (d.evs.drop (k2 + 1))) := by rw [drop_at d.evs k2 e he]; rfl
       rw [hdl] at heq2
       have HEq2 := Lib.hid heq2
       have HRo := Lib.hid hev.1
       have HRw := Lib.hid hek.rows
       have HRn := Lib.hid hev.len
       have hfewr := hek.few
       rw [hev.len] at hfewr
       have hd1 := decS_le heo.1 (by omega)
       have hd2 := decS_le heu.1 (by omega)
       obtain ⟨R2, hR2⟩ : ∃ R2, R2 = evNs (d.evs.drop (k2 + 1)) := ⟨_, rfl⟩
       have HR2 := Lib.hid hR2
       rw [← hR2] at HEq2
       clear heq2 he hek hev hdl hR2
       obtain ⟨id, inn, out, rgn, kind, spk, rows⟩ := e
       dsimp only at *
       have HBe := Lib.hid (Blk.new wr 60 #[.int .i64 id, .int .i64 inn, .int .i64 out, .string rgn, .int .u8 kind, .string spk, .slice A' n' c'])
       have HXe := Lib.hid ((Ext.refl wr).alloc (.cells #[.int .i64 id, .int .i64 inn, .int .i64 out, .string rgn, .int .u8 kind, .string spk, .slice A' n' c'] 60))
       have hce := fun o => HBe.out.cell o
       go_upto_region 17 with fail
       obtain ⟨W3, hW3⟩ : ∃ W3, W3 = wr.alloc (.cells #[.int .i64 id, .int .i64 inn, .int .i64 out, .string rgn, .int .u8 kind, .string spk, .slice A' n' c'] 60) := ⟨_, rfl⟩
       rw [← hW3] at HBe HXe ⊢
       clear hce hW3
       obtain ⟨ge, hge⟩ : ∃ ge, ge = wr.heap.size := ⟨_, rfl⟩
       rw [← hge] at HBe ⊢
       have hz3 : W1.heap.size < W3.heap.size := by have := HXe.out.size; omega
       clear hge e0 e1 e2 e3 e4 e5 e6
       have HX3 := Lib.hid (HX1.out.trans (HX2r.out.trans HXe.out))
       refine wp_region_linksR [some 81, some 82, some 83, some 84, some 85, some 86, some 87, some 88, some 89, some 90, some 91, some 92, some 93, some 94, some 95, some 96, some 97, some 98, some 99, some 100, some 101, some 102, some 103, some 104, some 105, some 106, some 107] [[], [0], [1], [], [3], [4], [5, 2], [6], [7], [], [9], [10], [11, 6], [12], [13], [], [15], [16], [], [18], [19, 12], [20], [], [22], [23], [2, 8, 14, 17, 21, 24], [25, 20]] [2, 6, 12, 20, 25, 26] [.pointer (some ⟨ge, 0, none⟩), .int .i64 id, undef, .pointer (some ⟨ge, 1, none⟩), .pointer (some ⟨ge, 1, none⟩), .int .i64 inn, undef, .string (frS inn), .agg #[.string ⟨#[105, 110]⟩, .string (frS inn)], .pointer (some ⟨ge, 1, none⟩), .pointer (some ⟨ge, 2, none⟩), .int .i64 out, undef, .string (frS out), .agg #[.string ⟨#[111, 117, 116]⟩, .string (frS out)], .pointer (some ⟨ge, 3, none⟩), .string rgn, .agg #[.string ⟨#[114, 101, 103, 105, 111, 110]⟩, .string rgn], .pointer (some ⟨ge, 4, none⟩), .int .u8 kind, undef, .agg #[.string ⟨#[107, 105, 110, 100]⟩, .string (kindS kind)], .pointer (some ⟨ge, 5, none⟩), .string spk, .agg #[.string ⟨#[115, 112, 101, 97, 107, 101, 114]⟩, .string spk], undef, undef] (NdJ [.agg #[.string ⟨#[105, 100]⟩, .string (decS id)], .string (decS inn), .string (decS out), .string (kindS kind)] 4 6 #[.string ⟨#[105, 100]⟩, .string (decS id), .string ⟨#[105, 110]⟩, .string (frS inn), .string ⟨#[111, 117, 116]⟩, .string (frS out), .string ⟨#[114, 101, 103, 105, 111, 110]⟩, .string rgn, .string ⟨#[107, 105, 110, 100]⟩, .string (kindS kind), .string ⟨#[115, 112, 101, 97, 107, 101, 114]⟩, .string spk] W3 (ElF W3 W1.heap.size W1.heap.size (l2 ++ [elN sP (evA ⟨id, inn, out, rgn, kind, spk, rows⟩) 1]))) (by kernel_rfl) (by kernel_rfl) (by kernel_rfl) (by kernel_rfl) (by kernel_rfl) (by kernel_rfl) (by kernel_rfl) (by decide) ?_ ?_ ?_ ?_
       · exact NdJ.start
       · intro i o ho hc a w' us K' hJ hF hlim hk
         match i, ho with
         | 0, ho =>
          simp only [List.getElem?_toArray, List.getElem?_cons_zero, List.getElem?_cons_succ, Option.some.injEq] at ho
          subst ho
          have e10 := hF.old 10 (.pointer (some ⟨ge, 0, none⟩)) rfl rfl
          simp only [Act.eval] at e10
          clear hF hlim hJ
          go_simp
          exact hk
         | 1, ho =>
          simp only [List.getElem?_toArray, List.getElem?_cons_zero, List.getElem?_cons_succ, Option.some.injEq] at ho
          subst ho
          have e81 := hF.pure 0 81 (.pointer (some ⟨ge, 0, none⟩)) rfl rfl rfl rfl
          have hcl := (HBe.out.ext (hJ.ext (hlim 5 26 rfl (by kernel_rfl)))).cell 0
          simp only [List.getElem?_toArray, List.getElem?_cons_zero, List.getElem?_cons_succ] at hcl
          simp only [Act.eval] at e81
          clear hF hlim hJ
          go_simp
          exact hk
         | 2, ho => simp at hc
         | 3, ho =>
          simp only [List.getElem?_toArray, List.getElem?_cons_zero, List.getElem?_cons_succ, Option.some.injEq] at ho
          subst ho
          have e10 := hF.old 10 (.pointer (some ⟨ge, 0, none⟩)) rfl rfl
          simp only [Act.eval] at e10
          clear hF hlim hJ
          go_simp
          exact hk
         | 4, ho =>
          simp only [List.getElem?_toArray, List.getElem?_cons_zero, List.getElem?_cons_succ, Option.some.injEq] at ho
          subst ho
          have e84 := hF.pure 3 84 (.pointer (some ⟨ge, 1, none⟩)) rfl rfl rfl rfl
          simp only [Act.eval] at e84
          clear hF hlim hJ
          go_simp
          exact hk
         | 5, ho =>
          simp only [List.getElem?_toArray, List.getElem?_cons_zero, List.getElem?_cons_succ, Option.some.injEq] at ho
          subst ho
          have e85 := hF.pure 4 85 (.pointer (some ⟨ge, 1, none⟩)) rfl rfl rfl rfl
          have hcl := (HBe.out.ext (hJ.ext (hlim 5 26 rfl (by kernel_rfl)))).cell 1
          simp only [List.getElem?_toArray, List.getElem?_cons_zero, List.getElem?_cons_succ] at hcl
          simp only [Act.eval] at e85
          clear hF hlim hJ
          go_simp
          exact hk
         | 6, ho => simp at hc
         | 7, ho =>
          simp only [List.getElem?_toArray, List.getElem?_cons_zero, List.getElem?_cons_succ, Option.some.injEq] at ho
          subst ho
          obtain ⟨v87, hv87⟩ := getElem_ltq (hF.did 1 6 rfl rfl)
          have e87 := hF.link 1 6 87 _ rfl rfl rfl hv87
          obtain rfl := Option.some.inj (hJ.val 1 _ hv87 (by decide))
          exact wp_concatX rfl e87 rfl (by show ¬ (9223372036854775807 : Int) < ((decS inn).size : Int) + ((1 : Nat) : Int); omega) hk
         | 8, ho =>
          simp only [List.getElem?_toArray, List.getElem?_cons_zero, List.getElem?_cons_succ, Option.some.injEq] at ho
          subst ho
          have e88 := hF.pure 7 88 (.string (frS inn)) rfl rfl rfl rfl
          simp [Act.eval] at e88
          clear hF hlim hJ
          go_simp
          exact hk
         | 9, ho =>
          simp only [List.getElem?_toArray, List.getElem?_cons_zero, List.getElem?_cons_succ, Option.some.injEq] at ho
          subst ho
          have e10 := hF.old 10 (.pointer (some ⟨ge, 0, none⟩)) rfl rfl
          simp only [Act.eval] at e10
          clear hF hlim hJ
          go_simp
          exact hk
         | 10, ho =>
          simp only [List.getElem?_toArray, List.getElem?_cons_zero, List.getElem?_cons_succ, Option.some.injEq] at ho
          subst ho
          have e90 := hF.pure 9 90 (.pointer (some ⟨ge, 1, none⟩)) rfl rfl rfl rfl
          simp only [Act.eval] at e90
          clear hF hlim hJ
          go_simp
          exact hk
         | 11, ho =>
          simp only [List.getElem?_toArray, List.getElem?_cons_zero, List.getElem?_cons_succ, Option.some.injEq] at ho
          subst ho
          have e91 := hF.pure 10 91 (.pointer (some ⟨ge, 2, none⟩)) rfl rfl rfl rfl
          have hcl := (HBe.out.ext (hJ.ext (hlim 5 26 rfl (by kernel_rfl)))).cell 2
          simp only [List.getElem?_toArray, List.getElem?_cons_zero, List.getElem?_cons_succ] at hcl
          simp only [Act.eval] at e91
          clear hF hlim hJ
          go_simp
          exact hk
         | 12, ho => simp at hc
         | 13, ho =>
          simp only [List.getElem?_toArray, List.getElem?_cons_zero, List.getElem?_cons_succ, Option.some.injEq] at ho
          subst ho
          obtain ⟨v93, hv93⟩ := getElem_ltq (hF.did 2 12 rfl rfl)
          have e93 := hF.link 2 12 93 _ rfl rfl rfl hv93
          obtain rfl := Option.some.inj (hJ.val 2 _ hv93 (by decide))
          exact wp_concatX rfl e93 rfl (by show ¬ (9223372036854775807 : Int) < ((decS out).size : Int) + ((1 : Nat) : Int); omega) hk
         | 14, ho =>
          simp only [List.getElem?_toArray, List.getElem?_cons_zero, List.getElem?_cons_succ, Option.some.injEq] at ho
          subst ho
          have e94 := hF.pure 13 94 (.string (frS out)) rfl rfl rfl rfl
          simp [Act.eval] at e94
          clear hF hlim hJ
          go_simp
          exact hk
         | 15, ho =>
          simp only [List.getElem?_toArray, List.getElem?_cons_zero, List.getElem?_cons_succ, Option.some.injEq] at ho
          subst ho
          have e10 := hF.old 10 (.pointer (some ⟨ge, 0, none⟩)) rfl rfl
          simp only [Act.eval] at e10
          clear hF hlim hJ
          go_simp
          exact hk
         | 16, ho =>
          simp only [List.getElem?_toArray, List.getElem?_cons_zero, List.getElem?_cons_succ, Option.some.injEq] at ho
          subst ho
          have e96 := hF.pure 15 96 (.pointer (some ⟨ge, 3, none⟩)) rfl rfl rfl rfl
          have hcl := (HBe.out.ext (hJ.ext (hlim 5 26 rfl (by kernel_rfl)))).cell 3
          simp only [List.getElem?_toArray, List.getElem?_cons_zero, List.getElem?_cons_succ] at hcl
          simp only [Act.eval] at e96
          clear hF hlim hJ
          go_simp
          exact hk
         | 17, ho =>
          simp only [List.getElem?_toArray, List.getElem?_cons_zero, List.getElem?_cons_succ, Option.some.injEq] at ho
          subst ho
          have e97 := hF.pure 16 97 (.string rgn) rfl rfl rfl rfl
          simp [Act.eval] at e97
          clear hF hlim hJ
          go_simp
          exact hk
         | 18, ho =>
          simp only [List.getElem?_toArray, List.getElem?_cons_zero, List.getElem?_cons_succ, Option.some.injEq] at ho
          subst ho
          have e10 := hF.old 10 (.pointer (some ⟨ge, 0, none⟩)) rfl rfl
          simp only [Act.eval] at e10
          clear hF hlim hJ
          go_simp
          exact hk
         | 19, ho =>
          simp only [List.getElem?_toArray, List.getElem?_cons_zero, List.getElem?_cons_succ, Option.some.injEq] at ho
          subst ho
          have e99 := hF.pure 18 99 (.pointer (some ⟨ge, 4, none⟩)) rfl rfl rfl rfl
          have hcl := (HBe.out.ext (hJ.ext (hlim 5 26 rfl (by kernel_rfl)))).cell 4
          simp only [List.getElem?_toArray, List.getElem?_cons_zero, List.getElem?_cons_succ] at hcl
          simp only [Act.eval] at e99
          clear hF hlim hJ
          go_simp
          exact hk
         | 20, ho => simp at hc
         | 21, ho =>
          simp only [List.getElem?_toArray, List.getElem?_cons_zero, List.getElem?_cons_succ, Option.some.injEq] at ho
          subst ho
          obtain ⟨v101, hv101⟩ := getElem_ltq (hF.did 3 20 rfl rfl)
          have e101 := hF.link 3 20 101 _ rfl rfl rfl hv101
          obtain rfl := Option.some.inj (hJ.val 3 _ hv101 (by decide))
          simp [Act.eval] at e101
          clear hF hlim hJ
          go_simp
          exact hk
         | 22, ho =>
          simp only [List.getElem?_toArray, List.getElem?_cons_zero, List.getElem?_cons_succ, Option.some.injEq] at ho
          subst ho
          have e10 := hF.old 10 (.pointer (some ⟨ge, 0, none⟩)) rfl rfl
          simp only [Act.eval] at e10
          clear hF hlim hJ
          go_simp
          exact hk
         | 23, ho =>
          simp only [List.getElem?_toArray, List.getElem?_cons_zero, List.getElem?_cons_succ, Option.some.injEq] at ho
          subst ho
          have e103 := hF.pure 22 103 (.pointer (some ⟨ge, 5, none⟩)) rfl rfl rfl rfl
          have hcl := (HBe.out.ext (hJ.ext (hlim 5 26 rfl (by kernel_rfl)))).cell 5
          simp only [List.getElem?_toArray, List.getElem?_cons_zero, List.getElem?_cons_succ] at hcl
          simp only [Act.eval] at e103
          clear hF hlim hJ
          go_simp
          exact hk
         | 24, ho =>
          simp only [List.getElem?_toArray, List.getElem?_cons_zero, List.getElem?_cons_succ, Option.some.injEq] at ho
          subst ho
          have e104 := hF.pure 23 104 (.string spk) rfl rfl rfl rfl
          simp [Act.eval] at e104
          clear hF hlim hJ
          go_simp
          exact hk
         | 25, ho => simp at hc
         | 26, ho => simp at hc
         | i + 27, ho => simp at ho
       · intro p c' o hp ho a w' us K' hl hJ hF hk
         match p, hp with
         | 0, hp =>
          obtain rfl : 2 = c' := by simpa using hp
          simp only [List.getElem?_toArray, List.getElem?_cons_zero, List.getElem?_cons_succ, Option.some.injEq] at ho
          subst ho
          obtain rfl : us = [] := List.eq_nil_of_length_eq_zero hl
          have e82 := hF.pure 1 82 (.int .i64 id) rfl rfl rfl rfl
          exact wp_call2X rfl rfl e82 Tryz.call21 (HNu.out _ _ w' (HX3.out.trans (hJ.ext (by simp))) (by omega) (by omega)) (fun en w5 h5 => ⟨_, h5.1, hk _ w5 (hJ.call (by simp) rfl h5.2)⟩)
         | 1, hp =>
          obtain rfl : 6 = c' := by simpa using hp
          simp only [List.getElem?_toArray, List.getElem?_cons_zero, List.getElem?_cons_succ, Option.some.injEq] at ho
          subst ho
          obtain ⟨u0, rfl⟩ := list_1 hl
          have e86 := hF.pure 5 86 (.int .i64 inn) rfl rfl rfl rfl
          exact wp_call1 rfl e86 Tryz.call22 (HDe.out _ w' (HX3.out.trans (hJ.ext (by simp))) (by omega) (by omega)) (fun en w5 h5 => ⟨_, h5.1, hk _ w5 (hJ.call (by simp) rfl h5.2)⟩)
         | 2, hp =>
          obtain rfl : 12 = c' := by simpa using hp
          simp only [List.getElem?_toArray, List.getElem?_cons_zero, List.getElem?_cons_succ, Option.some.injEq] at ho
          subst ho
          obtain ⟨u0, u1, rfl⟩ := list_2 hl
          have e92 := hF.pure 11 92 (.int .i64 out) rfl rfl rfl rfl
          exact wp_call1 rfl e92 Tryz.call22 (HDe.out _ w' (HX3.out.trans (hJ.ext (by simp))) (by omega) (by omega)) (fun en w5 h5 => ⟨_, h5.1, hk _ w5 (hJ.call (by simp) rfl h5.2)⟩)
         | 3, hp =>
          obtain rfl : 20 = c' := by simpa using hp
          simp only [List.getElem?_toArray, List.getElem?_cons_zero, List.getElem?_cons_succ, Option.some.injEq] at ho
          subst ho
          obtain ⟨u0, u1, u2, rfl⟩ := list_3 hl
          have e100 := hF.pure 19 100 (.int .u8 kind) rfl rfl rfl rfl
          exact wp_call1 rfl e100 Tryz.call23 (KindS_any kind w' hekd.1 hekd.2) (fun en w5 h5 => ⟨_, h5.1, hk _ w5 (hJ.call (by simp) rfl h5.2)⟩)
         | 4, hp =>
          obtain rfl : 25 = c' := by simpa using hp
          simp only [List.getElem?_toArray, List.getElem?_cons_zero, List.getElem?_cons_succ, Option.some.injEq] at ho
          subst ho
          obtain ⟨u0, u1, u2, u3, rfl⟩ := list_4 hl
          obtain rfl := Option.some.inj (hJ.val 0 _ rfl (by decide))
          obtain rfl := Option.some.inj (hJ.val 1 _ rfl (by decide))
          obtain rfl := Option.some.inj (hJ.val 2 _ rfl (by decide))
          obtain rfl := Option.some.inj (hJ.val 3 _ rfl (by decide))
          have e83 := hF.link 0 2 83 _ rfl rfl rfl rfl
          have e89 := hF.pure 8 89 (.agg #[.string ⟨#[105, 110]⟩, .string (frS inn)]) rfl rfl rfl rfl
          have e95 := hF.pure 14 95 (.agg #[.string ⟨#[111, 117, 116]⟩, .string (frS out)]) rfl rfl rfl rfl
          have e98 := hF.pure 17 98 (.agg #[.string ⟨#[114, 101, 103, 105, 111, 110]⟩, .string rgn]) rfl rfl rfl rfl
          have e102 := hF.pure 21 102 (.agg #[.string ⟨#[107, 105, 110, 100]⟩, .string (kindS kind)]) rfl rfl rfl rfl
          have e105 := hF.pure 24 105 (.agg #[.string ⟨#[115, 112, 101, 97, 107, 101, 114]⟩, .string spk]) rfl rfl rfl rfl
          have HK := Lib.hid (hk (.slice (some ⟨w'.heap.size, 0, none⟩) 6 6) (w'.alloc (.cells #[.string ⟨#[105, 100]⟩, .string (decS id), .string ⟨#[105, 110]⟩, .string (frS inn), .string ⟨#[111, 117, 116]⟩, .string (frS out), .string ⟨#[114, 101, 103, 105, 111, 110]⟩, .string rgn, .string ⟨#[107, 105, 110, 100]⟩, .string (kindS kind), .string ⟨#[115, 112, 101, 97, 107, 101, 114]⟩, .string spk] 69)) (hJ.build rfl))
          simp [Act.eval] at e83 e89 e95 e98 e102 e105
          clear hk hF hJ
          go_simp
          exact HK.out
         | 5, hp =>
          obtain rfl : 26 = c' := by simpa using hp
          simp only [List.getElem?_toArray, List.getElem?_cons_zero, List.getElem?_cons_succ, Option.some.injEq] at ho
          subst ho
          obtain ⟨u0, u1, u2, u3, u4, rfl⟩ := list_5 hl
          obtain ⟨gB, hgB, hBl⟩ := hJ.blk rfl
          obtain rfl := (Option.some.inj hgB).symm
          have hxJ := hJ.ext (by simp)
          have e5 := hF.old 5 (.pointer (some ⟨W1.heap.size, 0, none⟩)) rfl rfl
          have e106 := hF.link 4 25 106 _ rfl rfl rfl rfl
          exact wp_call4X rfl e5 rfl rfl e106 Tryz.call18 (element_any W1.heap.size W1.heap.size (l2) 1 sP (some ⟨gB, 0, none⟩) 6 6 ((evA ⟨id, inn, out, rgn, kind, spk, rows⟩)) w' ((HT2.out.ext HXe.out).ext hxJ) (attrs_blk hBl rfl rfl) (by decide) (by omega)) (fun en w5 h5 => ⟨_, h5.1, hk _ w5 (hJ.elem rfl ⟨h5.2.1, Below.trans (Below.mono hxJ (by omega)) h5.2.2.1, (KpT.ext hxJ).trans h5.2.2.2⟩)⟩)
         | p + 6, hp => simp at hp
       intro us w9 hl hJ
       obtain ⟨u0, u1, u2, u3, u4, u5, rfl⟩ := list_6 hl
       first | (rename_i hK; refine hK _ _ ?_; clear hK) | (rename_i hK hK_1; refine hK _ _ ?_; clear hK) | (rename_i hK hK_1 hK_2; refine hK _ _ ?_; clear hK) | (rename_i hK hK_1 hK_2 hK_3; refine hK _ _ ?_; clear hK)
       generalize hL : frameL _ _ _ _ = L
       obtain rfl : L = [(81, .pointer (some ⟨ge, 0, none⟩)), (82, .int .i64 id), (83, u0), (84, .pointer (some ⟨ge, 1, none⟩)), (85, .pointer (some ⟨ge, 1, none⟩)), (86, .int .i64 inn), (87, u1), (88, .string (frS inn)), (89, .agg #[.string ⟨#[105, 110]⟩, .string (frS inn)]), (90, .pointer (some ⟨ge, 1, none⟩)), (91, .pointer (some ⟨ge, 2, none⟩)), (92, .int .i64 out), (93, u2), (94, .string (frS out)), (95, .agg #[.string ⟨#[111, 117, 116]⟩, .string (frS out)]), (96, .pointer (some ⟨ge, 3, none⟩)), (97, .string rgn), (98, .agg #[.string ⟨#[114, 101, 103, 105, 111, 110]⟩, .string rgn]), (99, .pointer (some ⟨ge, 4, none⟩)), (100, .int .u8 kind), (101, u3), (102, .agg #[.string ⟨#[107, 105, 110, 100]⟩, .string (kindS kind)]), (103, .pointer (some ⟨ge, 5, none⟩)), (104, .string spk), (105, .agg #[.string ⟨#[115, 112, 101, 97, 107, 101, 114]⟩, .string spk]), (106, u4), (107, u5)] := hL.symm.trans (by kernel_rfl)
       clear hL hl
       simp only [Act.put, List.foldl_cons, List.foldl_nil, List.setIfInBounds_toArray, List.set_cons_zero, List.set_cons_succ]
       have hF := hJ.fin rfl
       have HT4 := Lib.hid hF.1
       have HX4 := Lib.hid ((HX2r.out.trans HXe.out).below hF.2.1 (Nat.le_refl _))
       have HB4 := Lib.hid (blk_kb HBe.out (hF.2.2 _ (by decide) (by decide)))
       have hz4 := hF.2.1.size
       have hz4' : W1.heap.size < w9.heap.size := by omega
       have hce := fun o => HB4.out.cell o
       clear hJ hF
       have hEq3 : (l2 ++ [elN sP (evA ⟨id, inn, out, rgn, kind, spk, rows⟩) 1]) ++ (rowNs rows ++ R2) = nodesL d := by rw [List.append_assoc]; exact HEq2.out
       have HEq3 := Lib.hid hEq3
       clear hEq3
       go_wp2_with fail
       clear hce
       go_loopw [111] (fun v wr3 => NwRel W1 W1.heap.size W1.heap.size (nodesL d) rows R2 n' v wr3) (fun v _ => n' - (intOf v).toNat)
       case atStart => exact ⟨0, _, Nat.zero_le _, rfl, HT4.out, HX4.out, hz4', HEq3.out⟩
       case round =>
        obtain ⟨k3, l3, hk3, rfl, ht3, hx3, hz5, heq3⟩ := hrel
        have HT3 := Lib.hid ht3
        have HX3r := Lib.hid hx3
        clear ht3 hx3
        by_cases hlt3 : k3 < n'
        · obtain ⟨br, offr, row, rfl, hrw, Ar, nr, cr, r0, r1, r2, r3⟩ := HRo.out.at_ hlt3
          replace r0 := (HX1.out.trans HX3r.out).cell r0
          rw [Nat.mul_one] at r0
          have hlen3 := pre_len heq3 HFw.out
          have hrok := HRw.out row (List.mem_of_getElem? hrw)
          have HRk := Lib.hid hrok.2
          have HRs := Lib.hid r3
          have HRlr := Lib.hid r3.len
          have hnr16 : nr ≤ 16 := by have := hrok.1; have := HRlr.out; omega
          obtain ⟨R3, hR3⟩ : ∃ R3, R3 = rowNs (rows.drop (k3 + 1)) ++ R2 := ⟨_, rfl⟩
          have hdl3 : rowNs (rows.drop k3) ++ R2 = rowN :: (runNs row ++ R3) := by rw [drop_at rows k3 row hrw, hR3]; simp [rowNs]
          rw [hdl3] at heq3
          have HEq4 : Hid ((l3 ++ [elN sRow [] 2]) ++ (runNs row ++ R3) = nodesL d) := by show _ = _; rw [List.append_assoc]; exact heq3
          have HR3 := Lib.hid hR3
          have HBr := Lib.hid (Blk.new wr 78 #[.slice Ar nr cr])
          have HXr := Lib.hid ((Ext.refl wr).alloc (.cells #[.slice Ar nr cr] 78))
          have hTr := HT3.out.ext HXr.out
          have HTr := Lib.hid hTr
          clear heq3 hdl3 hrok hrw r1 r2 r3 hTr hR3
          go_wp2_with fail
          refine (element_any W1.heap.size W1.heap.size l3 2 sRow none 0 0 [] _ HTr.out Sl.nil (by decide) (by omega)).mono ?_
          rintro en5 w5 ⟨rfl, ht5, hb5, hk5⟩
          have HT5 := Lib.hid ht5
          have HX5 := Lib.hid ((HX3r.out.trans HXr.out).below hb5 (Nat.le_refl _))
          have HB5 := Lib.hid (blk_kb HBr.out (hk5 _ (by decide) (by decide)))
          have hz6 : W1.heap.size < w5.heap.size := by have := hb5.size; have := HXr.out.size; omega
          have hcr := fun o => HB5.out.cell o
          clear ht5 hb5 hk5
          go_wp2_with fail
          clear hcr
          go_loopw [119] (fun v wr4 => NuRel W1 W1.heap.size W1.heap.size (nodesL d) row R3 nr v wr4) (fun v _ => nr - (intOf v).toNat)
          case atStart => exact ⟨0, _, Nat.zero_le _, rfl, HT5.out, HX5.out, hz6, HEq4.out⟩
          case round =>
           obtain ⟨k4, l4, hk4, rfl, ht4, hx4, hz7, heq4⟩ := hrel
           have HT4 := Lib.hid ht4
           have HX4r := Lib.hid hx4
           clear ht4 hx4
           by_cases hlt4 : k4 < nr
           · obtain ⟨bx, offx, x, rfl, hxr, q0, q1, q2, q3, q4⟩ := HRs.out.at_ hlt4
             have hXx := HX1.out.trans HX4r.out
             replace q0 := hXx.cell q0
             replace q1 := hXx.cell q1
             replace q2 := hXx.cell q2
             replace q3 := hXx.cell q3
             replace q4 := hXx.cell q4
             have hlen4 := pre_len heq4 HFw.out
             have hxok := HRk.out x (List.mem_of_getElem? hxr)
             have hc0 := hxok.c0
             have hc6 := hxok.c6
             have hdl4 : runNs (row.drop k4) ++ R3 = runN x :: txtN x :: (runNs (row.drop (k4 + 1)) ++ R3) := by rw [drop_at row k4 x hxr]; rfl
             rw [hdl4] at heq4
             have HEq5 := Lib.hid heq4
             clear heq4 hdl4 hxok hxr hXx
             obtain ⟨tx, co, it, un, rb⟩ := x
             dsimp only at *
             have HBx := Lib.hid (Blk.new wr 83 #[.string tx, .int .u8 co, .bool it, .bool un, .string rb])
             have HXx := Lib.hid ((Ext.refl wr).alloc (.cells #[.string tx, .int .u8 co, .bool it, .bool un, .string rb] 83))
             have hcx := fun o => HBx.out.cell o
             have hcol : 1 ≤ co → ∀ w', Ext wr w' → w'.cell? ⟨1, co.toNat, none⟩ = some (.string (colorS co)) := fun h1 w' hx' => by
              have : Blk w' 1 84 colC := Blk.ext HCo.out (HX1.out.trans (HX4r.out.trans hx'))
              rw [this.cell]; exact col_at h1 hc6
             have HCl := Lib.hid hcol
             clear hcol
             have HTx := Lib.hid (HT4.out.ext HXx.out)
             obtain ⟨W6, hW6⟩ : ∃ W6, W6 = wr.alloc (.cells #[.string tx, .int .u8 co, .bool it, .bool un, .string rb] 83) := ⟨_, rfl⟩
             obtain ⟨gx, hgx⟩ : ∃ gx, gx = wr.heap.size := ⟨_, rfl⟩
             rw [← hW6] at HBx HXx HTx
             rw [← hgx] at HBx
             have hz8 : W1.heap.size < W6.heap.size := by have := HXx.out.size; omega
             by_cases hco : 1 ≤ co
             · have hcn0 : (co == 0) = false := beq_eq_false_iff_ne.2 (by omega)
               have hcn1 : (!(co == 0)) = true := by rw [hcn0]; rfl
               have hcn2 : co ≠ 0 := by omega
               have hcl2 := HCl.out hco _ HXx.out
               rw [hW6] at hcl2
               have hcl3 : co < 7 := by omega
               go_upto_region 28 with fail
               rw [← hW6, ← hgx]
               clear hcx hW6 hgx hcl2
               refine wp_region_linksR [some 132, some 133, some 134, some 135, some 136, some 137, some 138, some 139, some 140, some 141, some 142, some 143, some 144, some 145, some 146] [[], [0], [], [2], [3], [4], [], [6], [7], [8, 5], [], [10], [11], [1, 5, 9, 12], [13, 9]] [5, 9, 13, 14] [.string (colorS co), .agg #[.string ⟨#[99, 111, 108, 111, 114]⟩, .string (colorS co)], .pointer (some ⟨gx, 1, none⟩), .pointer (some ⟨gx, 2, none⟩), .bool it, undef, .pointer (some ⟨gx, 1, none⟩), .pointer (some ⟨gx, 3, none⟩), .bool un, undef, .pointer (some ⟨gx, 4, none⟩), .string rb, .agg #[.string ⟨#[114, 117, 98, 121]⟩, .string rb], undef, undef] (NdJ [.agg #[.string ⟨#[105, 116, 97, 108, 105, 99]⟩, .string (flagS it)], .agg #[.string ⟨#[117, 110, 100, 101, 114, 108, 105, 110, 101]⟩, .string (flagS un)]] 2 4 #[.string ⟨#[99, 111, 108, 111, 114]⟩, .string (colorS co), .string ⟨#[105, 116, 97, 108, 105, 99]⟩, .string (flagS it), .string ⟨#[117, 110, 100, 101, 114, 108, 105, 110, 101]⟩, .string (flagS un), .string ⟨#[114, 117, 98, 121]⟩, .string rb] W6 (ElF W6 W1.heap.size W1.heap.size (l4 ++ [elN sRun (runA ⟨tx, co, it, un, rb⟩) 3]))) (by kernel_rfl) (by kernel_rfl) (by kernel_rfl) (by kernel_rfl) (by kernel_rfl) (by kernel_rfl) (by kernel_rfl) (by decide) ?_ ?_ ?_ ?_
               · exact NdJ.start
               · intro i o ho hc a w' us K' hJ hF hlim hk
                 match i, ho with
                 | 0, ho =>
                  simp only [List.getElem?_toArray, List.getElem?_cons_zero, List.getElem?_cons_succ, Option.some.injEq] at ho
                  subst ho
                  have e15 := hF.old 15 (.string (colorS co)) rfl rfl
                  simp only [Act.eval] at e15
                  clear hF hlim hJ
                  go_simp
                  exact hk
                 | 1, ho =>
                  simp only [List.getElem?_toArray, List.getElem?_cons_zero, List.getElem?_cons_succ, Option.some.injEq] at ho
                  subst ho
                  have e132 := hF.pure 0 132 (.string (colorS co)) rfl rfl rfl rfl
                  simp [Act.eval] at e132
                  clear hF hlim hJ
                  go_simp
                  exact hk
                 | 2, ho =>
                  simp only [List.getElem?_toArray, List.getElem?_cons_zero, List.getElem?_cons_succ, Option.some.injEq] at ho
                  subst ho
                  have e14 := hF.old 14 (.pointer (some ⟨gx, 0, none⟩)) rfl rfl
                  simp only [Act.eval] at e14
                  clear hF hlim hJ
                  go_simp
                  exact hk
                 | 3, ho =>
                  simp only [List.getElem?_toArray, List.getElem?_cons_zero, List.getElem?_cons_succ, Option.some.injEq] at ho
                  subst ho
                  have e134 := hF.pure 2 134 (.pointer (some ⟨gx, 1, none⟩)) rfl rfl rfl rfl
                  simp only [Act.eval] at e134
                  clear hF hlim hJ
                  go_simp
                  exact hk
                 | 4, ho =>
                  simp only [List.getElem?_toArray, List.getElem?_cons_zero, List.getElem?_cons_succ, Option.some.injEq] at ho
                  subst ho
                  have e135 := hF.pure 3 135 (.pointer (some ⟨gx, 2, none⟩)) rfl rfl rfl rfl
                  have hcl := (HBx.out.ext (hJ.ext (hlim 3 14 rfl (by kernel_rfl)))).cell 2
                  simp only [List.getElem?_toArray, List.getElem?_cons_zero, List.getElem?_cons_succ] at hcl
                  simp only [Act.eval] at e135
                  clear hF hlim hJ
                  go_simp
                  exact hk
                 | 5, ho => simp at hc
                 | 6, ho =>
                  simp only [List.getElem?_toArray, List.getElem?_cons_zero, List.getElem?_cons_succ, Option.some.injEq] at ho
                  subst ho
                  have e14 := hF.old 14 (.pointer (some ⟨gx, 0, none⟩)) rfl rfl
                  simp only [Act.eval] at e14
                  clear hF hlim hJ
                  go_simp
                  exact hk
                 | 7, ho =>
                  simp only [List.getElem?_toArray, List.getElem?_cons_zero, List.getElem?_cons_succ, Option.some.injEq] at ho
                  subst ho
                  have e138 := hF.pure 6 138 (.pointer (some ⟨gx, 1, none⟩)) rfl rfl rfl rfl
                  simp only [Act.eval] at e138
                  clear hF hlim hJ
                  go_simp
                  exact hk
                 | 8, ho =>
                  simp only [List.getElem?_toArray, List.getElem?_cons_zero, List.getElem?_cons_succ, Option.some.injEq] at ho
                  subst ho
                  have e139 := hF.pure 7 139 (.pointer (some ⟨gx, 3, none⟩)) rfl rfl rfl rfl
                  have hcl := (HBx.out.ext (hJ.ext (hlim 3 14 rfl (by kernel_rfl)))).cell 3
                  simp only [List.getElem?_toArray, List.getElem?_cons_zero, List.getElem?_cons_succ] at hcl
                  simp only [Act.eval] at e139
                  clear hF hlim hJ
                  go_simp
                  exact hk
                 | 9, ho => simp at hc
                 | 10, ho =>
                  simp only [List.getElem?_toArray, List.getElem?_cons_zero, List.getElem?_cons_succ, Option.some.injEq] at ho
                  subst ho
                  have e14 := hF.old 14 (.pointer (some ⟨gx, 0, none⟩)) rfl rfl
                  simp only [Act.eval] at e14
                  clear hF hlim hJ
                  go_simp
                  exact hk
                 | 11, ho =>
                  simp only [List.getElem?_toArray, List.getElem?_cons_zero, List.getElem?_cons_succ, Option.some.injEq] at ho
                  subst ho
                  have e142 := hF.pure 10 142 (.pointer (some ⟨gx, 4, none⟩)) rfl rfl rfl rfl
                  have hcl := (HBx.out.ext (hJ.ext (hlim 3 14 rfl (by kernel_rfl)))).cell 4
                  simp only [List.getElem?_toArray, List.getElem?_cons_zero, List.getElem?_cons_succ] at hcl
                  simp only [Act.eval] at e142
                  clear hF hlim hJ
                  go_simp
                  exact hk
                 | 12, ho =>
                  simp only [List.getElem?_toArray, List.getElem?_cons_zero, List.getElem?_cons_succ, Option.some.injEq] at ho
                  subst ho
                  have e143 := hF.pure 11 143 (.string rb) rfl rfl rfl rfl
                  simp [Act.eval] at e143
                  clear hF hlim hJ
                  go_simp
                  exact hk
                 | 13, ho => simp at hc
                 | 14, ho => simp at hc
                 | i + 15, ho => simp at ho
               · intro p c' o hp ho a w' us K' hl hJ hF hk
                 match p, hp with
                 | 0, hp =>
                  obtain rfl : 5 = c' := by simpa using hp
                  simp only [List.getElem?_toArray, List.getElem?_cons_zero, List.getElem?_cons_succ, Option.some.injEq] at ho
                  subst ho
                  obtain rfl : us = [] := List.eq_nil_of_length_eq_zero hl
                  have e136 := hF.pure 4 136 (.bool it) rfl rfl rfl rfl
                  exact wp_call2X rfl rfl e136 Tryz.call20 (flag_any _ _ w') (fun en w5 h5 => ⟨_, h5.1, hk _ w5 (hJ.call (by simp) rfl h5.2)⟩)
                 | 1, hp =>
                  obtain rfl : 9 = c' := by simpa using hp
                  simp only [List.getElem?_toArray, List.getElem?_cons_zero, List.getElem?_cons_succ, Option.some.injEq] at ho
                  subst ho
                  obtain ⟨u0, rfl⟩ := list_1 hl
                  have e140 := hF.pure 8 140 (.bool un) rfl rfl rfl rfl
                  exact wp_call2X rfl rfl e140 Tryz.call20 (flag_any _ _ w') (fun en w5 h5 => ⟨_, h5.1, hk _ w5 (hJ.call (by simp) rfl h5.2)⟩)
                 | 2, hp =>
                  obtain rfl : 13 = c' := by simpa using hp
                  simp only [List.getElem?_toArray, List.getElem?_cons_zero, List.getElem?_cons_succ, Option.some.injEq] at ho
                  subst ho
                  obtain ⟨u0, u1, rfl⟩ := list_2 hl
                  obtain rfl := Option.some.inj (hJ.val 0 _ rfl (by decide))
                  obtain rfl := Option.some.inj (hJ.val 1 _ rfl (by decide))
                  have e133 := hF.pure 1 133 (.agg #[.string ⟨#[99, 111, 108, 111, 114]⟩, .string (colorS co)]) rfl rfl rfl rfl
                  have e137 := hF.link 0 5 137 _ rfl rfl rfl rfl
                  have e141 := hF.link 1 9 141 _ rfl rfl rfl rfl
                  have e144 := hF.pure 12 144 (.agg #[.string ⟨#[114, 117, 98, 121]⟩, .string rb]) rfl rfl rfl rfl
                  have HK := Lib.hid (hk (.slice (some ⟨w'.heap.size, 0, none⟩) 4 4) (w'.alloc (.cells #[.string ⟨#[99, 111, 108, 111, 114]⟩, .string (colorS co), .string ⟨#[105, 116, 97, 108, 105, 99]⟩, .string (flagS it), .string ⟨#[117, 110, 100, 101, 114, 108, 105, 110, 101]⟩, .string (flagS un), .string ⟨#[114, 117, 98, 121]⟩, .string rb] 69)) (hJ.build rfl))
                  simp [Act.eval] at e133 e137 e141 e144
                  clear hk hF hJ
                  go_simp
                  exact HK.out
                 | 3, hp =>
                  obtain rfl : 14 = c' := by simpa using hp
                  simp only [List.getElem?_toArray, List.getElem?_cons_zero, List.getElem?_cons_succ, Option.some.injEq] at ho
                  subst ho
                  obtain ⟨u0, u1, u2, rfl⟩ := list_3 hl
                  obtain ⟨gB, hgB, hBl⟩ := hJ.blk rfl
                  obtain rfl := (Option.some.inj hgB).symm
                  have hxJ := hJ.ext (by simp)
                  have e5 := hF.old 5 (.pointer (some ⟨W1.heap.size, 0, none⟩)) rfl rfl
                  have e145 := hF.link 2 13 145 _ rfl rfl rfl rfl
                  exact wp_call4X rfl e5 rfl rfl e145 Tryz.call18 (element_any W1.heap.size W1.heap.size (l4) 3 sRun (some ⟨gB, 0, none⟩) 4 4 ((runA ⟨tx, co, it, un, rb⟩)) w' (HTx.out.ext hxJ) (attrs_blk hBl rfl rfl) (by decide) (by omega)) (fun en w5 h5 => ⟨_, h5.1, hk _ w5 (hJ.elem rfl ⟨h5.2.1, Below.trans (Below.mono hxJ (by omega)) h5.2.2.1, (KpT.ext hxJ).trans h5.2.2.2⟩)⟩)
                 | p + 4, hp => simp at hp
               intro us w11 hl hJ
               obtain ⟨u0, u1, u2, u3, rfl⟩ := list_4 hl
               first | (rename_i hK; refine hK _ _ ?_; clear hK) | (rename_i hK hK_1; refine hK _ _ ?_; clear hK) | (rename_i hK hK_1 hK_2; refine hK _ _ ?_; clear hK) | (rename_i hK hK_1 hK_2 hK_3; refine hK _ _ ?_; clear hK)
               generalize hL : frameL _ _ _ _ = L
               obtain rfl : L = [(132, .string (colorS co)), (133, .agg #[.string ⟨#[99, 111, 108, 111, 114]⟩, .string (colorS co)]), (134, .pointer (some ⟨gx, 1, none⟩)), (135, .pointer (some ⟨gx, 2, none⟩)), (136, .bool it), (137, u0), (138, .pointer (some ⟨gx, 1, none⟩)), (139, .pointer (some ⟨gx, 3, none⟩)), (140, .bool un), (141, u1), (142, .pointer (some ⟨gx, 4, none⟩)), (143, .string rb), (144, .agg #[.string ⟨#[114, 117, 98, 121]⟩, .string rb]), (145, u2), (146, u3)] := hL.symm.trans (by kernel_rfl)
               clear hL hl
               simp only [Act.put, List.foldl_cons, List.foldl_nil, List.setIfInBounds_toArray, List.set_cons_zero, List.set_cons_succ]
               obtain ⟨l5, hl5⟩ : ∃ l5, l5 = l4 ++ [elN sRun (runA ⟨tx, co, it, un, rb⟩) 3] := ⟨_, rfl⟩
               have hl5n : l5.length = l4.length + 1 := by rw [hl5]; simp
               have hF := hJ.fin rfl
               rw [← hl5] at hF
               obtain ⟨vt, hBt, hNt, hLb⟩ := hF.1
               obtain ⟨hs0, hN1, hN2, hN3⟩ := hNt
               obtain ⟨An, cn, rfl, hcn, -⟩ := own_len hN1
               have HBt := Lib.hid hBt
               have HN1 := Lib.hid hN1
               have HN2 := Lib.hid hN2
               have HN3 := Lib.hid hN3
               have HL5 := Lib.hid hl5
               have HX11 := Lib.hid ((HX4r.out.trans HXx.out).below hF.2.1 (Nat.le_refl _))
               have hz11 := hF.2.1.size
               have HBy := Lib.hid (blk_kb HBx.out (hF.2.2 _ (by decide) (by decide)))
               have hcy := fun o => HBy.out.cell o
               have hct := fun o => HBt.out.cell o
               have hlk : l5.length ≤ 1000001 := by omega
               clear hJ hF hBt hN1 hN2 hN3 hl5 hl5n
               go_wp2_with (at_builtin; refine wpList_append1 rfl (.tmp 147) (.tmp 151) 66 rfl info_nodeI Tryz.underlying66 rfl (by decide) (own_ext HN1.out ((Ext.refl _).alloc _)) (by exact rfl) w11.heap.size #[.string ⟨#[]⟩, .string tx, .slice none 0 0, .int .i64 4] (by exact rfl) (by exact Blk.new _ _ _) (by exact rfl) (by simp [Value.oneCell']) (by omega) (by simp [maxLen]; omega) (by simp only [World.size_alloc]; omega) ?_; intro v' w12 hown hgr; have HB12 := Lib.hid (Blk.grownX (HBt.out.alloc _) hgr (own_typed (own_ext HN1.out ((Ext.refl _).alloc _))) (by decide)); have HX12 := Lib.hid ((HX11.out.alloc _).grown hgr (fun q hq => by have := own_lt HN1.out q hq; omega)); have HO12 := Lib.hid hown; have HG12 := Lib.hid hgr; have hz12 := hgr.size; obtain ⟨g12, c12, rfl, -, -⟩ := own_form hown (by omega); clear hown hgr; have hct2 := fun o => HB12.out.cell o; have hcf2 := fun o => HB12.out.frozen o; have hst2 := fun u => setCell_put HB12.out 0 u)
               have hN6 := nodes_snoc (h := ⟨⟨#[]⟩, tx, .slice none 0 0, 4⟩) (x := txtN ⟨tx, co, it, un, rb⟩) (own_ext HN1.out ((Ext.refl _).alloc (.cells #[.string ⟨#[]⟩, .string tx, .slice none 0 0, .int .i64 4] 87))) HN2.out (fun i y q a c => (HN3.out i y q a c).kb (KB.ext ((Ext.refl _).alloc _))) HG12.out ⟨rfl, rfl, rfl, ⟨rfl, .inl ⟨rfl, rfl⟩⟩⟩ HO12.out
               exact ⟨⟨k4 + 1, l5 ++ [txtN ⟨tx, co, it, un, rb⟩], by omega, by go_num, ⟨_, HB12.out.put _, hN6.kb (KB.put HB12.out (by decide)) (KB.put HB12.out (by decide)), Nat.le_refl _⟩, HX12.out.put (Nat.le_refl _) _ _, by rw [putB_size]; simp only [World.size_alloc] at hz12; omega, by rw [HL5.out]; simpa [runN, List.append_assoc] using HEq5.out⟩, by simp only [intOf]; omega⟩
             · have hco0 : co = 0 := by omega
               subst hco0
               go_upto_region 28 with fail
               rw [← hW6, ← hgx]
               clear hcx hW6 hgx
               refine wp_region_linksR [some 132, some 133, some 134, some 135, some 136, some 137, some 138, some 139, some 140, some 141, some 142, some 143, some 144, some 145, some 146] [[], [0], [], [2], [3], [4], [], [6], [7], [8, 5], [], [10], [11], [1, 5, 9, 12], [13, 9]] [5, 9, 13, 14] [.string (colorS (0 : Int)), .agg #[.string ⟨#[99, 111, 108, 111, 114]⟩, .string (colorS (0 : Int))], .pointer (some ⟨gx, 1, none⟩), .pointer (some ⟨gx, 2, none⟩), .bool it, undef, .pointer (some ⟨gx, 1, none⟩), .pointer (some ⟨gx, 3, none⟩), .bool un, undef, .pointer (some ⟨gx, 4, none⟩), .string rb, .agg #[.string ⟨#[114, 117, 98, 121]⟩, .string rb], undef, undef] (NdJ [.agg #[.string ⟨#[105, 116, 97, 108, 105, 99]⟩, .string (flagS it)], .agg #[.string ⟨#[117, 110, 100, 101, 114, 108, 105, 110, 101]⟩, .string (flagS un)]] 2 4 #[.string ⟨#[99, 111, 108, 111, 114]⟩, .string (colorS (0 : Int)), .string ⟨#[105, 116, 97, 108, 105, 99]⟩, .string (flagS it), .string ⟨#[117, 110, 100, 101, 114, 108, 105, 110, 101]⟩, .string (flagS un), .string ⟨#[114, 117, 98, 121]⟩, .string rb] W6 (ElF W6 W1.heap.size W1.heap.size (l4 ++ [elN sRun (runA ⟨tx, (0 : Int), it, un, rb⟩) 3]))) (by kernel_rfl) (by kernel_rfl) (by kernel_rfl) (by kernel_rfl) (by kernel_rfl) (by kernel_rfl) (by kernel_rfl) (by decide) ?_ ?_ ?_ ?_
               · exact NdJ.start
               · intro i o ho hc a w' us K' hJ hF hlim hk
                 match i, ho with
                 | 0, ho =>
                  simp only [List.getElem?_toArray, List.getElem?_cons_zero, List.getElem?_cons_succ, Option.some.injEq] at ho
                  subst ho
                  have e15 := hF.old 15 (.string (colorS (0 : Int))) rfl rfl
                  simp only [Act.eval] at e15
                  clear hF hlim hJ
                  go_simp
                  exact hk
                 | 1, ho =>
                  simp only [List.getElem?_toArray, List.getElem?_cons_zero, List.getElem?_cons_succ, Option.some.injEq] at ho
                  subst ho
                  have e132 := hF.pure 0 132 (.string (colorS (0 : Int))) rfl rfl rfl rfl
                  simp [Act.eval] at e132
                  clear hF hlim hJ
                  go_simp
                  exact hk
                 | 2, ho =>
                  simp only [List.getElem?_toArray, List.getElem?_cons_zero, List.getElem?_cons_succ, Option.some.injEq] at ho
                  subst ho
                  have e14 := hF.old 14 (.pointer (some ⟨gx, 0, none⟩)) rfl rfl
                  simp only [Act.eval] at e14
                  clear hF hlim hJ
                  go_simp
                  exact hk
                 | 3, ho =>
                  simp only [List.getElem?_toArray, List.getElem?_cons_zero, List.getElem?_cons_succ, Option.some.injEq] at ho
                  subst ho
                  have e134 := hF.pure 2 134 (.pointer (some ⟨gx, 1, none⟩)) rfl rfl rfl rfl
                  simp only [Act.eval] at e134
                  clear hF hlim hJ
                  go_simp
                  exact hk
                 | 4, ho =>
                  simp only [List.getElem?_toArray, List.getElem?_cons_zero, List.getElem?_cons_succ, Option.some.injEq] at ho
                  subst ho
                  have e135 := hF.pure 3 135 (.pointer (some ⟨gx, 2, none⟩)) rfl rfl rfl rfl
                  have hcl := (HBx.out.ext (hJ.ext (hlim 3 14 rfl (by kernel_rfl)))).cell 2
                  simp only [List.getElem?_toArray, List.getElem?_cons_zero, List.getElem?_cons_succ] at hcl
                  simp only [Act.eval] at e135
                  clear hF hlim hJ
                  go_simp
                  exact hk
                 | 5, ho => simp at hc
                 | 6, ho =>
                  simp only [List.getElem?_toArray, List.getElem?_cons_zero, List.getElem?_cons_succ, Option.some.injEq] at ho
                  subst ho
                  have e14 := hF.old 14 (.pointer (some ⟨gx, 0, none⟩)) rfl rfl
                  simp only [Act.eval] at e14
                  clear hF hlim hJ
                  go_simp
                  exact hk
                 | 7, ho =>
                  simp only [List.getElem?_toArray, List.getElem?_cons_zero, List.getElem?_cons_succ, Option.some.injEq] at ho
                  subst ho
                  have e138 := hF.pure 6 138 (.pointer (some ⟨gx, 1, none⟩)) rfl rfl rfl rfl
                  simp only [Act.eval] at e138
                  clear hF hlim hJ
                  go_simp
                  exact hk
                 | 8, ho =>
                  simp only [List.getElem?_toArray, List.getElem?_cons_zero, List.getElem?_cons_succ, Option.some.injEq] at ho
                  subst ho
                  have e139 := hF.pure 7 139 (.pointer (some ⟨gx, 3, none⟩)) rfl rfl rfl rfl
                  have hcl := (HBx.out.ext (hJ.ext (hlim 3 14 rfl (by kernel_rfl)))).cell 3
                  simp only [List.getElem?_toArray, List.getElem?_cons_zero, List.getElem?_cons_succ] at hcl
                  simp only [Act.eval] at e139
                  clear hF hlim hJ
                  go_simp
                  exact hk
                 | 9, ho => simp at hc
                 | 10, ho =>
                  simp only [List.getElem?_toArray, List.getElem?_cons_zero, List.getElem?_cons_succ, Option.some.injEq] at ho
                  subst ho
                  have e14 := hF.old 14 (.pointer (some ⟨gx, 0, none⟩)) rfl rfl
                  simp only [Act.eval] at e14
                  clear hF hlim hJ
                  go_simp
                  exact hk
                 | 11, ho =>
                  simp only [List.getElem?_toArray, List.getElem?_cons_zero, List.getElem?_cons_succ, Option.some.injEq] at ho
                  subst ho
                  have e142 := hF.pure 10 142 (.pointer (some ⟨gx, 4, none⟩)) rfl rfl rfl rfl
                  have hcl := (HBx.out.ext (hJ.ext (hlim 3 14 rfl (by kernel_rfl)))).cell 4
                  simp only [List.getElem?_toArray, List.getElem?_cons_zero, List.getElem?_cons_succ] at hcl
                  simp only [Act.eval] at e142
                  clear hF hlim hJ
                  go_simp
                  exact hk
                 | 12, ho =>
                  simp only [List.getElem?_toArray, List.getElem?_cons_zero, List.getElem?_cons_succ, Option.some.injEq] at ho
                  subst ho
                  have e143 := hF.pure 11 143 (.string rb) rfl rfl rfl rfl
                  simp [Act.eval] at e143
                  clear hF hlim hJ
                  go_simp
                  exact hk
                 | 13, ho => simp at hc
                 | 14, ho => simp at hc
                 | i + 15, ho => simp at ho
               · intro p c' o hp ho a w' us K' hl hJ hF hk
                 match p, hp with
                 | 0, hp =>
                  obtain rfl : 5 = c' := by simpa using hp
                  simp only [List.getElem?_toArray, List.getElem?_cons_zero, List.getElem?_cons_succ, Option.some.injEq] at ho
                  subst ho
                  obtain rfl : us = [] := List.eq_nil_of_length_eq_zero hl
                  have e136 := hF.pure 4 136 (.bool it) rfl rfl rfl rfl
                  exact wp_call2X rfl rfl e136 Tryz.call20 (flag_any _ _ w') (fun en w5 h5 => ⟨_, h5.1, hk _ w5 (hJ.call (by simp) rfl h5.2)⟩)
                 | 1, hp =>
                  obtain rfl : 9 = c' := by simpa using hp
                  simp only [List.getElem?_toArray, List.getElem?_cons_zero, List.getElem?_cons_succ, Option.some.injEq] at ho
                  subst ho
                  obtain ⟨u0, rfl⟩ := list_1 hl
                  have e140 := hF.pure 8 140 (.bool un) rfl rfl rfl rfl
                  exact wp_call2X rfl rfl e140 Tryz.call20 (flag_any _ _ w') (fun en w5 h5 => ⟨_, h5.1, hk _ w5 (hJ.call (by simp) rfl h5.2)⟩)
                 | 2, hp =>
                  obtain rfl : 13 = c' := by simpa using hp
                  simp only [List.getElem?_toArray, List.getElem?_cons_zero, List.getElem?_cons_succ, Option.some.injEq] at ho
                  subst ho
                  obtain ⟨u0, u1, rfl⟩ := list_2 hl
                  obtain rfl := Option.some.inj (hJ.val 0 _ rfl (by decide))
                  obtain rfl := Option.some.inj (hJ.val 1 _ rfl (by decide))
                  have e133 := hF.pure 1 133 (.agg #[.string ⟨#[99, 111, 108, 111, 114]⟩, .string (colorS (0 : Int))]) rfl rfl rfl rfl
                  have e137 := hF.link 0 5 137 _ rfl rfl rfl rfl
                  have e141 := hF.link 1 9 141 _ rfl rfl rfl rfl
                  have e144 := hF.pure 12 144 (.agg #[.string ⟨#[114, 117, 98, 121]⟩, .string rb]) rfl rfl rfl rfl
                  have HK := Lib.hid (hk (.slice (some ⟨w'.heap.size, 0, none⟩) 4 4) (w'.alloc (.cells #[.string ⟨#[99, 111, 108, 111, 114]⟩, .string (colorS (0 : Int)), .string ⟨#[105, 116, 97, 108, 105, 99]⟩, .string (flagS it), .string ⟨#[117, 110, 100, 101, 114, 108, 105, 110, 101]⟩, .string (flagS un), .string ⟨#[114, 117, 98, 121]⟩, .string rb] 69)) (hJ.build rfl))
                  simp [Act.eval] at e133 e137 e141 e144
                  clear hk hF hJ
                  go_simp
                  exact HK.out
                 | 3, hp =>
                  obtain rfl : 14 = c' := by simpa using hp
                  simp only [List.getElem?_toArray, List.getElem?_cons_zero, List.getElem?_cons_succ, Option.some.injEq] at ho
                  subst ho
                  obtain ⟨u0, u1, u2, rfl⟩ := list_3 hl
                  obtain ⟨gB, hgB, hBl⟩ := hJ.blk rfl
                  obtain rfl := (Option.some.inj hgB).symm
                  have hxJ := hJ.ext (by simp)
                  have e5 := hF.old 5 (.pointer (some ⟨W1.heap.size, 0, none⟩)) rfl rfl
                  have e145 := hF.link 2 13 145 _ rfl rfl rfl rfl
                  exact wp_call4X rfl e5 rfl rfl e145 Tryz.call18 (element_any W1.heap.size W1.heap.size (l4) 3 sRun (some ⟨gB, 0, none⟩) 4 4 ((runA ⟨tx, (0 : Int), it, un, rb⟩)) w' (HTx.out.ext hxJ) (attrs_blk hBl rfl rfl) (by decide) (by omega)) (fun en w5 h5 => ⟨_, h5.1, hk _ w5 (hJ.elem rfl ⟨h5.2.1, Below.trans (Below.mono hxJ (by omega)) h5.2.2.1, (KpT.ext hxJ).trans h5.2.2.2⟩)⟩)
                 | p + 4, hp => simp at hp
               intro us w11 hl hJ
               obtain ⟨u0, u1, u2, u3, rfl⟩ := list_4 hl
               first | (rename_i hK; refine hK _ _ ?_; clear hK) | (rename_i hK hK_1; refine hK _ _ ?_; clear hK) | (rename_i hK hK_1 hK_2; refine hK _ _ ?_; clear hK) | (rename_i hK hK_1 hK_2 hK_3; refine hK _ _ ?_; clear hK)
               generalize hL : frameL _ _ _ _ = L
               obtain rfl : L = [(132, .string (colorS (0 : Int))), (133, .agg #[.string ⟨#[99, 111, 108, 111, 114]⟩, .string (colorS (0 : Int))]), (134, .pointer (some ⟨gx, 1, none⟩)), (135, .pointer (some ⟨gx, 2, none⟩)), (136, .bool it), (137, u0), (138, .pointer (some ⟨gx, 1, none⟩)), (139, .pointer (some ⟨gx, 3, none⟩)), (140, .bool un), (141, u1), (142, .pointer (some ⟨gx, 4, none⟩)), (143, .string rb), (144, .agg #[.string ⟨#[114, 117, 98, 121]⟩, .string rb]), (145, u2), (146, u3)] := hL.symm.trans (by kernel_rfl)
               clear hL hl
               simp only [Act.put, List.foldl_cons, List.foldl_nil, List.setIfInBounds_toArray, List.set_cons_zero, List.set_cons_succ]
               obtain ⟨l5, hl5⟩ : ∃ l5, l5 = l4 ++ [elN sRun (runA ⟨tx, 0, it, un, rb⟩) 3] := ⟨_, rfl⟩
               have hl5n : l5.length = l4.length + 1 := by rw [hl5]; simp
               have hF := hJ.fin rfl
               rw [← hl5] at hF
               obtain ⟨vt, hBt, hNt, hLb⟩ := hF.1
               obtain ⟨hs0, hN1, hN2, hN3⟩ := hNt
               obtain ⟨An, cn, rfl, hcn, -⟩ := own_len hN1
               have HBt := Lib.hid hBt
               have HN1 := Lib.hid hN1
               have HN2 := Lib.hid hN2
               have HN3 := Lib.hid hN3
               have HL5 := Lib.hid hl5
               have HX11 := Lib.hid ((HX4r.out.trans HXx.out).below hF.2.1 (Nat.le_refl _))
               have hz11 := hF.2.1.size
               have HBy := Lib.hid (blk_kb HBx.out (hF.2.2 _ (by decide) (by decide)))
               have hcy := fun o => HBy.out.cell o
               have hct := fun o => HBt.out.cell o
               have hlk : l5.length ≤ 1000001 := by omega
               clear hJ hF hBt hN1 hN2 hN3 hl5 hl5n
               go_wp2_with (at_builtin; refine wpList_append1 rfl (.tmp 147) (.tmp 151) 66 rfl info_nodeI Tryz.underlying66 rfl (by decide) (own_ext HN1.out ((Ext.refl _).alloc _)) (by exact rfl) w11.heap.size #[.string ⟨#[]⟩, .string tx, .slice none 0 0, .int .i64 4] (by exact rfl) (by exact Blk.new _ _ _) (by exact rfl) (by simp [Value.oneCell']) (by omega) (by simp [maxLen]; omega) (by simp only [World.size_alloc]; omega) ?_; intro v' w12 hown hgr; have HB12 := Lib.hid (Blk.grownX (HBt.out.alloc _) hgr (own_typed (own_ext HN1.out ((Ext.refl _).alloc _))) (by decide)); have HX12 := Lib.hid ((HX11.out.alloc _).grown hgr (fun q hq => by have := own_lt HN1.out q hq; omega)); have HO12 := Lib.hid hown; have HG12 := Lib.hid hgr; have hz12 := hgr.size; obtain ⟨g12, c12, rfl, -, -⟩ := own_form hown (by omega); clear hown hgr; have hct2 := fun o => HB12.out.cell o; have hcf2 := fun o => HB12.out.frozen o; have hst2 := fun u => setCell_put HB12.out 0 u)
               have hN6 := nodes_snoc (h := ⟨⟨#[]⟩, tx, .slice none 0 0, 4⟩) (x := txtN ⟨tx, 0, it, un, rb⟩) (own_ext HN1.out ((Ext.refl _).alloc (.cells #[.string ⟨#[]⟩, .string tx, .slice none 0 0, .int .i64 4] 87))) HN2.out (fun i y q a c => (HN3.out i y q a c).kb (KB.ext ((Ext.refl _).alloc _))) HG12.out ⟨rfl, rfl, rfl, ⟨rfl, .inl ⟨rfl, rfl⟩⟩⟩ HO12.out
               exact ⟨⟨k4 + 1, l5 ++ [txtN ⟨tx, 0, it, un, rb⟩], by omega, by go_num, ⟨_, HB12.out.put _, hN6.kb (KB.put HB12.out (by decide)) (KB.put HB12.out (by decide)), Nat.le_refl _⟩, HX12.out.put (Nat.le_refl _) _ _, by rw [putB_size]; simp only [World.size_alloc] at hz12; omega, by rw [HL5.out]; simpa [runN, List.append_assoc] using HEq5.out⟩, by simp only [intOf]; omega⟩
           · have ek4 : k4 = nr := by omega
             subst ek4
             have hdn4 : row.drop k4 = [] := List.drop_eq_nil_of_le (by rw [HRlr.out]; exact Nat.le_refl _)
             have HE4 : Hid (l4 ++ (rowNs (rows.drop (k3 + 1)) ++ R2) = nodesL d) := by
              rw [hdn4, HR3.out] at heq4
              exact heq4
             clear hdn4 heq4
             go_wp2_with fail
             exact ⟨⟨k3 + 1, l4, by omega, by go_num, HT4.out, HX4r.out, hz7, HE4.out⟩, by simp only [intOf]; omega⟩
        · have ek3 : k3 = n' := by omega
          subst ek3
          have hdn3 : rows.drop k3 = [] := List.drop_eq_nil_of_le (by rw [HRn.out]; exact Nat.le_refl _)
          have HE3 : Hid (l3 ++ evNs (d.evs.drop (k2 + 1)) = nodesL d) := by
           rw [hdn3, HR2.out] at heq3
           exact heq3
          clear hdn3 heq3
          go_wp2_with fail
          exact ⟨⟨k2 + 1, l3, by omega, by go_num, HT3.out, HX3r.out, hz5, HE3.out⟩, by simp only [intOf]; omega⟩
     · have ek2 : k2 = en := by omega
       subst ek2
       have hdn2 : d.evs.drop k2 = [] := List.drop_eq_nil_of_le (by rw [HEl.out]; exact Nat.le_refl _)
       have HE2 : Hid (l2 = nodesL d) := by
        rw [hdn2] at heq2
        show _ = _
        rw [← heq2]
        exact (List.append_nil _).symm
       clear hdn2 heq2
       have hf2 : l2.length ≤ 8192 := by rw [HE2.out]; exact HFw.out
       obtain ⟨vt, hBt, hNt, hLb⟩ := HT2.out
       obtain ⟨hs0, hN1, hN2, hN3⟩ := id hNt
       obtain ⟨An, cn, rfl, hcn, -⟩ := own_len hN1
       have HNt := Lib.hid hNt
       have hct := fun o => hBt.cell o
       have d1 : decide (8192 < l2.length) = false := decide_eq_false (by omega)
       have d2 : ¬ 8192 < l2.length := by omega
       clear hN1 hN2 hN3 hNt hBt
       go_wp2_with fail
       go_ret2
       exact ⟨_, W1.heap.size, rfl, by have := HX1.out.size; omega, by rw [← HE2.out]; exact HNt.out, HX1.out.trans HX2r.out⟩
end
end Go.Proofs.YtbmblnhfmpolbaaGreatDoor