/- Laid together: Arguments that are documents, opened, with their bulk. Arguments of chapter 14 (and 12), opened: a remark, numbers, strings. Arguments that are rates, spans, small numbers, booleans and lists of drifts, opened. -/
import Derived.Test.YtbfaghgjbipilaaDoorPk15
import Derived.Test.YtbfaghgjbipilaaDoorPk08
import Derived.Test.YtbfaghgjbipilaaDoorPk12
import Derived.Test.YtbfaghgjbipilaaDoorPk11
import Derived.Test.YtbfaghgjbipilaaDoorPk10
import Derived.OpenShut

/-! OpenD -/
namespace Go.Proofs.YtbfaghgjbipilaaDoor
set_option linter.unusedVariables false
set_option linter.unusedSimpArgs false
open Go.RowKit Go.ChangeShapes Go.WideShapes Go.ChangeAt
set_option maxRecDepth 100000
theorem cells_comment : Tryd.prog.cellsOf 25 = 8 := by kernel_rfl
theorem cells_document : Tryd.prog.cellsOf 35 = 8 := by kernel_rfl
theorem bytes_comment : Tryd.prog.bytesOf 25 = 72 := by kernel_rfl
theorem bytes_event : Tryd.prog.bytesOf 41 = 88 := by kernel_rfl
theorem cells_rateD : Tryd.prog.cellsOf 30 = 1 := by kernel_rfl
theorem cells_regs : Tryd.prog.cellsOf 31 = 1 := by kernel_rfl
theorem cells_evts : Tryd.prog.cellsOf 32 = 1 := by kernel_rfl
theorem cells_coms : Tryd.prog.cellsOf 33 = 1 := by kernel_rfl
/-- the numbers of an event fit -/
def Ev.Nums (e : Ev) : Prop := IW e.id ∧ IW e.inn ∧ IW e.out ∧ 0 ≤ e.kind ∧ e.kind ≤ 255
theorem openK_event2 (W : World) : OpensK Tryd.prog W 41 (fun k cs (e : Ev) => (∃ A n c, cs = (e.cells A n c).toList ∧ EvAt W e A n c) ∧ e.bulk + 2 ≤ k ∧ e.Nums) := by
  intro H enc fuel cs x h hw
  obtain ⟨hl, ks, hks, hkl, hf⟩ := OpensK.fields Tryd.underlying41 h hw
  rw [cells_event] at hl
  obtain ⟨v0, v1, v2, v3, v4, v5, v6, rfl⟩ := list_7 hl
  obtain ⟨k0, k1, k2, k3, k4, k5, rfl⟩ := list_6 (show ks.length = 6 from hkl)
  obtain ⟨a0, h0, s0⟩ := hf 0 _ rfl (.of (Opens.int Tryd.underlying2))
  obtain ⟨⟨a1, a2⟩, h1, s1, s2⟩ := hf 1 _ rfl (.of (open_span W))
  obtain ⟨a3, h3, s3⟩ := hf 2 _ rfl (OpensK.string Tryd.underlying9)
  obtain ⟨a4, h4, s4⟩ := hf 3 _ rfl (.of (Opens.int Tryd.underlying38))
  obtain ⟨a5, h5, s5⟩ := hf 4 _ rfl (OpensK.string Tryd.underlying9)
  obtain ⟨rows, h6, hb6⟩ := hf 5 _ rfl (R := fun k cs (r : List Row) => (∃ A n c, cs = [.slice A n c] ∧ n ≤ c ∧ n * 24 ≤ 140737488355328 ∧ RowsAt W A n r) ∧ rowsBulk r ≤ k) (fun H enc fuel cs x h hw => by
    obtain ⟨A, n, c, l, rfl, hnc, _, hb, hs, hk⟩ := OpensK.slice Tryd.underlying39 cells_row (by decide) bytes_row (openK_row W) h hw
    have hn : n * 24 ≤ 140737488355328 := by simp only [reachBytes] at hb; omega
    refine ⟨l.map (fun p : Row × Nat => p.1), ⟨A, n, c, rfl, hnc, hn, Sl.mapK (D := RowC) hs fun b o p hm => ?_⟩, ?_⟩
    · obtain ⟨cs, h1, ⟨A', n', c', h2, h3⟩, _⟩ := hm
      subst h2
      exact ⟨A', n', c', h1 0 _ rfl, h3⟩
    · have := sum_le_of (f := rowBulk) (l := l) (fun p hp => hs.all (p := fun p => rowBulk p.1 ≤ p.2) (fun b o q hm => by obtain ⟨_, _, _, h3⟩ := hm; exact h3) p hp)
      unfold rowsBulk
      omega)
  have n0 := bounds_i64 s0
  have n4 := bounds_u8 s4
  simp [cells_int64, cells_string, cells_span, cells_kind, cells_rows] at h0 h1 h3 h4 h5 h6 s3 s5 hb6 hks
  obtain ⟨h1, h2⟩ := h1
  obtain ⟨A, n, c, h6, hnc, hn, hr⟩ := h6
  subst h0 h1 h2 h3 h4 h5 h6
  exact ⟨⟨a0, a1, a2, a3, a4, a5, rows⟩, ⟨A, n, c, rfl, hr, hnc, hn⟩, by unfold Ev.bulk; simp only; omega, n0, s1, s2, n4.1, n4.2⟩
def Com.Nums (c : Com) : Prop := IW c.id ∧ IW c.ev ∧ IW c.fr ∧ IW c.til
theorem openK_com (W : World) : OpensK Tryd.prog W 25 (fun k cs (c : Com) => cs = c.vals ∧ c.author.size + c.text.size + 2 ≤ k ∧ c.Nums) := by
  intro H enc fuel cs x h hw
  obtain ⟨hl, ks, hks, hkl, hf⟩ := OpensK.fields Tryd.underlying25 h hw
  rw [cells_comment] at hl
  obtain ⟨v0, v1, v2, v3, v4, v5, v6, v7, rfl⟩ := list_8 hl
  obtain ⟨k0, k1, k2, k3, k4, k5, k6, k7, rfl⟩ := list_8 (show ks.length = 8 from hkl)
  obtain ⟨a0, h0, s0⟩ := hf 0 _ rfl (.of (Opens.int Tryd.underlying2))
  obtain ⟨a1, h1, s1⟩ := hf 1 _ rfl (.of (Opens.int Tryd.underlying2))
  obtain ⟨a2, h2, s2⟩ := hf 2 _ rfl (.of (Opens.int Tryd.underlying3))
  obtain ⟨a3, h3, s3⟩ := hf 3 _ rfl (.of (Opens.int Tryd.underlying3))
  obtain ⟨a4, h4, s4⟩ := hf 4 _ rfl (OpensK.string Tryd.underlying9)
  obtain ⟨a5, h5, s5⟩ := hf 5 _ rfl (OpensK.string Tryd.underlying9)
  obtain ⟨a6, h6⟩ := hf 6 _ rfl (.of (Opens.bool Tryd.underlying4))
  obtain ⟨a7, h7⟩ := hf 7 _ rfl (.of (Opens.bool Tryd.underlying4))
  have n0 := bounds_i64 s0
  have n1 := bounds_i64 s1
  have n2 := bounds_i64 s2
  have n3 := bounds_i64 s3
  simp [cells_int64, cells_int, cells_string, cells_bool] at h0 h1 h2 h3 h4 h5 h6 h7 s4 s5 hks
  subst h0 h1 h2 h3 h4 h5 h6 h7
  exact ⟨⟨a0, a1, a2, a3, a4, a5, a6, a7⟩, rfl, by simp only; omega, n0, n1, n2, n3⟩
/-- what is known of a document that came in -/
structure DocIn (d : Doc) (h : DocH) : Prop where
  fit : DocFit d
  nums : ∀ e ∈ d.evs, e.Nums
  cnums : ∀ c ∈ d.coms, c.Nums
  last : IW d.last
  rn : h.rn ≤ 9223372036854775807
  en : h.en ≤ 1000000
  cn : h.cn ≤ 1000000
  rc : h.rn ≤ h.rc ∧ h.rn * 56 ≤ 140737488355328
  ec : h.en ≤ h.ec
  cc : h.cn ≤ h.cc
theorem sum_ge {α : Type} {n : Nat} : ∀ {l : List (α × Nat)}, (∀ p ∈ l, n ≤ p.2) → l.length * n ≤ (l.map (·.2)).sum
  | [], _ => by simp
  | p :: l, h => by
    have h1 := h p (List.mem_cons_self ..)
    have h2 := sum_ge (l := l) fun q hq => h q (List.mem_cons_of_mem _ hq)
    simp only [List.length_cons, List.map_cons, List.sum_cons, Nat.add_mul]
    omega
theorem mem_le {α : Type} : ∀ {l : List (α × Nat)} {p : α × Nat}, p ∈ l → p.2 ≤ (l.map (·.2)).sum
  | [], _, h => by cases h
  | q :: l, p, h => by
    simp only [List.map_cons, List.sum_cons]
    cases List.mem_cons.1 h with
    | inl e => subst e; omega
    | inr e => have := mem_le e; omega
theorem ev_small {e : Ev} (h : e.bulk ≤ 1048576) : EvSmall e ∧ e.bytes ≤ 1099511627776 := by
  unfold Ev.bulk at h
  have hrow : ∀ r ∈ e.rows, rowBulk r ≤ 1048576 := fun r hr => by
    have := le_sum (f := rowBulk) hr
    unfold rowsBulk at h
    omega
  refine ⟨⟨by omega, by omega, fun r hr => ⟨?_, fun x hx => ?_⟩⟩, ?_⟩
  · have h1 := hrow r hr
    have h2 := rowBytes_le r
    omega
  · have h1 := hrow r hr
    have h2 := le_sum (f := runBulk) hx
    unfold rowBulk at h1
    have h3 : runBulk x = x.text.size + x.ruby.size := rfl
    omega
  · have key : ∀ l : List Row, (l.map rowBytes).sum ≤ rowsBulk l := fun l => by
      unfold rowsBulk
      induction l with
      | nil => simp
      | cons y l ih => have := rowBytes_le y; simp only [List.map_cons, List.sum_cons]; omega
    have := key e.rows
    unfold Ev.bytes
    omega
/-- an argument that is a document, of small bulk -/
theorem argK_doc {H : Type} {enc : TypeId × Value → H} {W : World} {base : Nat} {v : Value} {d : DataW H} {p : List MemPlace} (hv : Value.okWide Tryd.prog W .any base 35 v) (h : DataW.Trod enc Tryd.prog W 0 (fun _ => true) true 35 v d p)
    (hw : ∀ n ∈ d.weights Tryd.prog 35, n ≤ reachBytes) (hk : Rows.uptoBulk d ≤ 1048576) : ∃ d' h', v = .agg (Doc.cells d' h') ∧ DocAt W d' h' ∧ DocIn d' h' := by
  obtain ⟨cs, rfl⟩ := agg_of_cells Tryd.underlying35 hv
  obtain ⟨fuel, h⟩ := h
  obtain ⟨hl, ks, hks, hkl, hf⟩ := OpensK.fields Tryd.underlying35 h hw
  rw [cells_document] at hl
  obtain ⟨v0, v1, v2, v3, v4, v5, v6, v7, he⟩ := list_8 hl
  obtain ⟨k0, k1, k2, k3, k4, k5, k6, k7, rfl⟩ := list_8 (show ks.length = 8 from hkl)
  obtain ⟨a0, h0, s0⟩ := hf 0 _ rfl (OpensK.string Tryd.underlying9)
  obtain ⟨a1, h1, s1⟩ := hf 1 _ rfl (OpensK.string Tryd.underlying9)
  obtain ⟨a2, h2, s2⟩ := hf 2 _ rfl (.of (Opens.int Tryd.underlying30))
  obtain ⟨a3, h3⟩ := hf 3 _ rfl (.of (Opens.bool Tryd.underlying4))
  obtain ⟨a4, h4, s4⟩ := hf 4 _ rfl (.of (Opens.int Tryd.underlying2))
  obtain ⟨⟨regs, A5, n5, c5⟩, h5, r5, r6, r7, r8⟩ := hf 5 _ rfl (R := fun k cs (r : List Reg × Option Addr × Nat × Nat) => cs = [.slice r.2.1 r.2.2.1 r.2.2.2] ∧ r.2.2.1 ≤ r.2.2.2 ∧ r.2.2.1 * 56 ≤ 140737488355328 ∧ RegsAt W r.2.1 r.2.2.1 r.1 ∧ RegsSmall r.1) (fun H enc fuel cs x h hw => by
    obtain ⟨A, n, c, l, hc, hnc, hcm, hb, hs⟩ := Opens.slice Tryd.underlying31 cells_region (by decide) bytes_region (open_region W) h hw
    refine ⟨(l, A, n, c), hc, hnc, (show n * 56 ≤ 140737488355328 by simp only [reachBytes] at hb; omega), Sl.change (D := RegC) hs fun b o r hm => ?_, show ∀ r ∈ l, r.name.size ≤ 9223372036854775807 from hs.all (p := fun r : Reg => r.name.size ≤ 9223372036854775807) fun b o r hm => ?_⟩
    · obtain ⟨cs, h1, h2, _⟩ := hm
      subst h2
      exact ⟨h1 0 _ rfl, h1 1 _ rfl, h1 2 _ rfl, h1 3 _ rfl, h1 4 _ rfl, h1 5 _ rfl, h1 6 _ rfl⟩
    · obtain ⟨cs, _, _, h3⟩ := hm
      omega)
  obtain ⟨⟨evs, A6, n6, c6⟩, h6, e5, e6, e7, e8⟩ := hf 6 _ rfl (R := fun k cs (r : List Ev × Option Addr × Nat × Nat) => cs = [.slice r.2.1 r.2.2.1 r.2.2.2] ∧ r.2.2.1 ≤ r.2.2.2 ∧ r.2.2.1 * 2 ≤ k ∧ EvsAt W r.2.1 r.2.2.1 r.1 ∧ ∀ e ∈ r.1, e.bulk ≤ k ∧ e.Nums) (fun H enc fuel cs x h hw => by
    obtain ⟨A, n, c, l, hc, hnc, hcm, hb, hs, hk⟩ := OpensK.slice Tryd.underlying32 cells_event (by decide) bytes_event (openK_event2 W) h hw
    have hall := hs.all (p := fun p : Ev × Nat => p.1.bulk + 2 ≤ p.2 ∧ p.1.Nums) (fun b o q hm => by obtain ⟨_, _, _, h3, h4⟩ := hm; exact ⟨h3, h4⟩)
    have h2 := sum_ge (n := 2) (l := l) (fun p hp => by have := (hall p hp).1; omega)
    have hln : l.length = n := hs.len
    refine ⟨(l.map (fun p : Ev × Nat => p.1), A, n, c), hc, hnc, (show n * 2 ≤ _ by omega), Sl.mapK (D := EvC) hs fun b o p hm => ?_, fun e he => ?_⟩
    · obtain ⟨cs, h1, ⟨A', n', c', h2, h3⟩, _⟩ := hm
      subst h2
      exact ⟨A', n', c', h1, h3⟩
    · obtain ⟨p, hp, rfl⟩ := List.mem_map.1 he
      have h3 := hall p hp
      have h4 := mem_le hp
      exact ⟨by omega, h3.2⟩)
  obtain ⟨⟨coms, A7, n7, c7⟩, h7, m5, m6, m7, m8⟩ := hf 7 _ rfl (R := fun k cs (r : List Com × Option Addr × Nat × Nat) => cs = [.slice r.2.1 r.2.2.1 r.2.2.2] ∧ r.2.2.1 ≤ r.2.2.2 ∧ r.2.2.1 * 2 ≤ k ∧ ComsAt W r.2.1 r.2.2.1 r.1 ∧ ∀ c ∈ r.1, c.author.size + c.text.size ≤ k ∧ c.Nums) (fun H enc fuel cs x h hw => by
    obtain ⟨A, n, c, l, hc, hnc, hcm, hb, hs, hk⟩ := OpensK.slice Tryd.underlying33 cells_comment (by decide) bytes_comment (openK_com W) h hw
    have hall := hs.all (p := fun p : Com × Nat => p.1.author.size + p.1.text.size + 2 ≤ p.2 ∧ p.1.Nums) (fun b o q hm => by obtain ⟨_, _, _, h3, h4⟩ := hm; exact ⟨h3, h4⟩)
    have h2 := sum_ge (n := 2) (l := l) (fun p hp => by have := (hall p hp).1; omega)
    have hln : l.length = n := hs.len
    refine ⟨(l.map (fun p : Com × Nat => p.1), A, n, c), hc, hnc, (show n * 2 ≤ _ by omega), Sl.mapK (D := Cells Com.vals) hs fun b o p hm => ?_, fun e he => ?_⟩
    · obtain ⟨cs, h1, h2, _⟩ := hm
      subst h2
      exact h1
    · obtain ⟨p, hp, rfl⟩ := List.mem_map.1 he
      have h3 := hall p hp
      have h4 := mem_le hp
      exact ⟨by omega, h3.2⟩)
  rw [he] at h0 h1 h2 h3 h4 h5 h6 h7
  simp [cells_string, cells_bool, cells_int64, cells_rateD, cells_regs, cells_evts, cells_coms] at h0 h1 h2 h3 h4 h5 h6 h7 s0 s1 e6 e8 m6 m8 hks
  have n2 := bounds_u8 s2
  subst h0 h1 h2 h3 h4 h5 h6 h7
  dsimp only at *
  refine ⟨⟨a0, a1, a2, a3, a4, regs, evs, coms⟩, ⟨A5, n5, c5, A6, n6, c6, A7, n7, c7⟩, ?_, ⟨r7, e7, m7⟩, ⟨⟨⟨n2.1, n2.2, by simp only; omega, by simp only; omega⟩, r8, fun e hm => ev_small (by have := (e8 e hm).1; omega), fun e hm => (e8 e hm).2.1, fun c hm => ⟨(m8 c hm).2.1, (m8 c hm).2.2.1, by have := (m8 c hm).1; omega, by have := (m8 c hm).1; omega⟩⟩, fun e hm => (e8 e hm).2, fun c hm => (m8 c hm).2, bounds_i64 s4, by simp only; omega, by simp only; omega, by simp only; omega, ⟨r5, r6⟩, e5, m5⟩⟩
  have : cs = (Doc.cells ⟨a0, a1, a2, a3, a4, regs, evs, coms⟩ ⟨A5, n5, c5, A6, n6, c6, A7, n7, c7⟩) := Array.toList_inj.1 he
  rw [this]
end Go.Proofs.YtbfaghgjbipilaaDoor

/-! OpenC -/
namespace Go.Proofs.YtbfaghgjbipilaaDoor
set_option linter.unusedVariables false
set_option linter.unusedSimpArgs false
open Go.RowKit Go.ChangeShapes Go.WideShapes Go.ChangeAt
set_option maxRecDepth 100000
theorem argC_int64 {H : Type} {enc : TypeId × Value → H} {W : World} {base : Nat} {v : Value} {d : DataW H} {p : List MemPlace} (hv : Value.okWide Tryd.prog W .any base 2 v) (h : DataW.Trod enc Tryd.prog W 0 (fun _ => true) true 2 v d p)
    (hw : ∀ n ∈ d.weights Tryd.prog 2, n ≤ reachBytes) : ∃ a : Int, v = .int .i64 a ∧ IW a := by
  obtain ⟨fuel, h⟩ := h
  obtain ⟨a, ha, hb⟩ := Opens.int Tryd.underlying2 H enc fuel _ _ h hw
  unfold Value.okWide at hv
  rw [Tryd.underlying2] at hv
  cases v with
  | agg cs => exact absurd hv (by unfold Cell.okWide; rw [Tryd.underlying2]; simp [Cell.ok])
  | _ => first | (refine ⟨a, ?_, bounds_i64 hb⟩; exact (List.cons.inj ha).1) | (simp at hv; done)
theorem argC_string {H : Type} {enc : TypeId × Value → H} {W : World} {base : Nat} {v : Value} {d : DataW H} {p : List MemPlace} (hv : Value.okWide Tryd.prog W .any base 9 v) (h : DataW.Trod enc Tryd.prog W 0 (fun _ => true) true 9 v d p)
    (hw : ∀ n ∈ d.weights Tryd.prog 9, n ≤ reachBytes) : ∃ s : ByteArray, v = .string s ∧ s.size ≤ 140737488351232 := by
  obtain ⟨fuel, h⟩ := h
  obtain ⟨a, ha, hb⟩ := Opens.string Tryd.underlying9 H enc fuel _ _ h hw
  unfold Value.okWide at hv
  rw [Tryd.underlying9] at hv
  cases v with
  | agg cs => exact absurd hv (by unfold Cell.okWide; rw [Tryd.underlying9]; simp [Cell.ok])
  | _ => first | (refine ⟨a, ?_, hb⟩; exact (List.cons.inj ha).1) | (simp at hv; done)
/-- the lists of a document of one's own are short -/
def DocShort (d : Doc) : Prop := d.regs.length ≤ 16 ∧ d.evs.length ≤ 1000000 ∧ d.coms.length ≤ 1000000
theorem DocOwn.short {w : World} {L : Nat} {d : Doc} {h : DocH} (o : DocOwn w L d h) (s : DocShort d) : h.rn ≤ 1000000000 ∧ h.en ≤ 1000000000 ∧ h.cn ≤ 1000000000 := by
  have h1 := o.rlen
  have h2 := o.evs.len
  have h3 := o.clen
  obtain ⟨s1, s2, s3⟩ := s
  omega
theorem zero_short : DocShort Doc.zero := ⟨by decide, by decide, by decide⟩
theorem regs_short {l : List Reg} (h : regsErr l = 0) : l.length ≤ 16 := by
  unfold regsErr at h
  split at h
  · simp at h
  · omega
theorem valid_short {d : Doc} (h : d.err = 0) : DocShort d := by
  have := doc_ok h
  exact ⟨regs_short this.2.1, by omega, by omega⟩
end Go.Proofs.YtbfaghgjbipilaaDoor

/-! OpenR -/
namespace Go.Proofs.YtbfaghgjbipilaaDoor
set_option linter.unusedVariables false
set_option linter.unusedSimpArgs false
open Go.RowKit Go.ChangeShapes Go.WideShapes Go.ChangeAt
set_option maxRecDepth 100000
theorem Opens.array {P : Program} {W : World} {t e : TypeId} {n : Nat} (ht : P.underlying t = some (.array n e)) {H : Type} {enc : TypeId × Value → H} {fuel : Nat} {cs : List Value} {x : DataW H × List MemPlace}
    (h : DataW.trod enc P W 0 (fun _ => true) true fuel t cs = some x) (hw : ∀ n ∈ x.1.weights P t, n ≤ reachBytes) :
    cs.length = P.cellsOf t ∧ ∀ i, i < n → ∀ {α : Type} {R : List Value → α → Prop}, Opens P W e R → ∃ a, R ((cs.drop (i * P.cellsOf e)).take (P.cellsOf e)) a := by
  obtain ⟨xs, m, rfl, rfl, hl, hlen, hf⟩ := DataW.trod_array ht h
  refine ⟨hl, fun i hi α R hR => ?_⟩
  have h1 := hf i hi
  have hi' : i < xs.length := by omega
  rw [List.getElem?_eq_getElem hi'] at h1
  refine hR H enc m _ _ h1 (fun k hk => hw k ?_)
  simp only [DataW.weights, ht]
  exact weightsAll_mem (List.mem_map.2 ⟨_, List.getElem_mem hi', rfl⟩) hk
theorem agg_of_array {v : Value} {W : World} {t e : TypeId} {n b : Nat} (ht : Tryd.prog.underlying t = some (.array n e)) (hv : Value.okWide Tryd.prog W .any b t v) : ∃ cs, v = .agg cs := by
  unfold Value.okWide at hv
  rw [ht] at hv
  cases v <;> first | exact ⟨_, rfl⟩ | simp at hv
theorem cells_rate : Tryd.prog.cellsOf 30 = 1 := by kernel_rfl
/-- an argument that is a span -/
theorem arg_span47 {H : Type} {enc : TypeId × Value → H} {W : World} {base : Nat} {v : Value} {d : DataW H} {p : List MemPlace} (hv : Value.okWide Tryd.prog W .any base 37 v) (h : DataW.Trod enc Tryd.prog W 0 (fun _ => true) true 37 v d p)
    (hw : ∀ n ∈ d.weights Tryd.prog 37, n ≤ reachBytes) : ∃ a b : Int, v = .agg #[.int .i64 a, .int .i64 b] ∧ (-9223372036854775808 ≤ a ∧ a ≤ 9223372036854775807) ∧ (-9223372036854775808 ≤ b ∧ b ≤ 9223372036854775807) := by
  obtain ⟨cs, rfl⟩ := agg_of_cells Tryd.underlying37 hv
  obtain ⟨fuel, h⟩ := h
  obtain ⟨⟨a, b⟩, hc, ha, hb⟩ := open_span W H enc fuel _ _ h hw
  refine ⟨a, b, ?_, ha, hb⟩
  have : cs = #[.int .i64 a, .int .i64 b] := Array.toList_inj.1 hc
  rw [this]
theorem arg_rate {H : Type} {enc : TypeId × Value → H} {W : World} {base : Nat} {v : Value} {d : DataW H} {p : List MemPlace} (hv : Value.okWide Tryd.prog W .any base 30 v) (h : DataW.Trod enc Tryd.prog W 0 (fun _ => true) true 30 v d p)
    (hw : ∀ n ∈ d.weights Tryd.prog 30, n ≤ reachBytes) : ∃ k : Int, v = .int .u8 k ∧ 0 ≤ k ∧ k ≤ 255 := by
  obtain ⟨fuel, h⟩ := h
  obtain ⟨a, ha, hb⟩ := Opens.int Tryd.underlying30 H enc fuel _ _ h hw
  unfold Value.okWide at hv
  rw [Tryd.underlying30] at hv
  cases v with
  | agg cs => exact absurd hv (by unfold Cell.okWide; rw [Tryd.underlying30]; simp [Cell.ok])
  | _ => first | (refine ⟨a, ?_, (bounds_u8 hb).1, (bounds_u8 hb).2⟩; exact (List.cons.inj ha).1) | (simp at hv; done)
/-- an argument that is a byte -/
theorem arg_u8 {H : Type} {enc : TypeId × Value → H} {W : World} {base : Nat} {v : Value} {d : DataW H} {p : List MemPlace} (hv : Value.okWide Tryd.prog W .any base 5 v) (h : DataW.Trod enc Tryd.prog W 0 (fun _ => true) true 5 v d p)
    (hw : ∀ n ∈ d.weights Tryd.prog 5, n ≤ reachBytes) : ∃ k : Int, v = .int .u8 k ∧ 0 ≤ k ∧ k ≤ 255 := by
  obtain ⟨fuel, h⟩ := h
  obtain ⟨a, ha, hb⟩ := Opens.int Tryd.underlying5 H enc fuel _ _ h hw
  unfold Value.okWide at hv
  rw [Tryd.underlying5] at hv
  cases v with
  | agg cs => exact absurd hv (by unfold Cell.okWide; rw [Tryd.underlying5]; simp [Cell.ok])
  | _ => first | (refine ⟨a, ?_, (bounds_u8 hb).1, (bounds_u8 hb).2⟩; exact (List.cons.inj ha).1) | (simp at hv; done)
/-- an argument that is a truth value -/
theorem arg_bool {H : Type} {enc : TypeId × Value → H} {W : World} {base : Nat} {v : Value} {d : DataW H} {p : List MemPlace} (hv : Value.okWide Tryd.prog W .any base 4 v) (h : DataW.Trod enc Tryd.prog W 0 (fun _ => true) true 4 v d p)
    (hw : ∀ n ∈ d.weights Tryd.prog 4, n ≤ reachBytes) : ∃ k : Bool, v = .bool k := by
  obtain ⟨fuel, h⟩ := h
  obtain ⟨a, ha⟩ := Opens.bool Tryd.underlying4 H enc fuel _ _ h hw
  unfold Value.okWide at hv
  rw [Tryd.underlying4] at hv
  cases v with
  | agg cs => exact absurd hv (by unfold Cell.okWide; rw [Tryd.underlying4]; simp [Cell.ok])
  | _ => first | (refine ⟨a, ?_⟩; exact (List.cons.inj ha).1) | (simp at hv; done)
end Go.Proofs.YtbfaghgjbipilaaDoor
