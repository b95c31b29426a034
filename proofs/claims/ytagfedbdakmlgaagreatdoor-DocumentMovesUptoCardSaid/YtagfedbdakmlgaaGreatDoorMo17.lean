/- Laid together: A document without an event, plainly; own rows under the stores. Rows of one's own under an append with room and a clear. The walk of slices.Delete of events: one element. The walk of slices.Delete of comments: one element. The walk of comment.Remove. The walk of document.Remove. The walk of the reference's lose. The walk of the reference's Name. -/
import Derived.Test.YtagfedbdakmlgaaGreatDoorMo16
import Derived.Test.YtagfedbdakmlgaaGreatDoorMo14
import Derived.Test.YtagfedbdakmlgaaGreatDoorMo13
import Derived.Test.YtagfedbdakmlgaaGreatDoorMo02

/-! RemP -/
namespace Go.Proofs.YtagfedbdakmlgaaGreatDoor
set_option linter.unusedVariables false
set_option linter.unusedSimpArgs false
open Go.RowKit
def Com.lose (id : Int) (c : Com) : Com := if c.ev = id then ⟨c.id, c.ev, 0, 0, c.author, c.text, c.done, true⟩ else c
def Doc.cutE (d : Doc) (k : Nat) : Doc := ⟨d.title, d.lang, d.rate, d.drop, d.last, d.regs, d.evs.take k ++ d.evs.drop (k + 1), d.coms⟩
/-- what Remove comes to -/
def Doc.remX (d : Doc) (id : Int) : DE :=
  if d.err ≠ 0 then (Doc.zero, d.err) else match findE d.evs id with
    | none => (Doc.zero, 6)
    | some k => ((d.cutE k).withComs (d.coms.map (Com.lose id)), 0)
section
variable {d : Doc} {id : Int} {k : Nat}
theorem rem_1 (h : d.err ≠ 0) : d.remX id = (Doc.zero, d.err) := by unfold Doc.remX; rw [if_pos h]
theorem rem_2 (h : d.err = 0) (h2 : findE d.evs id = none) : d.remX id = (Doc.zero, 6) := by unfold Doc.remX; rw [if_neg (by simpa using h), h2]
theorem rem_3 (h : d.err = 0) (h2 : findE d.evs id = some k) : d.remX id = ((d.cutE k).withComs (d.coms.map (Com.lose id)), 0) := by unfold Doc.remX; rw [if_neg (by simpa using h), h2]
end
theorem DocOwn.ev_at {w : World} {L k : Nat} {d : Doc} {h : DocH} (o : DocOwn w L d h) (hk : k < h.en) : ∃ g, h.ea = some ⟨g, 0, none⟩ ∧ L ≤ g := by
  obtain ⟨hs, h1, -⟩ := o.evs
  rcases h1.2 with ⟨hv, hn⟩ | ⟨g, cap, cur, hv, hg, hb, hnc, hcm, hcs, ht⟩
  · omega
  · exact ⟨g, by injection hv, hg⟩
/-- events of one's own without one of them -/
theorem EvsOwn.cut {w w' : World} {L n k : Nat} {v : Value} {hs : List EH} {l : List Ev} (h2 : hs.length = n) (h3 : l.length = n) (h4 : ∀ (i : Nat) (h : EH) (e : Ev), hs[i]? = some h → l[i]? = some e → EGood w L h e) (hk : k < n)
    (k1 : KB 87 w w') (k2 : KB 84 w w') (ho : w'.ownsRow L 66 7 v (n - 1) ((hs.take k ++ hs.drop (k + 1)).flatMap EH.vals)) : EvsOwn w' L v (n - 1) (l.take k ++ l.drop (k + 1)) := by
  refine ⟨hs.take k ++ hs.drop (k + 1), ho, ?_, ?_, fun i h e hi he => ?_⟩
  · rw [List.length_append, List.length_take, List.length_drop]; omega
  · rw [List.length_append, List.length_take, List.length_drop]; omega
  · rw [List.getElem?_append] at hi he
    rw [List.length_take, h2] at hi
    rw [List.length_take, h3] at he
    split at hi
    · rename_i hlt
      rw [if_pos hlt] at he
      rw [List.getElem?_take_of_lt (by omega)] at hi he
      exact (h4 i h e hi he).kb k1 k2
    · rename_i hlt
      rw [if_neg hlt] at he
      rw [List.getElem?_drop] at hi he
      exact (h4 _ h e hi he).kb k1 k2
/-- a cell of a comment of a document of one's own is stored -/
theorem DocOwn.com_set {w : World} {L k j g : Nat} {d : Doc} {h : DocH} {c c' : Com} {u : Value} (o : DocOwn w L d h) (hca : h.ca = some ⟨g, 0, none⟩) (hc : d.coms[k]? = some c) (hv : c'.vals = c.vals.set j u) (hj : j < 8) :
    DocOwn (w.setCell ⟨g, k * 8 + j, none⟩ u) L (d.withComs (d.coms.set k c')) h ∧ w.grownBy (w.setCell ⟨g, k * 8 + j, none⟩ u) (some g) := by
  obtain ⟨a1, a2, a3, a4, a5⟩ := o
  have hty := own_typed a4
  rw [hca] at a4 hty
  have hs := a4.stored (k * 8 + j) u
  have hT : Typed w 78 g := hty g rfl
  have hkb : ∀ {T : TypeId}, T ≠ 78 → KB T w (w.setCell ⟨g, k * 8 + j, none⟩ u) := fun hne => KB.grown hs.2 (fun q hq => by cases hq; exact hT) hne
  have hfl : (d.coms.flatMap Com.vals).set (k * 8 + j) u = (d.coms.set k c').flatMap Com.vals := flatMap_setC (f := Com.vals) (s := 8) (fun _ => rfl) hc hv hj
  refine ⟨⟨own_kb a1 (hkb (by decide)), a2, a3.kb (hkb (by decide)) (hkb (by decide)) (hkb (by decide)), ?_, by show (d.coms.set k c').length = _; simpa using a5⟩, hs.2⟩
  show World.ownsRow _ _ _ _ _ _ ((d.coms.set k c').flatMap Com.vals)
  rw [← hfl, hca]
  exact hs.1
theorem DocOwn.com_cell {w : World} {L k j g : Nat} {d : Doc} {h : DocH} {c : Com} {u : Value} (o : DocOwn w L d h) (hca : h.ca = some ⟨g, 0, none⟩) (hc : d.coms[k]? = some c) (hu : c.vals[j]? = some u) : w.cell? ⟨g, k * 8 + j, none⟩ = some u ∧ w.frozen? ⟨g, k * 8 + j, none⟩ = false := by
  have hk := (List.getElem?_eq_some_iff.1 hc).1
  have hj : j < 8 := by have := (List.getElem?_eq_some_iff.1 hu).1; exact this
  have a4 := o.coms
  have hty := own_typed a4
  rw [hca] at a4 hty
  have a5 := o.clen
  exact ⟨by rw [a4.cellAt (k * 8 + j) (by omega), flatMap_at Com.vals 8 (fun _ => rfl) d.coms k c j hc hj, hu], (hty g rfl).frozen _⟩
theorem lose_step (id : Int) (l : List Com) (i : Nat) (c : Com) (h : l[i]? = some c) : ((l.take i).map (Com.lose id) ++ l.drop i)[i]? = some c ∧ ∀ c' : Com, ((l.take i).map (Com.lose id) ++ l.drop i).set i c' = (l.take i).map (Com.lose id) ++ c' :: l.drop (i + 1) := by
  have hi := (List.getElem?_eq_some_iff.1 h).1
  have hl : ((l.take i).map (Com.lose id)).length = i := by rw [List.length_map, List.length_take]; omega
  constructor
  · rw [List.getElem?_append_right (by omega), hl, Nat.sub_self, drop_at l i c h]; rfl
  · intro c'
    rw [List.set_append_right _ _ (by omega), hl, Nat.sub_self, drop_at l i c h]
    rfl
theorem lose_next (id : Int) (l : List Com) (i : Nat) (c : Com) (h : l[i]? = some c) : (l.take (i + 1)).map (Com.lose id) ++ l.drop (i + 1) = (l.take i).map (Com.lose id) ++ c.lose id :: l.drop (i + 1) := by
  rw [take_snoc' l i c h, List.map_append, List.append_assoc]
  rfl
end Go.Proofs.YtagfedbdakmlgaaGreatDoor

/-! DelP -/
namespace Go.Proofs.YtagfedbdakmlgaaGreatDoor
set_option linter.unusedVariables false
set_option linter.unusedSimpArgs false
open Go.RowKit
theorem setRow_put {w : World} {g : Nat} {t : TypeId} {cs cs' : Array Value} (h : Blk w g t cs) : w.setRow g cs' = putB w g t cs' := by
  unfold World.setRow putB
  congr 1
  apply Array.ext_getElem?
  intro i
  by_cases hi : g = i
  · subst hi
    rw [Array.getElem?_modify, if_pos rfl, h, Array.getElem?_setIfInBounds_self_of_lt h.lt]
    rfl
  · rw [Array.getElem?_modify, if_neg hi, Array.getElem?_setIfInBounds_ne hi]
/-- append where there is room, at a block that is known whole -/
theorem wp_append_room {P : Program} {o : Oper} {a : Act} {w : World} {K : Act → World → Prop} {Q : Exit → Act → World → Prop} (s x : Operand) (t : TypeId)
    (ho : o.op = .call { callee := .builtin .append, args := #[s, x], argTypes := #[t, t] }) {e : TypeId} {z : Value} {size bytes : Nat} (inf : (P.info? e).map (fun i => (i.zero, i.size, i.bytes)) = some (some z, size, bytes)) (ht : P.underlying t = some (.slice e))
    {g n cap : Nat} {cur : Array Value} (hB : Blk w g e cur) (hs : a.eval s = .slice (some ⟨g, 0, none⟩) n cap) {ad : Addr} {m c : Nat} {news : List Value} (hx : a.eval x = .slice (some ad) m c) (hl : news.length = m * size) (hnews : ∀ j u, news[j]? = some u → w.cell? (ad.add j) = some u)
    (h1 : ∀ u ∈ news, u.oneCell' = true) (hroom : n + m ≤ cap) (hfit : n * size + news.length ≤ cur.size)
    (h : K (a.put o.dst (.slice (some ⟨g, 0, none⟩) (n + m) cap)) (putB w g e (cur.toList.take (n * size) ++ news ++ cur.toList.drop (n * size + news.length)).toArray)) : o.wp P a w K Q := by
  obtain ⟨i, hi, hz0, hz1, hz2⟩ := info_parts inf
  subst hz1
  have hrun := run_append_room (P := P) w t o.type e i ht hi g n cap cur hB ad m c news hl hnews h1 hroom hfit
  rw [setRow_put hB] at hrun
  unfold Oper.wp execOp
  simp only [ho, resolve, invoke, builtin, Sem.run_bind, Sem.run_pure, Result.andThen_ok, List.map_toArray, List.map_cons, List.map_nil, hs, hx, hrun]
  exact h
theorem zeroCells_one (z : Array Value) (n : Nat) (h : z.all (·.oneCell') = true) : ∀ u ∈ (Builtin.zeroCells z n).toList, u.oneCell' = true := by
  intro u hu
  unfold Builtin.zeroCells at hu
  rw [Array.mem_toList_iff, Array.mem_map] at hu
  obtain ⟨i, hi, rfl⟩ := hu
  cases hz : z.size with
  | zero => rw [Array.mem_range] at hi; rw [hz] at hi; simp at hi
  | succ m =>
    have hlt : i % z.size < z.size := Nat.mod_lt _ (by omega)
    rw [hz] at hlt
    rw [getElem!_pos z (i % (m + 1)) (by omega)]
    exact (Array.all_eq_true_iff_forall_mem.1 h) _ (Array.getElem_mem _)
/-- clear, at a block that is known whole: what lies ahead stays -/
theorem run_clear_blk {P : Program} {w : World} {t e ty : TypeId} {z : Value} (ht : P.underlying t = some (.slice e)) (hv : ∀ w, (zeroValue e).run P w = .ok z w) (h1 : z.cells.all (·.oneCell') = true) {g o n c : Nat} {cur : Array Value} (hB : Blk w g e cur) (hfit : o + n * z.cells.size ≤ cur.size) :
    ∃ cur' : Array Value, cur'.size = cur.size ∧ cur'.toList.take o = cur.toList.take o ∧ (Builtin.clear_ #[t] ty #[.slice (some ⟨g, o, none⟩) n c]).run P w = .ok (.tuple #[]) (putB w g e cur') := by
  cases n with
  | zero =>
    refine ⟨cur, rfl, rfl, ?_⟩
    rw [putB_same hB]
    simp [Builtin.clear_, run_underlying ht]
  | succ n =>
    have hsz : (Builtin.zeroCells z.cells (n + 1)).toList.length = (n + 1) * z.cells.size := by simp [Builtin.zeroCells]
    have hst := run_storeCells_at P g o e (Builtin.zeroCells z.cells (n + 1)).toList 0 cur w hB (by rw [hsz]; simpa using hfit) (zeroCells_one _ _ h1)
    simp only [Nat.add_zero] at hst
    rw [setRow_put hB] at hst
    refine ⟨(cur.toList.take o ++ (Builtin.zeroCells z.cells (n + 1)).toList ++ cur.toList.drop (o + (Builtin.zeroCells z.cells (n + 1)).toList.length)).toArray, ?_, ?_, ?_⟩
    · simp [Builtin.zeroCells]; omega
    · rw [List.append_assoc, List.take_append_of_le_length (by simp; omega), List.take_take, Nat.min_self]
    · simp [Builtin.clear_, run_underlying ht, hv, hst]
end Go.Proofs.YtagfedbdakmlgaaGreatDoor

/-! DelE -/
namespace Go.Proofs.YtagfedbdakmlgaaGreatDoor
set_option linter.unusedVariables false
set_option linter.unusedSimpArgs false
open Go.RowKit
/-- an append in place, then its assignment, in a drawn region -/
structure DelJe (g : Nat) (cur2 : Array Value) (v : Value) (W : World) (us : List Value) (w' : World) : Prop where
  nil : us = [] → Ext W w'
  val : ∀ u, us = [u] → u = v
  vals : ∀ u u1, us = [u, u1] → u = v ∧ u1 = v
  one : us ≠ [] → ∃ w5, Ext W w5 ∧ w' = putB w5 g 66 cur2
section
variable {g : Nat} {cur2 : Array Value} {v : Value} {W w' : World}
theorem DelJe.start (W : World) : DelJe g cur2 v W [] W.drew := ⟨fun _ => (Ext.refl W).drew, fun u h => by simp at h, fun u u1 h => by simp at h, fun h => absurd rfl h⟩
theorem DelJe.app (h : DelJe g cur2 v W [] w') : DelJe g cur2 v W ([] ++ [v]) (putB w' g 66 cur2) := ⟨fun h => by simp at h, fun u h => by simpa using h.symm, fun u u1 h => by simp at h, fun _ => ⟨w', h.nil rfl, rfl⟩⟩
theorem DelJe.asg (h : DelJe g cur2 v W [v] w') : DelJe g cur2 v W ([v] ++ [v]) w' := ⟨fun h => by simp at h, fun u h => by simp at h, fun u u1 h => by simp at h; exact ⟨h.1.symm, h.2.symm⟩, fun _ => h.one (by simp)⟩
end
theorem zero_evt (w : World) : (zeroValue 66).run Tryz.prog w = .ok (.agg #[.int .i64 0, .int .i64 0, .int .i64 0, .string ⟨#[]⟩, .int .u8 0, .string ⟨#[]⟩, .slice none 0 0]) w := by kernel_rfl
set_option maxRecDepth 100000 in
set_option maxHeartbeats 4000000 in
theorem EDel_any {w : World} {L g n c k : Nat} {l : List EH} (hown : w.ownsRow L 66 7 (.slice (some ⟨g, 0, none⟩) n c) n (l.flatMap EH.vals)) (hl : l.length = n) (hk : k < n) :
    Calls Tryz.prog 92 #[.slice (some ⟨g, 0, none⟩) n c, .int .i64 (k : Int), .int .i64 ((k : Int) + 1)] w fun en w' => en = .returned (.slice (some ⟨g, 0, none⟩) (n - 1) c) ∧ w'.ownsRow L 66 7 (.slice (some ⟨g, 0, none⟩) (n - 1) c) (n - 1) ((l.take k ++ l.drop (k + 1)).flatMap EH.vals) ∧
      ∃ cur w2 cur', Blk w g 66 cur ∧ Ext w w2 ∧ w' = putB w2 g 66 cur' := by
  rcases hown.2 with ⟨hv, hn⟩ | ⟨g', cap, cur, hv, hg, hb, hnc, hcm, hcs, ht⟩
  · omega
  cases hv
  have hB : Blk w g 66 cur := hb
  have hsrc0 : (l.drop (k + 1)).flatMap EH.vals = (l.flatMap EH.vals).drop ((k + 1) * 7) := (flatMap_drop (f := EH.vals) (s := 7) (fun _ => rfl) l (k + 1)).symm
  obtain ⟨news, hnews⟩ : ∃ news, news = (l.drop (k + 1)).flatMap EH.vals := ⟨_, rfl⟩
  have hlen : news.length = (n - (k + 1)) * 7 := by rw [hnews, flatMap_len EH.vals 7 (fun _ => rfl), List.length_drop, hl]
  have hcell : ∀ j u, news[j]? = some u → w.cell? ⟨g, (k + 1) * 7 + j, none⟩ = some u := fun j u hu => by
    have hj : j < (n - (k + 1)) * 7 := by rw [← hlen]; exact (List.getElem?_eq_some_iff.1 hu).1
    rw [hown.cellAt ((k + 1) * 7 + j) (by omega), ← List.getElem?_drop, ← hsrc0, ← hnews, hu]
  obtain ⟨A, hA, hsrc⟩ : ∃ A : Addr, (if c = k + 1 then (some ⟨g, 0, none⟩ : Option Addr) else some ⟨g, (k + 1) * 7, none⟩) = some A ∧ (∀ j u, news[j]? = some u → w.cell? (A.add j) = some u) := by
    by_cases h : c = k + 1
    · refine ⟨⟨g, 0, none⟩, by rw [if_pos h], fun j u hu => ?_⟩
      have h0 : news.length = 0 := by rw [hlen]; omega
      rw [List.length_eq_zero_iff.1 h0] at hu
      simp at hu
    · exact ⟨⟨g, (k + 1) * 7, none⟩, by rw [if_neg h], fun j u hu => by rw [Addr.add_mid]; exact hcell j u hu⟩
  have HB := Lib.hid hB
  have HLn := Lib.hid hlen
  have HSrc := Lib.hid hsrc
  have HOne : Hid (∀ u ∈ news, u.oneCell' = true) := by
    show ∀ u ∈ news, _
    rw [hnews]
    exact flatMap_one EH.ones _
  have HFit : Hid (k * 7 + news.length ≤ cur.size) := by show _ ≤ _; rw [hlen, hcs]; omega
  obtain ⟨cur2, hcur2⟩ : ∃ cur2, cur2 = (cur.toList.take (k * 7) ++ news ++ cur.toList.drop (k * 7 + news.length)).toArray := ⟨_, rfl⟩
  have hcs2 : cur2.size = cur.size := by
    have := HFit.out
    rw [hcur2]; simp; omega
  obtain ⟨w2, hw2⟩ : ∃ w2, w2 = w := ⟨_, rfl⟩
  have hne : ((k : Int) == (k : Int) + 1) = false := by simp; omega
  have hkc : k ≤ c := by omega
  have hk1 : k + 1 ≤ c := by omega
  have hbd : 0 ≤ (k : Int) + 1 ∧ (k : Int) + 1 ≤ (n : Int) := by omega
  go_enter Tryz.func92, Tryz.ntmps92
  go_upto_region 5 with fail
  rw [← hw2] at HB HSrc ⊢
  have HC2 := Lib.hid hcur2
  have HD := Lib.hid hnews
  have HW2 := Lib.hid hw2
  have HT := Lib.hid ht
  have HBo := Lib.hid hB
  clear hcur2 hnews hsrc hcell hsrc0 hlen hw2 hown ht hb hB
  refine wp_region_links [some 20, some 21, some 22, some 23, some 24, some 25, some 26, some 0] [[], [], [0, 1], [], [], [3, 4], [2, 5], [6, 6, 0, 1, 2, 3, 4, 5, 6]] [6, 7] [.slice (some ⟨g, 0, none⟩) n c, .int .i64 (k : Int), .slice (some ⟨g, 0, none⟩) k c, .slice (some ⟨g, 0, none⟩) n c, .int .i64 ((k : Int) + 1), .slice (some A) (n - (k + 1)) (c - (k + 1)), undef, undef] (DelJe g cur2 (.slice (some ⟨g, 0, none⟩) (k + (n - (k + 1))) c) w2) (by kernel_rfl) (by kernel_rfl) (by kernel_rfl) (by kernel_rfl) (by kernel_rfl) (by kernel_rfl) (by kernel_rfl) (by decide) ?_ ?_ ?_ ?_
  · exact DelJe.start w2
  · intro i o ho hc a w' us K' hJ hF hlim hk
    match i, ho with
    | 0, ho =>
      simp only [List.getElem?_toArray, List.getElem?_cons_zero, List.getElem?_cons_succ, Option.some.injEq] at ho
      subst ho
      have e0 := hF.olds 1 7 0 (.slice (some ⟨g, 0, none⟩) n c) rfl rfl (hlim 1 7 rfl rfl) rfl
      simp only [Act.eval] at e0
      clear hF hlim hJ
      go_simp
      exact hk
    | 1, ho =>
      simp only [List.getElem?_toArray, List.getElem?_cons_zero, List.getElem?_cons_succ, Option.some.injEq] at ho
      subst ho
      have e1 := hF.old 1 (.int .i64 (k : Int)) rfl rfl
      simp only [Act.eval] at e1
      clear hF hlim hJ
      go_simp
      exact hk
    | 2, ho =>
      simp only [List.getElem?_toArray, List.getElem?_cons_zero, List.getElem?_cons_succ, Option.some.injEq] at ho
      subst ho
      have e20 := hF.pure 0 20 (.slice (some ⟨g, 0, none⟩) n c) rfl rfl rfl rfl
      have e21 := hF.pure 1 21 (.int .i64 (k : Int)) rfl rfl rfl rfl
      simp only [Act.eval] at e20 e21
      clear hF hlim hJ
      go_simp
      exact hk
    | 3, ho =>
      simp only [List.getElem?_toArray, List.getElem?_cons_zero, List.getElem?_cons_succ, Option.some.injEq] at ho
      subst ho
      have e0 := hF.olds 1 7 0 (.slice (some ⟨g, 0, none⟩) n c) rfl rfl (hlim 1 7 rfl rfl) rfl
      simp only [Act.eval] at e0
      clear hF hlim hJ
      go_simp
      exact hk
    | 4, ho =>
      simp only [List.getElem?_toArray, List.getElem?_cons_zero, List.getElem?_cons_succ, Option.some.injEq] at ho
      subst ho
      have e2 := hF.old 2 (.int .i64 ((k : Int) + 1)) rfl rfl
      simp only [Act.eval] at e2
      clear hF hlim hJ
      go_simp
      exact hk
    | 5, ho =>
      simp only [List.getElem?_toArray, List.getElem?_cons_zero, List.getElem?_cons_succ, Option.some.injEq] at ho
      subst ho
      have e23 := hF.pure 3 23 (.slice (some ⟨g, 0, none⟩) n c) rfl rfl rfl rfl
      have e24 := hF.pure 4 24 (.int .i64 ((k : Int) + 1)) rfl rfl rfl rfl
      simp only [Act.eval] at e24 e23
      clear hF hlim hJ
      go_simp
      exact hk
    | 6, ho => simp at hc
    | 7, ho => simp at hc
    | i + 8, ho => simp at ho
  · intro p c' o hp ho a w' us K' hl hJ hF hk
    match p, hp with
    | 0, hp =>
      obtain rfl : 6 = c' := by simpa using hp
      simp only [List.getElem?_toArray, List.getElem?_cons_zero, List.getElem?_cons_succ, Option.some.injEq] at ho
      subst ho
      obtain rfl : us = [] := List.eq_nil_of_length_eq_zero hl
      have e22 := hF.pure 2 22 (.slice (some ⟨g, 0, none⟩) k c) rfl rfl rfl rfl
      have e25 := hF.pure 5 25 (.slice (some A) (n - (k + 1)) (c - (k + 1))) rfl rfl rfl rfl
      exact wp_append_room (.tmp 22) (.tmp 25) 24 rfl info_evtI Tryz.underlying24 (HB.out.ext (hJ.nil rfl)) e22 e25 HLn.out (fun j u hu => (hJ.nil rfl).cell (HSrc.out j u hu)) HOne.out (by omega) HFit.out (by rw [← HC2.out]; exact hk _ _ hJ.app)
    | 1, hp =>
      obtain rfl : 7 = c' := by simpa using hp
      simp only [List.getElem?_toArray, List.getElem?_cons_zero, List.getElem?_cons_succ, Option.some.injEq] at ho
      subst ho
      obtain ⟨u0, rfl⟩ := list_1 hl
      obtain rfl := hJ.val u0 rfl
      have e26 := hF.link 0 6 26 _ rfl rfl rfl rfl
      exact wp_assignx _ _ rfl e26 (hk _ _ hJ.asg)
    | p + 2, hp => simp at hp
  intro us w5 hl hJ
  obtain ⟨u0, u1, rfl⟩ := list_2 hl
  first | (rename_i hK; refine hK _ _ ?_; clear hK) | (rename_i hK hK_1; refine hK _ _ ?_; clear hK) | (rename_i hK hK_1 hK_2; refine hK _ _ ?_; clear hK) | (rename_i hK hK_1 hK_2 hK_3; refine hK _ _ ?_; clear hK)
  generalize hL : frameL _ _ _ _ = L
  obtain rfl : L = [(20, .slice (some ⟨g, 0, none⟩) n c), (21, .int .i64 (k : Int)), (22, .slice (some ⟨g, 0, none⟩) k c), (23, .slice (some ⟨g, 0, none⟩) n c), (24, .int .i64 ((k : Int) + 1)), (25, .slice (some A) (n - (k + 1)) (c - (k + 1))), (26, u0), (0, u1)] := hL.symm.trans (by kernel_rfl)
  clear hL hl
  simp only [Act.put, List.foldl_cons, List.foldl_nil, List.setIfInBounds_toArray, List.set_cons_zero, List.set_cons_succ]

  obtain ⟨rfl, rfl⟩ := hJ.vals u0 u1 rfl
  obtain ⟨w9, hx9, rfl⟩ := hJ.one (by simp)
  clear hJ
  rw [show k + (n - (k + 1)) = n - 1 by omega]
  have hcl : n - 1 ≤ c := by omega
  have hcl2 : ¬ c = n - 1 := by omega
  have HB9 := Lib.hid ((HB.out.ext hx9).put cur2)
  have hcs3 := hcs2
  obtain ⟨cur', hz1, hz2, hrun⟩ := run_clear_blk (P := Tryz.prog) (w := putB w9 g 66 cur2) (t := 24) (e := 66) (ty := 0) (c := c - (n - 1)) (n := n - (n - 1)) (o := (n - 1) * 7) (g := g) (cur := cur2) Tryz.underlying24 zero_evt (by simp [Value.cells, Value.oneCell']) HB9.out (by show _ + _ * 7 ≤ _; omega)
  have HZ1 := Lib.hid hz1
  have HZ2 := Lib.hid hz2
  clear hz1 hz2
  go_wp2_with fail
  go_ret
  have hx' : Ext w w9 := by have := HW2.out; subst this; exact hx9
  refine ⟨rfl, ⟨?_, .inr ⟨g, c, cur', rfl, hg, ((HB.out.ext hx9).put cur2).put cur', by omega, hcm, by have := HZ1.out; omega, ?_⟩⟩, cur, w9, cur', HBo.out, hx', by rw [putB_putB]⟩
  · rw [flatMap_len EH.vals 7 (fun _ => rfl), List.length_append, List.length_take, List.length_drop, hl]
    omega
  · have e1 : cur.toList.take (k * 7) = (l.take k).flatMap EH.vals := by
      rw [← flatMap_take (f := EH.vals) (s := 7) (fun _ => rfl) l k, ← HT.out, List.take_take, Nat.min_eq_left (by omega)]
    rw [HZ2.out, HC2.out, HD.out, e1, List.flatMap_append]
    have e2 : ((l.take k).flatMap EH.vals ++ (l.drop (k + 1)).flatMap EH.vals).length = (n - 1) * 7 := by
      rw [← List.flatMap_append, flatMap_len EH.vals 7 (fun _ => rfl), List.length_append, List.length_take, List.length_drop, hl]
      omega
    rw [List.take_append_of_le_length (by rw [e2]; exact Nat.le_refl _), ← e2, List.take_length]
end Go.Proofs.YtagfedbdakmlgaaGreatDoor

/-! DelC -/
namespace Go.Proofs.YtagfedbdakmlgaaGreatDoor
set_option linter.unusedVariables false
set_option linter.unusedSimpArgs false
open Go.RowKit
/-- an append in place, then its assignment, in a drawn region -/
structure DelJ (g : Nat) (cur2 : Array Value) (v : Value) (W : World) (us : List Value) (w' : World) : Prop where
  nil : us = [] → Ext W w'
  val : ∀ u, us = [u] → u = v
  vals : ∀ u u1, us = [u, u1] → u = v ∧ u1 = v
  one : us ≠ [] → ∃ w5, Ext W w5 ∧ w' = putB w5 g 78 cur2
section
variable {g : Nat} {cur2 : Array Value} {v : Value} {W w' : World}
theorem DelJ.start (W : World) : DelJ g cur2 v W [] W.drew := ⟨fun _ => (Ext.refl W).drew, fun u h => by simp at h, fun u u1 h => by simp at h, fun h => absurd rfl h⟩
theorem DelJ.app (h : DelJ g cur2 v W [] w') : DelJ g cur2 v W ([] ++ [v]) (putB w' g 78 cur2) := ⟨fun h => by simp at h, fun u h => by simpa using h.symm, fun u u1 h => by simp at h, fun _ => ⟨w', h.nil rfl, rfl⟩⟩
theorem DelJ.asg (h : DelJ g cur2 v W [v] w') : DelJ g cur2 v W ([v] ++ [v]) w' := ⟨fun h => by simp at h, fun u h => by simp at h, fun u u1 h => by simp at h; exact ⟨h.1.symm, h.2.symm⟩, fun _ => h.one (by simp)⟩
end
end Go.Proofs.YtagfedbdakmlgaaGreatDoor

/-! RemD -/
namespace Go.Proofs.YtagfedbdakmlgaaGreatDoor
set_option linter.unusedVariables false
set_option linter.unusedSimpArgs false
open Go.RowKit
theorem DocOwn.com_at {w : World} {L k : Nat} {d : Doc} {h : DocH} (o : DocOwn w L d h) (hk : k < h.cn) : ∃ g, h.ca = some ⟨g, 0, none⟩ ∧ L ≤ g := by
  rcases o.coms.2 with ⟨hv, hn⟩ | ⟨g, cap, cur, hv, hg, hb, hnc, hcm, hcs, ht⟩
  · omega
  · exact ⟨g, by injection hv, hg⟩
end Go.Proofs.YtagfedbdakmlgaaGreatDoor

/-! RemvD -/
namespace Go.Proofs.YtagfedbdakmlgaaGreatDoor
set_option linter.unusedVariables false
set_option linter.unusedSimpArgs false
open Go.RowKit
def RemLoop (d : Doc) (k : Nat) (id : Int) (w : World) (h : DocH) (L : Nat) (cs : Array Value) (v : Value) (wr : World) : Prop :=
  ∃ i : Nat, i ≤ h.cn ∧ v = .int .i64 i ∧ Ext w wr ∧ Blk wr w.heap.size 27 cs ∧ Blk wr (w.heap.size + 1) 27 docZero ∧ DocOwn wr L ((d.cutE k).withComs ((d.coms.take i).map (Com.lose id) ++ d.coms.drop i)) h
theorem blk_away {w w1 : World} {g : Nat} {t : TypeId} {cs : Array Value} {row : Option Nat} (h : Blk w g t cs) (hg : w.grownBy w1 row) (hne : some g ≠ row) : Blk w1 g t cs := (hg.block g h.lt hne).trans h
set_option maxRecDepth 100000 in
set_option maxHeartbeats 4000000 in
theorem DRemove_any (d : Doc) (h : DocH) (id : Int) (w : World) (hE : Env w) (hat : DocAt w d h) (hf : DocFit d) (hrn : h.rn ≤ 9223372036854775807) (hr : h.rn * 56 ≤ 140737488355328) (hn : h.en ≤ 1000000) (hcn : h.cn ≤ 1000000) :
    Calls Tryz.prog 30 #[.agg (d.cells h), .int .i64 id] w (DEPost (d.remX id) w) := by
  have HX : Hid (Ext w ((w.alloc (.cells (d.cells h) 27)).alloc (.cells docZero 27))) := ((Ext.refl w).alloc _).alloc _
  have HB : Hid (Blk ((w.alloc (.cells (d.cells h) 27)).alloc (.cells docZero 27)) w.heap.size 27 (d.cells h)) := (Blk.new w _ _).alloc _
  have HZ : Hid (Blk ((w.alloc (.cells (d.cells h) 27)).alloc (.cells docZero 27)) (w.heap.size + 1) 27 docZero) := Blk.new' (by simp)
  have HCk := Lib.hid (fun w' (hx : Ext w w') => DCheck_any d h w' (hE.ext hx) (hat.ext hx) hf hrn hn (by omega))
  have HFd := Lib.hid (fun w' (hx : Ext w w') => DFind_any d h id w' (hat.evs.ext hx) (by omega))
  have HCl := Lib.hid (fun w' (hx : Ext w w') => DClone_any d h w' (hat.ext hx) hr (by omega) (by omega))
  have HEln := Lib.hid hat.evs.len
  have HAt := Lib.hid hat.coms
  have HCln := Lib.hid hat.coms.len
  have END : ∀ (w9 : World) (e : Int), Ext w w9 → Blk w9 (w.heap.size + 1) 27 docZero → d.remX id = (Doc.zero, e) → ∀ (tmps : Array Value), tmps.getD 4 undef = .pointer (some ⟨w.heap.size + 1, 0, none⟩) → tmps.getD 5 undef = .int .i64 e →
      (results Tryz.f30 tmps).run Tryz.prog (putB w9 (w.heap.size + 1) 27 docZero) = .ok (.tuple #[.agg docZero, .int .i64 e]) (putB w9 (w.heap.size + 1) 27 docZero) ∧
        DEPost (d.remX id) w (.returned (.tuple #[.agg docZero, .int .i64 e])) (putB w9 (w.heap.size + 1) 27 docZero) := fun w9 e hx hz he tmps h8 h9 => by
    refine ⟨?_, dePost_err he (hx.put (by omega) _ _)⟩
    have := results_B_tmp (P := Tryz.prog) Tryz.results30 (tmps := tmps) (w := putB w9 (w.heap.size + 1) 27 docZero) (g := w.heap.size + 1) h8 (hz.put _) Tryz.underlying27 rfl size_docI
    rw [this, h9]
  have HEnd := Lib.hid END
  clear END hat hE hf hrn hr
  obtain ⟨hra, nr, hrc, hea, hen, hec, hca, nc, hcc⟩ := h
  unfold DClPost at HCl
  unfold Doc.cells docZero at *
  dsimp only at *
  go_enter Tryz.func30, Tryz.ntmps30
  go_wp2_with (refine wpList_loadB rfl 27 (.tmp 2) rfl (w.heap.size) 27 _ _ (by exact rfl) (by exact HB.out) Tryz.underlying27 rfl (by exact size_docI) ?_)
  refine (HCk.out _ HX.out).mono ?_
  rintro en w0 ⟨rfl, hx0⟩
  have HX0 := Lib.hid (HX.out.trans hx0)
  have HB0 := Lib.hid (HB.out.ext hx0)
  have HZ0 := Lib.hid (HZ.out.ext hx0)
  clear hx0 HX HB HZ HCk
  by_cases h0 : d.err = 0
  case neg =>
    have hne2 : (d.err != 0) = true := by simpa using h0
    have HR1 : Hid (d.remX id = (Doc.zero, d.err)) := rem_1 h0
    clear h0
    go_wp2_with (refine wpList_storeB rfl 27 (.tmp 4) _ rfl (w.heap.size + 1) 27 _ _ (by exact rfl) (by exact rfl) (by exact HZ0.out) (by exact rfl) (by exact size_docI) (by simp [Value.oneCell']) ?_)
    exact (fun q => bodyPost_ret q.1 rfl q.2) (HEnd.out _ _ HX0.out HZ0.out (HR1.out) _ (by exact rfl) (by exact rfl))
  have HC := Lib.hid h0
  rw [h0]
  clear h0
  go_wp2_with (refine wpList_loadB rfl 27 (.tmp 2) rfl (w.heap.size) 27 _ _ (by exact rfl) (by exact HB0.out) Tryz.underlying27 rfl (by exact size_docI) ?_)
  refine (HFd.out _ HX0.out).mono ?_
  rintro en w1 ⟨rfl, hx1⟩
  have HX1 := Lib.hid (HX0.out.trans hx1)
  have HB1 := Lib.hid (HB0.out.ext hx1)
  have HZ1 := Lib.hid (HZ0.out.ext hx1)
  clear hx1 HX0 HB0 HZ0 HFd
  cases hfc : findE d.evs id with
  | none =>
    have hfi : findI d.evs id = -1 := by unfold findI; rw [hfc]
    have HR1 : Hid (d.remX id = (Doc.zero, 6)) := rem_2 HC.out hfc
    rw [hfi]
    clear hfc hfi
    go_wp2_with (refine wpList_storeB rfl 27 (.tmp 4) _ rfl (w.heap.size + 1) 27 _ _ (by exact rfl) (by exact rfl) (by exact HZ1.out) (by exact rfl) (by exact size_docI) (by simp [Value.oneCell']) ?_)
    exact (fun q => bodyPost_ret q.1 rfl q.2) (HEnd.out _ _ HX1.out HZ1.out (HR1.out) _ (by exact rfl) (by exact rfl))
  | some k =>
  have hfi : findI d.evs id = (k : Int) := by unfold findI; rw [hfc]
  have hkl : k < hen := by have h1 := findE_lt hfc; have h2 := HEln.out; omega
  have HF := Lib.hid hfc
  rw [hfi]
  clear hfc hfi
  have HR1 : Hid (d.remX id = ((d.cutE k).withComs (d.coms.map (Com.lose id)), 0)) := rem_3 HC.out HF.out
  go_wp2_with (refine wpList_loadB rfl 27 (.tmp 2) rfl (w.heap.size) 27 _ _ (by exact rfl) (by exact HB1.out) Tryz.underlying27 rfl (by exact size_docI) ?_)
  refine (HCl.out _ HX1.out).mono ?_
  rintro en w5 ⟨⟨ra, rn, rc, ea, en5, ec, ca, cn, cc⟩, rfl, ho5, hx5⟩
  dsimp only
  have hsz := HX1.out.size
  have hszz := HZ1.out.lt
  have hen5 : k < en5 := by have := ho5.evs.len; have := HEln.out; dsimp only at *; omega
  have hen6 : en5 ≤ 1000000 := by have := ho5.evs.len; have := HEln.out; dsimp only at *; omega
  have hcn6 : cn ≤ 1000000 := by have := ho5.clen; have := HCln.out; dsimp only at *; omega
  obtain ⟨g, hea5, hLg⟩ := ho5.ev_at hen5
  dsimp only at hea5
  subst hea5
  have HX5 := Lib.hid (HX1.out.trans hx5)
  have HB5 := Lib.hid (HB1.out.ext hx5)
  have HZ5 := Lib.hid (HZ1.out.ext hx5)
  have HO5 := Lib.hid (DocOwn.put ho5 HB5.out #[.string d.title, .string d.lang, .int .u8 d.rate, .bool d.drop, .int .i64 d.last, .slice ra rn rc, .slice (some ⟨g, 0, none⟩) en5 ec, .slice ca cn cc])
  have HP5 := Lib.hid (HB5.out.put #[.string d.title, .string d.lang, .int .u8 d.rate, .bool d.drop, .int .i64 d.last, .slice ra rn rc, .slice (some ⟨g, 0, none⟩) en5 ec, .slice ca cn cc])
  have HZ5' := Lib.hid (HZ5.out.put_other (g' := w.heap.size) (t' := 27) (by omega) #[.string d.title, .string d.lang, .int .u8 d.rate, .bool d.drop, .int .i64 d.last, .slice ra rn rc, .slice (some ⟨g, 0, none⟩) en5 ec, .slice ca cn cc])
  have HX5' := Lib.hid (HX5.out.put (g := w.heap.size) (Nat.le_refl _) 27 #[.string d.title, .string d.lang, .int .u8 d.rate, .bool d.drop, .int .i64 d.last, .slice ra rn rc, .slice (some ⟨g, 0, none⟩) en5 ec, .slice ca cn cc])
  have hcp := fun o => HP5.out.cell o
  clear ho5 hx5 HX5 HZ5
  go_wp2_with (refine wpList_storeB rfl 27 (.tmp 2) _ rfl (w.heap.size) 27 _ _ (by exact rfl) (by exact rfl) (by exact HB5.out) (by exact rfl) (by exact size_docI) (by simp [Value.oneCell']) ?_)
  clear hcp
  obtain ⟨hs, hown, hh, hel, hgd⟩ := HO5.out.evs
  dsimp only at hown hh hel hgd
  have HGd := Lib.hid hgd
  have HHh := Lib.hid hh
  have HHe := Lib.hid hel
  clear hgd hel
  refine (EDel_any hown hh hen5).mono ?_
  rintro en w6 ⟨rfl, hrow, cur, w7, cur', hBc, hx7, rfl⟩
  have hBc7 := hBc.ext hx7
  have HX6 := Lib.hid ((HX5'.out.trans hx7).put (g := g) (by omega) 66 cur')
  have HP6 := Lib.hid ((HP5.out.ext hx7).kb (KB.put (cs' := cur') hBc7 (by decide)))
  have HZ6 := Lib.hid ((HZ5'.out.ext hx7).kb (KB.put (cs' := cur') hBc7 (by decide)))
  have HO6 : Hid (DocOwn (putB w7 g 66 cur') w1.heap.size (d.cutE k) ⟨ra, rn, rc, some ⟨g, 0, none⟩, en5 - 1, ec, ca, cn, cc⟩) :=
    ⟨own_kb (own_ext HO5.out.regs hx7) (KB.put hBc7 (by decide)), HO5.out.rlen, EvsOwn.cut HHh.out HHe.out HGd.out hen5 ((KB.ext hx7).trans (KB.put hBc7 (by decide))) ((KB.ext hx7).trans (KB.put hBc7 (by decide))) hrow, own_kb (own_ext HO5.out.coms hx7) (KB.put hBc7 (by decide)), HO5.out.clen⟩
  have hs6 := setCell_put HP6.out 6 (.slice (some ⟨g, 0, none⟩) (en5 - 1) ec)
  have hc6 := HP6.out.cell 6
  have hf6 := HP6.out.frozen 6
  simp at hs6 hc6
  have HP7 := Lib.hid (HP6.out.put #[.string d.title, .string d.lang, .int .u8 d.rate, .bool d.drop, .int .i64 d.last, .slice ra rn rc, .slice (some ⟨g, 0, none⟩) (en5 - 1) ec, .slice ca cn cc])
  have HZ7 := Lib.hid (HZ6.out.put_other (g' := w.heap.size) (t' := 27) (by omega) #[.string d.title, .string d.lang, .int .u8 d.rate, .bool d.drop, .int .i64 d.last, .slice ra rn rc, .slice (some ⟨g, 0, none⟩) (en5 - 1) ec, .slice ca cn cc])
  have HX7 := Lib.hid (HX6.out.put (g := w.heap.size) (Nat.le_refl _) 27 #[.string d.title, .string d.lang, .int .u8 d.rate, .bool d.drop, .int .i64 d.last, .slice ra rn rc, .slice (some ⟨g, 0, none⟩) (en5 - 1) ec, .slice ca cn cc])
  have HO7 := Lib.hid (HO6.out.put HP6.out #[.string d.title, .string d.lang, .int .u8 d.rate, .bool d.drop, .int .i64 d.last, .slice ra rn rc, .slice (some ⟨g, 0, none⟩) (en5 - 1) ec, .slice ca cn cc])
  clear hrow hBc hx7 hBc7 HX5' HZ5' HP5 HB5 HO5 HGd hown hh HHh HHe
  go_upto_region 9 with fail
  clear hs6 hc6 hf6
  obtain ⟨W, hW⟩ : ∃ W, W = putB (putB w7 g 66 cur') w.heap.size 27 #[.string d.title, .string d.lang, .int .u8 d.rate, .bool d.drop, .int .i64 d.last, .slice ra rn rc, .slice (some ⟨g, 0, none⟩) (en5 - 1) ec, .slice ca cn cc] := ⟨_, rfl⟩
  rw [← hW] at HP7 HZ7 HX7 HO7 ⊢
  clear hW HP6 HZ6 HX6 HO6
  have hcp := fun o => HP7.out.cell o
  have hcl7 := HO7.out.clen
  dsimp only at hcl7
  go_wp2_with fail
  clear hcp
  go_loopw [34] (fun i wr => RemLoop d k id w ⟨ra, rn, rc, some ⟨g, 0, none⟩, en5 - 1, ec, ca, cn, cc⟩ w1.heap.size #[.string d.title, .string d.lang, .int .u8 d.rate, .bool d.drop, .int .i64 d.last, .slice ra rn rc, .slice (some ⟨g, 0, none⟩) (en5 - 1) ec, .slice ca cn cc] i wr) (fun i _ => cn - (intOf i).toNat)
  case atStart => exact ⟨0, Nat.zero_le _, rfl, HX7.out, HP7.out, HZ7.out, HO7.out⟩
  case round =>
    obtain ⟨i, hi, rfl, hx8, hp8, hz8, ho8⟩ := hrel
    dsimp only at hi
    have HX8 := Lib.hid hx8
    have HP8 := Lib.hid hp8
    have HZ8 := Lib.hid hz8
    have HO8 := Lib.hid ho8
    clear hx8 hp8 hz8 ho8 HX7 HP7 HZ7 HO7
    by_cases hlt : i < cn
    · obtain ⟨gc, hgc, hLc⟩ := HO8.out.com_at hlt
      dsimp only at hgc
      have hgcs := hgc
      subst hgc
      obtain ⟨c, hc0⟩ : ∃ c, d.coms[i]? = some c := ⟨_, List.getElem?_eq_getElem (by have : d.coms.length = cn := hcl7; omega)⟩
      have hls := lose_step id d.coms i c hc0
      have HNx := Lib.hid (lose_next id d.coms i c hc0)
      have HLs := Lib.hid hls.2
      have e1 := HO8.out.com_cell (j := 1) hgcs hls.1 rfl
      have e2 := HO8.out.com_cell (j := 2) hgcs hls.1 rfl
      have e3 := HO8.out.com_cell (j := 3) hgcs hls.1 rfl
      have e7 := HO8.out.com_cell (j := 7) hgcs hls.1 rfl
      obtain ⟨e1, -⟩ := e1
      obtain ⟨e2, f2⟩ := e2
      obtain ⟨e3, f3⟩ := e3
      obtain ⟨e7, f7⟩ := e7
      have hcp := fun o => HP8.out.cell o
      have HL1 := Lib.hid hls.1
      have HGc := Lib.hid hgcs
      have HC0 := Lib.hid hc0
      clear hls hc0
      by_cases hev : c.ev = id
      · have heb : (c.ev == id) = true := by simpa using hev
        have HLc : Hid (c.lose id = ⟨c.id, c.ev, 0, 0, c.author, c.text, c.done, true⟩) := by show _ = _; unfold Com.lose; rw [if_pos hev]
        clear hev
        have s1 := HO8.out.com_set (c' := ⟨c.id, c.ev, 0, c.til, c.author, c.text, c.done, c.lost⟩) (j := 2) (u := .int .i64 0) hgcs HL1.out rfl (by decide)
        obtain ⟨o1, g1⟩ := s1
        have hil : i < ((d.coms.take i).map (Com.lose id) ++ d.coms.drop i).length := (List.getElem?_eq_some_iff.1 HL1.out).1
        have q1 := List.getElem?_set_self (a := (⟨c.id, c.ev, 0, c.til, c.author, c.text, c.done, c.lost⟩ : Com)) hil
        have q2 := List.getElem?_set_self (a := (⟨c.id, c.ev, 0, 0, c.author, c.text, c.done, c.lost⟩ : Com)) (i := i) (l := ((d.coms.take i).map (Com.lose id) ++ d.coms.drop i).set i ⟨c.id, c.ev, 0, c.til, c.author, c.text, c.done, c.lost⟩) (by rw [List.length_set]; exact hil)
        have t1 := o1.com_cell (j := 3) hgcs q1 rfl
        have s2 := o1.com_set (c' := ⟨c.id, c.ev, 0, 0, c.author, c.text, c.done, c.lost⟩) (j := 3) (u := .int .i64 0) hgcs q1 rfl (by decide)
        obtain ⟨o2, g2⟩ := s2
        have t2 := o2.com_cell (j := 7) hgcs q2 rfl
        have s3 := o2.com_set (c' := ⟨c.id, c.ev, 0, 0, c.author, c.text, c.done, true⟩) (j := 7) (u := .bool true) hgcs q2 rfl (by decide)
        obtain ⟨o3, g3⟩ := s3
        obtain ⟨t1, u1⟩ := t1
        obtain ⟨t2, u2⟩ := t2
        have hLg2 : w.heap.size + 1 < gc := by omega
        have HX9 := Lib.hid (((HX8.out.setCell (p := ⟨gc, i * 8 + 2, none⟩) (Nat.le_of_lt (Nat.lt_of_succ_lt hLg2)) (.int .i64 0)).setCell (p := ⟨gc, i * 8 + 3, none⟩) (Nat.le_of_lt (Nat.lt_of_succ_lt hLg2)) (.int .i64 0)).setCell (p := ⟨gc, i * 8 + 7, none⟩) (Nat.le_of_lt (Nat.lt_of_succ_lt hLg2)) (.bool true))
        have n1 : some w.heap.size ≠ some gc := by intro h; injection h; omega
        have n2 : some (w.heap.size + 1) ≠ some gc := by intro h; injection h; omega
        have HP9 := Lib.hid (blk_away (blk_away (blk_away HP8.out g1 n1) g2 n1) g3 n1)
        have HZ9 := Lib.hid (blk_away (blk_away (blk_away HZ8.out g1 n2) g2 n2) g3 n2)
        have HO9 : Hid (DocOwn (((wr.setCell ⟨gc, i * 8 + 2, none⟩ (.int .i64 0)).setCell ⟨gc, i * 8 + 3, none⟩ (.int .i64 0)).setCell ⟨gc, i * 8 + 7, none⟩ (.bool true)) w1.heap.size ((d.cutE k).withComs ((d.coms.take (i + 1)).map (Com.lose id) ++ d.coms.drop (i + 1))) ⟨ra, rn, rc, some ⟨g, 0, none⟩, en5 - 1, ec, some ⟨gc, 0, none⟩, cn, cc⟩) := by
          rw [HNx.out, HLc.out, ← HLs.out]
          have h9 : DocOwn _ _ ((d.cutE k).withComs ((((((d.coms.take i).map (Com.lose id) ++ d.coms.drop i).set i ⟨c.id, c.ev, 0, c.til, c.author, c.text, c.done, c.lost⟩).set i ⟨c.id, c.ev, 0, 0, c.author, c.text, c.done, c.lost⟩)).set i ⟨c.id, c.ev, 0, 0, c.author, c.text, c.done, true⟩)) _ := o3
          rw [List.set_set, List.set_set] at h9
          exact h9
        clear o1 o2 o3 g1 g2 g3 q1 q2 hil HL1 HLs HNx HLc n1 n2 HX8 HP8 HZ8 HO8 hLg2
        go_wp2_with fail
        clear hcp t1 t2 u1 u2 e1 e2 e3 e7 f2 f3 f7
        refine ⟨⟨i + 1, by dsimp only; omega, by go_num, HX9.out, HP9.out, HZ9.out, HO9.out⟩, by simp [intOf]; omega⟩
      · have heb : (c.ev == id) = false := by simpa using hev
        have HLc : Hid (c.lose id = c) := by show _ = _; unfold Com.lose; rw [if_neg hev]
        clear hev
        go_wp2_with fail
        clear hcp
        refine ⟨⟨i + 1, by dsimp only; omega, by go_num, HX8.out, HP8.out, HZ8.out, ?_⟩, by simp [intOf]; omega⟩
        rw [HNx.out, HLc.out, ← drop_at d.coms i c HC0.out]
        exact HO8.out
    · have hin : i = cn := by omega
      subst hin
      have HO9 : Hid (DocOwn wr w1.heap.size ((d.cutE k).withComs (d.coms.map (Com.lose id))) ⟨ra, rn, rc, some ⟨g, 0, none⟩, en5 - 1, ec, ca, i, cc⟩) := by
        have h9 := HO8.out
        rw [List.take_of_length_le (by have : d.coms.length = i := hcl7; omega), List.drop_eq_nil_of_le (by have : d.coms.length = i := hcl7; omega), List.append_nil] at h9
        exact h9
      clear HO8
      go_wp2_with (first | (refine wpList_loadB rfl 27 (.tmp 2) rfl (w.heap.size) 27 _ _ (by exact rfl) (by exact HP8.out) Tryz.underlying27 rfl (by exact size_docI) ?_) | (refine wpList_storeB rfl 27 (.tmp 4) _ rfl (w.heap.size + 1) 27 _ _ (by exact rfl) (by exact rfl) (by exact HZ8.out) (by exact rfl) (by exact size_docI) (by simp [Value.oneCell']) ?_))
      refine bodyPost_ret (v := .tuple #[.agg ((d.remX id).1.cells ⟨ra, rn, rc, some ⟨g, 0, none⟩, en5 - 1, ec, ca, i, cc⟩), .int .i64 (d.remX id).2]) ?_ rfl ⟨⟨ra, rn, rc, some ⟨g, 0, none⟩, en5 - 1, ec, ca, i, cc⟩, rfl, ?_, ?_⟩
      · rw [HR1.out]
        exact results_B_tmp (P := Tryz.prog) Tryz.results30 (g := w.heap.size + 1) rfl (by exact HZ8.out.put _) Tryz.underlying27 rfl size_docI
      · rw [HR1.out]
        exact (HO9.out.le hsz).put HZ8.out _
      · exact HX8.out.put (by omega) _ _
end Go.Proofs.YtagfedbdakmlgaaGreatDoor

/-! LoseR -/
namespace Go.Proofs.YtagfedbdakmlgaaGreatDoor
set_option linter.unusedVariables false
set_option linter.unusedSimpArgs false
open Go.RowKit
def Com.loseR (id : Int) (c : Com) : Com := if c.ev = id ∧ c.lost = false then ⟨c.id, c.ev, 0, 0, c.author, c.text, c.done, true⟩ else c
def LsRel (l : List Com) (id : Int) (n : Nat) (w : World) (v i : Value) (wr : World) : Prop :=
  ∃ k : Nat, k ≤ n ∧ i = .int .i64 k ∧ Ext w wr ∧ wr.ownsRow w.heap.size 78 8 v k (((l.take k).map (Com.loseR id)).flatMap Com.vals)
set_option maxRecDepth 100000 in
set_option maxHeartbeats 2000000 in
theorem R12Lose_any (l : List Com) (A : Option Addr) (n c : Nat) (id : Int) (w : World) (hat : ComsAt w A n l) (hn : n ≤ 1000000) :
    Calls Tryz.prog 93 #[.slice A n c, .int .i64 id] w fun e w' => ∃ A' c', e = .returned (.slice A' n c') ∧ w'.ownsRow w.heap.size 78 8 (.slice A' n c') n ((l.map (Com.loseR id)).flatMap Com.vals) ∧ Ext w w' := by
  have HE := Lib.hid hat
  have HLn := Lib.hid hat.len
  clear hat
  go_enter Tryz.func93, Tryz.ntmps93
  go_wp2_with fail
  go_loopw [5, 10] (fun v i wr => LsRel l id n w v i wr) (fun _ i _ => n - (intOf i).toNat)
  case atStart => exact ⟨0, Nat.zero_le _, rfl, Ext.refl w, rfl, .inl ⟨rfl, rfl⟩⟩
  case round =>
    obtain ⟨k, hk, rfl, hx, hown⟩ := hrel
    have HX := Lib.hid hx
    have HOw := Lib.hid hown
    clear hown hx
    by_cases hlt : k < n
    · obtain ⟨b, off, c, rfl, hxx, c0, c1, c2, c3, c4, c5, c6, c7⟩ := (HE.out.ext HX.out).at8 hlt
      have HXx := Lib.hid hxx
      clear hxx
      have hsz := HX.out.size
      obtain ⟨A0, cc0, hv0⟩ := own_isSlice HOw.out
      subst hv0
      by_cases hev : c.ev = id ∧ c.lost = false
      · have HLz : Hid (c.loseR id = ⟨c.id, c.ev, 0, 0, c.author, c.text, c.done, true⟩) := by show _ = _; unfold Com.loseR; rw [if_pos hev]
        obtain ⟨he, hlo⟩ := hev
        have hb : (c.ev == id) = true := by simpa using he
        have HB := Lib.hid (Blk.new wr 78 #[.int .i64 c.id, .int .i64 c.ev, .int .i64 c.fr, .int .i64 c.til, .string c.author, .string c.text, .bool c.done, .bool false])
        have hs2 := setCell_put HB.out 2 (.int .i64 0)
        have hs3 := setCell_put (HB.out.put (#[.int .i64 c.id, .int .i64 c.ev, .int .i64 0, .int .i64 c.til, .string c.author, .string c.text, .bool c.done, .bool false])) 3 (.int .i64 0)
        have hs7 := setCell_put ((HB.out.put (#[.int .i64 c.id, .int .i64 c.ev, .int .i64 0, .int .i64 c.til, .string c.author, .string c.text, .bool c.done, .bool false])).put (#[.int .i64 c.id, .int .i64 c.ev, .int .i64 0, .int .i64 0, .string c.author, .string c.text, .bool c.done, .bool false])) 7 (.bool true)
        have g2 := HB.out.cell 2
        have f2 := HB.out.frozen 2
        have g3 := (HB.out.put (#[.int .i64 c.id, .int .i64 c.ev, .int .i64 0, .int .i64 c.til, .string c.author, .string c.text, .bool c.done, .bool false])).cell 3
        have f3 := (HB.out.put (#[.int .i64 c.id, .int .i64 c.ev, .int .i64 0, .int .i64 c.til, .string c.author, .string c.text, .bool c.done, .bool false])).frozen 3
        have g7 := ((HB.out.put (#[.int .i64 c.id, .int .i64 c.ev, .int .i64 0, .int .i64 c.til, .string c.author, .string c.text, .bool c.done, .bool false])).put (#[.int .i64 c.id, .int .i64 c.ev, .int .i64 0, .int .i64 0, .string c.author, .string c.text, .bool c.done, .bool false])).cell 7
        have f7 := ((HB.out.put (#[.int .i64 c.id, .int .i64 c.ev, .int .i64 0, .int .i64 c.til, .string c.author, .string c.text, .bool c.done, .bool false])).put (#[.int .i64 c.id, .int .i64 c.ev, .int .i64 0, .int .i64 0, .string c.author, .string c.text, .bool c.done, .bool false])).frozen 7
        rw [hlo] at c7
        clear he hlo
        simp at hs2 hs3 hs7 g2 g3 g7
        go_upto_region 7 with fail
        clear hs2 hs3 hs7 g2 g3 g7 f2 f3 f7 c0 c1 c2 c3 c4 c5 c6 c7
        obtain ⟨Wz, hWz⟩ : ∃ Wz, Wz = putB (putB (putB (wr.alloc (.cells #[.int .i64 c.id, .int .i64 c.ev, .int .i64 c.fr, .int .i64 c.til, .string c.author, .string c.text, .bool c.done, .bool false] 78)) wr.heap.size 78 #[.int .i64 c.id, .int .i64 c.ev, .int .i64 0, .int .i64 c.til, .string c.author, .string c.text, .bool c.done, .bool false]) wr.heap.size 78 #[.int .i64 c.id, .int .i64 c.ev, .int .i64 0, .int .i64 0, .string c.author, .string c.text, .bool c.done, .bool false]) wr.heap.size 78 #[.int .i64 c.id, .int .i64 c.ev, .int .i64 0, .int .i64 0, .string c.author, .string c.text, .bool c.done, .bool true] := ⟨_, rfl⟩
        rw [← hWz]
        have HBz : Hid (Blk Wz wr.heap.size 78 #[.int .i64 c.id, .int .i64 c.ev, .int .i64 0, .int .i64 0, .string c.author, .string c.text, .bool c.done, .bool true]) := by show Blk _ _ _ _; rw [hWz]; exact ((HB.out.put _).put _).put _
        have HXz : Hid (Ext wr Wz) := by show Ext _ _; rw [hWz]; exact ((((Ext.refl wr).alloc _).put (Nat.le_refl _) _ _).put (Nat.le_refl _) _ _).put (Nat.le_refl _) _ _
        clear hWz
        have hsz2 := HXz.out.size
        have HLD := Lib.hid (own_ext HOw.out (HXz.out.trans ((Ext.refl Wz).alloc (.cells #[.int .i64 c.id, .int .i64 c.ev, .int .i64 0, .int .i64 0, .string c.author, .string c.text, .bool c.done, .bool true] 78))))
        have hcz := fun o => HBz.out.cell o
        go_wp2_with (first | (refine wpList_loadB rfl 78 (.tmp 7) rfl wr.heap.size 78 _ _ (by exact rfl) (by exact HBz.out) Tryz.underlying78 rfl (by exact size_comI) ?_) | (at_builtin; refine wpList_append1 rfl (.tmp 26) (.tmp 28) 25 rfl info_comI Tryz.underlying25 rfl (by decide) (by exact HLD.out) (by exact rfl) _ _ (by exact rfl) (by exact Blk.new' (by rfl)) (by exact rfl) (by simp [Value.oneCell']) (by omega) (by simp [maxLen]; omega) (by simp; omega) ?_; intro v' w6 hown' hgr))
        refine ⟨⟨k + 1, by omega, by go_num, ((HX.out.trans HXz.out).trans ((Ext.refl Wz).alloc (.cells #[.int .i64 c.id, .int .i64 c.ev, .int .i64 0, .int .i64 0, .string c.author, .string c.text, .bool c.done, .bool true] 78))).grown hgr (fun q hq => own_lt HLD.out q hq), ?_⟩, by simp [intOf]; omega⟩
        rw [take_snoc' l k c HXx.out, List.map_append, List.flatMap_append, List.map_singleton, HLz.out]
        exact hown'
      · have HLz : Hid (c.loseR id = c) := by show _ = _; unfold Com.loseR; rw [if_neg hev]
        have HB := Lib.hid (Blk.new wr 78 #[.int .i64 c.id, .int .i64 c.ev, .int .i64 c.fr, .int .i64 c.til, .string c.author, .string c.text, .bool c.done, .bool c.lost])
        by_cases he : c.ev = id
        · have hb : (c.ev == id) = true := by simpa using he
          have hlo : c.lost = true := by
            cases h : c.lost
            · exact absurd ⟨he, h⟩ hev
            · rfl
          rw [hlo] at c7 HB
          have HLz' : Hid (c.loseR id = ⟨c.id, c.ev, c.fr, c.til, c.author, c.text, c.done, true⟩) := by show _ = _; rw [HLz.out, ← hlo]
          clear he hev hlo HLz
          have HLz := HLz'
          go_upto_region 7 with fail
          clear c0 c1 c2 c3 c4 c5 c6 c7
          obtain ⟨Wz, hWz⟩ : ∃ Wz, Wz = (wr.alloc (.cells #[.int .i64 c.id, .int .i64 c.ev, .int .i64 c.fr, .int .i64 c.til, .string c.author, .string c.text, .bool c.done, .bool true] 78)) := ⟨_, rfl⟩
          rw [← hWz]
          have HBz : Hid (Blk Wz wr.heap.size 78 #[.int .i64 c.id, .int .i64 c.ev, .int .i64 c.fr, .int .i64 c.til, .string c.author, .string c.text, .bool c.done, .bool true]) := by show Blk _ _ _ _; rw [hWz]; exact HB.out
          have HXz : Hid (Ext wr Wz) := by show Ext _ _; rw [hWz]; exact (Ext.refl wr).alloc _
          clear hWz
          have hsz2 := HXz.out.size
          have HLD := Lib.hid (own_ext HOw.out (HXz.out.trans ((Ext.refl Wz).alloc (.cells #[.int .i64 c.id, .int .i64 c.ev, .int .i64 c.fr, .int .i64 c.til, .string c.author, .string c.text, .bool c.done, .bool true] 78))))
          have hcz := fun o => HBz.out.cell o
          go_wp2_with (first | (refine wpList_loadB rfl 78 (.tmp 7) rfl wr.heap.size 78 _ _ (by exact rfl) (by exact HBz.out) Tryz.underlying78 rfl (by exact size_comI) ?_) | (at_builtin; refine wpList_append1 rfl (.tmp 26) (.tmp 28) 25 rfl info_comI Tryz.underlying25 rfl (by decide) (by exact HLD.out) (by exact rfl) _ _ (by exact rfl) (by exact Blk.new' (by rfl)) (by exact rfl) (by simp [Value.oneCell']) (by omega) (by simp [maxLen]; omega) (by simp; omega) ?_; intro v' w6 hown' hgr))
          refine ⟨⟨k + 1, by omega, by go_num, ((HX.out.trans HXz.out).trans ((Ext.refl Wz).alloc (.cells #[.int .i64 c.id, .int .i64 c.ev, .int .i64 c.fr, .int .i64 c.til, .string c.author, .string c.text, .bool c.done, .bool true] 78))).grown hgr (fun q hq => own_lt HLD.out q hq), ?_⟩, by simp [intOf]; omega⟩
          rw [take_snoc' l k c HXx.out, List.map_append, List.flatMap_append, List.map_singleton, HLz.out]
          exact hown'
        · have hb : (c.ev == id) = false := by simpa using he
          clear he hev
          go_upto_region 7 with fail
          clear c0 c1 c2 c3 c4 c5 c6 c7
          obtain ⟨Wz, hWz⟩ : ∃ Wz, Wz = (wr.alloc (.cells #[.int .i64 c.id, .int .i64 c.ev, .int .i64 c.fr, .int .i64 c.til, .string c.author, .string c.text, .bool c.done, .bool c.lost] 78)) := ⟨_, rfl⟩
          rw [← hWz]
          have HBz : Hid (Blk Wz wr.heap.size 78 #[.int .i64 c.id, .int .i64 c.ev, .int .i64 c.fr, .int .i64 c.til, .string c.author, .string c.text, .bool c.done, .bool c.lost]) := by show Blk _ _ _ _; rw [hWz]; exact HB.out
          have HXz : Hid (Ext wr Wz) := by show Ext _ _; rw [hWz]; exact (Ext.refl wr).alloc _
          clear hWz
          have hsz2 := HXz.out.size
          have HLD := Lib.hid (own_ext HOw.out (HXz.out.trans ((Ext.refl Wz).alloc (.cells #[.int .i64 c.id, .int .i64 c.ev, .int .i64 c.fr, .int .i64 c.til, .string c.author, .string c.text, .bool c.done, .bool c.lost] 78))))
          have hcz := fun o => HBz.out.cell o
          go_wp2_with (first | (refine wpList_loadB rfl 78 (.tmp 7) rfl wr.heap.size 78 _ _ (by exact rfl) (by exact HBz.out) Tryz.underlying78 rfl (by exact size_comI) ?_) | (at_builtin; refine wpList_append1 rfl (.tmp 26) (.tmp 28) 25 rfl info_comI Tryz.underlying25 rfl (by decide) (by exact HLD.out) (by exact rfl) _ _ (by exact rfl) (by exact Blk.new' (by rfl)) (by exact rfl) (by simp [Value.oneCell']) (by omega) (by simp [maxLen]; omega) (by simp; omega) ?_; intro v' w6 hown' hgr))
          refine ⟨⟨k + 1, by omega, by go_num, ((HX.out.trans HXz.out).trans ((Ext.refl Wz).alloc (.cells #[.int .i64 c.id, .int .i64 c.ev, .int .i64 c.fr, .int .i64 c.til, .string c.author, .string c.text, .bool c.done, .bool c.lost] 78))).grown hgr (fun q hq => own_lt HLD.out q hq), ?_⟩, by simp [intOf]; omega⟩
          rw [take_snoc' l k c HXx.out, List.map_append, List.flatMap_append, List.map_singleton, HLz.out]
          exact hown'
    · have hkn : k = n := by omega
      subst hkn
      obtain ⟨A0, cc0, hv0⟩ := own_isSlice HOw.out
      subst hv0
      go_wp2_with fail
      go_ret
      refine ⟨A0, cc0, rfl, ?_, HX.out⟩
      have h9 := HOw.out
      rw [List.take_of_length_le (by rw [HLn.out]; omega)] at h9
      exact h9
end Go.Proofs.YtagfedbdakmlgaaGreatDoor

/-! NameR -/
namespace Go.Proofs.YtagfedbdakmlgaaGreatDoor
set_option linter.unusedVariables false
set_option linter.unusedSimpArgs false
open Go.RowKit
theorem digit_any (c : Int) (w : World) : Calls Tryz.prog 128 #[.int .u8 c] w fun e w' => e = .returned (.bool (decide (48 ≤ c ∧ c ≤ 57))) ∧ w = w' := by
  by_cases h1 : 48 ≤ c
  · by_cases h2 : c ≤ 57
    · go_enter Tryz.func128, Tryz.ntmps128
      go_wp2
      go_ret
      exact ⟨ret_bool (by rw [decide_eq_true ⟨h1, h2⟩]), rfl⟩
    · go_enter Tryz.func128, Tryz.ntmps128
      go_wp2
      go_ret
      exact ⟨ret_bool (by rw [decide_eq_false (by omega)]), rfl⟩
  · go_enter Tryz.func128, Tryz.ntmps128
    go_wp2
    go_ret
    exact ⟨ret_bool (by simp; omega), rfl⟩
def NameRelR (s : ByteArray) (i : Value) (w wr : World) : Prop := ∃ k : Nat, k ≤ s.size ∧ i = .int .i64 k ∧ (s.data.toList.take k).all (fun c => nbI c.toNat) = true ∧ (0 < k → ∀ h : 0 < s.size, (65 : Int) ≤ (s[0].toNat : Int) ∧ (s[0].toNat : Int) ≤ 90) ∧ w = wr
theorem nb_step {s : ByteArray} {k : Nat} (hlt : k < s.size) (h : (s.data.toList.take k).all (fun c => nbI c.toNat) = true) (hb : nbI (s[k].toNat : Int) = true) : (s.data.toList.take (k + 1)).all (fun c => nbI c.toNat) = true := by
  rw [take_snoc s k hlt, List.all_append, h]
  simp [hb]
theorem nb_let {c : Int} (h1 : 65 ≤ c) (h2 : c ≤ 90) : nbI c = true := decide_eq_true (.inl ⟨h1, h2⟩)
theorem nb_dig {c : Int} (h1 : 48 ≤ c) (h2 : c ≤ 57) : nbI c = true := decide_eq_true (.inr (.inl ⟨h1, h2⟩))
set_option maxRecDepth 100000 in
set_option maxHeartbeats 4000000 in
theorem RName_any (s : ByteArray) (w : World) (hs : s.size ≤ 9223372036854775807) :
    Calls Tryz.prog 64 #[.string s] w fun e w' => e = .returned (.bool (nameB s)) ∧ Ext w w' := by
  by_cases h : 1 ≤ s.size
  · by_cases h' : s.size ≤ 16
    · have h1 : (1 : Int) ≤ (s.size : Int) := by omega
      have h2 : (s.size : Int) ≤ 16 := by omega
      have h0 : 0 < s.size := by omega
      have HS := Lib.hid (And.intro h h')
      go_enter Tryz.func64, Tryz.ntmps64
      go_wp2
      go_loopw [3] (fun i wr => NameRelR s i w wr) (fun i _ => s.size - (intOf i).toNat)
      case atStart => exact ⟨0, Nat.zero_le _, rfl, rfl, fun h => absurd h (by omega), rfl⟩
      case round =>
        obtain ⟨k, hk, rfl, hall, hhd, rfl⟩ := hrel
        have HA := Lib.hid hall
        have HH := Lib.hid hhd
        clear hall hhd
        by_cases hlt : k < s.size
        · have hki : (k : Int) < (s.size : Int) := by omega
          by_cases hl1 : (65 : Int) ≤ (s[k].toNat : Int)
          · by_cases hl2 : (s[k].toNat : Int) ≤ 90
            · have HB := Lib.hid (nb_step hlt HA.out (nb_let hl1 hl2))
              have HH2 : Hid (∀ h : 0 < s.size, (65 : Int) ≤ (s[0].toNat : Int) ∧ (s[0].toNat : Int) ≤ 90) := fun h => by
                rcases Nat.eq_zero_or_pos k with h0 | h0
                · subst h0; exact ⟨hl1, hl2⟩
                · exact HH.out h0 h
              go_wp2
              exact ⟨⟨k + 1, by omega, by go_num, HB.out, fun _ => HH2.out, rfl⟩, by simp [intOf]; omega⟩
            · by_cases hk0 : k = 0
              · subst hk0
                have HF := Lib.hid (nameB_head h0 (by omega))
                go_wp2_with fail
                go_ret
                exact ⟨by rw [HF.out]; rfl, Ext.refl _⟩
              · have hk0' : ((k : Int) == 0) = false := by simp; omega
                have hd : ¬ ((48 : Int) ≤ (s[k].toNat : Int) ∧ (s[k].toNat : Int) ≤ 57) := by omega
                go_wp2_with fail
                refine (digit_any _ _).mono ?_
                rintro e w1 ⟨rfl, rfl⟩
                rw [decide_eq_false hd]
                by_cases h95 : (s[k].toNat : Int) = 95
                · have HB := Lib.hid (nb_step hlt HA.out (by unfold nbI; rw [h95]; decide))
                  go_wp2_with fail
                  exact ⟨⟨k + 1, by omega, by go_num, HB.out, fun _ => HH.out (by omega), rfl⟩, by simp [intOf]; omega⟩
                · by_cases h45 : (s[k].toNat : Int) = 45
                  · exfalso; omega
                  · have e95 : ((s[k].toNat : Int) != 95) = true := by simpa using h95
                    have e45 : ((s[k].toNat : Int) != 45) = true := by simpa using h45
                    have HF := Lib.hid (nameB_at k hlt (by unfold nbI; rw [decide_eq_false (by omega)]))
                    go_wp2_with fail
                    go_ret
                    exact ⟨by rw [HF.out]; rfl, Ext.refl _⟩
          · by_cases hk0 : k = 0
            · subst hk0
              have HF := Lib.hid (nameB_head h0 (by omega))
              go_wp2_with fail
              go_ret
              exact ⟨by rw [HF.out]; rfl, Ext.refl _⟩
            · have hk0' : ((k : Int) == 0) = false := by simp; omega
              go_wp2_with fail
              refine (digit_any _ _).mono ?_
              rintro e w1 ⟨rfl, rfl⟩
              by_cases hd : (48 : Int) ≤ (s[k].toNat : Int) ∧ (s[k].toNat : Int) ≤ 57
              · rw [decide_eq_true hd]
                have HB := Lib.hid (nb_step hlt HA.out (nb_dig hd.1 hd.2))
                go_wp2_with fail
                exact ⟨⟨k + 1, by omega, by go_num, HB.out, fun _ => HH.out (by omega), rfl⟩, by simp [intOf]; omega⟩
              · rw [decide_eq_false hd]
                by_cases h45 : (s[k].toNat : Int) = 45
                · have HB := Lib.hid (nb_step hlt HA.out (by unfold nbI; rw [h45]; decide))
                  have e95 : ((s[k].toNat : Int) != 95) = true := by rw [h45]; rfl
                  have e45 : ((s[k].toNat : Int) != 45) = false := by rw [h45]; rfl
                  clear h45
                  go_wp2_with fail
                  exact ⟨⟨k + 1, by omega, by go_num, HB.out, fun _ => HH.out (by omega), rfl⟩, by simp [intOf]; omega⟩
                · have e95 : ((s[k].toNat : Int) != 95) = true := by simp; omega
                  have e45 : ((s[k].toNat : Int) != 45) = true := by simpa using h45
                  have HF := Lib.hid (nameB_at k hlt (by unfold nbI; rw [decide_eq_false (by omega)]))
                  go_wp2_with fail
                  go_ret
                  exact ⟨by rw [HF.out]; rfl, Ext.refl _⟩
        · have ek : k = s.size := by omega
          subst ek
          go_wp2
          go_ret
          exact ⟨by rw [nameB_yes HS.out h0 (HH.out h0 h0) HA.out]; rfl, Ext.refl _⟩
    · have HF := Lib.hid (nameB_small (s := s) (by omega))
      have h1 : (16 : Int) < (s.size : Int) := by omega
      go_enter Tryz.func64, Tryz.ntmps64
      go_wp2
      go_ret
      exact ⟨by rw [HF.out]; rfl, Ext.refl _⟩
  · have HF := Lib.hid (nameB_small (s := s) (by omega))
    have h1 : (s.size : Int) < 1 := by omega
    go_enter Tryz.func64, Tryz.ntmps64
    go_wp2
    go_ret
    exact ⟨by rw [HF.out]; rfl, Ext.refl _⟩
end Go.Proofs.YtagfedbdakmlgaaGreatDoor
