/- Laid together: The walks of document.Span and of the reference's. -/
import Derived.Test.YtagfedbdakmlgaaGreatDoorCk17

/-! SpanD -/
namespace Go.Proofs.YtagfedbdakmlgaaGreatDoor
set_option linter.unusedVariables false
set_option linter.unusedSimpArgs false
open Go.RowKit
def spF (p : Int × Int) (e : Ev) : Int × Int := (min p.1 e.inn, max p.2 e.out)
def spK (l : List Ev) (k : Nat) : Int × Int := match l with | [] => (0, 0) | e :: t => ((e :: t).take k).foldl spF (e.inn, e.out)
/-- the least span that contains all events -/
def spL (l : List Ev) : Int × Int := spK l l.length
theorem spK_zero {l : List Ev} {x : Ev} (hx : l[0]? = some x) : spK l 0 = (x.inn, x.out) := by
  cases l with
  | nil => simp at hx
  | cons e t => simp at hx; subst hx; rfl
theorem spK_succ {l : List Ev} {k : Nat} {x : Ev} (hx : l[k]? = some x) : spK l (k + 1) = spF (spK l k) x := by
  cases l with
  | nil => simp at hx
  | cons e t =>
    show List.foldl spF (e.inn, e.out) ((e :: t).take (k + 1)) = spF (List.foldl spF (e.inn, e.out) ((e :: t).take k)) x
    rw [take_snoc' _ k x hx, List.foldl_append]; rfl
theorem spK_end (f : Bool) {l : List Ev} {k : Nat} (hk : k = l.length) : (if true = f ∧ k = 0 then ((0, 0) : Int × Int) else spK l k) = spL l := by
  subst hk
  split
  · rename_i h; rw [List.eq_nil_of_length_eq_zero h.2]; rfl
  · rfl
theorem size_spanI : (Tryz.prog.info? 57).map (·.size) = some 2 := by kernel_rfl
def SpRel (w : World) (n : Nat) (l : List Ev) (f : Bool) (i : Value) (wr : World) : Prop :=
  ∃ k : Nat, k ≤ n ∧ i = .int .i64 k ∧ Ext w wr ∧ Blk wr (w.heap.size + 2) 57 #[.int .i64 (if true = f ∧ k = 0 then ((0, 0) : Int × Int) else spK l k).1, .int .i64 (if true = f ∧ k = 0 then ((0, 0) : Int × Int) else spK l k).2] ∧ Blk wr (w.heap.size + 1) 57 #[.int .i64 0, .int .i64 0]
/-- a span whose two numbers are stored one after the other -/
structure SpJ (g : Nat) (c1 c2 : Array Value) (W : World) (us : List Value) (w' : World) : Prop where
  nil : us.length = 0 → Ext W w'
  one : us.length = 1 → ∃ w5, Ext W w5 ∧ w' = putB w5 g 57 c1
  two : us.length = 2 → ∃ w5, Ext W w5 ∧ w' = putB w5 g 57 c2
section
variable {g : Nat} {c1 c2 : Array Value} {W w' : World} {us : List Value} {u v : Value}
theorem SpJ.start (W : World) : SpJ g c1 c2 W [] W.drew := ⟨fun _ => (Ext.refl W).drew, fun h => by simp at h, fun h => by simp at h⟩
theorem SpJ.pre {b : Nat} {T : TypeId} {cs : Array Value} (j : SpJ g c1 c2 W us w') (h : us.length = 0) (hB : Blk W b T cs) : Blk w' b T cs := hB.ext (j.nil h)
theorem SpJ.mid {T : TypeId} {cs : Array Value} (j : SpJ g c1 c2 W us w') (h : us.length = 1) (hB : Blk W g T cs) : Blk w' g 57 c1 := by
  obtain ⟨w5, h5, rfl⟩ := j.one h
  unfold Blk putB
  simp [(hB.ext h5).lt]
theorem SpJ.oth {b : Nat} {T : TypeId} {cs : Array Value} (j : SpJ g c1 c2 W us w') (h : us.length ≤ 2) (hB : Blk W b T cs) (hne : b ≠ g) : Blk w' b T cs := by
  rcases (show us.length = 0 ∨ us.length = 1 ∨ us.length = 2 by omega) with h | h | h
  · exact hB.ext (j.nil h)
  · obtain ⟨w5, h5, rfl⟩ := j.one h; exact (hB.ext h5).put_other (Ne.symm hne) _
  · obtain ⟨w5, h5, rfl⟩ := j.two h; exact (hB.ext h5).put_other (Ne.symm hne) _
theorem SpJ.sto1 (j : SpJ g c1 c2 W [] w') : SpJ g c1 c2 W ([] ++ [u]) (putB w' g 57 c1) := ⟨fun h => by simp at h, fun _ => ⟨w', j.nil rfl, rfl⟩, fun h => by simp at h⟩
theorem SpJ.sto2 (j : SpJ g c1 c2 W [u] w') : SpJ g c1 c2 W ([u] ++ [v]) (putB w' g 57 c2) := by
  refine ⟨fun h => by simp at h, fun h => by simp at h, fun _ => ?_⟩
  obtain ⟨w5, h5, rfl⟩ := j.one rfl
  exact ⟨w5, h5, putB_putB _ _ _ _ _ _⟩
end
set_option maxRecDepth 100000 in
set_option maxHeartbeats 2000000 in
theorem DSpan_any (d : Doc) (h : DocH) (w : World) (hat : EvsAt w h.ea h.en d.evs) (hn : h.en ≤ 1000000) :
    Calls Tryz.prog 40 #[.agg (d.cells h)] w fun en w' => en = .returned (.agg #[.int .i64 (spL d.evs).1, .int .i64 (spL d.evs).2]) ∧ Ext w w' := by
  obtain ⟨ra, rn, rc, ea, n, ec, ca, cn, cc⟩ := h
  dsimp only at hat hn
  obtain ⟨W2, hW2⟩ : ∃ W2, W2 = ((w.alloc (.cells (d.cells ⟨ra, rn, rc, ea, n, ec, ca, cn, cc⟩) 27)).alloc (.cells #[.int .i64 0, .int .i64 0] 57)) := ⟨_, rfl⟩
  have HX : Hid (Ext w W2) := by show Ext _ _; rw [hW2]; exact ((Ext.refl w).alloc _).alloc _
  have HB : Hid (Blk W2 w.heap.size 27 (d.cells ⟨ra, rn, rc, ea, n, ec, ca, cn, cc⟩)) := by show Blk _ _ _ _; rw [hW2]; exact (Blk.new w _ _).alloc _
  have HZ : Hid (Blk W2 (w.heap.size + 1) 57 #[.int .i64 0, .int .i64 0]) := by show Blk _ _ _ _; rw [hW2]; exact Blk.new' (by simp)
  have hsz : W2.heap.size = w.heap.size + 2 := by rw [hW2]; simp
  have HE := Lib.hid hat
  have HLn := Lib.hid hat.len
  clear hat
  unfold Doc.cells at HB hW2 ⊢
  dsimp only at HB hW2 ⊢
  go_enter Tryz.func40, Tryz.ntmps40
  go_upto_region 1 with fail
  rw [← hW2]
  clear hW2
  have hcb := fun o => HB.out.cell o
  by_cases hn0 : n = 0
  · subst hn0
    have HV : Hid (spL d.evs = (0, 0)) := by show _ = _; rw [List.eq_nil_of_length_eq_zero HLn.out]; rfl
    go_wp2_with (refine wpList_storeB rfl 57 (.tmp 2) _ rfl (w.heap.size + 1) 57 _ _ (by exact rfl) (by exact rfl) (by exact HZ.out) (by exact rfl) (by exact size_spanI) (by simp [Value.oneCell']) ?_)
    refine bodyPost_ret (v := .agg #[.int .i64 0, .int .i64 0]) ?_ rfl ⟨?_, HX.out.put (by omega) _ _⟩
    · exact results_B (P := Tryz.prog) Tryz.results40 (g := w.heap.size + 1) rfl (by exact HZ.out.put _) Tryz.underlying57 rfl size_spanI
    · rw [HV.out]
  have hnp : 0 < n := by omega
  have hni : ((n : Int) == 0) = false := by simp; omega
  obtain ⟨b0, off0, x0, A0, n0, c0', heq0, hx0, -, z0, z1, z2, z3, z4, z5, z6⟩ := (HE.out.ext HX.out).at_ev hnp
  subst heq0
  simp only [Nat.zero_mul, Nat.add_zero] at z0 z1 z2 z3 z4 z5 z6
  have HK0 : Hid (spK d.evs 0 = (x0.inn, x0.out)) := spK_zero hx0
  clear hx0
  have HXs := Lib.hid (HX.out.alloc (.cells #[.int .i64 x0.inn, .int .i64 x0.out] 57))
  have HZs := Lib.hid (HZ.out.alloc (.cells #[.int .i64 x0.inn, .int .i64 x0.out] 57))
  have HSs : Hid (Blk (W2.alloc (.cells #[.int .i64 x0.inn, .int .i64 x0.out] 57)) (w.heap.size + 2) 57 #[.int .i64 x0.inn, .int .i64 x0.out]) := Blk.new' hsz.symm
  go_upto_block 0 with fail
  clear hcb z0 z1 z2 z3 z4 z5 z6
  generalize some (⟨b0, off0, none⟩ : Addr) = ea at *
  go_wp2_with fail
  go_loopw [19] (fun i wr => SpRel w n d.evs false i wr) (fun i _ => n - (intOf i).toNat)
  case atStart => exact ⟨0, Nat.zero_le _, rfl, HXs.out, by rw [if_neg (by simp), HK0.out]; exact HSs.out, HZs.out⟩
  case round =>
    clear HXs HZs HSs HX HZ HB
    obtain ⟨k, hk, rfl, hx, hbs, hbz⟩ := hrel
    by_cases hlt : k < n
    · obtain ⟨b, off, x, A', n', c', heq, hxx, -, c0, c1, c2, c3, c4, c5, c6⟩ := (HE.out.ext hx).at_ev hlt
      subst heq
      have HKs := Lib.hid (spK_succ hxx)
      have HKz : Hid (k = 0 → spK d.evs k = (x.inn, x.out)) := fun h => by subst h; exact spK_zero hxx
      have hk0 : (0 : Int) ≤ (k : Int) := by omega
      have hk1 : (k : Int) < (n : Int) := by omega
      have HBe := Lib.hid (Blk.new wr 66 #[.int .i64 x.id, .int .i64 x.inn, .int .i64 x.out, .string x.region, .int .u8 x.kind, .string x.speaker, .slice A' n' c'])
      have hal := (Ext.refl wr).alloc (.cells #[.int .i64 x.id, .int .i64 x.inn, .int .i64 x.out, .string x.region, .int .u8 x.kind, .string x.speaker, .slice A' n' c'] 66)
      have HX9 := Lib.hid (hx.trans hal)
      have HBz := Lib.hid (hbz.ext hal)
      have hne : wr.heap.size ≠ w.heap.size + 2 := by have := hbs.lt; omega
      clear hxx
      obtain ⟨p9, ha⟩ : ∃ p9, p9 = (spK d.evs k).1 := ⟨_, rfl⟩
      obtain ⟨q9, hb'⟩ : ∃ q9, q9 = (spK d.evs k).2 := ⟨_, rfl⟩
      rw [if_neg (by simp), ← ha, ← hb'] at hbs
      unfold spF at HKs
      rw [← ha, ← hb'] at HKs
      have HBs := Lib.hid (hbs.ext hal)
      clear HKz ha hb' hbs hbz hal
      go_upto_region 7 with fail
      clear c0 c1 c2 c3 c4 c5 c6
      generalize HW : wr.alloc (.cells #[.int .i64 x.id, .int .i64 x.inn, .int .i64 x.out, .string x.region, .int .u8 x.kind, .string x.speaker, .slice A' n' c'] 66) = W9 at *
      refine wp_region_links [some 23, some 24, some 25, some 26, some 27, some 28, some 29, some 30, some 31, some 32, some 33, some 34, some 35, none, some 36, none] [[], [0], [], [2], [3], [1, 4], [], [6], [], [8], [9], [7, 10], [0, 1, 2, 3, 4, 5, 6, 7], [12, 5, 0, 1, 2, 3, 4, 5, 6, 7], [0, 1, 2, 3, 4, 5, 6, 7, 8, 9, 10, 11, 12, 13], [14, 11, 13, 0, 1, 2, 3, 4, 5, 6, 7, 8, 9, 10, 11, 12, 13]] [13, 15] [.pointer (some ⟨w.heap.size + 2, 0, none⟩), .int .i64 p9, .pointer (some ⟨wr.heap.size, 1, none⟩), .pointer (some ⟨wr.heap.size, 1, none⟩), .int .i64 x.inn, .int .i64 (min p9 x.inn), .pointer (some ⟨w.heap.size + 2, 1, none⟩), .int .i64 q9, .pointer (some ⟨wr.heap.size, 1, none⟩), .pointer (some ⟨wr.heap.size, 2, none⟩), .int .i64 x.out, .int .i64 (max q9 x.out), .pointer (some ⟨w.heap.size + 2, 0, none⟩), undef, .pointer (some ⟨w.heap.size + 2, 1, none⟩), undef] (SpJ (w.heap.size + 2) #[.int .i64 (min p9 x.inn), .int .i64 q9] #[.int .i64 (min p9 x.inn), .int .i64 (max q9 x.out)] W9) (by kernel_rfl) (by kernel_rfl) (by kernel_rfl) (by kernel_rfl) (by kernel_rfl) (by kernel_rfl) (by kernel_rfl) (by decide) ?_ ?_ ?_ ?_
      · exact SpJ.start W9
      · intro i o ho hc a w' us K' hJ hF hlim hk
        match i, ho with
        | 0, ho =>
          simp only [List.getElem?_toArray, List.getElem?_cons_zero, List.getElem?_cons_succ, Option.some.injEq] at ho
          subst ho
          have e3 := hF.old 3 (.pointer (some ⟨w.heap.size + 2, 0, none⟩)) rfl rfl
          simp only [Act.eval] at e3
          clear hF hlim hJ
          go_simp
          exact hk
        | 1, ho =>
          simp only [List.getElem?_toArray, List.getElem?_cons_zero, List.getElem?_cons_succ, Option.some.injEq] at ho
          subst ho
          have e23 := hF.pure 0 23 (.pointer (some ⟨w.heap.size + 2, 0, none⟩)) rfl rfl rfl rfl
          have hcl : w'.cell? ⟨w.heap.size + 2, 0, none⟩ = some (.int .i64 p9) := (hJ.pre (Nat.le_zero.1 (hlim 0 13 rfl rfl)) HBs.out).cell 0
          simp only [Act.eval] at e23
          clear hF hlim hJ
          go_simp
          exact hk
        | 2, ho =>
          simp only [List.getElem?_toArray, List.getElem?_cons_zero, List.getElem?_cons_succ, Option.some.injEq] at ho
          subst ho
          have e5 := hF.old 5 (.pointer (some ⟨wr.heap.size, 0, none⟩)) rfl rfl
          simp only [Act.eval] at e5
          clear hF hlim hJ
          go_simp
          exact hk
        | 3, ho =>
          simp only [List.getElem?_toArray, List.getElem?_cons_zero, List.getElem?_cons_succ, Option.some.injEq] at ho
          subst ho
          have e25 := hF.pure 2 25 (.pointer (some ⟨wr.heap.size, 1, none⟩)) rfl rfl rfl rfl
          simp only [Act.eval] at e25
          clear hF hlim hJ
          go_simp
          exact hk
        | 4, ho =>
          simp only [List.getElem?_toArray, List.getElem?_cons_zero, List.getElem?_cons_succ, Option.some.injEq] at ho
          subst ho
          have e26 := hF.pure 3 26 (.pointer (some ⟨wr.heap.size, 1, none⟩)) rfl rfl rfl rfl
          have hcl : w'.cell? ⟨wr.heap.size, 1, none⟩ = some (.int .i64 x.inn) := (hJ.oth (Nat.le_of_lt (Nat.lt_succ_of_le (hlim 1 15 rfl rfl))) HBe.out hne).cell 1
          simp only [Act.eval] at e26
          clear hF hlim hJ
          go_simp
          exact hk
        | 5, ho =>
          simp only [List.getElem?_toArray, List.getElem?_cons_zero, List.getElem?_cons_succ, Option.some.injEq] at ho
          subst ho
          have e24 := hF.pure 1 24 (.int .i64 p9) rfl rfl rfl rfl
          have e27 := hF.pure 4 27 (.int .i64 x.inn) rfl rfl rfl rfl
          simp only [Act.eval] at e24 e27
          clear hF hlim hJ
          go_simp
          exact hk
        | 6, ho =>
          simp only [List.getElem?_toArray, List.getElem?_cons_zero, List.getElem?_cons_succ, Option.some.injEq] at ho
          subst ho
          have e3 := hF.old 3 (.pointer (some ⟨w.heap.size + 2, 0, none⟩)) rfl rfl
          simp only [Act.eval] at e3
          clear hF hlim hJ
          go_simp
          exact hk
        | 7, ho =>
          simp only [List.getElem?_toArray, List.getElem?_cons_zero, List.getElem?_cons_succ, Option.some.injEq] at ho
          subst ho
          have e29 := hF.pure 6 29 (.pointer (some ⟨w.heap.size + 2, 1, none⟩)) rfl rfl rfl rfl
          have hcl : w'.cell? ⟨w.heap.size + 2, 1, none⟩ = some (.int .i64 q9) := (hJ.pre (Nat.le_zero.1 (hlim 0 13 rfl rfl)) HBs.out).cell 1
          simp only [Act.eval] at e29
          clear hF hlim hJ
          go_simp
          exact hk
        | 8, ho =>
          simp only [List.getElem?_toArray, List.getElem?_cons_zero, List.getElem?_cons_succ, Option.some.injEq] at ho
          subst ho
          have e5 := hF.old 5 (.pointer (some ⟨wr.heap.size, 0, none⟩)) rfl rfl
          simp only [Act.eval] at e5
          clear hF hlim hJ
          go_simp
          exact hk
        | 9, ho =>
          simp only [List.getElem?_toArray, List.getElem?_cons_zero, List.getElem?_cons_succ, Option.some.injEq] at ho
          subst ho
          have e31 := hF.pure 8 31 (.pointer (some ⟨wr.heap.size, 1, none⟩)) rfl rfl rfl rfl
          simp only [Act.eval] at e31
          clear hF hlim hJ
          go_simp
          exact hk
        | 10, ho =>
          simp only [List.getElem?_toArray, List.getElem?_cons_zero, List.getElem?_cons_succ, Option.some.injEq] at ho
          subst ho
          have e32 := hF.pure 9 32 (.pointer (some ⟨wr.heap.size, 2, none⟩)) rfl rfl rfl rfl
          have hcl : w'.cell? ⟨wr.heap.size, 2, none⟩ = some (.int .i64 x.out) := (hJ.oth (Nat.le_of_lt (Nat.lt_succ_of_le (hlim 1 15 rfl rfl))) HBe.out hne).cell 2
          simp only [Act.eval] at e32
          clear hF hlim hJ
          go_simp
          exact hk
        | 11, ho =>
          simp only [List.getElem?_toArray, List.getElem?_cons_zero, List.getElem?_cons_succ, Option.some.injEq] at ho
          subst ho
          have e30 := hF.pure 7 30 (.int .i64 q9) rfl rfl rfl rfl
          have e33 := hF.pure 10 33 (.int .i64 x.out) rfl rfl rfl rfl
          simp only [Act.eval] at e33 e30
          clear hF hlim hJ
          go_simp
          exact hk
        | 12, ho =>
          simp only [List.getElem?_toArray, List.getElem?_cons_zero, List.getElem?_cons_succ, Option.some.injEq] at ho
          subst ho
          have e3 := hF.old 3 (.pointer (some ⟨w.heap.size + 2, 0, none⟩)) rfl rfl
          simp only [Act.eval] at e3
          clear hF hlim hJ
          go_simp
          exact hk
        | 13, ho => simp at hc
        | 14, ho =>
          simp only [List.getElem?_toArray, List.getElem?_cons_zero, List.getElem?_cons_succ, Option.some.injEq] at ho
          subst ho
          have e3 := hF.old 3 (.pointer (some ⟨w.heap.size + 2, 0, none⟩)) rfl rfl
          simp only [Act.eval] at e3
          clear hF hlim hJ
          go_simp
          exact hk
        | 15, ho => simp at hc
        | i + 16, ho => simp at ho
      · intro p c' o hp ho a w' us K' hl hJ hF hk
        match p, hp with
        | 0, hp =>
          obtain rfl : 13 = c' := by simpa using hp
          simp only [List.getElem?_toArray, List.getElem?_cons_zero, List.getElem?_cons_succ, Option.some.injEq] at ho
          subst ho
          obtain rfl : us = [] := List.eq_nil_of_length_eq_zero hl
          have e35 := hF.pure 12 35 (.pointer (some ⟨w.heap.size + 2, 0, none⟩)) rfl rfl rfl rfl
          have e28 := hF.pure 5 28 (.int .i64 (min p9 x.inn)) rfl rfl rfl rfl
          have hb := hJ.pre rfl HBs.out
          have hcl := hb.cell 0
          have hfr := hb.frozen 0
          have hset := setCell_put hb 0 (.int .i64 (min p9 x.inn))
          simp at hset hcl
          have HK := Lib.hid (hk undef _ (hJ.sto1 (u := undef)))
          clear hb hk hF hJ
          simp only [Act.eval] at e35 e28
          go_simp
          exact HK.out
        | 1, hp =>
          obtain rfl : 15 = c' := by simpa using hp
          simp only [List.getElem?_toArray, List.getElem?_cons_zero, List.getElem?_cons_succ, Option.some.injEq] at ho
          subst ho
          obtain ⟨u0, rfl⟩ := list_1 hl
          have e36 := hF.pure 14 36 (.pointer (some ⟨w.heap.size + 2, 1, none⟩)) rfl rfl rfl rfl
          have e34 := hF.pure 11 34 (.int .i64 (max q9 x.out)) rfl rfl rfl rfl
          have hb := hJ.mid rfl HBs.out
          have hcl := hb.cell 1
          have hfr := hb.frozen 1
          have hset := setCell_put hb 1 (.int .i64 (max q9 x.out))
          simp at hset hcl
          have HK := Lib.hid (hk undef _ (hJ.sto2 (v := undef)))
          clear hb hk hF hJ
          simp only [Act.eval] at e36 e34
          go_simp
          exact HK.out
        | p + 2, hp => simp at hp
      intro us w10 hl hJ
      obtain ⟨u0, u1, rfl⟩ := list_2 hl
      first | (rename_i hK; refine hK _ _ ?_; clear hK) | (rename_i hK hK_1; refine hK _ _ ?_; clear hK) | (rename_i hK hK_1 hK_2; refine hK _ _ ?_; clear hK) | (rename_i hK hK_1 hK_2 hK_3; refine hK _ _ ?_; clear hK)
      generalize hL : frameL _ _ _ _ = L
      obtain rfl : L = [(23, .pointer (some ⟨w.heap.size + 2, 0, none⟩)), (24, .int .i64 p9), (25, .pointer (some ⟨wr.heap.size, 1, none⟩)), (26, .pointer (some ⟨wr.heap.size, 1, none⟩)), (27, .int .i64 x.inn), (28, .int .i64 (min p9 x.inn)), (29, .pointer (some ⟨w.heap.size + 2, 1, none⟩)), (30, .int .i64 q9), (31, .pointer (some ⟨wr.heap.size, 1, none⟩)), (32, .pointer (some ⟨wr.heap.size, 2, none⟩)), (33, .int .i64 x.out), (34, .int .i64 (max q9 x.out)), (35, .pointer (some ⟨w.heap.size + 2, 0, none⟩)), (36, .pointer (some ⟨w.heap.size + 2, 1, none⟩))] := hL.symm.trans (by kernel_rfl)
      clear hL hl
      simp only [Act.put, List.foldl_cons, List.foldl_nil, List.setIfInBounds_toArray, List.set_cons_zero, List.set_cons_succ]
      obtain ⟨w5, hx5, rfl⟩ := hJ.two rfl
      go_wp2_with fail
      refine ⟨⟨k + 1, by omega, by go_num, (HX9.out.trans hx5).put (by omega) _ _, ?_, (HBz.out.ext hx5).put_other (by omega) _⟩, by simp [intOf]; omega⟩
      rw [if_neg (by simp), HKs.out]
      exact (HBs.out.ext hx5).put _
    · have hkn : k = d.evs.length := by rw [HLn.out]; omega
      have HV : Hid ((if true = false ∧ k = 0 then ((0, 0) : Int × Int) else spK d.evs k) = spL d.evs) := spK_end false hkn
      have hbs' : Hid (Blk wr (w.heap.size + 2) 57 #[.int .i64 (spL d.evs).1, .int .i64 (spL d.evs).2]) := by show Blk _ _ _ _; rw [← HV.out]; exact hbs
      have HBz := Lib.hid hbz
      clear HV hbs hbz
      have hkk : ¬ (k : Int) < (n : Int) := by omega
      go_wp2_with (first | (refine wpList_loadB rfl 57 (.tmp 3) rfl (w.heap.size + 2) 57 _ _ (by exact rfl) (by exact hbs'.out) Tryz.underlying57 rfl (by exact size_spanI) ?_) | (refine wpList_storeB rfl 57 (.tmp 2) _ rfl (w.heap.size + 1) 57 _ _ (by exact rfl) (by exact rfl) (by exact HBz.out) (by exact rfl) (by exact size_spanI) (by simp [Value.oneCell']) ?_))
      refine bodyPost_ret (v := .agg #[.int .i64 (spL d.evs).1, .int .i64 (spL d.evs).2]) ?_ rfl ⟨rfl, hx.put (by omega) _ _⟩
      exact results_B (P := Tryz.prog) Tryz.results40 (g := w.heap.size + 1) rfl (by exact HBz.out.put _) Tryz.underlying57 rfl size_spanI
set_option maxRecDepth 100000 in
set_option maxHeartbeats 2000000 in
theorem R12Span_any (d : Doc) (h : DocH) (w : World) (hat : EvsAt w h.ea h.en d.evs) (hn : h.en ≤ 1000000) :
    Calls Tryz.prog 41 #[.agg (d.cells h)] w fun en w' => en = .returned (.agg #[.int .i64 (spL d.evs).1, .int .i64 (spL d.evs).2]) ∧ Ext w w' := by
  obtain ⟨ra, rn, rc, ea, n, ec, ca, cn, cc⟩ := h
  dsimp only at hat hn
  obtain ⟨W2, hW2⟩ : ∃ W2, W2 = ((w.alloc (.cells (d.cells ⟨ra, rn, rc, ea, n, ec, ca, cn, cc⟩) 27)).alloc (.cells #[.int .i64 0, .int .i64 0] 57)) := ⟨_, rfl⟩
  have HX : Hid (Ext w W2) := by show Ext _ _; rw [hW2]; exact ((Ext.refl w).alloc _).alloc _
  have HB : Hid (Blk W2 w.heap.size 27 (d.cells ⟨ra, rn, rc, ea, n, ec, ca, cn, cc⟩)) := by show Blk _ _ _ _; rw [hW2]; exact (Blk.new w _ _).alloc _
  have HZ : Hid (Blk W2 (w.heap.size + 1) 57 #[.int .i64 0, .int .i64 0]) := by show Blk _ _ _ _; rw [hW2]; exact Blk.new' (by simp)
  have hsz : W2.heap.size = w.heap.size + 2 := by rw [hW2]; simp
  have HE := Lib.hid hat
  have HLn := Lib.hid hat.len
  clear hat
  unfold Doc.cells at HB hW2 ⊢
  dsimp only at HB hW2 ⊢
  go_enter Tryz.func41, Tryz.ntmps41
  go_upto_region 1 with fail
  rw [← hW2]
  clear hW2
  have hcb := fun o => HB.out.cell o
  have HXs := Lib.hid (HX.out.alloc (.cells #[.int .i64 0, .int .i64 0] 57))
  have HZs := Lib.hid (HZ.out.alloc (.cells #[.int .i64 0, .int .i64 0] 57))
  have HSs : Hid (Blk (W2.alloc (.cells #[.int .i64 0, .int .i64 0] 57)) (w.heap.size + 2) 57 #[.int .i64 0, .int .i64 0]) := Blk.new' hsz.symm
  go_wp2_with fail
  clear hcb
  go_loopw [9] (fun i wr => SpRel w n d.evs true i wr) (fun i _ => n - (intOf i).toNat)
  case atStart => exact ⟨0, Nat.zero_le _, rfl, HXs.out, by rw [if_pos (by simp)]; exact HSs.out, HZs.out⟩
  case round =>
    clear HXs HZs HSs HX HZ HB
    obtain ⟨k, hk, rfl, hx, hbs, hbz⟩ := hrel
    by_cases hlt : k < n
    · obtain ⟨b, off, x, A', n', c', heq, hxx, -, c0, c1, c2, c3, c4, c5, c6⟩ := (HE.out.ext hx).at_ev hlt
      subst heq
      have HKs := Lib.hid (spK_succ hxx)
      have HKz : Hid (k = 0 → spK d.evs k = (x.inn, x.out)) := fun h => by subst h; exact spK_zero hxx
      have hk0 : (0 : Int) ≤ (k : Int) := by omega
      have hk1 : (k : Int) < (n : Int) := by omega
      have HBe := Lib.hid (Blk.new wr 66 #[.int .i64 x.id, .int .i64 x.inn, .int .i64 x.out, .string x.region, .int .u8 x.kind, .string x.speaker, .slice A' n' c'])
      have hal := (Ext.refl wr).alloc (.cells #[.int .i64 x.id, .int .i64 x.inn, .int .i64 x.out, .string x.region, .int .u8 x.kind, .string x.speaker, .slice A' n' c'] 66)
      have HX9 := Lib.hid (hx.trans hal)
      have HBz := Lib.hid (hbz.ext hal)
      have hne : wr.heap.size ≠ w.heap.size + 2 := by have := hbs.lt; omega
      clear hxx
      by_cases hkz : k = 0
      · subst hkz
        have HKz' := HKz.out rfl
        simp only [Nat.zero_mul, Nat.add_zero] at c0 c1 c2 c3 c4 c5 c6
        rw [HKz'] at HKs
        unfold spF at HKs
        dsimp only at HKs
        rw [Int.min_self, Int.max_self] at HKs
        rw [if_pos (by simp)] at hbs
        have HBs0 := Lib.hid (hbs.ext hal)
        have HBs : Hid (Blk (putB (wr.alloc (.cells #[.int .i64 x.id, .int .i64 x.inn, .int .i64 x.out, .string x.region, .int .u8 x.kind, .string x.speaker, .slice A' n' c'] 66)) (w.heap.size + 2) 57 #[.int .i64 x.inn, .int .i64 x.out]) (w.heap.size + 2) 57 #[.int .i64 x.inn, .int .i64 x.out]) := HBs0.out.put _
        have HBe' := Lib.hid (HBe.out.put_other (g' := w.heap.size + 2) (t' := 57) (Ne.symm hne) #[.int .i64 x.inn, .int .i64 x.out])
        have HX9' := Lib.hid (HX9.out.put (g := w.heap.size + 2) (by omega) 57 #[.int .i64 x.inn, .int .i64 x.out])
        have HBz' := Lib.hid (HBz.out.put_other (g' := w.heap.size + 2) (t' := 57) (by omega) #[.int .i64 x.inn, .int .i64 x.out])
        clear HKz HKz' hbs hbz hal HX9 HBz
        go_upto_region 7 with (refine wpList_storeB rfl 57 (.tmp 3) _ rfl (w.heap.size + 2) 57 _ _ (by exact rfl) (by exact rfl) (by exact HBs0.out) (by exact rfl) (by exact size_spanI) (by simp [Value.oneCell']) ?_)
        clear c0 c1 c2 c3 c4 c5 c6 HBe HBs0
        have HBe := HBe'
        have HX9 := HX9'
        have HBz := HBz'
        clear HBe' HX9' HBz'
        generalize HW : putB (wr.alloc (.cells #[.int .i64 x.id, .int .i64 x.inn, .int .i64 x.out, .string x.region, .int .u8 x.kind, .string x.speaker, .slice A' n' c'] 66)) (w.heap.size + 2) 57 #[.int .i64 x.inn, .int .i64 x.out] = W9 at *
        refine wp_region_links [some 18, some 19, some 20, some 21, some 22, some 23, some 24, some 25, some 26, some 27, some 28, some 29, some 30, none, some 31, none] [[], [0], [], [2], [3], [1, 4], [], [6], [], [8], [9], [7, 10], [0, 1, 2, 3, 4, 5, 6, 7], [12, 5, 0, 1, 2, 3, 4, 5, 6, 7], [0, 1, 2, 3, 4, 5, 6, 7, 8, 9, 10, 11, 12, 13], [14, 11, 13, 0, 1, 2, 3, 4, 5, 6, 7, 8, 9, 10, 11, 12, 13]] [13, 15] [.pointer (some ⟨w.heap.size + 2, 0, none⟩), .int .i64 x.inn, .pointer (some ⟨wr.heap.size, 1, none⟩), .pointer (some ⟨wr.heap.size, 1, none⟩), .int .i64 x.inn, .int .i64 x.inn, .pointer (some ⟨w.heap.size + 2, 1, none⟩), .int .i64 x.out, .pointer (some ⟨wr.heap.size, 1, none⟩), .pointer (some ⟨wr.heap.size, 2, none⟩), .int .i64 x.out, .int .i64 x.out, .pointer (some ⟨w.heap.size + 2, 0, none⟩), undef, .pointer (some ⟨w.heap.size + 2, 1, none⟩), undef] (SpJ (w.heap.size + 2) #[.int .i64 x.inn, .int .i64 x.out] #[.int .i64 x.inn, .int .i64 x.out] W9) (by kernel_rfl) (by kernel_rfl) (by kernel_rfl) (by kernel_rfl) (by kernel_rfl) (by kernel_rfl) (by kernel_rfl) (by decide) ?_ ?_ ?_ ?_
        · exact SpJ.start W9
        · intro i o ho hc a w' us K' hJ hF hlim hk
          match i, ho with
          | 0, ho =>
            simp only [List.getElem?_toArray, List.getElem?_cons_zero, List.getElem?_cons_succ, Option.some.injEq] at ho
            subst ho
            have e3 := hF.old 3 (.pointer (some ⟨w.heap.size + 2, 0, none⟩)) rfl rfl
            simp only [Act.eval] at e3
            clear hF hlim hJ
            go_simp
            exact hk
          | 1, ho =>
            simp only [List.getElem?_toArray, List.getElem?_cons_zero, List.getElem?_cons_succ, Option.some.injEq] at ho
            subst ho
            have e18 := hF.pure 0 18 (.pointer (some ⟨w.heap.size + 2, 0, none⟩)) rfl rfl rfl rfl
            have hcl : w'.cell? ⟨w.heap.size + 2, 0, none⟩ = some (.int .i64 x.inn) := (hJ.pre (Nat.le_zero.1 (hlim 0 13 rfl rfl)) HBs.out).cell 0
            simp only [Act.eval] at e18
            clear hF hlim hJ
            go_simp
            exact hk
          | 2, ho =>
            simp only [List.getElem?_toArray, List.getElem?_cons_zero, List.getElem?_cons_succ, Option.some.injEq] at ho
            subst ho
            have e5 := hF.old 5 (.pointer (some ⟨wr.heap.size, 0, none⟩)) rfl rfl
            simp only [Act.eval] at e5
            clear hF hlim hJ
            go_simp
            exact hk
          | 3, ho =>
            simp only [List.getElem?_toArray, List.getElem?_cons_zero, List.getElem?_cons_succ, Option.some.injEq] at ho
            subst ho
            have e20 := hF.pure 2 20 (.pointer (some ⟨wr.heap.size, 1, none⟩)) rfl rfl rfl rfl
            simp only [Act.eval] at e20
            clear hF hlim hJ
            go_simp
            exact hk
          | 4, ho =>
            simp only [List.getElem?_toArray, List.getElem?_cons_zero, List.getElem?_cons_succ, Option.some.injEq] at ho
            subst ho
            have e21 := hF.pure 3 21 (.pointer (some ⟨wr.heap.size, 1, none⟩)) rfl rfl rfl rfl
            have hcl : w'.cell? ⟨wr.heap.size, 1, none⟩ = some (.int .i64 x.inn) := (hJ.oth (Nat.le_of_lt (Nat.lt_succ_of_le (hlim 1 15 rfl rfl))) HBe.out hne).cell 1
            simp only [Act.eval] at e21
            clear hF hlim hJ
            go_simp
            exact hk
          | 5, ho =>
            simp only [List.getElem?_toArray, List.getElem?_cons_zero, List.getElem?_cons_succ, Option.some.injEq] at ho
            subst ho
            have e19 := hF.pure 1 19 (.int .i64 x.inn) rfl rfl rfl rfl
            have e22 := hF.pure 4 22 (.int .i64 x.inn) rfl rfl rfl rfl
            simp only [Act.eval] at e19 e22
            clear hF hlim hJ
            go_simp
            exact hk
          | 6, ho =>
            simp only [List.getElem?_toArray, List.getElem?_cons_zero, List.getElem?_cons_succ, Option.some.injEq] at ho
            subst ho
            have e3 := hF.old 3 (.pointer (some ⟨w.heap.size + 2, 0, none⟩)) rfl rfl
            simp only [Act.eval] at e3
            clear hF hlim hJ
            go_simp
            exact hk
          | 7, ho =>
            simp only [List.getElem?_toArray, List.getElem?_cons_zero, List.getElem?_cons_succ, Option.some.injEq] at ho
            subst ho
            have e24 := hF.pure 6 24 (.pointer (some ⟨w.heap.size + 2, 1, none⟩)) rfl rfl rfl rfl
            have hcl : w'.cell? ⟨w.heap.size + 2, 1, none⟩ = some (.int .i64 x.out) := (hJ.pre (Nat.le_zero.1 (hlim 0 13 rfl rfl)) HBs.out).cell 1
            simp only [Act.eval] at e24
            clear hF hlim hJ
            go_simp
            exact hk
          | 8, ho =>
            simp only [List.getElem?_toArray, List.getElem?_cons_zero, List.getElem?_cons_succ, Option.some.injEq] at ho
            subst ho
            have e5 := hF.old 5 (.pointer (some ⟨wr.heap.size, 0, none⟩)) rfl rfl
            simp only [Act.eval] at e5
            clear hF hlim hJ
            go_simp
            exact hk
          | 9, ho =>
            simp only [List.getElem?_toArray, List.getElem?_cons_zero, List.getElem?_cons_succ, Option.some.injEq] at ho
            subst ho
            have e26 := hF.pure 8 26 (.pointer (some ⟨wr.heap.size, 1, none⟩)) rfl rfl rfl rfl
            simp only [Act.eval] at e26
            clear hF hlim hJ
            go_simp
            exact hk
          | 10, ho =>
            simp only [List.getElem?_toArray, List.getElem?_cons_zero, List.getElem?_cons_succ, Option.some.injEq] at ho
            subst ho
            have e27 := hF.pure 9 27 (.pointer (some ⟨wr.heap.size, 2, none⟩)) rfl rfl rfl rfl
            have hcl : w'.cell? ⟨wr.heap.size, 2, none⟩ = some (.int .i64 x.out) := (hJ.oth (Nat.le_of_lt (Nat.lt_succ_of_le (hlim 1 15 rfl rfl))) HBe.out hne).cell 2
            simp only [Act.eval] at e27
            clear hF hlim hJ
            go_simp
            exact hk
          | 11, ho =>
            simp only [List.getElem?_toArray, List.getElem?_cons_zero, List.getElem?_cons_succ, Option.some.injEq] at ho
            subst ho
            have e25 := hF.pure 7 25 (.int .i64 x.out) rfl rfl rfl rfl
            have e28 := hF.pure 10 28 (.int .i64 x.out) rfl rfl rfl rfl
            simp only [Act.eval] at e25 e28
            clear hF hlim hJ
            go_simp
            exact hk
          | 12, ho =>
            simp only [List.getElem?_toArray, List.getElem?_cons_zero, List.getElem?_cons_succ, Option.some.injEq] at ho
            subst ho
            have e3 := hF.old 3 (.pointer (some ⟨w.heap.size + 2, 0, none⟩)) rfl rfl
            simp only [Act.eval] at e3
            clear hF hlim hJ
            go_simp
            exact hk
          | 13, ho => simp at hc
          | 14, ho =>
            simp only [List.getElem?_toArray, List.getElem?_cons_zero, List.getElem?_cons_succ, Option.some.injEq] at ho
            subst ho
            have e3 := hF.old 3 (.pointer (some ⟨w.heap.size + 2, 0, none⟩)) rfl rfl
            simp only [Act.eval] at e3
            clear hF hlim hJ
            go_simp
            exact hk
          | 15, ho => simp at hc
          | i + 16, ho => simp at ho
        · intro p c' o hp ho a w' us K' hl hJ hF hk
          match p, hp with
          | 0, hp =>
            obtain rfl : 13 = c' := by simpa using hp
            simp only [List.getElem?_toArray, List.getElem?_cons_zero, List.getElem?_cons_succ, Option.some.injEq] at ho
            subst ho
            obtain rfl : us = [] := List.eq_nil_of_length_eq_zero hl
            have e30 := hF.pure 12 30 (.pointer (some ⟨w.heap.size + 2, 0, none⟩)) rfl rfl rfl rfl
            have e23 := hF.pure 5 23 (.int .i64 x.inn) rfl rfl rfl rfl
            have hb := hJ.pre rfl HBs.out
            have hcl := hb.cell 0
            have hfr := hb.frozen 0
            have hset := setCell_put hb 0 (.int .i64 x.inn)
            simp at hset hcl
            have HK := Lib.hid (hk undef _ (hJ.sto1 (u := undef)))
            clear hb hk hF hJ
            simp only [Act.eval] at e30 e23
            go_simp
            exact HK.out
          | 1, hp =>
            obtain rfl : 15 = c' := by simpa using hp
            simp only [List.getElem?_toArray, List.getElem?_cons_zero, List.getElem?_cons_succ, Option.some.injEq] at ho
            subst ho
            obtain ⟨u0, rfl⟩ := list_1 hl
            have e31 := hF.pure 14 31 (.pointer (some ⟨w.heap.size + 2, 1, none⟩)) rfl rfl rfl rfl
            have e29 := hF.pure 11 29 (.int .i64 x.out) rfl rfl rfl rfl
            have hb := hJ.mid rfl HBs.out
            have hcl := hb.cell 1
            have hfr := hb.frozen 1
            have hset := setCell_put hb 1 (.int .i64 x.out)
            simp at hset hcl
            have HK := Lib.hid (hk undef _ (hJ.sto2 (v := undef)))
            clear hb hk hF hJ
            simp only [Act.eval] at e31 e29
            go_simp
            exact HK.out
          | p + 2, hp => simp at hp
        intro us w10 hl hJ
        obtain ⟨u0, u1, rfl⟩ := list_2 hl
        first | (rename_i hK; refine hK _ _ ?_; clear hK) | (rename_i hK hK_1; refine hK _ _ ?_; clear hK) | (rename_i hK hK_1 hK_2; refine hK _ _ ?_; clear hK) | (rename_i hK hK_1 hK_2 hK_3; refine hK _ _ ?_; clear hK)
        generalize hL : frameL _ _ _ _ = L
        obtain rfl : L = [(18, .pointer (some ⟨w.heap.size + 2, 0, none⟩)), (19, .int .i64 x.inn), (20, .pointer (some ⟨wr.heap.size, 1, none⟩)), (21, .pointer (some ⟨wr.heap.size, 1, none⟩)), (22, .int .i64 x.inn), (23, .int .i64 x.inn), (24, .pointer (some ⟨w.heap.size + 2, 1, none⟩)), (25, .int .i64 x.out), (26, .pointer (some ⟨wr.heap.size, 1, none⟩)), (27, .pointer (some ⟨wr.heap.size, 2, none⟩)), (28, .int .i64 x.out), (29, .int .i64 x.out), (30, .pointer (some ⟨w.heap.size + 2, 0, none⟩)), (31, .pointer (some ⟨w.heap.size + 2, 1, none⟩))] := hL.symm.trans (by kernel_rfl)
        clear hL hl
        simp only [Act.put, List.foldl_cons, List.foldl_nil, List.setIfInBounds_toArray, List.set_cons_zero, List.set_cons_succ]
        obtain ⟨w5, hx5, rfl⟩ := hJ.two rfl
        go_wp2_with fail
        refine ⟨⟨1, by omega, by go_num, (HX9.out.trans hx5).put (by omega) _ _, ?_, (HBz.out.ext hx5).put_other (by omega) _⟩, by simp [intOf]; omega⟩
        rw [if_neg (by simp), HKs.out]
        exact (HBs.out.ext hx5).put _
      · obtain ⟨p9, ha⟩ : ∃ p9, p9 = (spK d.evs k).1 := ⟨_, rfl⟩
        obtain ⟨q9, hb'⟩ : ∃ q9, q9 = (spK d.evs k).2 := ⟨_, rfl⟩
        rw [if_neg (by simp [hkz]), ← ha, ← hb'] at hbs
        unfold spF at HKs
        rw [← ha, ← hb'] at HKs
        have HBs := Lib.hid (hbs.ext hal)
        have hkz' : ((k : Int) == 0) = false := by simp; omega
        clear HKz ha hb' hbs hbz hal
        go_upto_region 7 with fail
        clear c0 c1 c2 c3 c4 c5 c6
        generalize HW : wr.alloc (.cells #[.int .i64 x.id, .int .i64 x.inn, .int .i64 x.out, .string x.region, .int .u8 x.kind, .string x.speaker, .slice A' n' c'] 66) = W9 at *
        refine wp_region_links [some 18, some 19, some 20, some 21, some 22, some 23, some 24, some 25, some 26, some 27, some 28, some 29, some 30, none, some 31, none] [[], [0], [], [2], [3], [1, 4], [], [6], [], [8], [9], [7, 10], [0, 1, 2, 3, 4, 5, 6, 7], [12, 5, 0, 1, 2, 3, 4, 5, 6, 7], [0, 1, 2, 3, 4, 5, 6, 7, 8, 9, 10, 11, 12, 13], [14, 11, 13, 0, 1, 2, 3, 4, 5, 6, 7, 8, 9, 10, 11, 12, 13]] [13, 15] [.pointer (some ⟨w.heap.size + 2, 0, none⟩), .int .i64 p9, .pointer (some ⟨wr.heap.size, 1, none⟩), .pointer (some ⟨wr.heap.size, 1, none⟩), .int .i64 x.inn, .int .i64 (min p9 x.inn), .pointer (some ⟨w.heap.size + 2, 1, none⟩), .int .i64 q9, .pointer (some ⟨wr.heap.size, 1, none⟩), .pointer (some ⟨wr.heap.size, 2, none⟩), .int .i64 x.out, .int .i64 (max q9 x.out), .pointer (some ⟨w.heap.size + 2, 0, none⟩), undef, .pointer (some ⟨w.heap.size + 2, 1, none⟩), undef] (SpJ (w.heap.size + 2) #[.int .i64 (min p9 x.inn), .int .i64 q9] #[.int .i64 (min p9 x.inn), .int .i64 (max q9 x.out)] W9) (by kernel_rfl) (by kernel_rfl) (by kernel_rfl) (by kernel_rfl) (by kernel_rfl) (by kernel_rfl) (by kernel_rfl) (by decide) ?_ ?_ ?_ ?_
        · exact SpJ.start W9
        · intro i o ho hc a w' us K' hJ hF hlim hk
          match i, ho with
          | 0, ho =>
            simp only [List.getElem?_toArray, List.getElem?_cons_zero, List.getElem?_cons_succ, Option.some.injEq] at ho
            subst ho
            have e3 := hF.old 3 (.pointer (some ⟨w.heap.size + 2, 0, none⟩)) rfl rfl
            simp only [Act.eval] at e3
            clear hF hlim hJ
            go_simp
            exact hk
          | 1, ho =>
            simp only [List.getElem?_toArray, List.getElem?_cons_zero, List.getElem?_cons_succ, Option.some.injEq] at ho
            subst ho
            have e18 := hF.pure 0 18 (.pointer (some ⟨w.heap.size + 2, 0, none⟩)) rfl rfl rfl rfl
            have hcl : w'.cell? ⟨w.heap.size + 2, 0, none⟩ = some (.int .i64 p9) := (hJ.pre (Nat.le_zero.1 (hlim 0 13 rfl rfl)) HBs.out).cell 0
            simp only [Act.eval] at e18
            clear hF hlim hJ
            go_simp
            exact hk
          | 2, ho =>
            simp only [List.getElem?_toArray, List.getElem?_cons_zero, List.getElem?_cons_succ, Option.some.injEq] at ho
            subst ho
            have e5 := hF.old 5 (.pointer (some ⟨wr.heap.size, 0, none⟩)) rfl rfl
            simp only [Act.eval] at e5
            clear hF hlim hJ
            go_simp
            exact hk
          | 3, ho =>
            simp only [List.getElem?_toArray, List.getElem?_cons_zero, List.getElem?_cons_succ, Option.some.injEq] at ho
            subst ho
            have e20 := hF.pure 2 20 (.pointer (some ⟨wr.heap.size, 1, none⟩)) rfl rfl rfl rfl
            simp only [Act.eval] at e20
            clear hF hlim hJ
            go_simp
            exact hk
          | 4, ho =>
            simp only [List.getElem?_toArray, List.getElem?_cons_zero, List.getElem?_cons_succ, Option.some.injEq] at ho
            subst ho
            have e21 := hF.pure 3 21 (.pointer (some ⟨wr.heap.size, 1, none⟩)) rfl rfl rfl rfl
            have hcl : w'.cell? ⟨wr.heap.size, 1, none⟩ = some (.int .i64 x.inn) := (hJ.oth (Nat.le_of_lt (Nat.lt_succ_of_le (hlim 1 15 rfl rfl))) HBe.out hne).cell 1
            simp only [Act.eval] at e21
            clear hF hlim hJ
            go_simp
            exact hk
          | 5, ho =>
            simp only [List.getElem?_toArray, List.getElem?_cons_zero, List.getElem?_cons_succ, Option.some.injEq] at ho
            subst ho
            have e19 := hF.pure 1 19 (.int .i64 p9) rfl rfl rfl rfl
            have e22 := hF.pure 4 22 (.int .i64 x.inn) rfl rfl rfl rfl
            simp only [Act.eval] at e19 e22
            clear hF hlim hJ
            go_simp
            exact hk
          | 6, ho =>
            simp only [List.getElem?_toArray, List.getElem?_cons_zero, List.getElem?_cons_succ, Option.some.injEq] at ho
            subst ho
            have e3 := hF.old 3 (.pointer (some ⟨w.heap.size + 2, 0, none⟩)) rfl rfl
            simp only [Act.eval] at e3
            clear hF hlim hJ
            go_simp
            exact hk
          | 7, ho =>
            simp only [List.getElem?_toArray, List.getElem?_cons_zero, List.getElem?_cons_succ, Option.some.injEq] at ho
            subst ho
            have e24 := hF.pure 6 24 (.pointer (some ⟨w.heap.size + 2, 1, none⟩)) rfl rfl rfl rfl
            have hcl : w'.cell? ⟨w.heap.size + 2, 1, none⟩ = some (.int .i64 q9) := (hJ.pre (Nat.le_zero.1 (hlim 0 13 rfl rfl)) HBs.out).cell 1
            simp only [Act.eval] at e24
            clear hF hlim hJ
            go_simp
            exact hk
          | 8, ho =>
            simp only [List.getElem?_toArray, List.getElem?_cons_zero, List.getElem?_cons_succ, Option.some.injEq] at ho
            subst ho
            have e5 := hF.old 5 (.pointer (some ⟨wr.heap.size, 0, none⟩)) rfl rfl
            simp only [Act.eval] at e5
            clear hF hlim hJ
            go_simp
            exact hk
          | 9, ho =>
            simp only [List.getElem?_toArray, List.getElem?_cons_zero, List.getElem?_cons_succ, Option.some.injEq] at ho
            subst ho
            have e26 := hF.pure 8 26 (.pointer (some ⟨wr.heap.size, 1, none⟩)) rfl rfl rfl rfl
            simp only [Act.eval] at e26
            clear hF hlim hJ
            go_simp
            exact hk
          | 10, ho =>
            simp only [List.getElem?_toArray, List.getElem?_cons_zero, List.getElem?_cons_succ, Option.some.injEq] at ho
            subst ho
            have e27 := hF.pure 9 27 (.pointer (some ⟨wr.heap.size, 2, none⟩)) rfl rfl rfl rfl
            have hcl : w'.cell? ⟨wr.heap.size, 2, none⟩ = some (.int .i64 x.out) := (hJ.oth (Nat.le_of_lt (Nat.lt_succ_of_le (hlim 1 15 rfl rfl))) HBe.out hne).cell 2
            simp only [Act.eval] at e27
            clear hF hlim hJ
            go_simp
            exact hk
          | 11, ho =>
            simp only [List.getElem?_toArray, List.getElem?_cons_zero, List.getElem?_cons_succ, Option.some.injEq] at ho
            subst ho
            have e25 := hF.pure 7 25 (.int .i64 q9) rfl rfl rfl rfl
            have e28 := hF.pure 10 28 (.int .i64 x.out) rfl rfl rfl rfl
            simp only [Act.eval] at e25 e28
            clear hF hlim hJ
            go_simp
            exact hk
          | 12, ho =>
            simp only [List.getElem?_toArray, List.getElem?_cons_zero, List.getElem?_cons_succ, Option.some.injEq] at ho
            subst ho
            have e3 := hF.old 3 (.pointer (some ⟨w.heap.size + 2, 0, none⟩)) rfl rfl
            simp only [Act.eval] at e3
            clear hF hlim hJ
            go_simp
            exact hk
          | 13, ho => simp at hc
          | 14, ho =>
            simp only [List.getElem?_toArray, List.getElem?_cons_zero, List.getElem?_cons_succ, Option.some.injEq] at ho
            subst ho
            have e3 := hF.old 3 (.pointer (some ⟨w.heap.size + 2, 0, none⟩)) rfl rfl
            simp only [Act.eval] at e3
            clear hF hlim hJ
            go_simp
            exact hk
          | 15, ho => simp at hc
          | i + 16, ho => simp at ho
        · intro p c' o hp ho a w' us K' hl hJ hF hk
          match p, hp with
          | 0, hp =>
            obtain rfl : 13 = c' := by simpa using hp
            simp only [List.getElem?_toArray, List.getElem?_cons_zero, List.getElem?_cons_succ, Option.some.injEq] at ho
            subst ho
            obtain rfl : us = [] := List.eq_nil_of_length_eq_zero hl
            have e30 := hF.pure 12 30 (.pointer (some ⟨w.heap.size + 2, 0, none⟩)) rfl rfl rfl rfl
            have e23 := hF.pure 5 23 (.int .i64 (min p9 x.inn)) rfl rfl rfl rfl
            have hb := hJ.pre rfl HBs.out
            have hcl := hb.cell 0
            have hfr := hb.frozen 0
            have hset := setCell_put hb 0 (.int .i64 (min p9 x.inn))
            simp at hset hcl
            have HK := Lib.hid (hk undef _ (hJ.sto1 (u := undef)))
            clear hb hk hF hJ
            simp only [Act.eval] at e30 e23
            go_simp
            exact HK.out
          | 1, hp =>
            obtain rfl : 15 = c' := by simpa using hp
            simp only [List.getElem?_toArray, List.getElem?_cons_zero, List.getElem?_cons_succ, Option.some.injEq] at ho
            subst ho
            obtain ⟨u0, rfl⟩ := list_1 hl
            have e31 := hF.pure 14 31 (.pointer (some ⟨w.heap.size + 2, 1, none⟩)) rfl rfl rfl rfl
            have e29 := hF.pure 11 29 (.int .i64 (max q9 x.out)) rfl rfl rfl rfl
            have hb := hJ.mid rfl HBs.out
            have hcl := hb.cell 1
            have hfr := hb.frozen 1
            have hset := setCell_put hb 1 (.int .i64 (max q9 x.out))
            simp at hset hcl
            have HK := Lib.hid (hk undef _ (hJ.sto2 (v := undef)))
            clear hb hk hF hJ
            simp only [Act.eval] at e31 e29
            go_simp
            exact HK.out
          | p + 2, hp => simp at hp
        intro us w10 hl hJ
        obtain ⟨u0, u1, rfl⟩ := list_2 hl
        first | (rename_i hK; refine hK _ _ ?_; clear hK) | (rename_i hK hK_1; refine hK _ _ ?_; clear hK) | (rename_i hK hK_1 hK_2; refine hK _ _ ?_; clear hK) | (rename_i hK hK_1 hK_2 hK_3; refine hK _ _ ?_; clear hK)
        generalize hL : frameL _ _ _ _ = L
        obtain rfl : L = [(18, .pointer (some ⟨w.heap.size + 2, 0, none⟩)), (19, .int .i64 p9), (20, .pointer (some ⟨wr.heap.size, 1, none⟩)), (21, .pointer (some ⟨wr.heap.size, 1, none⟩)), (22, .int .i64 x.inn), (23, .int .i64 (min p9 x.inn)), (24, .pointer (some ⟨w.heap.size + 2, 1, none⟩)), (25, .int .i64 q9), (26, .pointer (some ⟨wr.heap.size, 1, none⟩)), (27, .pointer (some ⟨wr.heap.size, 2, none⟩)), (28, .int .i64 x.out), (29, .int .i64 (max q9 x.out)), (30, .pointer (some ⟨w.heap.size + 2, 0, none⟩)), (31, .pointer (some ⟨w.heap.size + 2, 1, none⟩))] := hL.symm.trans (by kernel_rfl)
        clear hL hl
        simp only [Act.put, List.foldl_cons, List.foldl_nil, List.setIfInBounds_toArray, List.set_cons_zero, List.set_cons_succ]
        obtain ⟨w5, hx5, rfl⟩ := hJ.two rfl
        go_wp2_with fail
        refine ⟨⟨k + 1, by omega, by go_num, (HX9.out.trans hx5).put (by omega) _ _, ?_, (HBz.out.ext hx5).put_other (by omega) _⟩, by simp [intOf]; omega⟩
        rw [if_neg (by simp), HKs.out]
        exact (HBs.out.ext hx5).put _
    · have hkn : k = d.evs.length := by rw [HLn.out]; omega
      have HV : Hid ((if true = true ∧ k = 0 then ((0, 0) : Int × Int) else spK d.evs k) = spL d.evs) := spK_end true hkn
      have hbs' : Hid (Blk wr (w.heap.size + 2) 57 #[.int .i64 (spL d.evs).1, .int .i64 (spL d.evs).2]) := by show Blk _ _ _ _; rw [← HV.out]; exact hbs
      have HBz := Lib.hid hbz
      clear HV hbs hbz
      have hkk : ¬ (k : Int) < (n : Int) := by omega
      go_wp2_with (first | (refine wpList_loadB rfl 57 (.tmp 3) rfl (w.heap.size + 2) 57 _ _ (by exact rfl) (by exact hbs'.out) Tryz.underlying57 rfl (by exact size_spanI) ?_) | (refine wpList_storeB rfl 57 (.tmp 2) _ rfl (w.heap.size + 1) 57 _ _ (by exact rfl) (by exact rfl) (by exact HBz.out) (by exact rfl) (by exact size_spanI) (by simp [Value.oneCell']) ?_))
      refine bodyPost_ret (v := .agg #[.int .i64 (spL d.evs).1, .int .i64 (spL d.evs).2]) ?_ rfl ⟨rfl, hx.put (by omega) _ _⟩
      exact results_B (P := Tryz.prog) Tryz.results41 (g := w.heap.size + 1) rfl (by exact HBz.out.put _) Tryz.underlying57 rfl size_spanI
end Go.Proofs.YtagfedbdakmlgaaGreatDoor
