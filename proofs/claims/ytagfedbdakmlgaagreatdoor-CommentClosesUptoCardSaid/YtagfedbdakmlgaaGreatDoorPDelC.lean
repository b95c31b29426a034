/- The walk of slices.Delete of comments: one element. -/
import Derived.Test.YtagfedbdakmlgaaGreatDoorPDelP
namespace Go.Proofs.YtagfedbdakmlgaaGreatDoor
set_option linter.unusedVariables false
set_option linter.unusedSimpArgs false
open Go.RowKit
/-- an append in place, then its assignment, in a drawn region -/
structure DelJ (g : Nat) (cur2 : Array Value) (v : Value) (W : World) (us : List Value) (w' : World) : Prop where
  nil : us = [] → Ext W w'
  val : ∀ u, us = [u] → u = v
  vals : ∀ u u1, us = [u, u1] → u = v ∧ u1 = v
  one : us ≠ [] → ∃ w5, Ext W w5 ∧ w' = putB w5 g 78 cur2
section
variable {g : Nat} {cur2 : Array Value} {v : Value} {W w' : World}
theorem DelJ.start (W : World) : DelJ g cur2 v W [] W.drew := ⟨fun _ => (Ext.refl W).drew, fun u h => by simp at h, fun u u1 h => by simp at h, fun h => absurd rfl h⟩
theorem DelJ.app (h : DelJ g cur2 v W [] w') : DelJ g cur2 v W ([] ++ [v]) (putB w' g 78 cur2) := ⟨fun h => by simp at h, fun u h => by simpa using h.symm, fun u u1 h => by simp at h, fun _ => ⟨w', h.nil rfl, rfl⟩⟩
theorem DelJ.asg (h : DelJ g cur2 v W [v] w') : DelJ g cur2 v W ([v] ++ [v]) w' := ⟨fun h => by simp at h, fun u h => by simp at h, fun u u1 h => by simp at h; exact ⟨h.1.symm, h.2.symm⟩, fun _ => h.one (by simp)⟩
end
theorem zero_com (w : World) : (zeroValue 78).run Tryz.prog w = .ok (.agg #[.int .i64 0, .int .i64 0, .int .i64 0, .int .i64 0, .string ⟨#[]⟩, .string ⟨#[]⟩, .bool false, .bool false]) w := by kernel_rfl
set_option maxRecDepth 100000 in
set_option maxHeartbeats 4000000 in
theorem CDel_any {w : World} {L g n c k : Nat} {l : List Com} (hown : w.ownsRow L 78 8 (.slice (some ⟨g, 0, none⟩) n c) n (l.flatMap Com.vals)) (hl : l.length = n) (hk : k < n) :
    Calls Tryz.prog 84 #[.slice (some ⟨g, 0, none⟩) n c, .int .i64 (k : Int), .int .i64 ((k : Int) + 1)] w fun en w' => en = .returned (.slice (some ⟨g, 0, none⟩) (n - 1) c) ∧ w'.ownsRow L 78 8 (.slice (some ⟨g, 0, none⟩) (n - 1) c) (n - 1) ((l.take k ++ l.drop (k + 1)).flatMap Com.vals) ∧
      ∃ cur w2 cur', Blk w g 78 cur ∧ Ext w w2 ∧ w' = putB w2 g 78 cur' := by
  rcases hown.2 with ⟨hv, hn⟩ | ⟨g', cap, cur, hv, hg, hb, hnc, hcm, hcs, ht⟩
  · omega
  cases hv
  have hB : Blk w g 78 cur := hb
  have hsrc0 : (l.drop (k + 1)).flatMap Com.vals = (l.flatMap Com.vals).drop ((k + 1) * 8) := (flatMap_drop (f := Com.vals) (s := 8) (fun _ => rfl) l (k + 1)).symm
  obtain ⟨news, hnews⟩ : ∃ news, news = (l.drop (k + 1)).flatMap Com.vals := ⟨_, rfl⟩
  have hlen : news.length = (n - (k + 1)) * 8 := by rw [hnews, flatMap_len Com.vals 8 (fun _ => rfl), List.length_drop, hl]
  have hcell : ∀ j u, news[j]? = some u → w.cell? ⟨g, (k + 1) * 8 + j, none⟩ = some u := fun j u hu => by
    have hj : j < (n - (k + 1)) * 8 := by rw [← hlen]; exact (List.getElem?_eq_some_iff.1 hu).1
    rw [hown.cellAt ((k + 1) * 8 + j) (by omega), ← List.getElem?_drop, ← hsrc0, ← hnews, hu]
  obtain ⟨A, hA, hsrc⟩ : ∃ A : Addr, (if c = k + 1 then (some ⟨g, 0, none⟩ : Option Addr) else some ⟨g, (k + 1) * 8, none⟩) = some A ∧ (∀ j u, news[j]? = some u → w.cell? (A.add j) = some u) := by
    by_cases h : c = k + 1
    · refine ⟨⟨g, 0, none⟩, by rw [if_pos h], fun j u hu => ?_⟩
      have h0 : news.length = 0 := by rw [hlen]; omega
      rw [List.length_eq_zero_iff.1 h0] at hu
      simp at hu
    · exact ⟨⟨g, (k + 1) * 8, none⟩, by rw [if_neg h], fun j u hu => by rw [Addr.add_mid]; exact hcell j u hu⟩
  have HB := Lib.hid hB
  have HLn := Lib.hid hlen
  have HSrc := Lib.hid hsrc
  have HOne : Hid (∀ u ∈ news, u.oneCell' = true) := by
    show ∀ u ∈ news, _
    rw [hnews]
    exact flatMap_one com_ones _
  have HFit : Hid (k * 8 + news.length ≤ cur.size) := by show _ ≤ _; rw [hlen, hcs]; omega
  obtain ⟨cur2, hcur2⟩ : ∃ cur2, cur2 = (cur.toList.take (k * 8) ++ news ++ cur.toList.drop (k * 8 + news.length)).toArray := ⟨_, rfl⟩
  have hcs2 : cur2.size = cur.size := by
    have := HFit.out
    rw [hcur2]; simp; omega
  obtain ⟨w2, hw2⟩ : ∃ w2, w2 = w := ⟨_, rfl⟩
  have hne : ((k : Int) == (k : Int) + 1) = false := by simp; omega
  have hkc : k ≤ c := by omega
  have hk1 : k + 1 ≤ c := by omega
  have hbd : 0 ≤ (k : Int) + 1 ∧ (k : Int) + 1 ≤ (n : Int) := by omega
  go_enter Tryz.func84, Tryz.ntmps84
  go_upto_region 5 with fail
  rw [← hw2] at HB HSrc ⊢
  have HC2 := Lib.hid hcur2
  have HD := Lib.hid hnews
  have HW2 := Lib.hid hw2
  have HT := Lib.hid ht
  have HBo := Lib.hid hB
  clear hcur2 hnews hsrc hcell hsrc0 hlen hw2 hown ht hb hB
  refine wp_region_links [some 20, some 21, some 22, some 23, some 24, some 25, some 26, some 0] [[], [], [0, 1], [], [], [3, 4], [2, 5], [6, 6, 0, 1, 2, 3, 4, 5, 6]] [6, 7] [.slice (some ⟨g, 0, none⟩) n c, .int .i64 (k : Int), .slice (some ⟨g, 0, none⟩) k c, .slice (some ⟨g, 0, none⟩) n c, .int .i64 ((k : Int) + 1), .slice (some A) (n - (k + 1)) (c - (k + 1)), undef, undef] (DelJ g cur2 (.slice (some ⟨g, 0, none⟩) (k + (n - (k + 1))) c) w2) (by kernel_rfl) (by kernel_rfl) (by kernel_rfl) (by kernel_rfl) (by kernel_rfl) (by kernel_rfl) (by kernel_rfl) (by decide) ?_ ?_ ?_ ?_
  · exact DelJ.start w2
  · intro i o ho hc a w' us K' hJ hF hlim hk
    match i, ho with
    | 0, ho =>
      simp only [List.getElem?_toArray, List.getElem?_cons_zero, List.getElem?_cons_succ, Option.some.injEq] at ho
      subst ho
      have e0 := hF.olds 1 7 0 (.slice (some ⟨g, 0, none⟩) n c) rfl rfl (hlim 1 7 rfl rfl) rfl
      simp only [Act.eval] at e0
      clear hF hlim hJ
      go_simp
      exact hk
    | 1, ho =>
      simp only [List.getElem?_toArray, List.getElem?_cons_zero, List.getElem?_cons_succ, Option.some.injEq] at ho
      subst ho
      have e1 := hF.old 1 (.int .i64 (k : Int)) rfl rfl
      simp only [Act.eval] at e1
      clear hF hlim hJ
      go_simp
      exact hk
    | 2, ho =>
      simp only [List.getElem?_toArray, List.getElem?_cons_zero, List.getElem?_cons_succ, Option.some.injEq] at ho
      subst ho
      have e20 := hF.pure 0 20 (.slice (some ⟨g, 0, none⟩) n c) rfl rfl rfl rfl
      have e21 := hF.pure 1 21 (.int .i64 (k : Int)) rfl rfl rfl rfl
      simp only [Act.eval] at e20 e21
      clear hF hlim hJ
      go_simp
      exact hk
    | 3, ho =>
      simp only [List.getElem?_toArray, List.getElem?_cons_zero, List.getElem?_cons_succ, Option.some.injEq] at ho
      subst ho
      have e0 := hF.olds 1 7 0 (.slice (some ⟨g, 0, none⟩) n c) rfl rfl (hlim 1 7 rfl rfl) rfl
      simp only [Act.eval] at e0
      clear hF hlim hJ
      go_simp
      exact hk
    | 4, ho =>
      simp only [List.getElem?_toArray, List.getElem?_cons_zero, List.getElem?_cons_succ, Option.some.injEq] at ho
      subst ho
      have e2 := hF.old 2 (.int .i64 ((k : Int) + 1)) rfl rfl
      simp only [Act.eval] at e2
      clear hF hlim hJ
      go_simp
      exact hk
    | 5, ho =>
      simp only [List.getElem?_toArray, List.getElem?_cons_zero, List.getElem?_cons_succ, Option.some.injEq] at ho
      subst ho
      have e23 := hF.pure 3 23 (.slice (some ⟨g, 0, none⟩) n c) rfl rfl rfl rfl
      have e24 := hF.pure 4 24 (.int .i64 ((k : Int) + 1)) rfl rfl rfl rfl
      simp only [Act.eval] at e24 e23
      clear hF hlim hJ
      go_simp
      exact hk
    | 6, ho => simp at hc
    | 7, ho => simp at hc
    | i + 8, ho => simp at ho
  · intro p c' o hp ho a w' us K' hl hJ hF hk
    match p, hp with
    | 0, hp =>
      obtain rfl : 6 = c' := by simpa using hp
      simp only [List.getElem?_toArray, List.getElem?_cons_zero, List.getElem?_cons_succ, Option.some.injEq] at ho
      subst ho
      obtain rfl : us = [] := List.eq_nil_of_length_eq_zero hl
      have e22 := hF.pure 2 22 (.slice (some ⟨g, 0, none⟩) k c) rfl rfl rfl rfl
      have e25 := hF.pure 5 25 (.slice (some A) (n - (k + 1)) (c - (k + 1))) rfl rfl rfl rfl
      exact wp_append_room (.tmp 22) (.tmp 25) 25 rfl info_comI Tryz.underlying25 (HB.out.ext (hJ.nil rfl)) e22 e25 HLn.out (fun j u hu => (hJ.nil rfl).cell (HSrc.out j u hu)) HOne.out (by omega) HFit.out (by rw [← HC2.out]; exact hk _ _ hJ.app)
    | 1, hp =>
      obtain rfl : 7 = c' := by simpa using hp
      simp only [List.getElem?_toArray, List.getElem?_cons_zero, List.getElem?_cons_succ, Option.some.injEq] at ho
      subst ho
      obtain ⟨u0, rfl⟩ := list_1 hl
      obtain rfl := hJ.val u0 rfl
      have e26 := hF.link 0 6 26 _ rfl rfl rfl rfl
      exact wp_assignx _ _ rfl e26 (hk _ _ hJ.asg)
    | p + 2, hp => simp at hp
  intro us w5 hl hJ
  obtain ⟨u0, u1, rfl⟩ := list_2 hl
  first | (rename_i hK; refine hK _ _ ?_; clear hK) | (rename_i hK hK_1; refine hK _ _ ?_; clear hK) | (rename_i hK hK_1 hK_2; refine hK _ _ ?_; clear hK) | (rename_i hK hK_1 hK_2 hK_3; refine hK _ _ ?_; clear hK)
  generalize hL : frameL _ _ _ _ = L
  obtain rfl : L = [(20, .slice (some ⟨g, 0, none⟩) n c), (21, .int .i64 (k : Int)), (22, .slice (some ⟨g, 0, none⟩) k c), (23, .slice (some ⟨g, 0, none⟩) n c), (24, .int .i64 ((k : Int) + 1)), (25, .slice (some A) (n - (k + 1)) (c - (k + 1))), (26, u0), (0, u1)] := hL.symm.trans (by kernel_rfl)
  clear hL hl
  simp only [Act.put, List.foldl_cons, List.foldl_nil, List.setIfInBounds_toArray, List.set_cons_zero, List.set_cons_succ]

  obtain ⟨rfl, rfl⟩ := hJ.vals u0 u1 rfl
  obtain ⟨w9, hx9, rfl⟩ := hJ.one (by simp)
  clear hJ
  rw [show k + (n - (k + 1)) = n - 1 by omega]
  have hcl : n - 1 ≤ c := by omega
  have hcl2 : ¬ c = n - 1 := by omega
  have HB9 := Lib.hid ((HB.out.ext hx9).put cur2)
  have hcs3 := hcs2
  obtain ⟨cur', hz1, hz2, hrun⟩ := run_clear_blk (P := Tryz.prog) (w := putB w9 g 78 cur2) (t := 25) (e := 78) (ty := 0) (c := c - (n - 1)) (n := n - (n - 1)) (o := (n - 1) * 8) (g := g) (cur := cur2) Tryz.underlying25 zero_com (by simp [Value.cells, Value.oneCell']) HB9.out (by show _ + _ * 8 ≤ _; omega)
  have HZ1 := Lib.hid hz1
  have HZ2 := Lib.hid hz2
  clear hz1 hz2
  go_wp2_with fail
  go_ret
  have hx' : Ext w w9 := by have := HW2.out; subst this; exact hx9
  refine ⟨rfl, ⟨?_, .inr ⟨g, c, cur', rfl, hg, ((HB.out.ext hx9).put cur2).put cur', by omega, hcm, by have := HZ1.out; omega, ?_⟩⟩, cur, w9, cur', HBo.out, hx', by rw [putB_putB]⟩
  · rw [flatMap_len Com.vals 8 (fun _ => rfl), List.length_append, List.length_take, List.length_drop, hl]
    omega
  · have e1 : cur.toList.take (k * 8) = (l.take k).flatMap Com.vals := by
      rw [← flatMap_take (f := Com.vals) (s := 8) (fun _ => rfl) l k, ← HT.out, List.take_take, Nat.min_eq_left (by omega)]
    rw [HZ2.out, HC2.out, HD.out, e1, List.flatMap_append]
    have e2 : ((l.take k).flatMap Com.vals ++ (l.drop (k + 1)).flatMap Com.vals).length = (n - 1) * 8 := by
      rw [← List.flatMap_append, flatMap_len Com.vals 8 (fun _ => rfl), List.length_append, List.length_take, List.length_drop, hl]
      omega
    rw [List.take_append_of_le_length (by rw [e2]; exact Nat.le_refl _), ← e2, List.take_length]
end Go.Proofs.YtagfedbdakmlgaaGreatDoor
