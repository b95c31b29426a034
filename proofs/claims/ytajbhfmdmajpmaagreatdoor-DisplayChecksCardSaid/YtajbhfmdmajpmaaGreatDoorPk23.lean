/- Laid together: The walk of the reference's times. Results of calls in a drawn region, one after the other. -/
import Derived.Test.YtajbhfmdmajpmaaGreatDoorPk19
import Derived.Test.YtajbhfmdmajpmaaGreatDoorPk17
import Derived.Test.YtajbhfmdmajpmaaGreatDoorPk05

/-! TmsR -/
namespace Go.Proofs.YtajbhfmdmajpmaaGreatDoor
set_option linter.unusedVariables false
set_option linter.unusedSimpArgs false
open Go.RowKit
theorem insAt_le (l : List Int) (t : Int) : insAt l t ≤ l.length := by unfold insAt; exact (List.takeWhile_sublist _).length_le
theorem insAt_go : ∀ {l : List Int} {t : Int} {k : Nat} {x : Int}, k ≤ insAt l t → l[k]? = some x → (x < t → k + 1 ≤ insAt l t) ∧ (¬ x < t → insAt l t = k)
  | [], t, k, x, _, h => by simp at h
  | a :: l, t, 0, x, _, h => by
    simp at h; subst h
    unfold insAt
    rw [List.takeWhile_cons]
    by_cases ha : a < t
    · rw [if_pos (by simpa using ha)]; exact ⟨fun _ => by simp, fun h => absurd ha h⟩
    · rw [if_neg (by simpa using ha)]; exact ⟨fun h => absurd h ha, fun _ => rfl⟩
  | a :: l, t, k + 1, x, hk, h => by
    unfold insAt at hk ⊢
    rw [List.takeWhile_cons] at hk ⊢
    by_cases ha : a < t
    · rw [if_pos (by simpa using ha)] at hk ⊢
      simp only [List.length_cons] at hk ⊢
      have := insAt_go (l := l) (t := t) (k := k) (x := x) (by unfold insAt; omega) (by simpa using h)
      unfold insAt at this
      exact ⟨fun h => by have := this.1 h; omega, fun h => by have := this.2 h; omega⟩
    · rw [if_neg (by simpa using ha)] at hk
      simp at hk
def ivals (l : List Int) : List Value := l.flatMap fun x => [Value.int .i64 x]
def TsRel (w1 : World) (n : Nat) (l : List Ev) (v i : Value) (wr : World) : Prop :=
  ∃ k : Nat, k ≤ n ∧ i = .int .i64 k ∧ Ext w1 wr ∧ wr.ownsRow w1.heap.size 2 1 v (tmsOf (evTs (l.take k))).length (ivals (tmsOf (evTs (l.take k))))
def TsRel2 (w1 : World) (T0 ab : List Int) (v i : Value) (wr : World) : Prop :=
  ∃ m : Nat, m ≤ 2 ∧ i = .int .i64 m ∧ Ext w1 wr ∧ wr.ownsRow w1.heap.size 2 1 v ((ab.take m).foldl insT T0).length (ivals ((ab.take m).foldl insT T0))
theorem ts_snoc {ab : List Int} {m : Nat} {t : Int} (T0 : List Int) (h : ab[m]? = some t) : (ab.take (m + 1)).foldl insT T0 = insT ((ab.take m).foldl insT T0) t := by
  rw [take_snoc' ab m t h, List.foldl_append]
  rfl
theorem ts_len (ab T0 : List Int) (m : Nat) : ((ab.take m).foldl insT T0).length ≤ T0.length + m := by
  have key : ∀ (l T : List Int), (l.foldl insT T).length ≤ T.length + l.length := by
    intro l
    induction l with
    | nil => intro T; simp
    | cons a l ih =>
      intro T
      have h1 := ih (insT T a)
      have h2 := insT_len T a
      simp only [List.foldl_cons, List.length_cons]
      omega
  have h1 := key (ab.take m) T0
  have h2 := List.length_take_le m ab
  omega
theorem insT_new {l : List Int} {t : Int} {K : Nat} (hK : insAt l t = K) (h : ¬ l[K]? = some t) : insT l t = l.take K ++ [t] ++ l.drop K := by
  unfold insT
  rw [hK, if_neg h, List.append_assoc]
  rfl
theorem insT_old {l : List Int} {t : Int} {K : Nat} (hK : insAt l t = K) (h : l[K]? = some t) : insT l t = l := by
  unfold insT
  rw [hK, if_pos h]
theorem tms_step (l : List Ev) (k : Nat) (e : Ev) (h : l[k]? = some e) : tmsOf (evTs (l.take (k + 1))) = ([e.inn, e.out].take 2).foldl insT (tmsOf (evTs (l.take k))) := by
  rw [evTs_snoc h]
  unfold tmsOf
  rw [List.foldl_append]
  rfl
theorem own_ints {w : World} {base n : Nat} {v : Value} {l : List Int} (hl : l.length = n) (h : w.ownsRow base 2 1 v n (ivals l)) : (v = .slice none 0 0 ∧ l = []) ∨ ∃ (g cap : Nat), v = .slice (some ⟨g, 0, none⟩) n cap ∧ n ≤ cap ∧ IntsAt w (some ⟨g, 0, none⟩) n l := by
  obtain ⟨A, c, hv, hc, _, hS, _⟩ := own_sl (f := fun x : Int => [Value.int .i64 x]) (size := 1) (fun _ => rfl) hl h
  rcases h.2 with ⟨e, e0⟩ | ⟨g, cap, cur, e, _⟩
  · exact .inl ⟨e, List.eq_nil_of_length_eq_zero (by omega)⟩
  · right
    rw [hv] at e
    cases e
    exact ⟨g, c, hv, hc, hS⟩
set_option maxRecDepth 100000 in
set_option maxHeartbeats 16000000 in
theorem R32times_any (d : Doc) (h : DocH) (w : World) (hat : EvsAt w h.ea h.en d.evs) (hn : h.en ≤ 1000000) :
    Calls Tryz.prog 39 #[.agg (d.cells h)] w fun en w' => ∃ A c, en = .returned (.slice A d.tms.length c) ∧ IntsAt w' A d.tms.length d.tms ∧ Ext w w' := by
  have HE := Lib.hid hat
  have HLn := Lib.hid hat.len
  have HX0 := Lib.hid ((Ext.refl w).alloc (.cells (d.cells h) 27))
  have hb := fun o => (Blk.new w 27 (d.cells h)).cell o
  have VT : Hid (d.tms = tmsOf (evTs d.evs)) := rfl
  clear hat
  obtain ⟨ra, nr, rc, ea, en, ec, ca, nc, cc⟩ := h
  unfold Doc.cells at *
  dsimp only at *
  go_enter Tryz.func39, Tryz.ntmps39
  go_wp2_with fail
  clear hb
  obtain ⟨w1, hw1⟩ : ∃ w1, w1 = w.alloc (.cells #[.string d.title, .string d.lang, .int .u8 d.rate, .bool d.drop, .int .i64 d.last, .slice ra nr rc, .slice ea en ec, .slice ca nc cc] 27) := ⟨_, rfl⟩
  rw [← hw1] at HX0 ⊢
  clear hw1
  go_loopw [3, 13] (fun v i wr => TsRel w1 en d.evs v i wr) (fun _ i _ => en - (intOf i).toNat)
  case atStart => exact ⟨0, Nat.zero_le _, rfl, Ext.refl _, ⟨rfl, .inl ⟨rfl, rfl⟩⟩⟩
  case round =>
    obtain ⟨k, hk, rfl, hx, hown⟩ := hrel
    have HX := Lib.hid hx
    have HO := Lib.hid hown
    clear hx hown
    by_cases hlt : k < en
    · obtain ⟨b, off, x, A', n', c', rfl, hxx, -, c0, c1, c2, c3, c4, c5, c6⟩ := (HE.out.ext (HX0.out.trans HX.out)).at_ev hlt
      have HV := Lib.hid (tms_step d.evs k x hxx)
      have HLk : Hid ((tmsOf (evTs (d.evs.take k))).length ≤ 2000000) := by show _ ≤ _; have h1 := tms_len (evTs (d.evs.take k)); rw [evTs_len, List.length_take] at h1; omega
      clear hxx
      go_upto_region 5 with fail
      clear c0 c1 c2 c3 c4 c5 c6
      have HXa := Lib.hid (HX.out.alloc (.cells #[.int .i64 x.id, .int .i64 x.inn, .int .i64 x.out, .string x.region, .int .u8 x.kind, .string x.speaker, .slice A' n' c'] 53))
      have HOa := Lib.hid (HO.out.alloc (.cells #[.int .i64 x.id, .int .i64 x.inn, .int .i64 x.out, .string x.region, .int .u8 x.kind, .string x.speaker, .slice A' n' c'] 53))
      have HBa := Lib.hid (Blk.new wr 53 #[.int .i64 x.id, .int .i64 x.inn, .int .i64 x.out, .string x.region, .int .u8 x.kind, .string x.speaker, .slice A' n' c'])
      generalize wr.alloc (.cells #[.int .i64 x.id, .int .i64 x.inn, .int .i64 x.out, .string x.region, .int .u8 x.kind, .string x.speaker, .slice A' n' c'] 53) = W1 at *
      have hq1 : W1.cell? ⟨wr.heap.size, 1, none⟩ = some (.int .i64 x.inn) := HBa.out.cell 1
      have hq2 : W1.cell? ⟨wr.heap.size, 2, none⟩ = some (.int .i64 x.out) := HBa.out.cell 2
      generalize wr.heap.size = ge at *
      go_wp2_with fail
      clear hq1 hq2 HBa
      have HI2 := Lib.hid (ints2_new (w := W1) (g := W1.heap.size) (a := x.inn) (b := x.out) rfl)
      have HXb := Lib.hid (HXa.out.alloc (.cells #[.int .i64 x.inn, .int .i64 x.out] 2))
      have HOb := Lib.hid (HOa.out.alloc (.cells #[.int .i64 x.inn, .int .i64 x.out] 2))
      generalize W1.alloc (.cells #[.int .i64 x.inn, .int .i64 x.out] 2) = W2 at *
      generalize W1.heap.size = gi at *
      generalize tmsOf (evTs (d.evs.take k)) = T0 at *
      clear HX HO HXa HOa
      go_loopw [3, 25] (fun v i wq => TsRel2 w1 T0 [x.inn, x.out] v i wq ∧ Ext W2 wq) (fun _ i _ => 2 - (intOf i).toNat)
      case atStart => exact ⟨⟨0, by omega, rfl, HXb.out, HOb.out⟩, Ext.refl _⟩
      case round =>
        obtain ⟨⟨m, hm, rfl, hx, hown⟩, hx2⟩ := hrel
        have HXm := Lib.hid hx
        have HX2 := Lib.hid hx2
        have HOm := Lib.hid hown
        clear hx hown hx2
        by_cases hm2 : m < 2
        · obtain ⟨ib, ioff, t, hA9, ht, hct⟩ := IntsAt.cell (HI2.out.ext HX2.out) hm2
          cases hA9
          have HSt := Lib.hid (ts_snoc T0 ht)
          have hTl := ts_len [x.inn, x.out] T0 m
          have hT0 := HLk.out
          have hct : wr.cell? ⟨gi, m, none⟩ = some (.int .i64 t) := by simpa using hct
          clear ht
          obtain ⟨T, hT⟩ : ∃ T, T = ([x.inn, x.out].take m).foldl insT T0 := ⟨_, rfl⟩
          rw [← hT] at HSt HOm hTl
          clear hT
          generalize wr = wm at *
          rcases own_ints rfl HOm.out with ⟨hv, hT0⟩ | ⟨g, cap, hv, hcap, hI⟩
          · subst hv
            subst hT0
            have HNew : Hid (insT [] t = [].take 0 ++ [t] ++ [].drop 0) := rfl
            go_wp2_with fail
            clear hct
            go_loopw [8] (fun i wq => i = .int .i64 0 ∧ wq = wm) (fun _ _ => 0)
            case atStart => exact ⟨rfl, rfl⟩
            case round =>
              obtain ⟨rfl, hw⟩ := hrel
              subst hw
              have HT1 : Hid (Sl wr 1 (Cells fun x : Int => [Value.int .i64 x]) none 0 []) := Sl.nil
              have HT2 : Hid (∀ w6, Ext wr w6 → ∀ A, Sl w6 1 (Cells fun x : Int => [Value.int .i64 x]) A 0 ([] : List Int)) := fun w6 hx A => Sl.nil
              have HXr := Lib.hid HXm.out
              have hsr := HXr.out.size
              simp only [List.length_nil] at *
              go_wp2_with (first | (at_builtin; refine wpList_appendS (f := fun x : Int => [Value.int .i64 x]) rfl (.tmp 55) (.tmp 58) 71 rfl info_i64 Tryz.underlying71 rfl (by decide) (by exact own_nil0' (base := wr.heap.size) rfl (Nat.le_refl _)) (by exact rfl) (by exact rfl) (by exact Sl.ext (Cells.stays _) HT1.out ((Ext.refl wr).alloc _)) (fun _ => rfl) (by simp [Value.oneCell']) (by omega) (by simp [maxLen] <;> omega) (by first | omega | (simp; omega) | simp) ?_; intro v1 w5 hown1 hgr1 hnil1; have hx5 : Ext wr w5 := Ext.grown ((Ext.refl wr).alloc _) hgr1 (fun q hq => by simp [Value.ownBlock] at hq; omega); have hs5 := hx5.size; have HO1 := Lib.hid hown1; clear hown1 hgr1) | (at_builtin; refine wpList_append1 rfl (.tmp 60) (.tmp 62) 71 rfl info_i64 Tryz.underlying71 rfl (by decide) (HO1.out.alloc _) (by exact rfl) w5.heap.size _ (by exact rfl) (by exact Blk.new' rfl) (by exact rfl) (by simp [Value.oneCell']) (by omega) (by simp [maxLen] <;> omega) (by first | omega | (simp; omega) | simp) ?_; intro v2 w6 hown2 hgr2; have hx6 : Ext wr w6 := Ext.grown (hx5.alloc _) hgr2 (fun q hq => by have := own_lt HO1.out q hq; omega); have hs6 := hx6.size; have HO2 := Lib.hid hown2; have HT3 := Lib.hid (HT2.out w6 hx6); clear hown2 hgr2) | (at_builtin; refine wpList_appendS (f := fun x : Int => [Value.int .i64 x]) rfl (.tmp 64) (.tmp 67) 71 rfl info_i64 Tryz.underlying71 rfl (by decide) (by exact HO2.out) (by exact rfl) (by exact rfl) (by first | exact HT3.out | exact HT3.out _) (fun _ => rfl) (by simp [Value.oneCell']) (by omega) (by simp [maxLen] <;> omega) (by first | omega | (simp; omega) | simp) ?_; intro v3 w7 hown3 hgr3 hnil3; have hx7 : Ext wr w7 := Ext.grown hx6 hgr3 (fun q hq => by have := own_lt HO2.out q hq; omega); have HO3 := Lib.hid hown3; clear hown3 hgr3))
              have HX7 := Lib.hid (HXr.out.trans hx7)
              have hlen : (insT [] t).length = 0 + 1 + (([] : List Int).length - 0) := by rw [HNew.out]; simp [List.length_take] <;> omega
              refine ⟨⟨⟨m + 1, by omega, by go_num, HX7.out, ?_⟩, HX2.out.trans hx7⟩, by simp [intOf]; omega⟩
              rw [HSt.out, hlen, HNew.out]
              unfold ivals
              rw [List.flatMap_append, List.flatMap_append]
              have h1 := own_le' HO3.out (show w1.heap.size ≤ wr.heap.size from HXr.out.size)
              first | exact h1 | (rw [Nat.zero_add] at h1; exact h1)
          · subst hv
            have HI := Lib.hid hI
            clear hI
            go_wp2_with fail
            clear hct
            go_loopw [8] (fun i wq => ∃ q : Nat, q ≤ insAt T t ∧ i = .int .i64 q ∧ wq = wm) (fun i _ => T.length - (intOf i).toNat)
            case atStart => exact ⟨0, Nat.zero_le _, rfl, rfl⟩
            case round =>
              obtain ⟨q, hq, rfl, hw⟩ := hrel
              subst hw
              have hql := insAt_le T t
              have HXr := Lib.hid HXm.out
              have hsr := HXr.out.size
              by_cases hqn : q < T.length
              · obtain ⟨gb, goff, y, hA8, hy, hcy⟩ := IntsAt.cell HI.out hqn
                cases hA8
                have hcy : wr.cell? ⟨g, q, none⟩ = some (.int .i64 y) := by simpa using hcy
                have HY := Lib.hid hy
                have HGo := Lib.hid (insAt_go hq hy)
                clear hy
                by_cases hyt : y < t
                · have hq1 : q + 1 ≤ insAt T t := HGo.out.1 hyt
                  go_wp2_with fail
                  exact ⟨⟨q + 1, hq1, by go_num, trivial⟩, by simp [intOf]; omega⟩
                · have HK := Lib.hid (HGo.out.2 hyt)
                  by_cases hyq : y = t
                  · have HNo : Hid (insT T t = T) := insT_old HK.out (by rw [HY.out, hyq])
                    have hyb : (y == t) = true := by simpa using hyq
                    clear hyq HGo
                    go_wp2_with fail
                    exact ⟨⟨⟨m + 1, by omega, by go_num, HXm.out, by rw [HSt.out, HNo.out]; exact HOm.out⟩, HX2.out⟩, by simp [intOf]; omega⟩
                  · have HNew : Hid (insT T t = T.take q ++ [t] ++ T.drop q) := insT_new HK.out (by rw [HY.out]; simpa using hyq)
                    have hyb : (y == t) = false := by simpa using hyq
                    have HT1 : Hid (Sl wr 1 (Cells fun x : Int => [Value.int .i64 x]) (some ⟨g, 0, none⟩) q (T.take q)) := Sl.take (show Sl wr 1 (Cells fun x : Int => [Value.int .i64 x]) _ _ _ from HI.out) (by omega)
                    have HT2 : Hid (∀ w6, Ext wr w6 → Sl w6 1 (Cells fun x : Int => [Value.int .i64 x]) (some ⟨g, q, none⟩) (T.length - q) (T.drop q)) := fun w6 hx => by have h := (show Sl w6 1 (Cells fun x : Int => [Value.int .i64 x]) (some ⟨g, 0, none⟩) T.length T from HI.out.ext hx).drop q; simpa using h
                    clear hyq HGo
                    go_wp2_with (first | (at_builtin; refine wpList_appendS (f := fun x : Int => [Value.int .i64 x]) rfl (.tmp 55) (.tmp 58) 71 rfl info_i64 Tryz.underlying71 rfl (by decide) (by exact own_nil0' (base := wr.heap.size) rfl (Nat.le_refl _)) (by exact rfl) (by exact rfl) (by exact Sl.ext (Cells.stays _) HT1.out ((Ext.refl wr).alloc _)) (fun _ => rfl) (by simp [Value.oneCell']) (by omega) (by simp [maxLen] <;> omega) (by first | omega | (simp; omega) | simp) ?_; intro v1 w5 hown1 hgr1 hnil1; have hx5 : Ext wr w5 := Ext.grown ((Ext.refl wr).alloc _) hgr1 (fun q hq => by simp [Value.ownBlock] at hq; omega); have hs5 := hx5.size; have HO1 := Lib.hid hown1; clear hown1 hgr1) | (at_builtin; refine wpList_append1 rfl (.tmp 60) (.tmp 62) 71 rfl info_i64 Tryz.underlying71 rfl (by decide) (HO1.out.alloc _) (by exact rfl) w5.heap.size _ (by exact rfl) (by exact Blk.new' rfl) (by exact rfl) (by simp [Value.oneCell']) (by omega) (by simp [maxLen] <;> omega) (by first | omega | (simp; omega) | simp) ?_; intro v2 w6 hown2 hgr2; have hx6 : Ext wr w6 := Ext.grown (hx5.alloc _) hgr2 (fun q hq => by have := own_lt HO1.out q hq; omega); have hs6 := hx6.size; have HO2 := Lib.hid hown2; have HT3 := Lib.hid (HT2.out w6 hx6); clear hown2 hgr2) | (at_builtin; refine wpList_appendS (f := fun x : Int => [Value.int .i64 x]) rfl (.tmp 64) (.tmp 67) 71 rfl info_i64 Tryz.underlying71 rfl (by decide) (by exact HO2.out) (by exact rfl) (by exact rfl) (by first | exact HT3.out | exact HT3.out _) (fun _ => rfl) (by simp [Value.oneCell']) (by omega) (by simp [maxLen] <;> omega) (by first | omega | (simp; omega) | simp) ?_; intro v3 w7 hown3 hgr3 hnil3; have hx7 : Ext wr w7 := Ext.grown hx6 hgr3 (fun q hq => by have := own_lt HO2.out q hq; omega); have HO3 := Lib.hid hown3; clear hown3 hgr3))
                    have HX7 := Lib.hid (HXr.out.trans hx7)
                    have hlen : (insT T t).length = q + 1 + (T.length - q) := by rw [HNew.out]; simp [List.length_take] <;> omega
                    refine ⟨⟨⟨m + 1, by omega, by go_num, HX7.out, ?_⟩, HX2.out.trans hx7⟩, by simp [intOf]; omega⟩
                    rw [HSt.out, hlen, HNew.out]
                    unfold ivals
                    rw [List.flatMap_append, List.flatMap_append]
                    have h1 := own_le' HO3.out (show w1.heap.size ≤ wr.heap.size from HXr.out.size)
                    first | exact h1 | (rw [Nat.zero_add] at h1; exact h1)
              · have hqe : q = T.length := by omega
                have HK : Hid (insAt T t = q) := by show _ = _; omega
                have HNew : Hid (insT T t = T.take q ++ [t] ++ T.drop q) := insT_new HK.out (by rw [List.getElem?_eq_none (by omega)]; simp)
                have HT1 : Hid (Sl wr 1 (Cells fun x : Int => [Value.int .i64 x]) (some ⟨g, 0, none⟩) q (T.take q)) := Sl.take (show Sl wr 1 (Cells fun x : Int => [Value.int .i64 x]) _ _ _ from HI.out) (by omega)
                have HT2 : Hid (∀ w6, Ext wr w6 → ∀ A, Sl w6 1 (Cells fun x : Int => [Value.int .i64 x]) A (T.length - q) (T.drop q)) := fun w6 hx A => ⟨by simp, fun h => absurd h (by omega)⟩
                have hqc : q ≤ cap := by omega
                have hq2 : q ≤ T.length := by omega
                clear hqe
                go_wp2_with (first | (at_builtin; refine wpList_appendS (f := fun x : Int => [Value.int .i64 x]) rfl (.tmp 55) (.tmp 58) 71 rfl info_i64 Tryz.underlying71 rfl (by decide) (by exact own_nil0' (base := wr.heap.size) rfl (Nat.le_refl _)) (by exact rfl) (by exact rfl) (by exact Sl.ext (Cells.stays _) HT1.out ((Ext.refl wr).alloc _)) (fun _ => rfl) (by simp [Value.oneCell']) (by omega) (by simp [maxLen] <;> omega) (by first | omega | (simp; omega) | simp) ?_; intro v1 w5 hown1 hgr1 hnil1; have hx5 : Ext wr w5 := Ext.grown ((Ext.refl wr).alloc _) hgr1 (fun q hq => by simp [Value.ownBlock] at hq; omega); have hs5 := hx5.size; have HO1 := Lib.hid hown1; clear hown1 hgr1) | (at_builtin; refine wpList_append1 rfl (.tmp 60) (.tmp 62) 71 rfl info_i64 Tryz.underlying71 rfl (by decide) (HO1.out.alloc _) (by exact rfl) w5.heap.size _ (by exact rfl) (by exact Blk.new' rfl) (by exact rfl) (by simp [Value.oneCell']) (by omega) (by simp [maxLen] <;> omega) (by first | omega | (simp; omega) | simp) ?_; intro v2 w6 hown2 hgr2; have hx6 : Ext wr w6 := Ext.grown (hx5.alloc _) hgr2 (fun q hq => by have := own_lt HO1.out q hq; omega); have hs6 := hx6.size; have HO2 := Lib.hid hown2; have HT3 := Lib.hid (HT2.out w6 hx6); clear hown2 hgr2) | (at_builtin; refine wpList_appendS (f := fun x : Int => [Value.int .i64 x]) rfl (.tmp 64) (.tmp 67) 71 rfl info_i64 Tryz.underlying71 rfl (by decide) (by exact HO2.out) (by exact rfl) (by exact rfl) (by first | exact HT3.out | exact HT3.out _) (fun _ => rfl) (by simp [Value.oneCell']) (by omega) (by simp [maxLen] <;> omega) (by first | omega | (simp; omega) | simp) ?_; intro v3 w7 hown3 hgr3 hnil3; have hx7 : Ext wr w7 := Ext.grown hx6 hgr3 (fun q hq => by have := own_lt HO2.out q hq; omega); have HO3 := Lib.hid hown3; clear hown3 hgr3))
                have HX7 := Lib.hid (HXr.out.trans hx7)
                have hlen : (insT T t).length = q + 1 + (T.length - q) := by rw [HNew.out]; simp [List.length_take] <;> omega
                refine ⟨⟨⟨m + 1, by omega, by go_num, HX7.out, ?_⟩, HX2.out.trans hx7⟩, by simp [intOf]; omega⟩
                rw [HSt.out, hlen, HNew.out]
                unfold ivals
                rw [List.flatMap_append, List.flatMap_append]
                have h1 := own_le' HO3.out (show w1.heap.size ≤ wr.heap.size from HXr.out.size)
                first | exact h1 | (rw [Nat.zero_add] at h1; exact h1)
        · have hme : m = 2 := by omega
          have HOf : Hid (wr.ownsRow w1.heap.size 2 1 u3 (tmsOf (evTs (d.evs.take (k + 1)))).length (ivals (tmsOf (evTs (d.evs.take (k + 1)))))) := by
            have h1 := HOm.out
            rw [hme] at h1
            rw [HV.out]
            exact h1
          clear HOm
          go_wp2_with fail
          exact ⟨⟨k + 1, by omega, by go_num, HXm.out, HOf.out⟩, by simp [intOf]; omega⟩
    · have hkn : k = d.evs.length := by rw [HLn.out]; omega
      have hHO := HO.out
      rw [hkn, List.take_length, ← VT.out] at hHO
      obtain ⟨A, c, rfl, hc, _, hS, _⟩ := own_sl (f := fun x : Int => [Value.int .i64 x]) (size := 1) (fun _ => rfl) rfl hHO
      have HS := Lib.hid hS
      have HXf := Lib.hid (HX0.out.trans HX.out)
      clear HO hHO hS hkn
      go_wp2_with fail
      go_ret
      exact ⟨A, c, rfl, HS.out, HXf.out⟩
end Go.Proofs.YtajbhfmdmajpmaaGreatDoor

/-! Qj -/
namespace Go.Proofs.YtajbhfmdmajpmaaGreatDoor
set_option linter.unusedVariables false
set_option linter.unusedSimpArgs false
open Go.RowKit
/-- results of calls, one after the other -/
structure QC (ps : List (Value → World → Prop)) (W : World) (us : List Value) (w' : World) : Prop where
  ext : Ext W w'
  val : ∀ (i : Nat) (u : Value) (p : Value → World → Prop), us[i]? = some u → ps[i]? = some p → p u w'
def QCSt (ps : List (Value → World → Prop)) : Prop := ∀ p ∈ ps, ∀ u w w', Ext w w' → p u w → p u w'
theorem QC.start (ps : List (Value → World → Prop)) (W : World) : QC ps W [] W.drew := ⟨(Ext.refl W).drew, fun i u p h => by simp at h⟩
theorem QC.push {ps : List (Value → World → Prop)} {W w' w2 : World} {us : List Value} {v : Value} (h : QC ps W us w') (hst : QCSt ps) (hx : Ext w' w2) (hv : ∀ p : Value → World → Prop, ps[us.length]? = some p → p v w2) : QC ps W (us ++ [v]) w2 :=
  ⟨h.ext.trans hx, fun i u p hu hp => by
    by_cases hi : i < us.length
    · rw [List.getElem?_append_left hi] at hu
      exact hst p (List.mem_of_getElem? hp) u w' w2 hx (h.val i u p hu hp)
    · rw [List.getElem?_append_right (by omega)] at hu
      have hl := (List.getElem?_eq_some_iff.1 hu).1
      simp at hl
      have hi' : i = us.length := by omega
      subst hi'
      simp at hu
      subst hu
      exact hv p hp⟩
end Go.Proofs.YtajbhfmdmajpmaaGreatDoor
