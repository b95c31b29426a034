/- The walk of the reference's Reels: names, set into a list at their places. -/
import Derived.Test.YtffianmhojiomaaDoorReels
import Derived.Sort.Walk0
namespace Go.Proofs.YtffianmhojiomaaDoor
set_option linter.unusedVariables false
set_option linter.unusedSimpArgs false
open Go.RowKit Go.Shelf Go.Sort

def strF (s : ByteArray) : List Value := [.string s]
def bsL (os : List ByteArray) : List Bs := os.map (·.data.toList)
def RReelsRel (w w0 : World) (n : Nat) (l : List Cut) (v i : Value) (wr : World) : Prop :=
  ∃ (k : Nat) (os : List ByteArray), k ≤ n ∧ i = .int .i64 k ∧ Ext w0 wr ∧ Ext w wr ∧ os.length ≤ k ∧ wr.ownsRow w0.heap.size 9 1 v os.length (os.flatMap strF) ∧ (bsL os).Pairwise (· < ·) ∧ ∀ x, x ∈ bsL os ↔ x ∈ (l.take k).map fun c => c.reel.data.toList
/-- the inner loop: all names ahead of place j are less -/
def RInRel (w2 : World) (os : List ByteArray) (x : ByteArray) (v : Value) (wr : World) : Prop :=
  ∃ j : Nat, j ≤ os.length ∧ v = .int .i64 j ∧ Ext w2 wr ∧ w2.heap.size = wr.heap.size ∧ ∀ i y, i < j → (bsL os)[i]? = some y → y < x.data.toList

theorem bsL_at {os : List ByteArray} {j : Nat} {y : Bs} (h : (bsL os)[j]? = some y) : ∃ x, os[j]? = some x ∧ x.data.toList = y := by
  unfold bsL at h
  rw [List.getElem?_map] at h
  cases hx : os[j]? with
  | none => rw [hx] at h; cases h
  | some x => rw [hx] at h; exact ⟨x, rfl, Option.some.inj h⟩
theorem rins {w w0 w7 : World} {n k j : Nat} {l : List Cut} {os : List ByteArray} {r : Cut} {v7 : Value} (hlt : k < n) (hol : os.length ≤ k) (hj : j ≤ os.length) (hx : Ext w0 w7) (hxw : Ext w w7)
    (hown : w7.ownsRow w0.heap.size 9 1 v7 (0 + j + 1 + (os.length - j)) ([] ++ (os.take j).flatMap strF ++ [Value.string r.reel] ++ (os.drop j).flatMap strF)) (hpw : (bsL os).Pairwise (· < ·)) (hmem : ∀ x, x ∈ bsL os ↔ x ∈ (l.take k).map fun c => c.reel.data.toList)
    (hT : l.take (k + 1) = l.take k ++ [r]) (hlo : ∀ i y, i < j → (bsL os)[i]? = some y → y < r.reel.data.toList) (hhi : ∀ y, (bsL os)[j]? = some y → ¬ y < r.reel.data.toList ∧ y ≠ r.reel.data.toList) :
    RReelsRel w w0 n l v7 (.int .i64 ((k : Int) + 1)) w7 := by
  have e1 : bsL (os.take j ++ [r.reel] ++ os.drop j) = (bsL os).take j ++ [r.reel.data.toList] ++ (bsL os).drop j := by simp [bsL, List.map_take, List.map_drop]
  have hlen : (bsL os).length = os.length := by simp [bsL]
  obtain ⟨h1, h2⟩ := ins_at (x := r.reel.data.toList) hpw (by rw [hlen]; exact hj) hlo hhi
  have hl7 : (os.take j ++ [r.reel] ++ os.drop j).length = 0 + j + 1 + (os.length - j) := by simp; omega
  refine ⟨k + 1, os.take j ++ [r.reel] ++ os.drop j, by omega, by simp, hx, hxw, by rw [hl7]; omega, ?_, by rw [e1]; exact h1, fun x => ?_⟩
  · rw [hl7, List.flatMap_append, List.flatMap_append]
    exact hown
  · rw [e1, h2, hmem, hT, List.map_append, List.mem_append]
    simp
theorem rskip {w w0 w7 : World} {n k j : Nat} {l : List Cut} {os : List ByteArray} {r : Cut} {v : Value} (hlt : k < n) (hol : os.length ≤ k) (hx : Ext w0 w7) (hxw : Ext w w7)
    (hown : w7.ownsRow w0.heap.size 9 1 v os.length (os.flatMap strF)) (hpw : (bsL os).Pairwise (· < ·)) (hmem : ∀ x, x ∈ bsL os ↔ x ∈ (l.take k).map fun c => c.reel.data.toList)
    (hT : l.take (k + 1) = l.take k ++ [r]) (hin : os[j]? = some r.reel) : RReelsRel w w0 n l v (.int .i64 ((k : Int) + 1)) w7 := by
  refine ⟨k + 1, os, by omega, by simp, hx, hxw, by omega, hown, hpw, fun x => ?_⟩
  rw [hmem, hT, List.map_append, List.mem_append]
  have hm : r.reel.data.toList ∈ bsL os := List.mem_map.2 ⟨_, List.mem_of_getElem? hin, rfl⟩
  rw [hmem] at hm
  constructor
  · exact .inl
  · rintro (h | h)
    · exact h
    · simp only [List.map_cons, List.map_nil, List.mem_singleton] at h
      rw [h]; exact hm

set_option maxRecDepth 100000 in
set_option maxHeartbeats 2000000 in
theorem RReels_any (e : Edl) (A : Option Addr) (n c : Nat) (w : World) (hl : CutsAt w A n e.cuts) (hn : n ≤ 1000000) :
    Calls Tryd.prog 49 #[.agg (e.cells A n c)] w (ReelsPost e w) := by
  have HL := Lib.hid hl
  have HLn := Lib.hid hl.len
  clear hl
  unfold Edl.cells
  have HX0 := Lib.hid ((Ext.refl w).alloc (.cells #[.string e.title, .int .u8 e.rate, .bool e.drop, .slice A n c] 25))
  go_enter Tryd.func49, Tryd.ntmps49
  go_wp2_with fail
  go_loopw [3, 11] (fun v i wr => RReelsRel w (w.alloc (.cells #[.string e.title, .int .u8 e.rate, .bool e.drop, .slice A n c] 25)) n e.cuts v i wr) (fun _ i _ => n - (intOf i).toNat)
  case atStart => exact ⟨0, [], Nat.zero_le _, rfl, Ext.refl _, HX0.out, Nat.le_refl _, ⟨rfl, .inl ⟨rfl, rfl⟩⟩, by simp [bsL], fun x => by simp [bsL]⟩
  case round =>
    obtain ⟨k, os, hk, rfl, hx, hxw, hol, hown, hpw, hmem⟩ := hrel
    obtain ⟨wo, hwo⟩ : ∃ wo, wo = wr := ⟨wr, rfl⟩
    subst hwo
    have HPw := Lib.hid hpw
    have HMem := Lib.hid hmem
    clear hpw hmem
    by_cases hlt : k < n
    · obtain ⟨b, off, r, rfl, hr, c0, c1, c2, c3, c4, c5, c6⟩ := (HL.out.ext hxw).at7 hlt
      have HT := Lib.hid (take_snoc' e.cuts k r hr)
      have HO0 := Lib.hid hown
      have hsz := hx.size
      simp only [World.size_alloc] at hsz
      have HB1 := Lib.hid (Blk.new wo 67 r.cells)
      have hx1 := (Ext.refl wo).alloc (.cells r.cells 67)
      unfold Cut.cells at HB1 hx1
      have HX1 := Lib.hid hx1
      clear hr hown hx1
      obtain ⟨num, rl, src, inn, out, nn, dd⟩ := r
      dsimp only at *
      obtain ⟨A', cap', rfl, hcap, hcm, hS, hfr⟩ := own_sl (f := strF) (size := 1) (fun _ => rfl) rfl HO0.out
      have HS := Lib.hid hS
      clear hS
      go_wp2_with fail
      go_loopw [6] (fun kv wr2 => RInRel (wo.alloc (.cells #[.int .i64 num, .string rl, .int .i64 src, .int .i64 inn, .int .i64 out, .int .i64 nn, .int .i64 dd] 67)) os rl kv wr2) (fun kv _ => os.length - (intOf kv).toNat)
      case atStart => exact ⟨0, Nat.zero_le _, rfl, Ext.refl _, rfl, fun i y hi => absurd hi (by omega)⟩
      case round =>
        obtain ⟨j, hj, rfl, hx2, hs2, hlo⟩ := hrel
        have HLo := Lib.hid hlo
        clear hlo
        have HX2 := Lib.hid (HX1.out.trans hx2)
        have hcr := fun o => (HB1.out.ext hx2).cell o
        by_cases hjl : j < os.length
        · obtain ⟨b2, off2, x, hA, hxj, hC⟩ := (Sl.ext (Cells.stays _) HS.out HX2.out).at_ hjl
          subst hA
          have hcx := hC 0 _ rfl
          simp only [Nat.mul_one, Nat.add_zero] at hcx
          have hji : (j : Int) < (os.length : Int) := by omega
          go_wp2_with fail
          go_quiet (fail)
          go_wp2_with fail
          · have hless : x.data.toList < rl.data.toList := by
              have h := ‹Op.bytesLess x.toList rl.toList = true›
              rw [bytesLess_eq, ByteArray.toList_eq, ByteArray.toList_eq] at h
              exact of_decide_eq_true h
            refine ⟨⟨j + 1, by omega, by go_num, hx2.drewN _, hs2, fun i y hi hy => ?_⟩, by simp [intOf]; omega⟩
            by_cases hij : i = j
            · subst hij
              have : (bsL os)[i]? = some x.data.toList := by unfold bsL; rw [List.getElem?_map, hxj]; rfl
              rw [this] at hy
              cases hy
              exact hless
            · exact HLo.out i y (by omega) hy
          · have hge : ¬ x.data.toList < rl.data.toList := by
              have h := ‹Op.bytesLess x.toList rl.toList = false›
              rw [bytesLess_eq, ByteArray.toList_eq, ByteArray.toList_eq] at h
              exact of_decide_eq_false h
            have HGe := Lib.hid hge
            clear hge
            by_cases he : x = rl
            · have he' : (x.toList == rl.toList) = true := by subst he; simp
              subst he
              go_quiet (fail)
              go_wp2_with fail
              exact ⟨rskip (r := ⟨num, x, src, inn, out, nn, dd⟩) hlt hol (hx.trans (HX2.out.drewN _)) (hxw.trans (HX2.out.drewN _)) (own_ext HO0.out (HX2.out.drewN _)) HPw.out HMem.out HT.out hxj, by simp [intOf]; omega⟩
            · have he' : (x.toList == rl.toList) = false := by
                simp only [beq_eq_false_iff_ne]
                intro h
                rw [ByteArray.toList_eq, ByteArray.toList_eq] at h
                exact he (by cases x; cases rl; simp_all [Array.toList_inj])
              have HNe := Lib.hid he
              clear he
              go_quiet (fail)
              go_upto_region 9 with fail
              refine wp_drewN ?_
              intro w4 hx4 hs4
              have hx4 : Ext wr w4 := Ext.trans ((Ext.refl wr).drewN _) hx4
              have HX4 := Lib.hid (HX2.out.trans hx4)
              have HB4 := Lib.hid ((HB1.out.ext hx2).ext hx4)
              have hcr4 := fun o => HB4.out.cell o
              have HS4 := Sl.ext (Cells.stays _) HS.out HX4.out
              have HT1 := Lib.hid (HS4.take hj)
              have HT2 := HS4.drop j
              simp only [Nat.mul_one] at HT2
              have HT2 := Lib.hid HT2
              have hb4 := (hx.trans HX4.out).size
              clear HS4 hcr hx4 hs4
              go_wp2_with (first | (at_builtin; refine wpList_appendS rfl (.tmp 43) (.tmp 46) 80 rfl info_str Tryd.underlying80 rfl (by decide) (by exact own_nil0' (base := w4.heap.size) rfl (Nat.le_refl _)) (by exact rfl) (by exact rfl) (by exact Sl.ext (Cells.stays _) HT1.out ((Ext.refl w4).alloc _)) (fun _ => rfl) (by intro s u hu; simp [strF] at hu; subst hu; rfl) (by omega) (by simp [maxLen] <;> omega) (by first | omega | (simp; omega) | simp) ?_; intro v1 w5 hown1 hgr1 hnil1; have hx5 : Ext w4 w5 := Ext.grown ((Ext.refl w4).alloc _) hgr1 (fun q hq => by simp [Value.ownBlock] at hq; omega); have hs5 := hx5.size; have hcr5 := fun o => (HB4.out.ext hx5).cell o; have HO1 := Lib.hid hown1; clear hown1 hgr1 hcr4) | (at_builtin; refine wpList_append1 rfl (.tmp 48) (.tmp 51) 80 rfl info_str Tryd.underlying80 rfl (by decide) (HO1.out.alloc _) (by exact rfl) w5.heap.size _ (by exact rfl) (by exact Blk.new' rfl) (by exact rfl) (by simp [Value.oneCell']) (by omega) (by simp [maxLen] <;> omega) (by first | omega | (simp; omega) | simp) ?_; intro v2 w6 hown2 hgr2; have hx6 : Ext w4 w6 := Ext.grown (hx5.alloc _) hgr2 (fun q hq => by have := own_lt HO1.out q hq; omega); have hs6 := hx6.size; have HO2 := Lib.hid hown2; clear hown2 hgr2) | (at_builtin; refine wpList_appendS rfl (.tmp 53) (.tmp 56) 80 rfl info_str Tryd.underlying80 rfl (by decide) (by exact HO2.out) (by exact rfl) (by exact rfl) (by exact Sl.ext (Cells.stays _) HT2.out hx6) (fun _ => rfl) (by intro s u hu; simp [strF] at hu; subst hu; rfl) (by omega) (by simp [maxLen] <;> omega) (by first | omega | (simp; omega) | simp) ?_; intro v3 w7 hown3 hgr3 hnil3; have hx7 : Ext w4 w7 := Ext.grown hx6 hgr3 (fun q hq => by have := own_lt HO2.out q hq; omega); have HO3 := Lib.hid hown3; clear hown3 hgr3))
              exact ⟨rins (r := ⟨num, rl, src, inn, out, nn, dd⟩) hlt hol hj (hx.trans (HX4.out.trans hx7)) (hxw.trans (HX4.out.trans hx7)) (own_le' HO3.out hb4) HPw.out HMem.out HT.out HLo.out (fun y hy => by
                obtain ⟨x', hx', rfl⟩ := bsL_at hy
                rw [hxj] at hx'
                cases hx'
                exact ⟨HGe.out, fun h => HNe.out (by cases x; cases rl; simp_all [Array.toList_inj])⟩), by simp [intOf]; omega⟩
        · have hji : decide ((j : Int) < (os.length : Int)) = false := by simp; omega
          rcases HO0.out.2 with ⟨h0, h00⟩ | ⟨g, cap, cur, h0, _⟩
          · injection h0 with e1 e2 e3
            subst e1 e3
            obtain rfl : os = [] := List.eq_nil_of_length_eq_zero h00
            obtain rfl : j = 0 := by simpa using hj
            clear h00 e2 hji hjl
            simp only [List.length_nil] at *
            go_wp2_with fail
            go_quiet (fail)
            go_wp2_with fail
            go_quiet (fail)
            go_upto_region 9 with fail
            refine wp_drewN ?_
            intro w4 hx4 hs4
            have hx4 : Ext wr w4 := Ext.trans ((Ext.refl wr).drewN _) hx4
            have HX4 := Lib.hid (HX2.out.trans hx4)
            have HB4 := Lib.hid ((HB1.out.ext hx2).ext hx4)
            have hcr4 := fun o => HB4.out.cell o
            have HT1 := Lib.hid (Sl.nil : Sl w4 1 (Cells strF) none 0 [])
            have HT2 := HT1
            have hb4 := (hx.trans HX4.out).size
            clear hcr hx4 hs4
            go_wp2_with (first | (at_builtin; refine wpList_appendS rfl (.tmp 43) (.tmp 46) 80 rfl info_str Tryd.underlying80 rfl (by decide) (by exact own_nil0' (base := w4.heap.size) rfl (Nat.le_refl _)) (by exact rfl) (by exact rfl) (by exact Sl.ext (Cells.stays _) HT1.out ((Ext.refl w4).alloc _)) (fun _ => rfl) (by intro s u hu; simp [strF] at hu; subst hu; rfl) (by omega) (by simp [maxLen] <;> omega) (by first | omega | (simp; omega) | simp) ?_; intro v1 w5 hown1 hgr1 hnil1; have hx5 : Ext w4 w5 := Ext.grown ((Ext.refl w4).alloc _) hgr1 (fun q hq => by simp [Value.ownBlock] at hq; omega); have hs5 := hx5.size; have hcr5 := fun o => (HB4.out.ext hx5).cell o; have HO1 := Lib.hid hown1; clear hown1 hgr1 hcr4) | (at_builtin; refine wpList_append1 rfl (.tmp 48) (.tmp 51) 80 rfl info_str Tryd.underlying80 rfl (by decide) (HO1.out.alloc _) (by exact rfl) w5.heap.size _ (by exact rfl) (by exact Blk.new' rfl) (by exact rfl) (by simp [Value.oneCell']) (by omega) (by simp [maxLen] <;> omega) (by first | omega | (simp; omega) | simp) ?_; intro v2 w6 hown2 hgr2; have hx6 : Ext w4 w6 := Ext.grown (hx5.alloc _) hgr2 (fun q hq => by have := own_lt HO1.out q hq; omega); have hs6 := hx6.size; have HO2 := Lib.hid hown2; clear hown2 hgr2) | (at_builtin; refine wpList_appendS rfl (.tmp 53) (.tmp 56) 80 rfl info_str Tryd.underlying80 rfl (by decide) (by exact HO2.out) (by exact rfl) (by exact rfl) (by exact Sl.ext (Cells.stays _) HT2.out hx6) (fun _ => rfl) (by intro s u hu; simp [strF] at hu; subst hu; rfl) (by omega) (by simp [maxLen] <;> omega) (by first | omega | (simp; omega) | simp) ?_; intro v3 w7 hown3 hgr3 hnil3; have hx7 : Ext w4 w7 := Ext.grown hx6 hgr3 (fun q hq => by have := own_lt HO2.out q hq; omega); have HO3 := Lib.hid hown3; clear hown3 hgr3))
            exact ⟨rins (os := []) (j := 0) (r := ⟨num, rl, src, inn, out, nn, dd⟩) hlt hol hj (hx.trans (HX4.out.trans hx7)) (hxw.trans (HX4.out.trans hx7)) (own_le' HO3.out hb4) HPw.out HMem.out HT.out HLo.out (fun y hy => by
              simp [bsL] at hy), by simp [intOf]; omega⟩
          · injection h0 with e1 e2 e3
            subst e1 e3
            go_wp2_with fail
            go_quiet (fail)
            go_wp2_with fail
            go_quiet (fail)
            go_upto_region 9 with fail
            refine wp_drewN ?_
            intro w4 hx4 hs4
            have hx4 : Ext wr w4 := Ext.trans ((Ext.refl wr).drewN _) hx4
            have HX4 := Lib.hid (HX2.out.trans hx4)
            have HB4 := Lib.hid ((HB1.out.ext hx2).ext hx4)
            have hcr4 := fun o => HB4.out.cell o
            have HS4 := Sl.ext (Cells.stays _) HS.out HX4.out
            have HT1 := Lib.hid (HS4.take hj)
            have HT2 : Hid (∀ A, Sl w4 1 (Cells strF) A (os.length - j) (os.drop j)) := fun A => ⟨by simp, fun h => absurd h (by omega)⟩
            have hb4 := (hx.trans HX4.out).size
            clear HS4 hcr hx4 hs4
            go_wp2_with (first | (at_builtin; refine wpList_appendS rfl (.tmp 43) (.tmp 46) 80 rfl info_str Tryd.underlying80 rfl (by decide) (by exact own_nil0' (base := w4.heap.size) rfl (Nat.le_refl _)) (by exact rfl) (by exact rfl) (by exact Sl.ext (Cells.stays _) HT1.out ((Ext.refl w4).alloc _)) (fun _ => rfl) (by intro s u hu; simp [strF] at hu; subst hu; rfl) (by omega) (by simp [maxLen] <;> omega) (by first | omega | (simp; omega) | simp) ?_; intro v1 w5 hown1 hgr1 hnil1; have hx5 : Ext w4 w5 := Ext.grown ((Ext.refl w4).alloc _) hgr1 (fun q hq => by simp [Value.ownBlock] at hq; omega); have hs5 := hx5.size; have hcr5 := fun o => (HB4.out.ext hx5).cell o; have HO1 := Lib.hid hown1; clear hown1 hgr1 hcr4) | (at_builtin; refine wpList_append1 rfl (.tmp 48) (.tmp 51) 80 rfl info_str Tryd.underlying80 rfl (by decide) (HO1.out.alloc _) (by exact rfl) w5.heap.size _ (by exact rfl) (by exact Blk.new' rfl) (by exact rfl) (by simp [Value.oneCell']) (by omega) (by simp [maxLen] <;> omega) (by first | omega | (simp; omega) | simp) ?_; intro v2 w6 hown2 hgr2; have hx6 : Ext w4 w6 := Ext.grown (hx5.alloc _) hgr2 (fun q hq => by have := own_lt HO1.out q hq; omega); have hs6 := hx6.size; have HO2 := Lib.hid hown2; clear hown2 hgr2) | (at_builtin; refine wpList_appendS rfl (.tmp 53) (.tmp 56) 80 rfl info_str Tryd.underlying80 rfl (by decide) (by exact HO2.out) (by exact rfl) (by exact rfl) (by exact Sl.ext (Cells.stays _) (HT2.out _) hx6) (fun _ => rfl) (by intro s u hu; simp [strF] at hu; subst hu; rfl) (by omega) (by simp [maxLen] <;> omega) (by first | omega | (simp; omega) | simp) ?_; intro v3 w7 hown3 hgr3 hnil3; have hx7 : Ext w4 w7 := Ext.grown hx6 hgr3 (fun q hq => by have := own_lt HO2.out q hq; omega); have HO3 := Lib.hid hown3; clear hown3 hgr3))
            all_goals exact ⟨rins (r := ⟨num, rl, src, inn, out, nn, dd⟩) hlt hol hj (hx.trans (HX4.out.trans hx7)) (hxw.trans (HX4.out.trans hx7)) (own_le' HO3.out hb4) HPw.out HMem.out HT.out HLo.out (fun y hy => by
              obtain ⟨x', hx', rfl⟩ := bsL_at hy
              rw [List.getElem?_eq_none (by omega)] at hx'
              cases hx'), by simp [intOf]; omega⟩
    · have hkn : k = n := by omega
      subst hkn
      have HTk : Hid (e.cuts.take k = e.cuts) := List.take_of_length_le (by rw [HLn.out]; omega)
      obtain ⟨A', cap', rfl, hcap, hcm, hS, hfr⟩ := own_sl (f := strF) (size := 1) (fun _ => rfl) rfl hown
      clear hown hS hfr
      go_wp2_with fail
      go_ret
      refine ⟨_, _, _, rfl, ?_, hxw⟩
      have := cnt_eq (ss := e.names) HPw.out (fun x => by rw [HMem.out x, HTk.out]; rfl)
      rw [← this]
      simp [bsL]
end Go.Proofs.YtffianmhojiomaaDoor
