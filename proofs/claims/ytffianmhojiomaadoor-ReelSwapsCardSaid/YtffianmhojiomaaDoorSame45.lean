/- The walk of the reference's Same at equal lists; of goesOn and goes. -/
import Derived.Test.YtffianmhojiomaaDoorAwake45
namespace Go.Proofs.YtffianmhojiomaaDoor
set_option linter.unusedVariables false
set_option linter.unusedSimpArgs false
open Go.RowKit

def SameRel (w1 : World) (n : Nat) (i : Value) (wr : World) : Prop := ∃ k : Nat, k ≤ n ∧ i = .int .i64 k ∧ Ext w1 wr
set_option maxRecDepth 100000 in
set_option maxHeartbeats 4000000 in
theorem RSame_true (e : Edl) (A : Option Addr) (n c : Nat) (B : Option Addr) (d : Nat) (w : World) (hl : CutsAt w A n e.cuts) (hl2 : CutsAt w B n e.cuts) (hn : n ≤ 1000000) :
    Calls Tryd.prog 16 #[.agg (e.cells A n c), .agg (e.cells B n d)] w fun en w' => en = .returned (.bool true) ∧ Ext w w' := by
  have HL := Lib.hid hl
  have HL2 := Lib.hid hl2
  clear hl hl2
  have HX := Lib.hid (((Ext.refl w).alloc (.cells (e.cells A n c) 25)).alloc (.cells (e.cells B n d) 25))
  have HB0 := Lib.hid ((Blk.new w 25 (e.cells A n c)).alloc (.cells (e.cells B n d) 25))
  have HB1 := Lib.hid (Blk.new' (w := w.alloc (.cells (e.cells A n c) 25)) (g := w.heap.size + 1) (t := 25) (cs := e.cells B n d) (by simp))
  unfold Edl.cells at *
  go_enter Tryd.func16, Tryd.ntmps16
  go_wp2_with fail
  go_loopw [37] (fun i wr => SameRel ((w.alloc (.cells #[.string e.title, .int .u8 e.rate, .bool e.drop, .slice A n c] 25)).alloc (.cells #[.string e.title, .int .u8 e.rate, .bool e.drop, .slice B n d] 25)) n i wr) (fun i _ => n - (intOf i).toNat)
  case atStart => exact ⟨0, Nat.zero_le _, rfl, Ext.refl _⟩
  case round =>
    obtain ⟨k, hk, rfl, hx⟩ := hrel
    have HXr := Lib.hid (HX.out.trans hx)
    have HB0r := Lib.hid (HB0.out.ext hx)
    have HB1r := Lib.hid (HB1.out.ext hx)
    by_cases hlt : k < n
    · obtain ⟨b, off, r, rfl, hr, c0, c1, c2, c3, c4, c5, c6⟩ := (HL.out.ext HXr.out).at7 hlt
      obtain ⟨b', off', r', rfl, hr', d0, d1, d2, d3, d4, d5, d6⟩ := (HL2.out.ext HXr.out).at7 hlt
      rw [hr] at hr'
      obtain rfl : r = r' := Option.some.inj hr'
      clear hr hr'
      have hq0 := fun o => HB0r.out.cell o
      have hq1 := fun o => HB1r.out.cell o
      go_wp2_with fail
      go_quiet (fail)
      go_wp2_with fail
      exact ⟨⟨k + 1, by omega, by go_num, hx.drewN _⟩, by simp [intOf]; omega⟩
    · have hkn : k = n := by omega
      subst hkn
      go_wp2_with fail
      go_ret
      exact ⟨rfl, HXr.out⟩

/-- a cut goes on in the next one -/
def goesB (a b : Cut) : Bool := decide (a.reel = b.reel ∧ a.n = 1 ∧ a.d = 1 ∧ b.n = 1 ∧ b.d = 1 ∧ a.out = b.inn ∧ a.src + a.out - a.inn = b.src)
--@gen goes
set_option maxRecDepth 100000 in
set_option maxHeartbeats 4000000 in
theorem goesOn_any (x y : Cut) (w : World) (hx : x.Sane) (hy : y.Sane) : Calls Tryd.prog 34 #[.agg x.cells, .agg y.cells] w fun en w' => en = .returned (.bool (goesB x y)) ∧ Ext w w' := by
  obtain ⟨num, rl, src, inn, out, nn, dd⟩ := x
  obtain ⟨num', rl', src', inn', out', nn', dd'⟩ := y
  obtain ⟨sa1, sa2, sa3, sa4, sa5, sa6, sa7, sa8, sa9⟩ := hx
  obtain ⟨sb1, sb2, sb3, sb4, sb5, sb6, sb7, sb8, sb9⟩ := hy
  have HF : Hid (goesB ⟨num, rl, src, inn, out, nn, dd⟩ ⟨num', rl', src', inn', out', nn', dd'⟩ = decide (rl = rl' ∧ nn = 1 ∧ dd = 1 ∧ nn' = 1 ∧ dd' = 1 ∧ out = inn' ∧ src + out - inn = src')) := rfl
  have HX := Lib.hid (((Ext.refl w).alloc (.cells (Cut.cells ⟨num, rl, src, inn, out, nn, dd⟩) 67)).alloc (.cells (Cut.cells ⟨num', rl', src', inn', out', nn', dd'⟩) 67))
  have HX1 := Lib.hid (HX.out.alloc (.cells #[.int .i64 1, .int .i64 1] 65))
  unfold Cut.cells at *
  dsimp only at *
  by_cases hq0 : rl = rl'
  case neg =>
    have he' : (rl.toList == rl'.toList) = false := by rw [bs_eq]; simpa using hq0
    have HG := Lib.hid (HF.out.trans (decide_eq_false (fun h => hq0 h.1)))
    go_enter Tryd.func34, Tryd.ntmps34
    go_wp2_with fail
    go_ret
    exact ⟨by rw [HG.out]; first | rfl | (simp; done) | (simp; omega), (((Ext.refl w).alloc _).alloc _).alloc _⟩
  have he' : (rl.toList == rl'.toList) = true := by rw [bs_eq]; simpa using hq0
  by_cases hq1 : nn = 1
  case neg =>
    have he2 : (nn == 1) = false := by simpa using hq1
    have HG := Lib.hid (HF.out.trans (decide_eq_false (fun h => hq1 h.2.1)))
    go_enter Tryd.func34, Tryd.ntmps34
    go_wp2_with fail
    go_ret
    exact ⟨by rw [HG.out]; first | rfl | (simp; done) | (simp; omega), (((Ext.refl w).alloc _).alloc _).alloc _⟩
  have he2 : (nn == 1) = true := by simpa using hq1
  by_cases hq2 : dd = 1
  case neg =>
    have he3 : (dd == 1) = false := by simpa using hq2
    have HG := Lib.hid (HF.out.trans (decide_eq_false (fun h => hq2 h.2.2.1)))
    go_enter Tryd.func34, Tryd.ntmps34
    go_wp2_with fail
    go_ret
    exact ⟨by rw [HG.out]; first | rfl | (simp; done) | (simp; omega), (((Ext.refl w).alloc _).alloc _).alloc _⟩
  have he3 : (dd == 1) = true := by simpa using hq2
  by_cases hq3 : nn' = 1
  case neg =>
    have he4 : (nn' == 1) = false := by simpa using hq3
    have HG := Lib.hid (HF.out.trans (decide_eq_false (fun h => hq3 h.2.2.2.1)))
    go_enter Tryd.func34, Tryd.ntmps34
    go_wp2_with fail
    go_ret
    exact ⟨by rw [HG.out]; first | rfl | (simp; done) | (simp; omega), (((Ext.refl w).alloc _).alloc _).alloc _⟩
  have he4 : (nn' == 1) = true := by simpa using hq3
  by_cases hq4 : dd' = 1
  case neg =>
    have he5 : (dd' == 1) = false := by simpa using hq4
    have HG := Lib.hid (HF.out.trans (decide_eq_false (fun h => hq4 h.2.2.2.2.1)))
    go_enter Tryd.func34, Tryd.ntmps34
    go_wp2_with fail
    go_ret
    exact ⟨by rw [HG.out]; first | rfl | (simp; done) | (simp; omega), (((Ext.refl w).alloc _).alloc _).alloc _⟩
  have he5 : (dd' == 1) = true := by simpa using hq4
  by_cases hq5 : out = inn'
  case neg =>
    have he6 : (out == inn') = false := by simpa using hq5
    have HG := Lib.hid (HF.out.trans (decide_eq_false (fun h => hq5 h.2.2.2.2.2.1)))
    go_enter Tryd.func34, Tryd.ntmps34
    go_wp2_with fail
    go_ret
    exact ⟨by rw [HG.out]; first | rfl | (simp; done) | (simp; omega), (((Ext.refl w).alloc _).alloc _).alloc _⟩
  have he6 : (out == inn') = true := by simpa using hq5
  by_cases hq6 : src + out - inn = src'
  case neg =>
    have he7 : (src + out - inn == src') = false := by simpa using hq6
    have HG := Lib.hid (HF.out.trans (decide_eq_false (fun h => hq6 h.2.2.2.2.2.2)))
    go_enter Tryd.func34, Tryd.ntmps34
    go_wp2_with fail
    go_ret
    exact ⟨by rw [HG.out]; first | rfl | (simp; done) | (simp; omega), (((Ext.refl w).alloc _).alloc _).alloc _⟩
  have he7 : (src + out - inn == src') = true := by simpa using hq6
  have HG := Lib.hid (HF.out.trans (decide_eq_true ⟨hq0, hq1, hq2, hq3, hq4, hq5, hq6⟩))
  go_enter Tryd.func34, Tryd.ntmps34
  go_wp2_with fail
  go_ret
  exact ⟨by rw [HG.out]; first | rfl | (simp; done) | (simp; omega), (((Ext.refl w).alloc _).alloc _).alloc _⟩
set_option maxRecDepth 100000 in
set_option maxHeartbeats 4000000 in
theorem goes_any (x y : Cut) (w : World) (hx : x.Sane) (hy : y.Sane) : Calls Tryd.prog 35 #[.agg x.cells, .agg y.cells] w fun en w' => en = .returned (.bool (goesB x y)) ∧ Ext w w' := by
  obtain ⟨num, rl, src, inn, out, nn, dd⟩ := x
  obtain ⟨num', rl', src', inn', out', nn', dd'⟩ := y
  obtain ⟨sa1, sa2, sa3, sa4, sa5, sa6, sa7, sa8, sa9⟩ := hx
  obtain ⟨sb1, sb2, sb3, sb4, sb5, sb6, sb7, sb8, sb9⟩ := hy
  have HF : Hid (goesB ⟨num, rl, src, inn, out, nn, dd⟩ ⟨num', rl', src', inn', out', nn', dd'⟩ = decide (rl = rl' ∧ nn = 1 ∧ dd = 1 ∧ nn' = 1 ∧ dd' = 1 ∧ out = inn' ∧ src + out - inn = src')) := rfl
  have HX := Lib.hid (((Ext.refl w).alloc (.cells (Cut.cells ⟨num, rl, src, inn, out, nn, dd⟩) 67)).alloc (.cells (Cut.cells ⟨num', rl', src', inn', out', nn', dd'⟩) 67))
  have HX1 := Lib.hid (HX.out.alloc (.cells #[.int .i64 1, .int .i64 1] 65))
  unfold Cut.cells at *
  dsimp only at *
  by_cases hq0 : rl = rl'
  case neg =>
    have he' : (rl.toList == rl'.toList) = false := by rw [bs_eq]; simpa using hq0
    have HG := Lib.hid (HF.out.trans (decide_eq_false (fun h => hq0 h.1)))
    go_enter Tryd.func35, Tryd.ntmps35
    go_wp2_with fail
    go_ret
    exact ⟨by rw [HG.out]; first | rfl | (simp; done) | (simp; omega), (((Ext.refl w).alloc _).alloc _).alloc _⟩
  have he' : (rl.toList == rl'.toList) = true := by rw [bs_eq]; simpa using hq0
  by_cases hq1 : nn = 1
  case neg =>
    have he2 : (nn == 1) = false := by simpa using hq1
    have HG := Lib.hid (HF.out.trans (decide_eq_false (fun h => hq1 h.2.1)))
    go_enter Tryd.func35, Tryd.ntmps35
    go_wp2_with fail
    go_ret
    exact ⟨by rw [HG.out]; first | rfl | (simp; done) | (simp; omega), (((Ext.refl w).alloc _).alloc _).alloc _⟩
  have he2 : (nn == 1) = true := by simpa using hq1
  by_cases hq2 : dd = 1
  case neg =>
    have he3 : (dd == 1) = false := by simpa using hq2
    have HG := Lib.hid (HF.out.trans (decide_eq_false (fun h => hq2 h.2.2.1)))
    go_enter Tryd.func35, Tryd.ntmps35
    go_wp2_with fail
    go_ret
    exact ⟨by rw [HG.out]; first | rfl | (simp; done) | (simp; omega), (((Ext.refl w).alloc _).alloc _).alloc _⟩
  have he3 : (dd == 1) = true := by simpa using hq2
  by_cases hq3 : nn' = 1
  case neg =>
    have he4 : (nn' == 1) = false := by simpa using hq3
    have HG := Lib.hid (HF.out.trans (decide_eq_false (fun h => hq3 h.2.2.2.1)))
    go_enter Tryd.func35, Tryd.ntmps35
    go_wp2_with fail
    go_ret
    exact ⟨by rw [HG.out]; first | rfl | (simp; done) | (simp; omega), (((Ext.refl w).alloc _).alloc _).alloc _⟩
  have he4 : (nn' == 1) = true := by simpa using hq3
  by_cases hq4 : dd' = 1
  case neg =>
    have he5 : (dd' == 1) = false := by simpa using hq4
    have HG := Lib.hid (HF.out.trans (decide_eq_false (fun h => hq4 h.2.2.2.2.1)))
    go_enter Tryd.func35, Tryd.ntmps35
    go_wp2_with fail
    go_ret
    exact ⟨by rw [HG.out]; first | rfl | (simp; done) | (simp; omega), (((Ext.refl w).alloc _).alloc _).alloc _⟩
  have he5 : (dd' == 1) = true := by simpa using hq4
  by_cases hq5 : out = inn'
  case neg =>
    have he6 : (out == inn') = false := by simpa using hq5
    have HG := Lib.hid (HF.out.trans (decide_eq_false (fun h => hq5 h.2.2.2.2.2.1)))
    go_enter Tryd.func35, Tryd.ntmps35
    go_wp2_with fail
    go_ret
    exact ⟨by rw [HG.out]; first | rfl | (simp; done) | (simp; omega), (((Ext.refl w).alloc _).alloc _).alloc _⟩
  have he6 : (out == inn') = true := by simpa using hq5
  by_cases hq6 : src + out - inn = src'
  case neg =>
    have he7 : (src + out - inn == src') = false := by simpa using hq6
    have HG := Lib.hid (HF.out.trans (decide_eq_false (fun h => hq6 h.2.2.2.2.2.2)))
    go_enter Tryd.func35, Tryd.ntmps35
    go_wp2_with fail
    go_ret
    exact ⟨by rw [HG.out]; first | rfl | (simp; done) | (simp; omega), (((Ext.refl w).alloc _).alloc _).alloc _⟩
  have he7 : (src + out - inn == src') = true := by simpa using hq6
  have HG := Lib.hid (HF.out.trans (decide_eq_true ⟨hq0, hq1, hq2, hq3, hq4, hq5, hq6⟩))
  go_enter Tryd.func35, Tryd.ntmps35
  go_wp2_with fail
  go_ret
  exact ⟨by rw [HG.out]; first | rfl | (simp; done) | (simp; omega), (((Ext.refl w).alloc _).alloc _).alloc _⟩
end Go.Proofs.YtffianmhojiomaaDoor
