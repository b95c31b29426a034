/- The walk of reel.only: the last cut of a reel and the number of its cuts. -/
import Derived.Test.YtffianmhojiomaaDoorAt
import Derived.Test.YtffianmhojiomaaDoorAllocs
namespace Go.Proofs.YtffianmhojiomaaDoor
set_option linter.unusedVariables false
set_option linter.unusedSimpArgs false
open Go.RowKit

theorem bs_eq (x y : ByteArray) : (x.toList == y.toList) = decide (x = y) := by
  by_cases h : x = y
  · subst h; simp
  · rw [decide_eq_false h, beq_eq_false_iff_ne]
    intro he
    rw [ByteArray.toList_eq, ByteArray.toList_eq] at he
    exact h (by cases x; cases y; simp_all [Array.toList_inj])
def isR (l : List Cut) (s : ByteArray) (k : Nat) : Prop := (l[k]?).map (·.reel) = some s
instance (l : List Cut) (s : ByteArray) (k : Nat) : Decidable (isR l s k) := inferInstanceAs (Decidable ((l[k]?).map (·.reel) = some s))
/-- the last place of a reel ahead of place k, and how many there are -/
def lastI (l : List Cut) (s : ByteArray) : Nat → Nat | 0 => 0 | k + 1 => if isR l s k then k else lastI l s k
def cntI (l : List Cut) (s : ByteArray) : Nat → Nat | 0 => 0 | k + 1 => if isR l s k then cntI l s k + 1 else cntI l s k
theorem cntI_le (l : List Cut) (s : ByteArray) : ∀ k, cntI l s k ≤ k
  | 0 => Nat.le_refl _
  | k + 1 => by have := cntI_le l s k; unfold cntI; split <;> omega
theorem lastI_le (l : List Cut) (s : ByteArray) : ∀ k, lastI l s k ≤ k
  | 0 => Nat.le_refl _
  | k + 1 => by have := lastI_le l s k; unfold lastI; split <;> omega
theorem lastI_is (l : List Cut) (s : ByteArray) : ∀ k, 0 < cntI l s k → lastI l s k < k ∧ isR l s (lastI l s k)
  | 0, h => by simp [cntI] at h
  | k + 1, h => by
    unfold lastI
    unfold cntI at h
    split
    · rename_i hi; exact ⟨by omega, hi⟩
    · rename_i hi
      rw [if_neg hi] at h
      have := lastI_is l s k h
      exact ⟨by omega, this.2⟩
def OnlyRel (w1 : World) (n : Nat) (l : List Cut) (s : ByteArray) (v4 v5 i : Value) (wr : World) : Prop :=
  ∃ k : Nat, k ≤ n ∧ i = .int .i64 k ∧ v4 = .int .i64 (lastI l s k) ∧ v5 = .int .i64 (cntI l s k) ∧ Ext w1 wr
set_option maxRecDepth 100000 in
set_option maxHeartbeats 4000000 in
theorem only_any (e : Edl) (A : Option Addr) (n c : Nat) (s : ByteArray) (w : World) (hl : CutsAt w A n e.cuts) (hn : n ≤ 1000000) :
    Calls Tryd.prog 31 #[.agg (e.cells A n c), .string s] w fun en w' => en = .returned (.tuple #[.int .i64 (lastI e.cuts s n), .int .i64 (cntI e.cuts s n)]) ∧ Ext w w' := by
  have HL := Lib.hid hl
  have HX0 := Lib.hid ((Ext.refl w).alloc (.cells (e.cells A n c) 32))
  clear hl
  unfold Edl.cells at *
  go_enter Tryd.func31, Tryd.ntmps31
  go_wp2_with fail
  go_loopw [4, 5, 11] (fun v4 v5 i wr => OnlyRel (w.alloc (.cells #[.string e.title, .int .u8 e.rate, .bool e.drop, .slice A n c] 32)) n e.cuts s v4 v5 i wr) (fun _ _ i _ => n - (intOf i).toNat)
  case atStart => exact ⟨0, Nat.zero_le _, rfl, rfl, rfl, Ext.refl _⟩
  case round =>
    obtain ⟨k, hk, rfl, rfl, rfl, hx⟩ := hrel
    have HXr := Lib.hid (HX0.out.trans hx)
    have hb1 := cntI_le e.cuts s k
    have hb2 := lastI_le e.cuts s k
    by_cases hlt : k < n
    · obtain ⟨b, off, r, rfl, hr, c0, c1, c2, c3, c4, c5, c6⟩ := (HL.out.ext HXr.out).at7 hlt
      have HXc := Lib.hid ((Ext.refl wr).alloc (.cells r.cells 67))
      unfold Cut.cells at HXc
      by_cases he : r.reel = s
      · have he' : (r.reel.toList == s.toList) = true := by rw [bs_eq]; simpa using he
        have HI : Hid (isR e.cuts s k) := by show _ = _; rw [hr]; simpa using he
        have H1 : Hid (lastI e.cuts s (k + 1) = k) := by show _ = _; unfold lastI; rw [if_pos HI.out]
        have H2 : Hid (cntI e.cuts s (k + 1) = cntI e.cuts s k + 1) := by show _ = _; rw [cntI, if_pos HI.out]
        clear hr
        generalize cntI e.cuts s k = cc at *
        generalize lastI e.cuts s k = ll at *
        go_wp2_with fail
        exact ⟨⟨k + 1, by omega, by go_num, by rw [H1.out], by rw [H2.out]; go_num, hx.alloc _⟩, by simp [intOf]; omega⟩
      · have he' : (r.reel.toList == s.toList) = false := by rw [bs_eq]; simpa using he
        have HI : Hid (¬ isR e.cuts s k) := by show ¬ _ = _; rw [hr]; simpa using he
        have H1 : Hid (lastI e.cuts s (k + 1) = lastI e.cuts s k) := by show _ = _; rw [lastI, if_neg HI.out]
        have H2 : Hid (cntI e.cuts s (k + 1) = cntI e.cuts s k) := by show _ = _; rw [cntI, if_neg HI.out]
        clear hr
        generalize cntI e.cuts s k = cc at *
        generalize lastI e.cuts s k = ll at *
        go_wp2_with fail
        exact ⟨⟨k + 1, by omega, by go_num, by rw [H1.out], by rw [H2.out], hx.alloc _⟩, by simp [intOf]; omega⟩
    · have hkn : k = n := by omega
      subst hkn
      go_wp2_with fail
      go_ret2
      exact ⟨rfl, HXr.out⟩

/-- two variables made and filled in a drawn region -/
structure TwoJ (T : TypeId) (p q m : Nat) (a b : Array Value) (W : World) (us : List Value) (gs : Nat → Option Nat) (w : World) : Prop where
  ext : Ext W w
  va : ∀ g, gs p = some g → W.heap.size ≤ g ∧ ∃ cs, cs.size = m ∧ Blk w g T cs ∧ (0 < us.length → cs = a)
  vb : ∀ g, gs q = some g → W.heap.size ≤ g ∧ ∃ cs, cs.size = m ∧ Blk w g T cs ∧ (1 < us.length → cs = b)
  ne : ∀ g g', gs p = some g → gs q = some g' → g ≠ g'
section
variable {T : TypeId} {p q m : Nat} {a b z : Array Value} {W w : World} {us : List Value} {gs : Nat → Option Nat}
theorem twoJ_start (W : World) : TwoJ T p q m a b W [] (fun _ => none) W.drew := ⟨(Ext.refl W).drew, fun g h => (by cases h), fun g h => (by cases h), fun g g' h => (by cases h)⟩
theorem twoJ_p (h : TwoJ T p q m a b W us gs w) (hpq : p ≠ q) (hz : z.size = m) (hl : us.length ≤ 0) : TwoJ T p q m a b W us (upd gs p w.heap.size) (w.alloc (.cells z T)) := by
  have hx : Ext w (w.alloc (.cells z T)) := (Ext.refl w).alloc _
  refine ⟨h.ext.trans hx, fun g hg => ?_, fun g hg => ?_, fun g g' hg hg' => ?_⟩
  · rw [upd_self] at hg
    obtain rfl : w.heap.size = g := Option.some.inj hg
    exact ⟨h.ext.size, z, hz, Blk.new w _ _, fun h' => absurd h' (by omega)⟩
  · rw [upd_other _ (Ne.symm hpq)] at hg
    obtain ⟨h1, cs, h2, h3, h4⟩ := h.vb g hg
    exact ⟨h1, cs, h2, h3.ext hx, h4⟩
  · rw [upd_self] at hg
    rw [upd_other _ (Ne.symm hpq)] at hg'
    obtain ⟨h1, cs, h2, h3, h4⟩ := h.vb g' hg'
    have := h3.lt
    have := Option.some.inj hg
    omega
theorem twoJ_q (h : TwoJ T p q m a b W us gs w) (hpq : p ≠ q) (hz : z.size = m) (hl : us.length ≤ 1) : TwoJ T p q m a b W us (upd gs q w.heap.size) (w.alloc (.cells z T)) := by
  have hx : Ext w (w.alloc (.cells z T)) := (Ext.refl w).alloc _
  refine ⟨h.ext.trans hx, fun g hg => ?_, fun g hg => ?_, fun g g' hg hg' => ?_⟩
  · rw [upd_other _ hpq] at hg
    obtain ⟨h1, cs, h2, h3, h4⟩ := h.va g hg
    exact ⟨h1, cs, h2, h3.ext hx, h4⟩
  · rw [upd_self] at hg
    obtain rfl : w.heap.size = g := Option.some.inj hg
    exact ⟨h.ext.size, z, hz, Blk.new w _ _, fun h' => absurd h' (by omega)⟩
  · rw [upd_self] at hg'
    rw [upd_other _ hpq] at hg
    obtain ⟨h1, cs, h2, h3, h4⟩ := h.va g hg
    have := h3.lt
    have := Option.some.inj hg'
    omega
theorem twoJ_a {v : Value} {ga : Nat} {cs : Array Value} (h : TwoJ T p q m a b W [] gs w) (hg4 : gs p = some ga) (ha : a.size = m) (hB : Blk w ga T cs) : TwoJ T p q m a b W ([] ++ [v]) gs (putB w ga T a) := by
  refine ⟨h.ext.put (h.va ga hg4).1 _ _, fun g hg => ?_, fun g hg => ?_, h.ne⟩
  · rw [hg4] at hg
    obtain rfl : ga = g := Option.some.inj hg
    exact ⟨(h.va ga hg4).1, _, ha, hB.put _, fun _ => rfl⟩
  · obtain ⟨h1, cs', h2, h3, _⟩ := h.vb g hg
    exact ⟨h1, cs', h2, h3.put_other (h.ne ga g hg4 hg) _, fun h' => by simp at h'⟩
theorem twoJ_b {u0 v : Value} {gb : Nat} {cs : Array Value} (h : TwoJ T p q m a b W [u0] gs w) (hg5 : gs q = some gb) (hb : b.size = m) (hB : Blk w gb T cs) : TwoJ T p q m a b W ([u0] ++ [v]) gs (putB w gb T b) := by
  refine ⟨h.ext.put (h.vb gb hg5).1 _ _, fun g hg => ?_, fun g hg => ?_, h.ne⟩
  · obtain ⟨h1, cs', h2, h3, h4⟩ := h.va g hg
    exact ⟨h1, cs', h2, h3.put_other (Ne.symm (h.ne g gb hg hg5)) _, fun _ => h4 (by simp)⟩
  · rw [hg5] at hg
    obtain rfl : gb = g := Option.some.inj hg
    exact ⟨(h.vb gb hg5).1, _, hb, hB.put _, fun _ => rfl⟩
theorem TwoJ.end_ {u0 u1 : Value} (h : TwoJ T p q m a b W [u0, u1] gs w) (hgs : ∀ j, (j = p ∨ j = q) → (gs j).isSome = true) : ∃ ga gb, gs p = some ga ∧ gs q = some gb ∧ W.heap.size ≤ ga ∧ W.heap.size ≤ gb ∧ ga ≠ gb ∧ Blk w ga T a ∧ Blk w gb T b := by
  obtain ⟨ga, hga⟩ := Option.isSome_iff_exists.1 (hgs p (.inl rfl))
  obtain ⟨gb, hgb⟩ := Option.isSome_iff_exists.1 (hgs q (.inr rfl))
  obtain ⟨h1, cs, _, h3, h4⟩ := h.va ga hga
  obtain ⟨k1, cs', _, k3, k4⟩ := h.vb gb hgb
  have e1 := h4 (by simp)
  have e2 := k4 (by simp)
  subst e1 e2
  exact ⟨ga, gb, hga, hgb, h1, k1, h.ne _ _ hga hgb, h3, k3⟩
end
end Go.Proofs.YtffianmhojiomaaDoor
