/- The walks of package style (Valid, alike, Len, Plain). -/
import Derived.Test.YtcgflkmkdpgchaaDoorCharB
import Derived.Test.YtcgflkmkdpgchaaDoorBuilder
import Derived.Test.YtcgflkmkdpgchaaDoorOwn
import Derived.Test.YtcgflkmkdpgchaaDoorEql
namespace Go.Proofs.YtcgflkmkdpgchaaDoor
set_option linter.unusedVariables false
set_option linter.unusedSimpArgs false
open Go.RowKit

theorem SValid_any (c : Int) (i u : Bool) (w : World) : Calls Tryd.prog 57 #[.agg #[.int .u8 c, .bool i, .bool u]] w fun e w' => e = .returned (.bool (decide (c ≤ 6))) ∧ Ext w w' := by
  go_enter Tryd.func57, Tryd.ntmps57
  go_wp2
  go_ret
  exact ⟨rfl, (Ext.refl w).alloc _⟩

def Run.plainStyle (a b : Run) : Prop := a.color = b.color ∧ a.italic = b.italic ∧ a.under = b.under
instance (a b : Run) : Decidable (Run.plainStyle a b) := by unfold Run.plainStyle; infer_instance
/-- would two neighbouring runs be joined? -/
def alikeB (a b : Run) : Bool := decide (Run.plainStyle a b) && decide (a.ruby.toList = []) && decide (b.ruby.toList = [])

theorem eql_style (c c' : Int) (i i' u u' : Bool) (w : World) : (binOp .eql 46 (.agg #[.int .u8 c, .bool i, .bool u]) (.agg #[.int .u8 c', .bool i', .bool u'])).run Tryd.prog w = .ok (.bool (decide (c = c' ∧ i = i' ∧ u = u'))) w := by
  go_simp
  repeat' split
  all_goals simp_all

set_option maxHeartbeats 1000000 in
theorem alike_any (a b : Run) (w : World) : Calls Tryd.prog 58 #[a.val, b.val] w fun e w' => e = .returned (.bool (alikeB a b)) ∧ Ext w w' := by
  obtain ⟨t1, c1, i1, u1, r1⟩ := a
  obtain ⟨t2, c2, i2, u2, r2⟩ := b
  unfold Run.val
  dsimp only
  have hx : Ext w ((w.alloc (.cells #[.string t1, .int .u8 c1, .bool i1, .bool u1, .string r1] 48)).alloc (.cells #[.string t2, .int .u8 c2, .bool i2, .bool u2, .string r2] 48)) := ((Ext.refl w).alloc _).alloc _
  have HX := Lib.hid hx
  clear hx
  by_cases hs : c1 = c2 ∧ i1 = i2 ∧ u1 = u2
  · have hq : ∀ w, (binOp .eql 46 (.agg #[.int .u8 c1, .bool i1, .bool u1]) (.agg #[.int .u8 c2, .bool i2, .bool u2])).run Tryd.prog w = .ok (.bool true) w := fun w => by rw [eql_style, decide_eq_true hs]
    have HS := Lib.hid hs
    clear hs
    cases h1 : r1.toList.isEmpty
    · have HF : Hid (alikeB ⟨t1, c1, i1, u1, r1⟩ ⟨t2, c2, i2, u2, r2⟩ = false) := by show alikeB _ _ = false; unfold alikeB; cases hr : r1.toList <;> simp_all
      go_enter Tryd.func58, Tryd.ntmps58
      go_wp2
      go_ret
      exact ⟨by rw [HF.out]; rfl, HX.out⟩
    · cases h2 : r2.toList.isEmpty
      · have HF : Hid (alikeB ⟨t1, c1, i1, u1, r1⟩ ⟨t2, c2, i2, u2, r2⟩ = false) := by show alikeB _ _ = false; unfold alikeB; cases hr : r2.toList <;> simp_all
        go_enter Tryd.func58, Tryd.ntmps58
        go_wp2
        go_ret
        exact ⟨by rw [HF.out]; rfl, HX.out⟩
      · have HF : Hid (alikeB ⟨t1, c1, i1, u1, r1⟩ ⟨t2, c2, i2, u2, r2⟩ = true) := by
          show alikeB _ _ = true
          unfold alikeB Run.plainStyle
          have := HS.out
          simp_all
        go_enter Tryd.func58, Tryd.ntmps58
        go_wp2
        go_ret
        exact ⟨by rw [HF.out]; rfl, HX.out⟩
  · have hq : ∀ w, (binOp .eql 46 (.agg #[.int .u8 c1, .bool i1, .bool u1]) (.agg #[.int .u8 c2, .bool i2, .bool u2])).run Tryd.prog w = .ok (.bool false) w := fun w => by rw [eql_style, decide_eq_false hs]
    have HF : Hid (alikeB ⟨t1, c1, i1, u1, r1⟩ ⟨t2, c2, i2, u2, r2⟩ = false) := by show alikeB _ _ = false; unfold alikeB Run.plainStyle; rw [decide_eq_false hs]; rfl
    clear hs
    go_enter Tryd.func58, Tryd.ntmps58
    go_wp2
    go_ret
    exact ⟨by rw [HF.out]; rfl, HX.out⟩

/-- the bytes of a row -/
def rowBytes (l : Row) : Nat := (l.map fun r => r.text.size).sum
/-- the number of characters of a row, -1 if a text is not valid -/
def rowLen : Row → Int
  | [] => 0
  | r :: l => if clen r.text < 0 then -1 else if rowLen l < 0 then -1 else clen r.text + rowLen l

theorem rowBytes_cons (r : Run) (l : Row) : rowBytes (r :: l) = r.text.size + rowBytes l := by simp [rowBytes]
theorem rowBytes_drop (l : Row) (k : Nat) (r : Run) (h : l[k]? = some r) : rowBytes (l.take (k + 1)) = rowBytes (l.take k) + r.text.size := by
  have hkl := (List.getElem?_eq_some_iff.1 h).1
  rw [List.take_succ_eq_append_getElem hkl, (List.getElem?_eq_some_iff.1 h).2]
  simp [rowBytes]
theorem rowBytes_take_le (l : Row) (k : Nat) : rowBytes (l.take k) ≤ rowBytes l := by
  have h : rowBytes l = rowBytes (l.take k) + rowBytes (l.drop k) := by
    have e := List.take_append_drop k l
    have : rowBytes (l.take k ++ l.drop k) = rowBytes (l.take k) + rowBytes (l.drop k) := by simp only [rowBytes, List.map_append, List.sum_append]
    rw [← this, e]
  omega
theorem clen_le (s : ByteArray) : clen s ≤ s.size := by
  unfold clen
  split
  · have := Lib.runeCount_le s; omega
  · omega
theorem clen_ge (s : ByteArray) : -1 ≤ clen s := by
  unfold clen
  split <;> omega

def LenRel (w : World) (n : Nat) (l : Row) (v i : Value) (wr : World) : Prop :=
  ∃ (k : Nat) (s : Int), k ≤ n ∧ i = .int .i64 k ∧ v = .int .i64 s ∧ 0 ≤ s ∧ s ≤ rowBytes (l.take k) ∧ Ext w wr ∧ rowLen l = if rowLen (l.drop k) < 0 then -1 else s + rowLen (l.drop k)

theorem rowLen_ge : ∀ l : Row, -1 ≤ rowLen l
  | [] => by simp [rowLen]
  | r :: l => by
    have := rowLen_ge l
    have := clen_ge r.text
    unfold rowLen
    split
    · omega
    · split <;> omega

theorem rowLen_step (s : Int) (r : Run) (l : Row) (h : ¬ clen r.text < 0) : (if rowLen (r :: l) < 0 then -1 else s + rowLen (r :: l)) = if rowLen l < 0 then -1 else s + clen r.text + rowLen l := by
  rw [rowLen, if_neg h]
  by_cases h9 : rowLen l < 0
  · simp [h9]
  · rw [if_neg h9, if_neg h9, if_neg (by omega)]
    omega

set_option maxHeartbeats 1000000 in
theorem SLen_any (A : Option Addr) (n c : Nat) (l : Row) (w : World) (hE : Env w) (hl : RunsAt w A n l) (hb : rowBytes l ≤ 4611686018427387904) (hn : n ≤ 4611686018427387904) :
    Calls Tryd.prog 50 #[.agg #[.slice A n c]] w fun e w' => e = .returned (.int .i64 (rowLen l)) ∧ Ext w w' := by
  have HL := Lib.hid hl
  have HLn := Lib.hid hl.len
  clear hl
  have HEn := Lib.hid hE
  clear hE
  go_enter Tryd.func50, Tryd.ntmps50
  go_wp2_with fail
  go_loopw [3, 10] (fun v i wr => LenRel w n l v i wr) (fun _ i _ => n - (intOf i).toNat)
  case atStart =>
    refine ⟨0, 0, Nat.zero_le _, rfl, rfl, by omega, by simp, (Ext.refl w).alloc _, ?_⟩
    have := rowLen_ge l
    simp only [List.drop_zero]
    split <;> omega
  case round =>
    obtain ⟨k, s, hk, rfl, rfl, hs0, hs1, hx, hp⟩ := hrel
    have HP := Lib.hid hp
    clear hp
    by_cases hlt : k < n
    · obtain ⟨b, off, r, rfl, hr, hC⟩ := (HL.out.ext hx).at_ hlt
      obtain ⟨c0, c1, c2, c3, c4⟩ := hC
      have HD := Lib.hid (drop_at l k r hr)
      have hbt := rowBytes_drop l k r hr
      have hble := rowBytes_take_le l (k + 1)
      have hsz : (r.text.size : Int) ≤ 4611686018427387904 := by omega
      have hs2 : s + r.text.size ≤ 4611686018427387904 := by omega
      have hs3 : Hid (s + (r.text.size : Int) ≤ (rowBytes (l.take (k + 1)) : Int)) := by show s + (r.text.size : Int) ≤ _; omega
      clear hbt hble hr
      have hcl := clen_le r.text
      have hcg := clen_ge r.text
      have hcl2 : s + clen r.text ≤ 4611686018427387904 := by omega
      go_wp2_with fail
      refine (CLen_any r.text _ (HEn.out.ext (hx.alloc _)) (by omega)).mono ?_
      rintro e w2 ⟨rfl, hx2⟩
      by_cases hneg : clen r.text < 0
      · go_wp2_with fail
        go_ret
        refine ⟨ret_int ?_, (hx.alloc _).trans hx2⟩
        rw [HP.out, HD.out, rowLen, if_pos (by omega)]
      · go_wp2_with fail
        refine ⟨⟨k + 1, s + clen r.text, by omega, by go_num, rfl, by omega, ?_, (hx.alloc _).trans hx2, ?_⟩, by simp [intOf]; omega⟩
        · have := hs3.out; omega
        · rw [HP.out, HD.out]
          exact rowLen_step s r (l.drop (k + 1)) (by omega)
    · have HD : Hid (l.drop k = []) := List.drop_eq_nil_of_le (by rw [HLn.out]; omega)
      go_wp2_with fail
      go_ret
      exact ⟨ret_int (by rw [HP.out, HD.out]; simp [rowLen]), hx⟩

end Go.Proofs.YtcgflkmkdpgchaaDoor
