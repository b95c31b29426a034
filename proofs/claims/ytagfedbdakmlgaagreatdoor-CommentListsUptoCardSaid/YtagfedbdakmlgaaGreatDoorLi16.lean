/- Laid together: The walk of the reference's Name. The walks of the reference's regions: Default, Check. The walks of the reference's regions: usable, Find, CheckList. The walk of the reference's Place. -/
import Derived.Test.YtagfedbdakmlgaaGreatDoorLi02
import Derived.Test.YtagfedbdakmlgaaGreatDoorLi07
import Derived.Test.YtagfedbdakmlgaaGreatDoorLi05
import Derived.Test.YtagfedbdakmlgaaGreatDoorLi03

/-! NameR -/
namespace Go.Proofs.YtagfedbdakmlgaaGreatDoor
set_option linter.unusedVariables false
set_option linter.unusedSimpArgs false
open Go.RowKit
theorem digit_any (c : Int) (w : World) : Calls Tryz.prog 128 #[.int .u8 c] w fun e w' => e = .returned (.bool (decide (48 ≤ c ∧ c ≤ 57))) ∧ w = w' := by
  by_cases h1 : 48 ≤ c
  · by_cases h2 : c ≤ 57
    · go_enter Tryz.func128, Tryz.ntmps128
      go_wp2
      go_ret
      exact ⟨ret_bool (by rw [decide_eq_true ⟨h1, h2⟩]), rfl⟩
    · go_enter Tryz.func128, Tryz.ntmps128
      go_wp2
      go_ret
      exact ⟨ret_bool (by rw [decide_eq_false (by omega)]), rfl⟩
  · go_enter Tryz.func128, Tryz.ntmps128
    go_wp2
    go_ret
    exact ⟨ret_bool (by simp; omega), rfl⟩
def NameRelR (s : ByteArray) (i : Value) (w wr : World) : Prop := ∃ k : Nat, k ≤ s.size ∧ i = .int .i64 k ∧ (s.data.toList.take k).all (fun c => nbI c.toNat) = true ∧ (0 < k → ∀ h : 0 < s.size, (65 : Int) ≤ (s[0].toNat : Int) ∧ (s[0].toNat : Int) ≤ 90) ∧ w = wr
theorem nb_step {s : ByteArray} {k : Nat} (hlt : k < s.size) (h : (s.data.toList.take k).all (fun c => nbI c.toNat) = true) (hb : nbI (s[k].toNat : Int) = true) : (s.data.toList.take (k + 1)).all (fun c => nbI c.toNat) = true := by
  rw [take_snoc s k hlt, List.all_append, h]
  simp [hb]
theorem nb_let {c : Int} (h1 : 65 ≤ c) (h2 : c ≤ 90) : nbI c = true := decide_eq_true (.inl ⟨h1, h2⟩)
theorem nb_dig {c : Int} (h1 : 48 ≤ c) (h2 : c ≤ 57) : nbI c = true := decide_eq_true (.inr (.inl ⟨h1, h2⟩))
set_option maxRecDepth 100000 in
set_option maxHeartbeats 4000000 in
theorem RName_any (s : ByteArray) (w : World) (hs : s.size ≤ 9223372036854775807) :
    Calls Tryz.prog 64 #[.string s] w fun e w' => e = .returned (.bool (nameB s)) ∧ Ext w w' := by
  by_cases h : 1 ≤ s.size
  · by_cases h' : s.size ≤ 16
    · have h1 : (1 : Int) ≤ (s.size : Int) := by omega
      have h2 : (s.size : Int) ≤ 16 := by omega
      have h0 : 0 < s.size := by omega
      have HS := Lib.hid (And.intro h h')
      go_enter Tryz.func64, Tryz.ntmps64
      go_wp2
      go_loopw [3] (fun i wr => NameRelR s i w wr) (fun i _ => s.size - (intOf i).toNat)
      case atStart => exact ⟨0, Nat.zero_le _, rfl, rfl, fun h => absurd h (by omega), rfl⟩
      case round =>
        obtain ⟨k, hk, rfl, hall, hhd, rfl⟩ := hrel
        have HA := Lib.hid hall
        have HH := Lib.hid hhd
        clear hall hhd
        by_cases hlt : k < s.size
        · have hki : (k : Int) < (s.size : Int) := by omega
          by_cases hl1 : (65 : Int) ≤ (s[k].toNat : Int)
          · by_cases hl2 : (s[k].toNat : Int) ≤ 90
            · have HB := Lib.hid (nb_step hlt HA.out (nb_let hl1 hl2))
              have HH2 : Hid (∀ h : 0 < s.size, (65 : Int) ≤ (s[0].toNat : Int) ∧ (s[0].toNat : Int) ≤ 90) := fun h => by
                rcases Nat.eq_zero_or_pos k with h0 | h0
                · subst h0; exact ⟨hl1, hl2⟩
                · exact HH.out h0 h
              go_wp2
              exact ⟨⟨k + 1, by omega, by go_num, HB.out, fun _ => HH2.out, rfl⟩, by simp [intOf]; omega⟩
            · by_cases hk0 : k = 0
              · subst hk0
                have HF := Lib.hid (nameB_head h0 (by omega))
                go_wp2_with fail
                go_ret
                exact ⟨by rw [HF.out]; rfl, Ext.refl _⟩
              · have hk0' : ((k : Int) == 0) = false := by simp; omega
                have hd : ¬ ((48 : Int) ≤ (s[k].toNat : Int) ∧ (s[k].toNat : Int) ≤ 57) := by omega
                go_wp2_with fail
                refine (digit_any _ _).mono ?_
                rintro e w1 ⟨rfl, rfl⟩
                rw [decide_eq_false hd]
                by_cases h95 : (s[k].toNat : Int) = 95
                · have HB := Lib.hid (nb_step hlt HA.out (by unfold nbI; rw [h95]; decide))
                  go_wp2_with fail
                  exact ⟨⟨k + 1, by omega, by go_num, HB.out, fun _ => HH.out (by omega), rfl⟩, by simp [intOf]; omega⟩
                · by_cases h45 : (s[k].toNat : Int) = 45
                  · exfalso; omega
                  · have e95 : ((s[k].toNat : Int) != 95) = true := by simpa using h95
                    have e45 : ((s[k].toNat : Int) != 45) = true := by simpa using h45
                    have HF := Lib.hid (nameB_at k hlt (by unfold nbI; rw [decide_eq_false (by omega)]))
                    go_wp2_with fail
                    go_ret
                    exact ⟨by rw [HF.out]; rfl, Ext.refl _⟩
          · by_cases hk0 : k = 0
            · subst hk0
              have HF := Lib.hid (nameB_head h0 (by omega))
              go_wp2_with fail
              go_ret
              exact ⟨by rw [HF.out]; rfl, Ext.refl _⟩
            · have hk0' : ((k : Int) == 0) = false := by simp; omega
              go_wp2_with fail
              refine (digit_any _ _).mono ?_
              rintro e w1 ⟨rfl, rfl⟩
              by_cases hd : (48 : Int) ≤ (s[k].toNat : Int) ∧ (s[k].toNat : Int) ≤ 57
              · rw [decide_eq_true hd]
                have HB := Lib.hid (nb_step hlt HA.out (nb_dig hd.1 hd.2))
                go_wp2_with fail
                exact ⟨⟨k + 1, by omega, by go_num, HB.out, fun _ => HH.out (by omega), rfl⟩, by simp [intOf]; omega⟩
              · rw [decide_eq_false hd]
                by_cases h45 : (s[k].toNat : Int) = 45
                · have HB := Lib.hid (nb_step hlt HA.out (by unfold nbI; rw [h45]; decide))
                  have e95 : ((s[k].toNat : Int) != 95) = true := by rw [h45]; rfl
                  have e45 : ((s[k].toNat : Int) != 45) = false := by rw [h45]; rfl
                  clear h45
                  go_wp2_with fail
                  exact ⟨⟨k + 1, by omega, by go_num, HB.out, fun _ => HH.out (by omega), rfl⟩, by simp [intOf]; omega⟩
                · have e95 : ((s[k].toNat : Int) != 95) = true := by simp; omega
                  have e45 : ((s[k].toNat : Int) != 45) = true := by simpa using h45
                  have HF := Lib.hid (nameB_at k hlt (by unfold nbI; rw [decide_eq_false (by omega)]))
                  go_wp2_with fail
                  go_ret
                  exact ⟨by rw [HF.out]; rfl, Ext.refl _⟩
        · have ek : k = s.size := by omega
          subst ek
          go_wp2
          go_ret
          exact ⟨by rw [nameB_yes HS.out h0 (HH.out h0 h0) HA.out]; rfl, Ext.refl _⟩
    · have HF := Lib.hid (nameB_small (s := s) (by omega))
      have h1 : (16 : Int) < (s.size : Int) := by omega
      go_enter Tryz.func64, Tryz.ntmps64
      go_wp2
      go_ret
      exact ⟨by rw [HF.out]; rfl, Ext.refl _⟩
  · have HF := Lib.hid (nameB_small (s := s) (by omega))
    have h1 : (s.size : Int) < 1 := by omega
    go_enter Tryz.func64, Tryz.ntmps64
    go_wp2
    go_ret
    exact ⟨by rw [HF.out]; rfl, Ext.refl _⟩
end Go.Proofs.YtagfedbdakmlgaaGreatDoor

/-! RegR -/
namespace Go.Proofs.YtagfedbdakmlgaaGreatDoor
set_option linter.unusedVariables false
set_option linter.unusedSimpArgs false
open Go.RowKit
set_option maxHeartbeats 400000 in
theorem R10Default_any (w : World) : Calls Tryz.prog 186 #[] w fun e w' => e = .returned Reg.default.val ∧ Ext w w' := by
  go_enter Tryz.func186, Tryz.ntmps186
  go_wp2
  exact bodyPost_ret (v := Reg.default.val) (by simp [results, Tryz.results186, go_sem, Reg.val, Reg.default]; rfl) rfl ⟨rfl, (Ext.refl w).alloc _⟩
set_option maxHeartbeats 4000000 in
theorem R10Check_any (r : Reg) (w : World) (hs : r.name.size ≤ 9223372036854775807) : Calls Tryz.prog 146 #[r.val] w fun e w' => e = .returned (.int .i64 r.check) ∧ Ext w w' := by
  obtain ⟨nm, top, hgt, lft, wid, al, bot⟩ := r
  unfold Reg.val
  dsimp only
  cases hn : nameB nm
  · have HN := Lib.hid hn
    have HF : Hid (Reg.check ⟨nm, top, hgt, lft, wid, al, bot⟩ = 5) := by show Reg.check _ = 5; unfold Reg.check; rw [if_pos hn]
    clear hn
    go_enter Tryz.func146, Tryz.ntmps146
    go_wp2_with fail
    refine (RName_any nm _ hs).mono ?_
    rintro e w1 ⟨rfl, hx1⟩
    rw [HN.out]
    go_wp2_with fail
    go_ret
    exact ⟨ret_int HF.out.symm, ((Ext.refl w).alloc _).trans hx1⟩
  have HN := Lib.hid hn
  have HC : Hid (Reg.check ⟨nm, top, hgt, lft, wid, al, bot⟩ = if ¬ Reg.inGrid ⟨nm, top, hgt, lft, wid, al, bot⟩ then 2 else if al < 1 ∨ 3 < al then 3 else 0) := by
    show Reg.check _ = _
    unfold Reg.check
    rw [if_neg (by rw [hn]; simp)]
  have HI : Hid (Reg.inGrid ⟨nm, top, hgt, lft, wid, al, bot⟩ ↔ ((0 ≤ top ∧ top ≤ 14) ∧ (1 ≤ hgt ∧ hgt ≤ 15 - top) ∧ (0 ≤ lft ∧ lft ≤ 31) ∧ (1 ≤ wid ∧ wid ≤ 32 - lft))) := Iff.rfl
  clear hn
  by_cases h0 : top < 0
  · go_enter Tryz.func146, Tryz.ntmps146
    go_wp2_with fail
    refine (RName_any nm _ hs).mono ?_
    rintro e w1 ⟨rfl, hx1⟩
    rw [HN.out]
    have hc := fun o u => hx1.cell (p := ⟨w.heap.size, o, none⟩) (u := u)
    simp at hc
    have hx1' := Lib.hid hx1
    clear hx1
    go_wp2_with fail
    go_ret
    exact ⟨ret_int (by rw [HC.out, if_pos (by rw [HI.out]; omega)]), ((Ext.refl w).alloc _).trans hx1'.out⟩
  by_cases h1 : 14 < top
  · go_enter Tryz.func146, Tryz.ntmps146
    go_wp2_with fail
    refine (RName_any nm _ hs).mono ?_
    rintro e w1 ⟨rfl, hx1⟩
    rw [HN.out]
    have hc := fun o u => hx1.cell (p := ⟨w.heap.size, o, none⟩) (u := u)
    simp at hc
    have hx1' := Lib.hid hx1
    clear hx1
    go_wp2_with fail
    go_ret
    exact ⟨ret_int (by rw [HC.out, if_pos (by rw [HI.out]; omega)]), ((Ext.refl w).alloc _).trans hx1'.out⟩
  by_cases h2 : hgt < 1
  · go_enter Tryz.func146, Tryz.ntmps146
    go_wp2_with fail
    refine (RName_any nm _ hs).mono ?_
    rintro e w1 ⟨rfl, hx1⟩
    rw [HN.out]
    have hc := fun o u => hx1.cell (p := ⟨w.heap.size, o, none⟩) (u := u)
    simp at hc
    have hx1' := Lib.hid hx1
    clear hx1
    go_wp2_with fail
    go_ret
    exact ⟨ret_int (by rw [HC.out, if_pos (by rw [HI.out]; omega)]), ((Ext.refl w).alloc _).trans hx1'.out⟩
  by_cases h3 : 15 - top < hgt
  · go_enter Tryz.func146, Tryz.ntmps146
    go_wp2_with fail
    refine (RName_any nm _ hs).mono ?_
    rintro e w1 ⟨rfl, hx1⟩
    rw [HN.out]
    have hc := fun o u => hx1.cell (p := ⟨w.heap.size, o, none⟩) (u := u)
    simp at hc
    have hx1' := Lib.hid hx1
    clear hx1
    go_wp2_with fail
    go_ret
    exact ⟨ret_int (by rw [HC.out, if_pos (by rw [HI.out]; omega)]), ((Ext.refl w).alloc _).trans hx1'.out⟩
  by_cases h4 : lft < 0
  · go_enter Tryz.func146, Tryz.ntmps146
    go_wp2_with fail
    refine (RName_any nm _ hs).mono ?_
    rintro e w1 ⟨rfl, hx1⟩
    rw [HN.out]
    have hc := fun o u => hx1.cell (p := ⟨w.heap.size, o, none⟩) (u := u)
    simp at hc
    have hx1' := Lib.hid hx1
    clear hx1
    go_wp2_with fail
    go_ret
    exact ⟨ret_int (by rw [HC.out, if_pos (by rw [HI.out]; omega)]), ((Ext.refl w).alloc _).trans hx1'.out⟩
  by_cases h5 : 31 < lft
  · go_enter Tryz.func146, Tryz.ntmps146
    go_wp2_with fail
    refine (RName_any nm _ hs).mono ?_
    rintro e w1 ⟨rfl, hx1⟩
    rw [HN.out]
    have hc := fun o u => hx1.cell (p := ⟨w.heap.size, o, none⟩) (u := u)
    simp at hc
    have hx1' := Lib.hid hx1
    clear hx1
    go_wp2_with fail
    go_ret
    exact ⟨ret_int (by rw [HC.out, if_pos (by rw [HI.out]; omega)]), ((Ext.refl w).alloc _).trans hx1'.out⟩
  by_cases h6 : wid < 1
  · go_enter Tryz.func146, Tryz.ntmps146
    go_wp2_with fail
    refine (RName_any nm _ hs).mono ?_
    rintro e w1 ⟨rfl, hx1⟩
    rw [HN.out]
    have hc := fun o u => hx1.cell (p := ⟨w.heap.size, o, none⟩) (u := u)
    simp at hc
    have hx1' := Lib.hid hx1
    clear hx1
    go_wp2_with fail
    go_ret
    exact ⟨ret_int (by rw [HC.out, if_pos (by rw [HI.out]; omega)]), ((Ext.refl w).alloc _).trans hx1'.out⟩
  by_cases h7 : 32 - lft < wid
  · go_enter Tryz.func146, Tryz.ntmps146
    go_wp2_with fail
    refine (RName_any nm _ hs).mono ?_
    rintro e w1 ⟨rfl, hx1⟩
    rw [HN.out]
    have hc := fun o u => hx1.cell (p := ⟨w.heap.size, o, none⟩) (u := u)
    simp at hc
    have hx1' := Lib.hid hx1
    clear hx1
    go_wp2_with fail
    go_ret
    exact ⟨ret_int (by rw [HC.out, if_pos (by rw [HI.out]; omega)]), ((Ext.refl w).alloc _).trans hx1'.out⟩
  by_cases e1 : al = 1
  · subst e1
    go_enter Tryz.func146, Tryz.ntmps146
    go_wp2_with fail
    refine (RName_any nm _ hs).mono ?_
    rintro e w1 ⟨rfl, hx1⟩
    rw [HN.out]
    have hc := fun o u => hx1.cell (p := ⟨w.heap.size, o, none⟩) (u := u)
    simp at hc
    have hx1' := Lib.hid hx1
    clear hx1
    go_wp2_with fail
    go_ret
    exact ⟨ret_int (by rw [HC.out, if_neg (by rw [HI.out]; omega), if_neg (by omega)]), ((Ext.refl w).alloc _).trans hx1'.out⟩
  have f1 : (al != 1) = true := by simpa using e1
  by_cases e2 : al = 2
  · subst e2
    go_enter Tryz.func146, Tryz.ntmps146
    go_wp2_with fail
    refine (RName_any nm _ hs).mono ?_
    rintro e w1 ⟨rfl, hx1⟩
    rw [HN.out]
    have hc := fun o u => hx1.cell (p := ⟨w.heap.size, o, none⟩) (u := u)
    simp at hc
    have hx1' := Lib.hid hx1
    clear hx1
    go_wp2_with fail
    go_ret
    exact ⟨ret_int (by rw [HC.out, if_neg (by rw [HI.out]; omega), if_neg (by omega)]), ((Ext.refl w).alloc _).trans hx1'.out⟩
  have f2 : (al != 2) = true := by simpa using e2
  by_cases e3 : al = 3
  · subst e3
    go_enter Tryz.func146, Tryz.ntmps146
    go_wp2_with fail
    refine (RName_any nm _ hs).mono ?_
    rintro e w1 ⟨rfl, hx1⟩
    rw [HN.out]
    have hc := fun o u => hx1.cell (p := ⟨w.heap.size, o, none⟩) (u := u)
    simp at hc
    have hx1' := Lib.hid hx1
    clear hx1
    go_wp2_with fail
    go_ret
    exact ⟨ret_int (by rw [HC.out, if_neg (by rw [HI.out]; omega), if_neg (by omega)]), ((Ext.refl w).alloc _).trans hx1'.out⟩
  have f3 : (al != 3) = true := by simpa using e3
  go_enter Tryz.func146, Tryz.ntmps146
  go_wp2_with fail
  refine (RName_any nm _ hs).mono ?_
  rintro e w1 ⟨rfl, hx1⟩
  rw [HN.out]
  have hc := fun o u => hx1.cell (p := ⟨w.heap.size, o, none⟩) (u := u)
  simp at hc
  have hx1' := Lib.hid hx1
  clear hx1
  go_wp2_with fail
  go_ret
  exact ⟨ret_int (by rw [HC.out, if_neg (by rw [HI.out]; omega), if_pos (by omega)]), ((Ext.refl w).alloc _).trans hx1'.out⟩
end Go.Proofs.YtagfedbdakmlgaaGreatDoor

/-! RegS -/
namespace Go.Proofs.YtagfedbdakmlgaaGreatDoor
set_option linter.unusedVariables false
set_option linter.unusedSimpArgs false
open Go.RowKit
theorem wp_call0 {P : Program} {o : Oper} {a : Act} {w : World} {K : Act → World → Prop} {Q : Exit → Act → World → Prop} {f : FuncId} {ts : Array TypeId} (ho : o.op = .call { callee := .value (.func f), args := #[], argTypes := ts })
    (hent : ∀ args w, (callFunc f args).run P w = .ok (.enter f args) w) {r : Value} (hc : Calls P f #[] w fun en w' => en = .returned r ∧ Ext w w') (h : ∀ w', Ext w w' → K (a.put o.dst r) w') : o.wp P a w K Q := by
  have h2 : Calls P f #[] w (fun
      | .returned u, w'' => K (a.put o.dst u) w''
      | .panicked chain, w'' => Q (.panic chain) a w''
      | .outgrown, _ => LetsOut Q) := hc.mono fun en w' hr => by
    obtain ⟨rfl, hk⟩ := hr
    exact h w' hk
  unfold Oper.wp execOp
  have hev : a.eval (.func f) = .func (.func f) #[] #[] := rfl
  simp only [ho]
  simp [resolve, invoke, hev, hent, Sem.run_bind, Deferred.ofValue]
  exact h2
set_option maxRecDepth 100000 in
set_option maxHeartbeats 2000000 in
theorem R10usable_any (r : Reg) (w : World) (hs : r.name.size ≤ 9223372036854775807) : Calls Tryz.prog 188 #[r.val] w fun e w' => e = .returned (.bool r.usable) ∧ Ext w w' := by
  have hR := fun w => R10Check_any r w hs
  have hU : r.usable = decide (r = Reg.default ∨ r.check = 0) := rfl
  have hq0 := fun (hd : r ≠ Reg.default) w => eql_reg_no hd w
  have hq1 := fun (hd : r = Reg.default) w => eql_reg_yes Reg.default w
  generalize r.check = E at *
  by_cases hE : E = 0
  · subst hE
    have HU : Hid (r.usable = true) := by show _ = _; rw [hU]; exact decide_eq_true (.inr rfl)
    clear hU hq0 hq1
    obtain ⟨nm, top, hgt, lft, wid, al, bot⟩ := r
    have HR := Lib.hid hR
    have HB := Lib.hid (Blk.new w 94 #[.string nm, .int .i64 top, .int .i64 hgt, .int .i64 lft, .int .i64 wid, .int .u8 al, .bool bot])
    clear hR
    unfold Reg.val at HR ⊢
    dsimp only at HR ⊢
    go_enter Tryz.func188, Tryz.ntmps188
    go_wp2_with fail
    refine wp_region_vals [.agg #[.string nm, .int .i64 top, .int .i64 hgt, .int .i64 lft, .int .i64 wid, .int .u8 al, .bool bot], .int .i64 0, .bool true, .bool true, undef, undef, undef, .bool true, .bool true] [(3, .agg #[.string nm, .int .i64 top, .int .i64 hgt, .int .i64 lft, .int .i64 wid, .int .u8 al, .bool bot]), (4, .int .i64 0), (5, .bool true), (6, .bool true), (7, undef), (8, undef), (9, undef), (10, .bool true), (2, .bool true)] (by kernel_rfl) (by kernel_rfl) (by kernel_rfl) rfl rfl ?_ ?_
    · intro i o ho a w' K' hx hn hd hk
      match i, ho with
      | 0, ho =>
        simp only [List.getElem?_toArray, List.getElem?_cons_zero, List.getElem?_cons_succ, Option.some.injEq] at ho
        subst ho
        refine want_none rfl ?_
        exact wp_loadB 94 (.tmp 1) rfl _ 94 _ _ ((hn 1 rfl).trans (show _ = Value.pointer (some ⟨w.heap.size, 0, none⟩) from rfl)) (HB.out.ext hx) Tryz.underlying94 rfl (by exact info_reg) (hk _ rfl w' (Ext.refl _))
      | 1, ho =>
        simp only [List.getElem?_toArray, List.getElem?_cons_zero, List.getElem?_cons_succ, Option.some.injEq] at ho
        subst ho
        refine want_none rfl ?_
        exact wp_call1s rfl (eval_of (hd 0 3 (.agg #[.string nm, .int .i64 top, .int .i64 hgt, .int .i64 lft, .int .i64 wid, .int .u8 al, .bool bot]) rfl rfl rfl)) Tryz.call146 (HR.out w') (hk _ rfl)
      | 2, ho =>
        simp only [List.getElem?_toArray, List.getElem?_cons_zero, List.getElem?_cons_succ, Option.some.injEq] at ho
        subst ho
        refine want_none rfl ?_
        exact wp_bin rfl (eval_of (hd 1 4 (.int .i64 0) rfl rfl rfl)) rfl (by first | (go_simp; done) | simp | (simp; omega)) (hk _ rfl w' (Ext.refl _))
      | 3, ho =>
        simp only [List.getElem?_toArray, List.getElem?_cons_zero, List.getElem?_cons_succ, Option.some.injEq] at ho
        subst ho
        refine want_none rfl ?_
        exact wp_move _ _ rfl (eval_of (hd 2 5 (.bool true) rfl rfl rfl)) (hk _ rfl w' (Ext.refl _))
      | 4, ho =>
        simp only [List.getElem?_toArray, List.getElem?_cons_zero, List.getElem?_cons_succ, Option.some.injEq] at ho
        subst ho
        refine want_no rfl rfl (hd 3 6 (.bool true) rfl rfl rfl) rfl ?_
        exact hk undef rfl w' (Ext.refl _)
      | 5, ho =>
        simp only [List.getElem?_toArray, List.getElem?_cons_zero, List.getElem?_cons_succ, Option.some.injEq] at ho
        subst ho
        refine want_no rfl rfl (hd 3 6 (.bool true) rfl rfl rfl) rfl ?_
        exact hk undef rfl w' (Ext.refl _)
      | 6, ho =>
        simp only [List.getElem?_toArray, List.getElem?_cons_zero, List.getElem?_cons_succ, Option.some.injEq] at ho
        subst ho
        refine want_no rfl rfl (hd 3 6 (.bool true) rfl rfl rfl) rfl ?_
        exact hk undef rfl w' (Ext.refl _)
      | 7, ho =>
        simp only [List.getElem?_toArray, List.getElem?_cons_zero, List.getElem?_cons_succ, Option.some.injEq] at ho
        subst ho
        refine want_none rfl ?_
        exact wp_pick _ _ _ true _ rfl (eval_of (hd 3 6 (.bool true) rfl rfl rfl)) (by exact rfl) (hk _ rfl w' (Ext.refl _))
      | 8, ho =>
        simp only [List.getElem?_toArray, List.getElem?_cons_zero, List.getElem?_cons_succ, Option.some.injEq] at ho
        subst ho
        refine want_none rfl ?_
        exact wp_assignx _ _ rfl (eval_of (hd 7 10 (.bool true) rfl rfl rfl)) (hk _ rfl w' (Ext.refl _))
      | i + 9, ho => simp at ho
    intro w9 hx9
    simp only [Act.put, List.foldl_cons, List.foldl_nil, List.setIfInBounds_toArray, List.set_cons_zero, List.set_cons_succ]
    go_wp2_with fail
    go_ret
    exact ⟨by rw [HU.out]; rfl, ((Ext.refl w).alloc _).trans hx9⟩
  by_cases hd : r = Reg.default
  · have HU : Hid (r.usable = true) := by show _ = _; rw [hU]; exact decide_eq_true (.inl hd)
    have hq := hq1 hd
    clear hU hq0 hq1 hs
    subst hd
    have HR := Lib.hid hR
    have HB := Lib.hid (Blk.new w 94 #[.string ByteArray.empty, .int .i64 11, .int .i64 4, .int .i64 0, .int .i64 32, .int .u8 2, .bool true])
    clear hR
    unfold Reg.val Reg.default at HR hq ⊢
    unfold Reg.default at HU
    dsimp only at HR hq HU ⊢
    go_enter Tryz.func188, Tryz.ntmps188
    go_wp2_with fail
    refine wp_region_vals [.agg #[.string ByteArray.empty, .int .i64 11, .int .i64 4, .int .i64 0, .int .i64 32, .int .u8 2, .bool true], .int .i64 E, .bool false, .bool false, .agg #[.string ByteArray.empty, .int .i64 11, .int .i64 4, .int .i64 0, .int .i64 32, .int .u8 2, .bool true], .agg #[.string ByteArray.empty, .int .i64 11, .int .i64 4, .int .i64 0, .int .i64 32, .int .u8 2, .bool true], .bool true, .bool true, .bool true] [(3, .agg #[.string ByteArray.empty, .int .i64 11, .int .i64 4, .int .i64 0, .int .i64 32, .int .u8 2, .bool true]), (4, .int .i64 E), (5, .bool false), (6, .bool false), (7, .agg #[.string ByteArray.empty, .int .i64 11, .int .i64 4, .int .i64 0, .int .i64 32, .int .u8 2, .bool true]), (8, .agg #[.string ByteArray.empty, .int .i64 11, .int .i64 4, .int .i64 0, .int .i64 32, .int .u8 2, .bool true]), (9, .bool true), (10, .bool true), (2, .bool true)] (by kernel_rfl) (by kernel_rfl) (by kernel_rfl) rfl rfl ?_ ?_
    · intro i o ho a w' K' hx hn hd hk
      match i, ho with
      | 0, ho =>
        simp only [List.getElem?_toArray, List.getElem?_cons_zero, List.getElem?_cons_succ, Option.some.injEq] at ho
        subst ho
        refine want_none rfl ?_
        exact wp_loadB 94 (.tmp 1) rfl _ 94 _ _ ((hn 1 rfl).trans (show _ = Value.pointer (some ⟨w.heap.size, 0, none⟩) from rfl)) (HB.out.ext hx) Tryz.underlying94 rfl (by exact info_reg) (hk _ rfl w' (Ext.refl _))
      | 1, ho =>
        simp only [List.getElem?_toArray, List.getElem?_cons_zero, List.getElem?_cons_succ, Option.some.injEq] at ho
        subst ho
        refine want_none rfl ?_
        exact wp_call1s rfl (eval_of (hd 0 3 (.agg #[.string ByteArray.empty, .int .i64 11, .int .i64 4, .int .i64 0, .int .i64 32, .int .u8 2, .bool true]) rfl rfl rfl)) Tryz.call146 (HR.out w') (hk _ rfl)
      | 2, ho =>
        simp only [List.getElem?_toArray, List.getElem?_cons_zero, List.getElem?_cons_succ, Option.some.injEq] at ho
        subst ho
        refine want_none rfl ?_
        exact wp_bin rfl (eval_of (hd 1 4 (.int .i64 E) rfl rfl rfl)) rfl (by first | (go_simp; done) | simp | (simp; omega)) (hk _ rfl w' (Ext.refl _))
      | 3, ho =>
        simp only [List.getElem?_toArray, List.getElem?_cons_zero, List.getElem?_cons_succ, Option.some.injEq] at ho
        subst ho
        refine want_none rfl ?_
        exact wp_move _ _ rfl (eval_of (hd 2 5 (.bool false) rfl rfl rfl)) (hk _ rfl w' (Ext.refl _))
      | 4, ho =>
        simp only [List.getElem?_toArray, List.getElem?_cons_zero, List.getElem?_cons_succ, Option.some.injEq] at ho
        subst ho
        refine want_yes rfl rfl (hd 3 6 (.bool false) rfl rfl rfl) rfl ?_
        exact wp_loadB 94 (.tmp 1) rfl _ 94 _ _ ((hn 1 rfl).trans (show _ = Value.pointer (some ⟨w.heap.size, 0, none⟩) from rfl)) (HB.out.ext hx) Tryz.underlying94 rfl (by exact info_reg) (hk _ rfl w' (Ext.refl _))
      | 5, ho =>
        simp only [List.getElem?_toArray, List.getElem?_cons_zero, List.getElem?_cons_succ, Option.some.injEq] at ho
        subst ho
        refine want_yes rfl rfl (hd 3 6 (.bool false) rfl rfl rfl) rfl ?_
        exact wp_call0 rfl  Tryz.call186 (R10Default_any w') (hk _ rfl)
      | 6, ho =>
        simp only [List.getElem?_toArray, List.getElem?_cons_zero, List.getElem?_cons_succ, Option.some.injEq] at ho
        subst ho
        refine want_yes rfl rfl (hd 3 6 (.bool false) rfl rfl rfl) rfl ?_
        exact wp_bin rfl (eval_of (hd 4 7 (.agg #[.string ByteArray.empty, .int .i64 11, .int .i64 4, .int .i64 0, .int .i64 32, .int .u8 2, .bool true]) rfl rfl rfl)) (eval_of (hd 5 8 (.agg #[.string ByteArray.empty, .int .i64 11, .int .i64 4, .int .i64 0, .int .i64 32, .int .u8 2, .bool true]) rfl rfl rfl)) (by first | (go_simp; done) | (go_simp; exact hq w') | (go_simp; simp [hq]; done) | go_simp) (hk _ rfl w' (Ext.refl _))
      | 7, ho =>
        simp only [List.getElem?_toArray, List.getElem?_cons_zero, List.getElem?_cons_succ, Option.some.injEq] at ho
        subst ho
        refine want_none rfl ?_
        exact wp_pick _ _ _ false _ rfl (eval_of (hd 3 6 (.bool false) rfl rfl rfl)) (by exact (eval_of (hd 6 9 (.bool true) rfl rfl rfl))) (hk _ rfl w' (Ext.refl _))
      | 8, ho =>
        simp only [List.getElem?_toArray, List.getElem?_cons_zero, List.getElem?_cons_succ, Option.some.injEq] at ho
        subst ho
        refine want_none rfl ?_
        exact wp_assignx _ _ rfl (eval_of (hd 7 10 (.bool true) rfl rfl rfl)) (hk _ rfl w' (Ext.refl _))
      | i + 9, ho => simp at ho
    intro w9 hx9
    simp only [Act.put, List.foldl_cons, List.foldl_nil, List.setIfInBounds_toArray, List.set_cons_zero, List.set_cons_succ]
    go_wp2_with fail
    go_ret
    exact ⟨by rw [HU.out]; rfl, ((Ext.refl w).alloc _).trans hx9⟩
  · have HU : Hid (r.usable = false) := by show _ = _; rw [hU]; exact decide_eq_false (by simp [hd, hE])
    have hq := hq0 hd
    clear hU hq0 hq1 hs hd
    obtain ⟨nm, top, hgt, lft, wid, al, bot⟩ := r
    have HR := Lib.hid hR
    have HB := Lib.hid (Blk.new w 94 #[.string nm, .int .i64 top, .int .i64 hgt, .int .i64 lft, .int .i64 wid, .int .u8 al, .bool bot])
    clear hR
    unfold Reg.val at HR hq ⊢
    unfold Reg.default at hq
    dsimp only at HR hq ⊢
    go_enter Tryz.func188, Tryz.ntmps188
    go_wp2_with fail
    refine wp_region_vals [.agg #[.string nm, .int .i64 top, .int .i64 hgt, .int .i64 lft, .int .i64 wid, .int .u8 al, .bool bot], .int .i64 E, .bool false, .bool false, .agg #[.string nm, .int .i64 top, .int .i64 hgt, .int .i64 lft, .int .i64 wid, .int .u8 al, .bool bot], .agg #[.string ByteArray.empty, .int .i64 11, .int .i64 4, .int .i64 0, .int .i64 32, .int .u8 2, .bool true], .bool false, .bool false, .bool false] [(3, .agg #[.string nm, .int .i64 top, .int .i64 hgt, .int .i64 lft, .int .i64 wid, .int .u8 al, .bool bot]), (4, .int .i64 E), (5, .bool false), (6, .bool false), (7, .agg #[.string nm, .int .i64 top, .int .i64 hgt, .int .i64 lft, .int .i64 wid, .int .u8 al, .bool bot]), (8, .agg #[.string ByteArray.empty, .int .i64 11, .int .i64 4, .int .i64 0, .int .i64 32, .int .u8 2, .bool true]), (9, .bool false), (10, .bool false), (2, .bool false)] (by kernel_rfl) (by kernel_rfl) (by kernel_rfl) rfl rfl ?_ ?_
    · intro i o ho a w' K' hx hn hd hk
      match i, ho with
      | 0, ho =>
        simp only [List.getElem?_toArray, List.getElem?_cons_zero, List.getElem?_cons_succ, Option.some.injEq] at ho
        subst ho
        refine want_none rfl ?_
        exact wp_loadB 94 (.tmp 1) rfl _ 94 _ _ ((hn 1 rfl).trans (show _ = Value.pointer (some ⟨w.heap.size, 0, none⟩) from rfl)) (HB.out.ext hx) Tryz.underlying94 rfl (by exact info_reg) (hk _ rfl w' (Ext.refl _))
      | 1, ho =>
        simp only [List.getElem?_toArray, List.getElem?_cons_zero, List.getElem?_cons_succ, Option.some.injEq] at ho
        subst ho
        refine want_none rfl ?_
        exact wp_call1s rfl (eval_of (hd 0 3 (.agg #[.string nm, .int .i64 top, .int .i64 hgt, .int .i64 lft, .int .i64 wid, .int .u8 al, .bool bot]) rfl rfl rfl)) Tryz.call146 (HR.out w') (hk _ rfl)
      | 2, ho =>
        simp only [List.getElem?_toArray, List.getElem?_cons_zero, List.getElem?_cons_succ, Option.some.injEq] at ho
        subst ho
        refine want_none rfl ?_
        exact wp_bin rfl (eval_of (hd 1 4 (.int .i64 E) rfl rfl rfl)) rfl (by first | (go_simp; done) | simp | (simp; omega)) (hk _ rfl w' (Ext.refl _))
      | 3, ho =>
        simp only [List.getElem?_toArray, List.getElem?_cons_zero, List.getElem?_cons_succ, Option.some.injEq] at ho
        subst ho
        refine want_none rfl ?_
        exact wp_move _ _ rfl (eval_of (hd 2 5 (.bool false) rfl rfl rfl)) (hk _ rfl w' (Ext.refl _))
      | 4, ho =>
        simp only [List.getElem?_toArray, List.getElem?_cons_zero, List.getElem?_cons_succ, Option.some.injEq] at ho
        subst ho
        refine want_yes rfl rfl (hd 3 6 (.bool false) rfl rfl rfl) rfl ?_
        exact wp_loadB 94 (.tmp 1) rfl _ 94 _ _ ((hn 1 rfl).trans (show _ = Value.pointer (some ⟨w.heap.size, 0, none⟩) from rfl)) (HB.out.ext hx) Tryz.underlying94 rfl (by exact info_reg) (hk _ rfl w' (Ext.refl _))
      | 5, ho =>
        simp only [List.getElem?_toArray, List.getElem?_cons_zero, List.getElem?_cons_succ, Option.some.injEq] at ho
        subst ho
        refine want_yes rfl rfl (hd 3 6 (.bool false) rfl rfl rfl) rfl ?_
        exact wp_call0 rfl  Tryz.call186 (R10Default_any w') (hk _ rfl)
      | 6, ho =>
        simp only [List.getElem?_toArray, List.getElem?_cons_zero, List.getElem?_cons_succ, Option.some.injEq] at ho
        subst ho
        refine want_yes rfl rfl (hd 3 6 (.bool false) rfl rfl rfl) rfl ?_
        exact wp_bin rfl (eval_of (hd 4 7 (.agg #[.string nm, .int .i64 top, .int .i64 hgt, .int .i64 lft, .int .i64 wid, .int .u8 al, .bool bot]) rfl rfl rfl)) (eval_of (hd 5 8 (.agg #[.string ByteArray.empty, .int .i64 11, .int .i64 4, .int .i64 0, .int .i64 32, .int .u8 2, .bool true]) rfl rfl rfl)) (by first | (go_simp; done) | (go_simp; exact hq w') | (go_simp; simp [hq]; done) | go_simp) (hk _ rfl w' (Ext.refl _))
      | 7, ho =>
        simp only [List.getElem?_toArray, List.getElem?_cons_zero, List.getElem?_cons_succ, Option.some.injEq] at ho
        subst ho
        refine want_none rfl ?_
        exact wp_pick _ _ _ false _ rfl (eval_of (hd 3 6 (.bool false) rfl rfl rfl)) (by exact (eval_of (hd 6 9 (.bool false) rfl rfl rfl))) (hk _ rfl w' (Ext.refl _))
      | 8, ho =>
        simp only [List.getElem?_toArray, List.getElem?_cons_zero, List.getElem?_cons_succ, Option.some.injEq] at ho
        subst ho
        refine want_none rfl ?_
        exact wp_assignx _ _ rfl (eval_of (hd 7 10 (.bool false) rfl rfl rfl)) (hk _ rfl w' (Ext.refl _))
      | i + 9, ho => simp at ho
    intro w9 hx9
    simp only [Act.put, List.foldl_cons, List.foldl_nil, List.setIfInBounds_toArray, List.set_cons_zero, List.set_cons_succ]
    go_wp2_with fail
    go_ret
    exact ⟨by rw [HU.out]; rfl, ((Ext.refl w).alloc _).trans hx9⟩
theorem R10find_ret {w' : World} {g : Nat} {r : Reg} {b : Bool} {tmps : Array Value} (hB : Blk w' g 94 #[.string r.name, .int .i64 r.top, .int .i64 r.height, .int .i64 r.left, .int .i64 r.width, .int .u8 r.align, .bool r.bottom])
    (h4 : tmps.getD 4 undef = .pointer (some ⟨g, 0, none⟩)) (h5 : tmps.getD 5 undef = .bool b) : (results Tryz.f148 tmps).run Tryz.prog w' = .ok (.tuple #[r.val, .bool b]) w' := by
  rw [results_B_tmp (P := Tryz.prog) Tryz.results148 h4 hB Tryz.underlying94 rfl info_reg, h5]
  rfl
set_option maxHeartbeats 1000000 in
theorem R10Find_any (A : Option Addr) (n c : Nat) (l : List Reg) (nm : ByteArray) (w : World) (hl : RegsAt w A n l) (hn : n ≤ 9223372036854775807) :
    Calls Tryz.prog 148 #[.slice A n c, .string nm] w fun e w' => e = .returned (.tuple #[((findR l nm).getD Reg.zero).val, .bool (findR l nm).isSome]) ∧ Ext w w' := by
  by_cases h0 : nm.toList = []
  · have HF : Hid (findR l nm = some Reg.default) := by show findR l nm = _; unfold findR; rw [if_pos h0]
    have h0' : nm.toList.isEmpty = true := by rw [h0]; rfl
    clear h0
    go_enter Tryz.func148, Tryz.ntmps148
    go_wp2_with fail
    refine (R10Default_any _).mono ?_
    rintro e w1 ⟨rfl, hx1⟩
    unfold Reg.val Reg.default
    dsimp only
    have hB := Lib.hid (Blk.ext (Blk.new w _ _) hx1)
    go_wp2_with (refine wpList_storeB rfl 94 (.tmp 4) (.tmp 10) rfl w.heap.size 94 _ _ (by exact rfl) (by exact rfl) hB.out (by exact rfl) (by exact info_reg) (by simp [Value.oneCell']) ?_)
    refine bodyPost_ret (v := .tuple #[Reg.default.val, .bool true]) ?_ rfl ⟨?_, ?_⟩
    · exact R10find_ret (r := Reg.default) (hB.out.put _) rfl rfl
    · rw [HF.out]; rfl
    · exact (((Ext.refl w).alloc _).trans hx1).put (Nat.le_refl _) _ _
  · have HF : Hid (findR l nm = l.find? (fun r => r.name.toList == nm.toList)) := by show findR l nm = _; unfold findR; rw [if_neg h0]
    have h0' : nm.toList.isEmpty = false := by cases h : nm.toList with
      | nil => exact absurd h h0
      | cons a b => rfl
    clear h0
    have HL := Lib.hid hl
    clear hl
    go_enter Tryz.func148, Tryz.ntmps148
    go_wp2_with fail
    go_loopw [13] (fun i wr => FindRel w A n l nm i wr) (fun i _ => n - (intOf i).toNat)
    case atStart => exact ⟨0, Nat.zero_le _, rfl, Ext.refl _, rfl⟩
    case round =>
      obtain ⟨k, hk, rfl, hx, hp⟩ := hrel
      have HP := Lib.hid hp
      clear hp
      have hB := Lib.hid (Blk.ext (Blk.new w _ _) hx)
      have hxw : Ext w wr := ((Ext.refl w).alloc _).trans hx
      by_cases hlt : k < n
      · obtain ⟨b, off, r, rfl, hr, hC⟩ := (HL.out.ext hxw).at_ hlt
        have HR := Lib.hid hr
        clear hr
        obtain ⟨c0, c1, c2, c3, c4, c5, c6⟩ := hC
        have hdrop : Hid (l.drop k = r :: l.drop (k + 1)) := by
          show l.drop k = _
          have hkl := (List.getElem?_eq_some_iff.1 HR.out).1
          rw [List.drop_eq_getElem_cons hkl]
          congr 1
          exact (List.getElem?_eq_some_iff.1 HR.out).2
        by_cases hq : (r.name.toList == nm.toList) = true
        · go_wp2_with (refine wpList_storeB rfl 94 (.tmp 4) (.tmp 21) rfl w.heap.size 94 _ _ (by exact rfl) (by exact rfl) (hB.out.alloc _) (by exact rfl) (by exact info_reg) (by simp [Value.oneCell']) ?_)
          refine bodyPost_ret (v := .tuple #[r.val, .bool true]) ?_ rfl ⟨?_, ?_⟩
          · exact R10find_ret (r := r) ((hB.out.alloc _).put _) rfl rfl
          · rw [HF.out, HP.out, hdrop.out, List.find?_cons, hq]; rfl
          · exact (hxw.alloc _).put (Nat.le_refl _) _ _
        · have hq' : (r.name.toList == nm.toList) = false := by simpa using hq
          clear hq
          go_wp2_with fail
          refine ⟨⟨k + 1, by omega, by go_num, hx.alloc _, ?_⟩, by simp [intOf]; omega⟩
          rw [HP.out, hdrop.out, List.find?_cons, hq']
      · have hend : Hid (l.drop k = []) := List.drop_eq_nil_of_le (by rw [HL.out.len]; omega)
        go_wp2_with (refine wpList_storeB rfl 94 (.tmp 4) (.tmp 23) rfl w.heap.size 94 _ _ (by exact rfl) (by exact rfl) hB.out (by exact rfl) (by exact info_reg) (by simp [Value.oneCell']) ?_)
        refine bodyPost_ret (v := .tuple #[Reg.zero.val, .bool false]) ?_ rfl ⟨?_, ?_⟩
        · exact R10find_ret (r := Reg.zero) (hB.out.put _) rfl rfl
        · rw [HF.out, HP.out, hend.out]; rfl
        · exact hxw.put (Nat.le_refl _) _ _
set_option maxRecDepth 100000 in
set_option maxHeartbeats 4000000 in
theorem R10CheckList_any (A : Option Addr) (n c : Nat) (l : List Reg) (w : World) (hl : RegsAt w A n l) (hn : n ≤ 9223372036854775807) (hs : RegsSmall l) :
    Calls Tryz.prog 100 #[.slice A n c] w fun en w' => en = .returned (.int .i64 (regsErr l)) ∧ Ext w w' := by
  have HL := Lib.hid hl
  have HLn := Lib.hid hl.len
  have HSm := Lib.hid hs
  have HF : Hid (regsErr l = if 16 < l.length then 9 else regsLoop none l) := rfl
  rw [hl.len] at HF
  clear hl hs
  by_cases h16 : 16 < n
  · have h16i : (16 : Int) < (n : Int) := by omega
    go_enter Tryz.func100, Tryz.ntmps100
    go_wp2_with fail
    go_ret
    exact ⟨ret_int (by rw [HF.out, if_pos h16]), Ext.refl _⟩
  have h16i : ¬ (16 : Int) < (n : Int) := by omega
  have HG := Lib.hid (HF.out.trans (if_neg h16))
  go_enter Tryz.func100, Tryz.ntmps100
  go_wp2_with fail
  go_loopw [11] (fun i wr => ListRel w n l i wr) (fun i _ => n - (intOf i).toNat)
  case atStart => exact ⟨0, Nat.zero_le _, rfl, Ext.refl _, by simp [prevN]⟩
  case round =>
    obtain ⟨k, hk, rfl, hx, hP⟩ := hrel
    have HXr := Lib.hid hx
    by_cases hlt : k < n
    · obtain ⟨b, off, r, rfl, hr, c0, c1, c2, c3, c4, c5, c6⟩ := (HL.out.ext hx).at_ hlt
      have HS := Lib.hid (regs_step hr hP)
      have HPv := Lib.hid (fun h0 => prev_reg (HL.out.ext hx) (k := k) hk h0)
      have HCk := Lib.hid (fun w' => R10Check_any r w' (HSm.out r (List.mem_of_getElem? hr)))
      clear hr hP
      have HBc := Lib.hid (Blk.new wr 94 #[.string r.name, .int .i64 r.top, .int .i64 r.height, .int .i64 r.left, .int .i64 r.width, .int .u8 r.align, .bool r.bottom])
      have HXc := Lib.hid ((Ext.refl wr).alloc (.cells #[.string r.name, .int .i64 r.top, .int .i64 r.height, .int .i64 r.left, .int .i64 r.width, .int .u8 r.align, .bool r.bottom] 94))
      unfold Reg.val at HCk
      go_wp2_with (refine wpList_loadB rfl 94 (.tmp 4) rfl wr.heap.size 94 _ _ (by exact rfl) (by exact HBc.out) Tryz.underlying94 rfl (by exact info_reg) ?_)
      refine (HCk.out _).mono ?_
      rintro en w2 ⟨rfl, hx2⟩
      have HX2 := Lib.hid (HXc.out.trans hx2)
      have HB2 := Lib.hid (HBc.out.ext hx2)
      have hcb := fun o => HB2.out.cell o
      clear hx2 c0 c1 c2 c3 c4 c5 c6 HBc HXc
      by_cases hce : r.check = 0
      case neg =>
        have hne : (r.check != 0) = true := by simpa using hce
        have HC := Lib.hid hce
        clear hce
        go_wp2_with fail
        go_ret
        exact ⟨ret_int (by rw [HG.out, HS.out.1 HC.out]), hx.trans HX2.out⟩
      rw [hce]
      have HC := Lib.hid hce
      clear hce
      by_cases hk0 : k = 0
      · subst hk0
        have HN := Lib.hid (HS.out.2.2.2 HC.out (by simp [prevN]) (by simp [prevN]))
        go_wp2_with fail
        go_quiet (fail)
        go_wp2_with fail
        go_quiet (fail)
        go_wp2_with fail
        exact ⟨⟨1, by omega, by go_num, (hx.trans HX2.out).drewN _, HN.out⟩, by simp [intOf]; omega⟩
      obtain ⟨b', off', q, hA, p0, hq⟩ := HPv.out (by omega)
      cases hA
      have hki : (0 : Int) < (k : Int) := by omega
      have hkp : 0 < k := by omega
      have hk1 : ((k : Int) - 1).toNat = k - 1 := by omega
      have hk2 : (k : Int) - 1 = ((k - 1 : Nat) : Int) := by omega
      have pp0 := HX2.out.cell p0
      have HQ := Lib.hid hq
      clear p0 hq
      by_cases he : q = r.name
      · have he' : (r.name.toList == q.toList) = true := by rw [toList_eq_iff]; simpa using he.symm
        have HE := Lib.hid (HS.out.2.1 HC.out (by rw [HQ.out, he]))
        clear he
        go_wp2_with fail
        go_quiet (fail)
        go_wp2_with fail
        go_ret
        exact ⟨ret_int (by rw [HG.out, HE.out]), (hx.trans HX2.out).drewN _⟩
      have he' : (r.name.toList == q.toList) = false := by rw [toList_eq_iff]; simpa using fun h => he h.symm
      have HNe : Hid (prevN l k ≠ some r.name) := by show _ ≠ _; rw [HQ.out]; simpa using he
      clear he
      cases hl2 : Op.bytesLess r.name.toList q.toList
      case true =>
        have HE := Lib.hid (HS.out.2.2.1 HC.out HNe.out (by rw [HQ.out]; simp [hl2]))
        go_wp2_with fail
        go_quiet (fail)
        go_wp2_with fail
        go_quiet (fail)
        go_wp2_with fail
        go_ret
        exact ⟨ret_int (by rw [HG.out, HE.out]), ((hx.trans HX2.out).drewN _).drewN _⟩
      case false =>
        have HE := Lib.hid (HS.out.2.2.2 HC.out HNe.out (by rw [HQ.out]; simp [hl2]))
        go_wp2_with fail
        go_quiet (fail)
        go_wp2_with fail
        go_quiet (fail)
        go_wp2_with fail
        exact ⟨⟨k + 1, by omega, by go_num, (hx.trans HX2.out).drewN _, HE.out⟩, by simp [intOf]; omega⟩
    · have hkn : k = n := by omega
      subst hkn
      have HE := Lib.hid (hP.trans (by rw [List.drop_eq_nil_of_le (by have := HLn.out; omega)]; rfl) : regsLoop none l = 0)
      clear hP
      go_wp2_with fail
      go_ret
      exact ⟨ret_int (by rw [HG.out, HE.out]), hx⟩
end Go.Proofs.YtagfedbdakmlgaaGreatDoor

/-! PlaceR -/
namespace Go.Proofs.YtagfedbdakmlgaaGreatDoor
set_option linter.unusedVariables false
set_option linter.unusedSimpArgs false
open Go.RowKit
set_option maxRecDepth 100000 in
set_option maxHeartbeats 4000000 in
theorem R10Place_any (r : Reg) (A : Option Addr) (n c : Nat) (lens : List Int) (w : World) (hs : r.name.size ≤ 9223372036854775807) (hl : IntsAt w A n lens) (hn : n ≤ 9223372036854775807) :
    Calls Tryz.prog 151 #[r.val, .slice A n c] w (PlacePost r lens w) := by
  have hU := fun w => R10usable_any r w hs
  have hlen := hl.len
  cases hu : r.usable
  · have HP : Hid (r.place lens = 1) := by show r.place lens = 1; unfold Reg.place; rw [if_pos hu]
    have HU := Lib.hid hU
    have Hu := Lib.hid hu
    clear hU hu hlen hl
    obtain ⟨nm, top, hgt, lft, wid, al, bot⟩ := r
    unfold Reg.val at HU ⊢
    dsimp only at HU ⊢
    go_enter Tryz.func151, Tryz.ntmps151
    go_wp2_with fail
    refine (HU.out _).mono ?_
    rintro e w1 ⟨rfl, hx1⟩
    rw [Hu.out]
    go_wp2_with fail
    go_ret2
    exact placePost_err HP.out (by decide) rfl (((Ext.refl w).alloc _).trans hx1)
  · have hb := usable_bounds hu
    obtain ⟨⟨ht0, ht1⟩, ⟨hh0, hh1⟩, ⟨hl0, hl1⟩, ⟨hw0, hw1⟩⟩ := hb
    by_cases hgt9 : r.height < n
    · have HP : Hid (r.place lens = 9) := by show r.place lens = 9; unfold Reg.place; rw [if_neg (by rw [hu]; simp), if_pos (by rw [hlen]; exact hgt9)]
      have HU := Lib.hid hU
      have Hu := Lib.hid hu
      clear hU hu hlen hl
      obtain ⟨nm, top, hgt, lft, wid, al, bot⟩ := r
      unfold Reg.val at HU ⊢
      dsimp only at *
      go_enter Tryz.func151, Tryz.ntmps151
      go_wp2_with fail
      refine (HU.out _).mono ?_
      rintro e w1 ⟨rfl, hx1⟩
      rw [Hu.out]
      have hc := hx1.bcell.1 w.heap.size
      simp at hc
      go_wp2_with fail
      go_ret2
      exact placePost_err HP.out (by decide) rfl (((Ext.refl w).alloc _).trans hx1)
    · have hnh : (n : Int) ≤ r.height := by omega
      have hn15 : n ≤ 15 := by omega
      have HP : Hid (r.place lens = r.lensErr lens) := by show r.place lens = _; unfold Reg.place; rw [if_neg (by rw [hu]; simp), if_neg (by rw [hlen]; omega)]
      have HLn := Lib.hid hlen
      have HL := Lib.hid hl
      have HU := Lib.hid hU
      have Hu := Lib.hid hu
      clear hU hu hlen hl hgt9
      obtain ⟨i0, hi0, hz0, hz1, hz2⟩ := info_parts info_spot
      obtain ⟨nm, top, hgt, lft, wid, al, bot⟩ := r
      unfold Reg.val at HU ⊢
      dsimp only at *
      cases bot
      · go_enter Tryz.func151, Tryz.ntmps151
        go_wp2_with fail
        refine (HU.out _).mono ?_
        rintro e w1 ⟨rfl, hx1⟩
        rw [Hu.out]
        have hc := hx1.bcell.1 w.heap.size
        simp at hc
        go_wp2_with fail
        clear hc
        go_loopw [6, 20] (fun v i wr => PlaceRelI w #[.string nm, .int .i64 top, .int .i64 hgt, .int .i64 lft, .int .i64 wid, .int .u8 al, .bool false] ⟨nm, top, hgt, lft, wid, al, false⟩ top n lens v i wr) (fun _ i _ => n - (intOf i).toNat)
        case atStart => exact ⟨0, Nat.zero_le _, rfl, hx1, rfl, ⟨by simp [Reg.spots], .inl ⟨rfl, rfl⟩⟩⟩
        case round =>
          obtain ⟨k, hk, rfl, hx, hp, hown⟩ := hrel
          have HPr := Lib.hid hp
          clear hp
          have hB := Lib.hid (Blk.ext (Blk.new w _ _) hx)
          have hxw : Ext w wr := ((Ext.refl w).alloc _).trans hx
          have hc := fun o => hB.out.cell o
          have hsz : w.heap.size < wr.heap.size := hB.out.lt
          have hne : w.heap.size ≠ wr.heap.size := by omega
          by_cases hlt : k < n
          · obtain ⟨b, off, x, rfl, hxx, hcell⟩ := (HL.out.ext hxw).cell hlt
            have HX := Lib.hid hxx
            have HE := Lib.hid (lensErr_drop ⟨nm, top, hgt, lft, wid, al, false⟩ lens k x hxx)
            have HT := Lib.hid (take_snoc' lens k x hxx)
            have hkl : Hid ((lens.take k).length = k) := by show (lens.take k).length = k; rw [List.length_take, HLn.out]; omega
            clear hxx
            by_cases hneg : x < 0
            · go_wp2_with fail
              go_ret2
              exact placePost_err (k := 2) (by rw [HP.out, HPr.out, HE.out, if_pos (by omega)]) (by decide) rfl hxw
            · by_cases hwide : wid < x
              · go_wp2_with fail
                go_ret2
                exact placePost_err (k := 11) (by rw [HP.out, HPr.out, HE.out, if_neg (by omega), if_pos (by omega)]) (by decide) rfl hxw
              · have HS := Lib.hid (spots_snoc ⟨nm, top, hgt, lft, wid, al, false⟩ top (lens.take k) 0 x)
                have hE2 : Hid (Reg.lensErr ⟨nm, top, hgt, lft, wid, al, false⟩ lens = Reg.lensErr ⟨nm, top, hgt, lft, wid, al, false⟩ (lens.drop (k + 1))) := by
                  show _ = _
                  rw [HPr.out, HE.out, if_neg (by omega), if_neg (by omega)]
                by_cases ha3 : (al == 3) = true
                · have hal : al = 3 := by simpa using ha3
                  have HSp : Hid (Reg.spot ⟨nm, top, hgt, lft, wid, al, false⟩ top (0 + (lens.take k).length) x = ⟨top + k, lft + (wid - x), x⟩) := by
                    show _ = _
                    rw [hkl.out]; unfold Reg.spot; simp [hal]
                  clear hal
                  go_wp2_with (at_builtin; refine wpList_append1 rfl (.tmp 73) (.tmp 75) 161 rfl info_spot Tryz.underlying161 rfl (by decide) ((hown.alloc _).alloc _) (by exact rfl) (wr.heap.size + 1) _ (by exact rfl) (by exact Blk.new' (by simp)) (by exact rfl) (by simp [Value.oneCell']) (by omega) (by simp [maxLen]; omega) (by simp; omega) ?_; intro v' w' hown' hgr)
                  refine ⟨⟨k + 1, by omega, by go_num, ((hx.alloc _).alloc _).grown hgr (fun q hq => by have := own_lt hown q hq; simpa using this), hE2.out, ?_⟩, by simp [intOf]; omega⟩
                  rw [HT.out, HS.out, List.flatMap_append, HSp.out]
                  exact hown'
                · have ha3' : (al == 3) = false := by simpa using ha3
                  clear ha3
                  have hn3 : ¬ al = 3 := by simpa using ha3'
                  by_cases ha2 : (al == 2) = true
                  · have hal : al = 2 := by simpa using ha2
                    have HSp : Hid (Reg.spot ⟨nm, top, hgt, lft, wid, al, false⟩ top (0 + (lens.take k).length) x = ⟨top + k, lft + (wid - x) / 2, x⟩) := by
                      show _ = _
                      rw [hkl.out]; unfold Reg.spot; simp [hal]
                    clear hal hn3
                    go_wp2_with (at_builtin; refine wpList_append1 rfl (.tmp 73) (.tmp 75) 161 rfl info_spot Tryz.underlying161 rfl (by decide) ((hown.alloc _).alloc _) (by exact rfl) (wr.heap.size + 1) _ (by exact rfl) (by exact Blk.new' (by simp)) (by exact rfl) (by simp [Value.oneCell']) (by omega) (by simp [maxLen]; omega) (by simp; omega) ?_; intro v' w' hown' hgr)
                    refine ⟨⟨k + 1, by omega, by go_num, ((hx.alloc _).alloc _).grown hgr (fun q hq => by have := own_lt hown q hq; simpa using this), hE2.out, ?_⟩, by simp [intOf]; omega⟩
                    rw [HT.out, HS.out, List.flatMap_append, HSp.out]
                    exact hown'
                  · have ha2' : (al == 2) = false := by simpa using ha2
                    clear ha2
                    have hn2 : ¬ al = 2 := by simpa using ha2'
                    have HSp : Hid (Reg.spot ⟨nm, top, hgt, lft, wid, al, false⟩ top (0 + (lens.take k).length) x = ⟨top + k, lft, x⟩) := by
                      show _ = _
                      rw [hkl.out]; unfold Reg.spot; simp [hn3, hn2]
                    clear hn2 hn3
                    go_wp2_with (at_builtin; refine wpList_append1 rfl (.tmp 73) (.tmp 75) 161 rfl info_spot Tryz.underlying161 rfl (by decide) ((hown.alloc _).alloc _) (by exact rfl) (wr.heap.size + 1) _ (by exact rfl) (by exact Blk.new' (by simp)) (by exact rfl) (by simp [Value.oneCell']) (by omega) (by simp [maxLen]; omega) (by simp; omega) ?_; intro v' w' hown' hgr)
                    refine ⟨⟨k + 1, by omega, by go_num, ((hx.alloc _).alloc _).grown hgr (fun q hq => by have := own_lt hown q hq; simpa using this), hE2.out, ?_⟩, by simp [intOf]; omega⟩
                    rw [HT.out, HS.out, List.flatMap_append, HSp.out]
                    exact hown'
          · have hkn : k = n := by omega
            subst hkn
            have HD : Hid (lens.drop k = []) := List.drop_eq_nil_of_le (by rw [HLn.out]; omega)
            have HTk : Hid (lens.take k = lens) := List.take_of_length_le (by rw [HLn.out]; omega)
            have HO := Lib.hid hown
            clear hown
            go_wp2_with fail
            go_ret2
            exact placePost_ok (by rw [HP.out, HPr.out, HD.out]; rfl) (by rw [HLn.out]; rfl) (HTk.out ▸ HO.out) (by rw [HLn.out]) hxw
      · go_enter Tryz.func151, Tryz.ntmps151
        go_wp2_with fail
        refine (HU.out _).mono ?_
        rintro e w1 ⟨rfl, hx1⟩
        rw [Hu.out]
        have hc := hx1.bcell.1 w.heap.size
        simp at hc
        go_wp2_with fail
        clear hc
        go_loopw [6, 20] (fun v i wr => PlaceRelI w #[.string nm, .int .i64 top, .int .i64 hgt, .int .i64 lft, .int .i64 wid, .int .u8 al, .bool true] ⟨nm, top, hgt, lft, wid, al, true⟩ (top + (hgt - n)) n lens v i wr) (fun _ i _ => n - (intOf i).toNat)
        case atStart => exact ⟨0, Nat.zero_le _, rfl, hx1, rfl, ⟨by simp [Reg.spots], .inl ⟨rfl, rfl⟩⟩⟩
        case round =>
          obtain ⟨k, hk, rfl, hx, hp, hown⟩ := hrel
          have HPr := Lib.hid hp
          clear hp
          have hB := Lib.hid (Blk.ext (Blk.new w _ _) hx)
          have hxw : Ext w wr := ((Ext.refl w).alloc _).trans hx
          have hc := fun o => hB.out.cell o
          have hsz : w.heap.size < wr.heap.size := hB.out.lt
          have hne : w.heap.size ≠ wr.heap.size := by omega
          by_cases hlt : k < n
          · obtain ⟨b, off, x, rfl, hxx, hcell⟩ := (HL.out.ext hxw).cell hlt
            have HX := Lib.hid hxx
            have HE := Lib.hid (lensErr_drop ⟨nm, top, hgt, lft, wid, al, true⟩ lens k x hxx)
            have HT := Lib.hid (take_snoc' lens k x hxx)
            have hkl : Hid ((lens.take k).length = k) := by show (lens.take k).length = k; rw [List.length_take, HLn.out]; omega
            clear hxx
            by_cases hneg : x < 0
            · go_wp2_with fail
              go_ret2
              exact placePost_err (k := 2) (by rw [HP.out, HPr.out, HE.out, if_pos (by omega)]) (by decide) rfl hxw
            · by_cases hwide : wid < x
              · go_wp2_with fail
                go_ret2
                exact placePost_err (k := 11) (by rw [HP.out, HPr.out, HE.out, if_neg (by omega), if_pos (by omega)]) (by decide) rfl hxw
              · have HS := Lib.hid (spots_snoc ⟨nm, top, hgt, lft, wid, al, true⟩ (top + (hgt - n)) (lens.take k) 0 x)
                have hE2 : Hid (Reg.lensErr ⟨nm, top, hgt, lft, wid, al, true⟩ lens = Reg.lensErr ⟨nm, top, hgt, lft, wid, al, true⟩ (lens.drop (k + 1))) := by
                  show _ = _
                  rw [HPr.out, HE.out, if_neg (by omega), if_neg (by omega)]
                by_cases ha3 : (al == 3) = true
                · have hal : al = 3 := by simpa using ha3
                  have HSp : Hid (Reg.spot ⟨nm, top, hgt, lft, wid, al, true⟩ (top + (hgt - n)) (0 + (lens.take k).length) x = ⟨top + k + (hgt - n), lft + (wid - x), x⟩) := by
                    show _ = _
                    rw [hkl.out]; unfold Reg.spot; simp [hal]; omega
                  clear hal
                  go_wp2_with (at_builtin; refine wpList_append1 rfl (.tmp 73) (.tmp 75) 161 rfl info_spot Tryz.underlying161 rfl (by decide) ((hown.alloc _).alloc _) (by exact rfl) (wr.heap.size + 1) _ (by exact rfl) (by exact Blk.new' (by simp)) (by exact rfl) (by simp [Value.oneCell']) (by omega) (by simp [maxLen]; omega) (by simp; omega) ?_; intro v' w' hown' hgr)
                  refine ⟨⟨k + 1, by omega, by go_num, ((hx.alloc _).alloc _).grown hgr (fun q hq => by have := own_lt hown q hq; simpa using this), hE2.out, ?_⟩, by simp [intOf]; omega⟩
                  rw [HT.out, HS.out, List.flatMap_append, HSp.out]
                  exact hown'
                · have ha3' : (al == 3) = false := by simpa using ha3
                  clear ha3
                  have hn3 : ¬ al = 3 := by simpa using ha3'
                  by_cases ha2 : (al == 2) = true
                  · have hal : al = 2 := by simpa using ha2
                    have HSp : Hid (Reg.spot ⟨nm, top, hgt, lft, wid, al, true⟩ (top + (hgt - n)) (0 + (lens.take k).length) x = ⟨top + k + (hgt - n), lft + (wid - x) / 2, x⟩) := by
                      show _ = _
                      rw [hkl.out]; unfold Reg.spot; simp [hal]; omega
                    clear hal hn3
                    go_wp2_with (at_builtin; refine wpList_append1 rfl (.tmp 73) (.tmp 75) 161 rfl info_spot Tryz.underlying161 rfl (by decide) ((hown.alloc _).alloc _) (by exact rfl) (wr.heap.size + 1) _ (by exact rfl) (by exact Blk.new' (by simp)) (by exact rfl) (by simp [Value.oneCell']) (by omega) (by simp [maxLen]; omega) (by simp; omega) ?_; intro v' w' hown' hgr)
                    refine ⟨⟨k + 1, by omega, by go_num, ((hx.alloc _).alloc _).grown hgr (fun q hq => by have := own_lt hown q hq; simpa using this), hE2.out, ?_⟩, by simp [intOf]; omega⟩
                    rw [HT.out, HS.out, List.flatMap_append, HSp.out]
                    exact hown'
                  · have ha2' : (al == 2) = false := by simpa using ha2
                    clear ha2
                    have hn2 : ¬ al = 2 := by simpa using ha2'
                    have HSp : Hid (Reg.spot ⟨nm, top, hgt, lft, wid, al, true⟩ (top + (hgt - n)) (0 + (lens.take k).length) x = ⟨top + k + (hgt - n), lft, x⟩) := by
                      show _ = _
                      rw [hkl.out]; unfold Reg.spot; simp [hn3, hn2]; omega
                    clear hn2 hn3
                    go_wp2_with (at_builtin; refine wpList_append1 rfl (.tmp 73) (.tmp 75) 161 rfl info_spot Tryz.underlying161 rfl (by decide) ((hown.alloc _).alloc _) (by exact rfl) (wr.heap.size + 1) _ (by exact rfl) (by exact Blk.new' (by simp)) (by exact rfl) (by simp [Value.oneCell']) (by omega) (by simp [maxLen]; omega) (by simp; omega) ?_; intro v' w' hown' hgr)
                    refine ⟨⟨k + 1, by omega, by go_num, ((hx.alloc _).alloc _).grown hgr (fun q hq => by have := own_lt hown q hq; simpa using this), hE2.out, ?_⟩, by simp [intOf]; omega⟩
                    rw [HT.out, HS.out, List.flatMap_append, HSp.out]
                    exact hown'
          · have hkn : k = n := by omega
            subst hkn
            have HD : Hid (lens.drop k = []) := List.drop_eq_nil_of_le (by rw [HLn.out]; omega)
            have HTk : Hid (lens.take k = lens) := List.take_of_length_le (by rw [HLn.out]; omega)
            have HO := Lib.hid hown
            clear hown
            go_wp2_with fail
            go_ret2
            exact placePost_ok (by rw [HP.out, HPr.out, HD.out]; rfl) (by rw [HLn.out]; rfl) (HTk.out ▸ HO.out) (by rw [HLn.out]) hxw
end Go.Proofs.YtagfedbdakmlgaaGreatDoor
