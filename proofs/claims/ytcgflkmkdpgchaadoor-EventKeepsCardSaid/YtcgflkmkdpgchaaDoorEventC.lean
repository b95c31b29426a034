/- The walks of event.Spots and event.Check. -/
import Derived.Test.YtcgflkmkdpgchaaDoorEventB
namespace Go.Proofs.YtcgflkmkdpgchaaDoor
set_option linter.unusedVariables false
set_option linter.unusedSimpArgs false
open Go.RowKit

def RegsSmall (l : List Reg) : Prop := ∀ r ∈ l, r.name.size ≤ 9223372036854775807
theorem findR_small {l : List Reg} {nm : ByteArray} (h : RegsSmall l) : ((findR l nm).getD Reg.zero).name.size ≤ 9223372036854775807 := by
  unfold findR
  split
  · show ByteArray.empty.size ≤ _
    decide
  · cases hf : l.find? (fun r => r.name.toList == nm.toList) with
    | none => show ByteArray.empty.size ≤ _; decide
    | some r => exact h r (List.mem_of_find?_eq_some hf)

/-- the error of Spots -/
def Ev.spotsErr (e : Ev) (regs : List Reg) : Int :=
  match findR regs e.region with
  | none => 6
  | some r => if (e.rows.map rowLen).any (fun n => decide (n < 0)) = true then 10 else r.place (e.rows.map rowLen)
def Ev.spots (e : Ev) (regs : List Reg) : List Spot :=
  if e.spotsErr regs = 0 then ((findR regs e.region).getD Reg.zero).spots (((findR regs e.region).getD Reg.zero).top' e.rows.length) 0 (e.rows.map rowLen) else []
def SpotsPost (e : Ev) (regs : List Reg) (w : World) (en : Ending) (w' : World) : Prop :=
  ∃ A n c, en = .returned (.tuple #[.slice A n c, .int .i64 (e.spotsErr regs)]) ∧ SpotsAt w' A n (e.spots regs) ∧ n ≤ c ∧ Ext w w'
theorem spotsPost_err {e : Ev} {regs : List Reg} {w w' : World} {en : Ending} {k : Int} (hk : e.spotsErr regs = k) (h0 : k ≠ 0) (he : en = .returned (.tuple #[.slice none 0 0, .int .i64 k])) (hx : Ext w w') : SpotsPost e regs w en w' :=
  ⟨none, 0, 0, by rw [hk]; exact he, by unfold Ev.spots; rw [if_neg (by rw [hk]; exact h0)]; exact Sl.nil, Nat.le_refl _, hx⟩

def NegRel (n : Nat) (l : List Int) (i : Value) : Prop := ∃ k : Nat, k ≤ n ∧ i = .int .i64 k ∧ l.any (fun n => decide (n < 0)) = (l.drop k).any (fun n => decide (n < 0))

set_option maxRecDepth 100000 in
set_option maxHeartbeats 2000000 in
theorem Spots_any (e : Ev) (A : Option Addr) (n c : Nat) (A2 : Option Addr) (n2 c2 : Nat) (regs : List Reg) (w : World) (hE : Env w) (he : EvAt w e A n c) (hb : ∀ r ∈ e.rows, RowSmall r) (hr : RegsAt w A2 n2 regs) (hr2 : n2 ≤ 9223372036854775807) (hrs : RegsSmall regs) :
    Calls Tryd.prog 23 #[.agg (e.cells A n c), .slice A2 n2 c2] w (SpotsPost e regs w) := by
  have hn24 : n * 24 ≤ 140737488355328 := by have := he.2; omega
  have HL := Lib.hid (fun w hE he => lens_any e A n c w hE he hb)
  have HA := Lib.hid he
  have HLn := Lib.hid he.len
  have HEn := Lib.hid hE
  have HR := Lib.hid hr
  have hsm := findR_small (nm := e.region) hrs
  clear he hE hb hr
  unfold Ev.cells at HL ⊢
  have HPl := Lib.hid (fun A n c lens w hl hn => Place_any ((findR regs e.region).getD Reg.zero) A n c lens w hsm hl hn)
  go_enter Tryd.func23, Tryd.ntmps23
  go_wp2_with fail
  refine (Find_any A2 n2 c2 regs e.region _ (HR.out.ext ((Ext.refl w).alloc _)) hr2).mono ?_
  rintro en w1 ⟨rfl, hx1⟩
  have HB1 := Lib.hid (Blk.ext (Blk.new w _ _) hx1)
  have hxw1 : Ext w w1 := ((Ext.refl w).alloc _).trans hx1
  cases hf : findR regs e.region with
  | none =>
    have HF : Hid (e.spotsErr regs = 6) := by show _ = _; unfold Ev.spotsErr; rw [hf]
    clear HPl hsm hf
    simp only [Option.getD_none, Option.isSome_none]
    unfold Reg.val Reg.zero
    dsimp only
    go_wp2_with fail
    go_ret2
    exact spotsPost_err HF.out (by decide) rfl (hxw1.alloc _)
  | some r =>
    have HF : Hid (e.spotsErr regs = if (e.rows.map rowLen).any (fun n => decide (n < 0)) = true then 10 else r.place (e.rows.map rowLen)) := by show _ = _; unfold Ev.spotsErr; rw [hf]
    have HS : Hid (e.spots regs = if e.spotsErr regs = 0 then r.spots (r.top' e.rows.length) 0 (e.rows.map rowLen) else []) := by show _ = _; unfold Ev.spots; rw [hf]; rfl
    rw [hf] at HPl
    clear hsm hf
    simp only [Option.getD_some, Option.isSome_some] at HPl ⊢
    unfold Reg.val at HPl ⊢
    have hblt : w.heap.size < w1.heap.size := HB1.out.lt
    have hbne : w.heap.size ≠ w1.heap.size := by omega
    have hc1 := fun o => HB1.out.cell o
    go_wp2_with fail
    refine (HL.out _ (HEn.out.ext (hxw1.alloc _)) (HA.out.ext (hxw1.alloc _))).mono ?_
    rintro en w2 ⟨A1, n1, c1, rfl, hints, hnc1, hx2⟩
    have hxw2 : Ext w w2 := (hxw1.alloc _).trans hx2
    obtain rfl : n = n1 := by rw [← HLn.out, ← hints.len, List.length_map]
    have HI := Lib.hid hints
    have HB2 := Lib.hid (Blk.ext (Blk.new w1 _ _) hx2)
    clear hints hc1
    go_wp2_with fail
    go_loop [24] (fun i => NegRel n (e.rows.map rowLen) i) (fun i => n - (intOf i).toNat)
    case atStart => exact ⟨0, Nat.zero_le _, rfl, rfl⟩
    case round =>
      obtain ⟨k, hk, rfl, hp⟩ := hrel
      have HP := Lib.hid hp
      clear hp
      by_cases hlt : k < n
      · obtain ⟨b, off, x, rfl, hxx, hcell⟩ := HI.out.cell hlt
        have HD := Lib.hid (drop_at _ k x hxx)
        clear hxx
        by_cases hneg : x < 0
        · go_wp2_with fail
          go_ret2
          exact spotsPost_err (k := 10) (by rw [HF.out, HP.out, HD.out, List.any_cons, decide_eq_true (by omega)]; rfl) (by decide) rfl hxw2
        · go_wp2_with fail
          refine ⟨⟨k + 1, by omega, by go_num, ?_⟩, by simp [intOf]; omega⟩
          rw [HP.out, HD.out, List.any_cons, decide_eq_false (by omega), Bool.false_or]
      · have HD : Hid ((e.rows.map rowLen).drop k = []) := List.drop_eq_nil_of_le (by rw [List.length_map, HLn.out]; omega)
        have HF2 : Hid (e.spotsErr regs = r.place (e.rows.map rowLen)) := by show _ = _; rw [HF.out, HP.out, HD.out]; rfl
        have hc2 := fun o => HB2.out.cell o
        go_wp2_with fail
        refine (HPl.out _ _ _ _ _ HI.out (by omega)).mono ?_
        rintro en w3 ⟨A3, n3, c3, rfl, hsp, hnc3, hx3⟩
        go_wp2_with fail
        go_ret2
        refine ⟨A3, n3, c3, by rw [HF2.out]; rfl, ?_, hnc3, hxw2.trans hx3⟩
        rw [HS.out, HF2.out]
        rw [List.length_map] at hsp
        exact hsp
end Go.Proofs.YtcgflkmkdpgchaaDoor
