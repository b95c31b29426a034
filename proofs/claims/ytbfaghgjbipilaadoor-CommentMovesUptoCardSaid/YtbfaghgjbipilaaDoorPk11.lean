/- Laid together: slices.Clone of regions, comments and heads of events. Arguments opened: what a reading of slices and structs gives, as slices that read as lists. No program in sight but through its tables. The walk of document.Clone. What an accepted document is, plainly. The walks of the references' rates: Valid, CanDrop, Nominal, Dropped, Day. -/
import Derived.Test.YtbfaghgjbipilaaDoorPk10
import Derived.Test.YtbfaghgjbipilaaDoorPk09
import Derived.Test.YtbfaghgjbipilaaDoorPk01
import Derived.OpenShut
import Derived.ProofKit
import Derived.Carry
import Derived.Test.YtbfaghgjbipilaaDoorPk06
import Derived.Test.YtbfaghgjbipilaaDoorPk07
import Derived.Test.YtbfaghgjbipilaaDoorPk08
import Derived.Test.YtbfaghgjbipilaaDoorPk04

/-! SlCl -/
namespace Go.Proofs.YtbfaghgjbipilaaDoor
set_option linter.unusedVariables false
set_option linter.unusedSimpArgs false
open Go.RowKit

theorem info_regI : (Tryd.prog.info? 54).map (fun i => (i.zero, i.size, i.bytes)) = some (some (.agg #[.string ⟨#[]⟩, .int .i64 0, .int .i64 0, .int .i64 0, .int .i64 0, .int .u8 0, .bool false]), 7, 56) := by kernel_rfl
theorem info_comI : (Tryd.prog.info? 25).map (fun i => (i.zero, i.size, i.bytes)) = some (some (.agg #[.int .i64 0, .int .i64 0, .int .i64 0, .int .i64 0, .string ⟨#[]⟩, .string ⟨#[]⟩, .bool false, .bool false]), 8, 72) := by kernel_rfl
theorem info_evtI : (Tryd.prog.info? 41).map (fun i => (i.zero, i.size, i.bytes)) = some (some (.agg #[.int .i64 0, .int .i64 0, .int .i64 0, .string ⟨#[]⟩, .int .u8 0, .string ⟨#[]⟩, .slice none 0 0]), 7, 88) := by kernel_rfl
theorem reg_ones : ∀ (r : Reg), ∀ u ∈ r.vals, u.oneCell' = true := by intro r u hu; simp [Reg.vals] at hu; rcases hu with rfl | rfl | rfl | rfl | rfl | rfl | rfl <;> rfl
theorem com_ones : ∀ (r : Com), ∀ u ∈ r.vals, u.oneCell' = true := by intro r u hu; simp [Com.vals] at hu; rcases hu with rfl | rfl | rfl | rfl | rfl | rfl | rfl | rfl <;> rfl
theorem eh_ones : ∀ (r : EH), ∀ u ∈ r.vals, u.oneCell' = true := by intro r u hu; simp [EH.vals] at hu; rcases hu with rfl | rfl | rfl | rfl | rfl | rfl | rfl <;> rfl

def CloneRegsPost (l : List Reg) (n : Nat) (w : World) (e : Ending) (w' : World) : Prop :=
  ∃ A c, e = .returned (.slice A n c) ∧ w'.ownsRow w.heap.size 54 7 (.slice A n c) n (l.flatMap Reg.vals) ∧ Ext w w'
set_option maxHeartbeats 1000000 in
theorem CloneRegs_any (A : Option Addr) (n c : Nat) (l : List Reg) (w : World) (hl : Sl w 7 (Cells Reg.vals) A n l) (hn : n * 56 ≤ 140737488355328) :
    Calls Tryd.prog 37 #[.slice A n c] w (CloneRegsPost l n w) := by
  have hq := fun w => Lib.run_eql_slice_nil (P := Tryd.prog) w 31 54 A n c 0 0 Tryd.underlying31
  have HL := Lib.hid hl
  clear hl
  cases A with
  | none =>
    have hn0 : n = 0 := by
      rcases Nat.eq_zero_or_pos n with h | h
      · exact h
      · obtain ⟨_, _, h, _⟩ := HL.out.2 h; cases h
    subst hn0
    have hs0 : l = [] := List.eq_nil_of_length_eq_zero HL.out.len
    subst hs0
    simp only [Option.isNone_none] at hq
    go_enter Tryd.func37, Tryd.ntmps37
    go_wp2_with fail
    go_ret
    exact ⟨none, 0, rfl, ⟨rfl, .inl ⟨rfl, rfl⟩⟩, Ext.refl _⟩
  | some ad =>
    simp only [Option.isNone_some] at hq
    go_enter Tryd.func37, Tryd.ntmps37
    go_wp2_with (at_builtin; refine wpList_appendS rfl (.tmp 5) (.tmp 6) 31 rfl info_regI Tryd.underlying31 rfl (by decide) (by exact own_nil0 w _ _ w.heap.size (Nat.le_refl _)) (by exact rfl) (by exact rfl) (by exact Sl.ext (Cells.stays _) HL.out ((Ext.refl w).alloc _)) (fun _ => rfl) reg_ones (by omega) (by simp [maxLen]; omega) (by simp) ?_; intro v' w' hown hgr hnil)
    go_ret
    simp only [Nat.zero_add, List.nil_append] at hown
    obtain ⟨A', c', rfl, hc, _, hsl, hfr⟩ := own_sl (f := Reg.vals) (size := 7) (fun _ => rfl) HL.out.len hown
    exact ⟨A', c', rfl, hown, ((Ext.refl w).alloc _).grown hgr (fun q hq => by simp [Value.ownBlock] at hq; omega)⟩

def CloneComsPost (l : List Com) (n : Nat) (w : World) (e : Ending) (w' : World) : Prop :=
  ∃ A c, e = .returned (.slice A n c) ∧ w'.ownsRow w.heap.size 25 8 (.slice A n c) n (l.flatMap Com.vals) ∧ Ext w w'
set_option maxHeartbeats 1000000 in
theorem CloneComs_any (A : Option Addr) (n c : Nat) (l : List Com) (w : World) (hl : Sl w 8 (Cells Com.vals) A n l) (hn : n * 72 ≤ 140737488355328) :
    Calls Tryd.prog 38 #[.slice A n c] w (CloneComsPost l n w) := by
  have hq := fun w => Lib.run_eql_slice_nil (P := Tryd.prog) w 33 25 A n c 0 0 Tryd.underlying33
  have HL := Lib.hid hl
  clear hl
  cases A with
  | none =>
    have hn0 : n = 0 := by
      rcases Nat.eq_zero_or_pos n with h | h
      · exact h
      · obtain ⟨_, _, h, _⟩ := HL.out.2 h; cases h
    subst hn0
    have hs0 : l = [] := List.eq_nil_of_length_eq_zero HL.out.len
    subst hs0
    simp only [Option.isNone_none] at hq
    go_enter Tryd.func38, Tryd.ntmps38
    go_wp2_with fail
    go_ret
    exact ⟨none, 0, rfl, ⟨rfl, .inl ⟨rfl, rfl⟩⟩, Ext.refl _⟩
  | some ad =>
    simp only [Option.isNone_some] at hq
    go_enter Tryd.func38, Tryd.ntmps38
    go_wp2_with (at_builtin; refine wpList_appendS rfl (.tmp 5) (.tmp 6) 33 rfl info_comI Tryd.underlying33 rfl (by decide) (by exact own_nil0 w _ _ w.heap.size (Nat.le_refl _)) (by exact rfl) (by exact rfl) (by exact Sl.ext (Cells.stays _) HL.out ((Ext.refl w).alloc _)) (fun _ => rfl) com_ones (by omega) (by simp [maxLen]; omega) (by simp) ?_; intro v' w' hown hgr hnil)
    go_ret
    simp only [Nat.zero_add, List.nil_append] at hown
    obtain ⟨A', c', rfl, hc, _, hsl, hfr⟩ := own_sl (f := Com.vals) (size := 8) (fun _ => rfl) HL.out.len hown
    exact ⟨A', c', rfl, hown, ((Ext.refl w).alloc _).grown hgr (fun q hq => by simp [Value.ownBlock] at hq; omega)⟩

def CloneEHsPost (l : List EH) (n : Nat) (w : World) (e : Ending) (w' : World) : Prop :=
  ∃ A c, e = .returned (.slice A n c) ∧ w'.ownsRow w.heap.size 41 7 (.slice A n c) n (l.flatMap EH.vals) ∧ Ext w w'
set_option maxHeartbeats 1000000 in
theorem CloneEHs_any (A : Option Addr) (n c : Nat) (l : List EH) (w : World) (hl : Sl w 7 (Cells EH.vals) A n l) (hn : n * 88 ≤ 140737488355328) :
    Calls Tryd.prog 39 #[.slice A n c] w (CloneEHsPost l n w) := by
  have hq := fun w => Lib.run_eql_slice_nil (P := Tryd.prog) w 32 41 A n c 0 0 Tryd.underlying32
  have HL := Lib.hid hl
  clear hl
  cases A with
  | none =>
    have hn0 : n = 0 := by
      rcases Nat.eq_zero_or_pos n with h | h
      · exact h
      · obtain ⟨_, _, h, _⟩ := HL.out.2 h; cases h
    subst hn0
    have hs0 : l = [] := List.eq_nil_of_length_eq_zero HL.out.len
    subst hs0
    simp only [Option.isNone_none] at hq
    go_enter Tryd.func39, Tryd.ntmps39
    go_wp2_with fail
    go_ret
    exact ⟨none, 0, rfl, ⟨rfl, .inl ⟨rfl, rfl⟩⟩, Ext.refl _⟩
  | some ad =>
    simp only [Option.isNone_some] at hq
    go_enter Tryd.func39, Tryd.ntmps39
    go_wp2_with (at_builtin; refine wpList_appendS rfl (.tmp 5) (.tmp 6) 32 rfl info_evtI Tryd.underlying32 rfl (by decide) (by exact own_nil0 w _ _ w.heap.size (Nat.le_refl _)) (by exact rfl) (by exact rfl) (by exact Sl.ext (Cells.stays _) HL.out ((Ext.refl w).alloc _)) (fun _ => rfl) eh_ones (by omega) (by simp [maxLen]; omega) (by simp) ?_; intro v' w' hown hgr hnil)
    go_ret
    simp only [Nat.zero_add, List.nil_append] at hown
    obtain ⟨A', c', rfl, hc, _, hsl, hfr⟩ := own_sl (f := EH.vals) (size := 7) (fun _ => rfl) HL.out.len hown
    exact ⟨A', c', rfl, hown, ((Ext.refl w).alloc _).grown hgr (fun q hq => by simp [Value.ownBlock] at hq; omega)⟩

theorem RegsAt.vals {w : World} {A : Option Addr} {n : Nat} {l : List Reg} (h : RegsAt w A n l) : Sl w 7 (Cells Reg.vals) A n l := Sl.change h fun _ _ _ => cells_regC
/-- the heads of events, and that their rows are what they are -/
theorem evs_heads {w : World} {A : Option Addr} {n : Nat} {l : List Ev} (h : EvsAt w A n l) : ∃ hs : List EH, Sl w 7 (Cells EH.vals) A n hs ∧ ∀ (i : Nat) (x : EH) (e : Ev), hs[i]? = some x → l[i]? = some e → x = EH.of e x.A x.n x.c ∧ EvAt w e x.A x.n x.c := by
  have hall : ∀ i : Nat, ∃ x : EH, i < n → (∀ b off, A = some ⟨b, off, none⟩ → ∀ j u, x.vals[j]? = some u → w.cell? ⟨b, off + i * 7 + j, none⟩ = some u) ∧ ∀ e, l[i]? = some e → x = EH.of e x.A x.n x.c ∧ EvAt w e x.A x.n x.c := by
    intro i
    by_cases hi : i < n
    · obtain ⟨b, off, e, hA, he, A', n', c', h1, h2⟩ := h.at_ hi
      refine ⟨EH.of e A' n' c', fun _ => ⟨fun b' off' hA' => ?_, fun e' he' => ?_⟩⟩
      · rw [hA] at hA'
        cases hA'
        exact h1
      · rw [he] at he'
        cases he'
        exact ⟨rfl, h2⟩
    · exact ⟨⟨0, 0, 0, ⟨#[]⟩, 0, ⟨#[]⟩, none, 0, 0⟩, fun h => absurd h hi⟩
  obtain ⟨f, hf⟩ := Classical.axiomOfChoice hall
  have hat : ∀ (i : Nat) (x : EH), ((List.range n).map f)[i]? = some x → i < n ∧ x = f i := fun i x hx => by
    have hi : i < n := by
      have := (List.getElem?_eq_some_iff.1 hx).1
      simpa using this
    rw [List.getElem?_map, List.getElem?_range hi] at hx
    exact ⟨hi, (Option.some.inj hx).symm⟩
  refine ⟨(List.range n).map f, ⟨by simp, fun hn => ?_⟩, fun i x e hx he => ?_⟩
  · obtain ⟨b, off, hA, _⟩ := h.2 hn
    refine ⟨b, off, hA, fun i x hx j u hu => ?_⟩
    obtain ⟨hi, rfl⟩ := hat i x hx
    exact (hf i hi).1 b off hA j u hu
  · obtain ⟨hi, rfl⟩ := hat i x hx
    exact (hf i hi).2 e he
end Go.Proofs.YtbfaghgjbipilaaDoor

/-! Open -/
namespace Go.Proofs.YtbfaghgjbipilaaDoor
set_option linter.unusedVariables false
set_option linter.unusedSimpArgs false
open Go.RowKit Go.ChangeShapes Go.WideShapes Go.ChangeAt

theorem list_1 {α : Type} {l : List α} (h : l.length = 1) : ∃ v0, l = [v0] := by
  match l, h with
  | [v0], _ => exact ⟨v0, rfl⟩
theorem list_2 {α : Type} {l : List α} (h : l.length = 2) : ∃ v0 v1, l = [v0, v1] := by
  match l, h with
  | [v0, v1], _ => exact ⟨v0, v1, rfl⟩
theorem list_3 {α : Type} {l : List α} (h : l.length = 3) : ∃ v0 v1 v2, l = [v0, v1, v2] := by
  match l, h with
  | [v0, v1, v2], _ => exact ⟨v0, v1, v2, rfl⟩
theorem list_4 {α : Type} {l : List α} (h : l.length = 4) : ∃ v0 v1 v2 v3, l = [v0, v1, v2, v3] := by
  match l, h with
  | [v0, v1, v2, v3], _ => exact ⟨v0, v1, v2, v3, rfl⟩
theorem list_5 {α : Type} {l : List α} (h : l.length = 5) : ∃ v0 v1 v2 v3 v4, l = [v0, v1, v2, v3, v4] := by
  match l, h with
  | [v0, v1, v2, v3, v4], _ => exact ⟨v0, v1, v2, v3, v4, rfl⟩
theorem list_6 {α : Type} {l : List α} (h : l.length = 6) : ∃ v0 v1 v2 v3 v4 v5, l = [v0, v1, v2, v3, v4, v5] := by
  match l, h with
  | [v0, v1, v2, v3, v4, v5], _ => exact ⟨v0, v1, v2, v3, v4, v5, rfl⟩
theorem list_7 {α : Type} {l : List α} (h : l.length = 7) : ∃ v0 v1 v2 v3 v4 v5 v6, l = [v0, v1, v2, v3, v4, v5, v6] := by
  match l, h with
  | [v0, v1, v2, v3, v4, v5, v6], _ => exact ⟨v0, v1, v2, v3, v4, v5, v6, rfl⟩
theorem list_8 {α : Type} {l : List α} (h : l.length = 8) : ∃ v0 v1 v2 v3 v4 v5 v6 v7, l = [v0, v1, v2, v3, v4, v5, v6, v7] := by
  match l, h with
  | [v0, v1, v2, v3, v4, v5, v6, v7], _ => exact ⟨v0, v1, v2, v3, v4, v5, v6, v7, rfl⟩
theorem list_9 {α : Type} {l : List α} (h : l.length = 9) : ∃ v0 v1 v2 v3 v4 v5 v6 v7 v8, l = [v0, v1, v2, v3, v4, v5, v6, v7, v8] := by
  match l, h with
  | [v0, v1, v2, v3, v4, v5, v6, v7, v8], _ => exact ⟨v0, v1, v2, v3, v4, v5, v6, v7, v8, rfl⟩
theorem list_10 {α : Type} {l : List α} (h : l.length = 10) : ∃ v0 v1 v2 v3 v4 v5 v6 v7 v8 v9, l = [v0, v1, v2, v3, v4, v5, v6, v7, v8, v9] := by
  match l, h with
  | [v0, v1, v2, v3, v4, v5, v6, v7, v8, v9], _ => exact ⟨v0, v1, v2, v3, v4, v5, v6, v7, v8, v9, rfl⟩
theorem list_11 {α : Type} {l : List α} (h : l.length = 11) : ∃ v0 v1 v2 v3 v4 v5 v6 v7 v8 v9 v10, l = [v0, v1, v2, v3, v4, v5, v6, v7, v8, v9, v10] := by
  match l, h with
  | [v0, v1, v2, v3, v4, v5, v6, v7, v8, v9, v10], _ => exact ⟨v0, v1, v2, v3, v4, v5, v6, v7, v8, v9, v10, rfl⟩
theorem list_12 {α : Type} {l : List α} (h : l.length = 12) : ∃ v0 v1 v2 v3 v4 v5 v6 v7 v8 v9 v10 v11, l = [v0, v1, v2, v3, v4, v5, v6, v7, v8, v9, v10, v11] := by
  match l, h with
  | [v0, v1, v2, v3, v4, v5, v6, v7, v8, v9, v10, v11], _ => exact ⟨v0, v1, v2, v3, v4, v5, v6, v7, v8, v9, v10, v11, rfl⟩

/-- what is read of a type at these cells, in a world, where each part is of a size that Go bears -/
def Opens {α : Type} (P : Program) (W : World) (t : TypeId) (R : List Value → α → Prop) : Prop :=
  ∀ (H : Type) (enc : TypeId × Value → H) (fuel : Nat) (cs : List Value) (x : DataW H × List MemPlace), DataW.trod enc P W 0 (fun _ => true) true fuel t cs = some x → (∀ n ∈ x.1.weights P t, n ≤ reachBytes) → ∃ a, R cs a

theorem weightsAll_mem {H : Type} {P : Program} {e : TypeId} : ∀ {l : List (DataW H)} {d : DataW H} {n : Nat}, d ∈ l → n ∈ d.weights P e → n ∈ DataW.weightsAll P e l
  | [], _, _, h, _ => by cases h
  | x :: l, d, n, h, hn => by
    simp only [DataW.weightsAll, List.mem_append]
    cases List.mem_cons.1 h with
    | inl e => subst e; exact .inl hn
    | inr e => exact .inr (weightsAll_mem e hn)
theorem weightsEach_mem {H : Type} {P : Program} : ∀ {ts : List TypeId} {l : List (DataW H)} {i : Nat} {t : TypeId} {d : DataW H} {n : Nat}, ts[i]? = some t → l[i]? = some d → n ∈ d.weights P t → n ∈ DataW.weightsEach P ts l
  | [], _, _, _, _, _, h, _, _ => by simp at h
  | _ :: _, [], _, _, _, _, _, h, _ => by simp at h
  | t :: ts, x :: l, 0, _, _, n, h1, h2, hn => by
    simp only [List.getElem?_cons_zero, Option.some.injEq] at h1 h2
    subst h1 h2
    simp only [DataW.weightsEach, List.mem_append]
    exact .inl hn
  | t :: ts, x :: l, i + 1, _, _, n, h1, h2, hn => by
    simp only [List.getElem?_cons_succ] at h1 h2
    simp only [DataW.weightsEach, List.mem_append]
    exact .inr (weightsEach_mem h1 h2 hn)

theorem wt_at {H : Type} {P : Program} {ts : List TypeId} {ds : List (DataW H)} (h : (DataW.weightsEach P ts ds).all (· ≤ reachBytes) = true) {i : Nat} {t : TypeId} {d : DataW H} (ht : ts[i]? = some t) (hd : ds[i]? = some d) : ∀ n ∈ d.weights P t, n ≤ reachBytes := fun n hn => by
  have := List.all_eq_true.1 h n (weightsEach_mem ht hd hn)
  simpa using this

theorem cell_none {w : World} {b o : Nat} {sp : Option Nat} {v : Value} (h : w.cell? ⟨b, o, sp⟩ = some v) : sp = none := by
  unfold World.cell? at h
  split at h
  · split at h
    · cases h
    · rename_i hs; simpa using hs
  · cases h

/-- the cells of an element lie from offset o of block b on, and mean it -/
def Mem {α : Type} (R : List Value → α → Prop) (W : World) (b o : Nat) (a : α) : Prop := ∃ cs, (∀ j u, cs[j]? = some u → W.cell? ⟨b, o + j, none⟩ = some u) ∧ R cs a

theorem Opens.slice {α : Type} {P : Program} {W : World} {t e : TypeId} {s bts : Nat} {R : List Value → α → Prop} (ht : P.underlying t = some (.slice e)) (hc : P.cellsOf e = s) (hs : 0 < s) (hb : P.bytesOf e = bts) (hR : Opens P W e R)
    {H : Type} {enc : TypeId × Value → H} {fuel : Nat} {cs : List Value} {x : DataW H × List MemPlace} (h : DataW.trod enc P W 0 (fun _ => true) true fuel t cs = some x) (hw : ∀ n ∈ x.1.weights P t, n ≤ reachBytes) :
    ∃ A n c l, cs = [.slice A n c] ∧ n ≤ c ∧ c ≤ maxLen ∧ c * bts ≤ reachBytes ∧ Sl W s (fun w => Mem R w) A n l := by
  rcases DataW.trod_slice ht h with ⟨rfl, rfl⟩ | ⟨ad, len, cap, elems, rest, n, rfl, rfl, rfl, _, hlc, hcm, hel, hat, hsp, _⟩
  · exact ⟨none, 0, 0, [], rfl, Nat.le_refl _, by simp [maxLen], by simp [reachBytes], Sl.nil⟩
  · obtain ⟨hrl, _⟩ := hsp rfl
    simp only [DataW.weights, ht, List.mem_cons, List.mem_append, List.length_map] at hw
    have hcap : cap * bts ≤ reachBytes := by
      have := hw _ (.inl rfl)
      rw [hel, hrl, hb, show len + (cap - len) = cap by omega] at this
      exact this
    have hall : ∀ i, i < len → ∃ a b off, ad = ⟨b, off, none⟩ ∧ Mem R W b (off + i * s) a := by
      intro i hi
      have h1 := hat i hi
      have hie : i < elems.length := by omega
      rw [List.getElem?_eq_getElem hie, Option.bind_eq_some_iff] at h1
      obtain ⟨cs', h2, h3⟩ := h1
      obtain ⟨a, ha⟩ := hR H enc n cs' _ h3 (fun m hm => hw m (.inr (.inl (weightsAll_mem (List.mem_map.2 ⟨_, List.getElem_mem hie, rfl⟩) hm))))
      obtain ⟨_, hcl, hcc⟩ := World.cells?_some h2
      rw [hc] at hcl hcc
      -- the spot
      obtain ⟨b, off, sp⟩ := ad
      have h0 := hcc 0 hs
      have hspot : ∀ (i : Nat), i * P.cellsOf e = i * s := fun i => by rw [hc]
      refine ⟨a, b, off, ?_, cs', fun j u hu => ?_, ha⟩
      · -- the first element's first cell is there
        have hz := hat 0 (by omega)
        rw [List.getElem?_eq_getElem (show 0 < elems.length by omega), Option.bind_eq_some_iff] at hz
        obtain ⟨cz, hz2, _⟩ := hz
        obtain ⟨_, hzl, hzc⟩ := World.cells?_some hz2
        rw [hc] at hzl hzc
        have := hzc 0 hs
        rw [List.getElem?_eq_getElem (show 0 < cz.length by omega)] at this
        simp only [Nat.zero_mul, Addr.add, if_true] at this
        rw [cell_none this]
      · have hj : j < s := by rw [← hcl]; exact (List.getElem?_eq_some_iff.1 hu).1
        have h4 := hcc j hj
        rw [hu] at h4
        have e1 : (⟨b, off + i * s + j, none⟩ : Addr) = (Addr.add ⟨b, off, none⟩ (i * s)).add j := by rw [Addr.add_mid, Addr.add_mid]
        rw [e1]
        by_cases hz : i * s + j = 0
        · have hi0 : i * s = 0 := by omega
          have hj0 : j = 0 := by omega
          rw [hi0, hj0] at h4 ⊢
          simp only [Addr.add, if_true] at h4 ⊢
          obtain rfl := cell_none h4
          exact h4
        · have e2 : (Addr.add ⟨b, off, sp⟩ (i * s)).add j = (Addr.add ⟨b, off, none⟩ (i * s)).add j := by
            simp only [Addr.add]
            by_cases h5 : i * s = 0
            · rw [if_pos h5, if_pos h5, if_neg (by omega), if_neg (by omega)]
            · rw [if_neg h5, if_neg h5]
          rw [e2] at h4
          exact h4
    by_cases h0 : len = 0
    · subst h0
      exact ⟨some ad, 0, cap, [], rfl, hlc, hcm, hcap, Sl.nil⟩
    · obtain ⟨_, b, off, rfl, _⟩ := hall 0 (by omega)
      have hall' : ∀ i, ∃ a : Option α, i < len → ∃ a', a = some a' ∧ Mem R W b (off + i * s) a' := by
        intro i
        by_cases hi : i < len
        · obtain ⟨a, b', off', he, hm⟩ := hall i hi
          cases he
          exact ⟨some a, fun _ => ⟨a, rfl, hm⟩⟩
        · exact ⟨none, fun h => absurd h hi⟩
      obtain ⟨f, hf⟩ := Classical.axiomOfChoice hall'
      have hl : ((List.range len).filterMap f).length = len ∧ ∀ i, i < len → ((List.range len).filterMap f)[i]? = f i := by
        have key : ∀ m, m ≤ len → ((List.range m).filterMap f).length = m ∧ ∀ i, i < m → ((List.range m).filterMap f)[i]? = f i := by
          intro m
          induction m with
          | zero => intro _; exact ⟨rfl, fun i hi => absurd hi (by omega)⟩
          | succ m ih =>
            intro hm
            obtain ⟨h1, h2⟩ := ih (by omega)
            obtain ⟨a', ha', _⟩ := hf m (by omega)
            rw [List.range_succ, List.filterMap_append]
            simp only [List.filterMap_cons, ha', List.filterMap_nil]
            refine ⟨by simp [h1], fun i hi => ?_⟩
            by_cases him : i < m
            · rw [List.getElem?_append_left (by omega)]; exact h2 i him
            · have : i = m := by omega
              subst this
              rw [List.getElem?_append_right (by omega), h1, ha']
              simp
        exact key len (Nat.le_refl _)
      refine ⟨_, len, cap, (List.range len).filterMap f, rfl, hlc, hcm, hcap, hl.1, fun _ => ⟨b, off, rfl, fun i a ha => ?_⟩⟩
      have hi : i < len := by rw [← hl.1]; exact (List.getElem?_eq_some_iff.1 ha).1
      rw [hl.2 i hi] at ha
      obtain ⟨a', ha', hm⟩ := hf i hi
      rw [ha] at ha'
      cases ha'
      exact hm

theorem Opens.int {P : Program} {W : World} {t : TypeId} {k : IntKind} (ht : P.underlying t = some (.int k)) : Opens P W t (fun cs (a : Int) => cs = [.int k a] ∧ (Lit.int k a).wf = true) :=
  fun _ _ _ _ _ h _ => by obtain ⟨n, h1, _, h2⟩ := DataW.trod_int ht h; exact ⟨n, h1, h2⟩
theorem Opens.bool {P : Program} {W : World} {t : TypeId} (ht : P.underlying t = some .bool) : Opens P W t (fun cs (a : Bool) => cs = [.bool a]) :=
  fun _ _ _ _ _ h _ => by obtain ⟨n, h1, _⟩ := DataW.trod_bool ht h; exact ⟨n, h1⟩
theorem Opens.string {P : Program} {W : World} {t : TypeId} (ht : P.underlying t = some .string) : Opens P W t (fun cs (a : ByteArray) => cs = [.string a] ∧ a.size ≤ 140737488351232) :=
  fun _ _ _ _ _ h hw => by
    obtain ⟨s, h1, h2, _⟩ := DataW.trod_string ht h
    subst h2
    refine ⟨s, h1, ?_⟩
    have := hw s.data.toList.length (by simp [DataW.weights])
    simpa [reachBytes] using this
theorem Opens.mono {α β : Type} {P : Program} {W : World} {t : TypeId} {R : List Value → α → Prop} {S : List Value → β → Prop} (h : Opens P W t R) (f : α → β) (k : ∀ cs a, R cs a → S cs (f a)) : Opens P W t S :=
  fun H enc fuel cs x h1 h2 => by obtain ⟨a, ha⟩ := h H enc fuel cs x h1 h2; exact ⟨f a, k cs a ha⟩

/-- the fields of a struct, each read by itself -/
theorem Opens.fields {P : Program} {W : World} {t : TypeId} {fs : Array Field} (ht : P.underlying t = some (.struct fs)) {H : Type} {enc : TypeId × Value → H} {fuel : Nat} {cs : List Value} {x : DataW H × List MemPlace}
    (h : DataW.trod enc P W 0 (fun _ => true) true fuel t cs = some x) (hw : ∀ n ∈ x.1.weights P t, n ≤ reachBytes) :
    cs.length = P.cellsOf t ∧ ∀ (i : Nat) (f : Field), fs[i]? = some f → ∀ {α : Type} {R : List Value → α → Prop}, Opens P W f.type R → ∃ a, R ((cs.drop f.offset).take (P.cellsOf f.type)) a := by
  obtain ⟨xs, n, rfl, rfl, hl, hlen, hf⟩ := DataW.trod_struct ht h
  refine ⟨hl, fun i f hif α R hR => ?_⟩
  have h1 := hf i f hif
  have hi : i < xs.length := by rw [hlen]; exact (Array.getElem?_eq_some_iff.1 hif).1
  rw [List.getElem?_eq_getElem hi] at h1
  refine hR H enc n _ _ h1 (fun m hm => hw m ?_)
  simp only [DataW.weights, ht]
  refine weightsEach_mem (i := i) (t := f.type) (d := xs[i].1) ?_ ?_ hm
  · rw [List.getElem?_map]
    have : fs.toList[i]? = some f := by simpa using hif
    rw [this]; rfl
  · rw [List.getElem?_map, List.getElem?_eq_getElem hi]; rfl
end Go.Proofs.YtbfaghgjbipilaaDoor

/-! DocCl -/
namespace Go.Proofs.YtbfaghgjbipilaaDoor
set_option linter.unusedVariables false
set_option linter.unusedSimpArgs false
open Go.RowKit

/-- a document's cells, its three slices given -/
def Doc.cells3 (d : Doc) (r e c : Value) : Array Value := #[.string d.title, .string d.lang, .int .u8 d.rate, .bool d.drop, .int .i64 d.last, r, e, c]
def docZero : Array Value := #[.string ⟨#[]⟩, .string ⟨#[]⟩, .int .u8 0, .bool false, .int .i64 0, .slice none 0 0, .slice none 0 0, .slice none 0 0]
def clCells (d : Doc) (h : DocH) : List Value → Array Value
  | [u0, _, _] => d.cells3 u0 (.slice h.ea h.en h.ec) (.slice h.ca h.cn h.cc)
  | [u0, u1, _, _] => d.cells3 u0 (.slice h.ea h.en h.ec) u1
  | _ => d.cells h
structure ClJ (d : Doc) (h : DocH) (w W0 : World) (us : List Value) (w' : World) : Prop where
  ext : Ext w w'
  blk : Blk w' w.heap.size 35 (clCells d h us)
  zero : Blk w' (w.heap.size + 1) 35 docZero
  regs : ∀ u, us[0]? = some u → ∃ A c, u = .slice A h.rn c ∧ w'.ownsRow w.heap.size 54 7 u h.rn (d.regs.flatMap Reg.vals)
  coms : ∀ u, us[1]? = some u → ∃ A c, u = .slice A h.cn c ∧ w'.ownsRow w.heap.size 25 8 u h.cn (d.coms.flatMap Com.vals)
theorem size_docC (d : Doc) (r e c : Value) : (d.cells3 r e c).size = 8 := rfl
theorem clCells_1 (d : Doc) (h : DocH) (u0 : Value) : clCells d h [u0] = d.cells h := rfl
theorem clCells_2 (d : Doc) (h : DocH) (u0 u1 : Value) : clCells d h [u0, u1] = d.cells h := rfl
theorem ClJ.call0 {d : Doc} {h : DocH} {w W0 w' w2 : World} (j : ClJ d h w W0 [] w') {A : Option Addr} {c : Nat} (hx : Ext w' w2) (ho : w2.ownsRow w'.heap.size 54 7 (.slice A h.rn c) h.rn (d.regs.flatMap Reg.vals)) : ClJ d h w W0 ([] ++ [.slice A h.rn c]) w2 :=
  ⟨j.ext.trans hx, j.blk.ext hx, j.zero.ext hx, fun u hu => by simp at hu; subst hu; exact ⟨A, c, rfl, own_le ho j.ext.size⟩, fun u hu => by simp at hu⟩
theorem ClJ.call1 {d : Doc} {h : DocH} {w W0 w' w2 : World} {u0 : Value} (j : ClJ d h w W0 [u0] w') {A : Option Addr} {c : Nat} (hx : Ext w' w2) (ho : w2.ownsRow w'.heap.size 25 8 (.slice A h.cn c) h.cn (d.coms.flatMap Com.vals)) : ClJ d h w W0 ([u0] ++ [.slice A h.cn c]) w2 :=
  ⟨j.ext.trans hx, j.blk.ext hx, j.zero.ext hx, fun u hu => by obtain ⟨A', c', h1, h2⟩ := j.regs u (by simpa using hu); exact ⟨A', c', h1, own_ext h2 hx⟩, fun u hu => by simp at hu; subst hu; exact ⟨A, c, rfl, own_le ho j.ext.size⟩⟩
theorem ClJ.put {d : Doc} {h : DocH} {w W0 w' : World} {us : List Value} (j : ClJ d h w W0 us w') (v : Value) (hv : us.length = 2 ∨ us.length = 3) : ClJ d h w W0 (us ++ [v]) (putB w' w.heap.size 35 (clCells d h (us ++ [v]))) := by
  refine ⟨j.ext.put (Nat.le_refl _) _ _, j.blk.put _, j.zero.put_other (by omega) _, fun u hu => ?_, fun u hu => ?_⟩
  · obtain ⟨A', c', h1, h2⟩ := j.regs u (by rw [← hu, List.getElem?_append_left (by omega)])
    exact ⟨A', c', h1, own_kb h2 (KB.put j.blk (by decide))⟩
  · obtain ⟨A', c', h1, h2⟩ := j.coms u (by rw [← hu, List.getElem?_append_left (by omega)])
    exact ⟨A', c', h1, own_kb h2 (KB.put j.blk (by decide))⟩
/-- one event is copied -/
structure CeJ (e : Ev) (g k n' : Nat) (w4 : World) (us : List Value) (w' : World) : Prop where
  nil : us = [] → Ext w4 w'
  one : ∀ u0, us = [u0] → ∃ A2 c2, u0 = .agg (e.cells A2 n' c2) ∧ n' ≤ c2 ∧ RowsFresh w' w4.heap.size A2 n' e.rows ∧ Ext w4 w'
  two : ∀ u0 u1, us = [u0, u1] → ∃ A2 c2 w5, u0 = .agg (e.cells A2 n' c2) ∧ n' ≤ c2 ∧ RowsFresh w5 w4.heap.size A2 n' e.rows ∧ Ext w4 w5 ∧ w' = w5.setCells g (k * 7) (e.cells A2 n' c2).toList
structure DClRel (d : Doc) (h : DocH) (w : World) (v0 : Value) (v1 : Value) (ea : Option Addr) (ec : Nat) (i : Value) (wr : World) : Prop where
  ext : Ext w wr
  blk : Blk wr w.heap.size 35 (d.cells3 v0 (.slice ea h.en ec) v1)
  zero : Blk wr (w.heap.size + 1) 35 docZero
  regs : wr.ownsRow w.heap.size 54 7 v0 h.rn (d.regs.flatMap Reg.vals)
  coms : wr.ownsRow w.heap.size 25 8 v1 h.cn (d.coms.flatMap Com.vals)
  more : ∃ (k : Nat) (hs : List EH), k ≤ h.en ∧ i = .int .i64 k ∧ hs.length = h.en ∧ wr.ownsRow w.heap.size 41 7 (.slice ea h.en ec) h.en (hs.flatMap EH.vals) ∧
    ∀ (j : Nat) (x : EH) (e : Ev), hs[j]? = some x → d.evs[j]? = some e → (j < k → EGood wr w.heap.size x e) ∧ (k ≤ j → ∃ A n c, x = EH.of e A n c ∧ EvAt w e A n c)
theorem DClRel.step {d : Doc} {h : DocH} {w wr w4 w5 : World} {v0 v1 : Value} {g ec k n' c2 : Nat} {A2 : Option Addr} {hs : List EH} {e : Ev} (hgw : w.heap.size ≤ g) (h1 : Ext w wr) (h2 : Blk wr w.heap.size 35 (d.cells3 v0 (.slice (some ⟨g, 0, none⟩) h.en ec) v1))
    (h3 : Blk wr (w.heap.size + 1) 35 docZero) (h4 : wr.ownsRow w.heap.size 54 7 v0 h.rn (d.regs.flatMap Reg.vals)) (h5 : wr.ownsRow w.heap.size 25 8 v1 h.cn (d.coms.flatMap Com.vals))
    (hk : k < h.en) (hl : hs.length = h.en) (h6 : wr.ownsRow w.heap.size 41 7 (.slice (some ⟨g, 0, none⟩) h.en ec) h.en (hs.flatMap EH.vals))
    (h7 : ∀ (j : Nat) (x : EH) (e : Ev), hs[j]? = some x → d.evs[j]? = some e → (j < k → EGood wr w.heap.size x e) ∧ (k ≤ j → ∃ A n c, x = EH.of e A n c ∧ EvAt w e A n c))
    (he : d.evs[k]? = some e) (h8 : Ext wr w5) (hw4 : wr.heap.size ≤ w4.heap.size) (hnc : n' ≤ c2) (hn24 : n' * 24 ≤ 140737488355328) (hf : RowsFresh w5 w4.heap.size A2 n' e.rows) :
    DClRel d h w v0 v1 (some ⟨g, 0, none⟩) ec (.int .i64 ((k : Int) + 1)) (w5.setCells g (k * 7) (e.cells A2 n' c2).toList) := by
  have hty : Typed w5 41 g := (own_typed h6 g rfl).ext h8
  have kb : ∀ {T : TypeId}, T ≠ 41 → KB T w5 (w5.setCells g (k * 7) (e.cells A2 n' c2).toList) := fun hne => KB.sets hne _ _ _ hty
  have hB : ∀ {b : Nat} {cs : Array Value}, Blk wr b 35 cs → Blk (w5.setCells g (k * 7) (e.cells A2 n' c2).toList) b 35 cs := fun hb => kb (by decide) _ _ (hb.ext h8)
  refine ⟨ext_sets hgw _ _ _ (h1.trans h8), hB h2, hB h3, own_kb (own_ext h4 h8) (kb (by decide)), own_kb (own_ext h5 h8) (kb (by decide)), k + 1, hs.set k (EH.of e A2 n' c2), by omega, by simp, by simpa using hl, ?_, fun j x y hx hy => ?_⟩
  · rw [← flat_setMany EH.len hs k (EH.of e A2 n' c2) (by omega)]
    exact own_sets _ _ _ _ (own_ext h6 h8)
  · by_cases hkj : k = j
    · subst hkj
      rw [List.getElem?_set_self (by omega)] at hx
      cases hx
      rw [he] at hy
      cases hy
      exact ⟨fun _ => EGood.kb (w := w5) ⟨rfl, hnc, hn24, hf.le (by have := h1.size; omega)⟩ (kb (by decide)) (kb (by decide)), fun hh => by omega⟩
    · rw [List.getElem?_set_ne hkj] at hx
      obtain ⟨a1, a2⟩ := h7 j x y hx hy
      exact ⟨fun hh => ((a1 (by omega)).ext h8).kb (kb (by decide)) (kb (by decide)), fun hh => a2 (by omega)⟩
/-- what a copy of a document comes to -/
def DClPost (d : Doc) (w : World) (en : Ending) (w' : World) : Prop := ∃ h', en = .returned (.agg (d.cells h')) ∧ DocOwn w' w.heap.size d h' ∧ Ext w w'
theorem EH.cells_at {hs : List EH} {n g c L : Nat} {w : World} (h : w.ownsRow L 41 7 (.slice (some ⟨g, 0, none⟩) n c) n (hs.flatMap EH.vals)) {k : Nat} {x : EH} (hx : hs[k]? = some x) (hk : k < n) {j : Nat} (hj : j < 7) : w.cell? ⟨g, k * 7 + j, none⟩ = x.vals[j]? := by
  rw [h.cellAt (k * 7 + j) (by omega), flatMap_at EH.vals 7 EH.len hs k x j hx hj]
theorem size_docI : (Tryd.prog.info? 35).map (·.size) = some 8 := by kernel_rfl

set_option maxRecDepth 100000 in
set_option maxHeartbeats 4000000 in
theorem DClone_any (d : Doc) (h : DocH) (w : World) (hat : DocAt w d h) (hr : h.rn * 56 ≤ 140737488355328) (hen : h.en * 88 ≤ 140737488355328) (hcn : h.cn * 72 ≤ 140737488355328) :
    Calls Tryd.prog 16 #[.agg (d.cells h)] w (DClPost d w) := by
  have HX := Lib.hid (((Ext.refl w).alloc (.cells (d.cells h) 35)).alloc (.cells docZero 35))
  have HB := Lib.hid ((Blk.new w 35 (d.cells h)).alloc (.cells docZero 35))
  have HZ := Lib.hid (Blk.new' (w := w.alloc (.cells (d.cells h) 35)) (g := w.heap.size + 1) (t := 35) (cs := docZero) (by simp))
  have HAt := Lib.hid hat
  have HRl := Lib.hid hat.regs.len
  have HCl := Lib.hid hat.coms.len
  have HEl := Lib.hid hat.evs.len
  clear hat
  unfold Doc.cells docZero at HX HB HZ
  unfold Doc.cells
  go_enter Tryd.func16, Tryd.ntmps16
  go_wp2_with fail
  refine wp_region_links [some 5, some 6, some 7, some 8, some 9, some 10, some 11, none, some 12, none] [[], [0], [1], [], [3], [4, 2], [0, 1, 2, 3, 4], [6, 2, 5, 0, 1, 2, 3, 4], [0, 1, 2, 3, 4, 5, 6, 7], [8, 5, 7, 0, 1, 2, 3, 4, 5, 6, 7]] [2, 5, 7, 9] [.pointer (some ⟨w.heap.size, 5, none⟩), .slice h.ra h.rn h.rc, undef, .pointer (some ⟨w.heap.size, 7, none⟩), .slice h.ca h.cn h.cc, undef, .pointer (some ⟨w.heap.size, 5, none⟩), undef, .pointer (some ⟨w.heap.size, 7, none⟩), undef] (ClJ d h w w) (by kernel_rfl) (by kernel_rfl) (by kernel_rfl) (by kernel_rfl) (by kernel_rfl) (by kernel_rfl) (by kernel_rfl) (by decide) ?_ ?_ ?_ ?_
  · exact ⟨HX.out.drew, HB.out.drew, HZ.out.drew, fun u hu => by simp at hu, fun u hu => by simp at hu⟩
  · intro i o ho hc a w' us K' hJ hF hlim hk
    match i, ho with
    | 0, ho =>
      simp only [List.getElem?_toArray, List.getElem?_cons_zero, List.getElem?_cons_succ, Option.some.injEq] at ho
      subst ho
      have e1 := hF.old 1 (.pointer (some ⟨w.heap.size, 0, none⟩)) rfl rfl
      simp only [Act.eval] at e1
      clear hF hlim hJ
      go_simp
      exact hk
    | 1, ho =>
      simp only [List.getElem?_toArray, List.getElem?_cons_zero, List.getElem?_cons_succ, Option.some.injEq] at ho
      subst ho
      have e5 := hF.pure 0 5 (.pointer (some ⟨w.heap.size, 5, none⟩)) rfl rfl rfl rfl
      have hcl : w'.cell? ⟨w.heap.size, 5, none⟩ = some (.slice h.ra h.rn h.rc) := by
        have hb := hJ.blk
        have hl0 := hlim 0 2 rfl rfl
        match us, hl0, hb with
        | [], _, hb => exact hb.cell 5
        | [_], hl0, hb => first | exact hb.cell 5 | exact absurd hl0 (by simp)
        | _ :: _ :: us, hl0, _ => exact absurd hl0 (by simp)
      have hlim : True := trivial
      simp only [Act.eval] at e5
      clear hF hlim hJ
      go_simp
      exact hk
    | 2, ho => simp at hc
    | 3, ho =>
      simp only [List.getElem?_toArray, List.getElem?_cons_zero, List.getElem?_cons_succ, Option.some.injEq] at ho
      subst ho
      have e1 := hF.old 1 (.pointer (some ⟨w.heap.size, 0, none⟩)) rfl rfl
      simp only [Act.eval] at e1
      clear hF hlim hJ
      go_simp
      exact hk
    | 4, ho =>
      simp only [List.getElem?_toArray, List.getElem?_cons_zero, List.getElem?_cons_succ, Option.some.injEq] at ho
      subst ho
      have e8 := hF.pure 3 8 (.pointer (some ⟨w.heap.size, 7, none⟩)) rfl rfl rfl rfl
      have hcl : w'.cell? ⟨w.heap.size, 7, none⟩ = some (.slice h.ca h.cn h.cc) := by
        have hb := hJ.blk
        have hl0 := hlim 1 5 rfl rfl
        match us, hl0, hb with
        | [], _, hb => exact hb.cell 7
        | [_], hl0, hb => first | exact hb.cell 7 | exact absurd hl0 (by simp)
        | _ :: _ :: us, hl0, _ => exact absurd hl0 (by simp)
      have hlim : True := trivial
      simp only [Act.eval] at e8
      clear hF hlim hJ
      go_simp
      exact hk
    | 5, ho => simp at hc
    | 6, ho =>
      simp only [List.getElem?_toArray, List.getElem?_cons_zero, List.getElem?_cons_succ, Option.some.injEq] at ho
      subst ho
      have e1 := hF.old 1 (.pointer (some ⟨w.heap.size, 0, none⟩)) rfl rfl
      simp only [Act.eval] at e1
      clear hF hlim hJ
      go_simp
      exact hk
    | 7, ho => simp at hc
    | 8, ho =>
      simp only [List.getElem?_toArray, List.getElem?_cons_zero, List.getElem?_cons_succ, Option.some.injEq] at ho
      subst ho
      have e1 := hF.old 1 (.pointer (some ⟨w.heap.size, 0, none⟩)) rfl rfl
      simp only [Act.eval] at e1
      clear hF hlim hJ
      go_simp
      exact hk
    | 9, ho => simp at hc
    | i + 10, ho => simp at ho
  · intro p c' o hp ho a w' us K' hl hJ hF hk
    match p, hp with
    | 0, hp =>
      obtain rfl : 2 = c' := by simpa using hp
      simp only [List.getElem?_toArray, List.getElem?_cons_zero, List.getElem?_cons_succ, Option.some.injEq] at ho
      subst ho
      obtain rfl : us = [] := List.eq_nil_of_length_eq_zero hl
      have e6 := hF.pure 1 6 (.slice h.ra h.rn h.rc) rfl rfl rfl rfl
      refine wp_call1 rfl e6 Tryd.call37 (CloneRegs_any h.ra h.rn h.rc d.regs w' (RegsAt.vals (HAt.out.regs.ext hJ.ext)) hr) ?_
      rintro en w4 ⟨A4, c4, rfl, ho4, hx4⟩
      exact ⟨_, rfl, hk _ _ (hJ.call0 hx4 ho4)⟩
    | 1, hp =>
      obtain rfl : 5 = c' := by simpa using hp
      simp only [List.getElem?_toArray, List.getElem?_cons_zero, List.getElem?_cons_succ, Option.some.injEq] at ho
      subst ho
      obtain ⟨u0, rfl⟩ := list_1 hl
      have e9 := hF.pure 4 9 (.slice h.ca h.cn h.cc) rfl rfl rfl rfl
      refine wp_call1 rfl e9 Tryd.call38 (CloneComs_any h.ca h.cn h.cc d.coms w' (HAt.out.coms.ext hJ.ext) hcn) ?_
      rintro en w4 ⟨A4, c4, rfl, ho4, hx4⟩
      exact ⟨_, rfl, hk _ _ (hJ.call1 hx4 ho4)⟩
    | 2, hp =>
      obtain rfl : 7 = c' := by simpa using hp
      simp only [List.getElem?_toArray, List.getElem?_cons_zero, List.getElem?_cons_succ, Option.some.injEq] at ho
      subst ho
      obtain ⟨u0, u1, rfl⟩ := list_2 hl
      obtain ⟨A9, c9, hu9, _⟩ := hJ.regs u0 rfl
      have e11 := hF.pure 6 11 (.pointer (some ⟨w.heap.size, 5, none⟩)) rfl rfl rfl rfl
      have e7 := hF.link 0 2 7 _ rfl rfl rfl rfl
      subst hu9
      have hput := hJ.put undef (.inl rfl)
      have hb := hJ.blk
      rw [clCells_2] at hb
      have hcl := hb.cell 5
      have hfr := hb.frozen 5
      have hset := setCell_put hb 5 (.slice A9 h.rn c9)
      unfold Doc.cells at hcl hset
      simp at hset
      have HK := Lib.hid (hk undef _ hput)
      unfold clCells Doc.cells3 at HK
      clear hput hb hk hF hJ
      simp only [Act.eval] at e11 e7
      go_simp
      exact HK.out
    | 3, hp =>
      obtain rfl : 9 = c' := by simpa using hp
      simp only [List.getElem?_toArray, List.getElem?_cons_zero, List.getElem?_cons_succ, Option.some.injEq] at ho
      subst ho
      obtain ⟨u0, u1, u2, rfl⟩ := list_3 hl
      obtain ⟨A9, c9, hu9, _⟩ := hJ.coms u1 rfl
      have e12 := hF.pure 8 12 (.pointer (some ⟨w.heap.size, 7, none⟩)) rfl rfl rfl rfl
      have e10 := hF.link 1 5 10 _ rfl rfl rfl rfl
      subst hu9
      have hput := hJ.put undef (.inr rfl)
      have hb := hJ.blk
      unfold clCells at hb
      have hcl := hb.cell 7
      have hfr := hb.frozen 7
      have hset := setCell_put hb 7 (.slice A9 h.cn c9)
      unfold Doc.cells3 at hcl hset
      simp at hset
      have HK := Lib.hid (hk undef _ hput)
      unfold clCells Doc.cells3 at HK
      clear hput hb hk hF hJ
      simp only [Act.eval] at e12 e10
      go_simp
      exact HK.out
    | p + 4, hp => simp at hp
  intro us W1 hl hJ
  obtain ⟨u0, u1, u2, u3, rfl⟩ := list_4 hl
  rename_i hK
  refine hK _ _ ?_
  clear hK
  generalize hL : frameL _ _ _ _ = L
  obtain rfl : L = [(5, .pointer (some ⟨w.heap.size, 5, none⟩)), (6, .slice h.ra h.rn h.rc), (7, u0), (8, .pointer (some ⟨w.heap.size, 7, none⟩)), (9, .slice h.ca h.cn h.cc), (10, u1), (11, .pointer (some ⟨w.heap.size, 5, none⟩)), (12, .pointer (some ⟨w.heap.size, 7, none⟩))] := hL.symm.trans (by kernel_rfl)
  clear hL hl
  simp only [Act.put, List.foldl_cons, List.foldl_nil, List.setIfInBounds_toArray, List.set_cons_zero, List.set_cons_succ]
  obtain ⟨A0, c0, hu0, ho0⟩ := hJ.regs u0 rfl
  obtain ⟨A1, c1, hu1, ho1⟩ := hJ.coms u1 rfl
  subst hu0 hu1
  have hx1 := hJ.ext
  have hb1 : Blk W1 w.heap.size 35 (d.cells3 (.slice A0 h.rn c0) (.slice h.ea h.en h.ec) (.slice A1 h.cn c1)) := hJ.blk
  have hz1 := hJ.zero
  clear hJ
  obtain ⟨hs0, hsl0, hgd0⟩ := evs_heads HAt.out.evs
  have HHs := Lib.hid hsl0
  have HGd := Lib.hid hgd0
  clear hsl0 hgd0
  have HX1 := Lib.hid hx1
  have HB1 := Lib.hid hb1
  have HZ1 := Lib.hid hz1
  have HR1 := Lib.hid ho0
  have HC1 := Lib.hid ho1
  clear hx1 hb1 hz1 ho0 ho1
  have hc1 := fun o => HB1.out.cell o
  unfold Doc.cells3 at hc1
  go_wp2_with fail
  refine (CloneEHs_any h.ea h.en h.ec hs0 _ (Sl.ext (Cells.stays _) HHs.out HX1.out) hen).mono ?_
  rintro en w2 ⟨ea, ec, rfl, hown2, hx2⟩
  have HX2 := Lib.hid (HX1.out.trans hx2)
  have HB2 := Lib.hid (HB1.out.ext hx2)
  have HZ2 := Lib.hid (HZ1.out.ext hx2)
  have HR2 := Lib.hid (own_ext HR1.out hx2)
  have HC2 := Lib.hid (own_ext HC1.out hx2)
  have HO2 := Lib.hid (own_le hown2 HX1.out.size)
  clear hx2 hown2 hc1
  have hc2 := fun o => HB2.out.cell o
  have hf2 := fun o => HB2.out.frozen o
  have hs2 := fun u => setCell_put HB2.out 6 u
  have HB3 := Lib.hid (HB2.out.put (d.cells3 (.slice A0 h.rn c0) (.slice ea h.en ec) (.slice A1 h.cn c1)))
  unfold Doc.cells3 at hc2 hs2
  simp at hs2
  have hc3 := fun o => HB3.out.cell o
  unfold Doc.cells3 at hc3
  go_wp2_with fail
  clear hc2 hf2 hs2 hc3
  go_loopw [20] (fun i wr => DClRel d h w (.slice A0 h.rn c0) (.slice A1 h.cn c1) ea ec i wr) (fun i _ => h.en - (intOf i).toNat)
  case atStart =>
    refine ⟨HX2.out.put (Nat.le_refl _) _ _, HB3.out, HZ2.out.put_other (by omega) _, own_kb HR2.out (KB.put HB2.out (by decide)), own_kb HC2.out (KB.put HB2.out (by decide)), 0, hs0, Nat.zero_le _, rfl, HHs.out.len, own_kb HO2.out (KB.put HB2.out (by decide)), fun j x e hx he => ⟨fun hh => by omega, fun _ => ?_⟩⟩
    have := HGd.out j x e hx he
    exact ⟨_, _, _, this.1, this.2⟩
  case round =>
    obtain ⟨hx, hb, hz, hor, hoc, k, hs, hk, rfl, hsl, hoe, hall⟩ := hrel
    have HXr := Lib.hid hx
    have HBr := Lib.hid hb
    have HZr := Lib.hid hz
    have HRr := Lib.hid hor
    have HCr := Lib.hid hoc
    have HOr := Lib.hid hoe
    have HAl := Lib.hid hall
    have HSl := Lib.hid hsl
    clear hx hb hz hor hoc hsl hoe hall
    have hcr := fun o => HBr.out.cell o
    unfold Doc.cells3 at hcr
    by_cases hlt : k < h.en
    · obtain ⟨g, cp, hv, hgb, hglt⟩ := own_form HOr.out (by omega)
      have hA1 : ea = some ⟨g, 0, none⟩ := by injection hv
      subst hA1
      obtain ⟨x, hxx⟩ : ∃ x, hs[k]? = some x := ⟨_, List.getElem?_eq_getElem (by rw [HSl.out]; exact hlt)⟩
      obtain ⟨e, hee⟩ : ∃ e, d.evs[k]? = some e := ⟨_, List.getElem?_eq_getElem (by rw [HEl.out]; exact hlt)⟩
      obtain ⟨A', n', c', rfl, hev⟩ := (HAl.out k x e hxx hee).2 (Nat.le_refl _)
      have HCk := Lib.hid (fun (j : Nat) (hj : j < 7) => EH.cells_at HOr.out hxx hlt (j := j) hj)
      have HEe := Lib.hid hee
      have HEv := Lib.hid hev
      have hn24 := hev.2.2
      have c0 : wr.cell? ⟨g, k * 7, none⟩ = some (.int .i64 e.id) := by have := HCk.out 0 (by omega); simpa [EH.vals, EH.of] using this
      have c1' : wr.cell? ⟨g, k * 7 + 1, none⟩ = some (.int .i64 e.inn) := HCk.out 1 (by omega)
      have c2' : wr.cell? ⟨g, k * 7 + 2, none⟩ = some (.int .i64 e.out) := HCk.out 2 (by omega)
      have c3' : wr.cell? ⟨g, k * 7 + 3, none⟩ = some (.string e.region) := HCk.out 3 (by omega)
      have c4' : wr.cell? ⟨g, k * 7 + 4, none⟩ = some (.int .u8 e.kind) := HCk.out 4 (by omega)
      have c5' : wr.cell? ⟨g, k * 7 + 5, none⟩ = some (.string e.speaker) := HCk.out 5 (by omega)
      have c6' : wr.cell? ⟨g, k * 7 + 6, none⟩ = some (.slice A' n' c') := HCk.out 6 (by omega)
      clear hxx hee hev
      go_wp2_with fail
      clear c0 c1' c2' c3' c4' c5' c6' hcr
      have HB4 := Lib.hid (HBr.out.alloc (.cells #[.int .i64 e.id, .int .i64 e.inn, .int .i64 e.out, .string e.region, .int .u8 e.kind, .string e.speaker, .slice A' n' c'] 41))
      have HE4 := Lib.hid (Blk.new wr 41 #[.int .i64 e.id, .int .i64 e.inn, .int .i64 e.out, .string e.region, .int .u8 e.kind, .string e.speaker, .slice A' n' c'])
      have HX4 := Lib.hid ((Ext.refl wr).alloc (.cells #[.int .i64 e.id, .int .i64 e.inn, .int .i64 e.out, .string e.region, .int .u8 e.kind, .string e.speaker, .slice A' n' c'] 41))
      have hsz4 := HX4.out.size
      generalize hw4 : wr.alloc (.cells #[.int .i64 e.id, .int .i64 e.inn, .int .i64 e.out, .string e.region, .int .u8 e.kind, .string e.speaker, .slice A' n' c'] 41) = w4 at *
      refine wp_region_links [some 25, some 26, some 27, some 28, some 29, some 30, none] [[], [0], [], [], [3], [1, 2, 0, 1, 2, 3, 4], [5, 4, 4, 0, 1, 2, 3, 4]] [4, 6] [.pointer (some ⟨w.heap.size, 6, none⟩), .slice (some ⟨g, 0, none⟩) h.en ec, .int .i64 (k : Int), .agg #[.int .i64 e.id, .int .i64 e.inn, .int .i64 e.out, .string e.region, .int .u8 e.kind, .string e.speaker, .slice A' n' c'], undef, .pointer (some ⟨g, k * 7, none⟩), undef] (CeJ e g k n' w4) (by kernel_rfl) (by kernel_rfl) (by kernel_rfl) (by kernel_rfl) (by kernel_rfl) (by kernel_rfl) (by kernel_rfl) (by decide) ?_ ?_ ?_ ?_
      · exact ⟨fun _ => (Ext.refl w4).drew, fun u hu => by simp at hu, fun u v hu => by simp at hu⟩
      · intro i o ho hc a w' us K' hJ hF hlim hk
        match i, ho with
        | 0, ho =>
          simp only [List.getElem?_toArray, List.getElem?_cons_zero, List.getElem?_cons_succ, Option.some.injEq] at ho
          subst ho
          have e1 := hF.old 1 (.pointer (some ⟨w.heap.size, 0, none⟩)) rfl rfl
          simp only [Act.eval] at e1
          clear hF hlim hJ
          go_simp
          exact hk
        | 1, ho =>
          simp only [List.getElem?_toArray, List.getElem?_cons_zero, List.getElem?_cons_succ, Option.some.injEq] at ho
          subst ho
          have e25 := hF.pure 0 25 (.pointer (some ⟨w.heap.size, 6, none⟩)) rfl rfl rfl rfl
          have hX6 : ∃ w6, Ext w4 w6 ∧ KB 35 w6 w' := by
            have hl1 := hlim 1 6 rfl rfl
            match us, hl1, hJ with
            | [], _, hJ => exact ⟨w', hJ.nil rfl, KB.refl _⟩
            | [u], _, hJ => obtain ⟨_, _, _, _, _, h4⟩ := hJ.one u rfl; exact ⟨w', h4, KB.refl _⟩
            | _ :: _ :: _, hl1, _ => exact absurd hl1 (by simp)
          obtain ⟨w6, hX6, hK6⟩ := hX6
          have hcl : w'.cell? ⟨w.heap.size, 6, none⟩ = some (.slice (some ⟨g, 0, none⟩) h.en ec) := Blk.cell (hK6 _ _ (HB4.out.ext hX6)) 6
          clear hX6 hK6
          simp only [Act.eval] at e25
          clear hF hlim hJ
          go_simp
          exact hk
        | 2, ho =>
          simp only [List.getElem?_toArray, List.getElem?_cons_zero, List.getElem?_cons_succ, Option.some.injEq] at ho
          subst ho
          have e3 := hF.old 3 (.int .i64 (k : Int)) rfl rfl
          simp only [Act.eval] at e3
          clear hF hlim hJ
          go_simp
          exact hk
        | 3, ho =>
          simp only [List.getElem?_toArray, List.getElem?_cons_zero, List.getElem?_cons_succ, Option.some.injEq] at ho
          subst ho
          have e4 := hF.old 4 (.pointer (some ⟨wr.heap.size, 0, none⟩)) rfl rfl
          have hX6 : Ext w4 w' := by
            have hl0 := hlim 0 4 rfl rfl
            exact hJ.nil (List.eq_nil_of_length_eq_zero (by omega))
          exact wp_loadBk 41 (.tmp 4) rfl _ 41 _ _ e4 (HE4.out.ext hX6) Tryd.underlying41 rfl (by exact size_event) hk
        | 4, ho => simp at hc
        | 5, ho =>
          simp only [List.getElem?_toArray, List.getElem?_cons_zero, List.getElem?_cons_succ, Option.some.injEq] at ho
          subst ho
          have e26 := hF.pure 1 26 (.slice (some ⟨g, 0, none⟩) h.en ec) rfl rfl rfl rfl
          have e27 := hF.pure 2 27 (.int .i64 (k : Int)) rfl rfl rfl rfl
          exact wp_ix_ev rfl e26 e27 hlt (by rw [Nat.zero_add]; exact hk)
        | 6, ho => simp at hc
        | i + 7, ho => simp at ho
      · intro p c' o hp ho a w' us K' hl hJ hF hk
        match p, hp with
        | 0, hp =>
          obtain rfl : 4 = c' := by simpa using hp
          simp only [List.getElem?_toArray, List.getElem?_cons_zero, List.getElem?_cons_succ, Option.some.injEq] at ho
          subst ho
          obtain rfl : us = [] := List.eq_nil_of_length_eq_zero hl
          have e28 := hF.pure 3 28 (.agg #[.int .i64 e.id, .int .i64 e.inn, .int .i64 e.out, .string e.region, .int .u8 e.kind, .string e.speaker, .slice A' n' c']) rfl rfl rfl rfl
          have hX6 := hJ.nil rfl
          refine wp_call1 rfl e28 Tryd.call40 (EClone_any e A' n' c' w' (HEv.out.ext (HXr.out.trans (HX4.out.trans hX6)))) ?_
          rintro en w8 ⟨A8, c8, rfl, hnc8, hrf8, hx8⟩
          exact ⟨_, rfl, hk _ _ ⟨fun h => absurd h (by simp), fun u hu => by simp at hu; subst hu; exact ⟨A8, c8, rfl, hnc8, hrf8.le hX6.size, hX6.trans hx8⟩, fun u v hu => by simp at hu⟩⟩
        | 1, hp =>
          obtain rfl : 6 = c' := by simpa using hp
          simp only [List.getElem?_toArray, List.getElem?_cons_zero, List.getElem?_cons_succ, Option.some.injEq] at ho
          subst ho
          obtain ⟨u0, rfl⟩ := list_1 hl
          obtain ⟨A2, c2, hu9, hnc, hrf, hx9⟩ := hJ.one u0 rfl
          subst hu9
          have e30 := hF.pure 5 30 (.pointer (some ⟨g, k * 7, none⟩)) rfl rfl rfl rfl
          have e29 := hF.link 0 4 29 _ rfl rfl rfl rfl
          refine wp_store_mid 41 (.tmp 30) (.tmp 29) rfl g (k * 7) (e.cells A2 n' c2) e30 e29 (fun j hj => ?_) (by exact size_event) (by simp [Ev.cells, Value.oneCell']) ?_
          · have hO9 := own_ext (own_ext HOr.out HX4.out) hx9
            have hj7 : j < 7 := hj
            have h8 : k * 7 + j < (hs.flatMap EH.vals).length := by rw [hO9.1]; omega
            exact ⟨by rw [hO9.cellAt _ (by omega), List.getElem?_eq_getElem h8]; rfl, hO9.frozenAt _⟩
          · exact hk undef _ ⟨fun h => absurd h (by simp), fun u hu => by simp at hu, fun u v hu => by simp at hu; obtain ⟨rfl, rfl⟩ := hu; exact ⟨A2, c2, w', rfl, hnc, hrf, hx9, rfl⟩⟩
        | p + 2, hp => simp at hp
      intro us W9 hl hJ
      obtain ⟨u0_1, u1_1, rfl⟩ := list_2 hl
      rename_i hK
      refine hK _ _ ?_
      clear hK
      generalize hL : frameL _ _ _ _ = L
      obtain rfl : L = [(25, .pointer (some ⟨w.heap.size, 6, none⟩)), (26, .slice (some ⟨g, 0, none⟩) h.en ec), (27, .int .i64 (k : Int)), (28, .agg #[.int .i64 e.id, .int .i64 e.inn, .int .i64 e.out, .string e.region, .int .u8 e.kind, .string e.speaker, .slice A' n' c']), (29, u0_1), (30, .pointer (some ⟨g, k * 7, none⟩))] := hL.symm.trans (by kernel_rfl)
      clear hL hl
      simp only [Act.put, List.foldl_cons, List.foldl_nil, List.setIfInBounds_toArray, List.set_cons_zero, List.set_cons_succ]
      obtain ⟨A2, c2, w5, rfl, hnc2, hrf2, hx5, rfl⟩ := hJ.two u0_1 u1_1 rfl
      clear hJ
      go_wp2_with fail
      exact ⟨DClRel.step hgb HXr.out HBr.out HZr.out HRr.out HCr.out hlt HSl.out HOr.out HAl.out HEe.out (HX4.out.trans hx5) hsz4 hnc2 hn24 hrf2, by simp [intOf]; omega⟩
    · have hkn : k = h.en := by omega
      subst hkn
      unfold Doc.cells3 at HBr
      unfold docZero at HZr
      clear hcr
      go_wp2_with (first | (refine wpList_loadB rfl 35 (.tmp 1) rfl w.heap.size 35 _ _ (by exact rfl) (by exact HBr.out) Tryd.underlying35 rfl (by exact size_docI) ?_) | (refine wpList_storeB rfl 35 (.tmp 2) (.tmp 32) rfl (w.heap.size + 1) 35 _ _ (by exact rfl) (by exact rfl) (by exact HZr.out) (by exact rfl) (by exact size_docI) (by simp [Value.oneCell']) ?_))
      refine bodyPost_ret (v := .agg (d.cells ⟨A0, h.rn, c0, ea, h.en, ec, A1, h.cn, c1⟩)) ?_ rfl ⟨⟨A0, h.rn, c0, ea, h.en, ec, A1, h.cn, c1⟩, rfl, ?_, ?_⟩
      · exact results_B (P := Tryd.prog) Tryd.results16 (g := w.heap.size + 1) rfl (by exact HZr.out.put _) Tryd.underlying35 rfl size_docI
      · refine DocOwn.put (h := ⟨A0, h.rn, c0, ea, h.en, ec, A1, h.cn, c1⟩) (cs := docZero) ⟨HRr.out, HRl.out, ⟨hs, HOr.out, HSl.out, HEl.out, fun i x e hx he => (HAl.out i x e hx he).1 (by have := (List.getElem?_eq_some_iff.1 hx).1; have := HSl.out; omega)⟩, HCr.out, HCl.out⟩ HZr.out _
      · exact HXr.out.put (by omega) _ _
end Go.Proofs.YtbfaghgjbipilaaDoor

/-! DocV -/
namespace Go.Proofs.YtbfaghgjbipilaaDoor
set_option linter.unusedVariables false
set_option linter.unusedSimpArgs false
open Go.RowKit

theorem doc_ok {d : Doc} (h : d.err = 0) : d.headErr = 0 ∧ regsErr d.regs = 0 ∧ d.evs.length ≤ 400 ∧ evsLoop d.regs d.last [] d.evs = 0 ∧ d.coms.length ≤ 64 ∧ comsLoop d.last d.evs none d.coms = 0 := by
  unfold Doc.err at h
  split at h
  · rename_i h1; exact absurd h h1
  · rename_i h1
    split at h
    · rename_i h2; exact absurd h h2
    · rename_i h2
      split at h
      · simp at h
      · rename_i h3
        split at h
        · rename_i h4; exact absurd h h4
        · rename_i h4
          split at h
          · simp at h
          · rename_i h5
            exact ⟨by simpa using h1, by simpa using h2, by omega, by simpa using h4, by omega, h⟩
theorem head_ok' {d : Doc} (h : d.headErr = 0) : vld d.title = true ∧ d.title.size ≤ 400 ∧ ¬ (d.lang.toList.isEmpty = false ∧ nameB d.lang = false) ∧ rateOkB d.rate d.drop = true ∧ 0 ≤ d.last ∧ d.last ≤ 1099511627776 := by
  unfold Doc.headErr at h
  split at h
  · simp at h
  · rename_i h1
    split at h
    · simp at h
    · rename_i h2
      split at h
      · simp at h
      · rename_i h3
        split at h
        · simp at h
        · rename_i h4
          split at h
          · simp at h
          · rename_i h5
            exact ⟨by simpa using h1, by omega, h3, by simpa using h4, by omega, by omega⟩
/-- each event behind those ahead of it -/
theorem evs_ok {regs : List Reg} {last : Int} : ∀ {l pre : List Ev}, evsLoop regs last pre l = 0 → ∀ (k : Nat) (x : Ev), l[k]? = some x →
    x.err regs = 0 ∧ x.id ≤ last ∧ ¬ (((pre ++ l.take k).getLast?.map fun p => lessB p x) = some false) ∧ findE (pre ++ l.take k) x.id = none
  | [], pre, _, k, x, hx => by simp at hx
  | y :: l, pre, h, 0, x, hx => by
    simp at hx; subst hx
    rw [evs_cons] at h
    split at h
    · rename_i h1; exact absurd h h1
    · rename_i h1
      have h1' : evErr regs last pre y = 0 := by simpa using h1
      unfold evErr at h1'
      split at h1'
      · rename_i h2; exact absurd h1' h2
      · rename_i h2
        split at h1'
        · simp at h1'
        · rename_i h3
          split at h1'
          · simp at h1'
          · rename_i h4
            split at h1'
            · simp at h1'
            · rename_i h5
              refine ⟨by simpa using h2, by omega, by simpa using h4, ?_⟩
              simp only [List.take_zero, List.append_nil]
              cases hf : findE pre y.id with
              | none => rfl
              | some j => rw [hf] at h5; simp at h5
  | y :: l, pre, h, k + 1, x, hx => by
    rw [evs_cons] at h
    split at h
    · rename_i h1; exact absurd h h1
    · have := evs_ok h k x (by simpa using hx)
      simpa using this
theorem evs_all {regs : List Reg} {last : Int} : ∀ {l pre : List Ev}, (∀ (k : Nat) (x : Ev), l[k]? = some x → evErr regs last (pre ++ l.take k) x = 0) → evsLoop regs last pre l = 0
  | [], pre, _ => rfl
  | y :: l, pre, h => by
    have h0 := h 0 y rfl
    simp at h0
    rw [evs_cons, if_neg (by simpa using h0)]
    refine evs_all fun k x hx => ?_
    have := h (k + 1) x (by simpa using hx)
    simpa using this
/-- each comment behind those ahead of it -/
theorem coms_ok {last : Int} {evs : List Ev} {l : List Com} (h : comsLoop last evs none l = 0) : ∀ (k : Nat) (c : Com), l[k]? = some c → c.err last evs (prevC l k) = 0 := by
  have key : ∀ k, k ≤ l.length → comsLoop last evs (prevC l k) (l.drop k) = 0 := by
    intro k
    induction k with
    | zero => intro _; exact h
    | succ k ih =>
      intro hk
      have h1 := ih (by omega)
      obtain ⟨c, hc⟩ : ∃ c, l[k]? = some c := ⟨_, List.getElem?_eq_getElem (by omega)⟩
      obtain ⟨h2, h3⟩ := coms_step hc h1.symm
      by_cases he : c.err last evs (prevC l k) = 0
      · exact (h3 he).symm
      · exact absurd (h2 he).symm he
  intro k c hc
  have hk := (List.getElem?_eq_some_iff.1 hc).1
  obtain ⟨h2, _⟩ := coms_step hc (key k (by omega)).symm
  by_cases he : c.err last evs (prevC l k) = 0
  · exact he
  · exact absurd (h2 he).symm he
theorem com_ok {c : Com} {last : Int} {evs : List Ev} {p : Option Int} (h : c.err last evs p = 0) : 1 ≤ c.id ∧ c.id ≤ last ∧ ¬ ((p.map fun q => decide (c.id ≤ q)) = some true) ∧ findE evs c.id = none ∧ c.anchorErr last evs = 0 ∧ nameB c.author = true ∧ vld c.text = true ∧ c.text.toList.isEmpty = false ∧ c.text.size ≤ 400 := by
  unfold Com.err at h
  split at h
  · simp at h
  · rename_i h1
    split at h
    · simp at h
    · rename_i h2
      split at h
      · simp at h
      · rename_i h3
        split at h
        · rename_i h4; exact absurd h h4
        · rename_i h4
          split at h
          · simp at h
          · rename_i h5
            split at h
            · simp at h
            · rename_i h6
              split at h
              · simp at h
              · rename_i h7
                split at h
                · simp at h
                · rename_i h8
                  refine ⟨by omega, by omega, h2, ?_, by simpa using h4, by simpa using h5, by simpa using h6, by simpa using h7, by omega⟩
                  cases hf : findE evs c.id with
                  | none => rfl
                  | some j => rw [hf] at h3; simp at h3
theorem anchor_ok {c : Com} {last : Int} {evs : List Ev} (h : c.anchorErr last evs = 0) : 1 ≤ c.ev ∧ c.ev ≤ last ∧ (c.lost = true → c.fr = 0 ∧ c.til = 0) ∧ (c.lost = false → ∃ k e, findE evs c.ev = some k ∧ evs[k]? = some e ∧ 0 ≤ c.fr ∧ c.fr < c.til ∧ c.til ≤ e.len) := by
  by_cases h1 : c.ev < 1 ∨ last < c.ev
  · rw [anc_no h1] at h; simp at h
  cases hl : c.lost
  · cases hf : findE evs c.ev with
    | none => rw [anc_none h1 hl hf] at h; simp at h
    | some k =>
      have hk := findE_lt hf
      rw [anc_some h1 hl hf (List.getElem?_eq_getElem hk)] at h
      split at h
      · simp at h
      · refine ⟨by omega, by omega, fun hh => by simp at hh, fun _ => ⟨k, _, rfl, List.getElem?_eq_getElem hk, by omega, by omega, by omega⟩⟩
  · rw [anc_lost h1 hl] at h
    split at h
    · simp at h
    · exact ⟨by omega, by omega, fun _ => by omega, fun hh => by simp at hh⟩
theorem ev_ok {e : Ev} {regs : List Reg} (h : e.err regs = 0) : 1 ≤ e.id ∧ e.id ≤ 1099511627776 ∧ spansB e.inn e.out = true := by
  unfold Ev.err at h
  split at h
  · simp at h
  · rename_i h1
    refine ⟨by omega, by omega, ?_⟩
    cases hs : spansB e.inn e.out
    · exact absurd (.inr (.inr hs)) h1
    · rfl
end Go.Proofs.YtbfaghgjbipilaaDoor

/-! RateR -/
namespace Go.Proofs.YtbfaghgjbipilaaDoor
set_option linter.unusedVariables false
set_option linter.unusedSimpArgs false
open Go.RowKit

end Go.Proofs.YtbfaghgjbipilaaDoor
