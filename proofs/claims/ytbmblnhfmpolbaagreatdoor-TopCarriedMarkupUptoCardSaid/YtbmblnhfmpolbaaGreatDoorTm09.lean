/- Texts laid together. -/
import Derived.Test.YtbmblnhfmpolbaaGreatDoorTm07
import Derived.Test.YtbmblnhfmpolbaaGreatDoorTm08
set_option linter.unusedVariables false
set_option linter.unusedSimpArgs false
namespace Go.Proofs.YtbmblnhfmpolbaaGreatDoor
section
open Go.RowKit
def ndZ : Array Value := #[.string ⟨#[]⟩, .string ⟨#[]⟩, .slice none 0 0, .int .i64 0]
theorem size_nodeI : (Tryz.prog.info? 87).map (·.size) = some 4 := by kernel_rfl
structure VrJ (T : TypeId) (al : Nat) (cs0 cs1 : Array Value) (W : World) (us : List Value) (gs : Nat → Option Nat) (w : World) : Prop where
 ext : Ext W w
 va : ∀ g, gs al = some g → W.heap.size ≤ g ∧ Blk w g T (if us.length ≤ 0 then cs0 else cs1)
section
variable {T : TypeId} {al : Nat} {cs0 cs1 : Array Value} {W w w2 : World} {us : List Value} {gs : Nat → Option Nat} {v : Value}
theorem VrJ.start (W : World) : VrJ T al cs0 cs1 W [] (fun _ => none) W.drew := ⟨(Ext.refl W).drew, fun g h => by cases h⟩
theorem VrJ.alloc (h : VrJ T al cs0 cs1 W us gs w) (hl : us.length ≤ 0) : VrJ T al cs0 cs1 W us (upd gs al w.heap.size) (w.alloc (.cells cs0 T)) := by
 refine ⟨h.ext.alloc _, fun g hg => ?_⟩
 rw [upd_self] at hg
 obtain rfl : w.heap.size = g := Option.some.inj hg
 rw [if_pos hl]
 exact ⟨h.ext.size, Blk.new w _ _⟩
theorem VrJ.blk {g : Nat} (h : VrJ T al cs0 cs1 W us gs w) (hg : gs al = some g) (hl : us.length ≤ 0) : Blk w g T cs0 := by
 have := (h.va g hg).2
 rwa [if_pos hl] at this
theorem VrJ.store {g : Nat} (h : VrJ T al cs0 cs1 W us gs w) (hg : gs al = some g) (hl : us.length = 0) : VrJ T al cs0 cs1 W (us ++ [v]) gs (putB w g T cs1) := by
 obtain ⟨h1, h2⟩ := h.va g hg
 refine ⟨h.ext.put h1 _ _, fun g' hg' => ?_⟩
 rw [hg] at hg'
 cases hg'
 rw [if_neg (by simp)]
 exact ⟨h1, h2.put _⟩
end
theorem wp_alloc_nd {o : Oper} {a : Act} {w : World} {K : Act → World → Prop} {Q : Exit → Act → World → Prop} (ho : o.op = .alloc 87) (h : K (a.put o.dst (.pointer (some ⟨w.heap.size, 0, none⟩))) (w.alloc (.cells ndZ 87))) : o.wp Tryz.prog a w K Q := by
 obtain ⟨dst, op, ty, pos, after, guard⟩ := o
 simp only at ho
 subst ho
 unfold ndZ at h
 go_simp
 exact h
theorem wp_storeBx {P : Program} {o : Oper} {a : Act} {w : World} {K : Act → World → Prop} {Q : Exit → Act → World → Prop} (ty : TypeId) (x y : Operand) (ho : o.op = .store ty x y) (g : Nat) (t : TypeId) (cs cs' : Array Value) (hx : a.eval x = .pointer (some ⟨g, 0, none⟩)) (hy : a.eval y = .agg cs')
 (hi : (P.info? ty).map (·.size) = some cs'.size) (h1 : cs'.all (·.oneCell') = true) (hB : Blk w g t cs) (hl : cs.size = cs'.size) (h : K (a.put o.dst undef) (putB w g t cs')) : o.wp P a w K Q := by
 refine wp_store_mid ty x y ho g 0 cs' hx hy (fun j hj => ?_) hi h1 (by rw [setCells_all hB cs' hl]; exact h)
 rw [hB.cell, hB.frozen]
 exact ⟨by simp; omega, rfl⟩
theorem own_new1 {w : World} {T : TypeId} {x : Value} {base g : Nat} (hg : g = w.heap.size) (hb : base ≤ g) : (w.alloc (.cells #[x] T)).ownsRow base T 1 (.slice (some ⟨g, 0, none⟩) 1 1) 1 [x] := by
 subst hg
 exact ⟨rfl, .inr ⟨w.heap.size, 1, #[x], rfl, hb, Blk.new w _ _, Nat.le_refl _, by simp [maxLen], rfl, rfl⟩⟩
def AttrsAt (w : World) (A : Option Addr) (n : Nat) (l : List (ByteArray × ByteArray)) : Prop := Sl w 2 (Cells attrVs) A n l
theorem AttrsAt.ext {w w1 : World} {A : Option Addr} {n : Nat} {l : List (ByteArray × ByteArray)} (h : AttrsAt w A n l) (k : Ext w w1) : AttrsAt w1 A n l := Sl.ext (Cells.stays _) h k
theorem attr_at {w : World} {A : Option Addr} {n : Nat} {l : List (ByteArray × ByteArray)} (h : AttrsAt w A n l) {i : Nat} (hi : i < n) : ∃ g off a, A = some ⟨g, off, none⟩ ∧ l[i]? = some a ∧ w.cell? ⟨g, off + i * 2, none⟩ = some (.string a.1) ∧ w.cell? ⟨g, off + i * 2 + 1, none⟩ = some (.string a.2) := by
 obtain ⟨g, off, a, hA, ha, hC⟩ := h.at_ hi
 exact ⟨g, off, a, hA, ha, by simpa using hC 0 _ rfl, hC 1 _ rfl⟩
def N1Rel (w W0 : World) (n : ByteArray) (l : List (ByteArray × ByteArray)) (v u : Value) (wr : World) : Prop :=
 ∃ k : Nat, k ≤ l.length ∧ v = .int .i64 k ∧ wr.ownsRow (w.heap.size + 1) 9 1 u (k + 1) (strVs n ++ (l.take k).flatMap fun a => strVs a.1) ∧ Ext W0 wr
theorem names_at {n : ByteArray} {l : List (ByteArray × ByteArray)} (hn : xnm n = true) (hl : ∀ a ∈ l, xnm a.1 = true) {k : Nat} (hk : k < l.length + 1) : ∃ nm, (strVs n ++ l.flatMap fun a => strVs a.1)[k]? = some (.string nm) ∧ xnm nm = true := by
 cases k with
 | zero => exact ⟨n, rfl, hn⟩
 | succ j =>
  have hj : j < l.length := by omega
  refine ⟨l[j].1, ?_, hl _ (List.getElem_mem hj)⟩
  have e : (l.flatMap fun a => strVs a.1) = l.map fun a => Value.string a.1 := by
   clear hl hk hj
   induction l with
   | nil => rfl
   | cons a l ih => rw [List.flatMap_cons, ih]; rfl
  rw [e]
  simp [strVs, hj]
def N2Rel (W : World) (m : Nat) (v : Value) (wr : World) : Prop := ∃ k : Nat, k ≤ m ∧ v = .int .i64 k ∧ Ext W wr
def N4Rel (w : World) (n : ByteArray) (al : List (ByteArray × ByteArray)) (tc : Array Value) (dep g B : Nat) (v : Value) (wr : World) : Prop :=
 ∃ (k : Nat) (va : Value), k ≤ al.length ∧ v = .int .i64 k ∧ Blk wr g 87 #[.string n, .string ⟨#[]⟩, va, .int .i64 (dep : Int)] ∧ wr.ownsRow B 69 2 va k ((al.take k).flatMap attrVs) ∧ Blk wr w.heap.size 106 tc ∧ Ext w wr ∧ B ≤ wr.heap.size
theorem raw_at {al : List (ByteArray × ByteArray)} {k : Nat} {a : ByteArray × ByteArray} (h : (rawA al)[k]? = some a) : ∃ x, al[k]? = some x ∧ a = (x.1, escS x.2) := by
 unfold rawA at h
 rw [List.getElem?_map] at h
 cases hx : al[k]? with
 | none => rw [hx] at h; simp at h
 | some x => rw [hx] at h; simp at h; exact ⟨x, rfl, h.symm⟩
theorem dist_ne {al : List (ByteArray × ByteArray)} (hd : (al.map (·.1)).Nodup) {j k : Nat} {x y : ByteArray × ByteArray} (hj : al[j]? = some x) (hk : al[k]? = some y) (hne : j < k) : (x.1.toList == y.1.toList) = false := by
 rw [List.Nodup, List.pairwise_iff_getElem] at hd
 have hj' := (List.getElem?_eq_some_iff.1 hj)
 have hk' := (List.getElem?_eq_some_iff.1 hk)
 have := hd j k (by simpa using hj'.1) (by simpa using hk'.1) hne
 simp only [List.getElem_map] at this
 rw [hj'.2, hk'.2] at this
 rw [beq_eq_false_iff_ne]
 intro e
 apply this
 rw [ByteArray.toList_eq, ByteArray.toList_eq] at e
 exact ByteArray.ext (Array.ext' e)
set_option maxHeartbeats 8000000 in
set_option maxRecDepth 100000 in
theorem start_ok (B0 b : Nat) (p : Ps) (n : ByteArray) (al : List (ByteArray × ByteArray)) (kd : Int) (vs : Value) (L2 : Nat) (w : World) (hp : PsAt w B0 b p) (hr : RoomOk p false) (hel : ElOk n al) (hvs : w.ownsRow L2 69 2 vs al.length ((rawA al).flatMap attrVs))
 (hsz : ∀ a ∈ al, a.2.size ≤ 268435456) (hkd : kd = 1 ∨ kd = 3) (hE : EntW w) (hV : Env w) (hLw : B0 ≤ w.heap.size) :
 Calls Tryz.prog 59 #[.pointer (some ⟨b, 0, none⟩), .agg (tokC kd n vs ⟨#[]⟩)] w fun e w' => e = .returned (.int .i64 0) ∧ PsAt w' B0 b (p.step (if kd = 1 then .beg n al else .emp n al)) ∧ Below B0 w w' := by
 have hrl : (rawA al).length = al.length := by simp [rawA]
 obtain ⟨A, c, rfl, hmc, -, hsl, -⟩ := own_sl (f := attrVs) (size := 2) (fun _ => rfl) hrl hvs
 have hall : ∀ a ∈ rawA al, xnm a.1 = true := fun a ha => by
  obtain ⟨x, hx, rfl⟩ := List.mem_map.1 ha
  exact (hel.each x hx).1
 have HAt : Hid (AttrsAt w A al.length (rawA al)) := hsl
 have HNm := Lib.hid (fun s w h => XName_ok s w h)
 have HRm := Lib.hid (fun w' (hx : Ext w w') => room_ok B0 b p false w' (hp.ext hx) hr)
 have HAll := Lib.hid hall
 have HEl := Lib.hid hel
 have hm16 := hel.few
 have hfew := hr.few
 have hdeep := hr.deep
 obtain ⟨nodes, opn, joined⟩ := p
 obtain ⟨vn, vo, hB, hN, hO, hLb⟩ := hp
 dsimp only at *
 have HO := Lib.hid hO
 obtain ⟨hs0, hN1, hN2, hN3⟩ := hN
 obtain ⟨An, cn, rfl, hcn, -⟩ := own_len hN1
 obtain ⟨Ao, co, rfl, hco, -⟩ := own_len hO
 have HB := Lib.hid hB
 have HN1 := Lib.hid hN1
 have HN2 := Lib.hid hN2
 have HN3 := Lib.hid hN3
 have HMe := Lib.hid (fun (t : ByteArray) w' (hx : Ext w w') hv hs => meaning_ok t w' (hE.ext hx) (hV.ext hx) hv hs)
 have hbl := hB.lt
 have HRl := Lib.hid hrl
 obtain ⟨W0, hW0⟩ : ∃ W0, W0 = w.alloc (.cells (tokC kd n (.slice A al.length c) ⟨#[]⟩) 106) := ⟨_, rfl⟩
 have HX0 : Hid (Ext w W0) := by show Ext _ _; rw [hW0]; exact (Ext.refl w).alloc _
 have HT0 : Hid (Blk W0 w.heap.size 106 (tokC kd n (.slice A al.length c) ⟨#[]⟩)) := by show Blk _ _ _ _; rw [hW0]; exact Blk.new _ _ _
 have HZ0 : Hid (W0.heap.size = w.heap.size + 1) := by show _ = _; rw [hW0]; simp
 have hct := fun o => HT0.out.cell o
 clear hB hN1 hN2 hN3 hO hE hV hel hvs hsl hall hr
 unfold tokC at hct hW0
 rw [hW0] at hct
 go_enter Tryz.func59, Tryz.ntmps59
 unfold tokC
 go_wp2_with fail
 rw [← hW0]
 clear hct hW0
 go_loopw [24, 5] (fun v u wr => N1Rel w W0 n (rawA al) v u wr) (fun v _ _ => al.length - (intOf v).toNat)
 case atStart => exact ⟨0, Nat.zero_le _, rfl, by simpa [strVs] using own_new1 (x := .string n) (T := 9) (base := w.heap.size + 1) HZ0.out.symm (Nat.le_refl _), (Ext.refl W0).alloc _⟩
 case round =>
  obtain ⟨k, hk, rfl, hown, hx⟩ := hrel
  rw [HRl.out] at hk
  have HXr := Lib.hid hx
  have HOr := Lib.hid hown
  clear hx hown
  by_cases hlt : k < al.length
  · obtain ⟨g, off, a, rfl, ha, hc1, hc2⟩ := attr_at (HAt.out.ext (HX0.out.trans HXr.out)) hlt
    have HTk := Lib.hid (take_snoc' (rawA al) k a ha)
    clear ha
    go_wp2_with (at_builtin; refine wpList_append1 rfl (.tmp 28) (.tmp 31) 93 rfl info_strX Tryz.underlying93 rfl (by decide) ((HOr.out.alloc _).alloc _) (by exact rfl) (wr.heap.size + 1) _ (by exact rfl) (by exact Blk.new' (by simp)) (by exact rfl) (by simp [Value.oneCell']) (by omega) (by simp [maxLen]; omega) (by simp only [World.size_alloc]; have := HXr.out.size; have := HZ0.out; omega) ?_; intro v' w7 hown7 hgr)
    refine ⟨⟨k + 1, by rw [HRl.out]; omega, by go_num, ?_, ((HXr.out.alloc _).alloc _).grown hgr (fun q hq => by have := own_lt HOr.out q hq; have := HZ0.out; omega)⟩, by simp [intOf]; omega⟩
    rw [HTk.out, List.flatMap_append, ← List.append_assoc]
    exact hown7
  · have hkl : k = al.length := by omega
    subst hkl
    have hfull : (rawA al).take al.length = rawA al := List.take_of_length_le (by rw [HRl.out]; exact Nat.le_refl _)
    rw [hfull] at HOr
    clear hfull
    obtain ⟨gn, cnn, rfl, hgL, -⟩ := own_form HOr.out (by omega)
    go_wp2_with fail
    go_loopw [36] (fun v wr2 => N2Rel wr (al.length + 1) v wr2) (fun v _ => al.length + 1 - (intOf v).toNat)
    case atStart => exact ⟨0, Nat.zero_le _, rfl, Ext.refl _⟩
    case round =>
     obtain ⟨k, hk, rfl, hx2⟩ := hrel
     have HX2 := Lib.hid hx2
     clear hx2
     by_cases hlt2 : k < al.length + 1
     · obtain ⟨nm, hnm, hnv⟩ := names_at HEl.out.nm HAll.out (k := k) (by rw [HRl.out]; exact hlt2)
       have hcn2 := HX2.out.cell ((HOr.out.cellAt k (by omega)).trans hnm)
       have HNk := Lib.hid (fun w => HNm.out nm w hnv)
       clear hnm hnv
       go_wp2_with fail
       refine (HNk.out _).mono ?_
       rintro e w' ⟨rfl, rfl⟩
       go_wp2_with fail
       exact ⟨⟨k + 1, by omega, by go_num, HX2.out⟩, by simp [intOf]; omega⟩
     · have hkl2 : k = al.length + 1 := by omega
       subst hkl2
       have HX3 := Lib.hid (HXr.out.trans HX2.out)
       have HT3 := Lib.hid (HT0.out.ext HX3.out)
       have HXw := Lib.hid (HX0.out.trans HX3.out)
       have HB3 := Lib.hid (HB.out.ext HXw.out)
       have hct3 := fun o => HT3.out.cell o
       unfold tokC at hct3 HT3
       have d16 : decide (16 < al.length) = false := decide_eq_false (by omega)
       have d16' : ¬ 16 < al.length := by omega
       go_wp2_with fail
       clear hct3
       refine wp_region_allocs [some 48, some 49, some 50, some 51, some 52, some 53, some 54, some 55, some 10, none] [[], [0], [], [2], [3], [4], [5], [1, 6], [], [8, 7, 0, 1, 2, 3, 4, 5, 6, 7, 8]] [9] [8] [.pointer (some ⟨w.heap.size, 1, none⟩), .string n, .pointer (some ⟨b, 0, none⟩), .pointer (some ⟨b, 0, none⟩), .pointer (some ⟨b, 1, none⟩), .slice Ao opn.length co, .int .i64 (opn.length : Int), .agg #[.string n, .string ⟨#[]⟩, .slice none 0 0, .int .i64 (opn.length : Int)], undef, undef] (fun _ => .cells ndZ 87) (VrJ 87 8 ndZ #[.string n, .string ⟨#[]⟩, .slice none 0 0, .int .i64 (opn.length : Int)] wr) (by kernel_rfl) (by kernel_rfl) (by kernel_rfl) (by kernel_rfl) (by kernel_rfl) (by kernel_rfl) (by kernel_rfl) (by decide) (by kernel_rfl) ?_ ?_ ?_ ?_ ?_ ?_
       · exact VrJ.start wr
       · intro i o ho ha a w' K' hk
         match i, ho with
         | 0, ho => simp at ha
         | 1, ho => simp at ha
         | 2, ho => simp at ha
         | 3, ho => simp at ha
         | 4, ho => simp at ha
         | 5, ho => simp at ha
         | 6, ho => simp at ha
         | 7, ho => simp at ha
         | 8, ho =>
          simp only [List.getElem?_toArray, List.getElem?_cons_zero, List.getElem?_cons_succ, Option.some.injEq] at ho
          subst ho
          exact wp_alloc_nd rfl hk
         | 9, ho => simp at ha
         | i + 10, ho => simp at ho
       · intro i ha us gs w' hJ hn hlim
         match i, ha with
         | 0, ha => simp at ha
         | 1, ha => simp at ha
         | 2, ha => simp at ha
         | 3, ha => simp at ha
         | 4, ha => simp at ha
         | 5, ha => simp at ha
         | 6, ha => simp at ha
         | 7, ha => simp at ha
         | 8, ha => exact hJ.alloc (hlim 0 9 rfl rfl)
         | 9, ha => simp at ha
         | i + 10, ha => simp at ha
       · intro i o ho hc ha a w' us gs K' hJ hF hlim hk
         match i, ho with
         | 0, ho =>
          simp only [List.getElem?_toArray, List.getElem?_cons_zero, List.getElem?_cons_succ, Option.some.injEq] at ho
          subst ho
          have e3 := hF.old 3 (.pointer (some ⟨w.heap.size, 0, none⟩)) rfl rfl
          simp only [Act.eval] at e3
          clear hF hlim hJ
          go_simp
          exact hk
         | 1, ho =>
          simp only [List.getElem?_toArray, List.getElem?_cons_zero, List.getElem?_cons_succ, Option.some.injEq] at ho
          subst ho
          have e48 := hF.pure 0 48 (.pointer (some ⟨w.heap.size, 1, none⟩)) rfl rfl rfl rfl rfl
          have hcl := (HT3.out.ext hJ.ext).cell 1
          simp only [List.getElem?_toArray, List.getElem?_cons_zero, List.getElem?_cons_succ] at hcl
          simp only [Act.eval] at e48
          clear hF hlim hJ
          go_simp
          exact hk
         | 2, ho =>
          simp only [List.getElem?_toArray, List.getElem?_cons_zero, List.getElem?_cons_succ, Option.some.injEq] at ho
          subst ho
          have e0 := hF.old 0 (.pointer (some ⟨b, 0, none⟩)) rfl rfl
          simp only [Act.eval] at e0
          clear hF hlim hJ
          go_simp
          exact hk
         | 3, ho =>
          simp only [List.getElem?_toArray, List.getElem?_cons_zero, List.getElem?_cons_succ, Option.some.injEq] at ho
          subst ho
          have e50 := hF.pure 2 50 (.pointer (some ⟨b, 0, none⟩)) rfl rfl rfl rfl rfl
          simp only [Act.eval] at e50
          clear hF hlim hJ
          go_simp
          exact hk
         | 4, ho =>
          simp only [List.getElem?_toArray, List.getElem?_cons_zero, List.getElem?_cons_succ, Option.some.injEq] at ho
          subst ho
          have e51 := hF.pure 3 51 (.pointer (some ⟨b, 0, none⟩)) rfl rfl rfl rfl rfl
          simp only [Act.eval] at e51
          clear hF hlim hJ
          go_simp
          exact hk
         | 5, ho =>
          simp only [List.getElem?_toArray, List.getElem?_cons_zero, List.getElem?_cons_succ, Option.some.injEq] at ho
          subst ho
          have e52 := hF.pure 4 52 (.pointer (some ⟨b, 1, none⟩)) rfl rfl rfl rfl rfl
          have hcl := (HB3.out.ext hJ.ext).cell 1
          simp only [List.getElem?_toArray, List.getElem?_cons_zero, List.getElem?_cons_succ] at hcl
          simp only [Act.eval] at e52
          clear hF hlim hJ
          go_simp
          exact hk
         | 6, ho =>
          simp only [List.getElem?_toArray, List.getElem?_cons_zero, List.getElem?_cons_succ, Option.some.injEq] at ho
          subst ho
          have e53 := hF.pure 5 53 (.slice Ao opn.length co) rfl rfl rfl rfl rfl
          simp only [Act.eval] at e53
          clear hF hlim hJ
          go_simp
          exact hk
         | 7, ho =>
          simp only [List.getElem?_toArray, List.getElem?_cons_zero, List.getElem?_cons_succ, Option.some.injEq] at ho
          subst ho
          have e49 := hF.pure 1 49 (.string n) rfl rfl rfl rfl rfl
          have e54 := hF.pure 6 54 (.int .i64 (opn.length : Int)) rfl rfl rfl rfl rfl
          simp [Act.eval] at e49 e54
          clear hF hlim hJ
          go_simp
          exact hk
         | 8, ho => simp at ha
         | 9, ho => simp at hc
         | i + 10, ho => simp at ho
       · intro p c' o hp ho a w' us gs K' hl hJ hF hk
         match p, hp with
         | 0, hp =>
          obtain rfl : 9 = c' := by simpa using hp
          simp only [List.getElem?_toArray, List.getElem?_cons_zero, List.getElem?_cons_succ, Option.some.injEq] at ho
          subst ho
          obtain rfl : us = [] := List.eq_nil_of_length_eq_zero hl
          obtain ⟨g10, hg10, e10⟩ := hF.ptr 8 10 rfl rfl rfl rfl
          have e55 := hF.pure 7 55 (.agg #[.string n, .string ⟨#[]⟩, .slice none 0 0, .int .i64 (opn.length : Int)]) rfl rfl rfl rfl rfl
          exact wp_storeBx 87 (.tmp 10) (.tmp 55) rfl g10 87 _ _ e10 e55 (by exact size_nodeI) (by simp [Value.oneCell']) (hJ.blk hg10 (by simp)) rfl (hk undef _ (hJ.store hg10 rfl))
         | p + 1, hp => simp at hp
       intro us gs w4 hl hgs hJ
       obtain ⟨u0, rfl⟩ := list_1 hl
       obtain ⟨g8, hg8⟩ := Option.isSome_iff_exists.1 (hgs 8 rfl)
       first | (rename_i hK; refine hK _ _ ?_; clear hK) | (rename_i hK hK_1; refine hK _ _ ?_; clear hK) | (rename_i hK hK_1 hK_2; refine hK _ _ ?_; clear hK) | (rename_i hK hK_1 hK_2 hK_3; refine hK _ _ ?_; clear hK)
       generalize hL : frameA _ _ _ _ _ _ = L
       obtain rfl : L = [(48, .pointer (some ⟨w.heap.size, 1, none⟩)), (49, .string n), (50, .pointer (some ⟨b, 0, none⟩)), (51, .pointer (some ⟨b, 0, none⟩)), (52, .pointer (some ⟨b, 1, none⟩)), (53, .slice Ao opn.length co), (54, .int .i64 (opn.length : Int)), (55, .agg #[.string n, .string ⟨#[]⟩, .slice none 0 0, .int .i64 (opn.length : Int)]), (10, .pointer ((gs 8).map fun g => ⟨g, 0, none⟩))] := hL.symm.trans (by kernel_rfl)
       rw [hg8]
       clear hL hl
       simp only [Act.put, Option.map_some, List.foldl_cons, List.foldl_nil, List.setIfInBounds_toArray, List.set_cons_zero, List.set_cons_succ]
       have hv8 := (hJ.va g8 hg8).2
       rw [if_neg (by simp)] at hv8
       have hg8L := (hJ.va g8 hg8).1
       have HX4 := Lib.hid hJ.ext
       have HG4 := Lib.hid hv8
       clear hJ hv8 hgs
       have HX4w := Lib.hid (HXw.out.trans HX4.out)
       have HT4 := Lib.hid (HT3.out.ext HX4.out)
       have hct4 := fun o => HT4.out.cell o
       have hw4 := HX4w.out.size
       have hg8w := HG4.out.lt
       have hg8b : w.heap.size < g8 := by have := HX3.out.size; have := HZ0.out; omega
       go_wp2_with fail
       clear hct4
       go_loopw [59] (fun v wr4 => N4Rel w n al #[.int .i64 kd, .string n, .slice A al.length c, .string ⟨#[]⟩] opn.length g8 w4.heap.size v wr4) (fun v _ => al.length - (intOf v).toNat)
       case atStart => exact ⟨0, .slice none 0 0, Nat.zero_le _, rfl, HG4.out, ⟨rfl, .inl ⟨rfl, rfl⟩⟩, HT4.out, HX4w.out, Nat.le_refl _⟩
       case round =>
        obtain ⟨k, va, hk, rfl, hnb, hown4, htb, hx5, hzb⟩ := hrel
        have HNb := Lib.hid hnb
        have HO4 := Lib.hid hown4
        have HTb := Lib.hid htb
        have HX5 := Lib.hid hx5
        clear hnb hown4 htb hx5
        by_cases hlt4 : k < al.length
        · obtain ⟨g, off, a, rfl, ha, hc1, hc2⟩ := attr_at (HAt.out.ext HX5.out) hlt4
          obtain ⟨x, hx, rfl⟩ := raw_at ha
          dsimp only at hc1 hc2
          obtain ⟨W5, hW5⟩ : ∃ W5, W5 = wr.alloc (.cells #[.string x.1, .string (escS x.2)] 69) := ⟨_, rfl⟩
          obtain ⟨gA, hgA⟩ : ∃ gA, gA = wr.heap.size := ⟨_, rfl⟩
          have HA5 : Hid (Blk W5 gA 69 #[.string x.1, .string (escS x.2)]) := by show Blk _ _ _ _; rw [hW5, hgA]; exact Blk.new _ _ _
          have HXr5 : Hid (Ext wr W5) := by show Ext _ _; rw [hW5]; exact (Ext.refl wr).alloc _
          have hct5 : ∀ o, (wr.alloc (.cells #[.string x.1, .string (escS x.2)] 69)).cell? ⟨w.heap.size, o, none⟩ = (#[.int .i64 kd, .string n, .slice (some ⟨g, off, none⟩) al.length c, .string ⟨#[]⟩] : Array Value)[o]? := fun o => (HTb.out.alloc _).cell o
          have HXa := Lib.hid hx
          clear ha
          go_wp2_with fail
          rw [← hW5, ← hgA]
          clear hct5 hW5
          have HNb5 := Lib.hid (HNb.out.ext HXr5.out)
          have HO5 := Lib.hid (own_ext HO4.out HXr5.out)
          have HTb5 := Lib.hid (HTb.out.ext HXr5.out)
          have HX5w := Lib.hid (HX5.out.trans HXr5.out)
          have hzb5 : w4.heap.size ≤ W5.heap.size := Nat.le_trans hzb HXr5.out.size
          clear hgA
          go_loopw [69] (fun v wr6 => N2Rel W5 k v wr6) (fun v _ => k - (intOf v).toNat)
          case atStart => exact ⟨0, Nat.zero_le _, rfl, Ext.refl _⟩
          case round =>
           obtain ⟨j, hj, rfl, hx6⟩ := hrel
           have HX6 := Lib.hid hx6
           clear hx6
           have HX6w := Lib.hid (HX5w.out.trans HX6.out)
           have HA6 := Lib.hid (HA5.out.ext HX6.out)
           by_cases hlt6 : j < k
           · obtain ⟨g', off', a', hA', ha', hd1, hd2⟩ := attr_at (HAt.out.ext HX6w.out) (show j < al.length by omega)
             cases hA'
             obtain ⟨y, hy, rfl⟩ := raw_at ha'
             dsimp only at hd1 hd2
             have hneq := dist_ne HEl.out.dist hy HXa.out hlt6
             have hca6 : ∀ o, (wr.alloc (.cells #[.string y.1, .string (escS y.2)] 69)).cell? ⟨gA, o, none⟩ = (#[.string x.1, .string (escS x.2)] : Array Value)[o]? := fun o => (HA6.out.alloc _).cell o
             go_wp2_with fail
             exact ⟨⟨j + 1, by omega, by go_num, HX6.out.alloc _⟩, by simp [intOf]; omega⟩
           · have hjk : j = k := by omega
             subst hjk
             have HNb6 := Lib.hid (HNb5.out.ext HX6.out)
             have HO6 := Lib.hid (own_ext HO5.out HX6.out)
             have HTb6 := Lib.hid (HTb5.out.ext HX6.out)
             have hx16 := HEl.out.each x (List.mem_of_getElem? HXa.out)
             have HMx := Lib.hid (HMe.out x.2 wr HX6w.out hx16.2 (hsz x (List.mem_of_getElem? HXa.out)))
             have hca6 := fun o => HA6.out.cell o
             clear hx16
             go_wp2_with fail
             refine HMx.out.mono ?_
             rintro e w7 ⟨rfl, hx7⟩
             have HX7 := Lib.hid (HX6w.out.trans hx7)
             have HNb7 := Lib.hid (HNb6.out.ext hx7)
             have HO7 := Lib.hid (own_ext HO6.out hx7)
             have HTb7 := Lib.hid (HTb6.out.ext hx7)
             have HA7 := Lib.hid (HA6.out.ext hx7)
             have hxx7 := hx7.size
             clear hx7 hca6
             have hz7 := HX7.out.size
             have hg7 := HNb7.out.lt
             have hcn7 := fun o => HNb7.out.cell o
             have hca7 := fun o => HA7.out.cell o
             have hzb7 : w4.heap.size ≤ w7.heap.size := Nat.le_trans hzb5 (Nat.le_trans HX6.out.size hxx7)
             have HTk := Lib.hid (take_snoc' al j x HXa.out)
             go_wp2_with (at_builtin; refine wpList_append1 rfl (.tmp 89) (.tmp 94) 85 rfl info_attrI Tryz.underlying85 rfl (by decide) (HO7.out.alloc _) (by exact rfl) w7.heap.size _ (by exact rfl) (by exact Blk.new' rfl) (by exact rfl) (by simp [Value.oneCell']) (by omega) (by simp [maxLen]; omega) (by simp only [World.size_alloc]; omega) ?_; intro v' w8 hown8 hgr; have HN8 := Lib.hid (Blk.grownX (HNb7.out.alloc _) hgr (own_typed (HO7.out.alloc _)) (by decide)); have HT8 := Lib.hid (Blk.grownX (HTb7.out.alloc _) hgr (own_typed (HO7.out.alloc _)) (by decide)); have HX8 := Lib.hid ((HX7.out.alloc _).grown hgr (fun q hq => Nat.le_trans hw4 (own_lt HO7.out q hq))); have hz8 := hgr.size; obtain ⟨g9, cap9, rfl, -, -⟩ := own_form hown8 (by omega); have HO8 := Lib.hid hown8; clear hown8 hgr; have hcn8 := fun o => HN8.out.cell o; have hfn8 := fun o => HN8.out.frozen o; have hsn8 := fun u => setCell_put HN8.out 2 u)
             refine ⟨⟨_, _, _, _, _, _, .int .i64 ((j : Int) + 1), ⟨j + 1, .slice (some ⟨g9, 0, none⟩) (j + 1) cap9, by omega, by go_num, HN8.out.put _, ?_, HT8.out.put_other (by omega) _, HX8.out.put (by omega) _ _, ?_⟩, rfl, rfl, rfl, rfl, rfl, rfl, rfl⟩, by simp [intOf]; omega⟩
             · rw [HTk.out, List.flatMap_append]
               exact own_kbX HO8.out (KB.put HN8.out (by decide))
             · rw [putB_size]
               simp only [World.size_alloc] at hz8
               omega
        · have hkm : k = al.length := by omega
          subst hkm
          rw [List.take_length] at HO4
          have HRo := Lib.hid (HRm.out wr HX5.out)
          go_wp2_with fail
          refine HRo.out.mono ?_
          rintro e w' ⟨rfl, rfl⟩
          go_wp2_with fail
          have HB5 := Lib.hid (HB.out.ext HX5.out)
          have h1va := own_one HO4.out
          have hwz5 := HX5.out.size
          refine wp_region_links [some 103, some 104, some 105, some 106, some 107, some 108, some 109, some 110, some 111, some 112, none] [[], [], [1], [2], [3], [], [5], [4, 6], [0, 0, 1, 2, 3, 4, 5, 6, 7], [8, 0, 1, 2, 3, 4, 5, 6, 7], [9, 7, 7, 0, 1, 2, 3, 4, 5, 6, 7]] [6, 7, 10] [.pointer (some ⟨b, 0, none⟩), .pointer (some ⟨b, 0, none⟩), .pointer (some ⟨b, 0, none⟩), .pointer (some ⟨b, 0, none⟩), .slice An nodes.length cn, .agg #[.string n, .string ⟨#[]⟩, va, .int .i64 (opn.length : Int)], undef, undef, .pointer (some ⟨b, 0, none⟩), .pointer (some ⟨b, 0, none⟩), undef] (SxJ 87 104 4 #[.string n, .string ⟨#[]⟩, va, .int .i64 (opn.length : Int)] B0 (.slice An nodes.length cn) nodes.length (hs0.flatMap NdH.vals) b 0 #[.slice An nodes.length cn, .slice Ao opn.length co, .bool joined] wr) (by kernel_rfl) (by kernel_rfl) (by kernel_rfl) (by kernel_rfl) (by kernel_rfl) (by kernel_rfl) (by kernel_rfl) (by decide) ?_ ?_ ?_ ?_
          · exact SxJ.start HB5.out
          · intro i o ho hc a w' us K' hJ hF hlim hk
            match i, ho with
            | 0, ho =>
             simp only [List.getElem?_toArray, List.getElem?_cons_zero, List.getElem?_cons_succ, Option.some.injEq] at ho
             subst ho
             have e0 := hF.old 0 (.pointer (some ⟨b, 0, none⟩)) rfl rfl
             simp only [Act.eval] at e0
             clear hF hlim hJ
             go_simp
             exact hk
            | 1, ho =>
             simp only [List.getElem?_toArray, List.getElem?_cons_zero, List.getElem?_cons_succ, Option.some.injEq] at ho
             subst ho
             have e0 := hF.old 0 (.pointer (some ⟨b, 0, none⟩)) rfl rfl
             simp only [Act.eval] at e0
             clear hF hlim hJ
             go_simp
             exact hk
            | 2, ho =>
             simp only [List.getElem?_toArray, List.getElem?_cons_zero, List.getElem?_cons_succ, Option.some.injEq] at ho
             subst ho
             have e104 := hF.pure 1 104 (.pointer (some ⟨b, 0, none⟩)) rfl rfl rfl rfl
             simp only [Act.eval] at e104
             clear hF hlim hJ
             go_simp
             exact hk
            | 3, ho =>
             simp only [List.getElem?_toArray, List.getElem?_cons_zero, List.getElem?_cons_succ, Option.some.injEq] at ho
             subst ho
             have e105 := hF.pure 2 105 (.pointer (some ⟨b, 0, none⟩)) rfl rfl rfl rfl
             simp only [Act.eval] at e105
             clear hF hlim hJ
             go_simp
             exact hk
            | 4, ho =>
             simp only [List.getElem?_toArray, List.getElem?_cons_zero, List.getElem?_cons_succ, Option.some.injEq] at ho
             subst ho
             have e106 := hF.pure 3 106 (.pointer (some ⟨b, 0, none⟩)) rfl rfl rfl rfl
             have hcl := (hJ.pb (by have := hlim 1 7 rfl rfl; omega)).cell 0
             simp only [List.getElem?_toArray, List.getElem?_cons_zero, List.getElem?_cons_succ] at hcl
             simp only [Act.eval] at e106
             clear hF hlim hJ
             go_simp
             exact hk
            | 5, ho =>
             simp only [List.getElem?_toArray, List.getElem?_cons_zero, List.getElem?_cons_succ, Option.some.injEq] at ho
             subst ho
             have e10 := hF.old 10 (.pointer (some ⟨g8, 0, none⟩)) rfl rfl
             obtain rfl : us = [] := List.eq_nil_of_length_eq_zero (by have := hlim 0 6 rfl rfl; omega)
             exact wp_loadB 87 (.tmp 10) rfl _ 87 _ _ e10 (HNb.out.ext hJ.st) Tryz.underlying87 rfl (by exact size_nodeI) hk
            | 6, ho => simp at hc
            | 7, ho => simp at hc
            | 8, ho =>
             simp only [List.getElem?_toArray, List.getElem?_cons_zero, List.getElem?_cons_succ, Option.some.injEq] at ho
             subst ho
             have e103 := hF.pure 0 103 (.pointer (some ⟨b, 0, none⟩)) rfl rfl rfl rfl
             simp only [Act.eval] at e103
             clear hF hlim hJ
             go_simp
             exact hk
            | 9, ho =>
             simp only [List.getElem?_toArray, List.getElem?_cons_zero, List.getElem?_cons_succ, Option.some.injEq] at ho
             subst ho
             have e111 := hF.pure 8 111 (.pointer (some ⟨b, 0, none⟩)) rfl rfl rfl rfl
             simp only [Act.eval] at e111
             clear hF hlim hJ
             go_simp
             exact hk
            | 10, ho => simp at hc
            | i + 11, ho => simp at ho
          · intro p c' o hp ho a w' us K' hl hJ hF hk
            match p, hp with
            | 0, hp =>
             obtain rfl : 6 = c' := by simpa using hp
             simp only [List.getElem?_toArray, List.getElem?_cons_zero, List.getElem?_cons_succ, Option.some.injEq] at ho
             subst ho
             obtain rfl : us = [] := List.eq_nil_of_length_eq_zero hl
             have e108 := hF.pure 5 108 (.agg #[.string n, .string ⟨#[]⟩, va, .int .i64 (opn.length : Int)]) rfl rfl rfl rfl
             have HK := Lib.hid (hk (.slice (some ⟨w'.heap.size, 0, none⟩) 1 1) (w'.alloc (.cells #[.string n, .string ⟨#[]⟩, va, .int .i64 (opn.length : Int)] 87)) hJ.build)
             simp [Act.eval] at e108
             clear hk hF hJ
             go_simp
             exact HK.out
            | 1, hp =>
             obtain rfl : 7 = c' := by simpa using hp
             simp only [List.getElem?_toArray, List.getElem?_cons_zero, List.getElem?_cons_succ, Option.some.injEq] at ho
             subst ho
             obtain ⟨u0, rfl⟩ := list_1 hl
             obtain ⟨⟨gu, rfl, hBu⟩, hxu⟩ := hJ.st
             have e107 := hF.pure 4 107 (.slice An nodes.length cn) rfl rfl rfl rfl
             have e109 := hF.link 0 6 109 _ rfl rfl rfl rfl
             exact wp_append1x (.tmp 107) (.tmp 109) 37 rfl info_nodeI Tryz.underlying37 rfl (by decide) (own_ext (own_ext HN1.out HX5.out) hxu) e107 gu _ e109 hBu rfl (by simp [Value.oneCell']; exact h1va) (by omega) (by simp [maxLen]; omega) (by have := hxu.size; omega) (fun v' wz hoz hgz hlz => hk v' wz (hJ.app (own_typed (own_ext (own_ext HN1.out HX5.out) hxu)) (by decide) hgz hoz))
            | 2, hp =>
             obtain rfl : 10 = c' := by simpa using hp
             simp only [List.getElem?_toArray, List.getElem?_cons_zero, List.getElem?_cons_succ, Option.some.injEq] at ho
             subst ho
             obtain ⟨u0, u1, rfl⟩ := list_2 hl
             obtain ⟨wq, hxq, hgq, hoq⟩ := hJ.st
             obtain ⟨gv, cv, rfl, -, -⟩ := own_form hoq (by omega)
             have e112 := hF.pure 9 112 (.pointer (some ⟨b, 0, none⟩)) rfl rfl rfl rfl
             have e110 := hF.link 1 7 110 _ rfl rfl rfl rfl
             have hbk := hJ.pb (by simp)
             have hcl := hbk.cell 0
             simp only [List.getElem?_toArray, List.getElem?_cons_zero, List.getElem?_cons_succ] at hcl
             have hfz := hbk.frozen 0
             have hsl := setCell_put hbk 0 (.slice (some ⟨gv, 0, none⟩) (nodes.length + 1) cv)
             have HK := Lib.hid (hk undef _ (hJ.store (u2 := undef)))
             simp [Act.eval] at e110 e112
             clear hk hF hJ
             go_simp
             exact HK.out
            | p + 3, hp => simp at hp
          intro us w9 hl hJ
          obtain ⟨u0, u1, u2, rfl⟩ := list_3 hl
          first | (rename_i hK; refine hK _ _ ?_; clear hK) | (rename_i hK hK_1; refine hK _ _ ?_; clear hK) | (rename_i hK hK_1 hK_2; refine hK _ _ ?_; clear hK) | (rename_i hK hK_1 hK_2 hK_3; refine hK _ _ ?_; clear hK)
          generalize hL : frameL _ _ _ _ = L
          obtain rfl : L = [(103, .pointer (some ⟨b, 0, none⟩)), (104, .pointer (some ⟨b, 0, none⟩)), (105, .pointer (some ⟨b, 0, none⟩)), (106, .pointer (some ⟨b, 0, none⟩)), (107, .slice An nodes.length cn), (108, .agg #[.string n, .string ⟨#[]⟩, va, .int .i64 (opn.length : Int)]), (109, u0), (110, u1), (111, .pointer (some ⟨b, 0, none⟩)), (112, .pointer (some ⟨b, 0, none⟩))] := hL.symm.trans (by kernel_rfl)
          clear hL hl
          simp only [Act.put, List.foldl_cons, List.foldl_nil, List.setIfInBounds_toArray, List.set_cons_zero, List.set_cons_succ]
          obtain ⟨w6, w7, hx6, hg6, ho6, hb7, rfl⟩ := hJ.st
          obtain ⟨gv, cv, rfl, -, -⟩ := own_form ho6 (by omega)
          have ePC : (#[.slice An nodes.length cn, .slice Ao opn.length co, .bool joined] : Array Value).setIfInBounds 0 (.slice (some ⟨gv, 0, none⟩) (nodes.length + 1) cv) = #[.slice (some ⟨gv, 0, none⟩) (nodes.length + 1) cv, .slice Ao opn.length co, .bool joined] := rfl
          rw [ePC]
          have HX6 := Lib.hid (HX5.out.trans hx6)
          have HN6 := Lib.hid (own_ext HN1.out HX6.out)
          have HTy : Hid (∀ q, (Value.slice An nodes.length cn).ownBlock = some q → Typed w6 87 q) := own_typed HN6.out
          have HAv := Lib.hid (own_ext HO4.out hx6)
          have HT6 := Lib.hid (HTb.out.ext hx6)
          have HG6 := Lib.hid hg6
          have HO6 := Lib.hid ho6
          have HB7 := Lib.hid hb7
          have HT7 := Lib.hid (Blk.grownX HT6.out hg6 HTy.out (by decide))
          have HB8 := Lib.hid (hb7.put #[.slice (some ⟨gv, 0, none⟩) (nodes.length + 1) cv, .slice Ao opn.length co, .bool joined])
          have HT8 := Lib.hid (HT7.out.put_other (g' := b) (t' := 104) (by omega) #[.slice (some ⟨gv, 0, none⟩) (nodes.length + 1) cv, .slice Ao opn.length co, .bool false])
          have hc8 := fun o => HB8.out.cell o
          have hf8 := fun o => HB8.out.frozen o
          have ht8 := fun o => HT8.out.cell o
          have hs8 : (putB w7 b 104 #[.slice (some ⟨gv, 0, none⟩) (nodes.length + 1) cv, .slice Ao opn.length co, .bool joined]).setCell ⟨b, 2, none⟩ (.bool false) = putB w7 b 104 #[.slice (some ⟨gv, 0, none⟩) (nodes.length + 1) cv, .slice Ao opn.length co, .bool false] := by
           rw [setCell_put HB8.out 2, putB_putB]; rfl
          clear hJ hx6 hg6 ho6 hb7 ePC
          have hN7 : NodesOwn w7 B0 (.slice (some ⟨gv, 0, none⟩) (nodes.length + 1) cv) (nodes ++ [⟨n, ByteArray.empty, al, opn.length⟩]) :=
           nodes_snoc (h := ⟨n, ⟨#[]⟩, va, opn.length⟩) HN6.out HN2.out (fun i y q a c => (HN3.out i y q a c).kb (KB.ext HX6.out)) HG6.out ⟨rfl, rfl, rfl, own_le' HAv.out (by omega)⟩ HO6.out
          have hS7 : StrsOwn w7 B0 (.slice Ao opn.length co) opn := own_kbX (own_ext HO.out HX6.out) (KB.grown HG6.out HTy.out (by decide))
          have hW7 : Below B0 w w7 := (Below.mono HX6.out hLw).grown HG6.out (by have := HX6.out.size; omega) (fun q hq => own_lt HN6.out q hq)
          obtain ⟨wf, hwf⟩ : ∃ wf, wf = putB w7 b 104 #[.slice (some ⟨gv, 0, none⟩) (nodes.length + 1) cv, .slice Ao opn.length co, .bool false] := ⟨_, rfl⟩
          have HBf : Hid (Blk wf b 104 #[.slice (some ⟨gv, 0, none⟩) (nodes.length + 1) cv, .slice Ao opn.length co, .bool false]) := by show Blk _ _ _ _; rw [hwf]; exact HB7.out.put _
          have HTf : Hid (Blk wf w.heap.size 106 #[.int .i64 kd, .string n, .slice A al.length c, .string ⟨#[]⟩]) := by show Blk _ _ _ _; rw [hwf]; exact HT8.out
          have HNf : Hid (NodesOwn wf B0 (.slice (some ⟨gv, 0, none⟩) (nodes.length + 1) cv) (nodes ++ [⟨n, ByteArray.empty, al, opn.length⟩])) := by show NodesOwn _ _ _ _; rw [hwf]; exact hN7.kb (KB.put HB7.out (by decide)) (KB.put HB7.out (by decide))
          have HOf : Hid (wf.ownsRow B0 9 1 (.slice Ao opn.length co) opn.length (opn.flatMap strVs)) := by show World.ownsRow _ _ _ _ _ _ _; rw [hwf]; exact own_kbX hS7 (KB.put HB7.out (by decide))
          have HWf : Hid (Below B0 w wf) := by show Below _ _ _; rw [hwf]; exact below_put' hW7 hLb _ _
          have hzf : w.heap.size ≤ wf.heap.size := HWf.out.size
          clear hN7 hS7 hW7
          have hkdd : kd = 1 ∨ kd = 3 := hkd
          have htf := fun o => HTf.out.cell o
          rw [hwf] at htf
          rcases hkdd with rfl | rfl
          · go_wp2_with fail
            rw [← hwf]
            clear hc8 hf8 ht8 hs8 htf hwf
            refine wp_region_links [some 119, some 120, some 121, some 122, some 123, some 124, some 125, some 126, some 127, some 128, some 129, none] [[], [], [1], [2], [3], [], [5], [6], [4, 7], [0, 0, 1, 2, 3, 4, 5, 6, 7, 8], [9, 0, 1, 2, 3, 4, 5, 6, 7, 8], [10, 8, 8, 0, 1, 2, 3, 4, 5, 6, 7, 8]] [7, 8, 11] [.pointer (some ⟨b, 0, none⟩), .pointer (some ⟨b, 0, none⟩), .pointer (some ⟨b, 0, none⟩), .pointer (some ⟨b, 1, none⟩), .slice Ao opn.length co, .pointer (some ⟨w.heap.size, 1, none⟩), .string n, undef, undef, .pointer (some ⟨b, 0, none⟩), .pointer (some ⟨b, 1, none⟩), undef] (SxJ 9 104 1 #[.string n] B0 (.slice Ao opn.length co) opn.length (opn.flatMap strVs) b 1 #[.slice (some ⟨gv, 0, none⟩) (nodes.length + 1) cv, .slice Ao opn.length co, .bool false] wf) (by kernel_rfl) (by kernel_rfl) (by kernel_rfl) (by kernel_rfl) (by kernel_rfl) (by kernel_rfl) (by kernel_rfl) (by decide) ?_ ?_ ?_ ?_
            · exact SxJ.start HBf.out
            · intro i o ho hc a w' us K' hJ hF hlim hk
              match i, ho with
              | 0, ho =>
               simp only [List.getElem?_toArray, List.getElem?_cons_zero, List.getElem?_cons_succ, Option.some.injEq] at ho
               subst ho
               have e0 := hF.old 0 (.pointer (some ⟨b, 0, none⟩)) rfl rfl
               simp only [Act.eval] at e0
               clear hF hlim hJ
               go_simp
               exact hk
              | 1, ho =>
               simp only [List.getElem?_toArray, List.getElem?_cons_zero, List.getElem?_cons_succ, Option.some.injEq] at ho
               subst ho
               have e0 := hF.old 0 (.pointer (some ⟨b, 0, none⟩)) rfl rfl
               simp only [Act.eval] at e0
               clear hF hlim hJ
               go_simp
               exact hk
              | 2, ho =>
               simp only [List.getElem?_toArray, List.getElem?_cons_zero, List.getElem?_cons_succ, Option.some.injEq] at ho
               subst ho
               have e120 := hF.pure 1 120 (.pointer (some ⟨b, 0, none⟩)) rfl rfl rfl rfl
               simp only [Act.eval] at e120
               clear hF hlim hJ
               go_simp
               exact hk
              | 3, ho =>
               simp only [List.getElem?_toArray, List.getElem?_cons_zero, List.getElem?_cons_succ, Option.some.injEq] at ho
               subst ho
               have e121 := hF.pure 2 121 (.pointer (some ⟨b, 0, none⟩)) rfl rfl rfl rfl
               simp only [Act.eval] at e121
               clear hF hlim hJ
               go_simp
               exact hk
              | 4, ho =>
               simp only [List.getElem?_toArray, List.getElem?_cons_zero, List.getElem?_cons_succ, Option.some.injEq] at ho
               subst ho
               have e122 := hF.pure 3 122 (.pointer (some ⟨b, 1, none⟩)) rfl rfl rfl rfl
               have hcl := (hJ.pb (by have := hlim 1 8 rfl rfl; omega)).cell 1
               simp only [List.getElem?_toArray, List.getElem?_cons_zero, List.getElem?_cons_succ] at hcl
               simp only [Act.eval] at e122
               clear hF hlim hJ
               go_simp
               exact hk
              | 5, ho =>
               simp only [List.getElem?_toArray, List.getElem?_cons_zero, List.getElem?_cons_succ, Option.some.injEq] at ho
               subst ho
               have e3 := hF.old 3 (.pointer (some ⟨w.heap.size, 0, none⟩)) rfl rfl
               simp only [Act.eval] at e3
               clear hF hlim hJ
               go_simp
               exact hk
              | 6, ho =>
               simp only [List.getElem?_toArray, List.getElem?_cons_zero, List.getElem?_cons_succ, Option.some.injEq] at ho
               subst ho
               have e124 := hF.pure 5 124 (.pointer (some ⟨w.heap.size, 1, none⟩)) rfl rfl rfl rfl
               obtain rfl : us = [] := List.eq_nil_of_length_eq_zero (by have := hlim 0 7 rfl rfl; omega)
               have hcl := (HTf.out.ext hJ.st).cell 1
               simp only [List.getElem?_toArray, List.getElem?_cons_zero, List.getElem?_cons_succ] at hcl
               simp only [Act.eval] at e124
               clear hF hlim hJ
               go_simp
               exact hk
              | 7, ho => simp at hc
              | 8, ho => simp at hc
              | 9, ho =>
               simp only [List.getElem?_toArray, List.getElem?_cons_zero, List.getElem?_cons_succ, Option.some.injEq] at ho
               subst ho
               have e119 := hF.pure 0 119 (.pointer (some ⟨b, 0, none⟩)) rfl rfl rfl rfl
               simp only [Act.eval] at e119
               clear hF hlim hJ
               go_simp
               exact hk
              | 10, ho =>
               simp only [List.getElem?_toArray, List.getElem?_cons_zero, List.getElem?_cons_succ, Option.some.injEq] at ho
               subst ho
               have e128 := hF.pure 9 128 (.pointer (some ⟨b, 0, none⟩)) rfl rfl rfl rfl
               simp only [Act.eval] at e128
               clear hF hlim hJ
               go_simp
               exact hk
              | 11, ho => simp at hc
              | i + 12, ho => simp at ho
            · intro p c' o hp ho a w' us K' hl hJ hF hk
              match p, hp with
              | 0, hp =>
               obtain rfl : 7 = c' := by simpa using hp
               simp only [List.getElem?_toArray, List.getElem?_cons_zero, List.getElem?_cons_succ, Option.some.injEq] at ho
               subst ho
               obtain rfl : us = [] := List.eq_nil_of_length_eq_zero hl
               have e125 := hF.pure 6 125 (.string n) rfl rfl rfl rfl
               have HK := Lib.hid (hk (.slice (some ⟨w'.heap.size, 0, none⟩) 1 1) (w'.alloc (.cells #[.string n] 9)) hJ.build)
               simp [Act.eval] at e125
               clear hk hF hJ
               go_simp
               exact HK.out
              | 1, hp =>
               obtain rfl : 8 = c' := by simpa using hp
               simp only [List.getElem?_toArray, List.getElem?_cons_zero, List.getElem?_cons_succ, Option.some.injEq] at ho
               subst ho
               obtain ⟨u0, rfl⟩ := list_1 hl
               obtain ⟨⟨gu, rfl, hBu⟩, hxu⟩ := hJ.st
               have e123 := hF.pure 4 123 (.slice Ao opn.length co) rfl rfl rfl rfl
               have e126 := hF.link 0 7 126 _ rfl rfl rfl rfl
               exact wp_append1x (.tmp 123) (.tmp 126) 93 rfl info_strX Tryz.underlying93 rfl (by decide) (own_ext HOf.out hxu) e123 gu _ e126 hBu rfl (by simp [Value.oneCell']) (by omega) (by simp [maxLen]; omega) (by have := hxu.size; omega) (fun v' wz hoz hgz hlz => hk v' wz (hJ.app (own_typed (own_ext HOf.out hxu)) (by decide) hgz hoz))
              | 2, hp =>
               obtain rfl : 11 = c' := by simpa using hp
               simp only [List.getElem?_toArray, List.getElem?_cons_zero, List.getElem?_cons_succ, Option.some.injEq] at ho
               subst ho
               obtain ⟨u0, u1, rfl⟩ := list_2 hl
               obtain ⟨wq, hxq, hgq, hoq⟩ := hJ.st
               obtain ⟨gs, cs, rfl, -, -⟩ := own_form hoq (by omega)
               have e129 := hF.pure 10 129 (.pointer (some ⟨b, 1, none⟩)) rfl rfl rfl rfl
               have e127 := hF.link 1 8 127 _ rfl rfl rfl rfl
               have hbk := hJ.pb (by simp)
               have hcl := hbk.cell 1
               simp only [List.getElem?_toArray, List.getElem?_cons_zero, List.getElem?_cons_succ] at hcl
               have hfz := hbk.frozen 1
               have hsl := setCell_put hbk 1 (.slice (some ⟨gs, 0, none⟩) (opn.length + 1) cs)
               have HK := Lib.hid (hk undef _ (hJ.store (u2 := undef)))
               simp [Act.eval] at e127 e129
               clear hk hF hJ
               go_simp
               exact HK.out
              | p + 3, hp => simp at hp
            intro us wg hl hJ
            obtain ⟨u0, u1, u2, rfl⟩ := list_3 hl
            first | (rename_i hK; refine hK _ _ ?_; clear hK) | (rename_i hK hK_1; refine hK _ _ ?_; clear hK) | (rename_i hK hK_1 hK_2; refine hK _ _ ?_; clear hK) | (rename_i hK hK_1 hK_2 hK_3; refine hK _ _ ?_; clear hK)
            generalize hL : frameL _ _ _ _ = L
            obtain rfl : L = [(119, .pointer (some ⟨b, 0, none⟩)), (120, .pointer (some ⟨b, 0, none⟩)), (121, .pointer (some ⟨b, 0, none⟩)), (122, .pointer (some ⟨b, 1, none⟩)), (123, .slice Ao opn.length co), (124, .pointer (some ⟨w.heap.size, 1, none⟩)), (125, .string n), (126, u0), (127, u1), (128, .pointer (some ⟨b, 0, none⟩)), (129, .pointer (some ⟨b, 1, none⟩))] := hL.symm.trans (by kernel_rfl)
            clear hL hl
            simp only [Act.put, List.foldl_cons, List.foldl_nil, List.setIfInBounds_toArray, List.set_cons_zero, List.set_cons_succ]
            obtain ⟨w8, w9, hx8, hg8', ho8, hb9, rfl⟩ := hJ.st
            obtain ⟨gz, cz, rfl, -, -⟩ := own_form ho8 (by omega)
            have ePD : (#[.slice (some ⟨gv, 0, none⟩) (nodes.length + 1) cv, .slice Ao opn.length co, .bool false] : Array Value).setIfInBounds 1 (.slice (some ⟨gz, 0, none⟩) (opn.length + 1) cz) = #[.slice (some ⟨gv, 0, none⟩) (nodes.length + 1) cv, .slice (some ⟨gz, 0, none⟩) (opn.length + 1) cz, .bool false] := rfl
            rw [ePD]
            go_wp2_with fail
            go_ret
            have hN9 := ((HNf.out.ext hx8).kb (KB.grown hg8' (own_typed (own_ext HOf.out hx8)) (by decide)) (KB.grown hg8' (own_typed (own_ext HOf.out hx8)) (by decide))).kb (KB.put (cs' := #[.slice (some ⟨gv, 0, none⟩) (nodes.length + 1) cv, .slice (some ⟨gz, 0, none⟩) (opn.length + 1) cz, .bool false]) hb9 (by decide)) (KB.put hb9 (by decide))
            refine ⟨rfl, ⟨_, _, hb9.put _, ?_, ?_, hLb⟩, ?_⟩
            · exact hN9
            · show StrsOwn _ _ _ (opn ++ [n])
              unfold StrsOwn
              rw [List.length_append, List.flatMap_append]
              exact own_kbX ho8 (KB.put hb9 (by decide))
            · exact below_put' ((HWf.out.trans (Below.mono hx8 (by omega))).grown hg8' (by have := hx8.size; omega) (fun q hq => own_lt HOf.out q hq)) hLb _ _
          · go_wp2_with fail
            rw [← hwf]
            go_ret
            refine ⟨rfl, ⟨_, _, HBf.out, ?_, HOf.out, hLb⟩, HWf.out⟩
            exact HNf.out
end
section
open Go.RowKit
def TkSm : Tk → Prop
 | .txt s => s.size ≤ 268435456
 | .fin _ => True
 | .beg _ al => ∀ a ∈ al, a.2.size ≤ 268435456
 | .emp _ al => ∀ a ∈ al, a.2.size ≤ 268435456
set_option maxHeartbeats 4000000 in
set_option maxRecDepth 100000 in
theorem take_start (B0 b : Nat) (p : Ps) (n : ByteArray) (al : List (ByteArray × ByteArray)) (kd : Int) (vs : Value) (L2 : Nat) (first : Bool) (w : World) (hp : PsAt w B0 b p) (hr : RoomOk p false) (hel : ElOk n al) (hvs : w.ownsRow L2 69 2 vs al.length ((rawA al).flatMap attrVs))
 (hsz : ∀ a ∈ al, a.2.size ≤ 268435456) (hkd : kd = 1 ∨ kd = 3) (hE : EntW w) (hV : Env w) (hLw : B0 ≤ w.heap.size) :
 Calls Tryz.prog 31 #[.pointer (some ⟨b, 0, none⟩), .agg (tokC kd n vs ⟨#[]⟩), .bool first] w fun e w' => e = .returned (.int .i64 0) ∧ PsAt w' B0 b (p.step (if kd = 1 then .beg n al else .emp n al)) ∧ Below B0 w w' := by
 have hx : Ext w (w.alloc (.cells (tokC kd n vs ⟨#[]⟩) 106)) := (Ext.refl w).alloc _
 have HS := Lib.hid (start_ok B0 b p n al kd vs L2 _ (hp.ext hx) hr hel (own_ext hvs hx) hsz hkd (hE.ext hx) (hV.ext hx) (Nat.le_trans hLw hx.size))
 have HB := Lib.hid (Blk.new w 106 (tokC kd n vs ⟨#[]⟩))
 have HX := Lib.hid hx
 have h1c := own_one hvs
 have hc := fun o => HB.out.cell o
 have d0 : (kd == 0) = false := by rcases hkd with rfl | rfl <;> rfl
 have d2 : (kd == 2) = false := by rcases hkd with rfl | rfl <;> rfl
 have d4 : (kd == 4) = false := by rcases hkd with rfl | rfl <;> rfl
 obtain ⟨q, hq⟩ : ∃ q, q = p.step (if kd = 1 then .beg n al else .emp n al) := ⟨_, rfl⟩
 rw [← hq] at HS ⊢
 clear hp hr hel hvs hsz hkd hE hV hx hq
 unfold tokC at hc
 go_enter Tryz.func31, Tryz.ntmps31
 unfold tokC at HB HS HX ⊢
 go_wp2_with (refine wpList_loadB rfl 106 (.tmp 4) rfl w.heap.size 106 _ _ (by exact rfl) (by exact HB.out) Tryz.underlying106 rfl (by exact size_tokI) ?_)
 refine HS.out.mono ?_
 rintro e w2 ⟨rfl, hp2, hx2⟩
 go_wp2_with fail
 go_ret
 exact ⟨rfl, hp2, (Below.mono HX.out hLw).trans hx2⟩
set_option maxHeartbeats 4000000 in
set_option maxRecDepth 100000 in
theorem take_end (B0 b : Nat) (p : Ps) (n : ByteArray) (first : Bool) (w : World) (hp : PsAt w B0 b p) (hl : p.opn.getLast? = some n) (hn : xnm n = true) (hLw : B0 ≤ w.heap.size) :
 Calls Tryz.prog 31 #[.pointer (some ⟨b, 0, none⟩), .agg (tokC 2 n (.slice none 0 0) ⟨#[]⟩), .bool first] w fun e w' => e = .returned (.int .i64 0) ∧ PsAt w' B0 b (p.step (.fin n)) ∧ Below B0 w w' := by
 have hx : Ext w (w.alloc (.cells (tokC 2 n (.slice none 0 0) ⟨#[]⟩) 106)) := (Ext.refl w).alloc _
 have HS := Lib.hid (end_ok B0 b p n _ (hp.ext hx) hl hn (Nat.le_trans hLw hx.size))
 have HB := Lib.hid (Blk.new w 106 (tokC 2 n (.slice none 0 0) ⟨#[]⟩))
 have HX := Lib.hid hx
 have hc := fun o => HB.out.cell o
 clear hp hl hn hx
 unfold tokC at hc
 go_enter Tryz.func31, Tryz.ntmps31
 unfold tokC at HB HS HX ⊢
 go_wp2_with (refine wpList_loadB rfl 106 (.tmp 4) rfl w.heap.size 106 _ _ (by exact rfl) (by exact HB.out) Tryz.underlying106 rfl (by exact size_tokI) ?_)
 refine HS.out.mono ?_
 rintro e w2 ⟨rfl, hp2, hx2⟩
 go_wp2_with fail
 go_ret
 exact ⟨rfl, hp2, (Below.mono HX.out hLw).trans hx2⟩
set_option maxHeartbeats 4000000 in
set_option maxRecDepth 100000 in
theorem take_text (B0 b : Nat) (p : Ps) (t : ByteArray) (first : Bool) (w : World) (hp : PsAt w B0 b p) (hr : RoomOk p true) (hj : p.joined = false) (hv : vld t = true) (hs : t.size ≤ 268435456) (hE : EntW w) (hV : Env w) (hLw : B0 ≤ w.heap.size) :
 Calls Tryz.prog 31 #[.pointer (some ⟨b, 0, none⟩), .agg (tokC 0 ⟨#[]⟩ (.slice none 0 0) (escS t)), .bool first] w fun e w' => e = .returned (.int .i64 0) ∧ PsAt w' B0 b (p.step (.txt t)) ∧ Below B0 w w' := by
 have hx : Ext w (w.alloc (.cells (tokC 0 ⟨#[]⟩ (.slice none 0 0) (escS t)) 106)) := (Ext.refl w).alloc _
 have HS := Lib.hid (text_ok B0 b p t _ (hp.ext hx) hr hj hv hs (hE.ext hx) (hV.ext hx) (Nat.le_trans hLw hx.size))
 have HB := Lib.hid (Blk.new w 106 (tokC 0 ⟨#[]⟩ (.slice none 0 0) (escS t)))
 have HX := Lib.hid hx
 have hc := fun o => HB.out.cell o
 clear hp hr hj hv hs hE hV hx
 unfold tokC at hc
 go_enter Tryz.func31, Tryz.ntmps31
 unfold tokC at HB HS HX ⊢
 go_wp2_with fail
 refine HS.out.mono ?_
 rintro e w2 ⟨rfl, hp2, hx2⟩
 go_wp2_with fail
 go_ret
 exact ⟨rfl, hp2, (Below.mono HX.out hLw).trans hx2⟩
theorem take_any (B0 b : Nat) (p : Ps) (t : Tk) (v : Value) (L2 : Nat) (first : Bool) (w : World) (hp : PsAt w B0 b p) (hok : TkOk p t) (hv : TokAt w L2 v t) (hs : TkSm t) (hE : EntW w) (hV : Env w) (hLw : B0 ≤ w.heap.size) :
 Calls Tryz.prog 31 #[.pointer (some ⟨b, 0, none⟩), v, .bool first] w fun e w' => e = .returned (.int .i64 0) ∧ PsAt w' B0 b (p.step t) ∧ Below B0 w w' := by
 cases t with
 | txt s =>
  have hv' : v = _ := hv
  rw [hv']
  exact take_text B0 b p s first w hp hok.1 hok.2.1 hok.2.2.1 hs hE hV hLw
 | fin n =>
  have hv' : v = _ := hv
  rw [hv']
  exact take_end B0 b p n first w hp hok.1 hok.2 hLw
 | beg n al =>
  obtain ⟨vs, rfl, ho⟩ := hv
  have := take_start B0 b p n al 1 vs L2 first w hp hok.1 hok.2 ho hs (.inl rfl) hE hV hLw
  rwa [if_pos rfl] at this
 | emp n al =>
  obtain ⟨vs, rfl, ho⟩ := hv
  have := take_start B0 b p n al 3 vs L2 first w hp hok.1 hok.2 ho hs (.inr rfl) hE hV hLw
  rwa [if_neg (by decide)] at this
end
end Go.Proofs.YtbmblnhfmpolbaaGreatDoor