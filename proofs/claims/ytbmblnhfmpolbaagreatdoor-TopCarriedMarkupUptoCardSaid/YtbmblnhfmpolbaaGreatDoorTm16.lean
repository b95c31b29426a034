/- Texts laid together. -/
import Derived.Test.YtbmblnhfmpolbaaGreatDoorTm15
import Derived.Test.YtbmblnhfmpolbaaGreatDoorTm14
import Derived.Lib.ParseIntB
import Derived.Test.YtbmblnhfmpolbaaGreatDoorTm04
import Derived.Sort.Grow
import Derived.Lib.LaidTab
import Derived.Test.YtbmblnhfmpolbaaGreatDoorTm10
import Derived.Test.YtbmblnhfmpolbaaGreatDoorTm02
import Derived.Test.YtbmblnhfmpolbaaGreatDoorShelf
set_option linter.unusedVariables false
set_option linter.unusedSimpArgs false
namespace Go.Proofs.YtbmblnhfmpolbaaGreatDoor
section
open Go.RowKit
def TreeAt (w : World) (B b : Nat) (l : List Nd) : Prop := ∃ v, Blk w b 66 #[v] ∧ NodesOwn w B v l ∧ B ≤ b
theorem TreeAt.ext {w w1 : World} {B b : Nat} {l : List Nd} (h : TreeAt w B b l) (k : Ext w w1) : TreeAt w1 B b l := by
 obtain ⟨v, h1, h2, h3⟩ := h
 exact ⟨v, h1.ext k, h2.ext k, h3⟩
def KpT (w w1 : World) : Prop := ∀ T : TypeId, T ≠ 66 → T ≠ 87 → KB T w w1
theorem KpT.ext {w w1 : World} (h : Ext w w1) : KpT w w1 := fun _ _ _ => KB.ext h
theorem KpT.trans {w w1 w2 : World} (h : KpT w w1) (k : KpT w1 w2) : KpT w w2 := fun T a b => (h T a b).trans (k T a b)
def ElRel (w : World) (n : ByteArray) (d : Nat) (al : List (ByteArray × ByteArray)) (v : Value) (wr : World) : Prop :=
 ∃ (k : Nat) (va : Value), k ≤ al.length ∧ v = .int .i64 k ∧ Blk wr w.heap.size 87 #[.string n, .string ⟨#[]⟩, va, .int .i64 (d : Int)] ∧ wr.ownsRow w.heap.size 69 2 va (attrsF (al.take k)).length ((attrsF (al.take k)).flatMap attrVs) ∧ Ext w wr ∧ w.heap.size < wr.heap.size
theorem attrsF_snoc {al : List (ByteArray × ByteArray)} {k : Nat} {a : ByteArray × ByteArray} (h : al[k]? = some a) : attrsF (al.take (k + 1)) = if a.2.size ≠ 0 then attrsF (al.take k) ++ [a] else attrsF (al.take k) := by
 unfold attrsF
 rw [take_snoc' al k a h, List.filter_append]
 by_cases hs : a.2.size = 0
 · rw [if_neg (fun h => h hs), List.filter_cons, if_neg (by simp only [decide_eq_true_eq]; exact fun h => h hs), List.filter_nil, List.append_nil]
 · rw [if_pos hs, List.filter_cons, if_pos (by simp only [decide_eq_true_eq]; exact hs), List.filter_nil]
theorem attrsF_le (al : List (ByteArray × ByteArray)) (k : Nat) : (attrsF (al.take k)).length ≤ k := by
 have h1 := List.length_filter_le (fun a : ByteArray × ByteArray => decide (a.2.size ≠ 0)) (al.take k)
 have h2 : (al.take k).length ≤ k := by rw [List.length_take]; omega
 exact Nat.le_trans h1 h2
set_option maxHeartbeats 8000000 in
set_option maxRecDepth 100000 in
theorem element_any (B b : Nat) (l : List Nd) (d : Nat) (n : ByteArray) (A : Option Addr) (m c : Nat) (al : List (ByteArray × ByteArray)) (w : World) (ht : TreeAt w B b l) (hat : AttrsAt w A m al) (hm : m ≤ 16) (hl : l.length ≤ 1000000) :
 Calls Tryz.prog 18 #[.pointer (some ⟨b, 0, none⟩), .int .i64 d, .string n, .slice A m c] w fun e w' => e = .returned (.tuple #[]) ∧ TreeAt w' B b (l ++ [elN n al d]) ∧ Below B w w' ∧ KpT w w' := by
 have hml : al.length = m := hat.len
 obtain ⟨vt, hB, hN, hLb⟩ := ht
 obtain ⟨hs0, hN1, hN2, hN3⟩ := hN
 obtain ⟨An, cn, rfl, hcn, -⟩ := own_len hN1
 have HAt := Lib.hid hat
 have HB := Lib.hid hB
 have HN1 := Lib.hid hN1
 have HN2 := Lib.hid hN2
 have HN3 := Lib.hid hN3
 have hbl := hB.lt
 have HMl := Lib.hid hml
 clear hat hB hN1 hN2 hN3 hml
 go_enter Tryz.func18, Tryz.ntmps18
 go_wp2_with fail
 go_loopw [16] (fun v wr => ElRel w n d al v wr) (fun v _ => m - (intOf v).toNat)
 case atStart => exact ⟨0, .slice none 0 0, Nat.zero_le _, rfl, Blk.new w _ _, ⟨rfl, .inl ⟨rfl, rfl⟩⟩, (Ext.refl w).alloc _, by simp⟩
 case round =>
  obtain ⟨k, va, hk, rfl, hb1, ho1, hx1, hz1⟩ := hrel
  rw [HMl.out] at hk
  have HBn := Lib.hid hb1
  have HO := Lib.hid ho1
  have HX := Lib.hid hx1
  have hbn := hb1.lt
  obtain ⟨Ao, co, rfl, hco, -⟩ := own_len ho1
  by_cases hlt : k < m
  · obtain ⟨ga, offa, aa, rfl, ha, ca0, ca1⟩ := attr_at (HAt.out.ext HX.out) hlt
    have HTk := Lib.hid (attrsF_snoc ha)
    have hfl := attrsF_le al k
    obtain ⟨a1, a2⟩ := aa
    dsimp only at ca0 ca1 HTk
    have HBa := Lib.hid (Blk.new wr 69 #[.string a1, .string a2])
    have hcb := fun o => HBa.out.cell o
    have hcn0 := fun o => (HBn.out.ext ((Ext.refl wr).alloc (.cells #[.string a1, .string a2] 69))).cell o
    clear hb1 ho1 hx1 ha
    by_cases hz : a2.size = 0
    · obtain rfl := str_no hz
      go_wp2_with fail
      exact ⟨⟨k + 1, .slice Ao (attrsF (al.take k)).length co, by rw [HMl.out]; omega, by go_num, HBn.out.alloc _, by rw [HTk.out, if_neg (fun h => h rfl)]; exact own_ext HO.out ((Ext.refl _).alloc _), HX.out.alloc _, by simp; omega⟩, by simp [intOf]; omega⟩
    · have hz2 := str_ne2 hz
      have hz3 := str_ne hz
      rw [if_pos hz] at HTk
      have hfn0 := fun o => (HBn.out.ext ((Ext.refl wr).alloc (.cells #[.string a1, .string a2] 69))).frozen o
      obtain ⟨q, hq⟩ : ∃ q, q = (attrsF (al.take k)).length := ⟨_, rfl⟩
      rw [← hq] at HO hfl hcn0 HBn hco
      have HQ := Lib.hid hq
      clear hq
      go_wp2_with (at_builtin; refine wpList_append1 rfl (.tmp 24) (.tmp 26) 85 rfl info_attrI Tryz.underlying85 rfl (by decide) (own_ext HO.out (((Ext.refl wr).alloc _).alloc _)) (by exact rfl) (wr.heap.size + 1) _ (by exact rfl) (by exact Blk.new' (by simp)) (by exact rfl) (by simp [Value.oneCell']) (by omega) (by simp [maxLen]; omega) (by simp only [World.size_alloc]; omega) ?_; intro v' w8 hown8 hgr; have HN8 := Lib.hid (Blk.grownX ((HBn.out.alloc _).alloc _) hgr (own_typed (own_ext HO.out (((Ext.refl wr).alloc _).alloc _))) (by decide)); have HX8 := Lib.hid (((HX.out.alloc _).alloc _).grown hgr (fun q hq => own_lt HO.out q hq)); have hz8 := hgr.size; obtain ⟨g9, cap9, rfl, -, -⟩ := own_form hown8 (by omega); have HO8 := Lib.hid hown8; clear hown8 hgr; have hcn8 := fun o => HN8.out.cell o; have hfn8 := fun o => HN8.out.frozen o; have hsn8 := fun u => setCell_put HN8.out 2 u)
      exact ⟨⟨k + 1, .slice (some ⟨g9, 0, none⟩) (q + 1) cap9, by rw [HMl.out]; omega, by go_num, HN8.out.put _, by
       rw [HTk.out, List.length_append, List.flatMap_append, ← HQ.out]
       exact own_kbX HO8.out (KB.put HN8.out (by decide)), HX8.out.put (Nat.le_refl _) _ _, by rw [putB_size]; simp only [World.size_alloc] at hz8; omega⟩, by simp only [intOf]; omega⟩
  · have ek : k = m := by omega
    subst ek
    have htk : al.take k = al := List.take_of_length_le (by rw [HMl.out]; exact Nat.le_refl _)
    rw [htk] at HO HBn
    have HBt := Lib.hid (HB.out.ext HX.out)
    have HNt := Lib.hid (own_ext HN1.out HX.out)
    have h1va := own_one HO.out
    have hLw : B ≤ wr.heap.size := by have := HX.out.size; omega
    obtain ⟨va, hva⟩ : ∃ va, va = Value.slice Ao (attrsF al).length co := ⟨_, rfl⟩
    rw [← hva] at HBn h1va HO
    clear htk
    clear hva hb1 ho1 hx1
    go_upto_region 7 with fail
    refine wp_region_links [some 30, some 31, some 32, some 33, some 34, some 35, some 36, some 37, none] [[], [], [1], [2], [], [4], [3, 5], [0, 0, 1, 2, 3, 4, 5, 6], [7, 6, 6, 0, 1, 2, 3, 4, 5, 6]] [5, 6, 8] [.pointer (some ⟨b, 0, none⟩), .pointer (some ⟨b, 0, none⟩), .pointer (some ⟨b, 0, none⟩), .slice An l.length cn, .agg #[.string n, .string ⟨#[]⟩, va, .int .i64 (d : Int)], undef, undef, .pointer (some ⟨b, 0, none⟩), undef] (SxJ 87 66 4 #[.string n, .string ⟨#[]⟩, va, .int .i64 (d : Int)] B (.slice An l.length cn) l.length (hs0.flatMap NdH.vals) b 0 #[.slice An l.length cn] wr) (by kernel_rfl) (by kernel_rfl) (by kernel_rfl) (by kernel_rfl) (by kernel_rfl) (by kernel_rfl) (by kernel_rfl) (by decide) ?_ ?_ ?_ ?_
    · exact SxJ.start HBt.out
    · intro i o ho hc a w' us K' hJ hF hlim hk
      match i, ho with
      | 0, ho =>
       simp only [List.getElem?_toArray, List.getElem?_cons_zero, List.getElem?_cons_succ, Option.some.injEq] at ho
       subst ho
       have e0 := hF.old 0 (.pointer (some ⟨b, 0, none⟩)) rfl rfl
       simp only [Act.eval] at e0
       clear hF hlim hJ
       go_simp
       exact hk
      | 1, ho =>
       simp only [List.getElem?_toArray, List.getElem?_cons_zero, List.getElem?_cons_succ, Option.some.injEq] at ho
       subst ho
       have e0 := hF.old 0 (.pointer (some ⟨b, 0, none⟩)) rfl rfl
       simp only [Act.eval] at e0
       clear hF hlim hJ
       go_simp
       exact hk
      | 2, ho =>
       simp only [List.getElem?_toArray, List.getElem?_cons_zero, List.getElem?_cons_succ, Option.some.injEq] at ho
       subst ho
       have e31 := hF.pure 1 31 (.pointer (some ⟨b, 0, none⟩)) rfl rfl rfl rfl
       simp only [Act.eval] at e31
       clear hF hlim hJ
       go_simp
       exact hk
      | 3, ho =>
       simp only [List.getElem?_toArray, List.getElem?_cons_zero, List.getElem?_cons_succ, Option.some.injEq] at ho
       subst ho
       have e32 := hF.pure 2 32 (.pointer (some ⟨b, 0, none⟩)) rfl rfl rfl rfl
       have hcl := (hJ.pb (hlim 2 8 rfl rfl)).cell 0
       simp only [List.getElem?_toArray, List.getElem?_cons_zero, List.getElem?_cons_succ] at hcl
       simp only [Act.eval] at e32
       clear hF hlim hJ
       go_simp
       exact hk
      | 4, ho =>
       simp only [List.getElem?_toArray, List.getElem?_cons_zero, List.getElem?_cons_succ, Option.some.injEq] at ho
       subst ho
       have e8 := hF.old 8 (.pointer (some ⟨w.heap.size, 0, none⟩)) rfl rfl
       obtain rfl : us = [] := List.eq_nil_of_length_eq_zero (by have := hlim 0 5 rfl rfl; omega)
       exact wp_loadB 87 (.tmp 8) rfl _ 87 _ _ e8 (HBn.out.ext hJ.st) Tryz.underlying87 rfl (by exact size_nodeI) hk
      | 5, ho => simp at hc
      | 6, ho => simp at hc
      | 7, ho =>
       simp only [List.getElem?_toArray, List.getElem?_cons_zero, List.getElem?_cons_succ, Option.some.injEq] at ho
       subst ho
       have e30 := hF.pure 0 30 (.pointer (some ⟨b, 0, none⟩)) rfl rfl rfl rfl
       simp only [Act.eval] at e30
       clear hF hlim hJ
       go_simp
       exact hk
      | 8, ho => simp at hc
      | i + 9, ho => simp at ho
    · intro p c' o hp ho a w' us K' hl hJ hF hk
      match p, hp with
      | 0, hp =>
       obtain rfl : 5 = c' := by simpa using hp
       simp only [List.getElem?_toArray, List.getElem?_cons_zero, List.getElem?_cons_succ, Option.some.injEq] at ho
       subst ho
       obtain rfl : us = [] := List.eq_nil_of_length_eq_zero hl
       have e34 := hF.pure 4 34 (.agg #[.string n, .string ⟨#[]⟩, va, .int .i64 (d : Int)]) rfl rfl rfl rfl
       have HK := Lib.hid (hk (.slice (some ⟨w'.heap.size, 0, none⟩) 1 1) (w'.alloc (.cells #[.string n, .string ⟨#[]⟩, va, .int .i64 (d : Int)] 87)) hJ.build)
       simp [Act.eval] at e34
       clear hk hF hJ
       go_simp
       exact HK.out
      | 1, hp =>
       obtain rfl : 6 = c' := by simpa using hp
       simp only [List.getElem?_toArray, List.getElem?_cons_zero, List.getElem?_cons_succ, Option.some.injEq] at ho
       subst ho
       obtain ⟨u0, rfl⟩ := list_1 hl
       obtain ⟨⟨gu, rfl, hBu⟩, hxu⟩ := hJ.st
       have e33 := hF.pure 3 33 (.slice An l.length cn) rfl rfl rfl rfl
       have e35 := hF.link 0 5 35 _ rfl rfl rfl rfl
       exact wp_append1x (.tmp 33) (.tmp 35) 66 rfl info_nodeI Tryz.underlying66 rfl (by decide) (own_ext HNt.out hxu) e33 gu _ e35 hBu rfl (by simp [Value.oneCell']; exact h1va) (by omega) (by simp [maxLen]; omega) (by have := hxu.size; omega) (fun v' wz hoz hgz hlz => hk v' wz (hJ.app (own_typed (own_ext HNt.out hxu)) (by decide) hgz hoz))
      | 2, hp =>
       obtain rfl : 8 = c' := by simpa using hp
       simp only [List.getElem?_toArray, List.getElem?_cons_zero, List.getElem?_cons_succ, Option.some.injEq] at ho
       subst ho
       obtain ⟨u0, u1, rfl⟩ := list_2 hl
       obtain ⟨wq, hxq, hgq, hoq⟩ := hJ.st
       obtain ⟨gv, cv, rfl, -, -⟩ := own_form hoq (by omega)
       have e37 := hF.pure 7 37 (.pointer (some ⟨b, 0, none⟩)) rfl rfl rfl rfl
       have e36 := hF.link 1 6 36 _ rfl rfl rfl rfl
       have hbk := hJ.pb (by simp)
       have hcl := hbk.cell 0
       simp only [List.getElem?_toArray, List.getElem?_cons_zero, List.getElem?_cons_succ] at hcl
       have hfz := hbk.frozen 0
       have hsl := setCell_put hbk 0 (.slice (some ⟨gv, 0, none⟩) (l.length + 1) cv)
       have HK := Lib.hid (hk undef _ (hJ.store (u2 := undef)))
       simp [Act.eval] at e36 e37
       clear hk hF hJ
       go_simp
       exact HK.out
      | p + 3, hp => simp at hp
    intro us w5 hl hJ
    obtain ⟨u0, u1, u2, rfl⟩ := list_3 hl
    generalize hL : frameL _ _ _ _ = L
    obtain rfl : L = [(30, .pointer (some ⟨b, 0, none⟩)), (31, .pointer (some ⟨b, 0, none⟩)), (32, .pointer (some ⟨b, 0, none⟩)), (33, .slice An l.length cn), (34, .agg #[.string n, .string ⟨#[]⟩, va, .int .i64 (d : Int)]), (35, u0), (36, u1), (37, .pointer (some ⟨b, 0, none⟩))] := hL.symm.trans (by kernel_rfl)
    clear hL hl
    simp only [Act.put, List.foldl_cons, List.foldl_nil, List.setIfInBounds_toArray, List.set_cons_zero, List.set_cons_succ]
    obtain ⟨w6, w7, hx6, hg6, ho6, hb7, rfl⟩ := hJ.st
    obtain ⟨gv, cv, rfl, -, -⟩ := own_form ho6 (by omega)
    have hN6 := own_ext HNt.out hx6
    have hN7 : NodesOwn w7 B (.slice (some ⟨gv, 0, none⟩) (l.length + 1) cv) (l ++ [elN n al d]) :=
     nodes_snoc (h := ⟨n, ⟨#[]⟩, va, d⟩) hN6 HN2.out (fun i y q a c => (HN3.out i y q a c).kb (KB.ext (HX.out.trans hx6))) hg6 ⟨rfl, rfl, rfl, own_le' (own_ext HO.out hx6) (by omega)⟩ ho6
    have hW7 : Below B w w7 := (Below.mono (HX.out.trans hx6) (by omega)).grown hg6 (by have := hx6.size; omega) (fun q hq => own_lt hN6 q hq)
    have hK7 : KpT w w7 := (KpT.ext (HX.out.trans hx6)).trans fun T _ h2 => KB.grown hg6 (own_typed hN6) h2
    have HB8 := Lib.hid hb7
    have HN8 := Lib.hid hN7
    have HW8 := Lib.hid hW7
    have HK8 := Lib.hid hK7
    clear hJ hx6 hg6 ho6 hb7 hN6 hN7 hW7 hK7
    go_wp2_with fail
    go_end0
    exact ⟨rfl, ⟨_, HB8.out.put _, HN8.out.kb (KB.put HB8.out (by decide)) (KB.put HB8.out (by decide)), hLb⟩, below_put' HW8.out hLb _ _, HK8.out.trans fun T h1 _ => KB.put HB8.out h1⟩
end
section
theorem dig_nat (u : Nat) (h : u < 10) : (UInt8.ofNat (48 + u)).toNat = 48 + u := by rw [UInt8.toNat_ofNat']; exact Nat.mod_eq_of_lt (by omega)
theorem parseM_digits (M : Nat) (hM : 1000000000000000000 ≤ M) : ∀ (u acc : Nat) (rest : List UInt8), acc * 10 ^ Lib.nDigits u + u ≤ 1000000000000000000 → Lib.parseUintM M acc (Lib.decDigits u ++ rest) = Lib.parseUintM M (acc * 10 ^ Lib.nDigits u + u) rest := by
 intro u
 induction u using Nat.strongRecOn with
 | _ u ih =>
  intro acc rest hb
  by_cases h : u < 10
  · rw [Lib.decDigits, dif_pos h, Lib.nDigits_small h]
    rw [Lib.nDigits_small h, Nat.pow_one] at hb
    rw [List.singleton_append, Lib.parseUintM, dig_nat u h, if_pos (by omega), if_neg (by omega), if_neg (by omega)]
    congr 1
    omega
  · have hn := Lib.nDigits_big h
    have hm : u % 10 < 10 := Nat.mod_lt _ (by decide)
    have e : acc * 10 ^ Lib.nDigits u + u = (acc * 10 ^ Lib.nDigits (u / 10) + u / 10) * 10 + u % 10 := by
     rw [hn, Nat.pow_succ, ← Nat.mul_assoc]
     omega
    rw [e] at hb ⊢
    rw [Lib.decDigits, dif_neg h, List.append_assoc, ih (u / 10) (by omega) acc _ (by omega)]
    rw [List.singleton_append, Lib.parseUintM, dig_nat _ hm, if_pos (by omega), if_neg (by omega), if_neg (by omega)]
    congr 1
    omega
theorem digits_head : ∀ (u : Nat), ∃ c r, Lib.decDigits u = c :: r ∧ 48 ≤ c.toNat ∧ c.toNat ≤ 57 ∧ (c.toNat = 48 → r = []) := by
 intro u
 induction u using Nat.strongRecOn with
 | _ u ih =>
  by_cases h : u < 10
  · rw [Lib.decDigits, dif_pos h]
    exact ⟨_, _, rfl, by rw [dig_nat u h]; omega, by rw [dig_nat u h]; omega, fun _ => rfl⟩
  · obtain ⟨c, r, h1, h2, h3, h4⟩ := ih (u / 10) (by omega)
    rw [Lib.decDigits, dif_neg h, h1]
    refine ⟨c, _, rfl, h2, h3, fun e => ?_⟩
    have hr := h4 e
    subst hr
    exfalso
    by_cases h5 : u / 10 < 10
    · rw [Lib.decDigits, dif_pos h5] at h1
      injection h1 with h1 _
      rw [← h1, dig_nat _ h5] at e
      omega
    · have := Lib.decDigits_length (u / 10)
      rw [h1, Lib.nDigits_big h5] at this
      have h6 := Lib.nDigits_pos (u / 10 / 10)
      simp at this
      omega
theorem parse_dec {n : Int} (h0 : 0 ≤ n) (h1 : n ≤ 1000000000000000000) : Lib.parseIntB 64 (decS n).data.toList = .ok n := by
 have e : (decS n).data.toList = Lib.decDigits n.toNat := by
  unfold decS Lib.itoa
  rw [if_neg (by omega)]
 rw [e]
 have hp := parseM_digits (2 ^ 64 - 1) (by decide) n.toNat 0 [] (by omega)
 rw [List.append_nil] at hp
 obtain ⟨c, r, hc, h2, h3, -⟩ := digits_head n.toNat
 unfold Lib.parseIntB
 rw [hc] at hp ⊢
 simp only
 rw [if_neg (by omega)]
 unfold Lib.parseUintB
 rw [if_neg (by simp), hp]
 simp only [Nat.zero_mul, Nat.zero_add, Lib.parseUintM]
 rw [if_neg (by have : (2 : Nat) ^ (64 - 1) = 9223372036854775808 := (by decide); omega), if_neg (by omega), if_neg (by omega)]
 congr 1
 omega
end
section
open Go.RowKit
structure Extd (w w' : World) : Prop where
 ext : Ext w w'
 dr : w.drawn ≤ w'.drawn
section
variable {w w1 w2 : World}
theorem Extd.refl (w : World) : Extd w w := ⟨Ext.refl w, Nat.le_refl _⟩
theorem Extd.trans (h : Extd w w1) (k : Extd w1 w2) : Extd w w2 := ⟨h.ext.trans k.ext, Nat.le_trans h.dr k.dr⟩
theorem Extd.drew (h : Extd w w1) : Extd w w1.drew := ⟨h.ext.drew, Nat.le_succ_of_le h.dr⟩
theorem Extd.alloc (h : Extd w w1) (o : Obj) : Extd w (w1.alloc o) := ⟨h.ext.alloc o, h.dr⟩
theorem Extd.setCell (h : Extd w w1) {p : Addr} (hp : w.heap.size ≤ p.block) (u : Value) : Extd w (w1.setCell p u) := ⟨h.ext.setCell hp u, h.dr⟩
theorem Extd.grow (h : Extd w w1) : ∃ (q : Nat) (os : Array Obj), w1 = Sort.grow (w.drewN q) os := by
 obtain ⟨⟨h1, h2, h3, h4, h5⟩, h6⟩ := h
 refine ⟨w1.drawn - w.drawn, w1.heap.extract w.heap.size w1.heap.size, ?_⟩
 have hh : w1.heap = w.heap ++ w1.heap.extract w.heap.size w1.heap.size := by
  apply Array.ext_getElem?
  intro i
  by_cases hi : i < w.heap.size
  · rw [Array.getElem?_append_left hi]
    exact h5 i hi
  · rw [Array.getElem?_append_right (by omega), Array.getElem?_extract]
    by_cases hi2 : i < w1.heap.size
    · rw [if_pos (by omega), show w.heap.size + (i - w.heap.size) = i by omega]
    · rw [if_neg (by omega), Array.getElem?_eq_none (by omega)]
 unfold Sort.grow World.drewN
 dsimp only
 rw [← hh, ← h1, ← h2, ← h3, show w.drawn + (w1.drawn - w.drawn) = w1.drawn by omega]
theorem Extd.of_grow (w : World) (q : Nat) (os : Array Obj) : Extd w (Sort.grow (w.drewN q) os) := by
 refine ⟨⟨rfl, rfl, rfl, ?_, fun k hk => ?_⟩, Nat.le_add_right _ _⟩
 · show w.heap.size ≤ (w.heap ++ os).size
   rw [Array.size_append]; omega
 · show (w.heap ++ os)[k]? = _
   rw [Array.getElem?_append_left hk]
end
structure EWd (W : World) where
 w : World
 exd : Extd W w
theorem EWd.ext {W : World} (x : EWd W) : Ext W x.w := x.exd.ext
instance ewdInh (W : World) : Nonempty (EWd W) := ⟨⟨W, Extd.refl W⟩⟩
theorem EWd.calls {P : Program} {W : World} {f : FuncId} {args : Array Value} {v : Value} (x : EWd W) (h : Calls P f args x.w fun e w' => e = .returned v ∧ Extd x.w w') :
 Calls P f args x.w fun e w'' => e = .returned v ∧ ∃ y : EWd W, w'' = y.w :=
 h.mono fun _ w' ⟨he, hx⟩ => ⟨he, ⟨w', x.exd.trans hx⟩, rfl⟩
end
section
open Go.RowKit
def TabX (w : World) : Prop := Lib.TabIs Tryz.prog w "internal/strconv.uint64pow10" .u64 Lib.pow10Tab
theorem TabX.ext {w w1 : World} (h : TabX w) (k : Ext w w1) : TabX w1 := by
 unfold TabX Lib.TabIs World.var? at *
 cases hg : Tryz.prog.globalNamed "internal/strconv.uint64pow10" with
 | none => rw [hg] at h; simp at h
 | some g =>
  rw [hg] at h
  simp only [Option.bind_some] at h ⊢
  cases hb : w.heap[g]? with
  | none => rw [hb] at h; simp at h
  | some o =>
   rw [k.block g (Array.getElem?_eq_some_iff.1 hb).1]
   exact h
theorem grow_extX (w : World) (k : Nat) (os : Array Obj) : Ext w (Sort.grow (w.drewN k) os) := (Extd.of_grow w k os).ext
set_option maxHeartbeats 1000000 in
theorem DecimalX (n : Int) (w : World) (h0 : -9223372036854775808 ≤ n) (h1 : n ≤ 9223372036854775807) (ht : TabX w) : Calls Tryz.prog 22 #[.int .i64 n] w fun e w' => e = .returned (.string (decS n)) ∧ Ext w w' := by
 have HF : Hid (Calls Tryz.prog 86 #[.int .i64 n, .int .i64 10] w fun e w' => e = .returned (.string (decS n)) ∧ Ext w w') := by
  refine (Tryz.internal_strconv_FormatInt_10 n h0 h1 w ht).mono ?_
  rintro e w' ⟨rfl, k, os, rfl⟩
  exact ⟨rfl, grow_extX w k os⟩
 clear h0 h1 ht
 have HS : Hid (Calls Tryz.prog 42 #[.int .i64 n, .int .i64 10] w fun e w' => e = .returned (.string (decS n)) ∧ Ext w w') := by
  show Calls _ _ _ _ _
  go_enter Tryz.func42, Tryz.ntmps42
  go_wp2_with fail
  refine HF.out.mono ?_
  rintro e w1 ⟨rfl, hx⟩
  go_wp2_with fail
  go_ret
  exact ⟨rfl, hx⟩
 go_enter Tryz.func22, Tryz.ntmps22
 go_wp2_with fail
 refine HS.out.mono ?_
 rintro e w1 ⟨rfl, hx⟩
 go_wp2_with fail
 go_ret
 exact ⟨rfl, hx⟩
def attrV2 (n v : ByteArray) : Value := .agg #[.string n, .string v]
set_option maxHeartbeats 1000000 in
set_option maxRecDepth 100000 in
theorem number_any (s : ByteArray) (n : Int) (w : World) (h0 : 0 ≤ n) (h1 : n ≤ 1099511627776) (ht : TabX w) : Calls Tryz.prog 21 #[.string s, .int .i64 n] w fun e w' => e = .returned (attrV2 s (decS n)) ∧ Ext w w' := by
 have HX0 := Lib.hid ((Ext.refl w).alloc (.cells #[.string ⟨#[]⟩, .string ⟨#[]⟩] 69))
 have HB0 := Lib.hid (Blk.new w 69 #[.string ⟨#[]⟩, .string ⟨#[]⟩])
 have HD := Lib.hid (fun w' (hx : Ext w w') => DecimalX n w' (by omega) (by omega) (ht.ext hx))
 clear ht h0 h1
 go_enter Tryz.func21, Tryz.ntmps21
 go_wp2_with fail
 refine (HD.out _ HX0.out).mono ?_
 rintro e w1 ⟨rfl, hx1⟩
 have HX1 := Lib.hid (HX0.out.trans hx1)
 have HB1 := Lib.hid (HB0.out.ext hx1)
 clear hx1
 go_wp2_with (refine wpList_storeB rfl 69 (.tmp 4) (.tmp 8) rfl w.heap.size 69 _ _ (by exact rfl) (by exact rfl) (by exact HB1.out) (by exact rfl) (by exact size_attrI) (by simp [Value.oneCell']) ?_)
 refine bodyPost_ret (v := attrV2 s (decS n)) ?_ rfl ⟨rfl, HX1.out.put (Nat.le_refl _) _ _⟩
 exact results_B (P := Tryz.prog) Tryz.results21 (g := w.heap.size) rfl (by exact HB1.out.put _) Tryz.underlying69 rfl size_attrI
set_option maxHeartbeats 1000000 in
set_option maxRecDepth 100000 in
theorem flag_any (s : ByteArray) (b : Bool) (w : World) : Calls Tryz.prog 20 #[.string s, .bool b] w fun e w' => e = .returned (attrV2 s (flagS b)) ∧ Ext w w' := by
 have HX0 := Lib.hid ((Ext.refl w).alloc (.cells #[.string ⟨#[]⟩, .string ⟨#[]⟩] 69))
 have HB0 := Lib.hid (Blk.new w 69 #[.string ⟨#[]⟩, .string ⟨#[]⟩])
 cases b
 · go_enter Tryz.func20, Tryz.ntmps20
   go_wp2_with (refine wpList_storeB rfl 69 (.tmp 4) (.tmp 9) rfl w.heap.size 69 _ _ (by exact rfl) (by exact rfl) (by exact HB0.out) (by exact rfl) (by exact size_attrI) (by simp [Value.oneCell']) ?_)
   refine bodyPost_ret (v := attrV2 s (flagS false)) ?_ rfl ⟨rfl, HX0.out.put (Nat.le_refl _) _ _⟩
   exact results_B (P := Tryz.prog) Tryz.results20 (g := w.heap.size) rfl (by exact HB0.out.put _) Tryz.underlying69 rfl size_attrI
 · go_enter Tryz.func20, Tryz.ntmps20
   go_wp2_with (refine wpList_storeB rfl 69 (.tmp 4) (.tmp 7) rfl w.heap.size 69 _ _ (by exact rfl) (by exact rfl) (by exact HB0.out) (by exact rfl) (by exact size_attrI) (by simp [Value.oneCell']) ?_)
   refine bodyPost_ret (v := attrV2 s (flagS true)) ?_ rfl ⟨rfl, HX0.out.put (Nat.le_refl _) _ _⟩
   exact results_B (P := Tryz.prog) Tryz.results20 (g := w.heap.size) rfl (by exact HB0.out.put _) Tryz.underlying69 rfl size_attrI
set_option maxHeartbeats 1000000 in
set_option maxRecDepth 100000 in
theorem TName_any (r : Int) (w : World) (h0 : 0 ≤ r) (h1 : r ≤ 255) : Calls Tryz.prog 19 #[.int .u8 r] w fun e w' => e = .returned (.string (rName r)) ∧ Ext w w' := by
 have HO := Lib.hid (of_any r w h0 h1)
 clear h0 h1
 have hfd : ∀ w : World, (Instr.field 122 (.agg #[.string (rName r), .int .i64 (rTicks r), .int .i64 (rNom r), .bool (rDrop r)]) 0).run Tryz.prog w = .ok (.string (rName r)) w := fun _ => by kernel_rfl
 unfold rateVal at HO
 go_enter Tryz.func19, Tryz.ntmps19
 go_wp2_with fail
 refine HO.out.mono ?_
 rintro e w1 ⟨rfl, hx⟩
 go_wp2_with fail
 go_ret
 exact ⟨rfl, hx⟩
set_option maxHeartbeats 1000000 in
set_option maxRecDepth 100000 in
theorem KindS_any (k : Int) (w : World) (h1 : 1 ≤ k) (h4 : k ≤ 4) : Calls Tryz.prog 23 #[.int .u8 k] w fun e w' => e = .returned (.string (kindS k)) ∧ Ext w w' := by
 have hk : k = 1 ∨ k = 2 ∨ k = 3 ∨ k = 4 := by omega
 rcases hk with rfl | rfl | rfl | rfl
 all_goals
  clear h1 h4
  go_enter Tryz.func23, Tryz.ntmps23
  go_wp2_with fail
  refine (kinds_any _).mono ?_
  rintro e w1 ⟨rfl, rfl⟩
  unfold kindNames
  go_wp2_with fail
  go_ret
  exact ⟨rfl, (Ext.refl w).alloc _⟩
end
end Go.Proofs.YtbmblnhfmpolbaaGreatDoor