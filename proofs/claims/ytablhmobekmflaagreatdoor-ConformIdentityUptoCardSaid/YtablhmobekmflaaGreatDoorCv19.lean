/- Laid together: The walks of span.Check at accepted sets, rest, common, Minus, Len; conform.lost. The walks of span.common, Minus, Len; conform.lost. The walks of span.Minus of one span, span.Len; conform.lost. The walks of timemap.checkSpan, Preimage; conform.part. The walk of conform.part. -/
import Derived.Test.YtablhmobekmflaaGreatDoorCv13
import Derived.Test.YtablhmobekmflaaGreatDoorCv12
set_option linter.unusedVariables false
set_option linter.unusedSimpArgs false
/-! MinD -/
namespace Go.Proofs.YtablhmobekmflaaGreatDoor
open Go.RowKit
def InT (l : List Spn) : Prop := ∀ s ∈ l, 0 ≤ s.inn ∧ s.out ≤ maxT
def IdxRel (w : World) (n : Nat) (i : Value) (wr : World) : Prop := ∃ k : Nat, k ≤ n ∧ i = .int .i64 k ∧ Ext w wr
set_option maxRecDepth 100000 in
set_option maxHeartbeats 4000000 in
theorem SCheck_ok (A : Option Addr) (n c : Nat) (l : List Spn) (w : World) (hl : SpnsAt w A n l) (hok : SetOk l) (hb : InT l) (hn : n ≤ 400) :
 Calls Tryz.prog 183 #[.slice A n c] w fun e w' => e = .returned (.int .i64 0) ∧ Ext w w' := by
 have HL := Lib.hid hl
 have HOk := Lib.hid hok
 have HBd := Lib.hid hb
 have hb : decide ((n : Int) > 400) = false := by simp; omega
 have hb2 : decide ((400 : Int) < n) = false := by simp; omega
 clear hl hok
 go_enter Tryz.func183, Tryz.ntmps183
 go_wp2_with fail
 clear hb hb2
 go_loopw [10] (fun i wr => IdxRel w n i wr) (fun i _ => n - (intOf i).toNat)
 case atStart => exact ⟨0, Nat.zero_le _, rfl, Ext.refl _⟩
 case round =>
  obtain ⟨k, hk, rfl, hx⟩ := hrel
  have HX := Lib.hid hx
  clear hx
  by_cases hlt : k < n
  case neg =>
   have hkn : k = n := by omega
   subst hkn
   go_wp2_with fail
   go_ret
   exact ⟨rfl, HX.out⟩
  obtain ⟨b, off, x, rfl, hxk, hC⟩ := (HL.out.ext HX.out).at_ hlt
  have c0 := hC 0 _ rfl
  have c1 := hC 1 _ rfl
  simp only [Nat.add_zero] at c0
  have hf := HOk.out.1 x (List.mem_of_getElem? hxk)
  have hr := HBd.out x (List.mem_of_getElem? hxk)
  unfold maxT at hr
  have HPr : Hid (∀ j y, k = j + 1 → l[j]? = some y → ¬ x.inn ≤ y.out) := fun j y hj hy => by
   subst hj
   have h1 := List.pairwise_iff_getElem.1 HOk.out.2 j (j + 1) (List.getElem?_eq_some_iff.1 hy).1 (List.getElem?_eq_some_iff.1 hxk).1 (by omega)
   rw [(List.getElem?_eq_some_iff.1 hy).2, (List.getElem?_eq_some_iff.1 hxk).2] at h1
   omega
  have g1 : decide (x.inn ≥ x.out) = false := by simp; omega
  have g1' : decide (x.out ≤ x.inn) = false := by simp; omega
  have g2 : decide (x.inn < 0) = false := by simp; omega
  have g3 : decide (x.out > 10378368000) = false := by simp; omega
  have g3' : decide (10378368000 < x.out) = false := by simp; omega
  have HXx := Lib.hid ((Ext.refl wr).alloc (.cells #[.int .i64 x.inn, .int .i64 x.out] 60))
  clear hC hxk hf hr
  by_cases hk0 : 0 < k
  · obtain ⟨b', off', y, hA, hyk, hD⟩ := (HL.out.ext (HX.out.trans HXx.out)).at_ (i := k - 1) (by omega)
    cases hA
    have d1 := hD 1 _ rfl
    have hny := HPr.out (k - 1) y (by omega) hyk
    have g7 : decide (x.inn ≤ y.out) = false := by simpa using hny
    have g8 : decide ((k : Int) > 0) = true := by simp; omega
    have g8' : decide ((0 : Int) < k) = true := by simp; omega
    obtain ⟨j, rfl⟩ : ∃ j, k = j + 1 := ⟨k - 1, by omega⟩
    simp only [Nat.add_sub_cancel] at d1
    clear hD hyk hny
    go_wp2_with fail
    go_quiet (fail)
    go_wp2_with fail
    exact ⟨⟨j + 1 + 1, by omega, by go_num, (HX.out.trans HXx.out).drewN _⟩, by simp [intOf]; omega⟩
  · have hk00 : k = 0 := by omega
    subst hk00
    simp only [Nat.zero_mul, Nat.add_zero] at c0 c1
    go_wp2_with fail
    go_quiet (fail)
    go_wp2_with fail
    exact ⟨⟨0 + 1, by omega, by go_num, (HX.out.trans HXx.out).drewN _⟩, by simp [intOf]; omega⟩
theorem blk_grown {w w' : World} {o : Obj} {row : Option Nat} {g : Nat} {T : TypeId} {cs : Array Value} (h : Blk w g T cs) (hg : (w.alloc o).grownBy w' row) (hne : row ≠ some g) : Blk w' g T cs :=
 (hg.block g (by have := h.lt; simp; omega) (fun e => hne e.symm)).trans (h.alloc o)
def gapS (a : Int) (s : Spn) : List Spn := if a < s.inn then [⟨a, s.inn⟩] else []
def restT : Int → List Spn → List Spn
 | _, [] => []
 | a, s :: l => gapS a s ++ restT s.out l
def endT : Int → List Spn → Int
 | a, [] => a
 | _, s :: l => endT s.out l
theorem restF_T : ∀ (a : Int) (l : List Spn), restF a l = restT a l ++ [⟨endT a l, maxT + 1⟩]
 | a, [] => rfl
 | a, s :: l => by unfold restF restT endT gapS; rw [restF_T, List.append_assoc]
theorem restT_snoc : ∀ (a : Int) (l : List Spn) (x : Spn), restT a (l ++ [x]) = restT a l ++ gapS (endT a l) x ∧ endT a (l ++ [x]) = x.out
 | a, [], x => by simp [restT, endT]
 | a, s :: l, x => by
  obtain ⟨h1, h2⟩ := restT_snoc s.out l x
  simp only [List.cons_append, restT, endT]
  exact ⟨by rw [h1, List.append_assoc], h2⟩
theorem restT_len : ∀ (a : Int) (l : List Spn), (restT a l).length ≤ l.length
 | a, [] => by simp [restT]
 | a, s :: l => by
  have := restT_len s.out l
  unfold restT gapS
  split <;> simp <;> omega
def RsRel (w : World) (n : Nat) (l : List Spn) (v v4 i : Value) (wr : World) : Prop :=
 ∃ k : Nat, k ≤ n ∧ i = .int .i64 k ∧ v4 = .int .i64 (endT 0 (l.take k)) ∧ Ext w wr ∧ wr.ownsRow w.heap.size 60 2 v (restT 0 (l.take k)).length ((restT 0 (l.take k)).flatMap Spn.vals)
set_option maxRecDepth 100000 in
set_option maxHeartbeats 4000000 in
theorem Rest_any (A : Option Addr) (n c : Nat) (l : List Spn) (w : World) (hl : SpnsAt w A n l) (hn : n ≤ 1000000) :
 Calls Tryz.prog 182 #[.slice A n c] w (SpnsPost (restF 0 l) w) := by
 have HL := Lib.hid hl
 have HLn := Lib.hid hl.len
 clear hl
 unfold SpnsPost
 go_enter Tryz.func182, Tryz.ntmps182
 go_wp2_with fail
 go_loopw [3, 4, 9] (fun v v4 i wr => RsRel w n l v v4 i wr) (fun _ _ i _ => n - (intOf i).toNat)
 case atStart => exact ⟨0, Nat.zero_le _, rfl, rfl, Ext.refl _, ⟨rfl, .inl ⟨rfl, rfl⟩⟩⟩
 case round =>
  obtain ⟨k, hk, rfl, rfl, hx, hown⟩ := hrel
  have HX := Lib.hid hx
  have HO := Lib.hid hown
  have hrl : (restT 0 (l.take k)).length ≤ k := by have := restT_len 0 (l.take k); rw [List.length_take] at this; omega
  have hzr := hx.size
  clear hx hown
  by_cases hlt : k < n
  · obtain ⟨b, off, x, rfl, hxk, hC⟩ := (HL.out.ext HX.out).at_ hlt
    have c0 := hC 0 _ rfl
    have c1 := hC 1 _ rfl
    simp only [Nat.add_zero] at c0
    have HS : Hid (restT 0 (l.take (k + 1)) = restT 0 (l.take k) ++ gapS (endT 0 (l.take k)) x ∧ endT 0 (l.take (k + 1)) = x.out) := by rw [take_snoc' _ _ _ hxk]; exact restT_snoc _ _ _
    clear hC hxk
    generalize restT 0 (l.take k) = os at *
    generalize endT 0 (l.take k) = at' at *
    have HX1 := Lib.hid ((Ext.refl wr).alloc (.cells #[.int .i64 x.inn, .int .i64 x.out] 60))
    by_cases hio : at' < x.inn
    · have d1 : decide (at' < x.inn) = true := by simpa using hio
      have HS1 := Lib.hid HS.out.1
      unfold gapS at HS1
      rw [if_pos hio] at HS1
      clear hio
      go_upto_region 7 with fail
      have HO2 := Lib.hid (own_ext HO.out HX1.out)
      have hz2 := HX1.out.size
      have HBx := Lib.hid (Blk.new wr 60 #[.int .i64 x.inn, .int .i64 x.out])
      obtain ⟨W2, hW2⟩ : ∃ W2, W2 = wr.alloc (.cells #[.int .i64 x.inn, .int .i64 x.out] 60) := ⟨_, rfl⟩
      rw [← hW2] at HX1 HO2 hz2 HBx ⊢
      clear hW2
      have b0 := HBx.out.cell 0
      simp only [List.getElem?_toArray, List.getElem?_cons_zero, List.getElem?_cons_succ] at b0
      go_wp2_with (at_builtin; refine wpList_append1 rfl (.tmp 17) (.tmp 22) 35 rfl info_span Tryz.underlying35 rfl (by decide) (HO2.out.alloc _) (by exact rfl) W2.heap.size _ (by exact rfl) (by exact Blk.new' rfl) (by exact rfl) (by simp [Value.oneCell']) (by omega) (by simp [maxLen] <;> omega) (by first | omega | (simp; omega) | simp) ?_; intro v5 w5 hown5 hgr; have HO5 := Lib.hid hown5; have HX5 := Lib.hid (Ext.grown ((HX.out.trans HX1.out).alloc _) hgr (fun q hq => own_lt HO.out q hq)); have b51 := (blk_grown HBx.out hgr (fun e => by have := (own_typed HO.out _ e).lt; omega)).cell 1; simp only [List.getElem?_toArray, List.getElem?_cons_zero, List.getElem?_cons_succ] at b51; clear hown5 hgr)
      exact ⟨⟨k + 1, by omega, by go_num, by rw [HS.out.2], HX5.out, by rw [HS1.out, List.length_append, List.flatMap_append]; exact HO5.out⟩, by simp [intOf]; omega⟩
    · have d1 : decide (at' < x.inn) = false := by simpa using hio
      have HS1 := Lib.hid HS.out.1
      unfold gapS at HS1
      rw [if_neg hio, List.append_nil] at HS1
      clear hio
      go_wp2_with fail
      exact ⟨⟨k + 1, by omega, by go_num, by rw [HS.out.2], HX.out.trans HX1.out, by rw [HS1.out]; exact own_ext HO.out HX1.out⟩, by simp [intOf]; omega⟩
  · have hkn : k = n := by omega
    subst hkn
    have HT : Hid (restF 0 l = restT 0 (l.take k) ++ [⟨endT 0 (l.take k), maxT + 1⟩]) := by show _ = _; rw [List.take_of_length_le (by have := HLn.out; omega)]; exact restF_T _ _
    generalize restT 0 (l.take k) = os at *
    generalize endT 0 (l.take k) = at' at *
    go_wp2_with (at_builtin; refine wpList_append1 rfl (.tmp 27) (.tmp 30) 35 rfl info_span Tryz.underlying35 rfl (by decide) (HO.out.alloc _) (by exact rfl) wr.heap.size _ (by exact rfl) (by exact Blk.new' rfl) (by exact rfl) (by simp [Value.oneCell']) (by omega) (by simp [maxLen] <;> omega) (by first | omega | (simp; omega) | simp) ?_; intro v5 w5 hown5 hgr; have HO5 := Lib.hid hown5; have HX5 := Lib.hid (Ext.grown (HX.out.alloc _) hgr (fun q hq => own_lt HO.out q hq)); clear hown5 hgr)
    go_ret
    have hO : w5.ownsRow w.heap.size 60 2 v5 (restF 0 l).length ((restF 0 l).flatMap Spn.vals) := by rw [HT.out, List.length_append, List.flatMap_append]; exact HO5.out
    obtain ⟨A', c', rfl, hc, _, hS, hfr⟩ := own_sl (f := Spn.vals) (size := 2) (fun _ => rfl) rfl hO
    exact ⟨A', c', rfl, hS, hc, HX5.out, hfr⟩
end Go.Proofs.YtablhmobekmflaaGreatDoor
/-! MinE -/
namespace Go.Proofs.YtablhmobekmflaaGreatDoor
open Go.RowKit
def cmS (x y : Spn) : List Spn := if max x.inn y.inn < min x.out y.out then [⟨max x.inn y.inn, min x.out y.out⟩] else []
theorem cmS_yes {x y : Spn} (h : max x.inn y.inn < min x.out y.out) : cmS x y = [⟨max x.inn y.inn, min x.out y.out⟩] := if_pos h
theorem cmS_no {x y : Spn} (h : ¬ max x.inn y.inn < min x.out y.out) : cmS x y = [] := if_neg h
theorem commS_eq (a b : List Spn) : commS a b = a.flatMap fun x => b.flatMap (cmS x) := rfl
theorem commS_snoc (a b : List Spn) (x : Spn) : commS (a ++ [x]) b = commS a b ++ b.flatMap (cmS x) := by rw [commS_eq, commS_eq, List.flatMap_append]; simp
theorem cm_snoc (b : List Spn) (x y : Spn) : (b ++ [y]).flatMap (cmS x) = b.flatMap (cmS x) ++ cmS x y := by rw [List.flatMap_append]; simp
theorem cm_len (b : List Spn) (x : Spn) : (b.flatMap (cmS x)).length ≤ b.length := by
 induction b with
 | nil => simp
 | cons y b ih =>
  rw [List.flatMap_cons, List.length_append]; have : (cmS x y).length ≤ 1 := by unfold cmS; split <;> simp
  simp only [List.length_cons]; omega
theorem comm_len (a b : List Spn) : (commS a b).length ≤ a.length * b.length := by
 induction a with
 | nil => simp [commS_eq]
 | cons x a ih =>
  rw [commS_eq, List.flatMap_cons, List.length_append, ← commS_eq]
  have := cm_len b x
  simp only [List.length_cons, Nat.add_mul, Nat.one_mul]; omega
def Cm1Rel (w : World) (n : Nat) (a b : List Spn) (v i : Value) (wr : World) : Prop :=
 ∃ k : Nat, k ≤ n ∧ i = .int .i64 k ∧ Ext w wr ∧ wr.ownsRow w.heap.size 60 2 v (commS (a.take k) b).length ((commS (a.take k) b).flatMap Spn.vals)
def Cm2Rel (w : World) (g m : Nat) (P b : List Spn) (x : Spn) (v i : Value) (wr : World) : Prop :=
 ∃ j : Nat, j ≤ m ∧ i = .int .i64 j ∧ Ext w wr ∧ Blk wr g 60 #[.int .i64 x.inn, .int .i64 x.out] ∧ v.ownBlock ≠ some g ∧ wr.ownsRow w.heap.size 60 2 v (P ++ (b.take j).flatMap (cmS x)).length ((P ++ (b.take j).flatMap (cmS x)).flatMap Spn.vals)
set_option maxRecDepth 100000 in
set_option maxHeartbeats 8000000 in
theorem Common_any (A : Option Addr) (n c : Nat) (a : List Spn) (B : Option Addr) (m d : Nat) (b : List Spn) (w : World) (ha : SpnsAt w A n a) (hb : SpnsAt w B m b) (hn1 : n ≤ 1000000) (hn : n * m + m ≤ 1000000) :
 Calls Tryz.prog 181 #[.slice A n c, .slice B m d] w (SpnsPost (commS a b) w) := by
 have HA := Lib.hid ha
 have HB := Lib.hid hb
 have HAn := Lib.hid ha.len
 have HBn := Lib.hid hb.len
 clear ha hb
 unfold SpnsPost
 go_enter Tryz.func181, Tryz.ntmps181
 go_wp2_with fail
 go_loopw [5, 13] (fun v i wr => Cm1Rel w n a b v i wr) (fun _ i _ => n - (intOf i).toNat)
 case atStart => exact ⟨0, Nat.zero_le _, rfl, Ext.refl _, ⟨rfl, .inl ⟨rfl, rfl⟩⟩⟩
 case round =>
  obtain ⟨k, hk, rfl, hx, hown⟩ := hrel
  have HX := Lib.hid hx
  have HO := Lib.hid hown
  have hzr := hx.size
  clear hx hown
  by_cases hlt : k < n
  · obtain ⟨bb, off, x, rfl, hxk, hC⟩ := (HA.out.ext HX.out).at_ hlt
    have c0 := hC 0 _ rfl
    have c1 := hC 1 _ rfl
    simp only [Nat.add_zero] at c0
    have HS : Hid (commS (a.take (k + 1)) b = commS (a.take k) b ++ b.flatMap (cmS x)) := by rw [take_snoc' _ _ _ hxk]; exact commS_snoc _ _ _
    have hPl : (commS (a.take k) b).length ≤ n * m := by
     have h1 := comm_len (a.take k) b
     rw [HBn.out, List.length_take] at h1
     exact Nat.le_trans h1 (Nat.mul_le_mul_right _ (by omega))
    clear hC hxk
    generalize commS (a.take k) b = P at *
    have HBx := Lib.hid (Blk.new wr 60 #[.int .i64 x.inn, .int .i64 x.out])
    have HX1 := Lib.hid (HX.out.alloc (.cells #[.int .i64 x.inn, .int .i64 x.out] 60))
    have HO1 := Lib.hid (HO.out.alloc (.cells #[.int .i64 x.inn, .int .i64 x.out] 60))
    have HNe : Hid (u5.ownBlock ≠ some wr.heap.size) := fun e => by have := (own_typed HO.out _ e).lt; omega
    go_upto_region 5 with fail
    obtain ⟨gx, hgx⟩ : ∃ gx, gx = wr.heap.size := ⟨_, rfl⟩
    rw [← hgx] at HBx HNe ⊢
    obtain ⟨w1, hw1⟩ : ∃ w1, w1 = wr.alloc (.cells #[.int .i64 x.inn, .int .i64 x.out] 60) := ⟨_, rfl⟩
    rw [← hw1] at HBx HX1 HO1 ⊢
    clear hw1 hgx c0 c1 HO
    go_wp2_with fail
    go_loopw [5, 19] (fun v i wq => Cm2Rel w gx m P b x v i wq) (fun _ i _ => m - (intOf i).toNat)
    case atStart => exact ⟨0, Nat.zero_le _, rfl, HX1.out, HBx.out, HNe.out, by simpa using HO1.out⟩
    case round =>
     obtain ⟨j, hj, rfl, hxq, hbq, hne, hown⟩ := hrel
     have HXq := Lib.hid hxq
     have HOq := Lib.hid hown
     have HBq := Lib.hid hbq
     have HNq := Lib.hid hne
     have hzq := hxq.size
     have hql : (P ++ (b.take j).flatMap (cmS x)).length ≤ n * m + j := by have := cm_len (b.take j) x; rw [List.length_take] at this; rw [List.length_append]; omega
     clear hxq hown hbq hne
     by_cases hjt : j < m
     · obtain ⟨b2, off2, y, rfl, hyk, hD⟩ := (HB.out.ext HXq.out).at_ hjt
       have d0 := hD 0 _ rfl
       have d1 := hD 1 _ rfl
       simp only [Nat.add_zero] at d0
       have HT : Hid (P ++ (b.take (j + 1)).flatMap (cmS x) = (P ++ (b.take j).flatMap (cmS x)) ++ cmS x y) := by show _ = _; rw [take_snoc' _ _ _ hyk, cm_snoc, List.append_assoc]
       clear hD hyk
       generalize P ++ (b.take j).flatMap (cmS x) = os at *
       have x0 := HBq.out.cell 0
       have x1 := HBq.out.cell 1
       simp only [List.getElem?_toArray, List.getElem?_cons_zero, List.getElem?_cons_succ] at x0 x1
       have HY := Lib.hid ((Ext.refl wr).alloc (.cells #[.int .i64 y.inn, .int .i64 y.out] 60))
       have hgl := HBq.out.lt
       go_upto_region 9 with fail
       have HX3 := Lib.hid (HY.out.alloc (.cells #[.int .i64 (max x.inn y.inn), .int .i64 (min x.out y.out)] 60))
       have HS3 := Lib.hid (Blk.new (wr.alloc (.cells #[.int .i64 y.inn, .int .i64 y.out] 60)) 60 #[.int .i64 (max x.inn y.inn), .int .i64 (min x.out y.out)])
       obtain ⟨g3, hg3⟩ : ∃ g3, g3 = (wr.alloc (.cells #[.int .i64 y.inn, .int .i64 y.out] 60)).heap.size := ⟨_, rfl⟩
       obtain ⟨w3, hw3⟩ : ∃ w3, w3 = (wr.alloc (.cells #[.int .i64 y.inn, .int .i64 y.out] 60)).alloc (.cells #[.int .i64 (max x.inn y.inn), .int .i64 (min x.out y.out)] 60) := ⟨_, rfl⟩
       rw [← hg3] at HS3
       simp only [World.size_alloc] at hg3
       rw [← hw3] at HS3 HX3 ⊢
       try rw [← hg3]
       clear hw3 hg3 x0 x1 d0 d1
       have HO3 := Lib.hid (own_ext HOq.out HX3.out)
       have HB3 := Lib.hid (HBq.out.ext HX3.out)
       have hgl3 := HB3.out.lt
       have hz3 := HX3.out.size
       have s0 := HS3.out.cell 0
       have s1 := HS3.out.cell 1
       simp only [List.getElem?_toArray, List.getElem?_cons_zero, List.getElem?_cons_succ] at s0 s1
       by_cases hio : max x.inn y.inn < min x.out y.out
       · have e1 : decide (max x.inn y.inn < min x.out y.out) = true := by simpa using hio
         rw [cmS_yes hio] at HT
         clear hio
         generalize max x.inn y.inn = lo at *
         generalize min x.out y.out = hi at *
         go_wp2_with (at_builtin; refine wpList_append1a rfl (.tmp 39) (.tmp 41) 35 rfl info_span Tryz.underlying35 rfl (by decide) (HO3.out.alloc _) (by exact rfl) w3.heap.size _ (by exact rfl) (by exact Blk.new' rfl) (by exact rfl) (by simp [Value.oneCell']) (by omega) (by simp [maxLen] <;> omega) (by first | omega | (simp; omega) | simp) ?_; intro v5 w5 hown5 hgr hloc; have HO5 := Lib.hid hown5; have HX5 := Lib.hid (Ext.grown ((HXq.out.trans HX3.out).alloc _) hgr (fun q hq => own_lt HO3.out q hq)); have HB5 := Lib.hid (blk_grown HB3.out hgr HNq.out); have HN5 : Hid (v5.ownBlock ≠ some gx) := (fun e => by rcases hloc with h | h; exact HNq.out (h ▸ e); rw [h] at e; injection e with e; simp at e; omega); clear hown5 hgr hloc)
         exact ⟨⟨j + 1, by omega, by go_num, HX5.out, HB5.out, HN5.out, by rw [HT.out, List.length_append, List.flatMap_append]; exact HO5.out⟩, by simp [intOf]; omega⟩
       · have e1 : decide (max x.inn y.inn < min x.out y.out) = false := by simpa using hio
         rw [cmS_no hio, List.append_nil] at HT
         clear hio
         generalize max x.inn y.inn = lo at *
         generalize min x.out y.out = hi at *
         go_wp2_with fail
         exact ⟨⟨j + 1, by omega, by go_num, HXq.out.trans HX3.out, HB3.out, HNq.out, by rw [HT.out]; exact HO3.out⟩, by simp [intOf]; omega⟩
     · have hjm : j = m := by omega
       subst hjm
       have HT : Hid (P ++ (b.take j).flatMap (cmS x) = commS (a.take (k + 1)) b) := by show _ = _; rw [List.take_of_length_le (by have := HBn.out; omega)]; exact HS.out.symm
       rw [HT.out] at HOq
       go_wp2_with fail
       exact ⟨⟨k + 1, by omega, by go_num, HXq.out, HOq.out⟩, by simp [intOf]; omega⟩
  · have hkn : k = n := by omega
    subst hkn
    have HT : Hid (commS (a.take k) b = commS a b) := by show _ = _; rw [List.take_of_length_le (by have := HAn.out; omega)]
    rw [HT.out] at HO
    obtain ⟨A', c', rfl, hc, _, hS, hfr⟩ := own_sl (f := Spn.vals) (size := 2) (fun _ => rfl) rfl HO.out
    have HR := Lib.hid (And.intro hc (And.intro hS (And.intro hfr HX.out)))
    clear hc hS hfr HO
    go_wp2_with fail
    go_ret
    exact ⟨A', c', rfl, HR.out.2.1, HR.out.1, HR.out.2.2.2, HR.out.2.2.1⟩
end Go.Proofs.YtablhmobekmflaaGreatDoor
/-! MinF -/
namespace Go.Proofs.YtablhmobekmflaaGreatDoor
open Go.RowKit
theorem one_ok {s : Spn} (h : s.inn < s.out) : SetOk [s] := ⟨fun x hx => by simp at hx; subst hx; exact h, by simp⟩
theorem restF_len (a : Int) (l : List Spn) : (restF a l).length ≤ l.length + 1 := by rw [restF_T, List.length_append]; have := restT_len a l; simp; omega
theorem comm_set {s : Spn} {p : List Spn} (hp : SetOk p) (hb : InT p) : SetOk (commS [s] (restF 0 p)) := ⟨comm_full _ _, comm_apt _ (rest_ok hp hb (by unfold maxT; omega)).2.1⟩
theorem comm_in {s : Spn} {p : List Spn} (h0 : 0 ≤ s.inn) (h1 : s.out ≤ maxT) : InT (commS [s] (restF 0 p)) := by
 intro x hx
 rw [comm_one] at hx
 obtain ⟨y, hy, h⟩ := List.mem_flatMap.1 hx
 split at h
 · simp at h; subst h; simp only; omega
 · simp at h
set_option maxRecDepth 100000 in
set_option maxHeartbeats 4000000 in
theorem SMinus_one (A : Option Addr) (c : Nat) (s : Spn) (B : Option Addr) (m d : Nat) (p : List Spn) (w : World) (ha : SpnsAt w A 1 [s]) (hb : SpnsAt w B m p) (hm : m ≤ 300) (hs : s.inn < s.out) (h0 : 0 ≤ s.inn) (h1 : s.out ≤ maxT) (hp : SetOk p) (hpb : InT p) :
 Calls Tryz.prog 113 #[.slice A 1 c, .slice B m d] w (SpnsPost2 (commS [s] (restF 0 p)) w) := by
 have hbl := hb.len
 have hcl : (commS [s] (restF 0 p)).length ≤ 301 := by have h1 := comm_len [s] (restF 0 p); have h2 := restF_len 0 p; simp at h1; omega
 have hrl := restF_len 0 p
 have HC1 := Lib.hid (fun w' (hx : Ext w w') => SCheck_ok A 1 c [s] w' (ha.ext hx) (one_ok hs) (fun x hx => by simp at hx; subst hx; exact ⟨h0, h1⟩) (by omega))
 have HC2 := Lib.hid (fun w' (hx : Ext w w') => SCheck_ok B m d p w' (hb.ext hx) hp hpb (by omega))
 have HR := Lib.hid (fun w' (hx : Ext w w') => Rest_any B m d p w' (hb.ext hx) (by omega))
 have HCm := Lib.hid (fun w' (hx : Ext w w') R rc (hr : SpnsAt w' R (restF 0 p).length (restF 0 p)) => Common_any A 1 c [s] R (restF 0 p).length rc (restF 0 p) w' (ha.ext hx) hr (by omega) (by omega))
 clear ha hb hp hpb hs h0 h1
 unfold SpnsPost2
 unfold SpnsPost at HR HCm
 generalize commS [s] (restF 0 p) = cm at *
 generalize restF 0 p = rs at *
 go_enter Tryz.func113, Tryz.ntmps113
 have HCk : Hid (∀ w' (hx : Ext w w'), Calls Tryz.prog 179 #[.slice A 1 c, .slice B m d] w' fun e w2 => e = .returned (.int .i64 0) ∧ Ext w' w2) := by
  intro w' hx
  have HX := Lib.hid hx
  go_enter Tryz.func179, Tryz.ntmps179
  go_wp2_with fail
  refine (HC1.out _ HX.out).mono ?_
  rintro e w2 ⟨rfl, hx2⟩
  have HX2 := Lib.hid (HX.out.trans hx2)
  have HX3 := Lib.hid hx2
  clear hx2
  go_wp2_with fail
  refine (HC2.out _ HX2.out).mono ?_
  rintro e w3 ⟨rfl, hx3⟩
  have HX4 := Lib.hid (HX3.out.trans hx3)
  clear hx3
  go_wp2_with fail
  go_ret
  exact ⟨rfl, HX4.out⟩
 have HLim : Hid (∀ w' Z zc, Calls Tryz.prog 180 #[.slice Z cm.length zc] w' fun e w2 => e = .returned (.tuple #[.slice Z cm.length zc, .int .i64 0]) ∧ w2 = w') := by
  intro w' Z zc
  have g1 : decide ((cm.length : Int) > 400) = false := by simp; omega
  have g2 : decide ((400 : Int) < cm.length) = false := by simp; omega
  go_enter Tryz.func180, Tryz.ntmps180
  go_wp2_with fail
  go_ret2
  exact ⟨rfl, rfl⟩
 go_wp2_with fail
 refine (HCk.out _ (Ext.refl _)).mono ?_
 rintro e w1 ⟨rfl, hx1⟩
 have HX1 := Lib.hid hx1
 clear hx1
 go_wp2_with fail
 refine (HR.out _ HX1.out).mono ?_
 rintro e w2 ⟨R, rc, rfl, hr, -, hx2, -⟩
 have HX2 := Lib.hid (HX1.out.trans hx2)
 have HRr := Lib.hid hr
 clear hx2 hr
 go_wp2_with fail
 refine (HCm.out _ HX2.out R rc HRr.out).mono ?_
 rintro e w3 ⟨Z, zc, rfl, hz, hzc, hx3, hzf⟩
 have HX3 := Lib.hid (HX2.out.trans hx3)
 have HZ := Lib.hid (And.intro hz (And.intro hzc (fun ad h => Nat.le_trans HX2.out.size (hzf ad h))))
 clear hx3 hz hzc hzf
 go_wp2_with fail
 refine (HLim.out _ _ _).mono ?_
 rintro e w4 ⟨rfl, rfl⟩
 go_wp2_with fail
 go_ret2
 exact ⟨Z, zc, rfl, HZ.out.1, HZ.out.2.1, HX3.out, HZ.out.2.2⟩
theorem sum_bd : ∀ (l : List Spn), Full l → InT l → 0 ≤ sumL l ∧ sumL l ≤ l.length * maxT
 | [], _, _ => by simp [sumL]
 | s :: l, h, hb => by
  have ih := sum_bd l (fun x hx => h x (by simp [hx])) (fun x hx => hb x (by simp [hx]))
  have h1 := h s (by simp)
  have h2 := hb s (by simp)
  have e : sumL (s :: l) = (s.out - s.inn) + sumL l := by unfold sumL; simp
  rw [e]
  unfold maxT at *
  simp only [List.length_cons]
  omega
theorem sum_snoc (l : List Spn) (x : Spn) : sumL (l ++ [x]) = sumL l + (x.out - x.inn) := by unfold sumL; simp
def LnRel (w : World) (n : Nat) (l : List Spn) (v i : Value) (wr : World) : Prop := ∃ k : Nat, k ≤ n ∧ i = .int .i64 k ∧ v = .int .i64 (sumL (l.take k)) ∧ Ext w wr
set_option maxRecDepth 100000 in
set_option maxHeartbeats 2000000 in
theorem SLen_ok (A : Option Addr) (n c : Nat) (l : List Spn) (w : World) (hl : SpnsAt w A n l) (hok : SetOk l) (hb : InT l) (hn : n ≤ 400) :
 Calls Tryz.prog 114 #[.slice A n c] w fun e w' => e = .returned (.tuple #[.int .i64 (sumL l), .int .i64 0]) ∧ Ext w w' := by
 have HL := Lib.hid hl
 have HLn := Lib.hid hl.len
 have HC := Lib.hid (SCheck_ok A n c l w hl hok hb hn)
 have HBd := Lib.hid (fun k => sum_bd (l.take k) (fun x hx => hok.1 x (List.mem_of_mem_take hx)) (fun x hx => hb x (List.mem_of_mem_take hx)))
 have HE := Lib.hid (fun x (hx : x ∈ l) => And.intro (hok.1 x hx) (hb x hx))
 clear hl hok hb
 go_enter Tryz.func114, Tryz.ntmps114
 go_wp2_with fail
 refine HC.out.mono ?_
 rintro e w1 ⟨rfl, hx1⟩
 have HX1 := Lib.hid hx1
 clear hx1 HC
 go_wp2_with fail
 go_loopw [5, 15] (fun v i wr => LnRel w n l v i wr) (fun _ i _ => n - (intOf i).toNat)
 case atStart => exact ⟨0, Nat.zero_le _, rfl, rfl, HX1.out⟩
 case round =>
  obtain ⟨k, hk, rfl, rfl, hx⟩ := hrel
  have HX := Lib.hid hx
  clear hx
  by_cases hlt : k < n
  · obtain ⟨b, off, x, rfl, hxk, hC⟩ := (HL.out.ext HX.out).at_ hlt
    have c0 := hC 0 _ rfl
    have c1 := hC 1 _ rfl
    simp only [Nat.add_zero] at c0
    have hb1 := HBd.out k
    have hxb := HE.out x (List.mem_of_getElem? hxk)
    have HS : Hid (sumL (l.take (k + 1)) = sumL (l.take k) + (x.out - x.inn)) := by show _ = _; rw [take_snoc' _ _ _ hxk]; exact sum_snoc _ _
    rw [List.length_take] at hb1
    unfold maxT at hb1 hxb
    clear hC hxk
    generalize sumL (l.take k) = sm at *
    have hsm : sm ≤ 400 * 10378368000 := by
     have h1 : (min k l.length : Nat) ≤ 400 := by omega
     have h2 : ((min k l.length : Nat) : Int) ≤ 400 := by omega
     have := Int.mul_le_mul_of_nonneg_right h2 (show (0 : Int) ≤ 10378368000 by omega)
     omega
    have hsm0 := hb1.1
    obtain ⟨hx1, hx2, hx3⟩ := hxb
    have HX2 := Lib.hid (HX.out.alloc (.cells #[.int .i64 x.inn, .int .i64 x.out] 60))
    clear hb1
    go_wp2_with fail
    exact ⟨⟨k + 1, by omega, by go_num, by rw [HS.out], HX2.out⟩, by simp [intOf]; omega⟩
  · have hkn : k = n := by omega
    subst hkn
    have HT : Hid (sumL (l.take k) = sumL l) := by show _ = _; rw [List.take_of_length_le (by have := HLn.out; omega)]
    rw [HT.out]
    obtain ⟨sm, hsm⟩ : ∃ sm, sm = sumL l := ⟨_, rfl⟩
    rw [← hsm]
    have HSm := Lib.hid hsm
    clear hsm
    go_wp2_with fail
    go_ret2
    exact ⟨by rw [← HSm.out]; rfl, HX.out⟩
set_option maxRecDepth 100000 in
set_option maxHeartbeats 2000000 in
theorem Lost_any (s : Spn) (B : Option Addr) (m d : Nat) (p : List Spn) (w : World) (hb : SpnsAt w B m p) (hm : m ≤ 300) (hs : s.inn < s.out) (h0 : 0 ≤ s.inn) (h1 : s.out ≤ maxT) (hp : SetOk p) (hpb : InT p) :
 Calls Tryz.prog 53 #[.agg #[.int .i64 s.inn, .int .i64 s.out], .slice B m d] w fun e w' => e = .returned (.int .i64 (lostS s p)) ∧ Ext w w' := by
 have hbl := hb.len
 have hcl : (commS [s] (restF 0 p)).length ≤ 301 := by have h1 := comm_len [s] (restF 0 p); have h2 := restF_len 0 p; simp at h1; omega
 have HX0 := Lib.hid (((Ext.refl w).alloc (.cells #[.int .i64 s.inn, .int .i64 s.out] 60)).alloc (.cells #[.int .i64 s.inn, .int .i64 s.out] 60))
 have HMn := Lib.hid (fun w' A c (hx : Ext w w') (ha : SpnsAt w' A 1 [s]) => SMinus_one A c s B m d p w' ha (hb.ext hx) hm hs h0 h1 hp hpb)
 have HLn := Lib.hid (fun w' A c (ha : SpnsAt w' A (commS [s] (restF 0 p)).length (commS [s] (restF 0 p))) => SLen_ok A (commS [s] (restF 0 p)).length c (commS [s] (restF 0 p)) w' ha (comm_set hp hpb) (comm_in h0 h1) (by omega))
 have HF : Hid (lostS s p = sumL (commS [s] (restF 0 p))) := rfl
 unfold SpnsPost2 at HMn
 clear hb hp hpb hs h0 h1 hcl
 generalize lostS s p = ls at *
 generalize commS [s] (restF 0 p) = cm at *
 have HS1 : Hid (SpnsAt ((w.alloc (.cells #[.int .i64 s.inn, .int .i64 s.out] 60)).alloc (.cells #[.int .i64 s.inn, .int .i64 s.out] 60)) (some ⟨(w.alloc (.cells #[.int .i64 s.inn, .int .i64 s.out] 60)).heap.size, 0, none⟩) 1 [s]) := by
  refine ⟨rfl, fun _ => ⟨_, 0, rfl, fun i x hx j u hu => ?_⟩⟩
  match i, hx with
  | 0, hx =>
   simp at hx; subst hx
   have := (Blk.new (w.alloc (.cells #[.int .i64 s.inn, .int .i64 s.out] 60)) 60 #[.int .i64 s.inn, .int .i64 s.out]).cell j
   simp only [Nat.zero_mul, Nat.zero_add]
   rw [this]
   simpa [Spn.vals] using hu
  | i + 1, hx => simp at hx
 simp only [World.size_alloc] at HS1
 go_enter Tryz.func53, Tryz.ntmps53
 go_wp2_with fail
 refine (HMn.out _ _ _ HX0.out HS1.out).mono ?_
 rintro e w1 ⟨Z, zc, rfl, hz, -, hx1, -⟩
 have HX1 := Lib.hid (HX0.out.trans hx1)
 have HZ := Lib.hid hz
 clear hz hx1
 go_wp2_with fail
 refine (HLn.out _ _ _ HZ.out).mono ?_
 rintro e w2 ⟨rfl, hx2⟩
 have HX2 := Lib.hid (HX1.out.trans hx2)
 clear hx2
 go_wp2_with fail
 go_ret
 exact ⟨ret_int HF.out.symm, HX2.out⟩
end Go.Proofs.YtablhmobekmflaaGreatDoor
/-! PreE -/
namespace Go.Proofs.YtablhmobekmflaaGreatDoor
open Go.RowKit
/-- the frames of pieces that are led into a span -/
def preP (s : Spn) (p : Pc) : Spn := ⟨reachP p s.inn, reachP p s.out⟩
def preL (s : Spn) (l : List Pc) : List Spn := l.map (preP s)
theorem reachP_bd {p : Pc} (hp : p.Ok) (v : Int) : 0 ≤ reachP p v ∧ reachP p v ≤ maxT := by
 have h0 := hp.i0
 have h1 := hp.io
 have h2 := hp.o1
 unfold maxT reachP
 split
 · omega
 · rename_i hv
   split
   · omega
   · have := hp.n0
     have := hp.d1
     have hq := (quoI_bd ((v - p.dst) * p.d) p.n 3 (Int.mul_nonneg (by omega) (by omega)) (by omega)).1
     omega
/-- 'out = append(out, span)' behind two calls, in a drawn region -/
def PmS (cells : Array Value) (base : Nat) (v : Value) (k : Nat) (xs : List Value) (W : World) : List Value → World → Prop
 | [], w' => Ext W w'
 | [_], w' => Ext W w'
 | [_, _], w' => Ext W w'
 | [_, _, u2], w' => (∃ g, u2 = .slice (some ⟨g, 0, none⟩) 1 1 ∧ Blk w' g 60 cells) ∧ Ext W w'
 | [_, _, _, u3], w' => ∃ w5, Ext W w5 ∧ w5.grownBy w' v.ownBlock ∧ w'.ownsRow base 60 2 u3 (k + 1) (xs ++ cells.toList)
 | [_, _, _, u3, u4], w' => u4 = u3 ∧ ∃ w5, Ext W w5 ∧ w5.grownBy w' v.ownBlock ∧ w'.ownsRow base 60 2 u3 (k + 1) (xs ++ cells.toList)
 | _, _ => False
structure PmJ (r0 r1 : Int) (base : Nat) (v : Value) (k : Nat) (xs : List Value) (W : World) (us : List Value) (w' : World) : Prop where
 only : Only 60 W w'
 val0 : ∀ u, us[0]? = some u → u = .int .i64 r0
 val1 : ∀ u, us[1]? = some u → u = .int .i64 r1
 st : PmS #[.int .i64 r0, .int .i64 r1] base v k xs W us w'
section
variable {r0 r1 : Int} {base k : Nat} {v : Value} {xs : List Value} {W w' w2 : World} {u0 u1 u2 u3 : Value}
theorem PmJ.start (W : World) : PmJ r0 r1 base v k xs W [] W.drew := ⟨Only.ext (Ext.refl W).drew, fun u h => by simp at h, fun u h => by simp at h, (Ext.refl W).drew⟩
theorem PmJ.call0 (h : PmJ r0 r1 base v k xs W [] w') (hx : Ext w' w2) : PmJ r0 r1 base v k xs W ([] ++ [.int .i64 r0]) w2 :=
 ⟨h.only.trans (Only.ext hx), fun u hu => by simpa using hu.symm, fun u hu => by simp at hu, Ext.trans h.st hx⟩
theorem PmJ.call1 (h : PmJ r0 r1 base v k xs W [u0] w') (hx : Ext w' w2) : PmJ r0 r1 base v k xs W ([u0] ++ [.int .i64 r1]) w2 :=
 ⟨h.only.trans (Only.ext hx), fun u hu => h.val0 u (by simpa using hu), fun u hu => by simpa using hu.symm, Ext.trans h.st hx⟩
theorem PmJ.build (h : PmJ r0 r1 base v k xs W [u0, u1] w') : PmJ r0 r1 base v k xs W ([u0, u1] ++ [.slice (some ⟨w'.heap.size, 0, none⟩) 1 1]) (w'.alloc (.cells #[.int .i64 r0, .int .i64 r1] 60)) :=
 ⟨h.only.trans (Only.ext ((Ext.refl w').alloc _)), fun u hu => h.val0 u (by simpa using hu), fun u hu => h.val1 u (by simpa using hu), ⟨⟨_, rfl, Blk.new w' _ _⟩, Ext.alloc h.st _⟩⟩
theorem PmJ.app (h : PmJ r0 r1 base v k xs W [u0, u1, u2] w') (hv : ∀ q, v.ownBlock = some q → Typed w' 60 q) (hg : w'.grownBy w2 v.ownBlock) (ho : w2.ownsRow base 60 2 u3 (k + 1) (xs ++ [.int .i64 r0, .int .i64 r1])) : PmJ r0 r1 base v k xs W ([u0, u1, u2] ++ [u3]) w2 :=
 ⟨h.only.trans (Only.grown hg hv), fun u hu => h.val0 u (by simpa using hu), fun u hu => h.val1 u (by simpa using hu), ⟨w', h.st.2, hg, ho⟩⟩
theorem PmJ.asg (h : PmJ r0 r1 base v k xs W [u0, u1, u2, u3] w') : PmJ r0 r1 base v k xs W ([u0, u1, u2, u3] ++ [u3]) w' := ⟨h.only, fun u hu => h.val0 u (by simpa using hu), fun u hu => h.val1 u (by simpa using hu), ⟨rfl, h.st⟩⟩
end
theorem PmJ.span {r0 r1 : Int} {base k g : Nat} {v : Value} {xs : List Value} {W w' : World} {us : List Value} {cs : Array Value} (h : PmJ r0 r1 base v k xs W us w') (hB : Blk W g 60 cs) (hn : ∀ q, v.ownBlock = some q → q ≠ g) : Blk w' g 60 cs := by
 have hb : g < W.heap.size := hB.lt
 have key : ∀ w5 w6, Ext W w5 → w5.grownBy w6 v.ownBlock → Blk w6 g 60 cs := fun w5 w6 hx hg => by
  have h5 := hB.ext hx
  exact (hg.block g h5.lt (fun e => hn g e.symm rfl)).trans h5
 have hst := h.st
 match us, hst with
 | [], hst => exact hB.ext hst
 | [_], hst => exact hB.ext hst
 | [_, _], hst => exact hB.ext hst
 | [_, _, _], hst => exact hB.ext hst.2
 | [_, _, _, _], hst => obtain ⟨w5, a, b, _⟩ := hst; exact key w5 _ a b
 | [_, _, _, _, _], hst => obtain ⟨_, w5, a, b, _⟩ := hst; exact key w5 _ a b
theorem Sl.one {w : World} {g : Nat} {s : Spn} (h : Blk w g 60 #[.int .i64 s.inn, .int .i64 s.out]) : SpnsAt w (some ⟨g, 0, none⟩) 1 [s] := by
 refine ⟨rfl, fun _ => ⟨_, 0, rfl, fun i x hx j u hu => ?_⟩⟩
 match i, hx with
 | 0, hx =>
  simp at hx; subst hx
  have := h.cell j
  simp only [Nat.zero_mul, Nat.zero_add]
  rw [this]
  simpa [Spn.vals] using hu
 | i + 1, hx => simp at hx
set_option maxRecDepth 100000 in
set_option maxHeartbeats 2000000 in
theorem CkSpan_ok (A : Option Addr) (n c : Nat) (l : List Pc) (s : Spn) (w : World) (hl : PcsAt w A n l) (hok : MapOk l) (h0 : 0 ≤ s.inn) (hs : s.inn < s.out) (h1 : s.out ≤ maxT) :
 Calls Tryz.prog 185 #[.slice A n c, .agg #[.int .i64 s.inn, .int .i64 s.out]] w fun e w' => e = .returned (.int .i64 0) ∧ Ext w w' := by
 have HX0 := Lib.hid ((Ext.refl w).alloc (.cells #[.int .i64 s.inn, .int .i64 s.out] 60))
 have HB0 := Lib.hid (Blk.new w 60 #[.int .i64 s.inn, .int .i64 s.out])
 have HCk := Lib.hid (fun w' (hx : Ext w w') => TCheck_ok A n c l w' (hl.ext hx) hok)
 have HCs := Lib.hid (fun w' B d (hb : SpnsAt w' B 1 [s]) => SCheck_ok B 1 d [s] w' hb (one_ok hs) (fun x hx => by simp at hx; subst hx; exact ⟨h0, h1⟩) (by omega))
 clear hl hok h0 hs h1
 go_enter Tryz.func185, Tryz.ntmps185
 go_wp2_with fail
 refine (HCk.out _ HX0.out).mono ?_
 rintro e w1 ⟨rfl, hx1⟩
 have HX1 := Lib.hid (HX0.out.trans hx1)
 have HB1 := Lib.hid (HB0.out.ext hx1)
 have hcl := fun o => HB1.out.cell o
 clear hx1 HCk
 go_wp2_with fail
 refine (HCs.out _ _ _ (Sl.one (Blk.new w1 60 #[.int .i64 s.inn, .int .i64 s.out]))).mono ?_
 rintro e w2 ⟨rfl, hx2⟩
 have HX2 := Lib.hid ((HX1.out.alloc (.cells #[.int .i64 s.inn, .int .i64 s.out] 60)).trans hx2)
 clear hx2 HCs
 go_wp2_with fail
 go_ret
 exact ⟨rfl, HX2.out⟩
set_option maxRecDepth 100000 in
set_option maxHeartbeats 4000000 in
theorem Preimage_any (A : Option Addr) (n c : Nat) (l : List Pc) (s : Spn) (w : World) (hl : PcsAt w A n l) (hok : MapOk l) (h0 : 0 ≤ s.inn) (hs : s.inn < s.out) (h1 : s.out ≤ maxT) :
 Calls Tryz.prog 120 #[.slice A n c, .agg #[.int .i64 s.inn, .int .i64 s.out]] w (SpnsPost2 (joinS (preL s l)) w) := by
 have HL := Lib.hid hl
 have HLn := Lib.hid hl.len
 have HOk := Lib.hid hok
 have hn : n ≤ 64 := by rw [← hl.len]; exact hok.few
 have HX0 := Lib.hid ((Ext.refl w).alloc (.cells #[.int .i64 s.inn, .int .i64 s.out] 60))
 have HB0 := Lib.hid (Blk.new w 60 #[.int .i64 s.inn, .int .i64 s.out])
 have HCk := Lib.hid (fun w' (hx : Ext w w') => CkSpan_ok A n c l s w' (hl.ext hx) hok h0 hs h1)
 have hso : s.inn ≤ maxT := by omega
 clear hl hok hs h0
 unfold SpnsPost2
 go_enter Tryz.func120, Tryz.ntmps120
 go_wp2_with fail
 refine (HCk.out _ HX0.out).mono ?_
 rintro e w1 ⟨rfl, hx1⟩
 have HX1 := Lib.hid (HX0.out.trans hx1)
 have HBs := Lib.hid (HB0.out.ext hx1)
 have hsc := fun o => HBs.out.cell o
 clear hx1 HCk
 go_wp2_with fail
 go_loopw [7, 18] (fun v i wr => LRel Spn.vals 2 60 w1 n (fun k => preL s (l.take k)) v i wr) (fun _ i _ => n - (intOf i).toNat)
 case atStart => exact ⟨0, Nat.zero_le _, rfl, Ext.refl _, ⟨rfl, .inl ⟨rfl, rfl⟩⟩⟩
 case round =>
  obtain ⟨k, hk, rfl, hx, hown⟩ := hrel
  have HXr := Lib.hid hx
  have HO := Lib.hid hown
  have hjl : (preL s (l.take k)).length ≤ k := by unfold preL; rw [List.length_map, List.length_take]; omega
  have hzr := hx.size
  dsimp only at HO
  clear hx hown
  by_cases hlt : k < n
  · obtain ⟨b, off, r, rfl, hr, hC⟩ := (HL.out.ext (HX1.out.trans HXr.out)).at_ hlt
    have c0 := hC 0 _ rfl
    have c1 := hC 1 _ rfl
    have c2 := hC 2 _ rfl
    have c3 := hC 3 _ rfl
    have c4 := hC 4 _ rfl
    simp only [Nat.add_zero] at c0
    have HBc := Lib.hid (Blk.new wr 95 #[.int .i64 r.inn, .int .i64 r.out, .int .i64 r.dst, .int .i64 r.n, .int .i64 r.d])
    have HXc := Lib.hid ((Ext.refl wr).alloc (.cells #[.int .i64 r.inn, .int .i64 r.out, .int .i64 r.dst, .int .i64 r.n, .int .i64 r.d] 95))
    have HBsr := Lib.hid ((HBs.out.ext HXr.out).ext HXc.out)
    have HT : Hid (preL s (l.take (k + 1)) = preL s (l.take k) ++ [⟨reachP r s.inn, reachP r s.out⟩]) := by show _ = _; unfold preL; rw [take_snoc' _ _ _ hr, List.map_append]; rfl
    have hro := HOk.out.each r (List.mem_of_getElem? hr)
    have HR0 := Lib.hid (fun w' => Reaches_any r s.inn w' hro hso)
    have HR1 := Lib.hid (fun w' => Reaches_any r s.out w' hro h1)
    have HNs : Hid (∀ q, u7.ownBlock = some q → q ≠ w.heap.size) := fun q hq => by have h1 := own_lt HO.out q hq; have h2 := HBs.out.lt; omega
    clear hr hC hro
    generalize preL s (l.take k) = os at *
    go_upto_region 8 with fail
    generalize reachP r s.inn = r0 at *
    generalize reachP r s.out = r1 at *
    have HO2 := Lib.hid (own_ext HO.out HXc.out)
    have hz2 := HXc.out.size
    obtain ⟨W2, hW2⟩ : ∃ W2, W2 = wr.alloc (.cells #[.int .i64 r.inn, .int .i64 r.out, .int .i64 r.dst, .int .i64 r.n, .int .i64 r.d] 95) := ⟨_, rfl⟩
    rw [← hW2] at HBc HXc HO2 hz2 HBsr ⊢
    clear hW2
    refine wp_region_links [some 22, some 23, some 24, some 25, some 26, some 27, some 28, some 29, some 30, some 31, some 32, some 33, some 7] [[], [], [], [2], [1, 3], [], [], [6], [5, 7, 4], [4, 8], [9], [0, 10, 8], [11, 11, 0, 1, 2, 3, 4, 5, 6, 7, 8, 9, 10, 11]] [4, 8, 10, 11, 12] [u7, .agg #[.int .i64 r.inn, .int .i64 r.out, .int .i64 r.dst, .int .i64 r.n, .int .i64 r.d], .pointer (some ⟨w.heap.size, 0, none⟩), .int .i64 s.inn, undef, .agg #[.int .i64 r.inn, .int .i64 r.out, .int .i64 r.dst, .int .i64 r.n, .int .i64 r.d], .pointer (some ⟨w.heap.size, 1, none⟩), .int .i64 s.out, undef, .agg #[.int .i64 r0, .int .i64 r1], undef, undef, undef] (PmJ r0 r1 w1.heap.size u7 os.length (os.flatMap Spn.vals) W2) (by kernel_rfl) (by kernel_rfl) (by kernel_rfl) (by kernel_rfl) (by kernel_rfl) (by kernel_rfl) (by kernel_rfl) (by decide) ?_ ?_ ?_ ?_
    · exact PmJ.start W2
    · intro i o ho hc a w' us K' hJ hF hlim hk
      match i, ho with
      | 0, ho =>
       simp only [List.getElem?_toArray, List.getElem?_cons_zero, List.getElem?_cons_succ, Option.some.injEq] at ho
       subst ho
       have e7 := hF.olds 4 12 7 (u7) rfl rfl (hlim 4 12 rfl rfl) rfl
       simp only [Act.eval] at e7
       clear hF hlim hJ
       go_simp
       exact hk
      | 1, ho =>
       simp only [List.getElem?_toArray, List.getElem?_cons_zero, List.getElem?_cons_succ, Option.some.injEq] at ho
       subst ho
       have e9 := hF.old 9 (.pointer (some ⟨wr.heap.size, 0, none⟩)) rfl rfl
       exact wp_loadB 95 (.tmp 9) rfl wr.heap.size 95 _ _ e9 (HBc.out.only hJ.only (by decide)) Tryz.underlying95 rfl (by exact size_pc) hk
      | 2, ho =>
       simp only [List.getElem?_toArray, List.getElem?_cons_zero, List.getElem?_cons_succ, Option.some.injEq] at ho
       subst ho
       have e3 := hF.old 3 (.pointer (some ⟨w.heap.size, 0, none⟩)) rfl rfl
       simp only [Act.eval] at e3
       clear hF hlim hJ
       go_simp
       exact hk
      | 3, ho =>
       simp only [List.getElem?_toArray, List.getElem?_cons_zero, List.getElem?_cons_succ, Option.some.injEq] at ho
       subst ho
       have e24 := hF.pure 2 24 (.pointer (some ⟨w.heap.size, 0, none⟩)) rfl rfl rfl rfl
       have hcl := (hJ.span HBsr.out HNs.out).cell 0
       simp only [List.getElem?_toArray, List.getElem?_cons_zero, List.getElem?_cons_succ] at hcl
       simp only [Act.eval] at e24
       clear hF hlim hJ
       go_simp
       exact hk
      | 4, ho => simp at hc
      | 5, ho =>
       simp only [List.getElem?_toArray, List.getElem?_cons_zero, List.getElem?_cons_succ, Option.some.injEq] at ho
       subst ho
       have e9 := hF.old 9 (.pointer (some ⟨wr.heap.size, 0, none⟩)) rfl rfl
       exact wp_loadB 95 (.tmp 9) rfl wr.heap.size 95 _ _ e9 (HBc.out.only hJ.only (by decide)) Tryz.underlying95 rfl (by exact size_pc) hk
      | 6, ho =>
       simp only [List.getElem?_toArray, List.getElem?_cons_zero, List.getElem?_cons_succ, Option.some.injEq] at ho
       subst ho
       have e3 := hF.old 3 (.pointer (some ⟨w.heap.size, 0, none⟩)) rfl rfl
       simp only [Act.eval] at e3
       clear hF hlim hJ
       go_simp
       exact hk
      | 7, ho =>
       simp only [List.getElem?_toArray, List.getElem?_cons_zero, List.getElem?_cons_succ, Option.some.injEq] at ho
       subst ho
       have e28 := hF.pure 6 28 (.pointer (some ⟨w.heap.size, 1, none⟩)) rfl rfl rfl rfl
       have hcl := (hJ.span HBsr.out HNs.out).cell 1
       simp only [List.getElem?_toArray, List.getElem?_cons_zero, List.getElem?_cons_succ] at hcl
       simp only [Act.eval] at e28
       clear hF hlim hJ
       go_simp
       exact hk
      | 8, ho => simp at hc
      | 9, ho =>
       simp only [List.getElem?_toArray, List.getElem?_cons_zero, List.getElem?_cons_succ, Option.some.injEq] at ho
       subst ho
       obtain ⟨v26, hv26⟩ := getElem_ltq (hF.did 0 4 rfl rfl)
       have e26 := hF.link 0 4 26 _ rfl rfl rfl hv26
       obtain ⟨v30, hv30⟩ := getElem_ltq (hF.did 1 8 rfl rfl)
       have e30 := hF.link 1 8 30 _ rfl rfl rfl hv30
       have hu0 := hJ.val0 v26 hv26
       have hu1 := hJ.val1 v30 hv30
       subst hu0 hu1
       simp [Act.eval] at e26 e30
       clear hF hlim hJ
       go_simp
       exact hk
      | 10, ho => simp at hc
      | 11, ho => simp at hc
      | 12, ho => simp at hc
      | i + 13, ho => simp at ho
    · intro p c' o hp ho a w' us K' hl hJ hF hk
      match p, hp with
      | 0, hp =>
       obtain rfl : 4 = c' := by simpa using hp
       simp only [List.getElem?_toArray, List.getElem?_cons_zero, List.getElem?_cons_succ, Option.some.injEq] at ho
       subst ho
       obtain rfl : us = [] := List.eq_nil_of_length_eq_zero hl
       have e23 := hF.pure 1 23 (.agg #[.int .i64 r.inn, .int .i64 r.out, .int .i64 r.dst, .int .i64 r.n, .int .i64 r.d]) rfl rfl rfl rfl
       have e25 := hF.pure 3 25 (.int .i64 s.inn) rfl rfl rfl rfl
       exact wp_call2 rfl e23 e25 Tryz.call186 (HR0.out _) (fun w5 hx5 => hk _ w5 (hJ.call0 hx5))
      | 1, hp =>
       obtain rfl : 8 = c' := by simpa using hp
       simp only [List.getElem?_toArray, List.getElem?_cons_zero, List.getElem?_cons_succ, Option.some.injEq] at ho
       subst ho
       obtain ⟨u0, rfl⟩ := list_1 hl
       have e27 := hF.pure 5 27 (.agg #[.int .i64 r.inn, .int .i64 r.out, .int .i64 r.dst, .int .i64 r.n, .int .i64 r.d]) rfl rfl rfl rfl
       have e29 := hF.pure 7 29 (.int .i64 s.out) rfl rfl rfl rfl
       exact wp_call2 rfl e27 e29 Tryz.call186 (HR1.out _) (fun w5 hx5 => hk _ w5 (hJ.call1 hx5))
      | 2, hp =>
       obtain rfl : 10 = c' := by simpa using hp
       simp only [List.getElem?_toArray, List.getElem?_cons_zero, List.getElem?_cons_succ, Option.some.injEq] at ho
       subst ho
       obtain ⟨u0, u1, rfl⟩ := list_2 hl
       have e31 := hF.pure 9 31 (.agg #[.int .i64 r0, .int .i64 r1]) rfl rfl rfl rfl
       have HK := Lib.hid (hk (.slice (some ⟨w'.heap.size, 0, none⟩) 1 1) (w'.alloc (.cells #[.int .i64 r0, .int .i64 r1] 60)) hJ.build)
       simp [Act.eval] at e31
       clear hk hF hJ
       go_simp
       exact HK.out
      | 3, hp =>
       obtain rfl : 11 = c' := by simpa using hp
       simp only [List.getElem?_toArray, List.getElem?_cons_zero, List.getElem?_cons_succ, Option.some.injEq] at ho
       subst ho
       obtain ⟨u0, u1, u2, rfl⟩ := list_3 hl
       obtain ⟨⟨g8, rfl, hB8⟩, hx8⟩ := hJ.st
       have e22 := hF.pure 0 22 (u7) rfl rfl rfl rfl
       have e32 := hF.link 2 10 32 _ rfl rfl rfl rfl
       exact wp_append1p (.tmp 22) (.tmp 32) 35 rfl info_span Tryz.underlying35 rfl (by decide) (own_ext HO2.out hx8) e22 g8 _ e32 hB8 rfl (by simp [Value.oneCell']) (by omega) (by simp [maxLen]; omega) (by have := hx8.size; omega) (fun v' w9 ho9 hg9 => hk v' w9 (hJ.app (own_typed (own_ext HO2.out hx8)) hg9 ho9))
      | 4, hp =>
       obtain rfl : 12 = c' := by simpa using hp
       simp only [List.getElem?_toArray, List.getElem?_cons_zero, List.getElem?_cons_succ, Option.some.injEq] at ho
       subst ho
       obtain ⟨u0, u1, u2, u3, rfl⟩ := list_4 hl
       have e33 := hF.link 3 11 33 _ rfl rfl rfl rfl
       exact wp_assignx _ _ rfl e33 (hk _ _ hJ.asg)
      | p + 5, hp => simp at hp
    intro us w5 hl hJ
    obtain ⟨uu0, uu1, uu2, uu3, uu4, rfl⟩ := list_5 hl
    first | (rename_i hK; refine hK _ _ ?_; clear hK) | (rename_i hK hK_1; refine hK _ _ ?_; clear hK) | (rename_i hK hK_1 hK_2; refine hK _ _ ?_; clear hK) | (rename_i hK hK_1 hK_2 hK_3; refine hK _ _ ?_; clear hK)
    generalize hL : frameL _ _ _ _ = L
    obtain rfl : L = [(22, u7), (23, .agg #[.int .i64 r.inn, .int .i64 r.out, .int .i64 r.dst, .int .i64 r.n, .int .i64 r.d]), (24, .pointer (some ⟨w.heap.size, 0, none⟩)), (25, .int .i64 s.inn), (26, uu0), (27, .agg #[.int .i64 r.inn, .int .i64 r.out, .int .i64 r.dst, .int .i64 r.n, .int .i64 r.d]), (28, .pointer (some ⟨w.heap.size, 1, none⟩)), (29, .int .i64 s.out), (30, uu1), (31, .agg #[.int .i64 r0, .int .i64 r1]), (32, uu2), (33, uu3), (7, uu4)] := hL.symm.trans (by kernel_rfl)
    clear hL hl
    simp only [Act.put, List.foldl_cons, List.foldl_nil, List.setIfInBounds_toArray, List.set_cons_zero, List.set_cons_succ]
    obtain ⟨rfl, w6, hx6, hg6, ho6⟩ := hJ.st
    have HX5 := Lib.hid (Ext.grown ((HXr.out.trans HXc.out).trans hx6) hg6 (fun q hq => own_lt HO.out q hq))
    have HO5 := Lib.hid ho6
    clear hJ hx6 hg6 ho6
    go_wp2_with fail
    exact ⟨⟨k + 1, by omega, by go_num, HX5.out, by dsimp only; rw [HT.out, List.length_append, List.flatMap_append]; exact HO5.out⟩, by simp [intOf]; omega⟩
  · have hkn : k = n := by omega
    subst hkn
    have HTk : Hid (preL s (l.take k) = preL s l) := by show _ = _; rw [List.take_of_length_le (by have := HLn.out; omega)]
    rw [HTk.out] at HO hjl
    obtain ⟨A', c', rfl, hc, _, hS, hfr⟩ := own_sl (f := Spn.vals) (size := 2) (fun _ => rfl) rfl HO.out
    have HN := Lib.hid (Norm_ok A' (preL s l).length c' (preL s l) wr hS (by omega) (fun x hx _ => by obtain ⟨p, hp, rfl⟩ := List.mem_map.1 hx; have h2 := reachP_bd (HOk.out.each p hp) s.inn; have h3 := reachP_bd (HOk.out.each p hp) s.out; exact ⟨h2.1, h3.2⟩))
    unfold SpnsPost2 at HN
    clear hc hS hfr HO
    go_wp2_with fail
    refine HN.out.mono ?_
    rintro en2 w2 ⟨A2, c2, rfl, h1, h2, h3, h4⟩
    have HR := Lib.hid (And.intro h2 (And.intro h1 (And.intro (fun ad h => Nat.le_trans (Nat.le_trans HX1.out.size hzr) (h4 ad h)) ((HX1.out.trans HXr.out).trans h3))))
    clear h1 h2 h3 h4 HN
    go_wp2_with fail
    go_ret2
    exact ⟨A2, c2, rfl, HR.out.2.1, HR.out.1, HR.out.2.2.2, HR.out.2.2.1⟩
end Go.Proofs.YtablhmobekmflaaGreatDoor
/-! PrtD -/
namespace Go.Proofs.YtablhmobekmflaaGreatDoor
open Go.RowKit
theorem join_one (x : Spn) : joinS [x] = if x.inn < x.out then [x] else [] := by
 unfold joinS full
 rw [List.filter_cons, List.filter_nil]
 by_cases h : x.inn < x.out
 · rw [if_pos (by simpa using h), if_pos h]; rfl
 · rw [if_neg (by simpa using h), if_neg h]; rfl
theorem Pc.one {w : World} {g : Nat} {p : Pc} (h : Blk w g 95 #[.int .i64 p.inn, .int .i64 p.out, .int .i64 p.dst, .int .i64 p.n, .int .i64 p.d]) : PcsAt w (some ⟨g, 0, none⟩) 1 [p] := by
 refine ⟨rfl, fun _ => ⟨_, 0, rfl, fun i x hx j u hu => ?_⟩⟩
 match i, hx with
 | 0, hx =>
  simp at hx; subst hx
  have := h.cell j
  simp only [Nat.zero_mul, Nat.zero_add]
  rw [this]
  simpa [Pc.vals] using hu
 | i + 1, hx => simp at hx
theorem one_map {p : Pc} (h : p.Ok) : MapOk [p] := ⟨fun x hx => by simp at hx; subst hx; exact h, by simp, by simp⟩
theorem size_spnI : (Tryz.prog.info? 60).map (·.size) = some 2 := by kernel_rfl
theorem part_ret {w' : World} {g : Nat} {a b : Int} {q : Bool} {tmps : Array Value} (hB : Blk w' g 60 #[.int .i64 a, .int .i64 b])
 (h4 : tmps.getD 4 undef = .pointer (some ⟨g, 0, none⟩)) (h5 : tmps.getD 5 undef = .bool q) : (results Tryz.f59 tmps).run Tryz.prog w' = .ok (.tuple #[.agg #[.int .i64 a, .int .i64 b], .bool q]) w' := by
 rw [results_B_tmp (P := Tryz.prog) Tryz.results59 h4 hB Tryz.underlying60 rfl size_spnI, h5]
/-- the record frames of a cut that play frames of a span -/
def partV (c : Cut) (s : Spn) : Value := if reachP c.pc s.inn < reachP c.pc s.out then .tuple #[.agg #[.int .i64 (reachP c.pc s.inn), .int .i64 (reachP c.pc s.out)], .bool true] else .tuple #[.agg #[.int .i64 0, .int .i64 0], .bool false]
set_option maxRecDepth 100000 in
set_option maxHeartbeats 4000000 in
theorem Part_any (c : Cut) (s : Spn) (w : World) (hp : c.pc.Ok) (h0 : 0 ≤ s.inn) (hs : s.inn < s.out) (h1 : s.out ≤ maxT) :
 Calls Tryz.prog 59 #[.agg c.cells, .agg #[.int .i64 s.inn, .int .i64 s.out]] w fun e w' => e = .returned (partV c s) ∧ Ext w w' := by
 have HX0 := Lib.hid ((((Ext.refl w).alloc (.cells c.cells 91)).alloc (.cells #[.int .i64 s.inn, .int .i64 s.out] 60)).alloc (.cells #[.int .i64 0, .int .i64 0] 60))
 have HB0 := Lib.hid ((Blk.new w 91 c.cells).alloc (.cells #[.int .i64 s.inn, .int .i64 s.out] 60) |>.alloc (.cells #[.int .i64 0, .int .i64 0] 60))
 have HBs := Lib.hid (Blk.new ((w.alloc (.cells c.cells 91)).alloc (.cells #[.int .i64 s.inn, .int .i64 s.out] 60)) 60 #[.int .i64 0, .int .i64 0])
 have HPr := Lib.hid (fun w' B d (hb : PcsAt w' B 1 [c.pc]) => Preimage_any B 1 d [c.pc] s w' hb (one_map hp) h0 hs h1)
 have HJ : Hid (joinS (preL s [c.pc]) = if reachP c.pc s.inn < reachP c.pc s.out then [⟨reachP c.pc s.inn, reachP c.pc s.out⟩] else []) := join_one _
 have HPv : Hid (partV c s = if reachP c.pc s.inn < reachP c.pc s.out then .tuple #[.agg #[.int .i64 (reachP c.pc s.inn), .int .i64 (reachP c.pc s.out)], .bool true] else .tuple #[.agg #[.int .i64 0, .int .i64 0], .bool false]) := rfl
 clear hp h0 hs h1
 have HPc : Hid (c.pc = ⟨c.inn, c.out, c.src, c.n, c.d⟩) := rfl
 generalize reachP c.pc s.inn = r0 at *
 generalize reachP c.pc s.out = r1 at *
 generalize c.pc = p at *
 obtain rfl := HPc.out
 unfold SpnsPost2 at HPr
 have HPA := Lib.hid (Pc.one (p := ⟨c.inn, c.out, c.src, c.n, c.d⟩) (Blk.new (((w.alloc (.cells c.cells 91)).alloc (.cells #[.int .i64 s.inn, .int .i64 s.out] 60)).alloc (.cells #[.int .i64 0, .int .i64 0] 60)) 95 #[.int .i64 c.inn, .int .i64 c.out, .int .i64 c.src, .int .i64 c.n, .int .i64 c.d]))
 simp only [World.size_alloc] at HPA
 unfold Cut.cells at *
 go_enter Tryz.func59, Tryz.ntmps59
 go_wp2_with fail
 refine (HPr.out _ _ _ HPA.out).mono ?_
 rintro e w1 ⟨Z, zc, rfl, hz, -, hx1, -⟩
 have HX1 := Lib.hid ((HX0.out.alloc (.cells #[.int .i64 c.inn, .int .i64 c.out, .int .i64 c.src, .int .i64 c.n, .int .i64 c.d] 95)).trans hx1)
 have HB1 := Lib.hid ((HBs.out.alloc (.cells #[.int .i64 c.inn, .int .i64 c.out, .int .i64 c.src, .int .i64 c.n, .int .i64 c.d] 95)).ext hx1)
 have HZ := Lib.hid hz
 clear hz hx1 HPA
 simp only [World.size_alloc] at HB1
 by_cases hr : r0 < r1
 · have HV := Lib.hid (HPv.out.trans (if_pos hr))
   rw [HJ.out, if_pos hr] at HZ ⊢
   obtain ⟨b, off, x, rfl, hx0, hC⟩ := HZ.out.at_ (i := 0) (by simp)
   simp at hx0
   subst hx0
   have d0 := hC 0 _ rfl
   have d1 := hC 1 _ rfl
   simp only [Nat.zero_mul, Nat.add_zero] at d0 d1
   clear hC hr HPr
   go_wp2_with (refine wpList_storeB rfl 60 (.tmp 4) (.tmp 31) rfl (w.heap.size + 1 + 1) 60 _ _ (by exact rfl) (by exact rfl) HB1.out (by exact rfl) (by exact size_spnI) (by simp [Value.oneCell']) ?_)
   refine bodyPost_ret (v := .tuple #[.agg #[.int .i64 r0, .int .i64 r1], .bool true]) ?_ rfl ⟨?_, ?_⟩
   · exact part_ret (HB1.out.put _) rfl rfl
   · rw [HV.out]
   · exact HX1.out.put (by omega) _ _
 · have HV := Lib.hid (HPv.out.trans (if_neg hr))
   rw [HJ.out, if_neg hr] at HZ ⊢
   clear hr HPr
   go_wp2_with (refine wpList_storeB rfl 60 (.tmp 4) (.tmp 28) rfl (w.heap.size + 1 + 1) 60 _ _ (by exact rfl) (by exact rfl) HB1.out (by exact rfl) (by exact size_spnI) (by simp [Value.oneCell']) ?_)
   refine bodyPost_ret (v := .tuple #[.agg #[.int .i64 0, .int .i64 0], .bool false]) ?_ rfl ⟨?_, ?_⟩
   · exact part_ret (HB1.out.put _) rfl rfl
   · rw [HV.out]
   · exact HX1.out.put (by omega) _ _
end Go.Proofs.YtablhmobekmflaaGreatDoor