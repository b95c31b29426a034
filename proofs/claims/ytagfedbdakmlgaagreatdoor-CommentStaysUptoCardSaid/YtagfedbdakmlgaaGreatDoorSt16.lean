/- Laid together: A document with an event in the place of another, plainly; the stores of whole rows. The walk of document.Follow. Rows of one's own under an append with room and a clear. The walk of slices.Delete of events: one element. The walk of slices.Delete of comments: one element. The walk of comment.Remove. -/
import Derived.Test.YtagfedbdakmlgaaGreatDoorSt15
import Derived.Test.YtagfedbdakmlgaaGreatDoorSt10
import Derived.Test.YtagfedbdakmlgaaGreatDoorSt06
import Derived.Test.YtagfedbdakmlgaaGreatDoorSt13
import Derived.Test.YtagfedbdakmlgaaGreatDoorSt12

/-! PutP -/
namespace Go.Proofs.YtagfedbdakmlgaaGreatDoor
set_option linter.unusedVariables false
set_option linter.unusedSimpArgs false
open Go.RowKit
def Ev.chars (e : Ev) : List Int := runes ⟨e.text.toArray⟩ 0
def Com.onto (id : Int) (a b : List Int) (c : Com) : Com := if c.ev = id then c.fol a b else c
def Doc.putD (d : Doc) (e x : Ev) (k : Nat) : Doc := ⟨d.title, d.lang, d.rate, d.drop, d.last, d.regs, srtE (d.evs.set k e), d.coms.map (Com.onto e.id x.chars e.chars)⟩
/-- what Put comes to -/
def Doc.putX (d : Doc) (e : Ev) : DE :=
  if d.err ≠ 0 then (Doc.zero, d.err) else match findE d.evs e.id with
    | none => (Doc.zero, 6)
    | some k => if e.err d.regs ≠ 0 then (Doc.zero, e.err d.regs) else match d.evs[k]? with
      | none => (Doc.zero, 6)
      | some x => (d.putD e x k, 0)
section
variable {d : Doc} {e x : Ev} {k : Nat}
theorem put_1 (h : d.err ≠ 0) : d.putX e = (Doc.zero, d.err) := by unfold Doc.putX; rw [if_pos h]
theorem put_2 (h : d.err = 0) (h2 : findE d.evs e.id = none) : d.putX e = (Doc.zero, 6) := by unfold Doc.putX; rw [if_neg (by simpa using h), h2]
theorem put_3 (h : d.err = 0) (h2 : findE d.evs e.id = some k) (h3 : e.err d.regs ≠ 0) : d.putX e = (Doc.zero, e.err d.regs) := by unfold Doc.putX; rw [if_neg (by simpa using h), h2]; simp only; rw [if_pos h3]
theorem put_4 (h : d.err = 0) (h2 : findE d.evs e.id = some k) (h3 : e.err d.regs = 0) (h4 : d.evs[k]? = some x) : d.putX e = (d.putD e x k, 0) := by unfold Doc.putX; rw [if_neg (by simpa using h), h2]; simp only; rw [if_neg (by simpa using h3), h4]
end
theorem wp_call3v {P : Program} {o : Oper} {a : Act} {w : World} {K : Act → World → Prop} {Q : Exit → Act → World → Prop} {f : FuncId} {x0 x1 x2 : Operand} {ts : Array TypeId} {v0 v1 v2 v : Value} (ho : o.op = .call { callee := .value (.func f), args := #[x0, x1, x2], argTypes := ts })
    (h0 : a.eval x0 = v0) (h1 : a.eval x1 = v1) (h2 : a.eval x2 = v2) (hcall : ∀ args w, (callFunc f args).run P w = .ok (.enter f args) w) (hc : Calls P f #[v0, v1, v2] w fun e w' => e = .returned v ∧ Ext w w')
    (h : ∀ w', Ext w w' → K (a.put o.dst v) w') : o.wp P a w K Q := by
  have h9 : Calls P f #[v0, v1, v2] w (fun
      | .returned u, w'' => K (a.put o.dst u) w''
      | .panicked chain, w'' => Q (.panic chain) a w''
      | .outgrown, _ => LetsOut Q) := hc.mono fun en w' hr => by
    obtain ⟨rfl, hk⟩ := hr
    exact h w' hk
  unfold Oper.wp execOp
  simp only [ho]
  have hev : a.eval (.func f) = .func (.func f) #[] #[] := rfl
  simp [resolve, invoke, hev, h0, h1, h2, hcall, Sem.run_bind, Deferred.ofValue]
  exact h9
/-- calls of known answers, then one store of a whole row, in a drawn region -/
structure PutJ (vs : List Value) (g o : Nat) (cs : List Value) (W : World) (us : List Value) (w' : World) : Prop where
  few : us.length ≤ vs.length → Ext W w' ∧ us = vs.take us.length
  all : us.length = vs.length + 1 → ∃ w5, Ext W w5 ∧ w' = w5.setCells g o cs
section
variable {vs us : List Value} {g o : Nat} {cs : List Value} {W w' w2 : World} {u : Value}
theorem PutJ.start (W : World) : PutJ vs g o cs W [] W.drew := ⟨fun _ => ⟨(Ext.refl W).drew, by simp⟩, fun h => by simp at h⟩
theorem PutJ.ext (j : PutJ vs g o cs W us w') (h : us.length ≤ vs.length) : Ext W w' := (j.few h).1
theorem PutJ.call (j : PutJ vs g o cs W us w') (hu : vs[us.length]? = some u) (hx : Ext w' w2) : PutJ vs g o cs W (us ++ [u]) w2 := by
  have hl := (List.getElem?_eq_some_iff.1 hu).1
  obtain ⟨h1, h2⟩ := j.few (by omega)
  refine ⟨fun _ => ⟨h1.trans hx, ?_⟩, fun h => by rw [List.length_append, List.length_singleton] at h; omega⟩
  rw [List.length_append, List.length_singleton, take_snoc' vs us.length u hu, ← h2]
theorem PutJ.sto (j : PutJ vs g o cs W us w') (h : us.length = vs.length) : PutJ vs g o cs W (us ++ [u]) (w'.setCells g o cs) :=
  ⟨fun hh => by rw [List.length_append, List.length_singleton] at hh; omega, fun _ => ⟨w', j.ext (by omega), rfl⟩⟩
theorem PutJ.val (j : PutJ vs g o cs W us w') (h : us.length ≤ vs.length) : us = vs.take us.length := (j.few h).2
end
theorem own_sets_size {L size n cap g : Nat} {T : TypeId} : ∀ (vs : List Value) (j : Nat) (w : World) (xs : List Value), w.ownsRow L T size (.slice (some ⟨g, 0, none⟩) n cap) n xs → w.heap.size ≤ (w.setCells g j vs).heap.size
  | [], _, _, _, _ => Nat.le_refl _
  | v :: vs, j, w, xs, h => Nat.le_trans (h.stored j v).2.size (own_sets_size vs (j + 1) _ _ (h.stored j v).1)
/-- a comment of a document of one's own is stored whole -/
theorem DocOwn.com_sets {w : World} {L k g : Nat} {d : Doc} {h : DocH} {c c' : Com} (o : DocOwn w L d h) (hca : h.ca = some ⟨g, 0, none⟩) (hc : d.coms[k]? = some c) :
    DocOwn (w.setCells g (k * 8) c'.vals) L (d.withComs (d.coms.set k c')) h ∧ w.there g (k * 8) 8 ∧ (∀ {T : TypeId} (b : Nat) (cs : Array Value), T ≠ 78 → Blk w b T cs → Blk (w.setCells g (k * 8) c'.vals) b T cs) ∧ w.heap.size ≤ (w.setCells g (k * 8) c'.vals).heap.size := by
  obtain ⟨a1, a2, a3, a4, a5⟩ := o
  have hty := own_typed a4
  rw [hca] at a4 hty
  have hT : Typed w 78 g := hty g rfl
  have hk := (List.getElem?_eq_some_iff.1 hc).1
  have hkb : ∀ {T : TypeId}, T ≠ 78 → KB T w (w.setCells g (k * 8) c'.vals) := fun hne => KB.sets hne _ _ _ hT
  refine ⟨⟨own_kb a1 (hkb (by decide)), a2, a3.kb (hkb (by decide)) (hkb (by decide)) (hkb (by decide)), ?_, by show (d.coms.set k c').length = _; simpa using a5⟩, fun j hj => ?_, fun b cs hne hb => hkb hne _ _ hb, own_sets_size _ _ _ _ a4⟩
  · show World.ownsRow _ _ _ _ _ _ ((d.coms.set k c').flatMap Com.vals)
    rw [hca, ← flat_setMany (f := Com.vals) (size := 8) (fun _ => rfl) d.coms k c' hk]
    exact own_sets _ _ _ _ a4
  · have h8 : k * 8 + j < (d.coms.flatMap Com.vals).length := by rw [flatMap_len Com.vals 8 (fun _ => rfl)]; omega
    exact ⟨by rw [a4.cellAt (k * 8 + j) (by omega), List.getElem?_eq_getElem h8]; rfl, hT.frozen _⟩
/-- another event's head is stored into events of one's own: they are events -/
theorem DocOwn.ev_put {w : World} {L k g n c : Nat} {A : Option Addr} {d : Doc} {h : DocH} {e x : Ev} (o : DocOwn w L d h) (hea : h.ea = some ⟨g, 0, none⟩) (hx : d.evs[k]? = some x) (hat : EvAt (w.setCells g (k * 7) (e.cells A n c).toList) e A n c) :
    EvsAt (w.setCells g (k * 7) (e.cells A n c).toList) h.ea h.en (d.evs.set k e) ∧ w.there g (k * 7) 7 ∧ (∀ {T : TypeId}, T ≠ 66 → KB T w (w.setCells g (k * 7) (e.cells A n c).toList)) := by
  obtain ⟨hs, h1, h2, h3, h4⟩ := o.evs
  rw [hea] at h1 ⊢
  have hT : Typed w 66 g := own_typed h1 g rfl
  have hk := (List.getElem?_eq_some_iff.1 hx).1
  have hkb : ∀ {T : TypeId}, T ≠ 66 → KB T w (w.setCells g (k * 7) (e.cells A n c).toList) := fun hne => KB.sets hne _ _ _ hT
  have hown : (w.setCells g (k * 7) (e.cells A n c).toList).ownsRow L 66 7 (.slice (some ⟨g, 0, none⟩) h.en h.ec) h.en ((hs.set k (EH.of e A n c)).flatMap EH.vals) := by
    rw [← flat_setMany EH.len hs k (EH.of e A n c) (by omega)]
    exact own_sets _ _ _ _ h1
  obtain ⟨A6, c6, hv6, hc6, hm6, hsl6, -⟩ := own_sl (f := EH.vals) (size := 7) EH.len (by rw [List.length_set, h2]) hown
  cases hv6
  refine ⟨evsAt_heads hsl6 (by rw [List.length_set]; exact h3) (fun i y z hy hz => ?_), fun j hj => ?_, hkb⟩
  · by_cases hik : k = i
    · subst hik
      rw [List.getElem?_set_self (by omega)] at hy hz
      cases hy
      cases hz
      exact ⟨rfl, hat⟩
    · rw [List.getElem?_set_ne hik] at hy hz
      have hg := (h4 i y z hy hz).kb (hkb (by decide)) (hkb (by decide))
      exact ⟨hg.1, hg.at_⟩
  · have h8 : k * 7 + j < (hs.flatMap EH.vals).length := by rw [flatMap_len EH.vals 7 EH.len]; omega
    exact ⟨by rw [h1.cellAt (k * 7 + j) (by omega), List.getElem?_eq_getElem h8]; rfl, hT.frozen _⟩
end Go.Proofs.YtagfedbdakmlgaaGreatDoor

/-! FollowD -/
namespace Go.Proofs.YtagfedbdakmlgaaGreatDoor
set_option linter.unusedVariables false
set_option linter.unusedSimpArgs false
open Go.RowKit
set_option maxRecDepth 100000 in
set_option maxHeartbeats 8000000 in
theorem DFollow_any (c : Com) (before after : ByteArray) (w : World) (hb : before.size ≤ 35184372088831) (ha : after.size ≤ 35184372088831) :
    Calls Tryz.prog 91 #[.agg c.vals.toArray, .string before, .string after] w fun en w' => en = .returned (.agg (c.fol (runes before 0) (runes after 0)).vals.toArray) ∧ Ext w w' := by
  have HRa := Lib.hid (fun w' => DRunes_any before w' hb)
  have HRb := Lib.hid (fun w' => DRunes_any after w' ha)
  have hna := runes_len before
  have hnb := runes_len after
  have HX : Hid (Ext w ((w.alloc (.cells #[.int .i64 c.id, .int .i64 c.ev, .int .i64 c.fr, .int .i64 c.til, .string c.author, .string c.text, .bool c.done, .bool c.lost] 78)).alloc (.cells #[.int .i64 0, .int .i64 0, .int .i64 0, .int .i64 0, .string ⟨#[]⟩, .string ⟨#[]⟩, .bool false, .bool false] 78))) := ((Ext.refl w).alloc _).alloc _
  have HB : Hid (Blk ((w.alloc (.cells #[.int .i64 c.id, .int .i64 c.ev, .int .i64 c.fr, .int .i64 c.til, .string c.author, .string c.text, .bool c.done, .bool c.lost] 78)).alloc (.cells #[.int .i64 0, .int .i64 0, .int .i64 0, .int .i64 0, .string ⟨#[]⟩, .string ⟨#[]⟩, .bool false, .bool false] 78)) w.heap.size 78 #[.int .i64 c.id, .int .i64 c.ev, .int .i64 c.fr, .int .i64 c.til, .string c.author, .string c.text, .bool c.done, .bool c.lost]) := (Blk.new w _ _).alloc _
  have HZ : Hid (Blk ((w.alloc (.cells #[.int .i64 c.id, .int .i64 c.ev, .int .i64 c.fr, .int .i64 c.til, .string c.author, .string c.text, .bool c.done, .bool c.lost] 78)).alloc (.cells #[.int .i64 0, .int .i64 0, .int .i64 0, .int .i64 0, .string ⟨#[]⟩, .string ⟨#[]⟩, .bool false, .bool false] 78)) (w.heap.size + 1) 78 #[.int .i64 0, .int .i64 0, .int .i64 0, .int .i64 0, .string ⟨#[]⟩, .string ⟨#[]⟩, .bool false, .bool false]) := Blk.new' (by simp)
  unfold RunesPost at HRa HRb
  unfold Com.vals
  generalize runes before 0 = a at *
  generalize runes after 0 = b at *
  go_enter Tryz.func91, Tryz.ntmps91
  have hcb := fun o => HB.out.cell o
  cases hlo : c.lost
  case true =>
    have HF : Hid (c.fol a b = c) := by show _ = _; unfold Com.fol; rw [if_pos hlo]
    have HLo := Lib.hid hlo
    rw [hlo] at HB HX HZ hcb
    clear hlo
    go_wp2_with (first | (refine wpList_loadB rfl 78 (.tmp 3) rfl (w.heap.size) 78 _ _ (by exact rfl) (by exact HB.out) Tryz.underlying78 rfl (by exact size_comI) ?_) | (refine wpList_storeB rfl 78 (.tmp 6) _ rfl (w.heap.size + 1) 78 _ _ (by exact rfl) (by exact rfl) (by exact HZ.out) (by exact rfl) (by exact size_comI) (by simp [Value.oneCell']) ?_))
    refine bodyPost_ret (v := .agg #[.int .i64 c.id, .int .i64 c.ev, .int .i64 c.fr, .int .i64 c.til, .string c.author, .string c.text, .bool c.done, .bool true]) ?_ rfl ⟨?_, HX.out.put (by omega) _ _⟩
    · exact results_B (P := Tryz.prog) Tryz.results91 (g := w.heap.size + 1) rfl (by exact HZ.out.put _) Tryz.underlying78 rfl size_comI
    · rw [HF.out, HLo.out]
  have HLo := Lib.hid hlo
  rw [hlo] at HB HX HZ hcb
  clear hlo
  go_wp2_with fail
  clear hcb
  refine (HRa.out _).mono ?_
  rintro en w1 ⟨A, n, c1, rfl, hat1, hc1, hx1⟩
  go_wp2_with fail
  refine (HRb.out _).mono ?_
  rintro en W ⟨B, m, c2, rfl, hat2, hc2, hx2⟩
  have HXW := Lib.hid (HX.out.trans (hx1.trans hx2))
  have HBW := Lib.hid (HB.out.ext (hx1.trans hx2))
  have HZW := Lib.hid (HZ.out.ext (hx1.trans hx2))
  have HA := Lib.hid (hat1.ext hx2)
  have HBr := Lib.hid hat2
  have HLa := Lib.hid hat1.len
  have HLb := Lib.hid hat2.len
  have hn9 : n ≤ 35184372088831 := by have := hat1.len; omega
  have hm9 : m ≤ 35184372088831 := by have := hat2.len; omega
  clear hx1 hx2 hat1 hat2 hna hnb HRa HRb HX HB HZ
  have hpl := Mv.pre_le a b
  have hsl := Mv.suf_le a b (Mv.pre a b)
  have hla := HLa.out
  have hlb := HLb.out
  obtain ⟨P0, hP0⟩ : ∃ P0, P0 = Mv.pre a b := ⟨_, rfl⟩
  obtain ⟨S0, hS0⟩ : ∃ S0, S0 = Mv.suf a b (Mv.pre a b) := ⟨_, rfl⟩
  have hp1 : P0 ≤ n ∧ P0 ≤ m := by omega
  have hs1 : P0 + S0 ≤ n ∧ P0 + S0 ≤ m := by rw [hP0, hS0]; omega
  have HP0 := Lib.hid hP0
  have HS0 := Lib.hid hS0
  clear hpl hsl hP0 hS0 hla hlb
  obtain ⟨hpn, hpm⟩ := hp1
  obtain ⟨hsn, hsm⟩ := hs1
  go_upto_block 0 with fail
  go_cut [11] (fun s11 wr => s11 = .int .i64 P0 ∧ Ext W wr)
  case first =>
    go_wp2_with fail
    go_loopg [11] n (fun kx v wr => ∃ k : Nat, v = .int .i64 k ∧ k ≤ P0 ∧ n - k ≤ kx ∧ Hid (Ext W wr))
    case atStart => exact ⟨0, rfl, Nat.zero_le _, by omega, (show Hid _ from Ext.refl _)⟩
    case round =>
      obtain ⟨k, rfl, hkP, hkx, HX⟩ := hrel
      have HK : Hid (k ≤ Mv.pre a b) := by show _ ≤ _; rw [← HP0.out]; exact hkP
      by_cases hlt : k < n ∧ k < m
      · obtain ⟨hn1, hm1⟩ := hlt
        obtain ⟨b1, o1, x, hA1, hx1, c1⟩ := (HA.out.ext HX.out).cell hn1
        obtain ⟨b2, o2, y, hA2, hx2, c2⟩ := (HBr.out.ext HX.out).cell hm1
        subst hA1 hA2
        have hmn : (k : Int) < min (n : Int) (m : Int) := by omega
        have hn1i : (k : Int) < (n : Int) := by omega
        have hm1i : (k : Int) < (m : Int) := by omega
        have hk0 : (0 : Int) ≤ (k : Int) := by omega
        have fc1 := fun (y : EW wr) => y.ext.cell c1
        have fc2 := fun (y : EW wr) => y.ext.cell c2
        clear c1 c2
        by_cases he : x = y
        · have heb : (x == y) = true := by simpa using he
          have HN := Lib.hid (Mv.pre_step HK.out hx1 hx2 he)
          clear hx1 hx2 he
          go_wp2_with fail
          refine wp_region_ew wr (Ext.refl _) (by kernel_rfl) (by kernel_rfl) ?_
          repeat (go_big_quiet_step ((fail)))
          refine wpQuiet_nil ?_
          rintro w9 ⟨⟨_, hx9⟩, rfl⟩
          clear fc1 fc2
          go_wp2_with fail
          go_roundg (n - (k + 1))
          case measure => omega
          case rel => exact ⟨k + 1, by go_num, by rw [HP0.out]; exact HN.out, Nat.le_refl _, (show Hid _ from HX.out.trans hx9)⟩
        have heb : (x == y) = false := by simpa using he
        have hkp : k = P0 := by rw [HP0.out]; exact Mv.pre_stop HK.out (.inr (.inr ⟨x, y, hx1, hx2, he⟩))
        clear hx1 hx2 he
        have HKP := Lib.hid hkp
        clear hkp
        go_wp2_with fail
        refine wp_region_ew wr (Ext.refl _) (by kernel_rfl) (by kernel_rfl) ?_
        repeat (go_big_quiet_step ((fail)))
        refine wpQuiet_nil ?_
        rintro w9 ⟨⟨_, hx9⟩, rfl⟩
        clear fc1 fc2 hmn hn1i hm1i hk0 heb
        go_wp2_with fail
        go_meet
        case rel => exact ⟨by rw [HKP.out], HX.out.trans hx9⟩
      have hkp : k = P0 := by
        rw [HP0.out]
        refine Mv.pre_stop HK.out ?_
        have h1 := HLa.out
        have h2 := HLb.out
        by_cases h : k < n
        · exact .inr (.inl (by omega))
        · exact .inl (by omega)
      have HKP := Lib.hid hkp
      clear hkp
      have hmn : decide ((k : Int) < min (n : Int) (m : Int)) = false := decide_eq_false (by omega)
      go_wp2_with fail
      refine wp_region_ew wr (Ext.refl _) (by kernel_rfl) (by kernel_rfl) ?_
      repeat (go_big_quiet_step ((fail)))
      refine wpQuiet_nil ?_
      rintro w9 ⟨⟨_, hx9⟩, rfl⟩
      clear hmn hlt
      go_wp2_with fail
      go_meet
      case rel => exact ⟨by rw [HKP.out], HX.out.trans hx9⟩
  case rest =>
  obtain ⟨rfl, hxc⟩ := hcut
  have HX2 := Lib.hid (HXW.out.trans hxc)
  have HB2 := Lib.hid (HBW.out.ext hxc)
  have HZ2 := Lib.hid (HZW.out.ext hxc)
  have HA2 := Lib.hid (HA.out.ext hxc)
  have HBr2 := Lib.hid (HBr.out.ext hxc)
  clear hxc HXW HBW HZW HA HBr
  go_upto_block 2 with fail
  go_cut [12] (fun s12 wr => s12 = .int .i64 S0 ∧ Ext wc wr)
  case first =>
    go_wp2_with fail
    go_loopg [12] n (fun kx v wr => ∃ j : Nat, v = .int .i64 j ∧ j ≤ S0 ∧ n - j ≤ kx ∧ Hid (Ext wc wr))
    case atStart => exact ⟨0, rfl, Nat.zero_le _, by omega, (show Hid _ from Ext.refl _)⟩
    case round =>
      obtain ⟨j, rfl, hjS, hkx, HXo⟩ := hrel
      have HJ : Hid (j ≤ Mv.suf a b (Mv.pre a b)) := by show _ ≤ _; rw [← HS0.out]; exact hjS
      have hj0 : (0 : Int) ≤ (j : Int) := by omega
      by_cases hlt2 : j < n - P0 ∧ j < m - P0
      · obtain ⟨hn2, hm2⟩ := hlt2
        obtain ⟨b1, o1, x, hA1, hx1, c1⟩ := (HA2.out.ext HXo.out).cell (i := n - 1 - j) (by omega)
        obtain ⟨b2, o2, y, hA2, hx2, c2⟩ := (HBr2.out.ext HXo.out).cell (i := m - 1 - j) (by omega)
        have hmn : (j : Int) < min (n : Int) (m : Int) - (P0 : Int) := by omega
        have hd1 : (j : Int) < (n : Int) - (P0 : Int) := by omega
        have hd2 : (j : Int) < (m : Int) - (P0 : Int) := by omega
        have hi1 : (n : Int) - 1 - (j : Int) = ((n - 1 - j : Nat) : Int) := by omega
        have hi2 : (m : Int) - 1 - (j : Int) = ((m - 1 - j : Nat) : Int) := by omega
        have hi3 : ((n : Int) - 1 - (j : Int)).toNat = n - 1 - j := by omega
        have hi4 : ((m : Int) - 1 - (j : Int)).toNat = m - 1 - j := by omega
        have hi5 : (0 : Int) ≤ (n : Int) - 1 - (j : Int) ∧ (n : Int) - 1 - (j : Int) < (n : Int) := by omega
        have hi6 : (0 : Int) ≤ (m : Int) - 1 - (j : Int) ∧ (m : Int) - 1 - (j : Int) < (m : Int) := by omega
        obtain ⟨hi7, hi8⟩ := hi5
        obtain ⟨hi9, hi10⟩ := hi6
        have hi11 : n - 1 - j < n := by omega
        have hi12 : m - 1 - j < m := by omega
        have fc1 := fun (y : EW wr) => y.ext.cell c1
        have fc2 := fun (y : EW wr) => y.ext.cell c2
        clear c1 c2
        by_cases he : x = y
        · have heb : (x == y) = true := by simpa using he
          have HN := Lib.hid (Mv.suf_step HJ.out (by have := HLa.out; have := HP0.out; omega) (by have := HLb.out; have := HP0.out; omega) (by rw [HLa.out]; exact hx1) (by rw [HLb.out]; exact hx2) he)
          clear hx1 hx2 he
          subst hA1 hA2
          go_wp2_with fail
          refine wp_region_ew wr (Ext.refl _) (by kernel_rfl) (by kernel_rfl) ?_
          repeat (go_big_quiet_step ((fail)))
          refine wpQuiet_nil ?_
          rintro w9 ⟨⟨_, hx9⟩, rfl⟩
          clear fc1 fc2
          go_wp2_with fail
          go_roundg (n - (j + 1))
          case measure => omega
          case rel => exact ⟨j + 1, by go_num, by rw [HS0.out]; exact HN.out, Nat.le_refl _, (show Hid _ from HXo.out.trans hx9)⟩
        have heb : (x == y) = false := by simpa using he
        have hjs : j = S0 := by
          rw [HS0.out]
          exact Mv.suf_stop HJ.out (.inr (.inr ⟨x, y, by have := HLa.out; have := HP0.out; omega, by have := HLb.out; have := HP0.out; omega, by rw [HLa.out]; exact hx1, by rw [HLb.out]; exact hx2, he⟩))
        have HJS := Lib.hid hjs
        clear hx1 hx2 he hjs
        subst hA1 hA2
        go_wp2_with fail
        refine wp_region_ew wr (Ext.refl _) (by kernel_rfl) (by kernel_rfl) ?_
        repeat (go_big_quiet_step ((fail)))
        refine wpQuiet_nil ?_
        rintro w9 ⟨⟨_, hx9⟩, rfl⟩
        clear fc1 fc2 hmn hd1 hd2 hi1 hi2 hi3 hi4 hi7 hi8 hi9 hi10 hi11 hi12 heb
        go_wp2_with fail
        go_meet
        case rel => exact ⟨by rw [HJS.out], HXo.out.trans hx9⟩
      have hjs : j = S0 := by
        rw [HS0.out]
        refine Mv.suf_stop HJ.out ?_
        have h1 := HLa.out
        have h2 := HLb.out
        have h3 := HP0.out
        by_cases h : j < n - P0
        · exact .inr (.inl (by omega))
        · exact .inl (by omega)
      have HJS := Lib.hid hjs
      clear hjs
      have hmn : decide ((j : Int) < min (n : Int) (m : Int) - (P0 : Int)) = false := decide_eq_false (by omega)
      go_wp2_with fail
      refine wp_region_ew wr (Ext.refl _) (by kernel_rfl) (by kernel_rfl) ?_
      repeat (go_big_quiet_step ((fail)))
      refine wpQuiet_nil ?_
      rintro w9 ⟨⟨_, hx9⟩, rfl⟩
      clear hmn hlt2
      go_wp2_with fail
      go_meet
      case rel => exact ⟨by rw [HJS.out], HXo.out.trans hx9⟩
  case rest =>
  obtain ⟨rfl, hxc⟩ := hcut
  have HX3 := Lib.hid (HX2.out.trans hxc)
  have HB3 := Lib.hid (HB2.out.ext hxc)
  have HZ3 := Lib.hid (HZ2.out.ext hxc)
  clear hxc HX2 HB2 HZ2 HA2 HBr2
  obtain ⟨F, hF⟩ : ∃ F, F = wfrom n m P0 S0 c.fr := ⟨_, rfl⟩
  obtain ⟨G, hG⟩ : ∃ G, G = wto n m P0 S0 c.til := ⟨_, rfl⟩
  have HFf := Lib.hid hF
  have HGg := Lib.hid hG
  clear hF hG
  go_upto_block 4 with fail
  go_cut [68] (fun s68 wr => Ext w wr ∧ Blk wr w.heap.size 78 #[.int .i64 c.id, .int .i64 c.ev, .int .i64 F, .int .i64 c.til, .string c.author, .string c.text, .bool c.done, .bool false] ∧ Blk wr (w.heap.size + 1) 78 #[.int .i64 0, .int .i64 0, .int .i64 0, .int .i64 0, .string ⟨#[]⟩, .string ⟨#[]⟩, .bool false, .bool false])
  case first =>
    have hcb := fun o => HB3.out.cell o
    have hfb := fun o => HB3.out.frozen o
    have hsb := setCell_put HB3.out 2 (.int .i64 F)
    simp at hsb
    by_cases z1 : (n : Int) - (S0 : Int) ≤ c.fr
    · have hw : IntKind.i64.wrap (c.fr + ((m : Int) - (n : Int))) = F := by rw [HFf.out]; unfold wfrom; rw [if_pos z1]
      go_wp2_with fail
      go_meet
      case rel => exact ⟨HX3.out.put (Nat.le_refl _) _ _, HB3.out.put _, HZ3.out.put_other (by omega) _⟩
    by_cases z2 : (P0 : Int) ≤ c.fr
    · have hw : (m : Int) - (S0 : Int) = F := by rw [HFf.out]; unfold wfrom; rw [if_neg z1, if_neg (by omega)]
      go_wp2_with fail
      go_meet
      case rel => exact ⟨HX3.out.put (Nat.le_refl _) _ _, HB3.out.put _, HZ3.out.put_other (by omega) _⟩
    have hw : Hid (F = c.fr) := by show _ = _; rw [HFf.out]; unfold wfrom; rw [if_neg z1, if_pos (by omega)]
    go_wp2_with fail
    go_meet
    case rel => exact ⟨HX3.out, by rw [hw.out]; exact HB3.out, HZ3.out⟩
  case rest =>
  obtain ⟨hx4, hb4, hz4⟩ := hcut
  have HX4 := Lib.hid hx4
  have HB4 := Lib.hid hb4
  have HZ4 := Lib.hid hz4
  clear hx4 hb4 hz4 HX3 HB3 HZ3
  go_upto_block 5 with fail
  go_cut [93] (fun s93 wr => Ext w wr ∧ Blk wr w.heap.size 78 #[.int .i64 c.id, .int .i64 c.ev, .int .i64 F, .int .i64 G, .string c.author, .string c.text, .bool c.done, .bool false] ∧ Blk wr (w.heap.size + 1) 78 #[.int .i64 0, .int .i64 0, .int .i64 0, .int .i64 0, .string ⟨#[]⟩, .string ⟨#[]⟩, .bool false, .bool false])
  case first =>
    have hcb := fun o => HB4.out.cell o
    have hfb := fun o => HB4.out.frozen o
    have hsb := fun u => setCell_put HB4.out 3 u
    simp at hsb
    by_cases z1 : c.til ≤ (P0 : Int)
    · have hw : Hid (G = c.til) := by show _ = _; rw [HGg.out]; unfold wto; rw [if_pos z1]
      go_wp2_with fail
      go_meet
      case rel => exact ⟨HX4.out, by rw [hw.out]; exact HB4.out, HZ4.out⟩
    by_cases z2 : (n : Int) - (S0 : Int) < c.til
    · have hw : IntKind.i64.wrap (c.til + ((m : Int) - (n : Int))) = G := by rw [HGg.out]; unfold wto; rw [if_neg z1, if_pos z2]
      go_wp2_with fail
      go_meet
      case rel => exact ⟨HX4.out.put (Nat.le_refl _) _ _, HB4.out.put _, HZ4.out.put_other (by omega) _⟩
    have hw : Hid (G = (P0 : Int)) := by show _ = _; rw [HGg.out]; unfold wto; rw [if_neg z1, if_neg z2]
    go_wp2_with fail
    go_meet
    case rel => rw [hw.out]; exact ⟨HX4.out.put (Nat.le_refl _) _ _, HB4.out.put _, HZ4.out.put_other (by omega) _⟩
  case rest =>
  obtain ⟨hx5, hb5, hz5⟩ := hcut
  have HX5 := Lib.hid hx5
  have HB5 := Lib.hid hb5
  have HZ5 := Lib.hid hz5
  have hcb := fun o => HB5.out.cell o
  have hfb := fun o => HB5.out.frozen o
  clear hx5 hb5 hz5 HX4 HB4 HZ4
  have HFol : Hid (c.fol a b = c.moved F G) := by
    show _ = _
    unfold Com.fol
    rw [if_neg (by rw [HLo.out]; decide), HFf.out, HGg.out, HLa.out, HLb.out, ← HS0.out, ← HP0.out]
  by_cases hge : G ≤ F
  · have HM : Hid (c.moved F G = ⟨c.id, c.ev, 0, 0, c.author, c.text, c.done, true⟩) := by show _ = _; unfold Com.moved; rw [if_pos hge]
    have s1 := setCell_put HB5.out 2 (.int .i64 0)
    have HB6 := Lib.hid (HB5.out.put #[.int .i64 c.id, .int .i64 c.ev, .int .i64 0, .int .i64 G, .string c.author, .string c.text, .bool c.done, .bool false])
    have s2 := setCell_put HB6.out 3 (.int .i64 0)
    have HB7 := Lib.hid (HB6.out.put #[.int .i64 c.id, .int .i64 c.ev, .int .i64 0, .int .i64 0, .string c.author, .string c.text, .bool c.done, .bool false])
    have s3 := setCell_put HB7.out 7 (.bool true)
    have hc6 := fun o => HB6.out.cell o
    have hc7 := fun o => HB7.out.cell o
    have hf6 := fun o => HB6.out.frozen o
    have hf7 := fun o => HB7.out.frozen o
    simp at s1 s2 s3
    have HZ8 := Lib.hid (((HZ5.out.put_other (g' := w.heap.size) (t' := 78) (by omega) #[.int .i64 c.id, .int .i64 c.ev, .int .i64 0, .int .i64 G, .string c.author, .string c.text, .bool c.done, .bool false]).put_other (g' := w.heap.size) (t' := 78) (by omega) #[.int .i64 c.id, .int .i64 c.ev, .int .i64 0, .int .i64 0, .string c.author, .string c.text, .bool c.done, .bool false]).put_other (g' := w.heap.size) (t' := 78) (by omega) #[.int .i64 c.id, .int .i64 c.ev, .int .i64 0, .int .i64 0, .string c.author, .string c.text, .bool c.done, .bool true])
    have HX8 := Lib.hid (((HX5.out.put (g := w.heap.size) (Nat.le_refl _) 78 #[.int .i64 c.id, .int .i64 c.ev, .int .i64 0, .int .i64 G, .string c.author, .string c.text, .bool c.done, .bool false]).put (g := w.heap.size) (Nat.le_refl _) 78 #[.int .i64 c.id, .int .i64 c.ev, .int .i64 0, .int .i64 0, .string c.author, .string c.text, .bool c.done, .bool false]).put (g := w.heap.size) (Nat.le_refl _) 78 #[.int .i64 c.id, .int .i64 c.ev, .int .i64 0, .int .i64 0, .string c.author, .string c.text, .bool c.done, .bool true])
    have HB8 := Lib.hid (HB7.out.put #[.int .i64 c.id, .int .i64 c.ev, .int .i64 0, .int .i64 0, .string c.author, .string c.text, .bool c.done, .bool true])
    go_wp2_with (first | (refine wpList_loadB rfl 78 (.tmp 3) rfl (w.heap.size) 78 _ _ (by exact rfl) (by exact HB8.out) Tryz.underlying78 rfl (by exact size_comI) ?_) | (refine wpList_storeB rfl 78 (.tmp 6) _ rfl (w.heap.size + 1) 78 _ _ (by exact rfl) (by exact rfl) (by exact HZ8.out) (by exact rfl) (by exact size_comI) (by simp [Value.oneCell']) ?_))
    refine bodyPost_ret (v := .agg #[.int .i64 c.id, .int .i64 c.ev, .int .i64 0, .int .i64 0, .string c.author, .string c.text, .bool c.done, .bool true]) ?_ rfl ⟨?_, HX8.out.put (by omega) _ _⟩
    · exact results_B (P := Tryz.prog) Tryz.results91 (g := w.heap.size + 1) rfl (by exact HZ8.out.put _) Tryz.underlying78 rfl size_comI
    · rw [HFol.out, HM.out]
  · have HM : Hid (c.moved F G = ⟨c.id, c.ev, F, G, c.author, c.text, c.done, c.lost⟩) := by show _ = _; unfold Com.moved; rw [if_neg hge]
    go_wp2_with (first | (refine wpList_loadB rfl 78 (.tmp 3) rfl (w.heap.size) 78 _ _ (by exact rfl) (by exact HB5.out) Tryz.underlying78 rfl (by exact size_comI) ?_) | (refine wpList_storeB rfl 78 (.tmp 6) _ rfl (w.heap.size + 1) 78 _ _ (by exact rfl) (by exact rfl) (by exact HZ5.out) (by exact rfl) (by exact size_comI) (by simp [Value.oneCell']) ?_))
    refine bodyPost_ret (v := .agg #[.int .i64 c.id, .int .i64 c.ev, .int .i64 F, .int .i64 G, .string c.author, .string c.text, .bool c.done, .bool false]) ?_ rfl ⟨?_, HX5.out.put (by omega) _ _⟩
    · exact results_B (P := Tryz.prog) Tryz.results91 (g := w.heap.size + 1) rfl (by exact HZ5.out.put _) Tryz.underlying78 rfl size_comI
    · rw [HFol.out, HM.out, HLo.out]
end Go.Proofs.YtagfedbdakmlgaaGreatDoor

/-! DelP -/
namespace Go.Proofs.YtagfedbdakmlgaaGreatDoor
set_option linter.unusedVariables false
set_option linter.unusedSimpArgs false
open Go.RowKit
theorem setRow_put {w : World} {g : Nat} {t : TypeId} {cs cs' : Array Value} (h : Blk w g t cs) : w.setRow g cs' = putB w g t cs' := by
  unfold World.setRow putB
  congr 1
  apply Array.ext_getElem?
  intro i
  by_cases hi : g = i
  · subst hi
    rw [Array.getElem?_modify, if_pos rfl, h, Array.getElem?_setIfInBounds_self_of_lt h.lt]
    rfl
  · rw [Array.getElem?_modify, if_neg hi, Array.getElem?_setIfInBounds_ne hi]
/-- append where there is room, at a block that is known whole -/
theorem wp_append_room {P : Program} {o : Oper} {a : Act} {w : World} {K : Act → World → Prop} {Q : Exit → Act → World → Prop} (s x : Operand) (t : TypeId)
    (ho : o.op = .call { callee := .builtin .append, args := #[s, x], argTypes := #[t, t] }) {e : TypeId} {z : Value} {size bytes : Nat} (inf : (P.info? e).map (fun i => (i.zero, i.size, i.bytes)) = some (some z, size, bytes)) (ht : P.underlying t = some (.slice e))
    {g n cap : Nat} {cur : Array Value} (hB : Blk w g e cur) (hs : a.eval s = .slice (some ⟨g, 0, none⟩) n cap) {ad : Addr} {m c : Nat} {news : List Value} (hx : a.eval x = .slice (some ad) m c) (hl : news.length = m * size) (hnews : ∀ j u, news[j]? = some u → w.cell? (ad.add j) = some u)
    (h1 : ∀ u ∈ news, u.oneCell' = true) (hroom : n + m ≤ cap) (hfit : n * size + news.length ≤ cur.size)
    (h : K (a.put o.dst (.slice (some ⟨g, 0, none⟩) (n + m) cap)) (putB w g e (cur.toList.take (n * size) ++ news ++ cur.toList.drop (n * size + news.length)).toArray)) : o.wp P a w K Q := by
  obtain ⟨i, hi, hz0, hz1, hz2⟩ := info_parts inf
  subst hz1
  have hrun := run_append_room (P := P) w t o.type e i ht hi g n cap cur hB ad m c news hl hnews h1 hroom hfit
  rw [setRow_put hB] at hrun
  unfold Oper.wp execOp
  simp only [ho, resolve, invoke, builtin, Sem.run_bind, Sem.run_pure, Result.andThen_ok, List.map_toArray, List.map_cons, List.map_nil, hs, hx, hrun]
  exact h
theorem zeroCells_one (z : Array Value) (n : Nat) (h : z.all (·.oneCell') = true) : ∀ u ∈ (Builtin.zeroCells z n).toList, u.oneCell' = true := by
  intro u hu
  unfold Builtin.zeroCells at hu
  rw [Array.mem_toList_iff, Array.mem_map] at hu
  obtain ⟨i, hi, rfl⟩ := hu
  cases hz : z.size with
  | zero => rw [Array.mem_range] at hi; rw [hz] at hi; simp at hi
  | succ m =>
    have hlt : i % z.size < z.size := Nat.mod_lt _ (by omega)
    rw [hz] at hlt
    rw [getElem!_pos z (i % (m + 1)) (by omega)]
    exact (Array.all_eq_true_iff_forall_mem.1 h) _ (Array.getElem_mem _)
/-- clear, at a block that is known whole: what lies ahead stays -/
theorem run_clear_blk {P : Program} {w : World} {t e ty : TypeId} {z : Value} (ht : P.underlying t = some (.slice e)) (hv : ∀ w, (zeroValue e).run P w = .ok z w) (h1 : z.cells.all (·.oneCell') = true) {g o n c : Nat} {cur : Array Value} (hB : Blk w g e cur) (hfit : o + n * z.cells.size ≤ cur.size) :
    ∃ cur' : Array Value, cur'.size = cur.size ∧ cur'.toList.take o = cur.toList.take o ∧ (Builtin.clear_ #[t] ty #[.slice (some ⟨g, o, none⟩) n c]).run P w = .ok (.tuple #[]) (putB w g e cur') := by
  cases n with
  | zero =>
    refine ⟨cur, rfl, rfl, ?_⟩
    rw [putB_same hB]
    simp [Builtin.clear_, run_underlying ht]
  | succ n =>
    have hsz : (Builtin.zeroCells z.cells (n + 1)).toList.length = (n + 1) * z.cells.size := by simp [Builtin.zeroCells]
    have hst := run_storeCells_at P g o e (Builtin.zeroCells z.cells (n + 1)).toList 0 cur w hB (by rw [hsz]; simpa using hfit) (zeroCells_one _ _ h1)
    simp only [Nat.add_zero] at hst
    rw [setRow_put hB] at hst
    refine ⟨(cur.toList.take o ++ (Builtin.zeroCells z.cells (n + 1)).toList ++ cur.toList.drop (o + (Builtin.zeroCells z.cells (n + 1)).toList.length)).toArray, ?_, ?_, ?_⟩
    · simp [Builtin.zeroCells]; omega
    · rw [List.append_assoc, List.take_append_of_le_length (by simp; omega), List.take_take, Nat.min_self]
    · simp [Builtin.clear_, run_underlying ht, hv, hst]
end Go.Proofs.YtagfedbdakmlgaaGreatDoor

/-! DelE -/
namespace Go.Proofs.YtagfedbdakmlgaaGreatDoor
set_option linter.unusedVariables false
set_option linter.unusedSimpArgs false
open Go.RowKit
/-- an append in place, then its assignment, in a drawn region -/
structure DelJe (g : Nat) (cur2 : Array Value) (v : Value) (W : World) (us : List Value) (w' : World) : Prop where
  nil : us = [] → Ext W w'
  val : ∀ u, us = [u] → u = v
  vals : ∀ u u1, us = [u, u1] → u = v ∧ u1 = v
  one : us ≠ [] → ∃ w5, Ext W w5 ∧ w' = putB w5 g 66 cur2
section
variable {g : Nat} {cur2 : Array Value} {v : Value} {W w' : World}
theorem DelJe.start (W : World) : DelJe g cur2 v W [] W.drew := ⟨fun _ => (Ext.refl W).drew, fun u h => by simp at h, fun u u1 h => by simp at h, fun h => absurd rfl h⟩
theorem DelJe.app (h : DelJe g cur2 v W [] w') : DelJe g cur2 v W ([] ++ [v]) (putB w' g 66 cur2) := ⟨fun h => by simp at h, fun u h => by simpa using h.symm, fun u u1 h => by simp at h, fun _ => ⟨w', h.nil rfl, rfl⟩⟩
theorem DelJe.asg (h : DelJe g cur2 v W [v] w') : DelJe g cur2 v W ([v] ++ [v]) w' := ⟨fun h => by simp at h, fun u h => by simp at h, fun u u1 h => by simp at h; exact ⟨h.1.symm, h.2.symm⟩, fun _ => h.one (by simp)⟩
end
theorem zero_evt (w : World) : (zeroValue 66).run Tryz.prog w = .ok (.agg #[.int .i64 0, .int .i64 0, .int .i64 0, .string ⟨#[]⟩, .int .u8 0, .string ⟨#[]⟩, .slice none 0 0]) w := by kernel_rfl
set_option maxRecDepth 100000 in
set_option maxHeartbeats 4000000 in
theorem EDel_any {w : World} {L g n c k : Nat} {l : List EH} (hown : w.ownsRow L 66 7 (.slice (some ⟨g, 0, none⟩) n c) n (l.flatMap EH.vals)) (hl : l.length = n) (hk : k < n) :
    Calls Tryz.prog 92 #[.slice (some ⟨g, 0, none⟩) n c, .int .i64 (k : Int), .int .i64 ((k : Int) + 1)] w fun en w' => en = .returned (.slice (some ⟨g, 0, none⟩) (n - 1) c) ∧ w'.ownsRow L 66 7 (.slice (some ⟨g, 0, none⟩) (n - 1) c) (n - 1) ((l.take k ++ l.drop (k + 1)).flatMap EH.vals) ∧
      ∃ cur w2 cur', Blk w g 66 cur ∧ Ext w w2 ∧ w' = putB w2 g 66 cur' := by
  rcases hown.2 with ⟨hv, hn⟩ | ⟨g', cap, cur, hv, hg, hb, hnc, hcm, hcs, ht⟩
  · omega
  cases hv
  have hB : Blk w g 66 cur := hb
  have hsrc0 : (l.drop (k + 1)).flatMap EH.vals = (l.flatMap EH.vals).drop ((k + 1) * 7) := (flatMap_drop (f := EH.vals) (s := 7) (fun _ => rfl) l (k + 1)).symm
  obtain ⟨news, hnews⟩ : ∃ news, news = (l.drop (k + 1)).flatMap EH.vals := ⟨_, rfl⟩
  have hlen : news.length = (n - (k + 1)) * 7 := by rw [hnews, flatMap_len EH.vals 7 (fun _ => rfl), List.length_drop, hl]
  have hcell : ∀ j u, news[j]? = some u → w.cell? ⟨g, (k + 1) * 7 + j, none⟩ = some u := fun j u hu => by
    have hj : j < (n - (k + 1)) * 7 := by rw [← hlen]; exact (List.getElem?_eq_some_iff.1 hu).1
    rw [hown.cellAt ((k + 1) * 7 + j) (by omega), ← List.getElem?_drop, ← hsrc0, ← hnews, hu]
  obtain ⟨A, hA, hsrc⟩ : ∃ A : Addr, (if c = k + 1 then (some ⟨g, 0, none⟩ : Option Addr) else some ⟨g, (k + 1) * 7, none⟩) = some A ∧ (∀ j u, news[j]? = some u → w.cell? (A.add j) = some u) := by
    by_cases h : c = k + 1
    · refine ⟨⟨g, 0, none⟩, by rw [if_pos h], fun j u hu => ?_⟩
      have h0 : news.length = 0 := by rw [hlen]; omega
      rw [List.length_eq_zero_iff.1 h0] at hu
      simp at hu
    · exact ⟨⟨g, (k + 1) * 7, none⟩, by rw [if_neg h], fun j u hu => by rw [Addr.add_mid]; exact hcell j u hu⟩
  have HB := Lib.hid hB
  have HLn := Lib.hid hlen
  have HSrc := Lib.hid hsrc
  have HOne : Hid (∀ u ∈ news, u.oneCell' = true) := by
    show ∀ u ∈ news, _
    rw [hnews]
    exact flatMap_one EH.ones _
  have HFit : Hid (k * 7 + news.length ≤ cur.size) := by show _ ≤ _; rw [hlen, hcs]; omega
  obtain ⟨cur2, hcur2⟩ : ∃ cur2, cur2 = (cur.toList.take (k * 7) ++ news ++ cur.toList.drop (k * 7 + news.length)).toArray := ⟨_, rfl⟩
  have hcs2 : cur2.size = cur.size := by
    have := HFit.out
    rw [hcur2]; simp; omega
  obtain ⟨w2, hw2⟩ : ∃ w2, w2 = w := ⟨_, rfl⟩
  have hne : ((k : Int) == (k : Int) + 1) = false := by simp; omega
  have hkc : k ≤ c := by omega
  have hk1 : k + 1 ≤ c := by omega
  have hbd : 0 ≤ (k : Int) + 1 ∧ (k : Int) + 1 ≤ (n : Int) := by omega
  go_enter Tryz.func92, Tryz.ntmps92
  go_upto_region 5 with fail
  rw [← hw2] at HB HSrc ⊢
  have HC2 := Lib.hid hcur2
  have HD := Lib.hid hnews
  have HW2 := Lib.hid hw2
  have HT := Lib.hid ht
  have HBo := Lib.hid hB
  clear hcur2 hnews hsrc hcell hsrc0 hlen hw2 hown ht hb hB
  refine wp_region_links [some 20, some 21, some 22, some 23, some 24, some 25, some 26, some 0] [[], [], [0, 1], [], [], [3, 4], [2, 5], [6, 6, 0, 1, 2, 3, 4, 5, 6]] [6, 7] [.slice (some ⟨g, 0, none⟩) n c, .int .i64 (k : Int), .slice (some ⟨g, 0, none⟩) k c, .slice (some ⟨g, 0, none⟩) n c, .int .i64 ((k : Int) + 1), .slice (some A) (n - (k + 1)) (c - (k + 1)), undef, undef] (DelJe g cur2 (.slice (some ⟨g, 0, none⟩) (k + (n - (k + 1))) c) w2) (by kernel_rfl) (by kernel_rfl) (by kernel_rfl) (by kernel_rfl) (by kernel_rfl) (by kernel_rfl) (by kernel_rfl) (by decide) ?_ ?_ ?_ ?_
  · exact DelJe.start w2
  · intro i o ho hc a w' us K' hJ hF hlim hk
    match i, ho with
    | 0, ho =>
      simp only [List.getElem?_toArray, List.getElem?_cons_zero, List.getElem?_cons_succ, Option.some.injEq] at ho
      subst ho
      have e0 := hF.olds 1 7 0 (.slice (some ⟨g, 0, none⟩) n c) rfl rfl (hlim 1 7 rfl rfl) rfl
      simp only [Act.eval] at e0
      clear hF hlim hJ
      go_simp
      exact hk
    | 1, ho =>
      simp only [List.getElem?_toArray, List.getElem?_cons_zero, List.getElem?_cons_succ, Option.some.injEq] at ho
      subst ho
      have e1 := hF.old 1 (.int .i64 (k : Int)) rfl rfl
      simp only [Act.eval] at e1
      clear hF hlim hJ
      go_simp
      exact hk
    | 2, ho =>
      simp only [List.getElem?_toArray, List.getElem?_cons_zero, List.getElem?_cons_succ, Option.some.injEq] at ho
      subst ho
      have e20 := hF.pure 0 20 (.slice (some ⟨g, 0, none⟩) n c) rfl rfl rfl rfl
      have e21 := hF.pure 1 21 (.int .i64 (k : Int)) rfl rfl rfl rfl
      simp only [Act.eval] at e20 e21
      clear hF hlim hJ
      go_simp
      exact hk
    | 3, ho =>
      simp only [List.getElem?_toArray, List.getElem?_cons_zero, List.getElem?_cons_succ, Option.some.injEq] at ho
      subst ho
      have e0 := hF.olds 1 7 0 (.slice (some ⟨g, 0, none⟩) n c) rfl rfl (hlim 1 7 rfl rfl) rfl
      simp only [Act.eval] at e0
      clear hF hlim hJ
      go_simp
      exact hk
    | 4, ho =>
      simp only [List.getElem?_toArray, List.getElem?_cons_zero, List.getElem?_cons_succ, Option.some.injEq] at ho
      subst ho
      have e2 := hF.old 2 (.int .i64 ((k : Int) + 1)) rfl rfl
      simp only [Act.eval] at e2
      clear hF hlim hJ
      go_simp
      exact hk
    | 5, ho =>
      simp only [List.getElem?_toArray, List.getElem?_cons_zero, List.getElem?_cons_succ, Option.some.injEq] at ho
      subst ho
      have e23 := hF.pure 3 23 (.slice (some ⟨g, 0, none⟩) n c) rfl rfl rfl rfl
      have e24 := hF.pure 4 24 (.int .i64 ((k : Int) + 1)) rfl rfl rfl rfl
      simp only [Act.eval] at e24 e23
      clear hF hlim hJ
      go_simp
      exact hk
    | 6, ho => simp at hc
    | 7, ho => simp at hc
    | i + 8, ho => simp at ho
  · intro p c' o hp ho a w' us K' hl hJ hF hk
    match p, hp with
    | 0, hp =>
      obtain rfl : 6 = c' := by simpa using hp
      simp only [List.getElem?_toArray, List.getElem?_cons_zero, List.getElem?_cons_succ, Option.some.injEq] at ho
      subst ho
      obtain rfl : us = [] := List.eq_nil_of_length_eq_zero hl
      have e22 := hF.pure 2 22 (.slice (some ⟨g, 0, none⟩) k c) rfl rfl rfl rfl
      have e25 := hF.pure 5 25 (.slice (some A) (n - (k + 1)) (c - (k + 1))) rfl rfl rfl rfl
      exact wp_append_room (.tmp 22) (.tmp 25) 24 rfl info_evtI Tryz.underlying24 (HB.out.ext (hJ.nil rfl)) e22 e25 HLn.out (fun j u hu => (hJ.nil rfl).cell (HSrc.out j u hu)) HOne.out (by omega) HFit.out (by rw [← HC2.out]; exact hk _ _ hJ.app)
    | 1, hp =>
      obtain rfl : 7 = c' := by simpa using hp
      simp only [List.getElem?_toArray, List.getElem?_cons_zero, List.getElem?_cons_succ, Option.some.injEq] at ho
      subst ho
      obtain ⟨u0, rfl⟩ := list_1 hl
      obtain rfl := hJ.val u0 rfl
      have e26 := hF.link 0 6 26 _ rfl rfl rfl rfl
      exact wp_assignx _ _ rfl e26 (hk _ _ hJ.asg)
    | p + 2, hp => simp at hp
  intro us w5 hl hJ
  obtain ⟨u0, u1, rfl⟩ := list_2 hl
  first | (rename_i hK; refine hK _ _ ?_; clear hK) | (rename_i hK hK_1; refine hK _ _ ?_; clear hK) | (rename_i hK hK_1 hK_2; refine hK _ _ ?_; clear hK) | (rename_i hK hK_1 hK_2 hK_3; refine hK _ _ ?_; clear hK)
  generalize hL : frameL _ _ _ _ = L
  obtain rfl : L = [(20, .slice (some ⟨g, 0, none⟩) n c), (21, .int .i64 (k : Int)), (22, .slice (some ⟨g, 0, none⟩) k c), (23, .slice (some ⟨g, 0, none⟩) n c), (24, .int .i64 ((k : Int) + 1)), (25, .slice (some A) (n - (k + 1)) (c - (k + 1))), (26, u0), (0, u1)] := hL.symm.trans (by kernel_rfl)
  clear hL hl
  simp only [Act.put, List.foldl_cons, List.foldl_nil, List.setIfInBounds_toArray, List.set_cons_zero, List.set_cons_succ]

  obtain ⟨rfl, rfl⟩ := hJ.vals u0 u1 rfl
  obtain ⟨w9, hx9, rfl⟩ := hJ.one (by simp)
  clear hJ
  rw [show k + (n - (k + 1)) = n - 1 by omega]
  have hcl : n - 1 ≤ c := by omega
  have hcl2 : ¬ c = n - 1 := by omega
  have HB9 := Lib.hid ((HB.out.ext hx9).put cur2)
  have hcs3 := hcs2
  obtain ⟨cur', hz1, hz2, hrun⟩ := run_clear_blk (P := Tryz.prog) (w := putB w9 g 66 cur2) (t := 24) (e := 66) (ty := 0) (c := c - (n - 1)) (n := n - (n - 1)) (o := (n - 1) * 7) (g := g) (cur := cur2) Tryz.underlying24 zero_evt (by simp [Value.cells, Value.oneCell']) HB9.out (by show _ + _ * 7 ≤ _; omega)
  have HZ1 := Lib.hid hz1
  have HZ2 := Lib.hid hz2
  clear hz1 hz2
  go_wp2_with fail
  go_ret
  have hx' : Ext w w9 := by have := HW2.out; subst this; exact hx9
  refine ⟨rfl, ⟨?_, .inr ⟨g, c, cur', rfl, hg, ((HB.out.ext hx9).put cur2).put cur', by omega, hcm, by have := HZ1.out; omega, ?_⟩⟩, cur, w9, cur', HBo.out, hx', by rw [putB_putB]⟩
  · rw [flatMap_len EH.vals 7 (fun _ => rfl), List.length_append, List.length_take, List.length_drop, hl]
    omega
  · have e1 : cur.toList.take (k * 7) = (l.take k).flatMap EH.vals := by
      rw [← flatMap_take (f := EH.vals) (s := 7) (fun _ => rfl) l k, ← HT.out, List.take_take, Nat.min_eq_left (by omega)]
    rw [HZ2.out, HC2.out, HD.out, e1, List.flatMap_append]
    have e2 : ((l.take k).flatMap EH.vals ++ (l.drop (k + 1)).flatMap EH.vals).length = (n - 1) * 7 := by
      rw [← List.flatMap_append, flatMap_len EH.vals 7 (fun _ => rfl), List.length_append, List.length_take, List.length_drop, hl]
      omega
    rw [List.take_append_of_le_length (by rw [e2]; exact Nat.le_refl _), ← e2, List.take_length]
end Go.Proofs.YtagfedbdakmlgaaGreatDoor

/-! DelC -/
namespace Go.Proofs.YtagfedbdakmlgaaGreatDoor
set_option linter.unusedVariables false
set_option linter.unusedSimpArgs false
open Go.RowKit
/-- an append in place, then its assignment, in a drawn region -/
structure DelJ (g : Nat) (cur2 : Array Value) (v : Value) (W : World) (us : List Value) (w' : World) : Prop where
  nil : us = [] → Ext W w'
  val : ∀ u, us = [u] → u = v
  vals : ∀ u u1, us = [u, u1] → u = v ∧ u1 = v
  one : us ≠ [] → ∃ w5, Ext W w5 ∧ w' = putB w5 g 78 cur2
section
variable {g : Nat} {cur2 : Array Value} {v : Value} {W w' : World}
theorem DelJ.start (W : World) : DelJ g cur2 v W [] W.drew := ⟨fun _ => (Ext.refl W).drew, fun u h => by simp at h, fun u u1 h => by simp at h, fun h => absurd rfl h⟩
theorem DelJ.app (h : DelJ g cur2 v W [] w') : DelJ g cur2 v W ([] ++ [v]) (putB w' g 78 cur2) := ⟨fun h => by simp at h, fun u h => by simpa using h.symm, fun u u1 h => by simp at h, fun _ => ⟨w', h.nil rfl, rfl⟩⟩
theorem DelJ.asg (h : DelJ g cur2 v W [v] w') : DelJ g cur2 v W ([v] ++ [v]) w' := ⟨fun h => by simp at h, fun u h => by simp at h, fun u u1 h => by simp at h; exact ⟨h.1.symm, h.2.symm⟩, fun _ => h.one (by simp)⟩
end
theorem zero_com (w : World) : (zeroValue 78).run Tryz.prog w = .ok (.agg #[.int .i64 0, .int .i64 0, .int .i64 0, .int .i64 0, .string ⟨#[]⟩, .string ⟨#[]⟩, .bool false, .bool false]) w := by kernel_rfl
end Go.Proofs.YtagfedbdakmlgaaGreatDoor

/-! RemD -/
namespace Go.Proofs.YtagfedbdakmlgaaGreatDoor
set_option linter.unusedVariables false
set_option linter.unusedSimpArgs false
open Go.RowKit
theorem DocOwn.com_at {w : World} {L k : Nat} {d : Doc} {h : DocH} (o : DocOwn w L d h) (hk : k < h.cn) : ∃ g, h.ca = some ⟨g, 0, none⟩ ∧ L ≤ g := by
  rcases o.coms.2 with ⟨hv, hn⟩ | ⟨g, cap, cur, hv, hg, hb, hnc, hcm, hcs, ht⟩
  · omega
  · exact ⟨g, by injection hv, hg⟩
end Go.Proofs.YtagfedbdakmlgaaGreatDoor
