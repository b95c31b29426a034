/- Laid together: Lemmas for the walks of Retime: calls of four arguments, appends in drawn regions, spans in their bounds. A region that draws its order, walked once in the order of the text, where its calls may make memory: the class of the worlds that are greater than one. The walk of the reference's copy of a document. Documents with a comment more, plainly; the drawn region at the end of such functions. -/
import Derived.Test.YtagfedbdakmlgaaGreatDoorPk12
import Derived.Test.YtagfedbdakmlgaaGreatDoorPk10
import Derived.Test.YtagfedbdakmlgaaGreatDoorPk11
import Derived.Test.YtagfedbdakmlgaaGreatDoorPk01
import Derived.Test.YtagfedbdakmlgaaGreatDoorPk09

/-! RetK -/
namespace Go.Proofs.YtagfedbdakmlgaaGreatDoor
set_option linter.unusedVariables false
set_option linter.unusedSimpArgs false
open Go.RowKit Go.Maps

theorem wp_call4R {P : Program} {o : Oper} {a : Act} {w : World} {K : Act → World → Prop} {Q : Exit → Act → World → Prop} {f : FuncId} {x y z t : Operand} {ts : Array TypeId} {v v1 v2 v3 : Value} (ho : o.op = .call { callee := .value (.func f), args := #[x, y, z, t], argTypes := ts }) (hx : a.eval x = v) (hy : a.eval y = v1) (hz : a.eval z = v2) (ht : a.eval t = v3)
    (hent : ∀ args w, (callFunc f args).run P w = .ok (.enter f args) w) {R : Ending → World → Prop} (hc : Calls P f #[v, v1, v2, v3] w R) (h : ∀ en w', R en w' → ∃ u, en = .returned u ∧ K (a.put o.dst u) w') : o.wp P a w K Q := by
  have h2 : Calls P f #[v, v1, v2, v3] w (fun
      | .returned u, w'' => K (a.put o.dst u) w''
      | .panicked chain, w'' => Q (.panic chain) a w''
      | .outgrown, _ => LetsOut Q) := hc.mono fun en w' hr => by
    obtain ⟨u, rfl, hk⟩ := h en w' hr
    exact hk
  unfold Oper.wp execOp
  simp only [ho]
  have hev : a.eval (.func f) = .func (.func f) #[] #[] := rfl
  simp [resolve, invoke, hev, hx, hy, hz, ht, hent, Sem.run_bind, Deferred.ofValue]
  exact h2
/-- one element, built just now, is appended to a row of the call's own (an operation of a drawn region) -/
theorem wp_append1a {P : Program} {o : Oper} {a : Act} {w : World} {K : Act → World → Prop} {Q : Exit → Act → World → Prop} (s x : Operand) (t : TypeId)
    (ho : o.op = .call { callee := .builtin .append, args := #[s, x], argTypes := #[t, t] })
    {base : Nat} {e : TypeId} {z : Value} {size bytes : Nat} (inf : (P.info? e).map (fun i => (i.zero, i.size, i.bytes)) = some (some z, size, bytes)) (ht : P.underlying t = some (.slice e)) (hzs : z.cells.size = size) (hsz : 0 < size)
    {v : Value} {n : Nat} {xs : List Value} (hown : w.ownsRow base e size v n xs) (hs : a.eval s = v) (g : Nat) (news : Array Value) (hx : a.eval x = .slice (some ⟨g, 0, none⟩) 1 1) (hB : Blk w g e news) (hl : news.size = size) (h1 : news.all (·.oneCell') = true)
    (hroom : (n + 1) * bytes ≤ 140737488355328) (hmax : n + 1 ≤ maxLen) (hbase : base ≤ w.heap.size)
    (h : ∀ v' w', w'.ownsRow base e size v' (n + 1) (xs ++ news.toList) → w.grownBy w' v.ownBlock → (v'.ownBlock = v.ownBlock ∨ v'.ownBlock = some w.heap.size) → K (a.put o.dst v') w') : o.wp P a w K Q := by
  obtain ⟨i, hi, hz0, hz1, hz2⟩ := info_parts inf
  obtain ⟨v', w', hrun, h2, h3, _, h5⟩ := run_append_own_at (P := P) w base t o.type e i z size bytes ht hi hz0 hz1 hz2 hzs hsz v n xs hown ⟨g, 0, none⟩ 1 1 news.toList (by simpa using hl)
    (fun j u hu => by rw [Addr.add_mid, Nat.zero_add, hB.cell]; simpa using hu) (fun u hu => (Array.all_eq_true_iff_forall_mem.1 h1) u (by simpa using hu)) hmax hroom hbase
  unfold Oper.wp execOp
  simp only [ho, resolve, invoke, builtin, Sem.run_bind, Sem.run_pure, Result.andThen_ok, List.map_toArray, List.map_cons, List.map_nil, hs, hx, hrun]
  exact h v' w' h2 h3 h5
theorem spanT_bd {a b i o m : Int} (h : (spanT a b i o m).2 = 0) : rOk a = true ∧ rOk b = true ∧ 0 ≤ (spanT a b i o m).1.1 ∧ (spanT a b i o m).1.1 < (spanT a b i o m).1.2 ∧ (spanT a b i o m).1.2 ≤ 5184000 := by
  unfold spanT at h ⊢
  by_cases h1 : rOk a = false ∨ rOk b = false
  · rw [if_pos h1] at h; simp at h
  rw [if_neg h1] at h ⊢
  have ha : rOk a = true := by
    cases hx : rOk a
    · exact absurd (.inl hx) h1
    · rfl
  have hb : rOk b = true := by
    cases hx : rOk b
    · exact absurd (.inr hx) h1
    · rfl
  refine ⟨ha, hb, ?_⟩
  by_cases h2 : ¬ (m = 1 ∨ m = 2) ∨ o ≤ i
  · rw [if_pos h2] at h; simp at h
  rw [if_neg h2] at h ⊢
  by_cases h3 : i < 0 ∨ 5184000 < o
  · rw [if_pos h3] at h; simp at h
  rw [if_neg h3] at h ⊢
  by_cases h4 : m = 2
  · rw [if_pos h4]; dsimp only; omega
  rw [if_neg h4] at h ⊢
  have c0 := conv_bd a b i
  by_cases h5 : (convT a b i 2).2 ≠ 0
  · rw [if_pos h5] at h; exact absurd h h5
  rw [if_neg h5] at h ⊢
  by_cases h6 : (convT a b o 2).2 ≠ 0
  · rw [if_pos h6] at h; exact absurd h h6
  rw [if_neg h6] at h ⊢
  by_cases h7 : 5184000 < max (convT a b o 2).1 ((convT a b i 2).1 + 1)
  · rw [if_pos h7] at h; simp at h
  rw [if_neg h7]
  dsimp only
  omega
theorem mul_bd {x t : Int} (h0 : 0 ≤ x) (h1 : x ≤ 5184000) (t0 : 0 ≤ t) (t1 : t ≤ 5005) : 0 ≤ x * t ∧ x * t ≤ 25945920000 := by
  refine ⟨Int.mul_nonneg h0 t0, ?_⟩
  calc x * t ≤ 5184000 * t := Int.mul_le_mul_of_nonneg_right h1 t0
    _ ≤ 5184000 * 5005 := Int.mul_le_mul_of_nonneg_left t1 (by omega)
theorem info_dri : (Tryz.prog.info? 98).map (fun i => (i.zero, i.size, i.bytes)) = some (some (.agg #[.int .i64 0, .int .i64 0, .int .i64 0]), 3, 24) := by kernel_rfl
theorem zero_i64 (w : World) : (zeroValue 2).run Tryz.prog w = .ok (.int .i64 0) w := by kernel_rfl
theorem wp_alloc_span {o : Oper} {a : Act} {w : World} {K : Act → World → Prop} {Q : Exit → Act → World → Prop} (ho : o.op = .alloc 57) (h : K (a.put o.dst (.pointer (some ⟨w.heap.size, 0, none⟩))) (w.alloc (.cells #[.int .i64 0, .int .i64 0] 57))) : o.wp Tryz.prog a w K Q := by
  obtain ⟨dst, op, ty, pos, after, guard⟩ := o
  simp only at ho
  subst ho
  go_simp
  exact h
theorem results_B_tmp2 {P : Program} {fn : Func} {p u v : Tmp} {ty : TypeId} (h : fn.results = #[.cell p ty, .tmp u, .tmp v]) {tmps : Array Value} {w : World} {g : Nat} {t : TypeId} {cs : Array Value} {d : TypeDesc} (hp : tmps.getD p undef = .pointer (some ⟨g, 0, none⟩))
    (hB : Blk w g t cs) (hu : P.underlying ty = some d) (hd : d.isRow = true) (hi : (P.info? ty).map (·.size) = some cs.size) : (results fn tmps).run P w = .ok (.tuple #[.agg cs, tmps.getD u undef, tmps.getD v undef]) w := by
  have h1 := run_loadVarB (P := P) g t ty cs d hB hu hd hi
  simp only [results, h]
  have e : tmps[p]?.getD undef = .pointer (some ⟨g, 0, none⟩) := by simpa using hp
  simp [Sem.run_bind, e, run_asAddr, h1]
def docH0 : DocH := ⟨none, 0, 0, none, 0, 0, none, 0, 0⟩
theorem docZero_cells : Doc.zero.cells docH0 = docZero := rfl
theorem docZero_at (w : World) : DocAt w Doc.zero docH0 := ⟨Sl.nil, Sl.nil, Sl.nil⟩
/-- what Retime comes to -/
def RetPost (d : Doc) (b : Int) (drop : Bool) (m : Int) (w : World) (en : Ending) (w' : World) : Prop :=
  ∃ h' A n c, en = .returned (.tuple #[.agg ((d.retD b drop m).cells h'), .slice A n c, .int .i64 (d.retE b drop m)]) ∧ DocAt w' (d.retD b drop m) h' ∧ DrisAt w' A n (d.retL b drop m) ∧ n ≤ c ∧ Ext w w'
theorem retPost_err {d : Doc} {b m : Int} {drop : Bool} {w w' : World} {en : Ending} {e : Int} (he : d.retE b drop m = e) (h0 : e ≠ 0) (hx : Ext w w') (hen : en = .returned (.tuple #[.agg docZero, .slice none 0 0, .int .i64 e])) : RetPost d b drop m w en w' := by
  have h1 : d.retD b drop m = Doc.zero := by unfold Doc.retD; rw [if_neg (by rw [he]; exact h0)]
  have h2 : d.retL b drop m = [] := by unfold Doc.retL; rw [if_neg (by rw [he]; exact h0)]
  refine ⟨docH0, none, 0, 0, ?_, ?_, ?_, Nat.le_refl _, hx⟩
  · rw [hen, h1, docZero_cells, he]
  · rw [h1]; exact docZero_at w'
  · rw [h2]; exact Sl.nil
section
variable {d : Doc} {b m : Int} {drop : Bool}
theorem ret_1 (h : d.err ≠ 0) : d.retE b drop m = d.err := by unfold Doc.retE; rw [if_pos h]
theorem ret_2 (h : d.err = 0) (h2 : rateOkB b drop = false) : d.retE b drop m = 13 := by unfold Doc.retE; rw [if_neg (by simpa using h), if_pos h2]
theorem ret_3 (h : d.err = 0) (h2 : rateOkB b drop = true) (h3 : ¬ (m = 1 ∨ m = 2)) : d.retE b drop m = 1 := by unfold Doc.retE; rw [if_neg (by simpa using h), if_neg (by simp [h2]), if_pos h3]
theorem ret_4 (h : d.err = 0) (h2 : rateOkB b drop = true) (h3 : m = 1 ∨ m = 2) : d.retE b drop m = retErr d.rate b m d.evs := by unfold Doc.retE; rw [if_neg (by simpa using h), if_neg (by simp [h2]), if_neg (not_not_intro h3)]
end
theorem KM.trans {w w1 w2 : World} (h : KM w w1) (k : KM w1 w2) : KM w w2 := fun b es cl hb => k b es cl (h b es cl hb)
theorem mapIdx_at {α β : Type} (f : Nat → α → β) {l : List α} {k : Nat} (hk : k ≤ l.length) : ((l.take k).mapIdx f).length = k := by simp; omega
/-- the events while they are turned: those ahead of place k are new -/
def midEvs (a b m : Int) (l : List Ev) (k : Nat) : List Ev := retEvs a b m (l.take k) ++ l.drop k
theorem midEvs_at {a b m : Int} {l : List Ev} {k : Nat} {x : Ev} (h : l[k]? = some x) : (midEvs a b m l k)[k]? = some x := by
  have hk := (List.getElem?_eq_some_iff.1 h).1
  unfold midEvs retEvs
  rw [List.getElem?_append_right (by rw [mapIdx_at _ (by omega)]; exact Nat.le_refl _), mapIdx_at _ (by omega), Nat.sub_self, List.getElem?_drop, Nat.add_zero]
  exact h
theorem midEvs_set {a b m : Int} {l : List Ev} {k : Nat} {x : Ev} (h : l[k]? = some x) : (midEvs a b m l k).set k (retEv a b m k x) = midEvs a b m l (k + 1) := by
  have hk := (List.getElem?_eq_some_iff.1 h).1
  have hl : (retEvs a b m (l.take k)).length = k := mapIdx_at _ (by omega)
  unfold midEvs
  rw [drop_at l k x h, List.set_append_right _ _ (by omega), hl, Nat.sub_self, List.set_cons_zero]
  unfold retEvs
  rw [mapIdx_take _ h, List.append_assoc]
  rfl
theorem retDris_take {a b m : Int} {l : List Ev} {k : Nat} {x : Ev} (h : l[k]? = some x) : retDris a b m (l.take (k + 1)) = retDris a b m (l.take k) ++ [retDri a b m k x] := mapIdx_take _ h
structure RtRel (d : Doc) (h : DocH) (b m : Int) (oc : Array Value) (B M : Nat) (hh : DocH) (w : World) (k : Nat) (v : Value) (wr : World) : Prop where
  ext : Ext w wr
  doc : Blk wr w.heap.size 27 (d.cells h)
  zero : Blk wr (w.heap.size + 1) 27 docZero
  out : Blk wr B 27 oc
  regs : wr.ownsRow w.heap.size 94 7 (.slice hh.ra hh.rn hh.rc) hh.rn (d.regs.flatMap Reg.vals)
  evs : EvsOwn wr w.heap.size (.slice hh.ea hh.en hh.ec) hh.en (midEvs d.rate b m d.evs k)
  map : MapI wr 2 M (d.evs.take k)
  dris : wr.ownsRow w.heap.size 98 3 v k ((retDris d.rate b m (d.evs.take k)).flatMap Dri.vals)
def RtLoop (d : Doc) (h : DocH) (b m : Int) (oc : Array Value) (B M : Nat) (hh : DocH) (w : World) (i v : Value) (wr : World) : Prop :=
  ∃ k : Nat, k ≤ hh.en ∧ i = .int .i64 k ∧ RtRel d h b m oc B M hh w k v wr ∧ retErr d.rate b m d.evs = retErr d.rate b m (d.evs.drop k)
section
variable {d : Doc} {h hh : DocH} {b m : Int} {oc : Array Value} {B M k : Nat} {w wr w1 : World} {v : Value}
theorem RtRel.grow (r : RtRel d h b m oc B M hh w k v wr) (hx : Ext wr w1) : RtRel d h b m oc B M hh w k v w1 :=
  ⟨r.ext.trans hx, r.doc.ext hx, r.zero.ext hx, r.out.ext hx, own_ext r.regs hx, r.evs.ext hx, r.map.ext hx, own_ext r.dris hx⟩
/-- all but the map and what is not known of it -/
theorem RtRel.turned {x : Ev} (r : RtRel d h b m oc B M hh w k v wr) (hx : d.evs[k]? = some x) (ht : wr.mapTurned w1 M) (hM : w.heap.size ≤ M) : Ext w w1 ∧ Blk w1 w.heap.size 27 (d.cells h) ∧ Blk w1 (w.heap.size + 1) 27 docZero ∧ Blk w1 B 27 oc ∧
    w1.ownsRow w.heap.size 94 7 (.slice hh.ra hh.rn hh.rc) hh.rn (d.regs.flatMap Reg.vals) ∧ EvsOwn w1 w.heap.size (.slice hh.ea hh.en hh.ec) hh.en (midEvs d.rate b m d.evs k) ∧ w1.ownsRow w.heap.size 98 3 v k ((retDris d.rate b m (d.evs.take k)).flatMap Dri.vals) :=
  ⟨turned_ext ht r.ext hM, r.doc.kb (KB.turned ht), r.zero.kb (KB.turned ht), r.out.kb (KB.turned ht), own_kb r.regs (KB.turned ht), r.evs.kb (KB.turned ht) (KB.turned ht) (KB.turned ht), own_kb r.dris (KB.turned ht)⟩
theorem RtRel.step {x : Ev} {w17 w10 w22 w5 : World} {g ec' : Nat} {si so : Int} {v' : Value} (r : RtRel d h b m oc B M ⟨hh.ra, hh.rn, hh.rc, some ⟨g, 0, none⟩, hh.en, ec', hh.ca, hh.cn, hh.cc⟩ w k v wr) (hx : d.evs[k]? = some x) (hsp : x.span d.rate b m = ((si, so), 0)) (h17 : Ext wr w17) (ht : w17.mapTurned w10 M) (hM : w.heap.size ≤ M) (hmap : MapI w10 2 M (d.evs.take (k + 1)))
    (hon : Only 98 w10 w22) (he22 : Ext w w22) (hd : w22.ownsRow w.heap.size 98 3 v' (k + 1) ((retDris d.rate b m (d.evs.take k)).flatMap Dri.vals ++ [.int .i64 ((k : Int) + 1), .int .i64 (si * rTicks b - x.inn * rTicks d.rate), .int .i64 (so * rTicks b - x.out * rTicks d.rate)])) (h5 : Ext w22 w5) :
    RtRel d h b m oc B M ⟨hh.ra, hh.rn, hh.rc, some ⟨g, 0, none⟩, hh.en, ec', hh.ca, hh.cn, hh.cc⟩ w (k + 1) v' (w5.setCells g (k * 7) [.int .i64 ((k : Int) + 1), .int .i64 si, .int .i64 so]) := by
  have hat := midEvs_at (a := d.rate) (b := b) (m := m) hx
  obtain ⟨g', A', n', c', hA, hLg, hglt, hty, _⟩ := r.evs.head hat
  injection hA with hA
  injection hA with hA _ _
  subst hA
  have key : ∀ {T : TypeId}, T ≠ 98 → KB T wr w5 := fun hn => (KB.ext h17).trans ((KB.turned ht).trans ((hon.kb _ hn).trans (KB.ext h5)))
  have hty5 : Typed w5 66 g := hty.kb (key (by decide))
  have hs : Only 66 w5 (w5.setCells g (k * 7) [.int .i64 ((k : Int) + 1), .int .i64 si, .int .i64 so]) := Only.sets _ _ _ hty5
  have ke : EvsOwn w5 w.heap.size (.slice (some ⟨g, 0, none⟩) hh.en ec') hh.en (midEvs d.rate b m d.evs k) := r.evs.kb (key (by decide)) (key (by decide)) (key (by decide))
  have hev : retEv d.rate b m k x = ⟨(k : Int) + 1, si, so, x.region, x.kind, x.speaker, x.rows⟩ := by unfold retEv; rw [hsp]
  have hdr : retDri d.rate b m k x = ⟨(k : Int) + 1, si * rTicks b - x.inn * rTicks d.rate, so * rTicks b - x.out * rTicks d.rate⟩ := by unfold retDri; rw [hsp]
  refine ⟨ext_sets hLg _ _ _ (he22.trans h5), (r.doc.kb (key (by decide))).only hs (by decide), (r.zero.kb (key (by decide))).only hs (by decide), (r.out.kb (key (by decide))).only hs (by decide), own_kb (own_kb r.regs (key (by decide))) (hs.kb _ (by decide)), ?_, (hmap.km (KM.trans hon.km (Only.ext (T := 0) h5).km)).km hs.km, ?_⟩
  · rw [← midEvs_set hx, hev]
    exact ke.edit _ _ _ hat
  · rw [retDris_take hx, List.flatMap_append, hdr]
    exact own_kb (own_ext (by simpa [Dri.vals] using hd) h5) (hs.kb _ (by decide))
end
end Go.Proofs.YtagfedbdakmlgaaGreatDoor

/-! Ew -/
namespace Go.Proofs.YtagfedbdakmlgaaGreatDoor
set_option linter.unusedVariables false
set_option linter.unusedSimpArgs false
open Go.RowKit

/-- a world that is greater than W -/
structure EW (W : World) where
  w : World
  ext : Ext W w
instance ewInh (W : World) : Nonempty (EW W) := ⟨⟨W, Ext.refl W⟩⟩
theorem EW.calls {P : Program} {W : World} {f : FuncId} {args : Array Value} {v : Value} (x : EW W) (h : Calls P f args x.w fun e w' => e = .returned v ∧ Ext x.w w') :
    Calls P f args x.w fun e w'' => e = .returned v ∧ ∃ y : EW W, w'' = y.w :=
  h.mono fun _ w' ⟨he, hx⟩ => ⟨he, ⟨w', x.ext.trans hx⟩, rfl⟩
theorem EW.cell {W : World} {p : Addr} {u : Value} (h : W.cell? p = some u) (x : EW W) : x.w.cell? p = some u := x.ext.cell h
theorem EW.cells {W : World} {g : Nat} (hg : g < W.heap.size) (x : EW W) (o : Nat) : x.w.cell? ⟨g, o, none⟩ = W.cell? ⟨g, o, none⟩ := x.ext.cells _ hg
theorem wp_region_ew {P : Program} {id : Nat} {Q : Exit → Act → World → Prop} {a : Act} {w : World} {l : List Oper} (W : World) (hW : Ext W w) (hm : P.follows .mixedOrders = true) (hB : Region.lexB .any l.toArray = true)
    (h : wpQuiet P l.toArray (fun w' => ∃ x : EW W, w' = x.w) (fun a' => ∀ w', (∃ x : EW W, w' = x.w) → Q .normal a' w') l a) : (Code.region id l.toArray true).wp P Q a w :=
  wp_region_quiet (C := fun w' => ∃ x : EW W, w' = x.w) hm hB ⟨⟨{ w with drawn := w.drawn + 1 }, hW.drew⟩, rfl⟩ (by simpa using h)
end Go.Proofs.YtagfedbdakmlgaaGreatDoor

/-! DClR -/
namespace Go.Proofs.YtagfedbdakmlgaaGreatDoor
set_option linter.unusedVariables false
set_option linter.unusedSimpArgs false
open Go.RowKit

theorem own_uniq {w : World} {L : Nat} {e : TypeId} {size : Nat} {v : Value} {n : Nat} {xs ys : List Value} (h : w.ownsRow L e size v n xs) (k : w.ownsRow L e size v n ys) : ys = xs := by
  rcases h.2 with ⟨rfl, rfl⟩ | ⟨g, cap, cur, rfl, _, hb, _, _, _, hx⟩
  · have h1 := h.1
    have h2 := k.1
    rw [Nat.zero_mul] at h1 h2
    rw [List.eq_nil_of_length_eq_zero h1, List.eq_nil_of_length_eq_zero h2]
  · rcases k.2 with ⟨e1, _⟩ | ⟨g', cap', cur', e1, _, hb', _, _, _, hx'⟩
    · cases e1
    · cases e1
      rw [hb] at hb'
      cases hb'
      rw [← hx, ← hx']
theorem own_isSlice {w : World} {L : Nat} {e : TypeId} {size : Nat} {v : Value} {n : Nat} {xs : List Value} (h : w.ownsRow L e size v n xs) : ∃ A c, v = .slice A n c := by
  rcases h.2 with ⟨rfl, rfl⟩ | ⟨g, cap, cur, rfl, _⟩
  · exact ⟨none, 0, rfl⟩
  · exact ⟨_, _, rfl⟩
/-- an event is appended to events of one's own -/
theorem EvsOwn.push {w w1 : World} {L k : Nat} {v v' : Value} {l : List Ev} {e : Ev} {hs : List EH} {A' : Option Addr} {n' c' : Nat} (h1 : w.ownsRow L 66 7 v k (hs.flatMap EH.vals)) (h : EvsOwn w L v k l) (hg : EGood w L (EH.of e A' n' c') e) (hgr : w.grownBy w1 v.ownBlock)
    (hO : w1.ownsRow L 66 7 v' (k + 1) (hs.flatMap EH.vals ++ (e.cells A' n' c').toList)) : EvsOwn w1 L v' (k + 1) (l ++ [e]) :=
  h.snoc hg hgr fun xs hx => by rw [own_uniq h1 hx]; exact hO
theorem EvsOwn.heads {w : World} {L n : Nat} {v : Value} {l : List Ev} (h : EvsOwn w L v n l) : ∃ hs : List EH, w.ownsRow L 66 7 v n (hs.flatMap EH.vals) := h.elim fun hs h => ⟨hs, h.1⟩
structure R12ClRel (d : Doc) (cs : Array Value) (rn cn : Nat) (w : World) (v1 v2 : Value) (k : Nat) (v : Value) (wr : World) : Prop where
  ext : Ext w wr
  doc : Blk wr w.heap.size 27 cs
  zero : Blk wr (w.heap.size + 1) 27 docZero
  regs : wr.ownsRow w.heap.size 94 7 v1 rn (d.regs.flatMap Reg.vals)
  coms : wr.ownsRow w.heap.size 78 8 v2 cn (d.coms.flatMap Com.vals)
  evs : EvsOwn wr w.heap.size v k (d.evs.take k)
def R12ClLoop (d : Doc) (cs : Array Value) (rn cn n : Nat) (w : World) (v1 v2 v i : Value) (wr : World) : Prop := ∃ k : Nat, k ≤ n ∧ i = .int .i64 k ∧ R12ClRel d cs rn cn w v1 v2 k v wr
section
variable {d : Doc} {cs : Array Value} {rn cn k : Nat} {w wr w1 w2 : World} {v1 v2 v v' : Value}
theorem R12ClRel.grow (r : R12ClRel d cs rn cn w v1 v2 k v wr) (hx : Ext wr w1) : R12ClRel d cs rn cn w v1 v2 k v w1 :=
  ⟨r.ext.trans hx, r.doc.ext hx, r.zero.ext hx, own_ext r.regs hx, own_ext r.coms hx, r.evs.ext hx⟩
theorem R12ClRel.step {e : Ev} {hs : List EH} {A' : Option Addr} {n' c' : Nat} (r : R12ClRel d cs rn cn w v1 v2 k v wr) (he : d.evs[k]? = some e) (h1 : wr.ownsRow w.heap.size 66 7 v k (hs.flatMap EH.vals)) (hg : EGood wr w.heap.size (EH.of e A' n' c') e) (hgr : wr.grownBy w2 v.ownBlock)
    (hO : w2.ownsRow w.heap.size 66 7 v' (k + 1) (hs.flatMap EH.vals ++ (e.cells A' n' c').toList)) : R12ClRel d cs rn cn w v1 v2 (k + 1) v' w2 := by
  have hty := own_typed h1
  refine ⟨r.ext.grown hgr (fun q hq => own_lt h1 q hq), r.doc.kb (KB.grown hgr hty (by decide)), r.zero.kb (KB.grown hgr hty (by decide)), own_kb r.regs (KB.grown hgr hty (by decide)), own_kb r.coms (KB.grown hgr hty (by decide)), ?_⟩
  rw [take_snoc' d.evs k e he]
  exact r.evs.push h1 hg hgr hO
end

set_option maxRecDepth 100000 in
set_option maxHeartbeats 4000000 in
theorem R12Clone_any (d : Doc) (h : DocH) (w : World) (hat : DocAt w d h) (hr : h.rn * 56 ≤ 140737488355328) (hen : h.en * 88 ≤ 140737488355328) (hcn : h.cn * 72 ≤ 140737488355328) :
    Calls Tryz.prog 66 #[.agg (d.cells h)] w (DClPost d w) := by
  have HR := Lib.hid hat.regs.vals
  have HC := Lib.hid hat.coms
  have HE := Lib.hid hat.evs
  have HEl := Lib.hid hat.evs.len
  have HRl := Lib.hid hat.regs.len
  have HCl := Lib.hid hat.coms.len
  clear hat
  obtain ⟨hra, rn, hrc, hea, n, hec, hca, cn, hcc⟩ := h
  dsimp only at *
  have HX0 : Hid (Ext w ((w.alloc (.cells (d.cells3 (.slice hra rn hrc) (.slice hea n hec) (.slice hca cn hcc)) 27)).alloc (.cells docZero 27))) := ((Ext.refl w).alloc _).alloc _
  have HB0 : Hid (Blk ((w.alloc (.cells (d.cells3 (.slice hra rn hrc) (.slice hea n hec) (.slice hca cn hcc)) 27)).alloc (.cells docZero 27)) w.heap.size 27 (d.cells3 (.slice hra rn hrc) (.slice hea n hec) (.slice hca cn hcc))) := (Blk.new w _ _).alloc _
  have HZ0 : Hid (Blk ((w.alloc (.cells (d.cells3 (.slice hra rn hrc) (.slice hea n hec) (.slice hca cn hcc)) 27)).alloc (.cells docZero 27)) (w.heap.size + 1) 27 docZero) := Blk.new' (by simp)
  unfold Doc.cells
  unfold Doc.cells3 docZero at *
  dsimp only
  go_enter Tryz.func66, Tryz.ntmps66
  go_upto_region 1 with (fail)
  generalize hWg : ((w.alloc (.cells #[.string d.title, .string d.lang, .int .u8 d.rate, .bool d.drop, .int .i64 d.last, .slice hra rn hrc, .slice hea n hec, .slice hca cn hcc] 27)).alloc (.cells #[.string ⟨#[]⟩, .string ⟨#[]⟩, .int .u8 0, .bool false, .int .i64 0, .slice none 0 0, .slice none 0 0, .slice none 0 0] 27)) = W0 at *
  clear hWg
  have HN0 := Lib.hid (own_nil0' (w := W0) (e := 94) (size := 7) (base := w.heap.size) (g := W0.heap.size) rfl HX0.out.size)
  have hc0 := fun obj o => (HB0.out.alloc obj).cell o
  go_upto_region 2 with (at_builtin; refine wpList_appendS rfl (.tmp 6) (.tmp 8) 23 rfl info_regI Tryz.underlying23 rfl (by decide) (by exact HN0.out) (by exact rfl) (by exact rfl) (by exact Sl.ext (Cells.stays _) HR.out (HX0.out.alloc _)) (fun _ => rfl) reg_ones (by omega) (by simp [maxLen]; omega) (by have := HX0.out.size; simp; omega) ?_; intro v1 w1 hown hgr _; simp only [Nat.zero_add, List.nil_append] at hown; have hty := own_typed HN0.out; have hlt := own_lt HN0.out; have HB1 := Lib.hid ((HB0.out.alloc (.cells #[] 94)).kb (KB.grown hgr hty (by decide))); have HZ1 := Lib.hid ((HZ0.out.alloc (.cells #[] 94)).kb (KB.grown hgr hty (by decide))); have HX1 := Lib.hid ((HX0.out.alloc (.cells #[] 94)).grown hgr hlt); have HO1 := Lib.hid hown;  obtain ⟨A1, c1, rfl⟩ := own_isSlice hown; have hs := fun u => setCell_put HB1.out 5 u; have hc := HB1.out.cell 5; have hf := HB1.out.frozen 5; simp at hs hc; clear hown hgr hty hlt)
  clear hc hs hf
  obtain ⟨W2, hW2⟩ : ∃ W2, W2 = putB w1 w.heap.size 27 #[.string d.title, .string d.lang, .int .u8 d.rate, .bool d.drop, .int .i64 d.last, .slice A1 rn c1, .slice hea n hec, .slice hca cn hcc] := ⟨_, rfl⟩
  rw [← hW2]
  have HB2 : Hid (Blk W2 w.heap.size 27 #[.string d.title, .string d.lang, .int .u8 d.rate, .bool d.drop, .int .i64 d.last, .slice A1 rn c1, .slice hea n hec, .slice hca cn hcc]) := by show Blk _ _ _ _; rw [hW2]; exact HB1.out.put _
  have HZ2 : Hid (Blk W2 (w.heap.size + 1) 27 #[.string ⟨#[]⟩, .string ⟨#[]⟩, .int .u8 0, .bool false, .int .i64 0, .slice none 0 0, .slice none 0 0, .slice none 0 0]) := by show Blk _ _ _ _; rw [hW2]; exact HZ1.out.put_other (by omega) _
  have HX2 : Hid (Ext w W2) := by show Ext _ _; rw [hW2]; exact HX1.out.put (Nat.le_refl _) _ _
  have HO2 : Hid (W2.ownsRow w.heap.size 94 7 (.slice A1 rn c1) rn (d.regs.flatMap Reg.vals)) := by show World.ownsRow _ _ _ _ _ _ _; rw [hW2]; exact own_kb HO1.out (KB.put HB1.out (by decide))
  have HN2 := Lib.hid (own_nil0' (w := W2) (e := 78) (size := 8) (base := w.heap.size) (g := W2.heap.size) rfl HX2.out.size)
  clear hW2 HB1 HZ1 HX1 HO1 HN0 hc0
  have hc2 := fun obj o => (HB2.out.alloc obj).cell o
  go_upto_region 3 with (at_builtin; refine wpList_appendS rfl (.tmp 11) (.tmp 13) 25 rfl info_comI Tryz.underlying25 rfl (by decide) (by exact HN2.out) (by exact rfl) (by exact rfl) (by exact Sl.ext (Cells.stays _) HC.out (HX2.out.alloc _)) (fun _ => rfl) com_ones (by omega) (by simp [maxLen]; omega) (by have := HX2.out.size; simp; omega) ?_; intro v3 w3 hown hgr _; simp only [Nat.zero_add, List.nil_append] at hown; have hty := own_typed HN2.out; have hlt := own_lt HN2.out; have HB3 := Lib.hid ((HB2.out.alloc (.cells #[] 78)).kb (KB.grown hgr hty (by decide))); have HZ3 := Lib.hid ((HZ2.out.alloc (.cells #[] 78)).kb (KB.grown hgr hty (by decide))); have HX3 := Lib.hid ((HX2.out.alloc (.cells #[] 78)).grown hgr hlt); have HO3 := Lib.hid hown; have HR3 := Lib.hid (own_kb (own_ext HO2.out ((Ext.refl W2).alloc (.cells #[] 78))) (KB.grown hgr hty (by decide))); obtain ⟨A3, c3, rfl⟩ := own_isSlice hown; have hs := fun u => setCell_put HB3.out 7 u; have hc := HB3.out.cell 7; have hf := HB3.out.frozen 7; simp at hs hc; clear hown hgr hty hlt)
  clear hc hs hf
  obtain ⟨W4, hW4⟩ : ∃ W4, W4 = putB w3 w.heap.size 27 #[.string d.title, .string d.lang, .int .u8 d.rate, .bool d.drop, .int .i64 d.last, .slice A1 rn c1, .slice hea n hec, .slice A3 cn c3] := ⟨_, rfl⟩
  rw [← hW4]
  have HB4 : Hid (Blk W4 w.heap.size 27 #[.string d.title, .string d.lang, .int .u8 d.rate, .bool d.drop, .int .i64 d.last, .slice A1 rn c1, .slice hea n hec, .slice A3 cn c3]) := by show Blk _ _ _ _; rw [hW4]; exact HB3.out.put _
  have HZ4 : Hid (Blk W4 (w.heap.size + 1) 27 #[.string ⟨#[]⟩, .string ⟨#[]⟩, .int .u8 0, .bool false, .int .i64 0, .slice none 0 0, .slice none 0 0, .slice none 0 0]) := by show Blk _ _ _ _; rw [hW4]; exact HZ3.out.put_other (by omega) _
  have HX4 : Hid (Ext w W4) := by show Ext _ _; rw [hW4]; exact HX3.out.put (Nat.le_refl _) _ _
  have HR4 : Hid (W4.ownsRow w.heap.size 94 7 (.slice A1 rn c1) rn (d.regs.flatMap Reg.vals)) := by show World.ownsRow _ _ _ _ _ _ _; rw [hW4]; exact own_kb HR3.out (KB.put HB3.out (by decide))
  have HC4 : Hid (W4.ownsRow w.heap.size 78 8 (.slice A3 cn c3) cn (d.coms.flatMap Com.vals)) := by show World.ownsRow _ _ _ _ _ _ _; rw [hW4]; exact own_kb HO3.out (KB.put HB3.out (by decide))
  clear hW4 HB3 HZ3 HX3 HO3 HN2 hc2 HR3 HO2 HB2 HZ2
  have hc4 := fun o => HB4.out.cell o
  go_wp2_with fail
  clear hc4
  go_loopw [3, 19] (fun v i wr => R12ClLoop d #[.string d.title, .string d.lang, .int .u8 d.rate, .bool d.drop, .int .i64 d.last, .slice A1 rn c1, .slice hea n hec, .slice A3 cn c3] rn cn n w (.slice A1 rn c1) (.slice A3 cn c3) v i wr) (fun _ i _ => n - (intOf i).toNat)
  case atStart => exact ⟨0, Nat.zero_le _, rfl, HX4.out, HB4.out, HZ4.out, HR4.out, HC4.out, EvsOwn.nil _ _⟩
  case round =>
    obtain ⟨k, hk, rfl, hrr⟩ := hrel
    have HRr := Lib.hid hrr
    clear hrr
    by_cases hlt : k < n
    · obtain ⟨b, off, x, A', n', c', rfl, hxx, hxat, e0, e1, e2, e3, e4, e5, e6⟩ := (HE.out.ext HRr.out.ext).at_ev hlt
      have HXx := Lib.hid hxx
      have HCn := Lib.hid (fun w' (hx : Ext wr w') => REClone_any x A' n' c' w' (hxat.ext hx))
      have hn24 := hxat.2.2
      clear hxx hxat
      unfold EClPost Ev.cells at HCn
      have HBx := Lib.hid (Blk.new wr 66 #[.int .i64 x.id, .int .i64 x.inn, .int .i64 x.out, .string x.region, .int .u8 x.kind, .string x.speaker, .slice A' n' c'])
      go_wp2_with (refine wpList_loadB rfl 66 (.tmp 5) rfl wr.heap.size 66 _ _ (by exact rfl) (by exact HBx.out) Tryz.underlying66 rfl (by exact size_event) ?_)
      clear e0 e1 e2 e3 e4 e5 e6
      refine (HCn.out _ ((Ext.refl wr).alloc _)).mono ?_
      rintro en w5 ⟨A5, c5, rfl, hnc5, hrf5, hx5⟩
      have HX5 := Lib.hid (((Ext.refl wr).alloc (.cells #[.int .i64 x.id, .int .i64 x.inn, .int .i64 x.out, .string x.region, .int .u8 x.kind, .string x.speaker, .slice A' n' c'] 66)).trans hx5)
      have HRf := Lib.hid hrf5
      have hsz := HRr.out.ext.size
      have hsz5 := HX5.out.size
      obtain ⟨hs, hown⟩ := (HRr.out.evs.ext HX5.out).heads
      have HOw := Lib.hid hown
      clear hrf5 hx5 hown
      go_wp2_with (at_builtin; refine wpList_append1 rfl (.tmp 23) (.tmp 26) 24 rfl info_evtI Tryz.underlying24 rfl (by decide) (HOw.out.alloc _) (by exact rfl) w5.heap.size _ (by exact rfl) (by exact Blk.new' (by simp)) (by exact rfl) (by simp [Value.oneCell']) (by omega) (by simp [maxLen]; omega) (by simp; omega) ?_; intro v' w6 hown' hgr)
      have hg : EGood (w5.alloc (.cells #[.int .i64 x.id, .int .i64 x.inn, .int .i64 x.out, .string x.region, .int .u8 x.kind, .string x.speaker, .slice A5 n' c5] 66)) w.heap.size (EH.of x A5 n' c5) x := ⟨rfl, hnc5, hn24, (HRf.out.ext ((Ext.refl w5).alloc _)).le (by simp; omega)⟩
      exact ⟨⟨k + 1, by omega, by go_num, ((HRr.out.grow HX5.out).grow ((Ext.refl w5).alloc (.cells #[.int .i64 x.id, .int .i64 x.inn, .int .i64 x.out, .string x.region, .int .u8 x.kind, .string x.speaker, .slice A5 n' c5] 66))).step HXx.out (HOw.out.alloc _) hg hgr hown'⟩, by simp [intOf]; omega⟩
    · have hkn : k = n := by omega
      subst hkn
      have htk : d.evs.take k = d.evs := List.take_of_length_le (by rw [HEl.out]; omega)
      have hev := HRr.out.evs
      rw [htk] at hev
      obtain ⟨A6, c6, hv, hc6, -, -⟩ := hev.at_
      subst hv
      have HEv := Lib.hid hev
      have HB := Lib.hid HRr.out.doc
      have HZ := Lib.hid HRr.out.zero
      have hs6 := fun u => setCell_put HB.out 6 u
      have hc6' := HB.out.cell 6
      have hf6 := HB.out.frozen 6
      simp at hs6 hc6'
      clear hev htk
      go_wp2_with (first | (refine wpList_loadB rfl 27 (.tmp 1) rfl w.heap.size 27 _ _ (by exact rfl) (by exact HB.out.put _) Tryz.underlying27 rfl (by exact size_docI) ?_) | (refine wpList_storeB rfl 27 (.tmp 2) (.tmp 31) rfl (w.heap.size + 1) 27 _ _ (by exact rfl) (by exact rfl) (by exact HZ.out.put_other (by omega) _) (by exact rfl) (by exact size_docI) (by simp [Value.oneCell']) ?_))
      refine bodyPost_ret (v := .agg #[.string d.title, .string d.lang, .int .u8 d.rate, .bool d.drop, .int .i64 d.last, .slice A1 rn c1, .slice A6 k c6, .slice A3 cn c3]) ?_ rfl ⟨⟨A1, rn, c1, A6, k, c6, A3, cn, c3⟩, rfl, ?_, ?_⟩
      · exact results_B (P := Tryz.prog) Tryz.results66 (g := w.heap.size + 1) rfl (by exact (HZ.out.put_other (by omega) _).put _) Tryz.underlying27 rfl size_docI
      · have ho : DocOwn wr w.heap.size d ⟨A1, rn, c1, A6, k, c6, A3, cn, c3⟩ := ⟨HRr.out.regs, HRl.out, HEv.out, HRr.out.coms, HCl.out⟩
        exact (ho.put HB.out _).put (HZ.out.put_other (by omega) _) _
      · exact (HRr.out.ext.put (Nat.le_refl _) _ _).put (by omega) _ _
end Go.Proofs.YtagfedbdakmlgaaGreatDoor

/-! AddP -/
namespace Go.Proofs.YtagfedbdakmlgaaGreatDoor
set_option linter.unusedVariables false
set_option linter.unusedSimpArgs false
open Go.RowKit

def Doc.addErr (d : Doc) (id fr til : Int) (au tx : ByteArray) : Int :=
  if d.err ≠ 0 then d.err else match findE d.evs id with
    | none => 6
    | some k => if fr < 0 ∨ til ≤ fr ∨ (d.evs[k]?.map fun e => decide (e.len < til)) = some true then 2 else if nameB au = false then 5 else if vld tx = false then 10 else if tx.toList.isEmpty = true then 4 else
      if 400 < tx.size ∨ 64 ≤ d.coms.length ∨ 1099511627776 ≤ d.last then 9 else 0
def Doc.addD (d : Doc) (id fr til : Int) (au tx : ByteArray) : Doc := ⟨d.title, d.lang, d.rate, d.drop, d.last + 1, d.regs, d.evs, d.coms ++ [⟨d.last + 1, id, fr, til, au, tx, false, false⟩]⟩
def Doc.added (d : Doc) (id fr til : Int) (au tx : ByteArray) : Doc := if d.addErr id fr til au tx = 0 then d.addD id fr til au tx else Doc.zero
def Doc.addId (d : Doc) (id fr til : Int) (au tx : ByteArray) : Int := if d.addErr id fr til au tx = 0 then d.last + 1 else 0
def AddPost (d : Doc) (id fr til : Int) (au tx : ByteArray) (w : World) (en : Ending) (w' : World) : Prop :=
  ∃ h', en = .returned (.tuple #[.agg ((d.added id fr til au tx).cells h'), .int .i64 (d.addId id fr til au tx), .int .i64 (d.addErr id fr til au tx)]) ∧ DocOwn w' w.heap.size (d.added id fr til au tx) h' ∧ Ext w w'
theorem docZero_own (w : World) (L : Nat) : DocOwn w L Doc.zero docH0 := ⟨⟨rfl, .inl ⟨rfl, rfl⟩⟩, rfl, EvsOwn.nil _ _, ⟨rfl, .inl ⟨rfl, rfl⟩⟩, rfl⟩
theorem addPost_err {d : Doc} {id fr til e : Int} {au tx : ByteArray} {w w' : World} (he : d.addErr id fr til au tx = e) (h0 : e ≠ 0) (hx : Ext w w') : AddPost d id fr til au tx w (.returned (.tuple #[.agg docZero, .int .i64 0, .int .i64 e])) w' := by
  have h1 : d.added id fr til au tx = Doc.zero := by unfold Doc.added; rw [if_neg (by rw [he]; exact h0)]
  have h2 : d.addId id fr til au tx = 0 := by unfold Doc.addId; rw [if_neg (by rw [he]; exact h0)]
  exact ⟨docH0, by rw [h1, h2, docZero_cells, he], by rw [h1]; exact docZero_own _ _, hx⟩
section
variable {d : Doc} {id fr til : Int} {au tx : ByteArray} {k : Nat} {x : Ev}
theorem add_1 (h : d.err ≠ 0) : d.addErr id fr til au tx = d.err := by unfold Doc.addErr; rw [if_pos h]
theorem add_2 (h : d.err = 0) (h2 : findE d.evs id = none) : d.addErr id fr til au tx = 6 := by unfold Doc.addErr; rw [if_neg (by simpa using h), h2]
theorem add_r (h : d.err = 0) (h2 : findE d.evs id = some k) (hx : d.evs[k]? = some x) : d.addErr id fr til au tx =
    if fr < 0 ∨ til ≤ fr ∨ x.len < til then 2 else if nameB au = false then 5 else if vld tx = false then 10 else if tx.toList.isEmpty = true then 4 else if 400 < tx.size ∨ 64 ≤ d.coms.length ∨ 1099511627776 ≤ d.last then 9 else 0 := by
  unfold Doc.addErr
  rw [if_neg (by simpa using h), h2]
  simp only [hx, Option.map_some, Option.some.injEq, decide_eq_true_eq]
end
/-- a document is loaded and stored as a result, at whatever time -/
structure RdJ (g : Nat) (cs : Array Value) (W : World) (us : List Value) (w' : World) : Prop where
  any : (us = [] ∧ Ext W w') ∨ (us ≠ [] ∧ ∃ w5, Ext W w5 ∧ w' = putB w5 g 27 cs)
theorem RdJ.start (g : Nat) (cs : Array Value) (W : World) : RdJ g cs W [] W.drew := ⟨.inl ⟨rfl, (Ext.refl W).drew⟩⟩
theorem RdJ.nil {g : Nat} {cs : Array Value} {W w' : World} (h : RdJ g cs W [] w') : Ext W w' := by
  rcases h.any with ⟨_, h⟩ | ⟨h, _⟩
  · exact h
  · exact absurd rfl h
theorem RdJ.one {g : Nat} {cs : Array Value} {W w' : World} {u : Value} (h : RdJ g cs W [u] w') : ∃ w5, Ext W w5 ∧ w' = putB w5 g 27 cs := by
  rcases h.any with ⟨h, _⟩ | ⟨_, h⟩
  · cases h
  · exact h
theorem RdJ.blk {g b : Nat} {T : TypeId} {cs cs' : Array Value} {W w' : World} {us : List Value} (h : RdJ g cs W us w') (hB : Blk W b T cs') (hne : b ≠ g) : Blk w' b T cs' := by
  rcases h.any with ⟨_, hx⟩ | ⟨_, w5, hx, rfl⟩
  · exact hB.ext hx
  · exact (hB.ext hx).put_other (Ne.symm hne) _
theorem RdJ.blk_nil {g b : Nat} {T : TypeId} {cs cs' : Array Value} {W w' : World} (h : RdJ g cs W [] w') (hB : Blk W b T cs') : Blk w' b T cs' := hB.ext h.nil
theorem RdJ.store {g : Nat} {cs : Array Value} {W w' : World} {u : Value} (h : RdJ g cs W [] w') : RdJ g cs W ([] ++ [u]) (putB w' g 27 cs) := ⟨.inr ⟨by simp, w', h.nil, rfl⟩⟩
end Go.Proofs.YtagfedbdakmlgaaGreatDoor
