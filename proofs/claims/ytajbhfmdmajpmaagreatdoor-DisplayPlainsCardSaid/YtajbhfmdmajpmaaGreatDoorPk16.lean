/- Laid together: What stores into rows of one type leave as it is; a variable made and filled in a drawn region; a map from numbers to numbers. The walk of display.screen, at accepted documents. -/
import Derived.Test.YtajbhfmdmajpmaaGreatDoorPk15
import Derived.Test.YtajbhfmdmajpmaaGreatDoorPk12
import Derived.Test.YtajbhfmdmajpmaaGreatDoorPk13
import Derived.Test.YtajbhfmdmajpmaaGreatDoorPk01

/-! Kept -/
namespace Go.Proofs.YtajbhfmdmajpmaaGreatDoor
set_option linter.unusedVariables false
set_option linter.unusedSimpArgs false
open Go.RowKit Go.Maps
/-- the maps stay as they are -/
def KM (w w' : World) : Prop := ∀ (b : Nat) (es : Array MapEntry) (cl : Nat), w.heap[b]? = some (Obj.map es cl) → w'.heap[b]? = some (Obj.map es cl)
/-- only rows of elements of type T have changed, and there is more memory -/
structure Only (T : TypeId) (w w' : World) : Prop where
  kb : ∀ T', T' ≠ T → KB T' w w'
  km : KM w w'
section
variable {T T' : TypeId} {w w1 w2 : World}
theorem Only.refl (w : World) : Only T w w := ⟨fun _ _ => KB.refl w, fun _ _ _ h => h⟩
theorem Only.trans (h : Only T w w1) (k : Only T w1 w2) : Only T w w2 := ⟨fun T' hn => (h.kb T' hn).trans (k.kb T' hn), fun b es cl hb => k.km b es cl (h.km b es cl hb)⟩
theorem Only.ext (k : Ext w w1) : Only T w w1 := ⟨fun _ _ => KB.ext k, fun b _ _ hb => (k.block b (Array.getElem?_eq_some_iff.1 hb).1).trans hb⟩
theorem Only.put {g : Nat} {cs cs' : Array Value} (hB : Blk w g T cs) : Only T w (putB w g T cs') := ⟨fun _ hn => KB.put hB hn, fun b es cl hb => by
  have hn : g ≠ b := fun e => by subst e; rw [show w.heap[g]? = _ from hB] at hb; cases hb
  unfold putB
  simp only
  rw [Array.getElem?_setIfInBounds_ne hn]
  exact hb⟩
theorem Only.set {p : Addr} {u : Value} (hT : Typed w T p.block) : Only T w (w.setCell p u) := ⟨fun _ hn => KB.set hT hn, fun b es cl hb => by
  have hn : b ≠ p.block := fun e => by subst e; obtain ⟨cur, hc⟩ := hT; rw [hc] at hb; cases hb
  rw [RowKit.Below.heap_setCell _ _ _ _ hn]
  exact hb⟩
theorem Only.sets {g : Nat} : ∀ (vs : List Value) (o : Nat) (w : World), Typed w T g → Only T w (w.setCells g o vs)
  | [], _, w, _ => Only.refl w
  | v :: vs, o, w, h => (Only.set (p := ⟨g, o, none⟩) h).trans (Only.sets vs (o + 1) _ (h.setCell _ _))
theorem Only.grown {row : Option Nat} (hg : w.grownBy w1 row) (hr : ∀ q, row = some q → Typed w T q) : Only T w w1 := ⟨fun _ hn => KB.grown hg hr hn, fun b es cl hb => by
  refine (hg.block b (Array.getElem?_eq_some_iff.1 hb).1 (fun e => ?_)).trans hb
  obtain ⟨cur, hc⟩ := hr b e.symm
  rw [hc] at hb; cases hb⟩
theorem Blk.kb {g : Nat} {cs : Array Value} (h : Blk w g T cs) (k : KB T w w1) : Blk w1 g T cs := k g cs h
theorem Blk.only {g : Nat} {cs : Array Value} (h : Blk w g T' cs) (k : Only T w w1) (hn : T' ≠ T) : Blk w1 g T' cs := (k.kb T' hn) g cs h
end
/-- a map that leads each number of the events l to its place and one -/
def MapI (w : World) (T : TypeId) (B : Nat) (l : List Ev) : Prop := ∃ (n : Nat) (D : DataW Unit), w.ownsMap Tryz.prog 2 (plainElem Tryz.prog T) B n D ∧ n ≤ l.length ∧ IsMap D ∧
  ∀ id k, IW id → findE l id = some k → D.atKey (.int .i64 id) (.lit (.int .i64 0)) = .lit (.int .i64 ((k : Int) + 1))
theorem MapI.made (w : World) (T : TypeId) : MapI (w.alloc (.map #[] 0)) T w.heap.size [] :=
  ⟨0, .map [], World.ownsMap_made w _ _ _, Nat.le_refl _, isMap_empty, fun _ _ _ h => by simp [findE] at h⟩
theorem MapI.km {w w1 : World} {T : TypeId} {B : Nat} {l : List Ev} (h : MapI w T B l) (k : KM w w1) : MapI w1 T B l := by
  obtain ⟨n, D, ⟨es, cl, h1, h2⟩, h3⟩ := h
  exact ⟨n, D, ⟨es, cl, k B es cl h1, h2⟩, h3⟩
theorem MapI.ext {w w1 : World} {T : TypeId} {B : Nat} {l : List Ev} (h : MapI w T B l) (k : Ext w w1) : MapI w1 T B l := h.km (Only.ext (T := 0) k).km
theorem MapI.put {w1 : World} {T : TypeId} {B n : Nat} {l : List Ev} {D : DataW Unit} {x : Ev} (hn : n ≤ l.length) (hm : IsMap D)
    (ha : ∀ id k, IW id → findE l id = some k → D.atKey (.int .i64 id) (.lit (.int .i64 0)) = .lit (.int .i64 ((k : Int) + 1))) (hx : IW x.id) (hno : findE l x.id = none)
    (h : w1.ownsMap Tryz.prog 2 (plainElem Tryz.prog T) B (n + 1) (D.put (.int .i64 x.id) (.lit (.int .i64 ((l.length : Int) + 1))))) : MapI w1 T B (l ++ [x]) := by
  refine ⟨n + 1, _, h, by simp; omega, hm.put _ _, fun id k hid hk => ?_⟩
  rw [findE_snoc] at hk
  by_cases he : id = x.id
  · subst he
    rw [hno] at hk
    simp at hk
    subst hk
    exact atKey_put_same hm hx.isKey _ _
  · rw [atKey_put_other (by simpa using he)]
    refine ha id k hid ?_
    cases hf : findE l id with
    | some j => rw [hf] at hk; simpa using hk
    | none => rw [hf] at hk; simp [Ne.symm he] at hk
/-- a variable that is made at whatever time and filled at the chain's place p -/
structure VarJ (T : TypeId) (al p : Nat) (cs0 cs1 : Array Value) (r0 : Value) (W : World) (us : List Value) (gs : Nat → Option Nat) (w : World) : Prop where
  ext : Ext W w
  val : ∀ u, us[0]? = some u → u = r0
  va : ∀ g, gs al = some g → W.heap.size ≤ g ∧ Blk w g T (if us.length ≤ p then cs0 else cs1)
section
variable {T : TypeId} {al p : Nat} {cs0 cs1 : Array Value} {r0 : Value} {W w w2 : World} {us : List Value} {gs : Nat → Option Nat} {v : Value}
theorem VarJ.start (W : World) : VarJ T al p cs0 cs1 r0 W [] (fun _ => none) W.drew := ⟨(Ext.refl W).drew, fun u hu => by simp at hu, fun g h => by cases h⟩
theorem VarJ.alloc (h : VarJ T al p cs0 cs1 r0 W us gs w) (hl : us.length ≤ p) : VarJ T al p cs0 cs1 r0 W us (upd gs al w.heap.size) (w.alloc (.cells cs0 T)) := by
  refine ⟨h.ext.alloc _, h.val, fun g hg => ?_⟩
  rw [upd_self] at hg
  obtain rfl : w.heap.size = g := Option.some.inj hg
  rw [if_pos hl]
  exact ⟨h.ext.size, Blk.new w _ _⟩
theorem VarJ.call (h : VarJ T al p cs0 cs1 r0 W [] gs w) (hl : 0 < p) (hx : Ext w w2) (hv : v = r0) : VarJ T al p cs0 cs1 r0 W ([] ++ [v]) gs w2 := by
  refine ⟨h.ext.trans hx, fun u hu => by simp at hu; subst hu; exact hv, fun g hg => ?_⟩
  obtain ⟨h1, h2⟩ := h.va g hg
  rw [if_pos (by simp)] at h2
  rw [if_pos (by simp; omega)]
  exact ⟨h1, h2.ext hx⟩
theorem VarJ.blk {g : Nat} (h : VarJ T al p cs0 cs1 r0 W us gs w) (hg : gs al = some g) (hl : us.length ≤ p) : Blk w g T cs0 := by
  have := (h.va g hg).2
  rwa [if_pos hl] at this
theorem VarJ.store {g : Nat} (h : VarJ T al p cs0 cs1 r0 W us gs w) (hg : gs al = some g) (hl : us.length = p) (hv : us = [] → v = r0) : VarJ T al p cs0 cs1 r0 W (us ++ [v]) gs (putB w g T cs1) := by
  obtain ⟨h1, h2⟩ := h.va g hg
  refine ⟨h.ext.put h1 _ _, fun u hu => ?_, fun g' hg' => ?_⟩
  · cases us with
    | nil => simp at hu; subst hu; exact hv rfl
    | cons a us => exact h.val u (by simpa using hu)
  · rw [hg] at hg'
    obtain rfl := Option.some.inj hg'
    rw [if_neg (by simp; omega)]
    exact ⟨h1, (h.blk hg (by omega)).put _⟩
theorem VarJ.end_ {g : Nat} (h : VarJ T al p cs0 cs1 r0 W us gs w) (hg : gs al = some g) (hl : p < us.length) : W.heap.size ≤ g ∧ Blk w g T cs1 := by
  have := h.va g hg
  rwa [if_neg (by omega)] at this
end
theorem getElem_ltq {α : Type} {l : List α} {p : Nat} (h : p < l.length) : ∃ v, l[p]? = some v := ⟨_, List.getElem?_eq_getElem h⟩
/-- an element of a list of events of one's own -/
theorem EvsOwn.head {w : World} {L n c k : Nat} {A : Option Addr} {l : List Ev} {e : Ev} (h : EvsOwn w L (.slice A n c) n l) (hk : l[k]? = some e) : ∃ g A' n' c', A = some ⟨g, 0, none⟩ ∧ L ≤ g ∧ g < w.heap.size ∧ Typed w 53 g ∧
    (∀ j u, (e.cells A' n' c').toList[j]? = some u → w.cell? ⟨g, k * 7 + j, none⟩ = some u) ∧ (∀ j, w.frozen? ⟨g, j, none⟩ = false) ∧ EGood w L (EH.of e A' n' c') e := by
  obtain ⟨hs, h1, h2, h3, h4⟩ := h
  have hkn : k < n := by rw [← h3]; exact (List.getElem?_eq_some_iff.1 hk).1
  obtain ⟨g, cap, hv, hb, hlt⟩ := own_form h1 (by omega)
  injection hv with hA hn hc
  subst hA hc
  obtain ⟨x, hx⟩ : ∃ x, hs[k]? = some x := ⟨_, List.getElem?_eq_getElem (by omega)⟩
  have hg := h4 k x e hx hk
  refine ⟨g, x.A, x.n, x.c, rfl, hb, hlt, own_typed h1 g rfl, fun j u hu => ?_, fun j => h1.frozenAt j, by rw [← hg.1]; exact hg⟩
  have hj : j < 7 := (List.getElem?_eq_some_iff.1 hu).1
  rw [h1.cellAt (k * 7 + j) (by omega), flatMap_at EH.vals 7 EH.len hs k x j hx hj, hg.1, EH.of_vals]
  exact hu
/-- 'out = append(out, x)' in a drawn region: the element is built, appended, assigned -/
structure ApJ (T : TypeId) (size : Nat) (cells : Array Value) (base : Nat) (v : Value) (k : Nat) (xs : List Value) (W : World) (us : List Value) (w' : World) : Prop where
  only : Only T W w'
  nil : us = [] → Ext W w'
  one : ∀ u, us = [u] → ∃ g, u = .slice (some ⟨g, 0, none⟩) 1 1 ∧ W.heap.size ≤ g ∧ Blk w' g T cells ∧ Ext W w'
  two : ∀ u u1, us = [u, u1] → ∃ w5, Ext W w5 ∧ w5.grownBy w' v.ownBlock ∧ w'.ownsRow base T size u1 (k + 1) (xs ++ cells.toList)
  three : ∀ u u1 u2, us = [u, u1, u2] → u2 = u1 ∧ ∃ w5, Ext W w5 ∧ w5.grownBy w' v.ownBlock ∧ w'.ownsRow base T size u1 (k + 1) (xs ++ cells.toList)
section
variable {T : TypeId} {size : Nat} {cells : Array Value} {base : Nat} {v : Value} {k : Nat} {xs : List Value} {W w' w2 : World} {u0 u1 : Value}
theorem ApJ.start (W : World) : ApJ T size cells base v k xs W [] W.drew := ⟨Only.ext (Ext.refl W).drew, fun _ => (Ext.refl W).drew, fun u h => by simp at h, fun u u1 h => by simp at h, fun u u1 u2 h => by simp at h⟩
theorem ApJ.build (h : ApJ T size cells base v k xs W [] w') : ApJ T size cells base v k xs W ([] ++ [.slice (some ⟨w'.heap.size, 0, none⟩) 1 1]) (w'.alloc (.cells cells T)) :=
  ⟨Only.ext ((h.nil rfl).alloc _), fun h => by simp at h, fun u hu => by simp at hu; subst hu; exact ⟨_, rfl, (h.nil rfl).size, Blk.new w' _ _, (h.nil rfl).alloc _⟩, fun u u1 h => by simp at h, fun u u1 u2 h => by simp at h⟩
end
/-- an event's number and span are stored, one after the other, in a drawn region -/
structure StJ (g o : Nat) (i a b : Value) (W : World) (us : List Value) (w' : World) : Prop where
  only : Only 53 W w'
  nil : us = [] → Ext W w'
  one : ∀ u, us = [u] → ∃ w5, Ext W w5 ∧ w' = w5.setCell ⟨g, o, none⟩ i
  two : ∀ u u1, us = [u, u1] → ∃ w5, Ext W w5 ∧ w' = w5.setCells g o [i, a, b]
section
variable {g o : Nat} {i a b : Value} {W w' : World} {u0 u1 : Value}
theorem StJ.start (W : World) : StJ g o i a b W [] W.drew := ⟨Only.ext (Ext.refl W).drew, fun _ => (Ext.refl W).drew, fun u h => by simp at h, fun u u1 h => by simp at h⟩
theorem StJ.first (h : StJ g o i a b W [] w') (hT : Typed W 53 g) : StJ g o i a b W ([] ++ [u0]) (w'.setCell ⟨g, o, none⟩ i) :=
  ⟨(Only.ext (h.nil rfl)).trans (Only.set (p := ⟨g, o, none⟩) (hT.ext (h.nil rfl))), fun h => by simp at h, fun u hu => ⟨w', h.nil rfl, rfl⟩, fun u u1 h => by simp at h⟩
theorem StJ.second (h : StJ g o i a b W [u0] w') (hT : Typed W 53 g) : StJ g o i a b W ([u0] ++ [u1]) (w'.setCells g (o + 1) [a, b]) := by
  obtain ⟨w5, hx, rfl⟩ := h.one u0 rfl
  exact ⟨h.only.trans (Only.sets _ _ _ ((hT.ext hx).setCell _ _)), fun h => by simp at h, fun u h => by simp at h, fun u v e => ⟨w5, hx, rfl⟩⟩
end
end Go.Proofs.YtajbhfmdmajpmaaGreatDoor

/-! ScrD -/
namespace Go.Proofs.YtajbhfmdmajpmaaGreatDoor
set_option linter.unusedVariables false
set_option linter.unusedSimpArgs false
open Go.RowKit
theorem zero_grid : Tryz.zeroCells108 = ((List.replicate 480 Gl.zero).flatMap Gl.vals).toArray := by kernel_rfl
theorem wp_call2g {P : Program} {o : Oper} {a : Act} {w : World} {K : Act → World → Prop} {Q : Exit → Act → World → Prop} {f : FuncId} {x0 x1 : Operand} {ts : Array TypeId} {v0 v1 : Value} {R : Ending → World → Prop} (ho : o.op = .call { callee := .value (.func f), args := #[x0, x1], argTypes := ts })
    (h0 : a.eval x0 = v0) (h1 : a.eval x1 = v1) (hcall : ∀ args w, (callFunc f args).run P w = .ok (.enter f args) w) (hc : Calls P f #[v0, v1] w R)
    (h : ∀ e w', R e w' → ∃ v, e = .returned v ∧ K (a.put o.dst v) w') : o.wp P a w K Q := by
  have h2 : Calls P f #[v0, v1] w (fun
      | .returned u, w'' => K (a.put o.dst u) w''
      | .panicked chain, w'' => Q (.panic chain) a w''
      | .outgrown, _ => LetsOut Q) := hc.mono fun en w' hr => by
    obtain ⟨u, rfl, hk⟩ := h en w' hr
    exact hk
  unfold Oper.wp execOp
  simp only [ho]
  have hev : a.eval (.func f) = .func (.func f) #[] #[] := rfl
  simp [resolve, invoke, hev, h0, h1, hcall, Sem.run_bind, Deferred.ofValue]
  exact h2
theorem size_grid : (Tryz.prog.info? 108).map (·.size) = some 2880 := by kernel_rfl
/-- a call of place in a region that draws its order -/
def PlJ (W : World) (l : List Gl) : List Value → World → Prop
  | [], w => Ext W w
  | [u], w => ∃ A c, u = .slice A l.length c ∧ GlsAt w A l.length l ∧ l.length ≤ c ∧ Ext W w ∧ ∀ ad, A = some ad → W.heap.size ≤ ad.block
  | _, _ => False
theorem PlJ.ext {W : World} {l : List Gl} : ∀ {us : List Value} {w : World}, PlJ W l us w → Ext W w
  | [], _, h => h
  | [_], _, ⟨_, _, _, _, _, h, _⟩ => h
  | _ :: _ :: _, _, h => absurd h (by simp [PlJ])
theorem PlJ.one {W w : World} {l : List Gl} {us : List Value} {v : Value} (h : PlJ W l us w) (hv : us[0]? = some v) : ∃ A c, v = .slice A l.length c := by
  match us, h, hv with
  | [u], ⟨A, c, h, _⟩, hv => exact ⟨A, c, by simp at hv; rw [← hv]; exact h⟩
/-- a call of cell and a store, in a region that draws its order -/
def StG (W : World) (g : Nat) (T : TypeId) (v : Value) (cs : Array Value) : List Value → World → Prop
  | [], w => Ext W w
  | [u], w => u = v ∧ Ext W w
  | [_, _], w => ∃ w5, Ext W w5 ∧ w = putB w5 g T cs
  | _, _ => False
theorem StG.ext {W : World} {g : Nat} {T : TypeId} {v : Value} {cs : Array Value} : ∀ {us : List Value} {w : World}, StG W g T v cs us w → us.length ≤ 1 → Ext W w
  | [], _, h, _ => h
  | [_], _, h, _ => h.2
  | _ :: _ :: _, _, _, h => by simp at h
theorem StG.one {W w : World} {g : Nat} {T : TypeId} {v x : Value} {cs : Array Value} {us : List Value} (h : StG W g T v cs us w) (hl : us.length ≤ 1) (hv : us[0]? = some x) : x = v := by
  match us, h, hv with
  | [u], ⟨h, _⟩, hv => simp at hv; rw [← hv]; exact h
  | _ :: _ :: _, _, _ => simp at hl
theorem grid_app (a b : List Gl) : gridOf (a ++ b) = b.foldl (fun G g => G.set g.cell.toNat g) (gridOf a) := by unfold gridOf; rw [List.foldl_append]
theorem vis_snoc (l : List Ev) (regs : List Reg) (is : List Int) (k : Nat) (p : Nat) (x : Ev) (hi : is[k]? = some (p : Int)) (hx : l[p]? = some x) : visL l regs (is.take (k + 1)) = visL l regs (is.take k) ++ x.gls regs := by
  rw [take_snoc' is k _ hi]
  unfold visL
  rw [List.flatMap_append]
  simp [hx]
theorem scr_snoc {G : List Gl} {i : Nat} {g : Gl} (h : G[i]? = some g) : scrOf (G.take (i + 1)) = scrOf (G.take i) ++ if g.ch = 0 then [] else [g] := by
  rw [take_snoc' G i g h]
  unfold scrOf
  rw [List.filter_append]
  by_cases h0 : g.ch = 0 <;> simp [h0]
def ScO (w w2 : World) (g T : Nat) (l : List Ev) (regs : List Reg) (is : List Int) (i : Value) (wr : World) : Prop :=
  ∃ k : Nat, k ≤ is.length ∧ i = .int .i64 k ∧ ExtB g w2 wr ∧ BlkL Gl.vals wr g T (gridOf (visL l regs (is.take k)))
def ScI (w3 : World) (g T : Nat) (p gs : List Gl) (i : Value) (wr : World) : Prop :=
  ∃ k : Nat, k ≤ gs.length ∧ i = .int .i64 k ∧ ExtB g w3 wr ∧ BlkL Gl.vals wr g T (gridOf (p ++ gs.take k))
def ScC (w : World) (G : List Gl) (v i : Value) (wr : World) : Prop :=
  ∃ k : Nat, k ≤ 480 ∧ i = .int .i64 k ∧ Ext w wr ∧ wr.ownsRow w.heap.size 58 6 v (scrOf (G.take k)).length ((scrOf (G.take k)).flatMap Gl.vals)
set_option maxRecDepth 100000 in
set_option maxHeartbeats 16000000 in
theorem GScreen_any (d : Doc) (h : DocH) (f : Int) (w : World) (hE : Env w) (hat : DocAt w d h) (hf : DocFit d) (hrn : h.rn ≤ 9223372036854775807) (hn : h.en ≤ 1000000) (h0 : d.err = 0) :
    Calls Tryz.prog 34 #[.agg (d.cells h), .int .i64 f] w (GlsPost (d.scr f) w) := by
  have HEn := Lib.hid hE
  have HAt := Lib.hid hat
  have HFt := Lib.hid hf
  have HDs := Lib.hid (fun w' (hx : Ext w w') => DAtL_any d h f w' (hat.ext hx).evs hn)
  have HEv := Lib.hid (fun e (he : e ∈ d.evs) => doc_ev h0 he)
  have HSc : Hid (d.scr f = scrOf (gridOf (visL d.evs d.regs (atL d.evs f)))) := rfl
  have HVg := Lib.hid (fun is => vis_ok h0 is)
  have HMm := Lib.hid (fun i => @at_mem d.evs f i)
  have HLn := Lib.hid hat.evs.len
  have HIl : Hid ((atL d.evs f).length ≤ 1000000) := by show _ ≤ _; have := at_len d.evs f d.evs.length; have h2 := hat.evs.len; unfold atL; omega
  have HGl := Lib.hid (fun e (he : e ∈ d.evs) => gls_len (doc_ev h0 he))
  clear hE hat hf h0
  unfold AtLPost at HDs
  generalize atL d.evs f = is at *
  obtain ⟨ra, nr, rc, ea, en, ec, ca, nc, cc⟩ := h
  unfold Doc.cells at *
  dsimp only at *
  have HX0 := Lib.hid (((Ext.refl w).alloc (.cells #[.string d.title, .string d.lang, .int .u8 d.rate, .bool d.drop, .int .i64 d.last, .slice ra nr rc, .slice ea en ec, .slice ca nc cc] 27)).alloc (.cells Tryz.zeroCells108 108))
  have HB0 := Lib.hid ((Blk.new w 27 #[.string d.title, .string d.lang, .int .u8 d.rate, .bool d.drop, .int .i64 d.last, .slice ra nr rc, .slice ea en ec, .slice ca nc cc]).alloc (.cells Tryz.zeroCells108 108))
  have HG0 := Lib.hid (Blk.new' (w := w.alloc (.cells #[.string d.title, .string d.lang, .int .u8 d.rate, .bool d.drop, .int .i64 d.last, .slice ra nr rc, .slice ea en ec, .slice ca nc cc] 27)) (g := w.heap.size + 1) (t := 108) (cs := Tryz.zeroCells108) (by simp))
  go_enter Tryz.func34, Tryz.ntmps34
  go_wp2_with (refine wpList_loadB rfl 27 (.tmp 2) rfl w.heap.size 27 _ _ (by exact rfl) (by exact HB0.out) Tryz.underlying27 rfl (by exact size_doc) ?_)
  refine (HDs.out _ HX0.out).mono ?_
  rintro en' w2 ⟨IA, ic, rfl, hI, hic, hx2, hloc⟩
  have HI := Lib.hid hI
  have HX2 := Lib.hid (HX0.out.trans hx2)
  have HB2 := Lib.hid (HB0.out.ext hx2)
  have HG2 := Lib.hid (HG0.out.ext hx2)
  have HLc : Hid (∀ ad, IA = some ad → ad.block ≠ w.heap.size + 1) := fun ad h => by have := hloc ad h; simp at this; omega
  clear hI hx2 hloc HX0 HB0 HG0 HDs
  rw [zero_grid] at HG2
  go_wp2_with fail
  go_loopw [17] (fun i wr => ScO w w2 (w.heap.size + 1) 108 d.evs d.regs is i wr) (fun i _ => is.length - (intOf i).toNat)
  case atStart => exact ⟨0, Nat.zero_le _, rfl, ExtB.refl _, HG2.out⟩
  case round =>
    obtain ⟨k, hk, rfl, hx, hg⟩ := hrel
    have HX := Lib.hid hx
    have HG := Lib.hid hg
    clear hx hg
    have HBd := Lib.hid (HX.out.blk HB2.out (by omega))
    have HXw := Lib.hid (HX.out.toExt HX2.out (by omega))
    by_cases hlt : k < is.length
    · have hin : k < is.length := hlt
      have HIs := Lib.hid (HX.out.cells HI.out HLc.out)
      obtain ⟨ib, ioff, q, hIA, hq, hcell⟩ := IntsAt.cell HIs.out hlt
      obtain ⟨p, x, hqp, hpx, -⟩ := HMm.out q (List.mem_of_getElem? hq)
      subst hqp
      subst hIA
      have hpn : p < en := by rw [← HLn.out]; exact (List.getElem?_eq_some_iff.1 hpx).1
      obtain ⟨eb, eoff, x', hea, hx', hC⟩ := (HAt.out.evs.ext HXw.out).at_ hpn
      obtain rfl : x' = x := by rw [hpx] at hx'; exact (Option.some.inj hx').symm
      subst hea
      obtain ⟨A', n', c', hRx, hEx⟩ := hC
      have HRx := Lib.hid hRx
      have HV := Lib.hid (vis_snoc d.evs d.regs is k p x' hq hpx)
      have hmx := List.mem_of_getElem? hpx
      have HMx := Lib.hid hmx
      have HPl := Lib.hid (fun w' (hx : Ext wr w') => Place_gls x' A' n' c' ra nr rc d.regs w' (HEn.out.ext (HXw.out.trans hx)) (hEx.ext hx) ((HFt.out.evs x' hmx).1.2.2) (HAt.out.regs.ext (HXw.out.trans hx)) hrn HFt.out.regs (HEv.out x' hmx))
      have HGk := Lib.hid (fun g hg => (HVg.out (is.take (k + 1)) g (by rw [HV.out]; exact List.mem_append_right _ hg)).1)
      unfold Ev.cells at HPl
      unfold GlsPost at HPl
      clear hRx hEx hx' hpx hq hmx
      go_upto_region 5 with fail
      clear hcell
      refine wp_region_links [some 21, some 22, some 23, some 24, some 25, some 26, some 27, some 28, some 29, some 30] [[], [0], [], [2], [], [3, 4], [5], [1, 6], [7], []] [7] [.pointer (some ⟨w.heap.size, 5, none⟩), .slice ra nr rc, .pointer (some ⟨w.heap.size, 6, none⟩), .slice (some ⟨eb, eoff, none⟩) en ec, .int .i64 (p : Int), .pointer (some ⟨eb, eoff + p * 7, none⟩), .agg #[.int .i64 x'.id, .int .i64 x'.inn, .int .i64 x'.out, .string x'.region, .int .u8 x'.kind, .string x'.speaker, .slice A' n' c'], undef, .int .i64 ((x'.gls d.regs).length : Int), .int .i64 0] (PlJ wr (x'.gls d.regs)) (by kernel_rfl) (by kernel_rfl) (by kernel_rfl) (by kernel_rfl) (by kernel_rfl) (by kernel_rfl) (by kernel_rfl) (by decide) ?_ ?_ ?_ ?_
      · exact (Ext.refl wr).drew
      · intro i o ho hc a w' us K' hJ hF hlim hk
        match i, ho with
        | 0, ho =>
          simp only [List.getElem?_toArray, List.getElem?_cons_zero, List.getElem?_cons_succ, Option.some.injEq] at ho
          subst ho
          have e2 := hF.old 2 (.pointer (some ⟨w.heap.size, 0, none⟩)) rfl rfl
          simp only [Act.eval] at e2
          clear hF hlim hJ
          go_simp
          exact hk
        | 1, ho =>
          simp only [List.getElem?_toArray, List.getElem?_cons_zero, List.getElem?_cons_succ, Option.some.injEq] at ho
          subst ho
          have e21 := hF.pure 0 21 (.pointer (some ⟨w.heap.size, 5, none⟩)) rfl rfl rfl rfl
          have hcl : w'.cell? ⟨w.heap.size, 5, none⟩ = some (.slice ra nr rc) := (HBd.out.ext hJ.ext).cell 5
          simp only [Act.eval] at e21
          clear hF hlim hJ
          go_simp
          exact hk
        | 2, ho =>
          simp only [List.getElem?_toArray, List.getElem?_cons_zero, List.getElem?_cons_succ, Option.some.injEq] at ho
          subst ho
          have e2 := hF.old 2 (.pointer (some ⟨w.heap.size, 0, none⟩)) rfl rfl
          simp only [Act.eval] at e2
          clear hF hlim hJ
          go_simp
          exact hk
        | 3, ho =>
          simp only [List.getElem?_toArray, List.getElem?_cons_zero, List.getElem?_cons_succ, Option.some.injEq] at ho
          subst ho
          have e23 := hF.pure 2 23 (.pointer (some ⟨w.heap.size, 6, none⟩)) rfl rfl rfl rfl
          have hcl : w'.cell? ⟨w.heap.size, 6, none⟩ = some (.slice (some ⟨eb, eoff, none⟩) en ec) := (HBd.out.ext hJ.ext).cell 6
          simp only [Act.eval] at e23
          clear hF hlim hJ
          go_simp
          exact hk
        | 4, ho =>
          simp only [List.getElem?_toArray, List.getElem?_cons_zero, List.getElem?_cons_succ, Option.some.injEq] at ho
          subst ho
          have e7 := hF.old 7 (.int .i64 (p : Int)) rfl rfl
          simp only [Act.eval] at e7
          clear hF hlim hJ
          go_simp
          exact hk
        | 5, ho =>
          simp only [List.getElem?_toArray, List.getElem?_cons_zero, List.getElem?_cons_succ, Option.some.injEq] at ho
          subst ho
          have e24 := hF.pure 3 24 (.slice (some ⟨eb, eoff, none⟩) en ec) rfl rfl rfl rfl
          have e25 := hF.pure 4 25 (.int .i64 (p : Int)) rfl rfl rfl rfl
          simp only [Act.eval] at e24 e25
          clear hF hlim hJ
          go_simp
          exact hk
        | 6, ho =>
          simp only [List.getElem?_toArray, List.getElem?_cons_zero, List.getElem?_cons_succ, Option.some.injEq] at ho
          subst ho
          have e26 := hF.pure 5 26 (.pointer (some ⟨eb, eoff + p * 7, none⟩)) rfl rfl rfl rfl
          exact wp_load_mid 53 (.tmp 26) rfl eb (eoff + p * 7) e26 [.int .i64 x'.id, .int .i64 x'.inn, .int .i64 x'.out, .string x'.region, .int .u8 x'.kind, .string x'.speaker, .slice A' n' c'] _ (fun j v hv => hJ.ext.cell (HRx.out j v hv)) Tryz.underlying53 rfl (by exact size_evt) hk
        | 7, ho => simp at hc
        | 8, ho =>
          simp only [List.getElem?_toArray, List.getElem?_cons_zero, List.getElem?_cons_succ, Option.some.injEq] at ho
          subst ho
          obtain ⟨v28, hv28⟩ := getElem_ltq (hF.did 0 7 rfl rfl)
          have e28 := hF.link 0 7 28 _ rfl rfl rfl hv28
          obtain ⟨qa, qc, hq⟩ := hJ.one hv28
          subst hq
          simp only [Act.eval] at e28
          clear hF hlim hJ
          go_simp
          exact hk
        | 9, ho =>
          simp only [List.getElem?_toArray, List.getElem?_cons_zero, List.getElem?_cons_succ, Option.some.injEq] at ho
          subst ho
          clear hF hlim hJ
          go_simp
          exact hk
        | i + 10, ho => simp at ho
      · intro p c' o hp ho a w' us K' hl hJ hF hk
        match p, hp with
        | 0, hp =>
          obtain rfl : 7 = c' := by simpa using hp
          simp only [List.getElem?_toArray, List.getElem?_cons_zero, List.getElem?_cons_succ, Option.some.injEq] at ho
          subst ho
          obtain rfl : us = [] := List.eq_nil_of_length_eq_zero hl
          have e22 := hF.pure 1 22 (.slice ra nr rc) rfl rfl rfl rfl
          have e27 := hF.pure 6 27 (.agg #[.int .i64 x'.id, .int .i64 x'.inn, .int .i64 x'.out, .string x'.region, .int .u8 x'.kind, .string x'.speaker, .slice A' n' c']) rfl rfl rfl rfl
          exact wp_call2g rfl e22 e27 Tryz.call40 (HPl.out _ hJ) (fun en w5 hp => by obtain ⟨qa, qc, rfl, h1, h2, h3, h4⟩ := hp; exact ⟨_, rfl, hk _ w5 ⟨qa, qc, rfl, h1, h2, Ext.trans hJ h3, fun ad h => Nat.le_trans (Ext.size hJ) (h4 ad h).1⟩⟩)
        | p + 1, hp => simp at hp
      intro us w3 hl hJ
      obtain ⟨u0, rfl⟩ := list_1 hl
      first | (rename_i hK; refine hK _ _ ?_; clear hK) | (rename_i hK hK_1; refine hK _ _ ?_; clear hK) | (rename_i hK hK_1 hK_2; refine hK _ _ ?_; clear hK) | (rename_i hK hK_1 hK_2 hK_3; refine hK _ _ ?_; clear hK)
      generalize hL : frameL _ _ _ _ = L
      obtain rfl : L = [(21, .pointer (some ⟨w.heap.size, 5, none⟩)), (22, .slice ra nr rc), (23, .pointer (some ⟨w.heap.size, 6, none⟩)), (24, .slice (some ⟨eb, eoff, none⟩) en ec), (25, .int .i64 (p : Int)), (26, .pointer (some ⟨eb, eoff + p * 7, none⟩)), (27, .agg #[.int .i64 x'.id, .int .i64 x'.inn, .int .i64 x'.out, .string x'.region, .int .u8 x'.kind, .string x'.speaker, .slice A' n' c']), (28, u0), (29, .int .i64 ((x'.gls d.regs).length : Int)), (30, .int .i64 0)] := hL.symm.trans (by kernel_rfl)
      clear hL hl
      simp only [Act.put, List.foldl_cons, List.foldl_nil, List.setIfInBounds_toArray, List.set_cons_zero, List.set_cons_succ]
      obtain ⟨GA, gc, rfl, hgA, hgc, hx3, hgloc⟩ := hJ
      have HGA := Lib.hid hgA
      have HX3w := Lib.hid (HXw.out.trans hx3)
      have HXB3 := Lib.hid (HX.out.ext hx3)
      have HG3 := Lib.hid (Blk.ext HG.out hx3)
      have HLg : Hid (∀ ad, GA = some ad → ad.block ≠ w.heap.size + 1) := fun ad h => by have := hgloc ad h; have := Blk.lt HG.out; omega
      clear hgA hx3 hgloc HPl HRx HIs HBd
      go_wp2_with fail
      go_loopw [30] (fun i wq => ScI w3 (w.heap.size + 1) 108 (visL d.evs d.regs (is.take k)) (x'.gls d.regs) i wq) (fun i _ => (x'.gls d.regs).length - (intOf i).toNat)
      case atStart => exact ⟨0, Nat.zero_le _, rfl, ExtB.refl _, by rw [List.take_zero, List.append_nil]; exact HG3.out⟩
      case round =>
        obtain ⟨j, hj, rfl, hxq, hgq⟩ := hrel
        have HXq := Lib.hid hxq
        have HGq := Lib.hid hgq
        have HXqw := Lib.hid (hxq.toExt HX3w.out (by omega))
        have HGAq : Hid (GlsAt wr GA (x'.gls d.regs).length (x'.gls d.regs)) := hxq.cells HGA.out HLg.out
        clear hxq hgq
        have hkb : k < 4611686018427387904 := by have := HIl.out; omega
        have hjb : (x'.gls d.regs).length ≤ 480 := HGl.out x' HMx.out
        by_cases hjn : j < (x'.gls d.regs).length
        · obtain ⟨gb, goff, y, rfl, hy, c0, c1, c2, c3, c4, c5⟩ := HGAq.out.at6 hjn
          have hyok := HGk.out y (List.mem_of_getElem? hy)
          obtain ⟨cy, hcc⟩ : ∃ cy : Nat, y.cell = cy := ⟨y.cell.toNat, by have := (Gl.ok_cell hyok).1; omega⟩
          have hcy : cy < 480 := by have := (Gl.ok_cell hyok).2; omega
          have HCy := Lib.hid (fun w' => Cell_any y w' ⟨hyok.1, hyok.2.1, hyok.2.2.1, hyok.2.2.2.1⟩)
          rw [hcc] at HCy
          have HSet : Hid (gridOf (visL d.evs d.regs (is.take k) ++ (x'.gls d.regs).take (j + 1)) = (gridOf (visL d.evs d.regs (is.take k) ++ (x'.gls d.regs).take j)).set cy y) := by
            show _ = _
            rw [take_snoc' _ j y hy, ← List.append_assoc, grid_app _ [y]]
            simp [hcc]
          clear hy hyok hcc
          go_upto_region 8 with fail
          clear c0 c1 c2 c3 c4 c5
          have HBy := Lib.hid (Blk.new wr 58 #[.int .i64 y.row, .int .i64 y.col, .int .i32 y.ch, .int .u8 y.color, .bool y.italic, .bool y.under])
          have HX6 := Lib.hid ((Ext.refl wr).alloc (.cells #[.int .i64 y.row, .int .i64 y.col, .int .i32 y.ch, .int .u8 y.color, .bool y.italic, .bool y.under] 58))
          have HG6 : Hid (BlkL Gl.vals (wr.alloc (.cells #[.int .i64 y.row, .int .i64 y.col, .int .i32 y.ch, .int .u8 y.color, .bool y.italic, .bool y.under] 58)) (w.heap.size + 1) 108 (gridOf (visL d.evs d.regs (is.take k) ++ (x'.gls d.regs).take j))) := Blk.ext HGq.out HX6.out
          generalize wr.alloc (.cells #[.int .i64 y.row, .int .i64 y.col, .int .i32 y.ch, .int .u8 y.color, .bool y.italic, .bool y.under] 58) = W6 at *
          generalize wr.heap.size = gy at *
          refine wp_region_links [some 34, some 35, some 36, some 37, none] [[], [0], [], [1, 0, 1, 2], [3, 2, 1, 0, 1, 2]] [1, 4] [.agg #[.int .i64 y.row, .int .i64 y.col, .int .i32 y.ch, .int .u8 y.color, .bool y.italic, .bool y.under], undef, .agg #[.int .i64 y.row, .int .i64 y.col, .int .i32 y.ch, .int .u8 y.color, .bool y.italic, .bool y.under], .pointer (some ⟨w.heap.size + 1, cy * 6, none⟩), undef] (StG W6 (w.heap.size + 1) 108 (.int .i64 (cy : Int)) (((gridOf (visL d.evs d.regs (is.take k) ++ (x'.gls d.regs).take j)).set cy y).flatMap Gl.vals).toArray) (by kernel_rfl) (by kernel_rfl) (by kernel_rfl) (by kernel_rfl) (by kernel_rfl) (by kernel_rfl) (by kernel_rfl) (by decide) ?_ ?_ ?_ ?_
          · exact (Ext.refl W6).drew
          · intro i o ho hc a w' us K' hJ hF hlim hk
            match i, ho with
            | 0, ho =>
              simp only [List.getElem?_toArray, List.getElem?_cons_zero, List.getElem?_cons_succ, Option.some.injEq] at ho
              subst ho
              have e9 := hF.old 9 (.pointer (some ⟨gy, 0, none⟩)) rfl rfl
              exact wp_loadB 58 (.tmp 9) rfl gy 58 _ _ e9 (HBy.out.ext (hJ.ext (by have := hlim 0 1 rfl rfl; omega))) Tryz.underlying58 rfl (by exact size_gl) hk
            | 1, ho => simp at hc
            | 2, ho =>
              simp only [List.getElem?_toArray, List.getElem?_cons_zero, List.getElem?_cons_succ, Option.some.injEq] at ho
              subst ho
              have e9 := hF.old 9 (.pointer (some ⟨gy, 0, none⟩)) rfl rfl
              exact wp_loadB 58 (.tmp 9) rfl gy 58 _ _ e9 (HBy.out.ext (hJ.ext (hlim 1 4 rfl rfl))) Tryz.underlying58 rfl (by exact size_gl) hk
            | 3, ho =>
              simp only [List.getElem?_toArray, List.getElem?_cons_zero, List.getElem?_cons_succ, Option.some.injEq] at ho
              subst ho
              have e5 := hF.old 5 (.pointer (some ⟨w.heap.size + 1, 0, none⟩)) rfl rfl
              obtain ⟨v35, hv35⟩ := getElem_ltq (hF.did 0 1 rfl rfl)
              have e35 := hF.link 0 1 35 _ rfl rfl rfl hv35
              have hu := hJ.one (hlim 1 4 rfl rfl) hv35
              subst hu
              have hci : (cy : Int) < 480 := by omega
              simp only [Act.eval] at e35 e5
              clear hF hlim hJ
              go_simp
              exact hk
            | 4, ho => simp at hc
            | i + 5, ho => simp at ho
          · intro p c' o hp ho a w' us K' hl hJ hF hk
            match p, hp with
            | 0, hp =>
              obtain rfl : 1 = c' := by simpa using hp
              simp only [List.getElem?_toArray, List.getElem?_cons_zero, List.getElem?_cons_succ, Option.some.injEq] at ho
              subst ho
              obtain rfl : us = [] := List.eq_nil_of_length_eq_zero hl
              have e34 := hF.pure 0 34 (.agg #[.int .i64 y.row, .int .i64 y.col, .int .i32 y.ch, .int .u8 y.color, .bool y.italic, .bool y.under]) rfl rfl rfl rfl
              exact wp_call1s rfl e34 Tryz.call41 (HCy.out _) (fun w5 hx5 => hk _ w5 ⟨rfl, Ext.trans hJ hx5⟩)
            | 1, hp =>
              obtain rfl : 4 = c' := by simpa using hp
              simp only [List.getElem?_toArray, List.getElem?_cons_zero, List.getElem?_cons_succ, Option.some.injEq] at ho
              subst ho
              obtain ⟨u0, rfl⟩ := list_1 hl
              have e37 := hF.pure 3 37 (.pointer (some ⟨w.heap.size + 1, cy * 6, none⟩)) rfl rfl rfl rfl
              have e36 := hF.pure 2 36 (.agg #[.int .i64 y.row, .int .i64 y.col, .int .i32 y.ch, .int .u8 y.color, .bool y.italic, .bool y.under]) rfl rfl rfl rfl
              obtain ⟨rfl, hx⟩ := hJ
              exact wp_storeL (f := Gl.vals) (size := 6) (fun _ => rfl) 58 (.tmp 37) (.tmp 36) rfl (w.heap.size + 1) 108 _ cy y e37 e36 (Blk.ext HG6.out hx) (by rw [grid_len]; exact hcy) (by exact size_gl) (by simp [Gl.vals, Value.oneCell']) (hk _ _ ⟨w', hx, rfl⟩)
            | p + 2, hp => simp at hp
          intro us wE hl hJ
          obtain ⟨u0, u1, rfl⟩ := list_2 hl
          first | (rename_i hK; refine hK _ _ ?_; clear hK) | (rename_i hK hK_1; refine hK _ _ ?_; clear hK) | (rename_i hK hK_1 hK_2; refine hK _ _ ?_; clear hK) | (rename_i hK hK_1 hK_2 hK_3; refine hK _ _ ?_; clear hK)
          generalize hL : frameL _ _ _ _ = L
          obtain rfl : L = [(34, .agg #[.int .i64 y.row, .int .i64 y.col, .int .i32 y.ch, .int .u8 y.color, .bool y.italic, .bool y.under]), (35, u0), (36, .agg #[.int .i64 y.row, .int .i64 y.col, .int .i32 y.ch, .int .u8 y.color, .bool y.italic, .bool y.under]), (37, .pointer (some ⟨w.heap.size + 1, cy * 6, none⟩))] := hL.symm.trans (by kernel_rfl)
          clear hL hl
          simp only [Act.put, List.foldl_cons, List.foldl_nil, List.setIfInBounds_toArray, List.set_cons_zero, List.set_cons_succ]
          obtain ⟨w5, hx5, rfl⟩ := hJ
          have HF1 := Lib.hid (((HXq.out.ext HX6.out).ext hx5).put 108 (((gridOf (visL d.evs d.regs (is.take k) ++ (x'.gls d.regs).take j)).set cy y).flatMap Gl.vals).toArray)
          have HF2 := Lib.hid (Blk.put (Blk.ext HG6.out hx5) (((gridOf (visL d.evs d.regs (is.take k) ++ (x'.gls d.regs).take j)).set cy y).flatMap Gl.vals).toArray)
          obtain ⟨W8, hW8⟩ : ∃ W8, W8 = putB w5 (w.heap.size + 1) 108 (((gridOf (visL d.evs d.regs (is.take k) ++ (x'.gls d.regs).take j)).set cy y).flatMap Gl.vals).toArray := ⟨_, rfl⟩
          rw [← hW8] at HF1 HF2 ⊢
          clear hW8 hx5 HX6 HBy HG6
          go_wp2_with fail
          exact ⟨⟨j + 1, by omega, by go_num, HF1.out, by rw [HSet.out]; exact HF2.out⟩, by simp [intOf]; omega⟩
        · have hjl : j = (x'.gls d.regs).length := by omega
          have HF1 := Lib.hid (HXB3.out.trans HXq.out)
          have HF2 : Hid (BlkL Gl.vals wr (w.heap.size + 1) 108 (gridOf (visL d.evs d.regs (is.take (k + 1))))) := by
            have h1 := HGq.out
            rw [List.take_of_length_le (l := x'.gls d.regs) (by omega), ← HV.out] at h1
            exact h1
          clear HXq HGq HGAq
          go_wp2_with fail
          exact ⟨⟨k + 1, by omega, by go_num, HF1.out, HF2.out⟩, by simp [intOf]; omega⟩
    · have hkl : k = is.length := by omega
      have HGa : Hid (BlkL Gl.vals wr (w.heap.size + 1) 108 (gridOf (visL d.evs d.regs is))) := by
        have h1 := HG.out
        rw [List.take_of_length_le (by omega)] at h1
        exact h1
      have HGl2 := Lib.hid (grid_len (visL d.evs d.regs is))
      clear HG HMm HVg
      generalize gridOf (visL d.evs d.regs is) = G at *
      have hsz : (Tryz.prog.info? 108).map (·.size) = some (G.flatMap Gl.vals).toArray.size := by
        rw [size_grid, List.size_toArray, flatMap_len Gl.vals 6 (fun _ => rfl), HGl2.out]
      obtain ⟨C, hC⟩ : ∃ C, C = (G.flatMap Gl.vals).toArray := ⟨_, rfl⟩
      have HBc : Hid (Blk wr (w.heap.size + 1) 108 C) := by show Blk _ _ _ _; rw [hC]; exact HGa.out
      rw [← hC] at hsz
      have HIx : Hid (∀ (i : Nat) (g : Gl), G[i]? = some g → ∀ w, (Instr.index 108 (.agg C) (.int .i64 i)).run Tryz.prog w = .ok (.agg #[.int .i64 g.row, .int .i64 g.col, .int .i32 g.ch, .int .u8 g.color, .bool g.italic, .bool g.under]) w) := fun i g hg w => by
        have hi : i < 480 := by have := (List.getElem?_eq_some_iff.1 hg).1; rw [HGl2.out] at this; exact this
        have h1 := run_index_row (w := w) (cs := C) Tryz.underlying108 Tryz.underlying58 rfl size_gl i hi
        rw [h1, hC, flatL_extract (f := Gl.vals) (fun _ => rfl) hg]
        rfl
      clear hC HGa
      go_wp2_with (refine wpList_loadB rfl 108 (.tmp 5) rfl (w.heap.size + 1) 108 _ _ (by exact rfl) (by exact HBc.out) Tryz.underlying108 rfl (by exact hsz) ?_)
      clear hsz
      go_loopw [10, 41] (fun v i wq => ScC wr G v i wq) (fun _ i _ => 480 - (intOf i).toNat)
      case atStart => exact ⟨0, Nat.zero_le _, rfl, Ext.refl _, ⟨rfl, .inl ⟨rfl, rfl⟩⟩⟩
      case round =>
        obtain ⟨i, hi, rfl, hxc, hown⟩ := hrel
        have HXc := Lib.hid hxc
        have HO := Lib.hid hown
        have hol : (scrOf (G.take i)).length ≤ 480 := by
          unfold scrOf
          have := List.length_filter_le (fun g : Gl => decide (g.ch ≠ 0)) (G.take i)
          have h2 : (G.take i).length ≤ 480 := by rw [List.length_take, HGl2.out]; omega
          omega
        clear hxc hown
        by_cases hlt : i < 480
        · obtain ⟨g, hg⟩ : ∃ g, G[i]? = some g := ⟨_, List.getElem?_eq_getElem (by rw [HGl2.out]; exact hlt)⟩
          have hix := HIx.out i g hg
          have HS := Lib.hid (scr_snoc hg)
          clear hg
          have HBg := Lib.hid (Blk.new wr 58 #[.int .i64 g.row, .int .i64 g.col, .int .i32 g.ch, .int .u8 g.color, .bool g.italic, .bool g.under])
          have HXg := Lib.hid (HXc.out.alloc (.cells #[.int .i64 g.row, .int .i64 g.col, .int .i32 g.ch, .int .u8 g.color, .bool g.italic, .bool g.under] 58))
          have HOg := Lib.hid (HO.out.alloc (.cells #[.int .i64 g.row, .int .i64 g.col, .int .i32 g.ch, .int .u8 g.color, .bool g.italic, .bool g.under] 58))
          by_cases h0 : g.ch = 0
          · have hb : (g.ch != 0) = false := by simpa using h0
            have HS2 : Hid (scrOf (G.take (i + 1)) = scrOf (G.take i)) := by show _ = _; rw [HS.out, if_pos h0, List.append_nil]
            clear h0 HS
            go_wp2_with fail
            exact ⟨⟨i + 1, by omega, by go_num, HXg.out, by rw [HS2.out]; exact HOg.out⟩, by simp [intOf]; omega⟩
          · have hb : (g.ch != 0) = true := by simpa using h0
            have HS2 : Hid (scrOf (G.take (i + 1)) = scrOf (G.take i) ++ [g]) := by show _ = _; rw [HS.out, if_neg h0]
            clear h0 HS
            go_upto_region 16 with fail
            clear hb hix
            have hszc := HXc.out.size
            have hszg := HXg.out.size
            generalize wr.alloc (.cells #[.int .i64 g.row, .int .i64 g.col, .int .i32 g.ch, .int .u8 g.color, .bool g.italic, .bool g.under] 58) = W6 at *
            generalize wr.heap.size = gy at *
            have hcg := fun o => HBg.out.cell o
            go_wp2_with (at_builtin; refine wpList_append1 rfl (.tmp 47) (.tmp 49) 30 rfl info_gl Tryz.underlying30 rfl (by decide) (HOg.out.alloc _) (by exact rfl) W6.heap.size _ (by exact rfl) (by exact Blk.new' rfl) (by exact rfl) (by simp [Value.oneCell']) (by omega) (by simp [maxLen]; omega) (by simp; omega) ?_; intro v' w5 hown5 hgr)
            refine ⟨⟨i + 1, by omega, by go_num, (HXg.out.alloc _).grown hgr (fun q hq => own_lt HOg.out q hq), ?_⟩, by simp [intOf]; omega⟩
            rw [HS2.out, List.length_append, List.flatMap_append]
            exact hown5
        · have hi4 : i = 480 := by omega
          have HFin : Hid (d.scr f = scrOf (G.take i)) := by show _ = _; rw [HSc.out, List.take_of_length_le (by rw [HGl2.out]; omega)]
          obtain ⟨A1, c1, rfl, hc, _, hsl, hfr⟩ := own_sl (f := Gl.vals) (size := 6) (fun _ => rfl) rfl HO.out
          have HSl := Lib.hid hsl
          have HFr : Hid (∀ ad, A1 = some ad → w.heap.size ≤ ad.block ∧ Typed wr 58 ad.block) := fun ad h => ⟨Nat.le_trans HXw.out.size (hfr ad h), own_typed HO.out _ (by rw [h]; rfl)⟩
          have HXf := Lib.hid (HXw.out.trans HXc.out)
          clear HO hsl hfr HXc
          go_wp2_with fail
          go_ret
          unfold GlsPost
          rw [HFin.out]
          exact ⟨A1, c1, rfl, HSl.out, hc, HXf.out, HFr.out⟩
end Go.Proofs.YtajbhfmdmajpmaaGreatDoor
