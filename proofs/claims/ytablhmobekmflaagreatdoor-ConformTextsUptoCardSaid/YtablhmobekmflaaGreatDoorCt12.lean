/- Texts laid together. -/
import Derived.Test.YtablhmobekmflaaGreatDoorCt09
import Derived.Test.YtablhmobekmflaaGreatDoorCt05
import Derived.Test.YtablhmobekmflaaGreatDoorCt10
import Derived.Test.YtablhmobekmflaaGreatDoorCt11
import Derived.Test.YtablhmobekmflaaGreatDoorCt02
set_option linter.unusedVariables false
set_option linter.unusedSimpArgs false
namespace Go.Proofs.YtablhmobekmflaaGreatDoor
section
open Go.RowKit
structure Pc where
 inn : Int
 out : Int
 dst : Int
 n : Int
 d : Int
 deriving DecidableEq
def Pc.vals (p : Pc) : List Value := [.int .i64 p.inn, .int .i64 p.out, .int .i64 p.dst, .int .i64 p.n, .int .i64 p.d]
def PcsAt (w : World) (A : Option Addr) (n : Nat) (l : List Pc) : Prop := Sl w 5 (Cells Pc.vals) A n l
theorem PcsAt.ext {w w1 : World} {A : Option Addr} {n : Nat} {l : List Pc} (h : PcsAt w A n l) (k : Ext w w1) : PcsAt w1 A n l := Sl.ext (Cells.stays _) h k
theorem size_pc : (Tryz.prog.info? 95).map (·.size) = some 5 := by kernel_rfl
def Cut.pc (c : Cut) : Pc := ⟨c.inn, c.out, c.src, c.n, c.d⟩
def pcsC (l : List Cut) (s : ByteArray) : List Pc := (l.filter fun c => decide (c.reel = s)).map Cut.pc
def covC (l : List Cut) : List Spn := l.map fun c => ⟨c.inn, c.out⟩
def Cut.pl (c : Cut) : Spn := ⟨c.src, srcAt c (c.out - 1) + 1⟩
def plC (l : List Cut) (s : ByteArray) : List Spn := (l.filter fun c => decide (c.reel = s)).map Cut.pl
def pcsE (e : Edl) (s : ByteArray) : List Pc := if edlErr e = 0 then pcsC e.cuts s else []
def covE (e : Edl) : List Spn := if edlErr e = 0 then joinS (covC e.cuts) else []
def plE (e : Edl) (s : ByteArray) : List Spn := if edlErr e = 0 then joinS (plC e.cuts s) else []
theorem filt_yes {l : List Cut} {k : Nat} {c : Cut} {s : ByteArray} (h : l[k]? = some c) (hs : c.reel = s) : (l.take (k + 1)).filter (fun c => decide (c.reel = s)) = (l.take k).filter (fun c => decide (c.reel = s)) ++ [c] := by
 rw [take_snoc' _ _ _ h, List.filter_append]; simp [hs]
theorem filt_no {l : List Cut} {k : Nat} {c : Cut} {s : ByteArray} (h : l[k]? = some c) (hs : ¬ c.reel = s) : (l.take (k + 1)).filter (fun c => decide (c.reel = s)) = (l.take k).filter (fun c => decide (c.reel = s)) := by
 rw [take_snoc' _ _ _ h, List.filter_append]; simp [hs]
theorem plC_yes {l : List Cut} {k : Nat} {c : Cut} {s : ByteArray} (h : l[k]? = some c) (hs : c.reel = s) : plC (l.take (k + 1)) s = plC (l.take k) s ++ [c.pl] := by unfold plC; rw [filt_yes h hs, List.map_append]; rfl
theorem plC_no {l : List Cut} {k : Nat} {c : Cut} {s : ByteArray} (h : l[k]? = some c) (hs : ¬ c.reel = s) : plC (l.take (k + 1)) s = plC (l.take k) s := by unfold plC; rw [filt_no h hs]
theorem plC_len (l : List Cut) (s : ByteArray) (k : Nat) : (plC (l.take k) s).length ≤ k := by
 have := List.length_filter_le (fun c : Cut => decide (c.reel = s)) (l.take k)
 unfold plC; rw [List.length_map]; rw [List.length_take] at this; omega
theorem srcAt_bd {c : Cut} (h : c.Sane) {t : Int} (h1 : c.inn ≤ t) (h2 : t < c.out) : 0 ≤ srcAt c t ∧ srcAt c t ≤ 50000000 := by
 obtain ⟨a1, a2, a3, a4, a5, a6, a7, a8, a9⟩ := h
 have hm := mul_bd8 (a := t - c.inn) (n := c.n) (by omega) (by omega) a4 a5
 have hq := div_bd hm.1 hm.2 a6
 unfold srcAt; omega
theorem pl_sane {c : Cut} (h : c.Sane) : 0 ≤ c.pl.inn ∧ c.pl.out ≤ 10378368000 := by
 have h2 := srcAt_bd h (t := c.out - 1) (by have := h.2.1; omega) (by omega)
 exact ⟨h.2.2.2.2.2.2.2.1, by show srcAt c (c.out - 1) + 1 ≤ _; omega⟩
def LPost {α : Type} (f : α → List Value) (size : Nat) (l : List α) (err : Int) (w : World) (en : Ending) (w' : World) : Prop :=
 ∃ A c, en = .returned (.tuple #[.slice A l.length c, .int .i64 err]) ∧ Sl w' size (Cells f) A l.length l ∧ l.length ≤ c ∧ Ext w w' ∧ ∀ ad, A = some ad → w.heap.size ≤ ad.block
def LRel {α : Type} (f : α → List Value) (size : Nat) (T : TypeId) (w1 : World) (n : Nat) (F : Nat → List α) (v i : Value) (wr : World) : Prop :=
 ∃ k : Nat, k ≤ n ∧ i = .int .i64 k ∧ Ext w1 wr ∧ wr.ownsRow w1.heap.size T size v (F k).length ((F k).flatMap f)
def PyS (cells : Array Value) (base : Nat) (v : Value) (k : Nat) (xs : List Value) (W : World) : List Value → World → Prop
 | [], w' => Ext W w'
 | [_], w' => Ext W w'
 | [_, u1], w' => (∃ g, u1 = .slice (some ⟨g, 0, none⟩) 1 1 ∧ Blk w' g 60 cells) ∧ Ext W w'
 | [_, _, u2], w' => ∃ w5, Ext W w5 ∧ w5.grownBy w' v.ownBlock ∧ w'.ownsRow base 60 2 u2 (k + 1) (xs ++ cells.toList)
 | [_, _, u2, u3], w' => u3 = u2 ∧ ∃ w5, Ext W w5 ∧ w5.grownBy w' v.ownBlock ∧ w'.ownsRow base 60 2 u2 (k + 1) (xs ++ cells.toList)
 | _, _ => False
structure PyJ (r : Int) (cells : Array Value) (base : Nat) (v : Value) (k : Nat) (xs : List Value) (W : World) (us : List Value) (w' : World) : Prop where
 only : Only 60 W w'
 val : ∀ u, us[0]? = some u → u = .int .i64 r
 st : PyS cells base v k xs W us w'
section
variable {r : Int} {cells : Array Value} {base k : Nat} {v : Value} {xs : List Value} {W w' w2 : World} {u0 u1 u2 : Value}
theorem PyJ.start (W : World) : PyJ r cells base v k xs W [] W.drew := ⟨Only.ext (Ext.refl W).drew, fun u h => by simp at h, (Ext.refl W).drew⟩
theorem PyJ.call (h : PyJ r cells base v k xs W [] w') (hx : Ext w' w2) : PyJ r cells base v k xs W ([] ++ [.int .i64 r]) w2 :=
 ⟨h.only.trans (Only.ext hx), fun u hu => by simpa using hu.symm, Ext.trans h.st hx⟩
theorem PyJ.build (h : PyJ r cells base v k xs W [u0] w') : PyJ r cells base v k xs W ([u0] ++ [.slice (some ⟨w'.heap.size, 0, none⟩) 1 1]) (w'.alloc (.cells cells 60)) :=
 ⟨h.only.trans (Only.ext ((Ext.refl w').alloc _)), fun u hu => h.val u (by simpa using hu), ⟨⟨_, rfl, Blk.new w' _ _⟩, Ext.alloc h.st _⟩⟩
theorem PyJ.app (h : PyJ r cells base v k xs W [u0, u1] w') (hv : ∀ q, v.ownBlock = some q → Typed w' 60 q) (hg : w'.grownBy w2 v.ownBlock) (ho : w2.ownsRow base 60 2 u2 (k + 1) (xs ++ cells.toList)) : PyJ r cells base v k xs W ([u0, u1] ++ [u2]) w2 :=
 ⟨h.only.trans (Only.grown hg hv), fun u hu => h.val u (by simpa using hu), ⟨w', h.st.2, hg, ho⟩⟩
theorem PyJ.asg (h : PyJ r cells base v k xs W [u0, u1, u2] w') : PyJ r cells base v k xs W ([u0, u1, u2] ++ [u2]) w' := ⟨h.only, fun u hu => h.val u (by simpa using hu), ⟨rfl, h.st⟩⟩
end
theorem wp_append1p {P : Program} {o : Oper} {a : Act} {w : World} {K : Act → World → Prop} {Q : Exit → Act → World → Prop} (s x : Operand) (t : TypeId)
 (ho : o.op = .call { callee := .builtin .append, args := #[s, x], argTypes := #[t, t] })
 {base : Nat} {e : TypeId} {z : Value} {size bytes : Nat} (inf : (P.info? e).map (fun i => (i.zero, i.size, i.bytes)) = some (some z, size, bytes)) (ht : P.underlying t = some (.slice e)) (hzs : z.cells.size = size) (hsz : 0 < size)
 {v : Value} {n : Nat} {xs : List Value} (hown : w.ownsRow base e size v n xs) (hs : a.eval s = v) (g : Nat) (news : Array Value) (hx : a.eval x = .slice (some ⟨g, 0, none⟩) 1 1) (hB : Blk w g e news) (hl : news.size = size) (h1 : news.all (·.oneCell') = true)
 (hroom : (n + 1) * bytes ≤ 140737488355328) (hmax : n + 1 ≤ maxLen) (hbase : base ≤ w.heap.size)
 (h : ∀ v' w', w'.ownsRow base e size v' (n + 1) (xs ++ news.toList) → w.grownBy w' v.ownBlock → K (a.put o.dst v') w') : o.wp P a w K Q := by
 obtain ⟨i, hi, hz0, hz1, hz2⟩ := info_parts inf
 obtain ⟨v', w', hrun, h2, h3, _, _⟩ := run_append_own_at (P := P) w base t o.type e i z size bytes ht hi hz0 hz1 hz2 hzs hsz v n xs hown ⟨g, 0, none⟩ 1 1 news.toList (by simpa using hl)
  (fun j u hu => by rw [Addr.add_mid, Nat.zero_add, hB.cell]; simpa using hu) (fun u hu => (Array.all_eq_true_iff_forall_mem.1 h1) u (by simpa using hu)) hmax hroom hbase
 unfold Oper.wp execOp
 simp only [ho, resolve, invoke, builtin, Sem.run_bind, Sem.run_pure, Result.andThen_ok, List.map_toArray, List.map_cons, List.map_nil, hs, hx, hrun]
 exact h v' w' h2 h3
end
section
open Go.RowKit
def toP (p : Pc) (t : Int) : Int := p.dst + (t - p.inn) * p.n / p.d
structure Pc.Ok (p : Pc) : Prop where
 i0 : 0 ≤ p.inn
 io : p.inn < p.out
 o1 : p.out ≤ 5184000
 n0 : 0 ≤ p.n
 n8 : p.n ≤ 8
 d1 : 1 ≤ p.d
 d8 : p.d ≤ 8
 t0 : 0 ≤ p.dst
 t1 : p.dst < 5184000
 rat : ratioB p.n p.d = true
 last : toP p (p.out - 1) < 5184000
structure MapOk (l : List Pc) : Prop where
 each : ∀ p ∈ l, p.Ok
 asc : l.Pairwise fun a b => a.out ≤ b.inn
 few : l.length ≤ 64
theorem cut_pc_ok {c : Cut} {day : Int} (h : cutErr c day = 0) (hd : day ≤ 5184000) : c.pc.Ok := by
 have hs := cutErr_sane h hd
 unfold cutErr at h
 repeat' split at h
 all_goals first | omega | skip
 rename_i h1 h2 h3 h4 h5
 have h4' : speedB c = true := by simpa using h4
 have hr : ratioB c.n c.d = true := by unfold speedB at h4'; simp at h4'; exact h4'.1
 obtain ⟨a1, a2, a3, a4, a5, a6, a7, a8, a9⟩ := hs
 refine ⟨a1, a2, a3, a4, a5, a6, a7, a8, by show c.src < _; omega, hr, ?_⟩
 show srcAt c (c.out - 1) < _
 omega
set_option maxRecDepth 100000 in
set_option maxHeartbeats 1000000 in
theorem To_any (p : Pc) (t : Int) (w : World) (hp : p.Ok) (h1 : p.inn ≤ t) (h2 : t < p.out) :
 Calls Tryz.prog 265 #[.agg #[.int .i64 p.inn, .int .i64 p.out, .int .i64 p.dst, .int .i64 p.n, .int .i64 p.d], .int .i64 t] w fun e w' => e = .returned (.int .i64 (toP p t)) ∧ Ext w w' := by
 obtain ⟨inn, out, dst, n, d⟩ := p
 obtain ⟨a1, a2, a3, a4, a5, a6, a7, a8, a9, -, -⟩ := hp
 dsimp only at *
 have hm := mul_bd8 (a := t - inn) (n := n) (by omega) (by omega) a4 a5
 have hq := div_bd hm.1 hm.2 a6
 have HF : Hid (toP ⟨inn, out, dst, n, d⟩ t = dst + (t - inn) * n / d) := rfl
 have HX := Lib.hid ((Ext.refl w).alloc (.cells #[.int .i64 inn, .int .i64 out, .int .i64 dst, .int .i64 n, .int .i64 d] 95))
 go_enter Tryz.func265, Tryz.ntmps265
 go_wp2_with fail
 refine (Quotient_any ((t - inn) * n) d 1 _ hm.1 (by omega) a6 (by omega) (by omega) (by omega)).mono ?_
 rintro e w1 ⟨rfl, hx⟩
 rw [quoI_floor]
 have hB := Blk.ext (Blk.new w 95 #[.int .i64 inn, .int .i64 out, .int .i64 dst, .int .i64 n, .int .i64 d]) hx
 have hcell := fun o => hB.cell o
 have HB := Lib.hid hB
 clear hB
 go_wp2_with fail
 go_ret
 exact ⟨ret_int HF.out.symm, HX.out.trans hx⟩
set_option maxRecDepth 100000 in
set_option maxHeartbeats 1000000 in
theorem Speed_ok (n d : Int) (w : World) (h0 : 0 ≤ n) (h8 : n ≤ 8) (d8 : d ≤ 8) (hr : ratioB n d = true) :
 Calls Tryz.prog 264 #[.agg #[.int .i64 n, .int .i64 d]] w fun e w' => e = .returned (.bool true) ∧ Ext w w' := by
 have HB0 := Lib.hid (Blk.new w 89 #[.int .i64 n, .int .i64 d])
 have HX := Lib.hid ((Ext.refl w).alloc (.cells #[.int .i64 n, .int .i64 d] 89))
 have HV := Lib.hid (fun w' => RatValid_any n d w')
 rw [hr] at HV
 have e1 : decide (n ≥ 0) = true := by simpa using h0
 have e1' : decide (0 ≤ n) = true := by simpa using h0
 have e2 : decide (n ≤ 8) = true := by simpa using h8
 have e3 : decide (d ≤ 8) = true := by simpa using d8
 clear h0 h8 d8 hr
 go_enter Tryz.func264, Tryz.ntmps264
 go_wp2_with fail
 refine (HV.out _).mono ?_
 rintro e w1 ⟨rfl, hx⟩
 have HX1 := Lib.hid (HX.out.trans hx)
 have b0 := (HB0.out.ext hx).cell 0
 have b1 := (HB0.out.ext hx).cell 1
 simp only [List.getElem?_toArray, List.getElem?_cons_zero, List.getElem?_cons_succ] at b0 b1
 clear hx
 go_wp2_with fail
 go_ret
 exact ⟨rfl, HX1.out⟩
def TmRel (w : World) (n : Nat) (i : Value) (wr : World) : Prop := ∃ k : Nat, k ≤ n ∧ i = .int .i64 k ∧ Ext w wr
set_option maxRecDepth 100000 in
set_option maxHeartbeats 4000000 in
theorem TCheck_ok (A : Option Addr) (n c : Nat) (l : List Pc) (w : World) (hl : PcsAt w A n l) (hok : MapOk l) :
 Calls Tryz.prog 232 #[.slice A n c] w fun e w' => e = .returned (.int .i64 0) ∧ Ext w w' := by
 have HL := Lib.hid hl
 have HLn := Lib.hid hl.len
 have HOk := Lib.hid hok
 have hn : n ≤ 64 := by rw [← hl.len]; exact hok.few
 have hb : decide ((n : Int) > 64) = false := by simp; omega
 have hb2 : decide ((64 : Int) < n) = false := by simp; omega
 clear hl hok
 go_enter Tryz.func232, Tryz.ntmps232
 go_wp2_with fail
 clear hb hb2
 go_loopw [10] (fun i wr => TmRel w n i wr) (fun i _ => n - (intOf i).toNat)
 case atStart => exact ⟨0, Nat.zero_le _, rfl, Ext.refl _⟩
 case round =>
  obtain ⟨k, hk, rfl, hx⟩ := hrel
  have HX := Lib.hid hx
  clear hx
  by_cases hlt : k < n
  case neg =>
   have hkn : k = n := by omega
   subst hkn
   go_wp2_with fail
   go_ret
   exact ⟨rfl, HX.out⟩
  obtain ⟨b, off, x, rfl, hxk, hC⟩ := (HL.out.ext HX.out).at_ hlt
  have c0 := hC 0 _ rfl
  have c1 := hC 1 _ rfl
  have c2 := hC 2 _ rfl
  have c3 := hC 3 _ rfl
  have c4 := hC 4 _ rfl
  simp only [Nat.add_zero] at c0
  have hxo := HOk.out.each x (List.mem_of_getElem? hxk)
  have HPr : Hid (∀ j y, k = j + 1 → l[j]? = some y → ¬ x.inn < y.out) := fun j y hj hy => by
   subst hj
   have h1 := List.pairwise_iff_getElem.1 HOk.out.asc j (j + 1) (List.getElem?_eq_some_iff.1 hy).1 (List.getElem?_eq_some_iff.1 hxk).1 (by omega)
   rw [(List.getElem?_eq_some_iff.1 hy).2, (List.getElem?_eq_some_iff.1 hxk).2] at h1
   omega
  have HSp := Lib.hid (fun w' => Speed_ok x.n x.d w' hxo.n0 hxo.n8 hxo.d8 hxo.rat)
  have HTo := Lib.hid (fun w' => To_any x (x.out - 1) w' hxo (by have := hxo.io; omega) (by omega))
  have hlast := hxo.last
  have g1 : decide (x.inn ≥ x.out) = false := by have := hxo.io; simp; omega
  have g1' : decide (x.out ≤ x.inn) = false := by have := hxo.io; simp; omega
  have g2 : decide (x.inn < 0) = false := by have := hxo.i0; simp; omega
  have g3 : decide (x.out > 5184000) = false := by have := hxo.o1; simp; omega
  have g3' : decide (5184000 < x.out) = false := by have := hxo.o1; simp; omega
  have g4 : decide (x.dst < 0) = false := by have := hxo.t0; simp; omega
  have g5 : decide (x.dst ≥ 5184000) = false := by have := hxo.t1; simp; omega
  have g5' : decide (5184000 ≤ x.dst) = false := by have := hxo.t1; simp; omega
  have hob := hxo.o1
  have hob2 := hxo.io
  have hob3 := hxo.i0
  generalize toP x (x.out - 1) = tl at *
  have g6 : decide (tl ≥ 5184000) = false := by simp; omega
  have g6' : decide (5184000 ≤ tl) = false := by simp; omega
  have HBx := Lib.hid (Blk.new wr 95 #[.int .i64 x.inn, .int .i64 x.out, .int .i64 x.dst, .int .i64 x.n, .int .i64 x.d])
  have HXx := Lib.hid ((Ext.refl wr).alloc (.cells #[.int .i64 x.inn, .int .i64 x.out, .int .i64 x.dst, .int .i64 x.n, .int .i64 x.d] 95))
  clear hC hxk hxo hlast
  go_wp2_with fail
  refine (HSp.out _).mono ?_
  rintro e w1 ⟨rfl, hx1⟩
  have HX1 := Lib.hid (HXx.out.trans hx1)
  have HB1 := Lib.hid (HBx.out.ext hx1)
  have hcl := fun o => HB1.out.cell o
  clear hx1 HSp
  go_wp2_with (refine wpList_loadB rfl 95 (.tmp 4) rfl wr.heap.size 95 _ _ (by exact rfl) (by exact HB1.out) Tryz.underlying95 rfl (by exact size_pc) ?_)
  refine (HTo.out _).mono ?_
  rintro e w2 ⟨rfl, hx2⟩
  have HX2 := Lib.hid (HX1.out.trans hx2)
  have HB2 := Lib.hid (HB1.out.ext hx2)
  clear hcl
  have hcl2 := fun o => HB2.out.cell o
  clear hx2 HTo
  by_cases hk0 : 0 < k
  · obtain ⟨b', off', y, hA, hyk, hD⟩ := (HL.out.ext (HX.out.trans HX2.out)).at_ (i := k - 1) (by omega)
    cases hA
    have d1 := hD 1 _ rfl
    have hny := HPr.out (k - 1) y (by omega) hyk
    have g7 : decide (x.inn < y.out) = false := by simpa using hny
    have g8 : decide ((k : Int) > 0) = true := by simp; omega
    have g8' : decide ((0 : Int) < k) = true := by simp; omega
    obtain ⟨j, rfl⟩ : ∃ j, k = j + 1 := ⟨k - 1, by omega⟩
    simp only [Nat.add_sub_cancel] at d1
    clear hD hyk hny
    go_wp2_with fail
    go_quiet (fail)
    go_wp2_with fail
    exact ⟨⟨j + 1 + 1, by omega, by go_num, (HX.out.trans HX2.out).drewN _⟩, by simp [intOf]; omega⟩
  · have hk00 : k = 0 := by omega
    subst hk00
    go_wp2_with fail
    go_quiet (fail)
    go_wp2_with fail
    exact ⟨⟨0 + 1, by omega, by go_num, (HX.out.trans HX2.out).drewN _⟩, by simp [intOf]; omega⟩
def tmAt (l : List Pc) (t : Int) : Int × Bool := match l.find? fun p => decide (p.inn ≤ t ∧ t < p.out) with | some p => (toP p t, true) | none => (0, false)
def TaRel (w : World) (n : Nat) (l : List Pc) (t : Int) (i : Value) (wr : World) : Prop := ∃ k : Nat, k ≤ n ∧ i = .int .i64 k ∧ Ext w wr ∧ tmAt l t = tmAt (l.drop k) t
end
section
def spInB (l : List Spn) (f : Int) : Bool := l.any fun s => decide (s.inn ≤ f ∧ f < s.out)
def Apt (l : List Spn) : Prop := l.Pairwise fun x y => x.out < y.inn
def sumL (l : List Spn) : Int := (l.map fun s => s.out - s.inn).sum
def maxT : Int := 10378368000
def restF : Int → List Spn → List Spn
 | at', [] => [⟨at', maxT + 1⟩]
 | at', s :: l => (if at' < s.inn then [⟨at', s.inn⟩] else []) ++ restF s.out l
def commS (a b : List Spn) : List Spn := a.flatMap fun x => b.flatMap fun y => if max x.inn y.inn < min x.out y.out then [⟨max x.inn y.inn, min x.out y.out⟩] else []
def lostS (s : Spn) (p : List Spn) : Int := sumL (commS [s] (restF 0 p))
theorem comm_one (s : Spn) (b : List Spn) : commS [s] b = b.flatMap fun y => if max s.inn y.inn < min s.out y.out then [⟨max s.inn y.inn, min s.out y.out⟩] else [] := by unfold commS; simp
theorem comm_full (s : Spn) (b : List Spn) : Full (commS [s] b) := by
 rw [comm_one]
 intro x hx
 obtain ⟨y, _, h⟩ := List.mem_flatMap.1 hx
 split at h
 · simp at h; subst h; assumption
 · simp at h
theorem comm_apt (s : Spn) : ∀ {b : List Spn}, Apt b → Apt (commS [s] b)
 | [], _ => by simp [comm_one, Apt]
 | y :: b, h => by
  unfold Apt at h
  rw [List.pairwise_cons] at h
  have ih := comm_apt s h.2
  rw [comm_one] at ih ⊢
  rw [List.flatMap_cons]
  unfold Apt at ih ⊢
  rw [List.pairwise_append]
  refine ⟨by split <;> simp, ih, fun x hx z hz => ?_⟩
  split at hx
  · simp at hx; subst hx
    obtain ⟨q, hq, hz⟩ := List.mem_flatMap.1 hz
    have := h.1 q hq
    split at hz
    · simp at hz; subst hz; simp only; omega
    · simp at hz
  · simp at hx
theorem rest_ok : ∀ {l : List Spn} {a : Int}, SetOk l → (∀ s ∈ l, a ≤ s.inn ∧ s.out ≤ maxT) → a ≤ maxT → Full (restF a l) ∧ Apt (restF a l) ∧ (∀ s ∈ restF a l, a ≤ s.inn) ∧ ∀ f, Inn (restF a l) f ↔ a ≤ f ∧ f ≤ maxT ∧ ¬ Inn l f
 | [], a, _, _, ha => by
  unfold restF
  refine ⟨fun s hs => by simp at hs; subst hs; simp only; omega, by simp [Apt], fun s hs => by simp at hs; subst hs; exact Int.le_refl _, fun f => ?_⟩
  simp [Inn]; omega
 | s :: l, a, h, hb, ha => by
  have hs := h.1 s (by simp)
  have hsb := hb s (by simp)
  have hp := h.2
  rw [List.pairwise_cons] at hp
  obtain ⟨k1, k2, k3, k4⟩ := rest_ok (l := l) (a := s.out) ⟨fun x hx => h.1 x (by simp [hx]), hp.2⟩ (fun x hx => ⟨by have := hp.1 x hx; omega, (hb x (by simp [hx])).2⟩) hsb.2
  unfold restF
  by_cases hlt : a < s.inn
  · rw [if_pos hlt]
    refine ⟨fun x hx => ?_, ?_, fun x hx => ?_, fun f => ?_⟩
    · rcases List.mem_append.1 hx with hx | hx
      · simp at hx; subst hx; exact hlt
      · exact k1 x hx
    · unfold Apt at k2 ⊢
      rw [List.pairwise_append]
      exact ⟨by simp, k2, fun x hx y hy => by simp at hx; subst hx; have := k3 y hy; simp only; omega⟩
    · rcases List.mem_append.1 hx with hx | hx
      · simp at hx; subst hx; exact Int.le_refl _
      · have := k3 x hx; omega
    · have e1 : Inn ([⟨a, s.inn⟩] ++ restF s.out l) f ↔ (a ≤ f ∧ f < s.inn) ∨ Inn (restF s.out l) f := by unfold Inn; simp
      have e2 : Inn (s :: l) f ↔ (s.inn ≤ f ∧ f < s.out) ∨ Inn l f := by unfold Inn; simp
      have e3 : Inn l f → s.out ≤ f := by
       rintro ⟨x, hx, h1, h2⟩
       have := hp.1 x hx; omega
      rw [e1, e2, k4]
      constructor
      · rintro (⟨h1, h2⟩ | ⟨h1, h2, h3⟩)
        · exact ⟨h1, by omega, fun hc => by rcases hc with hc | hc; omega; have := e3 hc; omega⟩
        · exact ⟨by omega, h2, fun hc => by rcases hc with hc | hc; omega; exact h3 hc⟩
      · rintro ⟨h1, h2, h3⟩
        by_cases hc : f < s.inn
        · exact .inl ⟨h1, hc⟩
        · exact .inr ⟨by by_cases h4 : f < s.out; exact absurd (.inl ⟨by omega, h4⟩) h3; omega, h2, fun h5 => h3 (.inr h5)⟩
  · rw [if_neg hlt, List.nil_append]
    refine ⟨k1, k2, fun x hx => by have := k3 x hx; omega, fun f => ?_⟩
    have e2 : Inn (s :: l) f ↔ (s.inn ≤ f ∧ f < s.out) ∨ Inn l f := by unfold Inn; simp
    rw [e2, k4]
    constructor
    · rintro ⟨h1, h2, h3⟩
      exact ⟨by omega, h2, fun hc => by rcases hc with hc | hc; omega; exact h3 hc⟩
    · rintro ⟨h1, h2, h3⟩
      exact ⟨by by_cases h4 : f < s.out; exact absurd (.inl ⟨by omega, h4⟩) h3; omega, h2, fun h5 => h3 (.inr h5)⟩
def minR (o : Int) : Int → List Spn → List Spn
 | i, [] => [⟨i, o⟩]
 | i, t :: b => if t.out ≤ i ∨ o ≤ t.inn then minR o i b else ⟨i, t.inn⟩ :: minR o t.out b
def lostR (s : Spn) (p : List Spn) : Int := sumL (joinS (minR s.out s.inn p))
end
section
open Go.RowKit
def reachP (p : Pc) (v : Int) : Int := if v ≤ p.dst then p.inn else if p.n = 0 then p.out else min (p.inn + quoI ((v - p.dst) * p.d) p.n 3) p.out
theorem quoI_bd (n d m : Int) (h : 0 ≤ n) (hd : 1 ≤ d) : 0 ≤ quoI n d m ∧ quoI n d m ≤ n + 1 := by
 have h1 : 0 ≤ n / d := Int.ediv_nonneg h (by omega)
 have h2 : n / d ≤ n := Int.ediv_le_self _ h
 unfold quoI
 split <;> omega
set_option maxRecDepth 100000 in
set_option maxHeartbeats 4000000 in
theorem Reaches_any (p : Pc) (v : Int) (w : World) (hp : p.Ok) (hv : v ≤ maxT) :
 Calls Tryz.prog 186 #[.agg #[.int .i64 p.inn, .int .i64 p.out, .int .i64 p.dst, .int .i64 p.n, .int .i64 p.d], .int .i64 v] w fun e w' => e = .returned (.int .i64 (reachP p v)) ∧ Ext w w' := by
 have HX := Lib.hid ((Ext.refl w).alloc (.cells #[.int .i64 p.inn, .int .i64 p.out, .int .i64 p.dst, .int .i64 p.n, .int .i64 p.d] 95))
 have HB := Lib.hid (Blk.new w 95 #[.int .i64 p.inn, .int .i64 p.out, .int .i64 p.dst, .int .i64 p.n, .int .i64 p.d])
 have hp0 := hp.i0
 have hp1 := hp.o1
 have hp2 := hp.io
 have hp3 := hp.t0
 have hp4 := hp.t1
 have hp5 := hp.n0
 have hp6 := hp.n8
 have hp7 := hp.d1
 have hp8 := hp.d8
 unfold maxT at hv
 clear hp
 by_cases h1 : v ≤ p.dst
 · have e1 : decide (v ≤ p.dst) = true := by simpa using h1
   have HF : Hid (reachP p v = p.inn) := by show _ = _; unfold reachP; rw [if_pos h1]
   clear h1
   go_enter Tryz.func186, Tryz.ntmps186
   go_wp2_with fail
   go_ret
   exact ⟨ret_int HF.out.symm, HX.out⟩
 · have e1 : decide (v ≤ p.dst) = false := by simpa using h1
   by_cases h2 : p.n = 0
   · have e2 : (p.n == 0) = true := by simpa using h2
     have HF : Hid (reachP p v = p.out) := by show _ = _; unfold reachP; rw [if_neg h1, if_pos h2]
     clear h1 h2
     go_enter Tryz.func186, Tryz.ntmps186
     go_wp2_with fail
     go_ret
     exact ⟨ret_int HF.out.symm, HX.out⟩
   · have e2 : (p.n == 0) = false := by simpa using h2
     have HF : Hid (reachP p v = min (p.inn + quoI ((v - p.dst) * p.d) p.n 3) p.out) := by show _ = _; unfold reachP; rw [if_neg h1, if_neg h2]
     have hm : 0 ≤ (v - p.dst) * p.d ∧ (v - p.dst) * p.d ≤ 10378368000 * 8 := by
      refine ⟨Int.mul_nonneg (by omega) (by omega), ?_⟩
      have h3 : (v - p.dst) * p.d ≤ 10378368000 * p.d := Int.mul_le_mul_of_nonneg_right (by omega) (by omega)
      have h4 : 10378368000 * p.d ≤ 10378368000 * 8 := Int.mul_le_mul_of_nonneg_left hp8 (by omega)
      omega
     have hq := quoI_bd ((v - p.dst) * p.d) p.n 3 hm.1 (by omega)
     have HQ := Lib.hid (fun w' => Quotient_any ((v - p.dst) * p.d) p.n 3 w' hm.1 (by omega) (by omega) (by omega) (by omega) (by omega))
     have hvd : 0 < v - p.dst := by omega
     obtain ⟨hm1, hm2⟩ := hm
     clear h1 h2
     go_enter Tryz.func186, Tryz.ntmps186
     go_wp2_with fail
     refine (HQ.out _).mono ?_
     rintro e w1 ⟨rfl, hx⟩
     have HX1 := Lib.hid (HX.out.trans hx)
     have HB1 := Lib.hid (HB.out.ext hx)
     have hcl := fun o => HB1.out.cell o
     clear hx HQ
     generalize quoI ((v - p.dst) * p.d) p.n 3 = q at *
     go_wp2_with fail
     go_ret
     exact ⟨ret_int HF.out.symm, HX1.out⟩
end
section
def nmR (r : Reg) : Bs := r.name.toList
def uqStep (o : List Reg) (g : Reg) : List Reg := if g ∈ o then o else o ++ [g]
def uqR (l : List Reg) : List Reg := l.foldl uqStep []
theorem uq_fold : ∀ (l o : List Reg), o.Nodup → (l.foldl uqStep o).Nodup ∧ ∀ x, x ∈ l.foldl uqStep o ↔ x ∈ o ∨ x ∈ l
 | [], o, h => ⟨h, fun x => by simp⟩
 | g :: l, o, h => by
  have hs : (uqStep o g).Nodup ∧ ∀ x, x ∈ uqStep o g ↔ x ∈ o ∨ x = g := by
   unfold uqStep
   split
   · rename_i hg
     refine ⟨h, fun x => ⟨fun hx => .inl hx, fun hx => ?_⟩⟩
     rcases hx with hx | rfl
     · exact hx
     · exact hg
   · rename_i hg
     refine ⟨List.nodup_append.2 ⟨h, by simp, fun a ha b hb => ?_⟩, fun x => by simp⟩
     simp at hb; subst hb
     rintro rfl; exact hg ha
  obtain ⟨k1, k2⟩ := uq_fold l (uqStep o g) hs.1
  refine ⟨k1, fun x => ?_⟩
  rw [List.foldl_cons, k2, hs.2]
  simp [or_assoc]
theorem uqR_ok (l : List Reg) : (uqR l).Nodup ∧ ∀ x, x ∈ uqR l ↔ x ∈ l := by
 have h := uq_fold l [] List.nodup_nil
 exact ⟨h.1, fun x => by have := h.2 x; unfold uqR; rw [this]; simp⟩
def Conf (l : List Reg) : Prop := ∃ a ∈ l, ∃ b ∈ l, nmR a = nmR b ∧ a ≠ b
def adjB : List Reg → Bool
 | [] => false
 | [_] => false
 | x :: y :: l => decide (nmR y = nmR x) || adjB (y :: l)
def LeR (x y : Reg) : Prop := ¬ nmR y < nmR x
theorem leR_trans {x y z : Reg} (h : LeR x y) (k : LeR y z) : LeR x z := fun hc => by
 unfold LeR at h k
 have h1 : nmR x ≤ nmR y := List.not_lt.1 h
 have h2 : nmR y ≤ nmR z := List.not_lt.1 k
 exact Bs.lt_irrefl _ (Bs.lt_of_le_of_lt (Bs.le_trans h1 h2) hc)
theorem adj_none : ∀ {m : List Reg}, m.Pairwise LeR → adjB m = false → m.Pairwise fun x y => nmR x < nmR y
 | [], _, _ => List.Pairwise.nil
 | [x], _, _ => by simp
 | x :: y :: l, h, ha => by
  unfold adjB at ha
  simp only [Bool.or_eq_false_iff, decide_eq_false_iff_not] at ha
  rw [List.pairwise_cons] at h
  have ih := adj_none h.2 ha.2
  have hxy : nmR x < nmR y := Bs.lt_of_le_of_ne (List.not_lt.1 (h.1 y (by simp))) (fun e => ha.1 e.symm)
  refine List.pairwise_cons.2 ⟨fun z hz => ?_, ih⟩
  rcases List.mem_cons.1 hz with rfl | hz
  · exact hxy
  · exact Bs.lt_trans hxy ((List.pairwise_cons.1 ih).1 z hz)
theorem adj_some : ∀ {m : List Reg}, m.Nodup → adjB m = true → Conf m
 | [], _, h => by simp [adjB] at h
 | [x], _, h => by simp [adjB] at h
 | x :: y :: l, hn, h => by
  unfold adjB at h
  simp only [Bool.or_eq_true, decide_eq_true_eq] at h
  rw [List.nodup_cons] at hn
  rcases h with h | h
  · exact ⟨x, by simp, y, by simp, h.symm, fun e => hn.1 (by rw [e]; simp)⟩
  · obtain ⟨a, ha, b, hb, k⟩ := adj_some hn.2 h
    exact ⟨a, List.mem_cons_of_mem _ ha, b, List.mem_cons_of_mem _ hb, k⟩
theorem strict_conf {m : List Reg} (h : m.Pairwise fun x y => nmR x < nmR y) : ¬ Conf m := by
 rintro ⟨a, ha, b, hb, he, hne⟩
 obtain ⟨i, hi, rfl⟩ := List.mem_iff_getElem.1 ha
 obtain ⟨j, hj, rfl⟩ := List.mem_iff_getElem.1 hb
 have hp := List.pairwise_iff_getElem.1 h
 rcases Nat.lt_trichotomy i j with hij | hij | hij
 · have := hp i j hi hj hij; rw [he] at this; exact Bs.lt_irrefl _ this
 · subst hij; exact hne rfl
 · have := hp j i hj hi hij; rw [he] at this; exact Bs.lt_irrefl _ this
theorem conf_congr {l m : List Reg} (h : ∀ x, x ∈ l ↔ x ∈ m) : Conf l ↔ Conf m := by
 unfold Conf
 constructor
 · rintro ⟨a, ha, b, hb, k⟩; exact ⟨a, (h a).1 ha, b, (h b).1 hb, k⟩
 · rintro ⟨a, ha, b, hb, k⟩; exact ⟨a, (h a).2 ha, b, (h b).2 hb, k⟩
theorem adj_conf {l m : List Reg} (hp : m.Perm (uqR l)) (hs : m.Pairwise LeR) : adjB m = true ↔ Conf l := by
 have hc : Conf l ↔ Conf m := conf_congr fun x => by rw [hp.mem_iff, (uqR_ok l).2]
 rw [hc]
 constructor
 · exact adj_some (hp.nodup_iff.2 (uqR_ok l).1)
 · intro h
   cases ha : adjB m with
   | true => rfl
   | false => exact absurd h (strict_conf (adj_none hs ha))
def insAtR (o : List Reg) (r : Reg) : Nat := (o.takeWhile fun x => decide (nmR x < nmR r)).length
def insRg (o : List Reg) (r : Reg) : Option (List Reg) :=
 match o[insAtR o r]? with
 | some y => if nmR y = nmR r then (if y = r then some o else none) else some (o.take (insAtR o r) ++ r :: o.drop (insAtR o r))
 | none => some (o.take (insAtR o r) ++ r :: o.drop (insAtR o r))
def refStep : Option (List Reg) → Reg → Option (List Reg) := fun o r => o.bind fun o => insRg o r
def refR (l : List Reg) : Option (List Reg) := l.foldl refStep (some [])
theorem twR_mem {p : Reg → Bool} {x : Reg} : ∀ {l : List Reg}, x ∈ l.takeWhile p → p x = true
 | [], h => by simp at h
 | a :: l, h => by
  rw [List.takeWhile_cons] at h
  split at h
  · rename_i ha
    rcases List.mem_cons.1 h with rfl | h
    · exact ha
    · exact twR_mem h
  · simp at h
theorem ins_split (o : List Reg) (r : Reg) : ∃ A B, o = A ++ B ∧ A.length = insAtR o r ∧ (∀ x ∈ A, nmR x < nmR r) ∧ ∀ y, B.head? = some y → ¬ nmR y < nmR r := by
 refine ⟨o.takeWhile fun x => decide (nmR x < nmR r), o.dropWhile fun x => decide (nmR x < nmR r), List.takeWhile_append_dropWhile.symm, rfl, fun x hx => ?_, fun y hy => ?_⟩
 · have := twR_mem hx
   simpa using this
 · have := List.head?_dropWhile_not (fun x => decide (nmR x < nmR r)) o
   rw [hy] at this
   simpa using this
theorem refR_fold : ∀ (l p : List Reg) (o : List Reg), (o.Pairwise fun x y => nmR x < nmR y) → (∀ x, x ∈ o ↔ x ∈ p) →
 (∃ q, l.foldl refStep (some o) = some q ∧ (q.Pairwise fun x y => nmR x < nmR y) ∧ ∀ x, x ∈ q ↔ x ∈ p ++ l) ∨ (l.foldl refStep (some o) = none ∧ Conf (p ++ l))
 | [], p, o, h, hm => .inl ⟨o, rfl, h, by simpa using hm⟩
 | r :: l, p, o, h, hm => by
  have hnone : ∀ l : List Reg, l.foldl refStep none = none := by
   intro l; induction l with
   | nil => rfl
   | cons a l ih => exact ih
  obtain ⟨A, B, rfl, hl, hA, hB⟩ := ins_split o r
  have hstep : refStep (some (A ++ B)) r = insRg (A ++ B) r := rfl
  rw [List.foldl_cons, hstep]
  have hget : (A ++ B)[insAtR (A ++ B) r]? = B.head? := by
   rw [← hl, List.getElem?_append_right (Nat.le_refl _), Nat.sub_self]
   cases B <;> rfl
  have htk : (A ++ B).take (insAtR (A ++ B) r) = A := by rw [← hl]; simp
  have hdr : (A ++ B).drop (insAtR (A ++ B) r) = B := by rw [← hl]; simp
  have hp := List.pairwise_append.1 h
  have hins : (∀ y ∈ B, nmR r < nmR y) → ((A ++ r :: B).Pairwise fun x y => nmR x < nmR y) ∧ ∀ x, x ∈ A ++ r :: B ↔ x ∈ p ++ [r] := by
   intro hBr
   refine ⟨List.pairwise_append.2 ⟨hp.1, List.pairwise_cons.2 ⟨hBr, hp.2.1⟩, fun x hx y hy => ?_⟩, fun x => ?_⟩
   · rcases List.mem_cons.1 hy with rfl | hy
     · exact hA x hx
     · exact hp.2.2 x hx y hy
   · have := hm x
     simp only [List.mem_append, List.mem_cons, List.not_mem_nil, or_false] at this ⊢
     constructor
     · rintro (h1 | h1 | h1)
       · exact .inl (this.1 (.inl h1))
       · exact .inr h1
       · exact .inl (this.1 (.inr h1))
     · rintro (h1 | h1)
       · rcases this.2 h1 with h2 | h2
         · exact .inl h2
         · exact .inr (.inr h2)
       · exact .inr (.inl h1)
  have happ : p ++ r :: l = (p ++ [r]) ++ l := by simp
  unfold insRg
  rw [hget, htk, hdr]
  cases B with
  | nil =>
   simp only [List.head?_nil]
   obtain ⟨k1, k2⟩ := hins (by simp)
   rw [happ]
   exact refR_fold l (p ++ [r]) _ k1 k2
  | cons y B =>
   simp only [List.head?_cons]
   have hy := hB y rfl
   by_cases hyr : nmR y = nmR r
   · rw [if_pos hyr]
     by_cases hyr2 : y = r
     · subst hyr2
       rw [if_pos rfl, happ]
       refine refR_fold l (p ++ [y]) _ h (fun x => ?_)
       rw [hm x]
       constructor
       · intro hx; simp [hx]
       · intro hx
         rcases List.mem_append.1 hx with hx | hx
         · exact hx
         · simp at hx; subst hx; exact (hm _).1 (by simp)
     · rw [if_neg hyr2]
       exact .inr ⟨hnone l, y, by simp [(hm y).1 (by simp)], r, by simp, hyr, hyr2⟩
   · rw [if_neg hyr]
     have hry : nmR r < nmR y := Bs.lt_of_le_of_ne (List.not_lt.1 hy) (fun e => hyr e.symm)
     obtain ⟨k1, k2⟩ := hins (fun z hz => by
      rcases List.mem_cons.1 hz with rfl | hz
      · exact hry
      · exact Bs.lt_trans hry ((List.pairwise_cons.1 hp.2.1).1 z hz))
     rw [happ]
     exact refR_fold l (p ++ [r]) _ k1 k2
theorem strict_eq : ∀ {a b : List Reg}, (a.Pairwise fun x y => nmR x < nmR y) → (b.Pairwise fun x y => nmR x < nmR y) → (∀ x, x ∈ a ↔ x ∈ b) → a = b
 | [], [], _, _, _ => rfl
 | [], y :: b, _, _, h => absurd ((h y).2 (by simp)) (by simp)
 | x :: a, [], _, _, h => absurd ((h x).1 (by simp)) (by simp)
 | x :: a, y :: b, ha, hb, h => by
  rw [List.pairwise_cons] at ha hb
  have hxy : x = y := by
   rcases List.mem_cons.1 ((h x).1 (by simp)) with e | hx
   · exact e
   · rcases List.mem_cons.1 ((h y).2 (by simp)) with e | hy
     · exact e.symm
     · exact absurd (Bs.lt_trans (hb.1 x hx) (ha.1 y hy)) (Bs.lt_irrefl _)
  subst hxy
  congr 1
  refine strict_eq ha.2 hb.2 fun z => ?_
  have hz := h z
  constructor
  · intro h1
    rcases List.mem_cons.1 (hz.1 (List.mem_cons_of_mem _ h1)) with rfl | h2
    · exact absurd (ha.1 z h1) (Bs.lt_irrefl _)
    · exact h2
  · intro h1
    rcases List.mem_cons.1 (hz.2 (List.mem_cons_of_mem _ h1)) with rfl | h2
    · exact absurd (hb.1 z h1) (Bs.lt_irrefl _)
    · exact h2
theorem regs_same {l m : List Reg} (hp : m.Perm (uqR l)) (hs : m.Pairwise LeR) : (adjB m = true ∧ refR l = none) ∨ (adjB m = false ∧ refR l = some m ∧ (m.Pairwise fun x y => nmR x < nmR y) ∧ ∀ x, x ∈ m ↔ x ∈ l) := by
 have hm : ∀ x, x ∈ m ↔ x ∈ l := fun x => by rw [hp.mem_iff, (uqR_ok l).2]
 rcases refR_fold l [] [] List.Pairwise.nil (by simp) with ⟨q, h1, h2, h3⟩ | ⟨h1, h2⟩
 · rw [List.nil_append] at h3
   cases ha : adjB m with
   | true => exact absurd ((conf_congr h3).2 ((adj_conf hp hs).1 ha)) (strict_conf h2)
   | false =>
    have hst := adj_none hs ha
    have : m = q := strict_eq hst h2 (fun x => by rw [hm, h3])
    exact .inr ⟨rfl, by rw [this]; exact h1, hst, hm⟩
 · exact .inl ⟨(adj_conf hp hs).2 h2, h1⟩
end
section
open Go.RowKit
def cutI (l : List Cut) (k : Nat) : Cut := (l[k]?).getD ⟨0, ⟨#[]⟩, 0, 0, 0, 0, 0⟩
def swapPre (e : Edl) (a b : ByteArray) : Int :=
 if edlErr e ≠ 0 then edlErr e else if a = b then 1 else if cntI e.cuts a e.cuts.length = 0 ∨ cntI e.cuts b e.cuts.length = 0 then 6 else if 1 < cntI e.cuts a e.cuts.length ∨ 1 < cntI e.cuts b e.cuts.length then 7 else
  if (cutI e.cuts (lastI e.cuts a e.cuts.length)).out - (cutI e.cuts (lastI e.cuts a e.cuts.length)).inn ≠ (cutI e.cuts (lastI e.cuts b e.cuts.length)).out - (cutI e.cuts (lastI e.cuts b e.cuts.length)).inn then 1 else 0
def edlZero : Array Value := #[.string ⟨#[]⟩, .int .u8 0, .bool false, .slice none 0 0]
section
variable {e : Edl} {a b : ByteArray} {n : Nat}
end
end
section
open Go.RowKit
def smallB (e : Edl) (n : Nat) : Bool := decide (n ≤ 128 ∧ e.title.size ≤ 800)
def cutA : Cut := ⟨1, ⟨#[65]⟩, 250, 0, 100, 1, 1⟩
def cutB : Cut := ⟨2, ⟨#[66]⟩, 0, 100, 110, 1, 2⟩
def e0 : Edl := ⟨⟨#[]⟩, 3, false, [cutA, cutB]⟩
end
section
open Go.RowKit
def cuts14 : Array Value := #[.int .i64 1, .string ⟨#[65]⟩, .int .i64 250, .int .i64 0, .int .i64 100, .int .i64 1, .int .i64 1, .int .i64 2, .string ⟨#[66]⟩, .int .i64 0, .int .i64 100, .int .i64 110, .int .i64 1, .int .i64 2]
end
section
open Go.RowKit
def SameRel (w1 : World) (n : Nat) (i : Value) (wr : World) : Prop := ∃ k : Nat, k ≤ n ∧ i = .int .i64 k ∧ Ext w1 wr
def goes45 (a b : Cut) : Bool := decide (a.reel = b.reel ∧ a.n = 1 ∧ a.d = 1 ∧ b.n = 1 ∧ b.d = 1 ∧ a.out = b.inn ∧ a.src + a.out - a.inn = b.src)
--@gen goes
set_option maxRecDepth 100000 in
set_option maxHeartbeats 4000000 in
theorem goesOn_any (x y : Cut) (w : World) (hx : x.Sane) (hy : y.Sane) : Calls Tryz.prog 115 #[.agg x.cells, .agg y.cells] w fun en w' => en = .returned (.bool (goes45 x y)) ∧ Ext w w' := by
 obtain ⟨num, rl, src, inn, out, nn, dd⟩ := x
 obtain ⟨num', rl', src', inn', out', nn', dd'⟩ := y
 obtain ⟨sa1, sa2, sa3, sa4, sa5, sa6, sa7, sa8, sa9⟩ := hx
 obtain ⟨sb1, sb2, sb3, sb4, sb5, sb6, sb7, sb8, sb9⟩ := hy
 have HF : Hid (goes45 ⟨num, rl, src, inn, out, nn, dd⟩ ⟨num', rl', src', inn', out', nn', dd'⟩ = decide (rl = rl' ∧ nn = 1 ∧ dd = 1 ∧ nn' = 1 ∧ dd' = 1 ∧ out = inn' ∧ src + out - inn = src')) := rfl
 have HX := Lib.hid (((Ext.refl w).alloc (.cells (Cut.cells ⟨num, rl, src, inn, out, nn, dd⟩) 91)).alloc (.cells (Cut.cells ⟨num', rl', src', inn', out', nn', dd'⟩) 91))
 have HX1 := Lib.hid (HX.out.alloc (.cells #[.int .i64 1, .int .i64 1] 89))
 unfold Cut.cells at *
 dsimp only at *
 by_cases hq0 : rl = rl'
 case neg =>
  have he' : (rl.toList == rl'.toList) = false := by rw [bs_eq]; simpa using hq0
  have HG := Lib.hid (HF.out.trans (decide_eq_false (fun h => hq0 h.1)))
  go_enter Tryz.func115, Tryz.ntmps115
  go_wp2_with fail
  go_ret
  exact ⟨by rw [HG.out]; first | rfl | (simp; done) | (simp; omega), (((Ext.refl w).alloc _).alloc _).alloc _⟩
 have he' : (rl.toList == rl'.toList) = true := by rw [bs_eq]; simpa using hq0
 by_cases hq1 : nn = 1
 case neg =>
  have he2 : (nn == 1) = false := by simpa using hq1
  have HG := Lib.hid (HF.out.trans (decide_eq_false (fun h => hq1 h.2.1)))
  go_enter Tryz.func115, Tryz.ntmps115
  go_wp2_with fail
  go_ret
  exact ⟨by rw [HG.out]; first | rfl | (simp; done) | (simp; omega), (((Ext.refl w).alloc _).alloc _).alloc _⟩
 have he2 : (nn == 1) = true := by simpa using hq1
 by_cases hq2 : dd = 1
 case neg =>
  have he3 : (dd == 1) = false := by simpa using hq2
  have HG := Lib.hid (HF.out.trans (decide_eq_false (fun h => hq2 h.2.2.1)))
  go_enter Tryz.func115, Tryz.ntmps115
  go_wp2_with fail
  go_ret
  exact ⟨by rw [HG.out]; first | rfl | (simp; done) | (simp; omega), (((Ext.refl w).alloc _).alloc _).alloc _⟩
 have he3 : (dd == 1) = true := by simpa using hq2
 by_cases hq3 : nn' = 1
 case neg =>
  have he4 : (nn' == 1) = false := by simpa using hq3
  have HG := Lib.hid (HF.out.trans (decide_eq_false (fun h => hq3 h.2.2.2.1)))
  go_enter Tryz.func115, Tryz.ntmps115
  go_wp2_with fail
  go_ret
  exact ⟨by rw [HG.out]; first | rfl | (simp; done) | (simp; omega), (((Ext.refl w).alloc _).alloc _).alloc _⟩
 have he4 : (nn' == 1) = true := by simpa using hq3
 by_cases hq4 : dd' = 1
 case neg =>
  have he5 : (dd' == 1) = false := by simpa using hq4
  have HG := Lib.hid (HF.out.trans (decide_eq_false (fun h => hq4 h.2.2.2.2.1)))
  go_enter Tryz.func115, Tryz.ntmps115
  go_wp2_with fail
  go_ret
  exact ⟨by rw [HG.out]; first | rfl | (simp; done) | (simp; omega), (((Ext.refl w).alloc _).alloc _).alloc _⟩
 have he5 : (dd' == 1) = true := by simpa using hq4
 by_cases hq5 : out = inn'
 case neg =>
  have he6 : (out == inn') = false := by simpa using hq5
  have HG := Lib.hid (HF.out.trans (decide_eq_false (fun h => hq5 h.2.2.2.2.2.1)))
  go_enter Tryz.func115, Tryz.ntmps115
  go_wp2_with fail
  go_ret
  exact ⟨by rw [HG.out]; first | rfl | (simp; done) | (simp; omega), (((Ext.refl w).alloc _).alloc _).alloc _⟩
 have he6 : (out == inn') = true := by simpa using hq5
 by_cases hq6 : src + out - inn = src'
 case neg =>
  have he7 : (src + out - inn == src') = false := by simpa using hq6
  have HG := Lib.hid (HF.out.trans (decide_eq_false (fun h => hq6 h.2.2.2.2.2.2)))
  go_enter Tryz.func115, Tryz.ntmps115
  go_wp2_with fail
  go_ret
  exact ⟨by rw [HG.out]; first | rfl | (simp; done) | (simp; omega), (((Ext.refl w).alloc _).alloc _).alloc _⟩
 have he7 : (src + out - inn == src') = true := by simpa using hq6
 have HG := Lib.hid (HF.out.trans (decide_eq_true ⟨hq0, hq1, hq2, hq3, hq4, hq5, hq6⟩))
 go_enter Tryz.func115, Tryz.ntmps115
 go_wp2_with fail
 go_ret
 exact ⟨by rw [HG.out]; first | rfl | (simp; done) | (simp; omega), (((Ext.refl w).alloc _).alloc _).alloc _⟩
end
section
open Go.RowKit
def Cut.upto (p c : Cut) : Cut := { p with out := c.out }
def joinStep (out : List Cut) (c : Cut) : List Cut :=
 match out.getLast? with
 | some p => if goes45 p c = true then out.dropLast ++ [p.upto c] else out ++ [c]
 | none => [c]
def joinC (l : List Cut) : List Cut := l.foldl joinStep []
theorem joinC_snoc (l : List Cut) (c : Cut) : joinC (l ++ [c]) = joinStep (joinC l) c := by simp [joinC, List.foldl_append]
theorem joinStep_nil (c : Cut) : joinStep [] c = [c] := rfl
theorem joinStep_go {ps : List Cut} {p c : Cut} (h : goes45 p c = true) : joinStep (ps ++ [p]) c = ps ++ [p.upto c] := by simp [joinStep, h]
theorem joinStep_no {ps : List Cut} {p c : Cut} (h : goes45 p c = false) : joinStep (ps ++ [p]) c = ps ++ [p] ++ [c] := by simp [joinStep, h]
theorem goesB_true {a b : Cut} (h : goes45 a b = true) : a.reel = b.reel ∧ a.n = 1 ∧ a.d = 1 ∧ b.n = 1 ∧ b.d = 1 ∧ a.out = b.inn ∧ a.src + a.out - a.inn = b.src := of_decide_eq_true h
theorem snoc_of {α : Type} : ∀ {l : List α}, l ≠ [] → ∃ ps p, l = ps ++ [p]
 | [], h => absurd rfl h
 | [x], _ => ⟨[], x, rfl⟩
 | x :: y :: l, _ => by
  obtain ⟨ps, p, he⟩ := snoc_of (l := y :: l) (by simp)
  exact ⟨x :: ps, p, by rw [he]; rfl⟩
theorem joinC_ind {P : List Cut → List Cut → Prop} (l : List Cut) (h0 : P [] l)
 (h1 : ∀ c r, P [] (c :: r) → P [c] r) (h2 : ∀ ps p c r, goes45 p c = true → c ∈ l → P (ps ++ [p]) (c :: r) → P (ps ++ [p.upto c]) r) (h3 : ∀ ps p c r, goes45 p c = false → P (ps ++ [p]) (c :: r) → P (ps ++ [p] ++ [c]) r) :
 ∀ k, k ≤ l.length → P (joinC (l.take k)) (l.drop k)
 | 0, _ => by simpa [joinC] using h0
 | k + 1, hk => by
  have ih := joinC_ind l h0 h1 h2 h3 k (by omega)
  have hx : l[k]? = some l[k] := List.getElem?_eq_getElem (by omega)
  rw [take_snoc' l k _ hx, joinC_snoc]
  rw [List.drop_eq_getElem_cons (show k < l.length by omega)] at ih
  by_cases hn : joinC (l.take k) = []
  · rw [hn] at ih ⊢
    rw [joinStep_nil]
    exact h1 _ _ ih
  · obtain ⟨ps, p, he⟩ := snoc_of hn
    rw [he] at ih ⊢
    cases hg : goes45 p l[k]
    · rw [joinStep_no hg]; exact h3 _ _ _ _ hg ih
    · rw [joinStep_go hg]; exact h2 _ _ _ _ hg (List.getElem_mem _) ih
theorem joinC_end {P : List Cut → List Cut → Prop} (l : List Cut) (h : ∀ k, k ≤ l.length → P (joinC (l.take k)) (l.drop k)) : P (joinC l) [] := by
 have := h l.length (Nat.le_refl _)
 rwa [List.take_length, List.drop_length] at this
theorem joinC_all {P : List Cut → List Cut → Prop} (l : List Cut) (h0 : P [] l)
 (h1 : ∀ c r, P [] (c :: r) → P [c] r) (h2 : ∀ ps p c r, goes45 p c = true → c ∈ l → P (ps ++ [p]) (c :: r) → P (ps ++ [p.upto c]) r) (h3 : ∀ ps p c r, goes45 p c = false → P (ps ++ [p]) (c :: r) → P (ps ++ [p] ++ [c]) r) : P (joinC l) [] :=
 joinC_end l (joinC_ind l h0 h1 h2 h3)
theorem joinC_len (l : List Cut) (k : Nat) (hk : k ≤ l.length) : (joinC (l.take k)).length ≤ k := by
 have := joinC_ind (P := fun a b => a.length + b.length ≤ l.length) l (by simp) (fun c r h => by simp at h ⊢; omega) (fun ps p c r _ _ h => by simp at h ⊢; omega) (fun ps p c r _ h => by simp at h ⊢; omega) k hk
 simp at this
 omega
theorem upto_sane {p c : Cut} (h : goes45 p c = true) (hp : p.Sane) (hc : c.Sane) : (p.upto c).Sane := by
 obtain ⟨h1, h2, h3, h4, h5, h6, h7⟩ := goesB_true h
 obtain ⟨a1, a2, a3, a4, a5, a6, a7, a8, a9⟩ := hp
 obtain ⟨b1, b2, b3, b4, b5, b6, b7, b8, b9⟩ := hc
 exact ⟨a1, show p.inn < c.out by omega, b3, a4, a5, a6, a7, a8, a9⟩
theorem joinC_sane {l : List Cut} (hl : ∀ c ∈ l, c.Sane) (k : Nat) (hk : k ≤ l.length) : ∀ c ∈ joinC (l.take k), c.Sane := by
 have := joinC_ind (P := fun a b => (∀ c ∈ a, c.Sane) ∧ ∀ c ∈ b, c.Sane) l ⟨by simp, hl⟩ (fun c r h => ⟨fun x hx => by simp at hx; subst hx; exact h.2 x (by simp), fun x hx => h.2 x (by simp [hx])⟩)
  (fun ps p c r hg _ h => ⟨fun x hx => by
   rcases List.mem_append.1 hx with hx | hx
   · exact h.1 x (by simp [hx])
   · simp at hx; subst hx; exact upto_sane hg (h.1 p (by simp)) (h.2 c (by simp)), fun x hx => h.2 x (by simp [hx])⟩)
  (fun ps p c r _ h => ⟨fun x hx => by
   rcases List.mem_append.1 hx with hx | hx
   · exact h.1 x hx
   · simp at hx; subst hx; exact h.2 x (by simp), fun x hx => h.2 x (by simp [hx])⟩) k hk
 exact this.1
def joinE (e : Edl) : Edl := if edlErr e = 0 then { e with cuts := joinC e.cuts } else ⟨⟨#[]⟩, 0, false, []⟩
theorem joinE_ok {e : Edl} (h : edlErr e = 0) : joinE e = { e with cuts := joinC e.cuts } := if_pos h
theorem joinE_err {e : Edl} (h : edlErr e ≠ 0) : joinE e = ⟨⟨#[]⟩, 0, false, []⟩ := if_neg h
theorem cutsErr_mono {day la la' ou : Int} {r : List Cut} (hl : la' ≤ la) (h : cutsErr day la ou r = 0) : cutsErr day la' ou r = 0 := by
 cases r with
 | nil => rfl
 | cons d r =>
  unfold cutsErr at h ⊢
  split at h
  · omega
  · rename_i h0
    have h1 : singleErr d la' day = 0 := by
     unfold singleErr at h0 ⊢
     by_cases ha : d.num < 1 ∨ 999 < d.num
     · rw [if_pos ha] at h0; omega
     · rw [if_neg ha] at h0 ⊢
       by_cases hb : d.num ≤ la
       · rw [if_pos hb] at h0; omega
       · rw [if_neg hb] at h0
         rw [if_neg (by omega)]
         omega
    rw [if_neg (by omega)]
    exact h
theorem cutsErr_cons {day la ou : Int} {c : Cut} {r : List Cut} : cutsErr day la ou (c :: r) = 0 ↔ singleErr c la day = 0 ∧ ¬ c.inn < ou ∧ cutsErr day c.num c.out r = 0 := by
 rw [cutsErr]
 constructor
 · intro h
   split at h
   · omega
   · split at h
     · omega
     · exact ⟨by omega, by assumption, h⟩
 · rintro ⟨h1, h2, h3⟩
   rw [if_neg (by omega), if_neg h2]
   exact h3
theorem cutErr_zero {c : Cut} {day : Int} : cutErr c day = 0 ↔ nameB c.reel = true ∧ c.inn < c.out ∧ 0 ≤ c.inn ∧ c.out < day ∧ speedB c = true ∧ 0 ≤ c.src ∧ c.src < day ∧ srcAt c (c.out - 1) < day := by
 constructor
 · intro h
   unfold cutErr at h
   repeat' split at h
   all_goals first | omega | skip
   rename_i h1 h2 h3 h4 h5
   exact ⟨by simpa using h1, by omega, by omega, by omega, by simpa using h4, by omega, by omega, by omega⟩
 · rintro ⟨h1, h2, h3, h4, h5, h6, h7, h8⟩
   exact cutErr_ok h1 (by omega) (by omega) h5 (by omega)
theorem single_zero {c : Cut} {la day : Int} : singleErr c la day = 0 ↔ 1 ≤ c.num ∧ c.num ≤ 999 ∧ la < c.num ∧ cutErr c day = 0 := by
 constructor
 · intro h
   unfold singleErr at h
   repeat' split at h
   all_goals first | omega | exact ⟨by omega, by omega, by omega, h⟩
 · rintro ⟨h1, h2, h3, h4⟩
   rw [single_cut (by omega) (by omega)]
   exact h4
theorem srcAt_one {c : Cut} (h1 : c.n = 1) (h2 : c.d = 1) (t : Int) : srcAt c t = c.src + (t - c.inn) := by unfold srcAt; rw [h1, h2, Int.mul_one, Int.ediv_one]
theorem cuts_join {day la ou : Int} {p c : Cut} {r : List Cut} (hg : goes45 p c = true) (h : cutsErr day la ou (p :: c :: r) = 0) : cutsErr day la ou (p.upto c :: r) = 0 := by
 obtain ⟨g1, g2, g3, g4, g5, g6, g7⟩ := goesB_true hg
 rw [cutsErr_cons, cutsErr_cons, single_zero, single_zero, cutErr_zero, cutErr_zero] at h
 obtain ⟨⟨a1, a2, a3, b1, b2, b3, b4, b5, b6, b7, b8⟩, a4, ⟨c1, c2, c3, d1, d2, d3, d4, d5, d6, d7, d8⟩, c4, h5⟩ := h
 rw [srcAt_one g4 g5] at d8
 rw [cutsErr_cons, single_zero, cutErr_zero]
 refine ⟨⟨a1, a2, a3, b1, show p.inn < c.out by omega, b3, d4, b5, b6, b7, ?_⟩, a4, cutsErr_mono (show p.num ≤ c.num by omega) h5⟩
 rw [srcAt_one (c := p.upto c) g2 g3]
 show p.src + (c.out - 1 - p.inn) < day
 omega
theorem cuts_join' {day : Int} {p c : Cut} {r : List Cut} (hg : goes45 p c = true) : ∀ (ps : List Cut) {la ou : Int}, cutsErr day la ou (ps ++ p :: c :: r) = 0 → cutsErr day la ou (ps ++ p.upto c :: r) = 0
 | [], _, _, h => cuts_join hg h
 | d :: ps, la, ou, h => by
  rw [List.cons_append, cutsErr_cons] at h ⊢
  exact ⟨h.1, h.2.1, cuts_join' hg ps h.2.2⟩
theorem join_ok {e : Edl} (h : edlErr e = 0) : edlErr (joinE e) = 0 := by
 rw [joinE_ok h]
 obtain ⟨h1, h2, h3, h4, h5, h6⟩ := edlErr_ok h
 have key := joinC_all (P := fun a b => (a ++ b).length ≤ 64 ∧ cutsErr (dayOf e.rate e.drop) 0 0 (a ++ b) = 0 ∧ ∀ x, x ∈ (a ++ b).map (fun c => c.reel.data.toList) ↔ x ∈ e.names) e.cuts ⟨by simp; omega, by simpa using h5, fun x => by simp [Edl.names]⟩
  (fun c r h => by simpa using h)
  (fun ps p c r hg _ h => by
   refine ⟨by have := h.1; simp at this ⊢; omega, ?_, fun x => ?_⟩
   · have := h.2.1
     rw [List.append_assoc] at this ⊢
     exact cuts_join' hg ps this
   · rw [← h.2.2 x]
     have hr := (goesB_true hg).1
     simp [Cut.upto, hr])
  (fun ps p c r _ h => by simpa using h)
 simp only [List.append_nil] at key
 exact edl_ok h1 h2 h3 (by show ¬ 64 < (joinC e.cuts).length; omega) key.2.1 (by rw [show cnt (Edl.names { e with cuts := joinC e.cuts }) = cnt e.names from cnt_perm key.2.2]; exact h6)
def playC (l : List Cut) (t : Int) : Option (ByteArray × Int) := (findC l t).map fun c => (c.reel, srcAt c t)
def stab : List Cut → Prop
 | p :: c :: r => goes45 p c = false ∧ stab (c :: r)
 | _ => True
end
end Go.Proofs.YtablhmobekmflaaGreatDoor