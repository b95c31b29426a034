/- Texts laid together. -/
import Derived.Test.YtbmblnhfmpolbaaGreatDoorTm09
import Derived.Test.YtbmblnhfmpolbaaGreatDoorTm03
import Derived.Lib.Join
import Derived.Test.YtbmblnhfmpolbaaGreatDoorTm01
import Derived.Maps.Own
import Derived.Maps.OwnOps
import Derived.Maps.OwnSet
import Derived.Maps.Views
import Derived.Test.YtbmblnhfmpolbaaGreatDoorTm06
set_option linter.unusedVariables false
set_option linter.unusedSimpArgs false
namespace Go.Proofs.YtbmblnhfmpolbaaGreatDoor
section
open Go.RowKit
theorem flat_mem_len {α : Type} {f : α → List UInt8} : ∀ {l : List α} {a : α}, a ∈ l → (f a).length ≤ (l.flatMap f).length
 | x :: l, a, h => by
  rw [List.flatMap_cons, List.length_append]
  rcases List.mem_cons.1 h with rfl | h
  · omega
  · have := flat_mem_len (f := f) h; omega
theorem tk_sm {t : Tk} (h : t.bytes.length ≤ 268435456) : TkSm t := by
 have ha : ∀ al : List (ByteArray × ByteArray), (al.flatMap attrL).length ≤ 268435456 → ∀ a ∈ al, a.2.size ≤ 268435456 := fun al hl a hm => by
  have h1 := flat_mem_len (f := attrL) hm
  have h2 := (esc_len a.2.data.toList).1
  rw [size_toList] at h2
  have h3 : (esc a.2.data.toList).length ≤ (attrL a).length := by
   unfold attrL
   simp only [List.length_cons, List.length_append]
   omega
  omega
 cases t with
 | txt s =>
  show s.size ≤ _
  have := (esc_len s.data.toList).1
  rw [size_toList] at this
  have h2 : (esc s.data.toList).length ≤ 268435456 := h
  omega
 | fin n => exact trivial
 | beg n al =>
  refine ha al ?_
  simp only [Tk.bytes, List.length_cons, List.length_append] at h
  omega
 | emp n al =>
  refine ha al ?_
  simp only [Tk.bytes, List.length_cons, List.length_append] at h
  omega
theorem tok_agg {w : World} {L : Nat} {v : Value} {t : Tk} (h : TokAt w L v t) : ∃ k n vs x, v = .agg (tokC k n vs x) ∧ vs.oneCell' = true := by
 cases t with
 | txt s => exact ⟨_, _, _, _, h, rfl⟩
 | fin n => exact ⟨_, _, _, _, h, rfl⟩
 | beg n al => obtain ⟨vs, hv, ho⟩ := h; exact ⟨_, _, _, _, hv, own_one ho⟩
 | emp n al => obtain ⟨vs, hv, ho⟩ := h; exact ⟨_, _, _, _, hv, own_one ho⟩
theorem tok_ext {w w1 : World} {L : Nat} {v : Value} {t : Tk} (h : TokAt w L v t) (k : Ext w w1) : TokAt w1 L v t := by
 cases t with
 | txt s => exact h
 | fin n => exact h
 | beg n al => obtain ⟨vs, hv, ho⟩ := h; exact ⟨vs, hv, own_ext ho k⟩
 | emp n al => obtain ⟨vs, hv, ho⟩ := h; exact ⟨vs, hv, own_ext ho k⟩
theorem tk_fit {p q : Ps} {t : Tk} {l : List Tk} (h : Runs p (t :: l) q) : TkOk p t ∧ TkFit t (tkBytes l) ∧ Runs (p.step t) l q ∧ 1 ≤ t.bytes.length := by
 have h' := h
 cases h with
 | cons h1 h2 =>
  refine ⟨h1, ?_, h2, ?_⟩
  · cases t with
    | txt s => exact ⟨h1.2.2.2, h'.tag⟩
    | fin n => exact h1.2
    | beg n al => exact h1.2
    | emp n al => exact h1.2
  · cases t with
    | txt s =>
     have := (esc_len s.data.toList).1
     rw [size_toList] at this
     have h3 := h1.2.2.2
     show 1 ≤ (esc s.data.toList).length
     omega
    | fin n => simp [Tk.bytes]
    | beg n al => simp [Tk.bytes]
    | emp n al => simp [Tk.bytes]
def PrRel (w : World) (s : ByteArray) (l : List Nd) (v : Value) (wr : World) : Prop :=
 ∃ (i : Nat) (p : Ps) (rest : List Tk) (j : Bool), v = .int .i64 i ∧ i ≤ s.size ∧ s.data.toList.drop i = tkBytes rest ∧ Runs p rest ⟨l, [], j⟩ ∧ PsAt wr w.heap.size w.heap.size p ∧ Ext w wr
set_option maxHeartbeats 8000000 in
set_option maxRecDepth 100000 in
theorem Parse_ok (l : List Nd) (s : ByteArray) (w : World) (hg : GoodL l) (hsl : s.data.toList = printL l) (hsz : s.size ≤ 262144) (hE : EntW w) (hV : Env w) :
 Calls Tryz.prog 10 #[.string s] w fun e w' => ∃ v, e = .returned (.tuple #[v, .slice none 0 0]) ∧ NodesOwn w' w.heap.size v l ∧ Ext w w' := by
 obtain ⟨j0, hrun⟩ := print_runs hg
 have HNe := Lib.hid hg.ne
 have HRun := Lib.hid hrun
 have HSl := Lib.hid hsl
 have HE := Lib.hid hE
 have HV := Lib.hid hV
 have d0 : decide (262144 < s.size) = false := decide_eq_false (by omega)
 have d0' : ¬ 262144 < s.size := by omega
 clear hg hrun hsl hE hV
 go_enter Tryz.func10, Tryz.ntmps10
 go_wp2_with fail
 go_loopw [5] (fun v wr => PrRel w s l v wr) (fun v _ => s.size - (intOf v).toNat)
 case atStart =>
  exact ⟨0, ⟨[], [], false⟩, toks [] l, j0, rfl, Nat.zero_le _, by rw [List.drop_zero]; exact HSl.out, HRun.out, ⟨_, _, Blk.new w _ _, NodesOwn.nil _ _, StrsOwn.nil _ _, Nat.le_refl _⟩, (Ext.refl w).alloc _⟩
 case round =>
  obtain ⟨i, p, rest, j, rfl, hi, hd, hr, hp, hx⟩ := hrel
  have HP := Lib.hid hp
  have HX := Lib.hid hx
  clear hp hx
  cases rest with
  | nil =>
   have hlen := congrArg List.length hd
   rw [List.length_drop, size_toList] at hlen
   have hii : i = s.size := by have : (tkBytes ([] : List Tk)).length = 0 := rfl; omega
   subst hii
   cases hr
   obtain ⟨vn, vo, hB, hN, hO, -⟩ := HP.out
   have hN' := hN
   obtain ⟨hs0, hN1, -, -⟩ := hN'
   obtain ⟨An, cn, rfl, -, -⟩ := own_len hN1
   obtain ⟨Ao, co, rfl, -, -⟩ := own_len hO
   have hc := fun o => hB.cell o
   have hl0 : ((l.length : Int) == 0) = false := beq_eq_false_iff_ne.2 (by have := List.length_pos_iff.2 HNe.out; omega)
   have HN := Lib.hid hN
   clear hN hN1 hO hB hd hlen HSl HRun
   go_wp2_with fail
   go_ret2
   exact ⟨_, rfl, HN.out, HX.out⟩
  | cons t rest =>
   obtain ⟨hok, hfit, hr2, hb1⟩ := tk_fit hr
   have hd2 : s.data.toList.drop i = t.bytes ++ tkBytes rest := hd
   have hroom := at_room hi hd2
   have hd3 := at_append hd2
   have hex : (s.extract i s.size).data.toList = t.bytes ++ tkBytes rest := by
    rw [ByteArray.data_extract, Array.toList_extract]
    simp only [List.extract_eq_take_drop]
    rw [hd2, List.take_of_length_le (by rw [← hd2, List.length_drop, size_toList]; exact Nat.le_refl _)]
   have hez : (s.extract i s.size).size ≤ 4294967296 := by rw [ByteArray.size_extract]; omega
   have HNx := Lib.hid (next_any (s.extract i s.size) t (tkBytes rest) wr hez hex hfit)
   have HTk := Lib.hid (fun v w3 L2 first (hx : Ext wr w3) (hv : TokAt w3 L2 v t) => take_any w.heap.size w.heap.size p t v L2 first w3 (HP.out.ext hx) hok hv (tk_sm (by omega)) (HE.out.ext (HX.out.trans hx)) (HV.out.ext (HX.out.trans hx)) (HX.out.trans hx).size)
   have HD3 := Lib.hid hd3
   have HR2 := Lib.hid hr2
   obtain ⟨m, hm⟩ : ∃ m, m = t.bytes.length := ⟨_, rfl⟩
   unfold NextPost at HNx
   rw [← hm] at HNx HD3 hroom hb1
   have hwz := HX.out.size
   clear hd hd2 hd3 hex hez hr hr2 hok hfit hm HSl HRun
   go_wp2_with fail
   refine HNx.out.mono ?_
   rintro e w2 ⟨v, rfl, htok, hx2⟩
   have HTo := Lib.hid htok
   obtain ⟨k, n, vs, x, rfl, h1c⟩ := tok_agg htok
   have HX2 := Lib.hid hx2
   clear htok hx2
   have hlt : i < s.size := by omega
   have HZt : Hid (Blk (w2.alloc (.cells #[.int .i64 0, .string ⟨#[]⟩, .slice none 0 0, .string ⟨#[]⟩] 106)) w2.heap.size 106 #[.int .i64 0, .string ⟨#[]⟩, .slice none 0 0, .string ⟨#[]⟩]) := Blk.new _ _ _
   have HZp : Hid (Blk (putB (w2.alloc (.cells #[.int .i64 0, .string ⟨#[]⟩, .slice none 0 0, .string ⟨#[]⟩] 106)) w2.heap.size 106 (tokC k n vs x)) w2.heap.size 106 (tokC k n vs x)) := HZt.out.put _
   have HX23 : Hid (Ext w2 (putB (w2.alloc (.cells #[.int .i64 0, .string ⟨#[]⟩, .slice none 0 0, .string ⟨#[]⟩] 106)) w2.heap.size 106 (tokC k n vs x))) := ((Ext.refl w2).alloc _).put (Nat.le_refl _) _ _
   have HTk3 := Lib.hid (HTk.out _ _ _ ((i : Int) == 0) (HX2.out.trans HX23.out) (tok_ext HTo.out HX23.out))
   have HX3 := Lib.hid (HX.out.trans (HX2.out.trans HX23.out))
   go_wp2_with (first | (refine wpList_loadB rfl 106 (.tmp 6) rfl w2.heap.size 106 _ _ (by exact rfl) (by exact HZp.out) Tryz.underlying106 rfl (by exact size_tokI) ?_) | (refine wpList_storeB rfl 106 (.tmp 6) (.tmp 26) rfl w2.heap.size 106 _ (tokC k n vs x) (by exact rfl) (by exact rfl) (by exact HZt.out) (by exact rfl) (by exact size_tokI) (by simp [Value.oneCell', tokC]; exact h1c) ?_))
   refine HTk3.out.mono ?_
   rintro e w4 ⟨rfl, hp4, hx4⟩
   have HP4 := Lib.hid hp4
   have HX4 := Lib.hid (HX3.out.below hx4 (Nat.le_refl _))
   clear hp4 hx4
   go_wp2_with fail
   exact ⟨⟨i + m, p.step t, rest, j, by go_num, hroom, HD3.out, HR2.out, HP4.out, HX4.out⟩, by simp only [intOf]; omega⟩
end
section
open Go.RowKit
def Ev.frames (e : Ev) : Int := if spansB e.inn e.out = true then e.out - e.inn else 0
def lenSum : Int → List Int → Int
 | s, [] => s
 | s, n :: l => if n < 0 then -1 else lenSum (s + n) l
def Ev.len (e : Ev) : Int := lenSum (max ((e.rows.length : Int) - 1) 0) (e.rows.map rowLen)
def Ev.bytes (e : Ev) : Nat := (e.rows.map rowBytes).sum
theorem rowLen_le : ∀ l : Row, rowLen l ≤ rowBytes l
 | [] => by simp [rowLen, rowBytes]
 | r :: l => by
  have h1 := rowLen_le l
  have h2 := clen_le r.text
  rw [rowBytes_cons]
  unfold rowLen
  split
  · omega
  · split <;> omega
def sumNat (l : List Nat) : Nat := l.sum
theorem sum_take_le (l : List Row) (k : Nat) (r : Row) (h : l[k]? = some r) : ((l.take k).map rowBytes).sum + rowBytes r ≤ (l.map rowBytes).sum := by
 have e := List.take_append_drop k l
 have h1 : (l.map rowBytes).sum = ((l.take k).map rowBytes).sum + ((l.drop k).map rowBytes).sum := by
  conv => lhs; rw [← e]
  rw [List.map_append, List.sum_append]
 rw [h1, drop_at l k r h]
 simp
def ELenRel (n : Nat) (e : Ev) (v i : Value) : Prop :=
 ∃ (k : Nat) (s : Int), k ≤ n ∧ i = .int .i64 k ∧ v = .int .i64 s ∧ 0 ≤ s ∧ s ≤ n + ((e.rows.take k).map rowBytes).sum ∧ e.len = lenSum s ((e.rows.map rowLen).drop k)
set_option maxRecDepth 100000 in
set_option maxHeartbeats 2000000 in
theorem ELen_any (e : Ev) (A : Option Addr) (n c : Nat) (w : World) (hE : Env w) (he : EvAt w e A n c) (hb : ∀ r ∈ e.rows, RowSmall r) (hby : e.bytes ≤ 1099511627776) :
 Calls Tryz.prog 120 #[.agg (e.cells A n c)] w fun en w' => en = .returned (.int .i64 e.len) ∧ Ext w w' := by
 have hn24 : n * 24 ≤ 140737488355328 := by have := he.2; omega
 have HL := Lib.hid (fun w hE he => lens_any e A n c w hE he hb)
 have HA := Lib.hid he
 have HLn := Lib.hid he.len
 have HEn := Lib.hid hE
 clear he hE hb
 unfold Ev.cells at HL ⊢
 go_enter Tryz.func120, Tryz.ntmps120
 go_wp2_with fail
 refine (HL.out _ (HEn.out.ext ((Ext.refl w).alloc _)) (HA.out.ext ((Ext.refl w).alloc _))).mono ?_
 rintro en w1 ⟨A1, n1, c1, rfl, hints, hnc1, hx1⟩
 have hxw1 : Ext w w1 := ((Ext.refl w).alloc _).trans hx1
 obtain rfl : n = n1 := by rw [← HLn.out, ← hints.len, List.length_map]
 have HI := Lib.hid hints
 clear hints
 go_wp2_with fail
 go_loop [3, 14] (fun v i => ELenRel n e v i) (fun _ i => n - (intOf i).toNat)
 case atStart => exact ⟨0, _, Nat.zero_le _, rfl, rfl, by omega, by simp; omega, by unfold Ev.len; rw [HLn.out]; rfl⟩
 case round =>
  obtain ⟨k, s, hk, rfl, rfl, hs0, hs1, hp⟩ := hrel
  have HP := Lib.hid hp
  clear hp
  by_cases hlt : k < n
  · obtain ⟨b, off, x, rfl, hxx, hcell⟩ := HI.out.cell hlt
    have HD := Lib.hid (drop_at _ k x hxx)
    rw [List.getElem?_map] at hxx
    obtain ⟨r, hr, rfl⟩ := Option.map_eq_some_iff.1 hxx
    have h1 := sum_take_le e.rows k r hr
    have h2 := rowLen_le r
    have h3 : Hid (((e.rows.take (k + 1)).map rowBytes).sum = ((e.rows.take k).map rowBytes).sum + rowBytes r) := by
     show _ = _
     rw [take_snoc' e.rows k r hr, List.map_append, List.sum_append]
     simp
    have hby' : (e.rows.map rowBytes).sum ≤ 1099511627776 := hby
    have hs2 : s + rowLen r ≤ 4611686018427387904 := by omega
    have hs3 : s ≤ 4611686018427387904 := by omega
    clear hr hxx h1 hby'
    by_cases hneg : rowLen r < 0
    · go_wp2_with fail
      go_ret
      exact ⟨ret_int (by rw [HP.out, HD.out, lenSum, if_pos (by omega)]), hxw1⟩
    · go_wp2_with fail
      refine ⟨⟨k + 1, s + rowLen r, by omega, by go_num, rfl, by omega, ?_, ?_⟩, by simp [intOf]; omega⟩
      · rw [h3.out]; omega
      · rw [HP.out, HD.out, lenSum, if_neg (by omega)]
  · have HD : Hid ((e.rows.map rowLen).drop k = []) := List.drop_eq_nil_of_le (by rw [List.length_map, HLn.out]; omega)
    go_wp2_with fail
    go_ret
    exact ⟨ret_int (by rw [HP.out, HD.out]; rfl), hxw1⟩
def Ev.text (e : Ev) : List UInt8 := Lib.join (e.rows.map rowText) [10]
def EPlainRel (w : World) (bx : Array Value) (n : Nat) (rows : List Row) (v i : Value) (wr : World) : Prop :=
 ∃ k : Nat, k ≤ n ∧ i = .int .i64 k ∧ Ext (w.alloc (.cells bx 60)) wr ∧ wr.ownsRow (w.heap.size + 1) 9 1 v k (((rows.take k).map textOf).flatMap fun x => [Value.string x])
end
section
open Go.RowKit
def RegsSmall (l : List Reg) : Prop := ∀ r ∈ l, r.name.size ≤ 9223372036854775807
theorem findR_small {l : List Reg} {nm : ByteArray} (h : RegsSmall l) : ((findR l nm).getD Reg.zero).name.size ≤ 9223372036854775807 := by
 unfold findR
 split
 · show ByteArray.empty.size ≤ _
   decide
 · cases hf : l.find? (fun r => r.name.toList == nm.toList) with
   | none => show ByteArray.empty.size ≤ _; decide
   | some r => exact h r (List.mem_of_find?_eq_some hf)
def Ev.spotsErr (e : Ev) (regs : List Reg) : Int :=
 match findR regs e.region with
 | none => 6
 | some r => if (e.rows.map rowLen).any (fun n => decide (n < 0)) = true then 10 else r.place (e.rows.map rowLen)
def Ev.spots (e : Ev) (regs : List Reg) : List Spot :=
 if e.spotsErr regs = 0 then ((findR regs e.region).getD Reg.zero).spots (((findR regs e.region).getD Reg.zero).top' e.rows.length) 0 (e.rows.map rowLen) else []
def SpotsPost (e : Ev) (regs : List Reg) (w : World) (en : Ending) (w' : World) : Prop :=
 ∃ A n c, en = .returned (.tuple #[.slice A n c, .int .i64 (e.spotsErr regs)]) ∧ SpotsAt w' A n (e.spots regs) ∧ n ≤ c ∧ Ext w w'
def NegRel (n : Nat) (l : List Int) (i : Value) : Prop := ∃ k : Nat, k ≤ n ∧ i = .int .i64 k ∧ l.any (fun n => decide (n < 0)) = (l.drop k).any (fun n => decide (n < 0))
end
section
open Go.RowKit
def rowsErr : List Row → Int
 | [] => 0
 | r :: l => if rowErrE r = 0 then rowsErr l else rowErrE r
def Ev.err (e : Ev) (regs : List Reg) : Int :=
 if e.id < 1 ∨ 1099511627776 < e.id ∨ spansB e.inn e.out = false then 2
 else match findR regs e.region with
 | none => 6
 | some r =>
  if noKind e.kind = true then 3
  else if e.speaker.toList.isEmpty = false ∧ nameB e.speaker = false then 5
  else if e.rows.length = 0 ∨ 4 < e.rows.length then 9
  else if rowsErr e.rows ≠ 0 then rowsErr e.rows
  else r.place (e.rows.map rowLen)
def ChkRel (w : World) (n : Nat) (rows : List Row) (i : Value) (wr : World) : Prop := ∃ k : Nat, k ≤ n ∧ i = .int .i64 k ∧ Ext w wr ∧ rowsErr rows = rowsErr (rows.drop k)
set_option maxRecDepth 100000 in
set_option maxHeartbeats 8000000 in
theorem ECheck_any (e : Ev) (A : Option Addr) (n c : Nat) (A2 : Option Addr) (n2 c2 : Nat) (regs : List Reg) (w : World) (hE : Env w) (he : EvAt w e A n c) (hb : EvSmall e) (hr : RegsAt w A2 n2 regs) (hr2 : n2 ≤ 9223372036854775807) (hrs : RegsSmall regs) :
 Calls Tryz.prog 38 #[.agg (e.cells A n c), .slice A2 n2 c2] w fun en w' => en = .returned (.int .i64 (e.err regs)) ∧ Ext w w' := by
 have hn24 : n * 24 ≤ 140737488355328 := by have := he.2; omega
 have HL := Lib.hid (fun w hE he => lens_any e A n c w hE he hb.2.2)
 have HA := Lib.hid he
 have HLn := Lib.hid he.len
 have HEn := Lib.hid hE
 have HR := Lib.hid hr
 have HSm := Lib.hid hb.2.2
 have hspk := hb.2.1
 have hsm := findR_small (nm := e.region) hrs
 clear he hE hr hb
 unfold Ev.cells at HL ⊢
 have HPl := Lib.hid (fun A n c lens w hl hn => Place_any ((findR regs e.region).getD Reg.zero) A n c lens w hsm hl hn)
 go_enter Tryz.func38, Tryz.ntmps38
 go_wp2_with fail
 refine (Find_any A2 n2 c2 regs e.region _ (HR.out.ext ((Ext.refl w).alloc _)) hr2).mono ?_
 rintro en w1 ⟨rfl, hx1⟩
 have HB1 := Lib.hid (Blk.ext (Blk.new w _ _) hx1)
 have hxw1 : Ext w w1 := ((Ext.refl w).alloc _).trans hx1
 have hblt : w.heap.size < w1.heap.size := HB1.out.lt
 have hbne : w.heap.size ≠ w1.heap.size := by omega
 have hc1 := fun o => HB1.out.cell o
 generalize hfr : (findR regs e.region).getD Reg.zero = r at *
 have HFr := Lib.hid hfr
 clear hfr hsm
 unfold Reg.val at HPl ⊢
 by_cases h1 : e.id < 1
 · go_wp2_with fail
   go_ret
   exact ⟨ret_int (by unfold Ev.err; rw [if_pos (by omega)]), hxw1.alloc _⟩
 · by_cases h2 : 1099511627776 < e.id
   · go_wp2_with fail
     go_ret
     exact ⟨ret_int (by unfold Ev.err; rw [if_pos (by omega)]), hxw1.alloc _⟩
   · go_wp2_with fail
     refine (spans_any _ _ _).mono ?_
     rintro en w2 ⟨rfl, hx2⟩
     have hxw2 : Ext w w2 := (hxw1.alloc _).trans hx2
     have HBa := Lib.hid ((HB1.out.alloc (.cells #[.string r.name, .int .i64 r.top, .int .i64 r.height, .int .i64 r.left, .int .i64 r.width, .int .u8 r.align, .bool r.bottom] 53)).ext hx2)
     have HBr := Lib.hid (Blk.ext (Blk.new w1 _ _) hx2)
     clear hc1
     have hca := fun o => HBa.out.cell o
     cases hs : spansB e.inn e.out
     · have HSp := Lib.hid hs
       clear hs
       go_wp2_with fail
       go_ret
       exact ⟨ret_int (by unfold Ev.err; rw [if_pos (.inr (.inr HSp.out))]), hxw2⟩
     · have HSp := Lib.hid hs
       clear hs
       have HE1 : Hid (¬ (e.id < 1 ∨ 1099511627776 < e.id ∨ spansB e.inn e.out = false)) := by
        show ¬ _
        rw [HSp.out]
        simp
        omega
       cases hf : findR regs e.region with
       | none =>
        have HF : Hid (e.err regs = 6) := by show _ = _; unfold Ev.err; rw [if_neg HE1.out, hf]
        clear hf
        simp only [Option.isSome_none]
        go_wp2_with fail
        go_ret
        exact ⟨ret_int HF.out.symm, hxw2⟩
       | some r' =>
        obtain rfl : r' = r := by have := HFr.out; rw [hf] at this; exact this
        have HF : Hid (e.err regs = if noKind e.kind = true then 3 else if e.speaker.toList.isEmpty = false ∧ nameB e.speaker = false then 5 else if e.rows.length = 0 ∨ 4 < e.rows.length then 9 else if rowsErr e.rows ≠ 0 then rowsErr e.rows else r'.place (e.rows.map rowLen)) := by
         show _ = _; unfold Ev.err; rw [if_neg HE1.out, hf]
        clear hf HE1
        simp only [Option.isSome_some]
        go_wp2_with fail
        refine (KindName_any _ _).mono ?_
        rintro en w3 ⟨s, rfl, hke, hx3⟩
        have hxw3 : Ext w w3 := hxw2.trans hx3
        have HBa3 := Lib.hid (HBa.out.ext hx3)
        have HBr3 := Lib.hid (HBr.out.ext hx3)
        clear hca
        have hca := fun o => HBa3.out.cell o
        cases hnk : noKind e.kind
        · rw [hnk] at hke
          have HNk := Lib.hid hnk
          clear hnk
          cases hse : e.speaker.toList.isEmpty
          · go_wp2_with fail
            refine (Name_any _ _ hspk).mono ?_
            rintro en w4 ⟨rfl, rfl⟩
            cases hnm : nameB e.speaker
            · have HNm := Lib.hid hnm
              clear hnm
              go_wp2_with fail
              go_ret
              exact ⟨ret_int (by rw [HF.out, if_neg (by rw [HNk.out]; simp), if_pos ⟨hse, HNm.out⟩]), hxw3⟩
            · have HF2 : Hid (e.err regs = if e.rows.length = 0 ∨ 4 < e.rows.length then 9 else if rowsErr e.rows ≠ 0 then rowsErr e.rows else r'.place (e.rows.map rowLen)) := by
               show _ = _; rw [HF.out, if_neg (by rw [HNk.out]; simp), if_neg (by rw [hnm]; simp)]
              clear hnm
              by_cases h5 : n = 0
              · subst h5
                go_wp2_with fail
                go_ret
                exact ⟨ret_int (by rw [HF2.out, if_pos (.inl HLn.out)]), hxw3⟩
              · have h5' : ((n : Int) == 0) = false := by simp; omega
                by_cases h6 : 4 < n
                · have h6' : (4 : Int) < (n : Int) := by omega
                  clear h5
                  go_wp2_with fail
                  go_ret
                  exact ⟨ret_int (by rw [HF2.out, if_pos (.inr (by rw [HLn.out]; exact h6))]), hxw3⟩
                · have h6' : (n : Int) ≤ 4 := by omega
                  have HF3 : Hid (e.err regs = if rowsErr e.rows ≠ 0 then rowsErr e.rows else r'.place (e.rows.map rowLen)) := by show _ = _; rw [HF2.out, if_neg (by rw [HLn.out]; omega)]
                  clear HF2 h5 h6
                  go_wp2_with fail
                  clear hca
                  go_loopw [66] (fun i wr => ChkRel w3 n e.rows i wr) (fun i _ => n - (intOf i).toNat)
                  case atStart => exact ⟨0, Nat.zero_le _, rfl, Ext.refl _, rfl⟩
                  case round =>
                   obtain ⟨k, hk, rfl, hx, hp⟩ := hrel
                   have HP := Lib.hid hp
                   clear hp
                   have hxw : Ext w wr := hxw3.trans hx
                   by_cases hlt : k < n
                   · obtain ⟨b, off, rw_, rfl, hrw, A', n', c', hcell, hnc, hc40, hruns⟩ := (HA.out.ext hxw).1.at_ hlt
                     simp only [Nat.mul_one] at hcell
                     have HRu := Lib.hid hruns
                     have HD := Lib.hid (drop_at e.rows k rw_ hrw)
                     have hsmr := HSm.out rw_ (List.mem_of_getElem? hrw)
                     have HSr := Lib.hid hsmr
                     clear hrw hruns hsmr
                     go_wp2_with fail
                     refine (row_any A' n' c' rw_ _ (HEn.out.ext (hxw.alloc _)) (HRu.out.ext ((Ext.refl wr).alloc _)) HSr.out.2 (by omega) HSr.out.1).mono ?_
                     rintro en w4 ⟨rfl, hx4⟩
                     by_cases hre : rowErrE rw_ = 0
                     · have hre' : (rowErrE rw_ != 0) = false := by simp [hre]
                       have HP2 : Hid (rowsErr e.rows = rowsErr (e.rows.drop (k + 1))) := by show _ = _; rw [HP.out, HD.out, rowsErr, if_pos hre]
                       clear hre
                       go_wp2_with fail
                       exact ⟨⟨k + 1, by omega, by go_num, (hx.alloc _).trans hx4, HP2.out⟩, by simp [intOf]; omega⟩
                     · have hre' : (rowErrE rw_ != 0) = true := by simp [hre]
                       have HP2 : Hid (rowsErr e.rows = rowErrE rw_) := by show _ = _; rw [HP.out, HD.out, rowsErr, if_neg hre]
                       have HNe := Lib.hid hre
                       clear hre
                       go_wp2_with fail
                       go_ret
                       exact ⟨ret_int (by rw [HF3.out, HP2.out, if_pos HNe.out]), (hxw.alloc _).trans hx4⟩
                   · have HD : Hid (e.rows.drop k = []) := List.drop_eq_nil_of_le (by rw [HLn.out]; omega)
                     have HF4 : Hid (e.err regs = r'.place (e.rows.map rowLen)) := by show _ = _; rw [HF3.out, HP.out, HD.out, if_neg (by simp [rowsErr])]
                     have y0 := (HBa3.out.ext hx).cell
                     have y1 := (HBr3.out.ext hx).cell
                     have y00 := y0 0
                     have y01 := y0 1
                     have y02 := y0 2
                     have y03 := y0 3
                     have y04 := y0 4
                     have y05 := y0 5
                     have y06 := y0 6
                     have y10 := y1 0
                     have y11 := y1 1
                     have y12 := y1 2
                     have y13 := y1 3
                     have y14 := y1 4
                     have y15 := y1 5
                     have y16 := y1 6
                     simp at y00 y01 y02 y03 y04 y05 y06 y10 y11 y12 y13 y14 y15 y16
                     clear y0 y1
                     go_wp2_with fail
                     go_region_held3 (fun w' => w'.cell? ⟨w.heap.size, 0, none⟩ = some (.int .i64 e.id) ∧ w'.cell? ⟨w.heap.size, 1, none⟩ = some (.int .i64 e.inn) ∧ w'.cell? ⟨w.heap.size, 2, none⟩ = some (.int .i64 e.out) ∧ w'.cell? ⟨w.heap.size, 3, none⟩ = some (.string e.region) ∧ w'.cell? ⟨w.heap.size, 4, none⟩ = some (.int .u8 e.kind) ∧ w'.cell? ⟨w.heap.size, 5, none⟩ = some (.string e.speaker) ∧ w'.cell? ⟨w.heap.size, 6, none⟩ = some (.slice A n c) ∧
                      w'.cell? ⟨w1.heap.size, 0, none⟩ = some (.string r'.name) ∧ w'.cell? ⟨w1.heap.size, 1, none⟩ = some (.int .i64 r'.top) ∧ w'.cell? ⟨w1.heap.size, 2, none⟩ = some (.int .i64 r'.height) ∧ w'.cell? ⟨w1.heap.size, 3, none⟩ = some (.int .i64 r'.left) ∧ w'.cell? ⟨w1.heap.size, 4, none⟩ = some (.int .i64 r'.width) ∧ w'.cell? ⟨w1.heap.size, 5, none⟩ = some (.int .u8 r'.align) ∧ w'.cell? ⟨w1.heap.size, 6, none⟩ = some (.bool r'.bottom))
                      (first | go_keep | (go_split_ands; refine ⟨?_, ?_, ?_, ?_, ?_, ?_, ?_, ?_, ?_, ?_, ?_, ?_, ?_, ?_⟩ <;> (apply hx6.cell; assumption)) | (go_split_ands; refine ⟨?_, ?_, ?_, ?_, ?_, ?_, ?_, ?_, ?_, ?_, ?_, ?_, ?_, ?_⟩ <;> (apply hx5.cell; assumption)))
                      (first | (go_at_call 82; refine (HL.out _ (HEn.out.ext (by exact hxw.drew)) (HA.out.ext (by exact hxw.drew))).mono ?_; rintro en w5 ⟨A1, n1, c1, rfl, hints, hnc1, hx5⟩) | (go_at_call 81; refine (HPl.out _ _ _ _ _ hints (by have := hints.len; rw [List.length_map, HLn.out] at this; omega)).mono ?_; rintro en w6 ⟨A3, n3, c3, rfl, hsp, hnc3, hx6⟩))
                     go_wp2_with fail
                     go_ret
                     exact ⟨ret_int HF4.out.symm, (hxw.drew.trans hx5).trans hx6⟩
          · have HF2 : Hid (e.err regs = if e.rows.length = 0 ∨ 4 < e.rows.length then 9 else if rowsErr e.rows ≠ 0 then rowsErr e.rows else r'.place (e.rows.map rowLen)) := by
             show _ = _; rw [HF.out, if_neg (by rw [HNk.out]; simp), if_neg (by rw [hse]; simp)]
            by_cases h5 : n = 0
            · subst h5
              go_wp2_with fail
              go_ret
              exact ⟨ret_int (by rw [HF2.out, if_pos (.inl HLn.out)]), hxw3⟩
            · have h5' : ((n : Int) == 0) = false := by simp; omega
              by_cases h6 : 4 < n
              · have h6' : (4 : Int) < (n : Int) := by omega
                clear h5
                go_wp2_with fail
                go_ret
                exact ⟨ret_int (by rw [HF2.out, if_pos (.inr (by rw [HLn.out]; exact h6))]), hxw3⟩
              · have h6' : (n : Int) ≤ 4 := by omega
                have HF3 : Hid (e.err regs = if rowsErr e.rows ≠ 0 then rowsErr e.rows else r'.place (e.rows.map rowLen)) := by show _ = _; rw [HF2.out, if_neg (by rw [HLn.out]; omega)]
                clear HF2 h5 h6
                go_wp2_with fail
                clear hca
                go_loopw [66] (fun i wr => ChkRel w3 n e.rows i wr) (fun i _ => n - (intOf i).toNat)
                case atStart => exact ⟨0, Nat.zero_le _, rfl, Ext.refl _, rfl⟩
                case round =>
                 obtain ⟨k, hk, rfl, hx, hp⟩ := hrel
                 have HP := Lib.hid hp
                 clear hp
                 have hxw : Ext w wr := hxw3.trans hx
                 by_cases hlt : k < n
                 · obtain ⟨b, off, rw_, rfl, hrw, A', n', c', hcell, hnc, hc40, hruns⟩ := (HA.out.ext hxw).1.at_ hlt
                   simp only [Nat.mul_one] at hcell
                   have HRu := Lib.hid hruns
                   have HD := Lib.hid (drop_at e.rows k rw_ hrw)
                   have hsmr := HSm.out rw_ (List.mem_of_getElem? hrw)
                   have HSr := Lib.hid hsmr
                   clear hrw hruns hsmr
                   go_wp2_with fail
                   refine (row_any A' n' c' rw_ _ (HEn.out.ext (hxw.alloc _)) (HRu.out.ext ((Ext.refl wr).alloc _)) HSr.out.2 (by omega) HSr.out.1).mono ?_
                   rintro en w4 ⟨rfl, hx4⟩
                   by_cases hre : rowErrE rw_ = 0
                   · have hre' : (rowErrE rw_ != 0) = false := by simp [hre]
                     have HP2 : Hid (rowsErr e.rows = rowsErr (e.rows.drop (k + 1))) := by show _ = _; rw [HP.out, HD.out, rowsErr, if_pos hre]
                     clear hre
                     go_wp2_with fail
                     exact ⟨⟨k + 1, by omega, by go_num, (hx.alloc _).trans hx4, HP2.out⟩, by simp [intOf]; omega⟩
                   · have hre' : (rowErrE rw_ != 0) = true := by simp [hre]
                     have HP2 : Hid (rowsErr e.rows = rowErrE rw_) := by show _ = _; rw [HP.out, HD.out, rowsErr, if_neg hre]
                     have HNe := Lib.hid hre
                     clear hre
                     go_wp2_with fail
                     go_ret
                     exact ⟨ret_int (by rw [HF3.out, HP2.out, if_pos HNe.out]), (hxw.alloc _).trans hx4⟩
                 · have HD : Hid (e.rows.drop k = []) := List.drop_eq_nil_of_le (by rw [HLn.out]; omega)
                   have HF4 : Hid (e.err regs = r'.place (e.rows.map rowLen)) := by show _ = _; rw [HF3.out, HP.out, HD.out, if_neg (by simp [rowsErr])]
                   have y0 := (HBa3.out.ext hx).cell
                   have y1 := (HBr3.out.ext hx).cell
                   have y00 := y0 0
                   have y01 := y0 1
                   have y02 := y0 2
                   have y03 := y0 3
                   have y04 := y0 4
                   have y05 := y0 5
                   have y06 := y0 6
                   have y10 := y1 0
                   have y11 := y1 1
                   have y12 := y1 2
                   have y13 := y1 3
                   have y14 := y1 4
                   have y15 := y1 5
                   have y16 := y1 6
                   simp at y00 y01 y02 y03 y04 y05 y06 y10 y11 y12 y13 y14 y15 y16
                   clear y0 y1
                   go_wp2_with fail
                   go_region_held3 (fun w' => w'.cell? ⟨w.heap.size, 0, none⟩ = some (.int .i64 e.id) ∧ w'.cell? ⟨w.heap.size, 1, none⟩ = some (.int .i64 e.inn) ∧ w'.cell? ⟨w.heap.size, 2, none⟩ = some (.int .i64 e.out) ∧ w'.cell? ⟨w.heap.size, 3, none⟩ = some (.string e.region) ∧ w'.cell? ⟨w.heap.size, 4, none⟩ = some (.int .u8 e.kind) ∧ w'.cell? ⟨w.heap.size, 5, none⟩ = some (.string e.speaker) ∧ w'.cell? ⟨w.heap.size, 6, none⟩ = some (.slice A n c) ∧
                    w'.cell? ⟨w1.heap.size, 0, none⟩ = some (.string r'.name) ∧ w'.cell? ⟨w1.heap.size, 1, none⟩ = some (.int .i64 r'.top) ∧ w'.cell? ⟨w1.heap.size, 2, none⟩ = some (.int .i64 r'.height) ∧ w'.cell? ⟨w1.heap.size, 3, none⟩ = some (.int .i64 r'.left) ∧ w'.cell? ⟨w1.heap.size, 4, none⟩ = some (.int .i64 r'.width) ∧ w'.cell? ⟨w1.heap.size, 5, none⟩ = some (.int .u8 r'.align) ∧ w'.cell? ⟨w1.heap.size, 6, none⟩ = some (.bool r'.bottom))
                    (first | go_keep | (go_split_ands; refine ⟨?_, ?_, ?_, ?_, ?_, ?_, ?_, ?_, ?_, ?_, ?_, ?_, ?_, ?_⟩ <;> (apply hx6.cell; assumption)) | (go_split_ands; refine ⟨?_, ?_, ?_, ?_, ?_, ?_, ?_, ?_, ?_, ?_, ?_, ?_, ?_, ?_⟩ <;> (apply hx5.cell; assumption)))
                    (first | (go_at_call 82; refine (HL.out _ (HEn.out.ext (by exact hxw.drew)) (HA.out.ext (by exact hxw.drew))).mono ?_; rintro en w5 ⟨A1, n1, c1, rfl, hints, hnc1, hx5⟩) | (go_at_call 81; refine (HPl.out _ _ _ _ _ hints (by have := hints.len; rw [List.length_map, HLn.out] at this; omega)).mono ?_; rintro en w6 ⟨A3, n3, c3, rfl, hsp, hnc3, hx6⟩))
                   go_wp2_with fail
                   go_ret
                   exact ⟨ret_int HF4.out.symm, (hxw.drew.trans hx5).trans hx6⟩
        · rw [hnk] at hke
          have HNk := Lib.hid hnk
          clear hnk
          go_wp2_with fail
          go_ret
          exact ⟨ret_int (by rw [HF.out, if_pos HNk.out]), hxw3⟩
end
section
open Go.RowKit
def cmpI (a b : Int) : Int := if a < b then -1 else if b < a then 1 else 0
theorem isNaN_any (a : Int) (w : World) : Calls Tryz.prog 119 #[.int .i64 a] w fun e w' => e = .returned (.bool false) ∧ w = w' := by
 go_enter Tryz.func119, Tryz.ntmps119
 go_wp2
 go_ret
 exact ⟨rfl, rfl⟩
set_option maxHeartbeats 400000 in
theorem Compare_any (a b : Int) (w : World) : Calls Tryz.prog 84 #[.int .i64 a, .int .i64 b] w fun e w' => e = .returned (.int .i64 (cmpI a b)) ∧ w = w' := by
 go_enter Tryz.func84, Tryz.ntmps84
 go_wp2_with (first | (go_at_call 119; refine (isNaN_any _ _).mono ?_; rintro e w' ⟨rfl, rfl⟩))
 all_goals go_ret
 · exact ⟨ret_int (by unfold cmpI; simp; omega), rfl⟩
 · exact ⟨ret_int (by unfold cmpI; rw [if_neg (by omega), if_pos (by omega)]), rfl⟩
 · exact ⟨ret_int (by unfold cmpI; rw [if_neg (by omega), if_neg (by omega)]), rfl⟩
end
section
open Go.RowKit
def orI (a b : Int) : Int := if a ≠ 0 then a else b
set_option maxHeartbeats 400000 in
theorem Or_any (a b : Int) (g c : Nat) (w : World) (h0 : w.cell? ⟨g, 0, none⟩ = some (.int .i64 a)) (h1 : w.cell? ⟨g, 1, none⟩ = some (.int .i64 b)) :
 Calls Tryz.prog 83 #[.slice (some ⟨g, 0, none⟩) 2 c] w fun e w' => e = .returned (.int .i64 (orI a b)) ∧ w = w' := by
 go_enter Tryz.func83, Tryz.ntmps83
 go_wp2
 refine wp_loop_rounds 3 ?_; rw [rounds_succ]
 by_cases ha : (a != 0) = true
 · go_wp2
   go_ret
   exact ⟨ret_int (by unfold orI; simp at ha; simp [ha]), rfl⟩
 · have ha' : (a != 0) = false := by simpa using ha
   go_wp2
   rw [rounds_succ]
   by_cases hb : (b != 0) = true
   · go_wp2
     go_ret
     exact ⟨ret_int (by unfold orI; simp at ha'; simp [ha']), rfl⟩
   · have hb' : (b != 0) = false := by simpa using hb
     go_wp2
     rw [rounds_succ]
     go_wp2
     go_ret
     exact ⟨ret_int (by unfold orI; simp at ha' hb'; simp [ha', hb']), rfl⟩
def lessB (x y : Ev) : Bool := decide (x.inn < y.inn ∨ x.inn = y.inn ∧ x.id < y.id)
theorem less_eq (x y : Ev) : decide (orI (cmpI x.inn y.inn) (cmpI x.id y.id) < 0) = lessB x y := by
 unfold lessB orI cmpI
 congr 1
 apply propext
 repeat' split
 all_goals omega
set_option maxRecDepth 100000 in
set_option maxHeartbeats 2000000 in
theorem Less_any (x y : Ev) (A : Option Addr) (n c : Nat) (B : Option Addr) (m d : Nat) (w : World) :
 Calls Tryz.prog 39 #[.agg (x.cells A n c), .agg (y.cells B m d)] w fun e w' => e = .returned (.bool (lessB x y)) ∧ Ext w w' := by
 have hx := ((Ext.refl w).alloc (.cells (x.cells A n c) 60)).alloc (.cells (y.cells B m d) 60)
 have HX := Lib.hid hx
 clear hx
 unfold Ev.cells at HX ⊢
 go_enter Tryz.func39, Tryz.ntmps39
 go_wp2_with fail
 go_region_held3 (fun w' => w'.cell? ⟨w.heap.size, 0, none⟩ = some (.int .i64 x.id) ∧ w'.cell? ⟨w.heap.size, 1, none⟩ = some (.int .i64 x.inn) ∧ w'.cell? ⟨w.heap.size + 1, 0, none⟩ = some (.int .i64 y.id) ∧ w'.cell? ⟨w.heap.size + 1, 1, none⟩ = some (.int .i64 y.inn)) (go_keep) (first | (go_at_call 84; refine (Compare_any _ _ _).mono ?_; rintro e w1 ⟨rfl, rfl⟩) | (go_at_call 83; refine (Or_any (cmpI x.inn y.inn) (cmpI x.id y.id) _ _ _ (by exact (Blk.drew (Blk.new' (by simp))).cell 0) (by exact (Blk.drew (Blk.new' (by simp))).cell 1)).mono ?_; rintro e w1 ⟨rfl, rfl⟩))
 go_wp2_with fail
 go_ret
 exact ⟨ret_bool (less_eq x y), (HX.out.drew).alloc _⟩
end
section
open Go.RowKit
def rTicks (r : Int) : Int := if r = 1 then 5005 else if r = 2 then 5000 else if r = 3 then 4800 else if r = 4 then 4004 else if r = 5 then 4000 else if r = 6 then 2400 else if r = 7 then 2002 else 0
def rNom (r : Int) : Int := if r = 1 then 24 else if r = 2 then 24 else if r = 3 then 25 else if r = 4 then 30 else if r = 5 then 30 else if r = 6 then 50 else if r = 7 then 60 else 0
def rDrop (r : Int) : Bool := decide (r = 4 ∨ r = 7)
def rName (r : Int) : ByteArray := if r = 1 then ⟨#[50, 51, 46, 57, 55, 54]⟩ else if r = 2 then ⟨#[50, 52]⟩ else if r = 3 then ⟨#[50, 53]⟩ else if r = 4 then ⟨#[50, 57, 46, 57, 55]⟩ else if r = 5 then ⟨#[51, 48]⟩ else if r = 6 then ⟨#[53, 48]⟩ else if r = 7 then ⟨#[53, 57, 46, 57, 52]⟩ else ⟨#[]⟩
def rOk (r : Int) : Bool := decide (1 ≤ r ∧ r ≤ 7)
def rateVal (r : Int) : Value := .agg #[.string (rName r), .int .i64 (rTicks r), .int .i64 (rNom r), .bool (rDrop r)]
theorem rate_cases {r : Int} (h0 : 0 ≤ r) : (r = 0 ∨ r = 1 ∨ r = 2 ∨ r = 3 ∨ r = 4 ∨ r = 5 ∨ r = 6 ∨ r = 7) ∨ 8 ≤ r := by omega
theorem rateVal_big {r : Int} (h : 8 ≤ r) : rateVal r = .agg #[.string ⟨#[]⟩, .int .i64 0, .int .i64 0, .bool false] := by
 unfold rateVal rName rTicks rNom rDrop
 simp only [show ¬ r = 1 by omega, show ¬ r = 2 by omega, show ¬ r = 3 by omega, show ¬ r = 4 by omega, show ¬ r = 5 by omega, show ¬ r = 6 by omega, show ¬ r = 7 by omega, if_false, or_self]
 rfl
def rateTab : Array Value := #[.string ⟨#[]⟩, .int .i64 0, .int .i64 0, .bool false, .string ⟨#[50, 51, 46, 57, 55, 54]⟩, .int .i64 5005, .int .i64 24, .bool false, .string ⟨#[50, 52]⟩, .int .i64 5000, .int .i64 24, .bool false,
 .string ⟨#[50, 53]⟩, .int .i64 4800, .int .i64 25, .bool false, .string ⟨#[50, 57, 46, 57, 55]⟩, .int .i64 4004, .int .i64 30, .bool true, .string ⟨#[51, 48]⟩, .int .i64 4000, .int .i64 30, .bool false,
 .string ⟨#[53, 48]⟩, .int .i64 2400, .int .i64 50, .bool false, .string ⟨#[53, 57, 46, 57, 52]⟩, .int .i64 2002, .int .i64 60, .bool true]
def rateZero : Array Value := #[.string ⟨#[]⟩, .int .i64 0, .int .i64 0, .bool false]
theorem size_tab : (Tryz.prog.info? 175).map (·.size) = some 32 := by kernel_rfl
theorem size_rate : (Tryz.prog.info? 122).map (·.size) = some 4 := by kernel_rfl
theorem tab_at (r : Int) (h0 : 0 ≤ r) (h7 : r ≤ 7) : ∀ j v, [Value.string (rName r), .int .i64 (rTicks r), .int .i64 (rNom r), .bool (rDrop r)][j]? = some v → rateTab[r.toNat * 4 + j]? = some v := by
 have : r = 0 ∨ r = 1 ∨ r = 2 ∨ r = 3 ∨ r = 4 ∨ r = 5 ∨ r = 6 ∨ r = 7 := by omega
 rcases this with rfl | rfl | rfl | rfl | rfl | rfl | rfl | rfl
 all_goals
  intro j v
  match j with
  | 0 => exact id
  | 1 => exact id
  | 2 => exact id
  | 3 => exact id
  | j + 4 => intro h; simp at h
set_option maxRecDepth 100000 in
set_option maxHeartbeats 2000000 in
theorem of_any (r : Int) (w : World) (h0 : 0 ≤ r) (h1 : r ≤ 255) : Calls Tryz.prog 41 #[.int .u8 r] w fun e w' => e = .returned (rateVal r) ∧ Ext w w' := by
 have HT := Lib.hid (tab_at r h0)
 have HB := Lib.hid (@rateVal_big r)
 go_enter Tryz.func41, Tryz.ntmps41
 go_upto_region 1 with fail
 go_cut [3] (fun s3 wr => s3 = Value.pointer (some ⟨w.heap.size + 1, 0, none⟩) ∧ Ext w wr ∧ Blk wr w.heap.size 122 rateZero ∧ Blk wr (w.heap.size + 1) 175 rateTab)
 case first =>
  go_wp2_with (refine wpList_storeB rfl 175 (.tmp 3) (.tmp 12) rfl (w.heap.size + 1) 175 _ _ (by exact rfl) (by exact rfl) (by exact Blk.new' (by simp)) (by exact rfl) (by exact size_tab) (by simp [Value.oneCell']) ?_)
  go_meet
  case rel => exact ⟨rfl, Ext.put (((Ext.refl w).alloc _).alloc _) (by omega) _ _, ((Blk.new w _ _).alloc _).put_other (by omega) _, (Blk.new' (by simp)).put _⟩
 case rest =>
 obtain ⟨rfl, hx2, hB0, hB1⟩ := hcut
 have HX := Lib.hid hx2
 have HB0 := Lib.hid hB0
 have HB1 := Lib.hid hB1
 clear hx2 hB0 hB1
 by_cases h8 : 8 ≤ r
 · go_wp2_with (refine wpList_storeB rfl 122 (.tmp 2) (.tmp 16) rfl w.heap.size 122 _ _ (by exact rfl) (by exact rfl) (by exact HB0.out) (by exact rfl) (by exact size_rate) (by simp [Value.oneCell']) ?_)
   refine bodyPost_ret (v := rateVal r) ?_ rfl ⟨rfl, ?_⟩
   · rw [HB.out h8]
     exact results_B (P := Tryz.prog) Tryz.results41 (g := w.heap.size) rfl (by exact HB0.out.put _) Tryz.underlying122 rfl size_rate
   · exact HX.out.put (Nat.le_refl _) _ _
 · have h7 : r ≤ 7 := by omega
   have HT7 := Lib.hid (HT.out h7)
   have hr8 : r < 8 := by omega
   clear HT h8
   go_wp2_with (first | (refine wpList_load_mid rfl 122 (.tmp 18) rfl (w.heap.size + 1) (r.toNat * 4) (by first | exact rfl | (simp; done)) [.string (rName r), .int .i64 (rTicks r), .int .i64 (rNom r), .bool (rDrop r)] _ (fun j v hv => by rw [HB1.out.cell]; exact HT7.out j v hv) Tryz.underlying122 rfl (by exact size_rate) ?_) | (refine wpList_storeB rfl 122 (.tmp 2) (.tmp 19) rfl w.heap.size 122 _ _ (by exact rfl) (by exact rfl) (by exact HB0.out) (by exact rfl) (by exact size_rate) (by simp [Value.oneCell']) ?_))
   refine bodyPost_ret (v := rateVal r) ?_ rfl ⟨rfl, ?_⟩
   · exact results_B (P := Tryz.prog) Tryz.results41 (g := w.heap.size) rfl (by exact HB0.out.put _) Tryz.underlying122 rfl size_rate
   · exact HX.out.put (Nat.le_refl _) _ _
end
section
open Go.RowKit
theorem rOk_ticks (r : Int) (h0 : 0 ≤ r) : decide (0 < rTicks r) = rOk r := by
 rcases rate_cases h0 with (rfl | rfl | rfl | rfl | rfl | rfl | rfl | rfl) | h8
 all_goals first | rfl | skip
 unfold rOk rTicks
 simp only [show ¬ r = 1 by omega, show ¬ r = 2 by omega, show ¬ r = 3 by omega, show ¬ r = 4 by omega, show ¬ r = 5 by omega, show ¬ r = 6 by omega, show ¬ r = 7 by omega, if_false]
 rw [decide_eq_false (by omega), decide_eq_false (by omega)]
def drops (r : Int) (d : Bool) : Int := if d then (if r = 7 then 4 else 2) else 0
def rateOkB (r : Int) (d : Bool) : Bool := rOk r && (!d || rDrop r)
def dayOf (r : Int) (d : Bool) : Int := if rateOkB r d = true then 86400 * rNom r - 1296 * drops r d else 0
def rateErr (r : Int) (d : Bool) : Int := if rOk r = true then (if d && !rDrop r then 13 else 0) else 3
set_option maxRecDepth 100000 in
set_option maxHeartbeats 400000 in
theorem TBValid_any (r : Int) (w : World) (h0 : 0 ≤ r) (h1 : r ≤ 255) : Calls Tryz.prog 111 #[.int .u8 r] w fun e w' => e = .returned (.bool (rOk r)) ∧ Ext w w' := by
 have HO := Lib.hid (rOk_ticks r h0)
 have hfd : ∀ w : World, (Instr.field 122 (.agg #[.string (rName r), .int .i64 (rTicks r), .int .i64 (rNom r), .bool (rDrop r)]) 1).run Tryz.prog w = .ok (.int .i64 (rTicks r)) w := fun _ => by kernel_rfl
 go_enter Tryz.func111, Tryz.ntmps111
 go_wp2_with fail
 refine (of_any r _ h0 h1).mono ?_
 rintro e w1 ⟨rfl, hx⟩
 unfold rateVal
 go_wp2_with fail
 go_ret
 exact ⟨ret_bool HO.out, hx⟩
set_option maxRecDepth 100000 in
set_option maxHeartbeats 400000 in
theorem CanDrop_any (r : Int) (w : World) (h0 : 0 ≤ r) (h1 : r ≤ 255) : Calls Tryz.prog 112 #[.int .u8 r] w fun e w' => e = .returned (.bool (rDrop r)) ∧ Ext w w' := by
 have hfd : ∀ w : World, (Instr.field 122 (.agg #[.string (rName r), .int .i64 (rTicks r), .int .i64 (rNom r), .bool (rDrop r)]) 3).run Tryz.prog w = .ok (.bool (rDrop r)) w := fun _ => by kernel_rfl
 go_enter Tryz.func112, Tryz.ntmps112
 go_wp2_with fail
 refine (of_any r _ h0 h1).mono ?_
 rintro e w1 ⟨rfl, hx⟩
 unfold rateVal
 go_wp2_with fail
 go_ret
 exact ⟨rfl, hx⟩
end
section
open Go.RowKit
structure Com where
 id : Int
 ev : Int
 fr : Int
 til : Int
 author : ByteArray
 text : ByteArray
 done : Bool
 lost : Bool
 deriving DecidableEq
def Com.vals (c : Com) : List Value := [.int .i64 c.id, .int .i64 c.ev, .int .i64 c.fr, .int .i64 c.til, .string c.author, .string c.text, .bool c.done, .bool c.lost]
structure Doc where
 title : ByteArray
 lang : ByteArray
 rate : Int
 drop : Bool
 last : Int
 regs : List Reg
 evs : List Ev
 coms : List Com
structure DocH where
 ra : Option Addr
 rn : Nat
 rc : Nat
 ea : Option Addr
 en : Nat
 ec : Nat
 ca : Option Addr
 cn : Nat
 cc : Nat
def Doc.cells (d : Doc) (h : DocH) : Array Value := #[.string d.title, .string d.lang, .int .u8 d.rate, .bool d.drop, .int .i64 d.last, .slice h.ra h.rn h.rc, .slice h.ea h.en h.ec, .slice h.ca h.cn h.cc]
def EvC (w : World) (b o : Nat) (e : Ev) : Prop := ∃ A n c, (∀ j u, (e.cells A n c).toList[j]? = some u → w.cell? ⟨b, o + j, none⟩ = some u) ∧ EvAt w e A n c
theorem EvC.stays : Stays EvC := fun _ _ _ _ _ k ⟨A, n, c, h1, h2⟩ => ⟨A, n, c, fun j u hu => k.cell (h1 j u hu), h2.ext k⟩
def EvsAt (w : World) (A : Option Addr) (n : Nat) (l : List Ev) : Prop := Sl w 7 EvC A n l
theorem EvsAt.ext {w w1 : World} {A : Option Addr} {n : Nat} {l : List Ev} (h : EvsAt w A n l) (k : Ext w w1) : EvsAt w1 A n l := Sl.ext EvC.stays h k
def ComsAt (w : World) (A : Option Addr) (n : Nat) (l : List Com) : Prop := Sl w 8 (Cells Com.vals) A n l
theorem ComsAt.ext {w w1 : World} {A : Option Addr} {n : Nat} {l : List Com} (h : ComsAt w A n l) (k : Ext w w1) : ComsAt w1 A n l := Sl.ext (Cells.stays _) h k
structure DocAt (w : World) (d : Doc) (h : DocH) : Prop where
 regs : RegsAt w h.ra h.rn d.regs
 evs : EvsAt w h.ea h.en d.evs
 coms : ComsAt w h.ca h.cn d.coms
theorem DocAt.ext {w w1 : World} {d : Doc} {h : DocH} (k : DocAt w d h) (hx : Ext w w1) : DocAt w1 d h := ⟨k.regs.ext hx, k.evs.ext hx, k.coms.ext hx⟩
theorem EvsAt.at_ev {w : World} {A : Option Addr} {n : Nat} {l : List Ev} (h : EvsAt w A n l) {i : Nat} (hi : i < n) : ∃ b off e A' n' c', A = some ⟨b, off, none⟩ ∧ l[i]? = some e ∧ EvAt w e A' n' c' ∧
 (w.cell? ⟨b, off + i * 7, none⟩ = some (.int .i64 e.id) ∧ w.cell? ⟨b, off + i * 7 + 1, none⟩ = some (.int .i64 e.inn) ∧ w.cell? ⟨b, off + i * 7 + 2, none⟩ = some (.int .i64 e.out) ∧ w.cell? ⟨b, off + i * 7 + 3, none⟩ = some (.string e.region) ∧
  w.cell? ⟨b, off + i * 7 + 4, none⟩ = some (.int .u8 e.kind) ∧ w.cell? ⟨b, off + i * 7 + 5, none⟩ = some (.string e.speaker) ∧ w.cell? ⟨b, off + i * 7 + 6, none⟩ = some (.slice A' n' c')) := by
 obtain ⟨b, off, e, hA, he, A', n', c', hc, hat⟩ := h.at_ hi
 exact ⟨b, off, e, A', n', c', hA, he, hat, by simpa using hc 0 _ rfl, hc 1 _ rfl, hc 2 _ rfl, hc 3 _ rfl, hc 4 _ rfl, hc 5 _ rfl, hc 6 _ rfl⟩
theorem ComsAt.at8 {w : World} {A : Option Addr} {n : Nat} {l : List Com} (h : ComsAt w A n l) {i : Nat} (hi : i < n) : ∃ b off c, A = some ⟨b, off, none⟩ ∧ l[i]? = some c ∧
 (w.cell? ⟨b, off + i * 8, none⟩ = some (.int .i64 c.id) ∧ w.cell? ⟨b, off + i * 8 + 1, none⟩ = some (.int .i64 c.ev) ∧ w.cell? ⟨b, off + i * 8 + 2, none⟩ = some (.int .i64 c.fr) ∧ w.cell? ⟨b, off + i * 8 + 3, none⟩ = some (.int .i64 c.til) ∧
  w.cell? ⟨b, off + i * 8 + 4, none⟩ = some (.string c.author) ∧ w.cell? ⟨b, off + i * 8 + 5, none⟩ = some (.string c.text) ∧ w.cell? ⟨b, off + i * 8 + 6, none⟩ = some (.bool c.done) ∧ w.cell? ⟨b, off + i * 8 + 7, none⟩ = some (.bool c.lost)) := by
 obtain ⟨b, off, c, hA, hc, hC⟩ := h.at_ hi
 exact ⟨b, off, c, hA, hc, by simpa using hC 0 _ rfl, hC 1 _ rfl, hC 2 _ rfl, hC 3 _ rfl, hC 4 _ rfl, hC 5 _ rfl, hC 6 _ rfl, hC 7 _ rfl⟩
def Doc.headErr (d : Doc) : Int :=
 if vld d.title = false then 10 else if 400 < d.title.size then 9 else if d.lang.toList.isEmpty = false ∧ nameB d.lang = false then 5 else if rateOkB d.rate d.drop = false then 13 else if d.last < 0 ∨ 1099511627776 < d.last then 2 else 0
def regsLoop : Option ByteArray → List Reg → Int
 | _, [] => 0
 | p, r :: l => if r.check ≠ 0 then r.check else if p = some r.name then 7 else if (p.map fun q => Op.bytesLess r.name.toList q.toList) = some true then 8 else regsLoop (some r.name) l
def regsErr (l : List Reg) : Int := if 16 < l.length then 9 else regsLoop none l
def findE (l : List Ev) (id : Int) : Option Nat := l.findIdx? fun e => e.id == id
def evsLoop (regs : List Reg) (last : Int) : List Ev → List Ev → Int
 | _, [] => 0
 | pre, x :: l => if x.err regs ≠ 0 then x.err regs else if last < x.id then 2 else if (pre.getLast?.map fun p => lessB p x) = some false then 8 else if (findE pre x.id).isSome = true then 7 else evsLoop regs last (pre ++ [x]) l
def Com.anchorErr (c : Com) (last : Int) (evs : List Ev) : Int :=
 if c.ev < 1 ∨ last < c.ev then 2 else if c.lost = true then (if c.fr ≠ 0 ∨ c.til ≠ 0 then 2 else 0) else
  match findE evs c.ev with
  | none => 6
  | some k => if c.fr < 0 ∨ c.til ≤ c.fr ∨ (evs[k]?.map fun e => decide (e.len < c.til)) = some true then 2 else 0
def comsLoop (last : Int) (evs : List Ev) : Option Int → List Com → Int
 | _, [] => 0
 | p, c :: l => if c.id < 1 ∨ last < c.id then 2 else if (p.map fun q => decide (c.id ≤ q)) = some true then 8 else if (findE evs c.id).isSome = true then 7 else
  if c.anchorErr last evs ≠ 0 then c.anchorErr last evs else if nameB c.author = false then 5 else if vld c.text = false then 10 else if c.text.toList.isEmpty = true then 4 else if 400 < c.text.size then 9 else comsLoop last evs (some c.id) l
def Doc.err (d : Doc) : Int :=
 if d.headErr ≠ 0 then d.headErr else if regsErr d.regs ≠ 0 then regsErr d.regs else if 400 < d.evs.length then 9 else if evsLoop d.regs d.last [] d.evs ≠ 0 then evsLoop d.regs d.last [] d.evs else
  if 64 < d.coms.length then 9 else comsLoop d.last d.evs none d.coms
end
section
open Go.RowKit Go.Maps
theorem key64 : Keyed Tryz.prog 2 := int_keyed Tryz.underlying2
def IW (a : Int) : Prop := -9223372036854775808 ≤ a ∧ a ≤ 9223372036854775807
theorem IW.wf {a : Int} (h : IW a) : (Lit.int .i64 a).wf = true := by
 obtain ⟨h1, h2⟩ := h
 first | exact WalkArith.wf_i64 ⟨h1, h2⟩ | exact WalkArith.wf_i64 h1 h2 | exact WalkArith.wf_i64 (by omega) | (simp [Lit.wf, IntKind.min, IntKind.max, IntKind.bits, IntKind.signed]; omega)
theorem IW.key {a : Int} (h : IW a) : keyOf Tryz.prog 2 (.int .i64 a) = some (.int .i64 a) := keyOf_int_mk Tryz.underlying2 h.wf
theorem IW.isKey {a : Int} (h : IW a) : WideAt.IsKeyLit (.int .i64 a) := key64.key h.key
theorem findE_snoc (l : List Ev) (x : Ev) (id : Int) : findE (l ++ [x]) id = match findE l id with | some k => some k | none => if x.id = id then some l.length else none := by
 unfold findE
 rw [List.findIdx?_append]
 cases h : l.findIdx? (fun e => e.id == id) with
 | some k => simp
 | none =>
  by_cases hx : x.id = id
  · simp [hx, List.findIdx?_cons]
  · simp [hx, List.findIdx?_cons]
def MapE (w : World) (T : TypeId) (B : Nat) (l : List Ev) : Prop := ∃ (n : Nat) (D : DataW Unit), w.ownsMap Tryz.prog 2 (plainElem Tryz.prog T) B n D ∧ n ≤ l.length ∧ IsMap D ∧
 (∀ id, IW id → Maps.has D (.int .i64 id) = (findE l id).isSome) ∧ ∀ id k, IW id → findE l id = some k → D.atKey (.int .i64 id) (.lit (.int .i64 0)) = .lit (.int .i64 k)
theorem MapE.made (w : World) (T : TypeId) : MapE (w.alloc (.map #[] 0)) T w.heap.size [] :=
 ⟨0, .map [], World.ownsMap_made w _ _ _, Nat.le_refl _, isMap_empty, fun _ _ => rfl, fun _ _ _ h => by simp [findE] at h⟩
theorem MapE.ext {w w1 : World} {T : TypeId} {B : Nat} {l : List Ev} (h : MapE w T B l) (k : Ext w w1) : MapE w1 T B l := by
 obtain ⟨n, D, ⟨es, cl, h1, h2⟩, h3⟩ := h
 exact ⟨n, D, ⟨es, cl, (k.block B (Array.getElem?_eq_some_iff.1 h1).1).trans h1, h2⟩, h3⟩
theorem MapE.lt {w : World} {T : TypeId} {B : Nat} {l : List Ev} (h : MapE w T B l) : B < w.heap.size := by
 obtain ⟨n, D, h1, _⟩ := h
 exact h1.lt
theorem MapE.put {w w1 : World} {T : TypeId} {B n : Nat} {l : List Ev} {D : DataW Unit} {x : Ev} (hn : n ≤ l.length) (hm : IsMap D) (hh : ∀ id, IW id → Maps.has D (.int .i64 id) = (findE l id).isSome)
 (ha : ∀ id k, IW id → findE l id = some k → D.atKey (.int .i64 id) (.lit (.int .i64 0)) = .lit (.int .i64 k)) (hx : IW x.id) (hno : findE l x.id = none)
 (h : w1.ownsMap Tryz.prog 2 (plainElem Tryz.prog T) B (n + 1) (D.put (.int .i64 x.id) (.lit (.int .i64 l.length)))) : MapE w1 T B (l ++ [x]) := by
 refine ⟨n + 1, _, h, by simp; omega, hm.put _ _, fun id hid => ?_, fun id k hid hk => ?_⟩
 · rw [findE_snoc]
   by_cases he : id = x.id
   · subst he
     rw [has_put_same hm hx.isKey, hno]
     simp
   · rw [has_put_other (by simpa using he), hh id hid]
     cases findE l id with
     | some k => rfl
     | none => simp [Ne.symm he]
 · rw [findE_snoc] at hk
   by_cases he : id = x.id
   · subst he
     rw [hno] at hk
     simp at hk
     subst hk
     exact atKey_put_same hm hx.isKey _ _
   · rw [atKey_put_other (by simpa using he)]
     refine ha id k hid ?_
     cases hf : findE l id with
     | some j => rw [hf] at hk; simpa using hk
     | none => rw [hf] at hk; simp [Ne.symm he] at hk
end
section
open Go.RowKit
theorem wrap_i64 {a : Int} (h1 : -9223372036854775808 ≤ a) (h2 : a ≤ 9223372036854775807) : IntKind.i64.wrap a = a := by
 simp [IntKind.wrap, IntKind.bits, IntKind.signed]
 omega
section
variable {P : Program} {o : Oper} {a : Act} {w : World} {K : Act → World → Prop} {Q : Exit → Act → World → Prop}
theorem wp_call1s {f : FuncId} {x : Operand} {ts : Array TypeId} {v : Value} (ho : o.op = .call { callee := .value (.func f), args := #[x], argTypes := ts }) (hx : a.eval x = v)
 (hent : ∀ args w, (callFunc f args).run P w = .ok (.enter f args) w) {r : Value} (hc : Calls P f #[v] w fun en w' => en = .returned r ∧ Ext w w') (h : ∀ w', Ext w w' → K (a.put o.dst r) w') : o.wp P a w K Q :=
 wp_call1 ho hx hent hc fun _ w' hr => ⟨r, hr.1, h w' hr.2⟩
theorem wp_bin {op : BinOp} {x y : Operand} {ty ty' : TypeId} {u v r : Value} (ho : o.op = .binOp op ty x y ty') (hx : a.eval x = u) (hy : a.eval y = v) (hr : (do eqGuard op ty x y u v; binOp op ty u v : Sem Value).run P w = .ok r w) (h : K (a.put o.dst r) w) : o.wp P a w K Q := by
 unfold Oper.wp execOp
 simp only [ho, hx, hy]
 simp only [Sem.run_bind] at hr ⊢
 rw [hr]
 exact h
theorem wp_un {op : UnOp} {x : Operand} {ty : TypeId} {u r : Value} (ho : o.op = .unOp op ty x) (hx : a.eval x = u) (hr : (Op.unary op u).run P w = .ok r w) (h : K (a.put o.dst r) w) : o.wp P a w K Q := by
 unfold Oper.wp execOp
 simp only [ho, hx, Sem.run_bind]
 rw [hr]
 exact h
end
end
end Go.Proofs.YtbmblnhfmpolbaaGreatDoor