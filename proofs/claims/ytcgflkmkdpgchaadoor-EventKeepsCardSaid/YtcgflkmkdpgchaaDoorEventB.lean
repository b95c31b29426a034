/- The walks of event.Frames, Len, Plain. -/
import Derived.Test.YtcgflkmkdpgchaaDoorEvent
namespace Go.Proofs.YtcgflkmkdpgchaaDoor
set_option linter.unusedVariables false
set_option linter.unusedSimpArgs false
open Go.RowKit

def Ev.frames (e : Ev) : Int := if spansB e.inn e.out = true then e.out - e.inn else 0

set_option maxHeartbeats 1000000 in
theorem Frames_any (e : Ev) (A : Option Addr) (n c : Nat) (w : World) : Calls Tryd.prog 20 #[.agg (e.cells A n c)] w fun en w' => en = .returned (.int .i64 e.frames) ∧ Ext w w' := by
  unfold Ev.cells
  cases hs : spansB e.inn e.out
  · have HS := Lib.hid hs
    clear hs
    go_enter Tryd.func20, Tryd.ntmps20
    go_wp2_with fail
    refine (spans_any _ _ _).mono ?_
    rintro en w1 ⟨rfl, hx1⟩
    rw [HS.out]
    go_wp2_with fail
    go_ret
    exact ⟨ret_int (by unfold Ev.frames; rw [HS.out]; rfl), ((Ext.refl w).alloc _).trans hx1⟩
  · have HS := Lib.hid hs
    have hb : 0 ≤ e.inn ∧ e.inn < e.out ∧ e.out ≤ 5184000 := of_decide_eq_true hs
    obtain ⟨b1, b2, b3⟩ := hb
    clear hs
    go_enter Tryd.func20, Tryd.ntmps20
    go_wp2_with fail
    refine (spans_any _ _ _).mono ?_
    rintro en w1 ⟨rfl, hx1⟩
    rw [HS.out]
    have hc := fun o => (Blk.ext (Blk.new w _ _) hx1).cell o
    go_wp2_with fail
    go_ret
    exact ⟨ret_int (by unfold Ev.frames; rw [HS.out]; rfl), ((Ext.refl w).alloc _).trans hx1⟩

def lenSum : Int → List Int → Int
  | s, [] => s
  | s, n :: l => if n < 0 then -1 else lenSum (s + n) l
/-- the number of characters of an event, with its line feeds -/
def Ev.len (e : Ev) : Int := lenSum (max ((e.rows.length : Int) - 1) 0) (e.rows.map rowLen)
def Ev.bytes (e : Ev) : Nat := (e.rows.map rowBytes).sum

theorem rowLen_le : ∀ l : Row, rowLen l ≤ rowBytes l
  | [] => by simp [rowLen, rowBytes]
  | r :: l => by
    have h1 := rowLen_le l
    have h2 := clen_le r.text
    rw [rowBytes_cons]
    unfold rowLen
    split
    · omega
    · split <;> omega

def sumNat (l : List Nat) : Nat := l.sum
theorem sum_take_le (l : List Row) (k : Nat) (r : Row) (h : l[k]? = some r) : ((l.take k).map rowBytes).sum + rowBytes r ≤ (l.map rowBytes).sum := by
  have e := List.take_append_drop k l
  have h1 : (l.map rowBytes).sum = ((l.take k).map rowBytes).sum + ((l.drop k).map rowBytes).sum := by
    conv => lhs; rw [← e]
    rw [List.map_append, List.sum_append]
  rw [h1, drop_at l k r h]
  simp

def ELenRel (n : Nat) (e : Ev) (v i : Value) : Prop :=
  ∃ (k : Nat) (s : Int), k ≤ n ∧ i = .int .i64 k ∧ v = .int .i64 s ∧ 0 ≤ s ∧ s ≤ n + ((e.rows.take k).map rowBytes).sum ∧ e.len = lenSum s ((e.rows.map rowLen).drop k)

set_option maxRecDepth 100000 in
set_option maxHeartbeats 2000000 in
theorem ELen_any (e : Ev) (A : Option Addr) (n c : Nat) (w : World) (hE : Env w) (he : EvAt w e A n c) (hb : ∀ r ∈ e.rows, RowSmall r) (hby : e.bytes ≤ 1099511627776) :
    Calls Tryd.prog 21 #[.agg (e.cells A n c)] w fun en w' => en = .returned (.int .i64 e.len) ∧ Ext w w' := by
  have hn24 : n * 24 ≤ 140737488355328 := by have := he.2; omega
  have HL := Lib.hid (fun w hE he => lens_any e A n c w hE he hb)
  have HA := Lib.hid he
  have HLn := Lib.hid he.len
  have HEn := Lib.hid hE
  clear he hE hb
  unfold Ev.cells at HL ⊢
  go_enter Tryd.func21, Tryd.ntmps21
  go_wp2_with fail
  refine (HL.out _ (HEn.out.ext ((Ext.refl w).alloc _)) (HA.out.ext ((Ext.refl w).alloc _))).mono ?_
  rintro en w1 ⟨A1, n1, c1, rfl, hints, hnc1, hx1⟩
  have hxw1 : Ext w w1 := ((Ext.refl w).alloc _).trans hx1
  obtain rfl : n = n1 := by rw [← HLn.out, ← hints.len, List.length_map]
  have HI := Lib.hid hints
  clear hints
  go_wp2_with fail
  go_loop [3, 14] (fun v i => ELenRel n e v i) (fun _ i => n - (intOf i).toNat)
  case atStart => exact ⟨0, _, Nat.zero_le _, rfl, rfl, by omega, by simp; omega, by unfold Ev.len; rw [HLn.out]; rfl⟩
  case round =>
    obtain ⟨k, s, hk, rfl, rfl, hs0, hs1, hp⟩ := hrel
    have HP := Lib.hid hp
    clear hp
    by_cases hlt : k < n
    · obtain ⟨b, off, x, rfl, hxx, hcell⟩ := HI.out.cell hlt
      have HD := Lib.hid (drop_at _ k x hxx)
      rw [List.getElem?_map] at hxx
      obtain ⟨r, hr, rfl⟩ := Option.map_eq_some_iff.1 hxx
      have h1 := sum_take_le e.rows k r hr
      have h2 := rowLen_le r
      have h3 : Hid (((e.rows.take (k + 1)).map rowBytes).sum = ((e.rows.take k).map rowBytes).sum + rowBytes r) := by
        show _ = _
        rw [take_snoc' e.rows k r hr, List.map_append, List.sum_append]
        simp
      have hby' : (e.rows.map rowBytes).sum ≤ 1099511627776 := hby
      have hs2 : s + rowLen r ≤ 4611686018427387904 := by omega
      have hs3 : s ≤ 4611686018427387904 := by omega
      clear hr hxx h1 hby'
      by_cases hneg : rowLen r < 0
      · go_wp2_with fail
        go_ret
        exact ⟨ret_int (by rw [HP.out, HD.out, lenSum, if_pos (by omega)]), hxw1⟩
      · go_wp2_with fail
        refine ⟨⟨k + 1, s + rowLen r, by omega, by go_num, rfl, by omega, ?_, ?_⟩, by simp [intOf]; omega⟩
        · rw [h3.out]; omega
        · rw [HP.out, HD.out, lenSum, if_neg (by omega)]
    · have HD : Hid ((e.rows.map rowLen).drop k = []) := List.drop_eq_nil_of_le (by rw [List.length_map, HLn.out]; omega)
      go_wp2_with fail
      go_ret
      exact ⟨ret_int (by rw [HP.out, HD.out]; rfl), hxw1⟩

/-- the text of an event -/
def Ev.text (e : Ev) : List UInt8 := Lib.join (e.rows.map rowText) [10]
def EPlainRel (w : World) (bx : Array Value) (n : Nat) (rows : List Row) (v i : Value) (wr : World) : Prop :=
  ∃ k : Nat, k ≤ n ∧ i = .int .i64 k ∧ Ext (w.alloc (.cells bx 27)) wr ∧ wr.ownsRow (w.heap.size + 1) 9 1 v k (((rows.take k).map textOf).flatMap fun x => [Value.string x])
theorem info_string : (Tryd.prog.info? 9).map (fun i => (i.zero, i.size, i.bytes)) = some (some (.string ⟨#[]⟩), 1, 16) := by kernel_rfl

theorem join_cons (sep a b : List UInt8) (l : List (List UInt8)) : Lib.join (a :: b :: l) sep = a ++ (sep ++ Lib.join (b :: l) sep) := by
  simp [Lib.join, List.intercalate]
theorem join_len (sep : List UInt8) : ∀ l : List (List UInt8), (Lib.join l sep).length ≤ (l.map List.length).sum + l.length * sep.length
  | [] => by simp [Lib.join]
  | [a] => by simp [Lib.join]
  | a :: b :: l => by
    have := join_len sep (b :: l)
    rw [join_cons]
    simp only [List.length_append, List.map_cons, List.sum_cons, List.length_cons, Nat.succ_mul] at this ⊢
    omega

set_option maxRecDepth 100000 in
set_option maxHeartbeats 2000000 in
theorem EPlain_any (e : Ev) (A : Option Addr) (n c : Nat) (w : World) (he : EvAt w e A n c) (hby : e.bytes ≤ 1099511627776) :
    Calls Tryd.prog 24 #[.agg (e.cells A n c)] w fun en w' => en = .returned (.string ⟨e.text.toArray⟩) ∧ Ext w w' := by
  have hn24 : n * 24 ≤ 140737488355328 := by have := he.2; omega
  have HA := Lib.hid he.1
  have HLn := Lib.hid he.len
  clear he
  unfold Ev.cells
  go_enter Tryd.func24, Tryd.ntmps24
  go_wp2_with fail
  go_loopw [3, 9] (fun v i wr => EPlainRel w #[.int .i64 e.id, .int .i64 e.inn, .int .i64 e.out, .string e.region, .int .u8 e.kind, .string e.speaker, .slice A n c] n e.rows v i wr) (fun _ i _ => n - (intOf i).toNat)
  case atStart => exact ⟨0, Nat.zero_le _, rfl, Ext.refl _, ⟨rfl, .inl ⟨rfl, rfl⟩⟩⟩
  case round =>
    obtain ⟨k, hk, rfl, hx, hown⟩ := hrel
    have hxw : Ext w wr := ((Ext.refl w).alloc _).trans hx
    by_cases hlt : k < n
    · obtain ⟨b, off, r, rfl, hr, A', n', c', hcell, hnc, hc40, hruns⟩ := (HA.out.ext hxw).at_ hlt
      simp only [Nat.mul_one] at hcell
      have HR := Lib.hid hruns
      have HT := Lib.hid (take_snoc' e.rows k r hr)
      have hrb : rowBytes r ≤ 1099511627776 := by
        have h1 := sum_take_le e.rows k r hr
        have h2 : (e.rows.map rowBytes).sum ≤ 1099511627776 := hby
        omega
      clear hr hruns
      go_wp2_with fail
      refine (Plain_any A' n' c' r _ (HR.out.ext ((Ext.refl wr).alloc _)) (by omega) (by omega)).mono ?_
      rintro en w2 ⟨rfl, hx2⟩
      have HO2 := Lib.hid (own_ext (hown.alloc (.cells #[.slice A' n' c'] 43)) hx2)
      have hsz2 := hx.size
      have hsz3 := hx2.size
      simp only [World.size_alloc] at hsz2 hsz3
      rw [show (⟨(rowText r).toArray⟩ : ByteArray) = textOf r from rfl]
      go_wp2_with (at_builtin; refine wpList_append1 rfl (.tmp 13) (.tmp 16) 78 rfl info_string Tryd.underlying78 rfl (by decide) (HO2.out.alloc _) (by exact rfl) w2.heap.size _ (by exact rfl) (by exact Blk.new' rfl) (by exact rfl) (by simp [Value.oneCell']) (by omega) (by simp [maxLen]; omega) (by simp; omega) ?_; intro v' w3 hown3 hgr)
      refine ⟨⟨k + 1, by omega, by go_num, ((hx.alloc _).trans (hx2.alloc _)).grown hgr (fun q hq => by have := own_lt hown q hq; simpa using this), ?_⟩, by simp [intOf]; omega⟩
      rw [HT.out, List.map_append, List.flatMap_append]
      exact hown3
    · have hkn : k = n := by omega
      subst hkn
      have HT : Hid (e.rows.take k = e.rows) := List.take_of_length_le (by rw [HLn.out]; omega)
      have hl : (e.rows.map textOf).length = k := by rw [List.length_map, HLn.out]
      rw [HT.out] at hown
      obtain ⟨A', c', rfl, hc, _, hsl, _⟩ := own_sl (f := fun x : ByteArray => [Value.string x]) (size := 1) (fun _ => rfl) hl hown
      have HS := Lib.hid hsl
      have HK := Lib.hid hl
      clear hsl hown hl
      go_wp2_with fail
      by_cases hk0 : k = 0
      · subst hk0
        refine (Tryd.strings_Join_none _ _ _ _).mono ?_
        rintro en w2 ⟨rfl, rfl⟩
        go_wp2_with fail
        go_ret
        have : e.rows = [] := List.eq_nil_of_length_eq_zero HLn.out
        exact ⟨by unfold Ev.text; rw [this]; rfl, hxw⟩
      · obtain ⟨b, off, hA', hcs⟩ := HS.out.2 (by omega)
        subst hA'
        have hk' : Hid (k = (e.rows.map textOf).length) := HK.out.symm
        have hfit := Tryd.strings_Join b off c' (e.rows.map textOf) ⟨#[10]⟩ wr (fun j x hx => by simpa using hcs j x hx 0 _ rfl) ?_ (by rw [HK.out]; omega) (by rw [HK.out]; exact hc) ?_
        · rw [HK.out] at hfit
          refine hfit.mono ?_
          rintro en w2 ⟨rfl, hx2⟩
          go_wp2_with fail
          go_ret
          refine ⟨?_, hxw.trans hx2⟩
          unfold Ev.text
          rfl
        · obtain ⟨x, hx⟩ : ∃ x, (e.rows.map textOf)[0]? = some x := ⟨_, List.getElem?_eq_getElem (by rw [HK.out]; omega)⟩
          exact World.block_lt_of_cell? wr _ (hcs 0 x hx 0 _ rfl)
        · refine Nat.le_trans (join_len _ _) ?_
          have h1 : (((e.rows.map textOf).map (·.data.toList)).map List.length).sum = e.bytes := by
            unfold Ev.bytes
            rw [List.map_map, List.map_map]
            congr 1
            apply List.map_congr_left
            intro r _
            exact rowText_len r
          rw [h1, List.length_map, HK.out]
          show e.bytes + k * 1 ≤ _
          omega
end Go.Proofs.YtcgflkmkdpgchaaDoor
