/- The walk of the reference's places. -/
import Derived.Test.YtffianmhojiomaaDoorSwapP
import Derived.Test.YtffianmhojiomaaDoorJoinL
namespace Go.Proofs.YtffianmhojiomaaDoor
set_option linter.unusedVariables false
set_option linter.unusedSimpArgs false
open Go.RowKit

/-- the places of a reel ahead of place k -/
def placesL (l : List Cut) (s : ByteArray) : Nat → List Nat | 0 => [] | k + 1 => if isR l s k then placesL l s k ++ [k] else placesL l s k
theorem places_len (l : List Cut) (s : ByteArray) : ∀ k, (placesL l s k).length = cntI l s k
  | 0 => rfl
  | k + 1 => by
    have := places_len l s k
    unfold placesL cntI
    split <;> simp [this]
theorem places_one {l : List Cut} {s : ByteArray} : ∀ {k : Nat}, cntI l s k = 1 → placesL l s k = [lastI l s k]
  | 0, h => by simp [cntI] at h
  | k + 1, h => by
    unfold cntI at h
    unfold placesL lastI
    by_cases hk : isR l s k
    · rw [if_pos hk] at h ⊢
      rw [if_pos hk]
      have h0 : placesL l s k = [] := List.eq_nil_of_length_eq_zero (by rw [places_len]; omega)
      rw [h0]; rfl
    · rw [if_neg hk] at h ⊢
      rw [if_neg hk]
      exact places_one h
def intV (k : Nat) : Value := .int .i64 k
def PlacesAt (l : List Cut) (n base : Nat) (s : ByteArray) (v : Value) (w : World) : Prop := w.ownsRow base 3 1 v (cntI l s n) ((placesL l s n).map intV)
theorem info_int : (Tryd.prog.info? 3).map (fun i => (i.zero, i.size, i.bytes)) = some (some (.int .i64 0), 1, 8) := by kernel_rfl
def PlacesRel (w1 : World) (n : Nat) (l : List Cut) (s : ByteArray) (v i : Value) (wr : World) : Prop :=
  ∃ k : Nat, k ≤ n ∧ i = .int .i64 k ∧ wr.ownsRow w1.heap.size 3 1 v (cntI l s k) ((placesL l s k).map intV) ∧ Ext w1 wr
set_option maxRecDepth 100000 in
set_option maxHeartbeats 4000000 in
theorem places_any (e : Edl) (A : Option Addr) (n c : Nat) (s : ByteArray) (w : World) (hl : CutsAt w A n e.cuts) (hn : n ≤ 1000000) :
    Calls Tryd.prog 33 #[.agg (e.cells A n c), .string s] w fun en w' => ∃ v, en = .returned v ∧ PlacesAt e.cuts n w.heap.size s v w' ∧ Ext w w' := by
  have HL := Lib.hid hl
  have HX0 := Lib.hid ((Ext.refl w).alloc (.cells (e.cells A n c) 25))
  clear hl
  unfold Edl.cells at *
  go_enter Tryd.func33, Tryd.ntmps33
  go_wp2_with fail
  go_loopw [5, 11] (fun v i wr => PlacesRel (w.alloc (.cells #[.string e.title, .int .u8 e.rate, .bool e.drop, .slice A n c] 25)) n e.cuts s v i wr) (fun _ i _ => n - (intOf i).toNat)
  case atStart => exact ⟨0, Nat.zero_le _, rfl, ⟨rfl, .inl ⟨rfl, rfl⟩⟩, Ext.refl _⟩
  case round =>
    obtain ⟨k, hk, rfl, hown, hx⟩ := hrel
    have HXr := Lib.hid (HX0.out.trans hx)
    have hb1 := cntI_le e.cuts s k
    have hsz := hx.size
    simp only [World.size_alloc] at hsz
    by_cases hlt : k < n
    · obtain ⟨b, off, r, rfl, hr, c0, c1, c2, c3, c4, c5, c6⟩ := (HL.out.ext HXr.out).at7 hlt
      have HXc := Lib.hid ((Ext.refl wr).alloc (.cells r.cells 67))
      have HO := Lib.hid (hown.alloc (.cells r.cells 67))
      have HO0 := Lib.hid hown
      unfold Cut.cells at HXc HO
      clear hown
      by_cases he : r.reel = s
      · have he' : (r.reel.toList == s.toList) = true := by rw [bs_eq]; simpa using he
        have HI : Hid (isR e.cuts s k) := by show _ = _; rw [hr]; simpa using he
        have H1 : Hid (placesL e.cuts s (k + 1) = placesL e.cuts s k ++ [k]) := by show _ = _; rw [placesL, if_pos HI.out]
        have H2 : Hid (cntI e.cuts s (k + 1) = cntI e.cuts s k + 1) := by show _ = _; rw [cntI, if_pos HI.out]
        clear hr he
        generalize cntI e.cuts s k = cc at *
        generalize placesL e.cuts s k = ll at *
        go_wp2_with (at_builtin; refine wpList_append1 rfl (.tmp 20) (.tmp 22) 73 rfl info_int Tryd.underlying73 rfl (by decide) (HO.out.alloc _) (by exact rfl) (wr.heap.size + 1) _ (by exact rfl) (by exact Blk.new' (by simp)) (by exact rfl) (by simp [Value.oneCell']) (by omega) (by simp [maxLen]; omega) (by simp; omega) ?_; intro v' w3 hown3 hgr)
        refine ⟨⟨k + 1, by omega, by go_num, ?_, ((hx.alloc _).alloc _).grown hgr (fun q hq => by have := own_lt HO0.out q hq; simpa using this)⟩, by simp [intOf]; omega⟩
        rw [H1.out, H2.out, List.map_append]
        exact hown3
      · have he' : (r.reel.toList == s.toList) = false := by rw [bs_eq]; simpa using he
        have HI : Hid (¬ isR e.cuts s k) := by show ¬ _ = _; rw [hr]; simpa using he
        have H1 : Hid (placesL e.cuts s (k + 1) = placesL e.cuts s k) := by show _ = _; rw [placesL, if_neg HI.out]
        have H2 : Hid (cntI e.cuts s (k + 1) = cntI e.cuts s k) := by show _ = _; rw [cntI, if_neg HI.out]
        clear hr he
        generalize cntI e.cuts s k = cc at *
        generalize placesL e.cuts s k = ll at *
        go_wp2_with fail
        exact ⟨⟨k + 1, by omega, by go_num, by rw [H1.out, H2.out]; exact HO.out, hx.alloc _⟩, by simp [intOf]; omega⟩
    · have hkn : k = n := by omega
      subst hkn
      go_wp2_with fail
      go_ret
      refine ⟨_, rfl, ?_, HXr.out⟩
      unfold PlacesAt
      refine ⟨hown.1, ?_⟩
      rcases hown.2 with h0 | ⟨g, cap, cur, h1, hb, hrest⟩
      · exact .inl h0
      · exact .inr ⟨g, cap, cur, h1, by simp at hb; omega, hrest⟩
end Go.Proofs.YtffianmhojiomaaDoor
