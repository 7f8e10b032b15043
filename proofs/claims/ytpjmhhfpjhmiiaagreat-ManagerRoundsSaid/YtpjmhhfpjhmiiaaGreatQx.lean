/-
  The identities whose results are not done: both sides.
  All, plain: every identity is asked, the wire stays right, and setting a label reaches every device.
  All.
-/
import Derived.Test.YtpjmhhfpjhmiiaaGreatQf
import Derived.Test.YtpjmhhfpjhmiiaaGreatSk
import Derived.Test.YtpjmhhfpjhmiiaaGreatQt
import Derived.Test.YtpjmhhfpjhmiiaaGreatQd
namespace Go.Proofs.YtpjmhhfpjhmiiaaGreat
open Go.RowKit

/-- The cells of a list of results. -/
def rslA (a : Rsl) : Array Value := #[.int .i64 a.kind, .string a.dat, .int .i64 a.reason, .int .i64 a.tries]
def rslC (l : List Rsl) (j : Nat) : Option Value := (l[j / 4]?).bind fun a => (rslA a)[j % 4]?
def rslL : List Rsl → List Value
  | [] => []
  | a :: l => (rslA a).toList ++ rslL l
def RslsAt (w : World) (v : Value) (l : List Rsl) : Prop := SeqAt w 4 v l.length (rslC l)
theorem rslL_append (l m : List Rsl) : rslL (l ++ m) = rslL l ++ rslL m := by
  induction l with
  | nil => rfl
  | cons d l ih => rw [List.cons_append, rslL, rslL, ih, List.append_assoc]
theorem rslL_get (l : List Rsl) (j : Nat) : (rslL l)[j]? = rslC l j := by
  induction l generalizing j with
  | nil => rfl
  | cons d l ih =>
    have h4 : (rslA d).toList.length = 4 := rfl
    rw [rslL]
    by_cases hj : j < 4
    · rw [List.getElem?_append_left (by omega), rslC, show j / 4 = 0 from by omega, show j % 4 = j from by omega]
      simp
    · rw [List.getElem?_append_right (by omega), h4, ih, rslC, rslC, show j / 4 = (j - 4) / 4 + 1 from by omega, show j % 4 = (j - 4) % 4 from by omega]
      simp
theorem own_rsls {w : World} {base T : Nat} {v : Value} {l : List Rsl} (h : w.ownsRow base T 4 v l.length (rslL l)) (hn : l.length ≤ 140737488351232) : RslsAt w v l := own_seq h hn (rslL_get l)
theorem RslsAt.run {w w' : World} {v : Value} {l : List Rsl} (h : RslsAt w v l) (hb : Below w.heap.size w w') : RslsAt w' v l := SeqAt.below h hb
theorem rsl_ones (d : Rsl) : ∀ u ∈ (rslA d).toList, u.oneCell' = true := by
  intro u hu
  simp [rslA] at hu
  rcases hu with rfl | rfl | rfl | rfl <;> rfl
theorem rslC_at (l : List Rsl) (k : Nat) (hk : k < l.length) (i : Nat) (hi : i < 4) : rslC l (k * 4 + i) = (rslA l[k])[i]? := by
  unfold rslC
  rw [show (k * 4 + i) / 4 = k from by omega, show (k * 4 + i) % 4 = i from by omega, List.getElem?_eq_getElem hk]
  rfl
theorem rsl_cells {w : World} {b off : Nat} {l : List Rsl} (hc : ∀ j, j < l.length * 4 → w.cell? ⟨b, off + j, none⟩ = rslC l j) (k : Nat) (hk : k < l.length) :
    ∃ d, l[k]? = some d ∧ w.cell? ⟨b, off + k * 4, none⟩ = some (.int .i64 d.kind) ∧ w.cell? ⟨b, off + k * 4 + 1, none⟩ = some (.string d.dat) ∧ w.cell? ⟨b, off + k * 4 + 2, none⟩ = some (.int .i64 d.reason) ∧ w.cell? ⟨b, off + k * 4 + 3, none⟩ = some (.int .i64 d.tries) := by
  refine ⟨l[k], List.getElem?_eq_getElem hk, ?_, ?_, ?_, ?_⟩
  · rw [show off + k * 4 = off + (k * 4 + 0) from rfl, hc _ (by omega), rslC_at l k hk 0 (by decide)]; rfl
  · rw [show off + k * 4 + 1 = off + (k * 4 + 1) from rfl, hc _ (by omega), rslC_at l k hk 1 (by decide)]; rfl
  · rw [show off + k * 4 + 2 = off + (k * 4 + 2) from rfl, hc _ (by omega), rslC_at l k hk 2 (by decide)]; rfl
  · rw [show off + k * 4 + 3 = off + (k * 4 + 3) from rfl, hc _ (by omega), rslC_at l k hk 3 (by decide)]; rfl
theorem failed_snoc : ∀ (ids : List Int) (l : List Rsl) (x : Int) (a : Rsl), ids.length = l.length → failedM (ids ++ [x]) (l ++ [a]) = failedM ids l ++ if a.kind ≠ 0 then [x] else []
  | [], [], x, a, _ => by
    show (if a.kind ≠ 0 then x :: failedM [] [] else failedM [] []) = failedM [] [] ++ if a.kind ≠ 0 then [x] else []
    split <;> rfl
  | i :: ids, b :: l, x, a, h => by
    have ih := failed_snoc ids l x a (by simpa using h)
    simp only [List.cons_append, failedM, ih]
    split <;> rfl
  | [], b :: l, _, _, h => by simp at h
  | i :: ids, [], _, _, h => by simp at h
theorem failed_length : ∀ (ids : List Int) (l : List Rsl), (failedM ids l).length ≤ ids.length
  | [], _ => Nat.le_refl _
  | _ :: _, [] => Nat.zero_le _
  | i :: ids, b :: l => by
    have ih := failed_length ids l
    rw [failedM]
    split
    · simp only [List.length_cons]; omega
    · simp only [List.length_cons]; omega
def failE (ids : List Int) (l : List Rsl) : Int := if ids.length ≠ l.length then 14 else 0
def failU (ids : List Int) (l : List Rsl) : List Int := if ids.length ≠ l.length then [] else failedM ids l
def FailPost (n : Int) (u : List Int) (w : World) (e : Ending) (w' : World) : Prop := ∃ v, e = .returned (.tuple #[v, .int .i64 n]) ∧ IdsAt w' v u ∧ Below w.heap.size w w'

set_option maxHeartbeats 4000000 in
set_option maxRecDepth 100000 in
theorem mfailed_any (v u : Value) (ids : List Int) (l : List Rsl) (w : World) (hv : IdsAt w v ids) (hu : RslsAt w u l) (hz : ids.length * 8 ≤ 140737488351232) :
    Calls Tryz.prog 39 #[v, u] w (FailPost (failE ids l) (failU ids l) w) := by
  obtain ⟨va, vc, rfl⟩ := shape_of hv
  obtain ⟨ua, uc, rfl⟩ := shape_of hu
  by_cases hne : ids.length = l.length
  · have hE : failE ids l = 0 := by rw [failE, if_neg (not_not_intro hne)]
    have hU : failU ids l = failedM ids l := by rw [failU, if_neg (not_not_intro hne)]
    rw [hE, hU]
    obtain ⟨i0, hi, hz0, hz1, hz2⟩ := info_parts Tryz.info_u64
    rw [← hne] at hu ⊢
    have HNE := Lib.hid hne
    have HV := Lib.hid hv
    have HU := Lib.hid hu
    have hz3 : (ids.length : Int) ≤ 140737488351232 := by omega
    have h5 : ((ids.length : Int) != (ids.length : Int)) = false := by simp
    clear hE hU hv hu hne
    go_enter Tryz.func39, Tryz.ntmps39
    go_wp2
    go_loopw [6, 7, 8, 16] (fun v6 _ _ i wr => ∃ k : Nat, k ≤ ids.length ∧ i = .int .i64 k ∧ wr.ownsRow w.heap.size 22 1 v6 (failedM (ids.take k) (l.take k)).length (u64L (failedM (ids.take k) (l.take k))) ∧ Below w.heap.size w wr) (fun v6 _ _ i _ => ids.length - (intOf i).toNat)
    case atStart => exact ⟨0, Nat.zero_le _, rfl, World.ownsRow_nil _ _ _ _, by (repeat' (first | (with_reducible exact Below.refl _ _) | (with_reducible assumption) | (with_reducible refine below_run ?_ (by assumption)) | (with_reducible refine below_of_upd ?_ (by assumption) ?_) | (with_reducible refine below_drewN ?_ _) | (with_reducible refine Below.drew ?_) | (with_reducible refine below_seven ?_ ?_) | (with_reducible refine below_six ?_ ?_) | (with_reducible refine below_one ?_ ?_) | (with_reducible refine Below.alloc ?_ ?_ _) | (with_reducible refine below_after ?_ ?_ (by assumption)) | (show _ ≤ _; first | omega | (simp; done) | (simp; omega))))⟩
    case round =>
      obtain ⟨k, hk, rfl, hown, hb0⟩ := hrel
      by_cases hlt2 : k < ids.length
      · have hlt3 : (k : Int) < (ids.length : Int) := by omega
        have hk0 : (0 : Int) ≤ (k : Int) := by omega
        rcases HU.out.run hb0 with ⟨h0, _⟩ | ⟨h0, h1, b, off, cap, hve, hbl, hcel⟩
        · have := HNE.out
          omega
        rcases HV.out.run hb0 with ⟨g0, _⟩ | ⟨g0, g1, b', off', cap', hve', hbl', hcel'⟩
        · omega
        obtain ⟨rfl, -, rfl⟩ := Value.slice.inj hve
        clear hve
        cases hve'
        obtain ⟨a, ha, e0, e1, e2, e3⟩ := rsl_cells hcel k (by have := HNE.out; omega)
        obtain ⟨x, hx, f0⟩ := id_cell hcel' k hlt2
        have hsn : failedM (ids.take (k + 1)) (l.take (k + 1)) = failedM (ids.take k) (l.take k) ++ if a.kind ≠ 0 then [x] else [] := by
          rw [take_succ_some hx, take_succ_some ha]
          exact failed_snoc _ _ _ _ (by have := HNE.out; simp; omega)
        have HS := Lib.hid hsn
        have hfl := failed_length (ids.take k) (l.take k)
        rw [List.length_take] at hfl
        have hsz := hb0.size
        clear h0 h1 hcel hcel' ha hx hsn
        by_cases hkz : a.kind = 0
        · have e9 : (a.kind != 0) = false := by simpa using hkz
          have HT := Lib.hid (show failedM (ids.take (k + 1)) (l.take (k + 1)) = failedM (ids.take k) (l.take k) by rw [HS.out, if_neg (not_not_intro hkz), List.append_nil])
          clear hkz
          go_wp2
          go_roundw
          case rel => exact ⟨k + 1, by omega, by go_num, by rw [HT.out]; exact (hown.alloc _), by (repeat' (first | (with_reducible exact Below.refl _ _) | (with_reducible assumption) | (with_reducible refine below_run ?_ (by assumption)) | (with_reducible refine below_of_upd ?_ (by assumption) ?_) | (with_reducible refine below_drewN ?_ _) | (with_reducible refine Below.drew ?_) | (with_reducible refine below_seven ?_ ?_) | (with_reducible refine below_six ?_ ?_) | (with_reducible refine below_one ?_ ?_) | (with_reducible refine Below.alloc ?_ ?_ _) | (with_reducible refine below_after ?_ ?_ (by assumption)) | (show _ ≤ _; first | omega | (simp; done) | (simp; omega))))⟩
          case measure => simp [intOf]; omega
        · have e9 : (a.kind != 0) = true := by simpa using hkz
          have HT := Lib.hid (show failedM (ids.take (k + 1)) (l.take (k + 1)) = failedM (ids.take k) (l.take k) ++ [x] by rw [HS.out, if_pos hkz])
          clear hkz
          go_wp2_with (at_builtin; refine wpList_append_own _ rfl _ _ 84 rfl w.heap.size 22 i0 _ 1 8 Tryz.underlying84 hi hz0 hz1 hz2 rfl (by decide) _ _ _ rfl ((hown.alloc _).alloc _) ⟨wr.heap.size + 1, 0, none⟩ 1 1 [.int .u64 x] rfl rfl ?c1 ?c2 ?c3 ?c4 ?c5 ?_)
          case c1 =>
            intro j u hj
            match j, hj with
            | 0, hj =>
              simp at hj
              subst hj
              exact (row_facts (show RowAt _ (wr.heap.size + 1) 22 #[.int .u64 x] from RowAt.mk (by simp) rfl)).1 0
          case c2 => intro u hu; simp at hu; subst hu; rfl
          case c3 => unfold maxLen; omega
          case c4 => omega
          case c5 => simp; omega
          · intro v' w1 hown' hgrow _
            have hb1 := below_grown ((hb0.alloc (by omega) _).alloc (by simp; omega) _) ((hown.alloc _).alloc _) (Nat.le_refl _) hgrow (by simp; omega)
            have hlen : (failedM (ids.take (k + 1)) (l.take (k + 1))).length = (failedM (ids.take k) (l.take k)).length + 1 := by rw [HT.out]; simp
            have hu8 : u64L (failedM (ids.take (k + 1)) (l.take (k + 1))) = u64L (failedM (ids.take k) (l.take k)) ++ [.int .u64 x] := by rw [HT.out]; simp [u64L]
            have HL := Lib.hid hlen
            have HN := Lib.hid hu8
            clear hgrow hown hlen hu8
            go_wp2
            go_roundw
            case rel => exact ⟨k + 1, by omega, by go_num, by rw [HL.out, HN.out]; exact hown', hb1⟩
            case measure => simp [intOf]; omega
      · obtain rfl : k = ids.length := by omega
        rw [List.take_length, List.take_of_length_le (by have := HNE.out; omega)] at hown
        have hfl := failed_length ids l
        go_wp2
        go_ret2
        exact ⟨_, rfl, own_ids hown rfl (by omega), hb0⟩
  · have hE : failE ids l = 14 := by rw [failE, if_pos hne]
    have hU : failU ids l = [] := by rw [failU, if_pos hne]
    rw [hE, hU]
    have e9 : ((ids.length : Int) != (l.length : Int)) = true := by simpa using (fun e : (ids.length : Int) = (l.length : Int) => hne (by omega))
    clear hE hU hne
    go_enter Tryz.func39, Tryz.ntmps39
    go_wp2
    go_ret2
    exact ⟨_, rfl, .inl ⟨rfl, _, _, rfl⟩, Below.refl _ _⟩

set_option maxHeartbeats 4000000 in
set_option maxRecDepth 100000 in
theorem rfailed_any (v u : Value) (ids : List Int) (l : List Rsl) (w : World) (hv : IdsAt w v ids) (hu : RslsAt w u l) (hz : ids.length * 8 ≤ 140737488351232) :
    Calls Tryz.prog 40 #[v, u] w (FailPost (failE ids l) (failU ids l) w) := by
  obtain ⟨va, vc, rfl⟩ := shape_of hv
  obtain ⟨ua, uc, rfl⟩ := shape_of hu
  by_cases hne : ids.length = l.length
  · have hE : failE ids l = 0 := by rw [failE, if_neg (not_not_intro hne)]
    have hU : failU ids l = failedM ids l := by rw [failU, if_neg (not_not_intro hne)]
    rw [hE, hU]
    obtain ⟨i0, hi, hz0, hz1, hz2⟩ := info_parts Tryz.info_u64
    rw [← hne] at hu ⊢
    have HNE := Lib.hid hne
    have HV := Lib.hid hv
    have HU := Lib.hid hu
    have hz3 : (ids.length : Int) ≤ 140737488351232 := by omega
    have h5 : ((ids.length : Int) != (ids.length : Int)) = false := by simp
    clear hE hU hv hu hne
    go_enter Tryz.func40, Tryz.ntmps40
    go_wp2
    go_loopw [6, 7] (fun v6 i wr => ∃ k : Nat, k ≤ ids.length ∧ i = .int .i64 k ∧ wr.ownsRow w.heap.size 22 1 v6 (failedM (ids.take k) (l.take k)).length (u64L (failedM (ids.take k) (l.take k))) ∧ Below w.heap.size w wr) (fun v6 i _ => ids.length - (intOf i).toNat)
    case atStart => exact ⟨0, Nat.zero_le _, rfl, World.ownsRow_nil _ _ _ _, by (repeat' (first | (with_reducible exact Below.refl _ _) | (with_reducible assumption) | (with_reducible refine below_run ?_ (by assumption)) | (with_reducible refine below_of_upd ?_ (by assumption) ?_) | (with_reducible refine below_drewN ?_ _) | (with_reducible refine Below.drew ?_) | (with_reducible refine below_seven ?_ ?_) | (with_reducible refine below_six ?_ ?_) | (with_reducible refine below_one ?_ ?_) | (with_reducible refine Below.alloc ?_ ?_ _) | (with_reducible refine below_after ?_ ?_ (by assumption)) | (show _ ≤ _; first | omega | (simp; done) | (simp; omega))))⟩
    case round =>
      obtain ⟨k, hk, rfl, hown, hb0⟩ := hrel
      by_cases hlt2 : k < ids.length
      · have hlt3 : (k : Int) < (ids.length : Int) := by omega
        have hk0 : (0 : Int) ≤ (k : Int) := by omega
        rcases HU.out.run hb0 with ⟨h0, _⟩ | ⟨h0, h1, b, off, cap, hve, hbl, hcel⟩
        · have := HNE.out
          omega
        rcases HV.out.run hb0 with ⟨g0, _⟩ | ⟨g0, g1, b', off', cap', hve', hbl', hcel'⟩
        · omega
        obtain ⟨rfl, -, rfl⟩ := Value.slice.inj hve
        clear hve
        cases hve'
        obtain ⟨a, ha, e0, e1, e2, e3⟩ := rsl_cells hcel k (by have := HNE.out; omega)
        obtain ⟨x, hx, f0⟩ := id_cell hcel' k hlt2
        have hsn : failedM (ids.take (k + 1)) (l.take (k + 1)) = failedM (ids.take k) (l.take k) ++ if a.kind ≠ 0 then [x] else [] := by
          rw [take_succ_some hx, take_succ_some ha]
          exact failed_snoc _ _ _ _ (by have := HNE.out; simp; omega)
        have HS := Lib.hid hsn
        have hfl := failed_length (ids.take k) (l.take k)
        rw [List.length_take] at hfl
        have hsz := hb0.size
        clear h0 h1 hcel hcel' ha hx hsn
        by_cases hkz : a.kind = 0
        · have e9 : (a.kind != 0) = false := by simpa using hkz
          have HT := Lib.hid (show failedM (ids.take (k + 1)) (l.take (k + 1)) = failedM (ids.take k) (l.take k) by rw [HS.out, if_neg (not_not_intro hkz), List.append_nil])
          clear hkz
          go_wp2
          go_roundw
          case rel => exact ⟨k + 1, by omega, by go_num, by rw [HT.out]; exact hown, by (repeat' (first | (with_reducible exact Below.refl _ _) | (with_reducible assumption) | (with_reducible refine below_run ?_ (by assumption)) | (with_reducible refine below_of_upd ?_ (by assumption) ?_) | (with_reducible refine below_drewN ?_ _) | (with_reducible refine Below.drew ?_) | (with_reducible refine below_seven ?_ ?_) | (with_reducible refine below_six ?_ ?_) | (with_reducible refine below_one ?_ ?_) | (with_reducible refine Below.alloc ?_ ?_ _) | (with_reducible refine below_after ?_ ?_ (by assumption)) | (show _ ≤ _; first | omega | (simp; done) | (simp; omega))))⟩
          case measure => simp [intOf]; omega
        · have e9 : (a.kind != 0) = true := by simpa using hkz
          have HT := Lib.hid (show failedM (ids.take (k + 1)) (l.take (k + 1)) = failedM (ids.take k) (l.take k) ++ [x] by rw [HS.out, if_pos hkz])
          clear hkz
          go_wp2_with (at_builtin; refine wpList_append_own _ rfl _ _ 84 rfl w.heap.size 22 i0 _ 1 8 Tryz.underlying84 hi hz0 hz1 hz2 rfl (by decide) _ _ _ rfl (hown.alloc _) ⟨wr.heap.size, 0, none⟩ 1 1 [.int .u64 x] rfl rfl ?c1 ?c2 ?c3 ?c4 ?c5 ?_)
          case c1 =>
            intro j u hj
            match j, hj with
            | 0, hj =>
              simp at hj
              subst hj
              exact (row_facts (show RowAt _ wr.heap.size 22 #[.int .u64 x] from RowAt.new _ _ _)).1 0
          case c2 => intro u hu; simp at hu; subst hu; rfl
          case c3 => unfold maxLen; omega
          case c4 => omega
          case c5 => simp; omega
          · intro v' w1 hown' hgrow _
            have hb1 := below_grown (hb0.alloc (by omega) _) (hown.alloc _) (Nat.le_refl _) hgrow (by simp; omega)
            have hlen : (failedM (ids.take (k + 1)) (l.take (k + 1))).length = (failedM (ids.take k) (l.take k)).length + 1 := by rw [HT.out]; simp
            have hu8 : u64L (failedM (ids.take (k + 1)) (l.take (k + 1))) = u64L (failedM (ids.take k) (l.take k)) ++ [.int .u64 x] := by rw [HT.out]; simp [u64L]
            have HL := Lib.hid hlen
            have HN := Lib.hid hu8
            clear hgrow hown hlen hu8
            go_wp2
            go_roundw
            case rel => exact ⟨k + 1, by omega, by go_num, by rw [HL.out, HN.out]; exact hown', hb1⟩
            case measure => simp [intOf]; omega
      · obtain rfl : k = ids.length := by omega
        rw [List.take_length, List.take_of_length_le (by have := HNE.out; omega)] at hown
        have hfl := failed_length ids l
        go_wp2
        go_ret2
        exact ⟨_, rfl, own_ids hown rfl (by omega), hb0⟩
  · have hE : failE ids l = 14 := by rw [failE, if_pos hne]
    have hU : failU ids l = [] := by rw [failU, if_pos hne]
    rw [hE, hU]
    have e9 : ((ids.length : Int) != (l.length : Int)) = true := by simpa using (fun e : (ids.length : Int) = (l.length : Int) => hne (by omega))
    clear hE hU hne
    go_enter Tryz.func40, Tryz.ntmps40
    go_wp2
    go_ret2
    exact ⟨_, rfl, .inl ⟨rfl, _, _, rfl⟩, Below.refl _ _⟩
end Go.Proofs.YtpjmhhfpjhmiiaaGreat

namespace Go.Proofs.YtpjmhhfpjhmiiaaGreat

end Go.Proofs.YtpjmhhfpjhmiiaaGreat

namespace Go.Proofs.YtpjmhhfpjhmiiaaGreat
open Go.RowKit Go.Shelf

theorem own_upd {w w' : World} {base T S n s U : Nat} {v : Value} {xs : List Value} {cs : Array Value} (h : w.ownsRow base T S v n xs) (hr : RowAt w s U cs) (hne : T ≠ U) (hu : Upd s w w') : w'.ownsRow base T S v n xs := by
  refine ⟨h.1, ?_⟩
  rcases h.2 with hn | ⟨g, cap, cur, rfl, hbg, hg, rest⟩
  · exact .inl hn
  · refine .inr ⟨g, cap, cur, rfl, hbg, (hu.block g (lt_of_block hg) ?_).trans hg, rest⟩
    intro e
    cases e
    unfold RowAt at hr
    rw [hr] at hg
    cases hg
    exact hne rfl
theorem own_apart {w : World} {b1 T1 S1 n1 k T : Nat} {v1 : Value} {x1 : List Value} {cur : Array Value} {x : Nat × Nat} (h1 : w.ownsRow b1 T1 S1 v1 n1 x1) (hk : w.heap[k]? = some (.cells cur T x)) (hne : T1 ≠ T) : ¬ some k = v1.ownBlock := by
  intro e
  rcases h1.2 with ⟨rfl, _⟩ | ⟨g1, c1, u1, rfl, _, hg1, _⟩
  · cases e
  · simp [Value.ownBlock] at e
    subst e
    rw [hk] at hg1
    simp at hg1
    exact hne hg1.2.1.symm
theorem typed_two {w w' : World} {b1 T1 S1 n1 T : Nat} {v1 v : Value} {x1 : List Value} (h1 : w.ownsRow b1 T1 S1 v1 n1 x1) (h : Typed w v T) (hne : T1 ≠ T) (hg : w.grownBy w' v1.ownBlock) : Typed w' v T :=
  h.same fun k _ _ hk => hg.block k (lt_of_block hk) (own_apart h1 hk hne)
theorem seq_two {w w' : World} {b1 T1 S1 n1 T S n : Nat} {v1 v : Value} {x1 : List Value} {cs : Nat → Option Value} (h1 : w.ownsRow b1 T1 S1 v1 n1 x1) (h : SeqAt w S v n cs) (ht : Typed w v T) (hne : T1 ≠ T) (hg : w.grownBy w' v1.ownBlock) : SeqAt w' S v n cs :=
  SeqAt.same h hg.size fun b off cap e _ _ => by
    obtain ⟨-, cur, x, hk⟩ := ht _ _ _ e
    exact hg.block b (lt_of_block hk) (own_apart h1 hk hne)
theorem WireT.two {w w' : World} {b1 T1 S1 n1 : Nat} {v1 dv fv lv : Value} {x1 : List Value} {y : Wre} (h1 : w.ownsRow b1 T1 S1 v1 n1 x1) (h : WireT w dv fv lv y) (e1 : T1 ≠ 68) (e2 : T1 ≠ 3) (e3 : T1 ≠ 9) (hg : w.grownBy w' v1.ownBlock) : WireT w' dv fv lv y :=
  ⟨seq_two h1 h.devs h.td e1 hg, seq_two h1 h.faults h.tf e2 hg, seq_two h1 h.late h.tl e3 hg, typed_two h1 h.td e1 hg, typed_two h1 h.tf e2 hg, typed_two h1 h.tl e3 hg, h.nil, h.room⟩
theorem Tryz.info_rslt : (Tryz.prog.info? 53).map (fun i => (i.zero, i.size, i.bytes)) = some (some (.agg #[.int .i64 0, .string ⟨#[]⟩, .int .i64 0, .int .i64 0]), 4, 40) := by kernel_rfl
theorem rsl_news {w : World} {b : Nat} {T : Nat} {d : Rsl} (h : RowAt w b T (rslA d)) : ∀ (j : Nat) u, (rslA d).toList[j]? = some u → w.cell? ((⟨b, 0, none⟩ : Addr).add j) = some u := by
  intro j u hj
  have hadd : (⟨b, 0, none⟩ : Addr).add j = ⟨b, j, none⟩ := by unfold Addr.add; split <;> simp_all
  rw [hadd, (row_facts h).1 j]
  simpa using hj
theorem RslsAt.drew {w : World} {v : Value} {l : List Rsl} (h : RslsAt w v l) : RslsAt w.drew v l := RslsAt.run h (Below.drew (Below.refl _ _))
theorem drop_id {l : List Int} {k : Nat} {d : Int} (h : l[k]? = some d) : l.drop k = d :: l.drop (k + 1) := by
  have hk : k < l.length := (List.getElem?_eq_some_iff.1 h).1
  rw [List.drop_eq_getElem_cons hk, (List.getElem?_eq_some_iff.1 h).2]
/-- What All returns. -/
def MAllPost (p : Mgr × Wre × List Rsl × Int) (w : World) (e : Ending) (w' : World) : Prop :=
  ∃ da fa la ra, ∃ dn dc fn fc ln lc rc : Nat, e = .returned (.tuple #[mgrV p.1, .agg #[.slice da dn dc, .slice fa fn fc, .slice la ln lc], .slice ra p.2.2.1.length rc, .int .i64 p.2.2.2]) ∧ WireT w' (.slice da dn dc) (.slice fa fn fc) (.slice la ln lc) p.2.1 ∧ RslsAt w' (.slice ra p.2.2.1.length rc) p.2.2.1 ∧ Below w.heap.size w w'
/-- What is so in each round. -/
def MAllRel (s A : Nat) (ids : List Int) (r : Rqs) (p : Mgr × Wre × List Rsl × Int) (w wr : World) (v i : Value) : Prop :=
  ∃ (k : Nat) (x' : Mgr) (y' : Wre) (dv fv lv : Value) (out : List Rsl) (d' : Int), i = .int .i64 k ∧ k ≤ ids.length ∧ RowAt wr s 124 (sesA x' dv fv lv) ∧ WireT wr dv fv lv y' ∧ wr.ownsRow (s + 1) 53 4 v k (rslL out) ∧ out.length = k ∧
    allF r (ids.drop k) x' y' out = p ∧ RowAt wr (A + 2) 50 #[.int .u64 d', .int .i64 r.kind, .int .i64 r.par, .string r.dat] ∧ RowAt wr (A + 3) 24 #[.int .u64 0, .int .i64 0, .int .i64 0] ∧ RowAt wr (A + 4) 29 #[.slice none 0 0, .slice none 0 0, .slice none 0 0] ∧ Below A w wr

set_option maxHeartbeats 8000000 in
set_option maxRecDepth 100000 in
theorem mall_any (x : Mgr) (da fa la : Option Addr) (dn dc fn fc ln lc : Nat) (y : Wre) (ids : List Int) (ia : Option Addr) (ic : Nat) (dst kind par : Int) (dat : ByteArray) (w : World) (h : WireAt w (.slice da dn dc) (.slice fa fn fc) (.slice la ln lc) y) (hi : IdsAt w (.slice ia ids.length ic) ids) :
    Calls Tryz.prog 37 #[.agg #[.int .u64 x.id, .int .i64 x.seq, .int .i64 x.tries], .agg #[.slice da dn dc, .slice fa fn fc, .slice la ln lc], .slice ia ids.length ic, .agg #[.int .u64 dst, .int .i64 kind, .int .i64 par, .string dat]] w (MAllPost (allU x y ids ⟨dst, kind, par, dat⟩) w) := by
  obtain ⟨id, seq, tries⟩ := x
  show Calls Tryz.prog 37 #[.agg #[.int .u64 id, .int .i64 seq, .int .i64 tries], _, _, _] w _
  obtain ⟨W, hW⟩ : ∃ W, ((((w.alloc (.cells #[.int .u64 id, .int .i64 seq, .int .i64 tries] 24)).alloc (.cells #[.slice da dn dc, .slice fa fn fc, .slice la ln lc] 29)).alloc (.cells #[.int .u64 dst, .int .i64 kind, .int .i64 par, .string dat] 50)).alloc (.cells #[.int .u64 0, .int .i64 0, .int .i64 0] 24)).alloc (.cells #[.slice none 0 0, .slice none 0 0, .slice none 0 0] 29) = W := ⟨_, rfl⟩
  have hbW : Below w.heap.size w W := by rw [← hW]; (repeat' (first | (with_reducible exact Below.refl _ _) | (with_reducible assumption) | (with_reducible refine below_run ?_ (by assumption)) | (with_reducible refine below_of_upd ?_ (by assumption) ?_) | (with_reducible refine below_drewN ?_ _) | (with_reducible refine Below.drew ?_) | (with_reducible refine below_seven ?_ ?_) | (with_reducible refine below_six ?_ ?_) | (with_reducible refine below_one ?_ ?_) | (with_reducible refine Below.alloc ?_ ?_ _) | (with_reducible refine below_after ?_ ?_ (by assumption)) | (show _ ≤ _; first | omega | (simp; done) | (simp; omega))))
  have r0 : RowAt W w.heap.size 24 #[.int .u64 id, .int .i64 seq, .int .i64 tries] := by rw [← hW]; exact ((((RowAt.new _ _ _).alloc _).alloc _).alloc _).alloc _
  have r1 : RowAt W (w.heap.size + 1) 29 #[.slice da dn dc, .slice fa fn fc, .slice la ln lc] := by rw [← hW]; exact (((RowAt.mk (by simp) rfl).alloc _).alloc _).alloc _
  have r2 : RowAt W (w.heap.size + 2) 50 #[.int .u64 dst, .int .i64 kind, .int .i64 par, .string dat] := by rw [← hW]; exact ((RowAt.mk (by simp) rfl).alloc _).alloc _
  have r3 : RowAt W (w.heap.size + 3) 24 #[.int .u64 0, .int .i64 0, .int .i64 0] := by rw [← hW]; exact (RowAt.mk (by simp) rfl).alloc _
  have r4 : RowAt W (w.heap.size + 4) 29 #[.slice none 0 0, .slice none 0 0, .slice none 0 0] := by rw [← hW]; exact RowAt.mk (by simp) rfl
  obtain ⟨E1, hE1⟩ : ∃ E, mgrE ⟨id, seq, tries⟩ = E := ⟨_, rfl⟩
  obtain ⟨E2, hE2⟩ : ∃ E, wireE y = E := ⟨_, rfl⟩
  have C1 := Lib.hid (fun W => mright_any id seq tries E1 hE1 W)
  have C2 := Lib.hid (fun W hv => mcheck_any E2 da fa la dn dc fn fc ln lc y W hv hE2)
  have HE1 := Lib.hid hE1
  have HE2 := Lib.hid hE2
  have H := Lib.hid (h.run hbW)
  have HI := Lib.hid hi
  have HB := Lib.hid hbW
  have hil : (ids.length : Int) ≤ 140737488351232 := by
    rcases hi with ⟨h0, _⟩ | ⟨_, h1, _⟩ <;> omega
  have R1 := Lib.hid r1
  have R2 := Lib.hid r2
  have R3 := Lib.hid r3
  have R4 := Lib.hid r4
  have R0 := Lib.hid r0
  obtain ⟨x1, x2, x3, x4, x5, x6⟩ := row_facts r0
  clear h hi hE1 hE2 r0 r1 r2 r3 r4 hbW
  go_enter Tryz.func37, Tryz.ntmps37
  go_upto_region 1 with fail
  clear hW
  rw [show w.heap.size + 1 + 1 + 1 + 1 = w.heap.size + 4 from rfl, show w.heap.size + 1 + 1 + 1 = w.heap.size + 3 from rfl, show w.heap.size + 1 + 1 = w.heap.size + 2 from rfl]
  go_wp2_with fail
  refine (C1.out _).mono ?_
  rintro e w1 ⟨rfl, hb1⟩
  have HB1 := Lib.hid (below_run HB.out hb1)
  have H1 := Lib.hid (H.out.run hb1)
  have q0 := R0.out.run hb1
  have q1 := R1.out.run hb1
  have q3 := R3.out.run hb1
  have q4 := R4.out.run hb1
  have Q0 := Lib.hid q0
  have Q1 := Lib.hid q1
  have Q2 := Lib.hid (R2.out.run hb1)
  have Q3 := Lib.hid q3
  have Q4 := Lib.hid q4
  clear hb1 R0 R1 R2 R3 R4 x1 x2 x3 x4 x5 x6 HB H C1
  by_cases z1 : E1 = 0
  · subst z1
    obtain ⟨x1, x2, x3, x4, x5, x6⟩ := row_facts q1
    clear q0 q1 q3 q4
    go_wp2_with fail
    refine (C2.out _ H1.out).mono ?_
    rintro e w2 ⟨rfl, hb2⟩
    have HB2 := Lib.hid (below_run HB1.out hb2)
    have H2 := Lib.hid (H1.out.run hb2)
    have q0 := Q0.out.run hb2
    have q1 := Q1.out.run hb2
    have q3 := Q3.out.run hb2
    have q4 := Q4.out.run hb2
    have P2 := Lib.hid (Q2.out.run hb2)
    have P3 := Lib.hid q3
    have P4 := Lib.hid q4
    clear hb2 Q0 Q1 Q2 Q3 Q4 x1 x2 x3 x4 x5 x6 HB1 H1 C2
    by_cases z2 : E2 = 0
    · subst z2
      by_cases z3 : 64 < ids.length
      · have z3' : (64 : Int) < (ids.length : Int) := by omega
        have hU : allU ⟨id, seq, tries⟩ y ids ⟨dst, kind, par, dat⟩ = (zeroMgr, zeroWre, [], 5) := by rw [allU, if_neg (not_not_intro HE1.out), if_neg (not_not_intro HE2.out), if_pos z3]
        have HUU := Lib.hid hU
        obtain ⟨x1, x2, x3, x4, x5, x6⟩ := row_facts q3
        obtain ⟨y1, y2, y3, y4, y5, y6⟩ := row_facts q4
        clear hU z3 q0 q1 q3 q4
        go_wp2
        have hF3 : RowAt ((((((w2.setCell ⟨w.heap.size + 3, 0, none⟩ (.int .u64 0)).setCell ⟨w.heap.size + 3, 1, none⟩ (.int .i64 0)).setCell ⟨w.heap.size + 3, 2, none⟩ (.int .i64 0)).setCell ⟨w.heap.size + 4, 0, none⟩ (.slice none 0 0)).setCell ⟨w.heap.size + 4, 1, none⟩ (.slice none 0 0)).setCell ⟨w.heap.size + 4, 2, none⟩ (.slice none 0 0)) (w.heap.size + 3) 24 #[.int .u64 0, .int .i64 0, .int .i64 0] := (row3 P3.out).far3 (by omega)
        have hF4 : RowAt ((((((w2.setCell ⟨w.heap.size + 3, 0, none⟩ (.int .u64 0)).setCell ⟨w.heap.size + 3, 1, none⟩ (.int .i64 0)).setCell ⟨w.heap.size + 3, 2, none⟩ (.int .i64 0)).setCell ⟨w.heap.size + 4, 0, none⟩ (.slice none 0 0)).setCell ⟨w.heap.size + 4, 1, none⟩ (.slice none 0 0)).setCell ⟨w.heap.size + 4, 2, none⟩ (.slice none 0 0)) (w.heap.size + 4) 29 #[.slice none 0 0, .slice none 0 0, .slice none 0 0] := row3 (P4.out.far3 (by omega))
        have hFW : WireT ((((((w2.setCell ⟨w.heap.size + 3, 0, none⟩ (.int .u64 0)).setCell ⟨w.heap.size + 3, 1, none⟩ (.int .i64 0)).setCell ⟨w.heap.size + 3, 2, none⟩ (.int .i64 0)).setCell ⟨w.heap.size + 4, 0, none⟩ (.slice none 0 0)).setCell ⟨w.heap.size + 4, 1, none⟩ (.slice none 0 0)).setCell ⟨w.heap.size + 4, 2, none⟩ (.slice none 0 0)) (.slice none 0 0) (.slice none 0 0) (.slice none 0 0) zeroWre := wire3 (wire3 (wire_zero _) P3.out (by decide) (by decide) (by decide)) (P4.out.far3 (by omega)) (by decide) (by decide) (by decide)
        have hFB : Below w.heap.size w ((((((w2.setCell ⟨w.heap.size + 3, 0, none⟩ (.int .u64 0)).setCell ⟨w.heap.size + 3, 1, none⟩ (.int .i64 0)).setCell ⟨w.heap.size + 3, 2, none⟩ (.int .i64 0)).setCell ⟨w.heap.size + 4, 0, none⟩ (.slice none 0 0)).setCell ⟨w.heap.size + 4, 1, none⟩ (.slice none 0 0)).setCell ⟨w.heap.size + 4, 2, none⟩ (.slice none 0 0)) := below_three (below_three HB2.out (by omega)) (by omega)
        have f30 := cell_fact hF3 0
        have f31 := cell_fact hF3 1
        have f32 := cell_fact hF3 2
        have f40 := cell_fact hF4 0
        have f41 := cell_fact hF4 1
        have f42 := cell_fact hF4 2
        simp only [List.getElem?_toArray] at f30 f31 f32 f40 f41 f42
        rw [HUU.out]
        refine bodyPost_ret (v := .tuple #[.agg #[.int .u64 0, .int .i64 0, .int .i64 0], .agg #[.slice none 0 0, .slice none 0 0, .slice none 0 0], .slice none 0 0, .int .i64 5]) ?_ rfl ⟨none, none, none, none, 0, 0, 0, 0, 0, 0, 0, rfl, ?_, ?_, ?_⟩
        · simp [results, Tryz.results37, go_sem, f30, f31, f32, f40, f41, f42]
        · exact hFW
        · exact .inl ⟨rfl, _, _, rfl⟩
        · exact hFB
      · have z3' : ¬ (64 : Int) < (ids.length : Int) := by omega
        obtain ⟨p, hp⟩ : ∃ p, allF ⟨dst, kind, par, dat⟩ ids ⟨id, seq, tries⟩ y [] = p := ⟨_, rfl⟩
        have hU : allU ⟨id, seq, tries⟩ y ids ⟨dst, kind, par, dat⟩ = p := by rw [allU, if_neg (not_not_intro HE1.out), if_neg (not_not_intro HE2.out), if_neg z3, hp]
        have HUU := Lib.hid hU
        have HP := Lib.hid hp
        have C3 := Lib.hid (fun W hv => mcopied_any da fa la dn dc fn fc ln lc y W hv HE2.out)
        have c0 := cell_fact q0 0
        have c1 := cell_fact q0 1
        have c2 := cell_fact q0 2
        have d0 := cell_fact q1 0
        have d1 := cell_fact q1 1
        have d2 := cell_fact q1 2
        simp only [List.getElem?_toArray] at c0 c1 c2 d0 d1 d2
        obtain ⟨x1, x2, x3, x4, x5, x6⟩ := row_facts q0
        obtain ⟨y1, y2, y3, y4, y5, y6⟩ := row_facts q1
        clear hU hp x1 y1 q0 q1 q3 q4
        go_wp2
        go_region_held3 (fun w' => w'.cell? ⟨w.heap.size, 0, none⟩ = some (.int .u64 id) ∧ w'.cell? ⟨w.heap.size, 1, none⟩ = some (.int .i64 seq) ∧ w'.cell? ⟨w.heap.size, 2, none⟩ = some (.int .i64 tries) ∧ w'.cell? ⟨w.heap.size + 1, 0, none⟩ = some (.slice da dn dc) ∧ w'.cell? ⟨w.heap.size + 1, 1, none⟩ = some (.slice fa fn fc) ∧ w'.cell? ⟨w.heap.size + 1, 2, none⟩ = some (.slice la ln lc))
          (first | go_keep | (refine ⟨?_, ?_, ?_, ?_, ?_, ?_⟩ <;> assumption))
          ((go_at_call 61; refine (C3.out _ (by first | exact H2.out | exact H2.out.drew)).mono ?_; rintro e w3 ⟨a1, a2, a3, n1, k1, n2, k2, n3, k3, rfl, hw3, hb3⟩; have hb3' : Below w2.heap.size w2 w3 := (by first | exact hb3 | exact below_undrew hb3); have p0 := cell_run hb3' c0; have p1 := cell_run hb3' c1; have p2 := cell_run hb3' c2; have p3 := cell_run hb3' d0; have p4 := cell_run hb3' d1; have p5 := cell_run hb3' d2))
        have hs4 : RowAt (w3.alloc (.cells #[.int .u64 id, .int .i64 seq, .int .i64 tries, .slice a1 n1 k1, .slice a2 n2 k2, .slice a3 n3 k3] 124)) w3.heap.size 124 (sesA ⟨id, seq, tries⟩ (.slice a1 n1 k1) (.slice a2 n2 k2) (.slice a3 n3 k3)) := RowAt.new _ _ _
        have hb4 : Below w3.heap.size w3 (w3.alloc (.cells #[.int .u64 id, .int .i64 seq, .int .i64 tries, .slice a1 n1 k1, .slice a2 n2 k2, .slice a3 n3 k3] 124)) := (Below.refl _ _).alloc (Nat.le_refl _) _
        have hb24 := below_run hb3' hb4
        have hBA := below_run HB2.out hb24
        have hlt5 : w.heap.size + 4 < w3.heap.size := by
          have h9 := lt_of_block P4.out
          have h8 := hb3'.size
          omega
        have HREL := Lib.hid (show MAllRel w3.heap.size w.heap.size ids ⟨dst, kind, par, dat⟩ p w _ (.slice none 0 0) (.int .i64 0) from
          ⟨0, ⟨id, seq, tries⟩, y, _, _, _, [], dst, rfl, Nat.zero_le _, hs4, hw3.run hb4, World.ownsRow_nil _ _ _ _, rfl, HP.out, P2.out.run hb24, P3.out.run hb24, P4.out.run hb24, hBA⟩)
        clear p0 p1 p2 p3 p4 p5 hw3 hb3 hb3' hs4 hb4 hb24 hBA c0 c1 c2 d0 d1 d2 x2 x3 x4 x5 x6 y2 y3 y4 y5 y6 C3 P2 P3 P4 HB2 H2 z3 HP
        generalize (w3.alloc (.cells #[.int .u64 id, .int .i64 seq, .int .i64 tries, .slice a1 n1 k1, .slice a2 n2 k2, .slice a3 n3 k3] 124)) = V0 at HREL ⊢
        generalize w3.heap.size = s at HREL hlt5 ⊢
        obtain ⟨i0, hi4, hz0, hz1, hz2⟩ := info_parts Tryz.info_rslt
        go_wp2
        go_loopw [15, 17, 18, 45] (fun v0 _ _ v3 wr => MAllRel s w.heap.size ids ⟨dst, kind, par, dat⟩ p w wr v0 v3) (fun _ _ _ i _ => ids.length - (intOf i).toNat)
        case atStart => exact HREL.out
        case round =>
          obtain ⟨k, ⟨i', s', t'⟩, y', dv, fv, lv, out, d', rfl, hk, hs, hw, hown, hol, hall, hq, h3, h4, hb0⟩ := hrel
          obtain ⟨da', dc', rfl⟩ := seq_shape hw.devs
          obtain ⟨fa', fc', rfl⟩ := seq_shape hw.faults
          obtain ⟨la', lc', rfl⟩ := seq_shape hw.late
          obtain ⟨dn', hdn⟩ : ∃ n, y'.devs.length = n := ⟨_, rfl⟩
          obtain ⟨fn', hfn⟩ : ∃ n, y'.faults.length = n := ⟨_, rfl⟩
          obtain ⟨ln', hln⟩ : ∃ n, y'.late.length = n := ⟨_, rfl⟩
          rw [hdn, hfn, hln] at hs
          simp only [hdn, hfn, hln] at hw
          have HOL := Lib.hid hol
          clear hdn hfn hln hol HREL
          by_cases hlt2 : k < ids.length
          · have hlt3 : (k : Int) < (ids.length : Int) := by omega
            have hk0 : (0 : Int) ≤ (k : Int) := by omega
            obtain ⟨b, off, cap, hve, hcel⟩ : ∃ b off cap, Value.slice ia ids.length ic = .slice (some ⟨b, off, none⟩) ids.length cap ∧ ∀ i, i < ids.length * 1 → wr.cell? ⟨b, off + i, none⟩ = u64C ids i := by
              rcases HI.out.below hb0 with ⟨h0, _⟩ | ⟨h0, h1, b, off, cap, hv, hbl, hcel⟩
              · omega
              · exact ⟨b, off, cap, hv, hcel⟩
            cases hve
            obtain ⟨d, hd, f0⟩ := id_cell hcel k hlt2
            have hst := hall
            have e0 : toR ⟨dst, kind, par, dat⟩ d = ⟨d, kind, par, dat⟩ := rfl
            obtain ⟨E, hE⟩ : ∃ E, askE ⟨i', s', t'⟩ y' ⟨d, kind, par, dat⟩ = E := ⟨_, rfl⟩
            rw [drop_id hd, allF, e0, hE] at hst
            have HST := Lib.hid hst
            have HE := Lib.hid hE
            have HQ := Lib.hid hq
            have HS := Lib.hid hs
            have HW := Lib.hid hw
            have HO := Lib.hid hown
            have H3 := Lib.hid h3
            have H4 := Lib.hid h4
            have HB0 := Lib.hid hb0
            have hsz0 := hb0.size
            have hq4 : w.heap.size + 4 < wr.heap.size := lt_of_block h4
            have hs4 : s < wr.heap.size := lt_of_block hs
            obtain ⟨x1, x2, x3, x4, x5, x6⟩ := row_facts hq
            clear hst hE hq hs hw hown h3 h4 hb0 hall hcel hd e0
            go_upto_region 15 with fail
            have u1 : Upd (w.heap.size + 2) wr (wr.setCell ⟨w.heap.size + 2, 0, none⟩ (.int .u64 d)) := upd_set (upd_refl _ _) 0 _
            have t2 : RowAt (wr.setCell ⟨w.heap.size + 2, 0, none⟩ (.int .u64 d)) (w.heap.size + 2) 50 #[.int .u64 d, .int .i64 kind, .int .i64 par, .string dat] := RowAt.set HQ.out rfl
            have ts : RowAt (wr.setCell ⟨w.heap.size + 2, 0, none⟩ (.int .u64 d)) s 124 #[.int .u64 i', .int .i64 s', .int .i64 t', .slice da' dn' dc', .slice fa' fn' fc', .slice la' ln' lc'] := RowAt.upd HS.out u1 (by omega)
            have t3 := H3.out.upd u1 (by omega)
            have t4 := H4.out.upd u1 (by omega)
            have tw := HW.out.upd2 HQ.out (by decide) (by decide) (by decide) u1
            have tO := own_upd HO.out HQ.out (by decide) u1
            have tb : Below w.heap.size w (wr.setCell ⟨w.heap.size + 2, 0, none⟩ (.int .u64 d)) := below_one HB0.out (by omega)
            have tz := u1.size
            generalize (wr.setCell ⟨w.heap.size + 2, 0, none⟩ (.int .u64 d)) = Z at u1 t2 ts t3 t4 tw tO tb tz ⊢
            have hkeep : ∀ W', Below Z.heap.size Z W' → (W'.cell? ⟨s, 0, none⟩ = some (.int .u64 i') ∧ W'.cell? ⟨s, 1, none⟩ = some (.int .i64 s') ∧ W'.cell? ⟨s, 2, none⟩ = some (.int .i64 t') ∧ W'.cell? ⟨s, 3, none⟩ = some (.slice da' dn' dc') ∧ W'.cell? ⟨s, 4, none⟩ = some (.slice fa' fn' fc') ∧ W'.cell? ⟨s, 5, none⟩ = some (.slice la' ln' lc') ∧ W'.cell? ⟨w.heap.size + 2, 0, none⟩ = some (.int .u64 d) ∧ W'.cell? ⟨w.heap.size + 2, 1, none⟩ = some (.int .i64 kind) ∧ W'.cell? ⟨w.heap.size + 2, 2, none⟩ = some (.int .i64 par) ∧ W'.cell? ⟨w.heap.size + 2, 3, none⟩ = some (.string dat)) := by
              intro W' hb
              have a0 := ts.run hb
              have a1 := t2.run hb
              exact ⟨cell_fact a0 0, cell_fact a0 1, cell_fact a0 2, cell_fact a0 3, cell_fact a0 4, cell_fact a0 5, cell_fact a1 0, cell_fact a1 1, cell_fact a1 2, cell_fact a1 3⟩
            have HK := Lib.hid hkeep
            have hbd : Below Z.heap.size Z Z.drew := Below.drew (Below.refl _ _)
            obtain ⟨m0, m1, m2, m3, m4, m5, m6, m7, m8, m9⟩ := hkeep Z (Below.refl _ _)
            have TW := Lib.hid tw
            have CK := Lib.hid (fun W' (hb : Below Z.heap.size Z W') => maskable_any E i' s' t' da' fa' la' dn' dc' fn' fc' ln' lc' y' d kind par dat W' (TW.out.run hb).at HE.out)
            have TS := Lib.hid ts
            have T2 := Lib.hid t2
            have T3 := Lib.hid t3
            have T4 := Lib.hid t4
            have TO := Lib.hid tO
            have TB := Lib.hid tb
            clear hkeep u1 t2 ts t3 t4 tw tO tb x1 x2 x3 x4 x5 x6 f0 HQ HS HW HO H3 H4 HB0
            go_region_held3 (fun W' => W'.cell? ⟨s, 0, none⟩ = some (.int .u64 i') ∧ W'.cell? ⟨s, 1, none⟩ = some (.int .i64 s') ∧ W'.cell? ⟨s, 2, none⟩ = some (.int .i64 t') ∧ W'.cell? ⟨s, 3, none⟩ = some (.slice da' dn' dc') ∧ W'.cell? ⟨s, 4, none⟩ = some (.slice fa' fn' fc') ∧ W'.cell? ⟨s, 5, none⟩ = some (.slice la' ln' lc') ∧ W'.cell? ⟨w.heap.size + 2, 0, none⟩ = some (.int .u64 d) ∧ W'.cell? ⟨w.heap.size + 2, 1, none⟩ = some (.int .i64 kind) ∧ W'.cell? ⟨w.heap.size + 2, 2, none⟩ = some (.int .i64 par) ∧ W'.cell? ⟨w.heap.size + 2, 3, none⟩ = some (.string dat))
              (first | go_keep | exact HK.out _ (by assumption))
              ((go_at_call 60; refine (CK.out _ (by assumption)).mono ?_; rintro e w5 ⟨rfl, hb5⟩; have hc5 : Below Z.heap.size Z w5 := below_run (by assumption) hb5; clear hb5))
            have hs5 := TS.out.run hc5
            have h25 := T2.out.run hc5
            have hw5 := TW.out.run hc5
            have ho5 := own_run TO.out hc5
            have h35 := T3.out.run hc5
            have h45 := T4.out.run hc5
            have hb5 := below_run TB.out hc5
            have hsz5 := hc5.size
            have H35 := Lib.hid h35
            have H45 := Lib.hid h45
            have H25 := Lib.hid h25
            have HS5 := Lib.hid hs5
            have HB5 := Lib.hid hb5
            have HO5 := Lib.hid ho5
            clear m0 m1 m2 m3 m4 m5 m6 m7 m8 m9 HK hbd CK TS T2 T3 T4 TO TB TW hc5
            by_cases hz : E = 0
            · subst hz
              obtain ⟨g1, g2, g3, -, -, -⟩ := ask_parts HE.out
              obtain ⟨-, -, -, k4, k5⟩ := mgr_parts g1
              obtain ⟨⟨⟨j1, j2, j3⟩, y2, ⟨ak, ad, ar, at'⟩⟩, hp2⟩ : ∃ q, askM ⟨i', s', t'⟩ y' ⟨d, kind, par, dat⟩ = q := ⟨_, rfl⟩
              have hca := mask_any s ⟨i', s', t'⟩ d kind par dat y' _ _ _ w5 hs5 hw5 g2 g3 k4 k5
              have hst2 := HST.out
              rw [hp2] at hca hst2
              rw [if_pos rfl] at hst2
              dsimp only at hst2
              have CA := Lib.hid hca
              have HST2 := Lib.hid hst2
              obtain ⟨x1, x2, x3, x4, x5, x6⟩ := row_facts h25
              clear hca hst2 g1 g2 g3 k4 k5 hp2 hs5 h25 hw5 ho5 h35 h45 hb5 HST HE
              go_wp2_with fail
              refine (CA.out).mono ?_
              rintro e w6 ⟨dv2, fv2, lv2, he, hs6, hw6, hu6⟩
              have he' : e = .returned (.agg #[.int .i64 ak, .string ad, .int .i64 ar, .int .i64 at']) := he
              subst he'
              have hown6 := own_upd HO5.out HS5.out (by decide) hu6
              have h26 := H25.out.upd hu6 (by omega)
              have h36 := H35.out.upd hu6 (by omega)
              have h46 := H45.out.upd hu6 (by omega)
              have hb6 : Below w.heap.size w w6 := below_of_upd HB5.out hu6 (by omega)
              have hsz6 := hu6.size
              have H26 := Lib.hid h26
              have H36 := Lib.hid h36
              have H46 := Lib.hid h46
              have HB6 := Lib.hid hb6
              have HS6 := Lib.hid hs6
              have HW6 := Lib.hid hw6
              have HO6 := Lib.hid hown6
              clear he h26 h36 h46 hb6 hs6 hw6 hown6 hu6 x1 x2 x3 x4 x5 x6 H25 H35 H45 HB5 HS5 HO5 CA
              go_wp2_with (at_builtin; refine wpList_append_own _ rfl _ _ 85 rfl (s + 1) 53 i0 _ 4 40 Tryz.underlying85 hi4 hz0 hz1 hz2 rfl (by decide) _ _ _ rfl (HO6.out.alloc _) ⟨w6.heap.size, 0, none⟩ 1 1 (rslA ⟨ak, ad, ar, at'⟩).toList rfl rfl ?c1 (rsl_ones ⟨ak, ad, ar, at'⟩) ?c3 ?c4 ?c5 ?_)
              case c1 => exact rsl_news (d := ⟨ak, ad, ar, at'⟩) (RowAt.mk (by simp) rfl)
              case c3 => unfold maxLen; omega
              case c4 => omega
              case c5 => simp; omega
              · intro v' w7 hown' hgrow _
                have hd2 : rslL (out ++ [(⟨ak, ad, ar, at'⟩ : Rsl)]) = rslL out ++ (rslA ⟨ak, ad, ar, at'⟩).toList := by rw [rslL_append]; rfl
                have hs7 := row_two (HO6.out.alloc _) (HS6.out.alloc _) (by decide) hgrow
                have h27 := row_two (HO6.out.alloc _) (H26.out.alloc _) (by decide) hgrow
                have h37 := row_two (HO6.out.alloc _) (H36.out.alloc _) (by decide) hgrow
                have h47 := row_two (HO6.out.alloc _) (H46.out.alloc _) (by decide) hgrow
                have hw7 := WireT.two (HO6.out.alloc _) (HW6.out.run ((Below.refl _ _).alloc (Nat.le_refl _) _)) (by decide) (by decide) (by decide) hgrow
                have hb7 := below_grown (HB6.out.alloc (by omega) _) (HO6.out.alloc _) (by omega) hgrow (by simp; omega)
                rw [← hd2] at hown'
                have HREL2 := Lib.hid (show MAllRel s w.heap.size ids ⟨dst, kind, par, dat⟩ p w w7 v' (.int .i64 ((k + 1 : Nat) : Int)) from ⟨k + 1, ⟨j1, j2, j3⟩, y2, dv2, fv2, lv2, out ++ [⟨ak, ad, ar, at'⟩], d, rfl, by omega, hs7, hw7, hown', by simp [HOL.out], HST2.out, h27, h37, h47, hb7⟩)
                clear hd2 hs7 h27 h37 h47 hw7 hb7 hown' hgrow HO6 HS6 H26 H36 H46 HW6 HB6 HST2
                go_wp2
                go_roundw
                case rel =>
                  refine Eq.mpr (congrArg (fun i => MAllRel s w.heap.size ids ⟨dst, kind, par, dat⟩ p w w7 v' i) (?_ : _ = Value.int .i64 ((k + 1 : Nat) : Int))) HREL2.out
                  go_num
                case measure => simp [intOf]; omega
            · have e9 : (E != 0) = true := by simpa using hz
              have hst2 := HST.out
              rw [if_neg hz] at hst2
              have hU2 := HUU.out
              rw [← hst2] at hU2
              have HU2 := Lib.hid hU2
              have hq3 : w.heap.size + 3 < w5.heap.size := by omega
              obtain ⟨x1, x2, x3, x4, x5, x6⟩ := row_facts h35
              obtain ⟨y1, y2, y3, y4, y5, y6⟩ := row_facts h45
              clear hz hst2 hU2 hs5 h25 hw5 ho5 h35 h45 hb5 HST HE
              go_wp2
              have hF3 : RowAt ((((((w5.setCell ⟨w.heap.size + 3, 0, none⟩ (.int .u64 0)).setCell ⟨w.heap.size + 3, 1, none⟩ (.int .i64 0)).setCell ⟨w.heap.size + 3, 2, none⟩ (.int .i64 0)).setCell ⟨w.heap.size + 4, 0, none⟩ (.slice none 0 0)).setCell ⟨w.heap.size + 4, 1, none⟩ (.slice none 0 0)).setCell ⟨w.heap.size + 4, 2, none⟩ (.slice none 0 0)) (w.heap.size + 3) 24 #[.int .u64 0, .int .i64 0, .int .i64 0] := (row3 H35.out).far3 (by omega)
              have hF4 : RowAt ((((((w5.setCell ⟨w.heap.size + 3, 0, none⟩ (.int .u64 0)).setCell ⟨w.heap.size + 3, 1, none⟩ (.int .i64 0)).setCell ⟨w.heap.size + 3, 2, none⟩ (.int .i64 0)).setCell ⟨w.heap.size + 4, 0, none⟩ (.slice none 0 0)).setCell ⟨w.heap.size + 4, 1, none⟩ (.slice none 0 0)).setCell ⟨w.heap.size + 4, 2, none⟩ (.slice none 0 0)) (w.heap.size + 4) 29 #[.slice none 0 0, .slice none 0 0, .slice none 0 0] := row3 (H45.out.far3 (by omega))
              have hFW : WireT ((((((w5.setCell ⟨w.heap.size + 3, 0, none⟩ (.int .u64 0)).setCell ⟨w.heap.size + 3, 1, none⟩ (.int .i64 0)).setCell ⟨w.heap.size + 3, 2, none⟩ (.int .i64 0)).setCell ⟨w.heap.size + 4, 0, none⟩ (.slice none 0 0)).setCell ⟨w.heap.size + 4, 1, none⟩ (.slice none 0 0)).setCell ⟨w.heap.size + 4, 2, none⟩ (.slice none 0 0)) (.slice none 0 0) (.slice none 0 0) (.slice none 0 0) zeroWre := wire3 (wire3 (wire_zero _) H35.out (by decide) (by decide) (by decide)) (H45.out.far3 (by omega)) (by decide) (by decide) (by decide)
              have hFB : Below w.heap.size w ((((((w5.setCell ⟨w.heap.size + 3, 0, none⟩ (.int .u64 0)).setCell ⟨w.heap.size + 3, 1, none⟩ (.int .i64 0)).setCell ⟨w.heap.size + 3, 2, none⟩ (.int .i64 0)).setCell ⟨w.heap.size + 4, 0, none⟩ (.slice none 0 0)).setCell ⟨w.heap.size + 4, 1, none⟩ (.slice none 0 0)).setCell ⟨w.heap.size + 4, 2, none⟩ (.slice none 0 0)) := below_three (below_three HB5.out (by omega)) (by omega)
              have f30 := cell_fact hF3 0
              have f31 := cell_fact hF3 1
              have f32 := cell_fact hF3 2
              have f40 := cell_fact hF4 0
              have f41 := cell_fact hF4 1
              have f42 := cell_fact hF4 2
              simp only [List.getElem?_toArray] at f30 f31 f32 f40 f41 f42
              rw [HU2.out]
              refine bodyPost_ret (v := .tuple #[.agg #[.int .u64 0, .int .i64 0, .int .i64 0], .agg #[.slice none 0 0, .slice none 0 0, .slice none 0 0], .slice none 0 0, .int .i64 E]) ?_ rfl ⟨none, none, none, none, 0, 0, 0, 0, 0, 0, 0, rfl, ?_, ?_, ?_⟩
              · simp [results, Tryz.results37, go_sem, f30, f31, f32, f40, f41, f42]
              · exact hFW
              · exact .inl ⟨rfl, _, _, rfl⟩
              · exact hFB
          · obtain rfl : k = ids.length := by omega
            rw [List.drop_length, allF] at hall
            subst hall
            have hown2 := hown
            rw [← HOL.out] at hown2
            obtain ⟨ra, rc, rfl⟩ := shape_of (own_rsls hown2 (by have := HOL.out; omega))
            have hss : RowAt wr s 124 #[.int .u64 i', .int .i64 s', .int .i64 t', .slice da' dn' dc', .slice fa' fn' fc', .slice la' ln' lc'] := hs
            have T3 := Lib.hid h3
            have T4 := Lib.hid h4
            have W5h := Lib.hid hw
            have OW := Lib.hid hown2
            have B5 := Lib.hid hb0
            obtain ⟨p1, p2, p3, p4, p5, p6⟩ := row_facts hss
            obtain ⟨m1, m2, m3, m4, m5, m6⟩ := row_facts h3
            obtain ⟨n1', n2', n3', n4', n5', n6'⟩ := row_facts h4
            have c0 := cell_fact hss 0
            have c1 := cell_fact hss 1
            have c2 := cell_fact hss 2
            have c3 := cell_fact hss 3
            have c4 := cell_fact hss 4
            have c5 := cell_fact hss 5
            simp only [List.getElem?_toArray] at c0 c1 c2 c3 c4 c5
            have g1 : ¬ s = w.heap.size + 3 := by omega
            have g2 : ¬ s = w.heap.size + 4 := by omega
            have g7 : ¬ w.heap.size + 3 = s := by omega
            have g8 : ¬ w.heap.size + 4 = s := by omega
            have hol2 : (out.length : Int) ≤ 140737488351232 := by have := HOL.out; omega
            clear p1 hss hs hw hown hown2 hq h3 h4 hb0
            go_wp2_with fail
            go_region_held3 (fun w' => w'.cell? ⟨s, 0, none⟩ = some (.int .u64 i') ∧ w'.cell? ⟨s, 1, none⟩ = some (.int .i64 s') ∧ w'.cell? ⟨s, 2, none⟩ = some (.int .i64 t') ∧ w'.cell? ⟨s, 3, none⟩ = some (.slice da' dn' dc') ∧ w'.cell? ⟨s, 4, none⟩ = some (.slice fa' fn' fc') ∧ w'.cell? ⟨s, 5, none⟩ = some (.slice la' ln' lc')) (go_keep) (fail)
            all_goals go_wp2
            have hF3 : RowAt ((((((wr.setCell ⟨w.heap.size + 3, 0, none⟩ (.int .u64 i')).setCell ⟨w.heap.size + 3, 1, none⟩ (.int .i64 s')).setCell ⟨w.heap.size + 3, 2, none⟩ (.int .i64 t')).setCell ⟨w.heap.size + 4, 0, none⟩ (.slice da' dn' dc')).setCell ⟨w.heap.size + 4, 1, none⟩ (.slice fa' fn' fc')).setCell ⟨w.heap.size + 4, 2, none⟩ (.slice la' ln' lc')) (w.heap.size + 3) 24 #[.int .u64 i', .int .i64 s', .int .i64 t'] := (row3 T3.out).far3 (by omega)
            have hF4 : RowAt ((((((wr.setCell ⟨w.heap.size + 3, 0, none⟩ (.int .u64 i')).setCell ⟨w.heap.size + 3, 1, none⟩ (.int .i64 s')).setCell ⟨w.heap.size + 3, 2, none⟩ (.int .i64 t')).setCell ⟨w.heap.size + 4, 0, none⟩ (.slice da' dn' dc')).setCell ⟨w.heap.size + 4, 1, none⟩ (.slice fa' fn' fc')).setCell ⟨w.heap.size + 4, 2, none⟩ (.slice la' ln' lc')) (w.heap.size + 4) 29 #[.slice da' dn' dc', .slice fa' fn' fc', .slice la' ln' lc'] := row3 (T4.out.far3 (by omega))
            have hFW : WireT ((((((wr.setCell ⟨w.heap.size + 3, 0, none⟩ (.int .u64 i')).setCell ⟨w.heap.size + 3, 1, none⟩ (.int .i64 s')).setCell ⟨w.heap.size + 3, 2, none⟩ (.int .i64 t')).setCell ⟨w.heap.size + 4, 0, none⟩ (.slice da' dn' dc')).setCell ⟨w.heap.size + 4, 1, none⟩ (.slice fa' fn' fc')).setCell ⟨w.heap.size + 4, 2, none⟩ (.slice la' ln' lc')) (.slice da' dn' dc') (.slice fa' fn' fc') (.slice la' ln' lc') y' := wire3 (wire3 W5h.out T3.out (by decide) (by decide) (by decide)) (T4.out.far3 (by omega)) (by decide) (by decide) (by decide)
            have hFB : Below w.heap.size w ((((((wr.setCell ⟨w.heap.size + 3, 0, none⟩ (.int .u64 i')).setCell ⟨w.heap.size + 3, 1, none⟩ (.int .i64 s')).setCell ⟨w.heap.size + 3, 2, none⟩ (.int .i64 t')).setCell ⟨w.heap.size + 4, 0, none⟩ (.slice da' dn' dc')).setCell ⟨w.heap.size + 4, 1, none⟩ (.slice fa' fn' fc')).setCell ⟨w.heap.size + 4, 2, none⟩ (.slice la' ln' lc')) := below_three (below_three B5.out (by omega)) (by omega)
            have hFO : RslsAt ((((((wr.setCell ⟨w.heap.size + 3, 0, none⟩ (.int .u64 i')).setCell ⟨w.heap.size + 3, 1, none⟩ (.int .i64 s')).setCell ⟨w.heap.size + 3, 2, none⟩ (.int .i64 t')).setCell ⟨w.heap.size + 4, 0, none⟩ (.slice da' dn' dc')).setCell ⟨w.heap.size + 4, 1, none⟩ (.slice fa' fn' fc')).setCell ⟨w.heap.size + 4, 2, none⟩ (.slice la' ln' lc')) (.slice ra out.length rc) out := own_rsls (own_upd (own_upd OW.out T3.out (by decide) upd3) (T4.out.far3 (by omega)) (by decide) upd3) (by omega)
            have f30 := cell_fact hF3 0
            have f31 := cell_fact hF3 1
            have f32 := cell_fact hF3 2
            have f40 := cell_fact hF4 0
            have f41 := cell_fact hF4 1
            have f42 := cell_fact hF4 2
            simp only [List.getElem?_toArray] at f30 f31 f32 f40 f41 f42
            rw [HUU.out]
            refine bodyPost_ret (v := .tuple #[.agg #[.int .u64 i', .int .i64 s', .int .i64 t'], .agg #[.slice da' dn' dc', .slice fa' fn' fc', .slice la' ln' lc'], .slice ra out.length rc, .int .i64 0]) ?_ rfl ⟨da', fa', la', ra, dn', dc', fn', fc', ln', lc', rc, rfl, ?_, ?_, ?_⟩
            · simp [results, Tryz.results37, go_sem, f30, f31, f32, f40, f41, f42]
            · exact hFW.drew
            · exact hFO.drew
            · exact Below.drew hFB
    · have e9 : (E2 != 0) = true := by simpa using z2
      have hU : allU ⟨id, seq, tries⟩ y ids ⟨dst, kind, par, dat⟩ = (zeroMgr, zeroWre, [], E2) := by rw [allU, if_neg (not_not_intro HE1.out), if_pos (by rw [HE2.out]; exact z2), HE2.out]
      have HUU := Lib.hid hU
      obtain ⟨x1, x2, x3, x4, x5, x6⟩ := row_facts q3
      obtain ⟨y1, y2, y3, y4, y5, y6⟩ := row_facts q4
      clear hU z2 q0 q1 q3 q4
      go_wp2
      have hF3 : RowAt ((((((w2.setCell ⟨w.heap.size + 3, 0, none⟩ (.int .u64 0)).setCell ⟨w.heap.size + 3, 1, none⟩ (.int .i64 0)).setCell ⟨w.heap.size + 3, 2, none⟩ (.int .i64 0)).setCell ⟨w.heap.size + 4, 0, none⟩ (.slice none 0 0)).setCell ⟨w.heap.size + 4, 1, none⟩ (.slice none 0 0)).setCell ⟨w.heap.size + 4, 2, none⟩ (.slice none 0 0)) (w.heap.size + 3) 24 #[.int .u64 0, .int .i64 0, .int .i64 0] := (row3 P3.out).far3 (by omega)
      have hF4 : RowAt ((((((w2.setCell ⟨w.heap.size + 3, 0, none⟩ (.int .u64 0)).setCell ⟨w.heap.size + 3, 1, none⟩ (.int .i64 0)).setCell ⟨w.heap.size + 3, 2, none⟩ (.int .i64 0)).setCell ⟨w.heap.size + 4, 0, none⟩ (.slice none 0 0)).setCell ⟨w.heap.size + 4, 1, none⟩ (.slice none 0 0)).setCell ⟨w.heap.size + 4, 2, none⟩ (.slice none 0 0)) (w.heap.size + 4) 29 #[.slice none 0 0, .slice none 0 0, .slice none 0 0] := row3 (P4.out.far3 (by omega))
      have hFW : WireT ((((((w2.setCell ⟨w.heap.size + 3, 0, none⟩ (.int .u64 0)).setCell ⟨w.heap.size + 3, 1, none⟩ (.int .i64 0)).setCell ⟨w.heap.size + 3, 2, none⟩ (.int .i64 0)).setCell ⟨w.heap.size + 4, 0, none⟩ (.slice none 0 0)).setCell ⟨w.heap.size + 4, 1, none⟩ (.slice none 0 0)).setCell ⟨w.heap.size + 4, 2, none⟩ (.slice none 0 0)) (.slice none 0 0) (.slice none 0 0) (.slice none 0 0) zeroWre := wire3 (wire3 (wire_zero _) P3.out (by decide) (by decide) (by decide)) (P4.out.far3 (by omega)) (by decide) (by decide) (by decide)
      have hFB : Below w.heap.size w ((((((w2.setCell ⟨w.heap.size + 3, 0, none⟩ (.int .u64 0)).setCell ⟨w.heap.size + 3, 1, none⟩ (.int .i64 0)).setCell ⟨w.heap.size + 3, 2, none⟩ (.int .i64 0)).setCell ⟨w.heap.size + 4, 0, none⟩ (.slice none 0 0)).setCell ⟨w.heap.size + 4, 1, none⟩ (.slice none 0 0)).setCell ⟨w.heap.size + 4, 2, none⟩ (.slice none 0 0)) := below_three (below_three HB2.out (by omega)) (by omega)
      have f30 := cell_fact hF3 0
      have f31 := cell_fact hF3 1
      have f32 := cell_fact hF3 2
      have f40 := cell_fact hF4 0
      have f41 := cell_fact hF4 1
      have f42 := cell_fact hF4 2
      simp only [List.getElem?_toArray] at f30 f31 f32 f40 f41 f42
      rw [HUU.out]
      refine bodyPost_ret (v := .tuple #[.agg #[.int .u64 0, .int .i64 0, .int .i64 0], .agg #[.slice none 0 0, .slice none 0 0, .slice none 0 0], .slice none 0 0, .int .i64 E2]) ?_ rfl ⟨none, none, none, none, 0, 0, 0, 0, 0, 0, 0, rfl, ?_, ?_, ?_⟩
      · simp [results, Tryz.results37, go_sem, f30, f31, f32, f40, f41, f42]
      · exact hFW
      · exact .inl ⟨rfl, _, _, rfl⟩
      · exact hFB
  · have e9 : (E1 != 0) = true := by simpa using z1
    have hU : allU ⟨id, seq, tries⟩ y ids ⟨dst, kind, par, dat⟩ = (zeroMgr, zeroWre, [], E1) := by rw [allU, if_pos (by rw [HE1.out]; exact z1), HE1.out]
    have HUU := Lib.hid hU
    obtain ⟨x1, x2, x3, x4, x5, x6⟩ := row_facts q3
    obtain ⟨y1, y2, y3, y4, y5, y6⟩ := row_facts q4
    clear hU z1 q0 q1 q3 q4
    go_wp2
    have hF3 : RowAt ((((((w1.setCell ⟨w.heap.size + 3, 0, none⟩ (.int .u64 0)).setCell ⟨w.heap.size + 3, 1, none⟩ (.int .i64 0)).setCell ⟨w.heap.size + 3, 2, none⟩ (.int .i64 0)).setCell ⟨w.heap.size + 4, 0, none⟩ (.slice none 0 0)).setCell ⟨w.heap.size + 4, 1, none⟩ (.slice none 0 0)).setCell ⟨w.heap.size + 4, 2, none⟩ (.slice none 0 0)) (w.heap.size + 3) 24 #[.int .u64 0, .int .i64 0, .int .i64 0] := (row3 Q3.out).far3 (by omega)
    have hF4 : RowAt ((((((w1.setCell ⟨w.heap.size + 3, 0, none⟩ (.int .u64 0)).setCell ⟨w.heap.size + 3, 1, none⟩ (.int .i64 0)).setCell ⟨w.heap.size + 3, 2, none⟩ (.int .i64 0)).setCell ⟨w.heap.size + 4, 0, none⟩ (.slice none 0 0)).setCell ⟨w.heap.size + 4, 1, none⟩ (.slice none 0 0)).setCell ⟨w.heap.size + 4, 2, none⟩ (.slice none 0 0)) (w.heap.size + 4) 29 #[.slice none 0 0, .slice none 0 0, .slice none 0 0] := row3 (Q4.out.far3 (by omega))
    have hFW : WireT ((((((w1.setCell ⟨w.heap.size + 3, 0, none⟩ (.int .u64 0)).setCell ⟨w.heap.size + 3, 1, none⟩ (.int .i64 0)).setCell ⟨w.heap.size + 3, 2, none⟩ (.int .i64 0)).setCell ⟨w.heap.size + 4, 0, none⟩ (.slice none 0 0)).setCell ⟨w.heap.size + 4, 1, none⟩ (.slice none 0 0)).setCell ⟨w.heap.size + 4, 2, none⟩ (.slice none 0 0)) (.slice none 0 0) (.slice none 0 0) (.slice none 0 0) zeroWre := wire3 (wire3 (wire_zero _) Q3.out (by decide) (by decide) (by decide)) (Q4.out.far3 (by omega)) (by decide) (by decide) (by decide)
    have hFB : Below w.heap.size w ((((((w1.setCell ⟨w.heap.size + 3, 0, none⟩ (.int .u64 0)).setCell ⟨w.heap.size + 3, 1, none⟩ (.int .i64 0)).setCell ⟨w.heap.size + 3, 2, none⟩ (.int .i64 0)).setCell ⟨w.heap.size + 4, 0, none⟩ (.slice none 0 0)).setCell ⟨w.heap.size + 4, 1, none⟩ (.slice none 0 0)).setCell ⟨w.heap.size + 4, 2, none⟩ (.slice none 0 0)) := below_three (below_three HB1.out (by omega)) (by omega)
    have f30 := cell_fact hF3 0
    have f31 := cell_fact hF3 1
    have f32 := cell_fact hF3 2
    have f40 := cell_fact hF4 0
    have f41 := cell_fact hF4 1
    have f42 := cell_fact hF4 2
    simp only [List.getElem?_toArray] at f30 f31 f32 f40 f41 f42
    rw [HUU.out]
    refine bodyPost_ret (v := .tuple #[.agg #[.int .u64 0, .int .i64 0, .int .i64 0], .agg #[.slice none 0 0, .slice none 0 0, .slice none 0 0], .slice none 0 0, .int .i64 E1]) ?_ rfl ⟨none, none, none, none, 0, 0, 0, 0, 0, 0, 0, rfl, ?_, ?_, ?_⟩
    · simp [results, Tryz.results37, go_sem, f30, f31, f32, f40, f41, f42]
    · exact hFW
    · exact .inl ⟨rfl, _, _, rfl⟩
    · exact hFB
end Go.Proofs.YtpjmhhfpjhmiiaaGreat
