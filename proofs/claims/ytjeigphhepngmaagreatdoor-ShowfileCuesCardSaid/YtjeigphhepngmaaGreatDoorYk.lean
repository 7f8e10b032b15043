/-
  Right moves: the lists.
  Right moves: the lists of both sides.
-/
import Derived.Test.YtjeigphhepngmaaGreatDoorYi
import Derived.StillTailTactics
namespace Go.Proofs.YtjeigphhepngmaaGreatDoor
open Go.RowKit

theorem cell_f {w : World} {b T : Nat} {cs : Array Value} (h : RowAt w b T cs) (o : Nat) : w.cell? ⟨b, o, none⟩ = cs[o]? := (row_facts h).1 o
theorem prevOf_zero {α : Type} (l : List α) : prevOf l 0 = none := rfl
theorem prevOf_succ {α : Type} (l : List α) (k : Nat) : prevOf l (k + 1) = l[k]? := by simp [prevOf]
theorem mvE_par {p : Option Mv} {m : Mv} (h : mvE p m = 0) : parE m.ch m.at_ = 0 := by
  unfold mvE at h
  split at h
  · cases h
  · rename_i h1
    exact Decidable.not_not.1 h1
/-- The two numbers of a parameter of an element. -/
theorem mv_cells {w : World} {b off : Nat} {l : List Mv} (hc : ∀ j, j < l.length * 5 → w.cell? ⟨b, off + j, none⟩ = genC 5 mvA l j) (k : Nat) (d : Mv) (hd : l[k]? = some d) :
    w.cell? ⟨b, off + k * 5, none⟩ = some (.int .i64 d.ch) ∧ w.cell? ⟨b, off + k * 5 + 1, none⟩ = some (.int .i64 d.at_) ∧ w.cell? ⟨b, off + k * 5 + 2, none⟩ = some (.int .i64 d.pal) ∧ w.cell? ⟨b, off + k * 5 + 3, none⟩ = some (.int .i64 d.lev) ∧ w.cell? ⟨b, off + k * 5 + 4, none⟩ = some (.int .i64 d.part) := by
  obtain ⟨hk, hdk⟩ := List.getElem?_eq_some_iff.1 hd
  have g := fun i hi => gen_cell (S := 5) (f := mvA) (by decide) hc k hk i hi
  rw [hdk] at g
  exact ⟨g 0 (by decide), g 1 (by decide), g 2 (by decide), g 3 (by decide), g 4 (by decide)⟩

set_option maxHeartbeats 1000000 in
set_option maxRecDepth 100000 in
theorem cmove_none (m : Mv) (a : Option Addr) (cap : Nat) (w : World) :
    Calls Tryz.prog 252 #[.agg #[.int .i64 m.ch, .int .i64 m.at_, .int .i64 m.pal, .int .i64 m.lev, .int .i64 m.part], .slice a 0 cap] w fun e w' => e = .returned (.int .i64 (mvE none m)) ∧ Below w.heap.size w w' := by
  have C1 := fun W => cparam_any m.ch m.at_ W
  have C2 := fun W => pvalue_any m.pal m.lev W
  by_cases h1 : parE m.ch m.at_ = 0
  · rw [h1] at C1
    by_cases h2 : valE m.pal m.lev = 0
    · rw [h2] at C2
      have H1 := Lib.hid C1
      have H2 := Lib.hid C2
      have HQ := Lib.hid (And.intro h1 h2)
      clear C1 C2 h1 h2
      go_enter Tryz.func252, Tryz.ntmps252
      go_wp2_with fail
      refine (H1.out _).mono ?_
      rintro e w1 ⟨rfl, hb1⟩
      have hr : RowAt w1 w.heap.size 237 #[.int .i64 m.ch, .int .i64 m.at_, .int .i64 m.pal, .int .i64 m.lev, .int .i64 m.part] := (by (repeat' (first | (with_reducible assumption) | (with_reducible refine RowAt.drewN ?_ _) | (with_reducible refine RowAt.drew ?_) | (with_reducible apply RowAt.six) | (with_reducible apply RowAt.seven) | ((with_reducible refine RowAt.mk ?_ ?_); (focus (first | rfl | (simp; done))); rfl) | (with_reducible refine RowAt.alloc ?_ _) | (with_reducible refine RowAt.far ?_ ?_) | (with_reducible refine RowAt.run ?_ (by assumption)) | (with_reducible refine RowAt.below ?_ (by assumption) ?_) | (with_reducible refine RowAt.upd ?_ (by assumption) ?_) | (show _ < _; first | omega | (simp; done) | (simp; omega)) | (show ¬ _ = _; first | omega | (simp; done) | (simp; omega)) | exact rfl))); obtain ⟨hra, hrb, hrc, hrd, hre, hrf⟩ := row_facts hr
      go_wp2_with fail
      refine (H2.out _).mono ?_
      rintro e w2 ⟨rfl, hb2⟩
      have hs : RowAt w2 w.heap.size 237 #[.int .i64 m.ch, .int .i64 m.at_, .int .i64 m.pal, .int .i64 m.lev, .int .i64 m.part] := (by (repeat' (first | (with_reducible assumption) | (with_reducible refine RowAt.drewN ?_ _) | (with_reducible refine RowAt.drew ?_) | (with_reducible apply RowAt.six) | (with_reducible apply RowAt.seven) | ((with_reducible refine RowAt.mk ?_ ?_); (focus (first | rfl | (simp; done))); rfl) | (with_reducible refine RowAt.alloc ?_ _) | (with_reducible refine RowAt.far ?_ ?_) | (with_reducible refine RowAt.run ?_ (by assumption)) | (with_reducible refine RowAt.below ?_ (by assumption) ?_) | (with_reducible refine RowAt.upd ?_ (by assumption) ?_) | (show _ < _; first | omega | (simp; done) | (simp; omega)) | (show ¬ _ = _; first | omega | (simp; done) | (simp; omega)) | exact rfl))); obtain ⟨hsa, hsb, hsc, hsd, hse, hsf⟩ := row_facts hs
      clear hra hr
      go_wp2
      all_goals (try go_quiet (fail))
      all_goals go_wp2
      all_goals go_ret
      all_goals exact ⟨ret_int (by have := HQ.out; grind [mvE]), by (repeat' (first | (with_reducible exact Below.refl _ _) | (with_reducible assumption) | (with_reducible refine below_run ?_ (by assumption)) | (with_reducible refine below_of_upd ?_ (by assumption) ?_) | (with_reducible refine below_drewN ?_ _) | (with_reducible refine Below.drew ?_) | (with_reducible refine below_seven ?_ ?_) | (with_reducible refine below_six ?_ ?_) | (with_reducible refine below_one ?_ ?_) | (with_reducible refine Below.alloc ?_ ?_ _) | (with_reducible refine below_after ?_ ?_ (by assumption)) | (show _ ≤ _; first | omega | (simp; done) | (simp; omega))))⟩
    · have h3 : (valE m.pal m.lev != 0) = true := by simpa using h2
      have hv2 : valE m.pal m.lev = 2 := by grind [valE]
      rw [hv2] at C2
      have H1 := Lib.hid C1
      have H2 := Lib.hid C2
      have HQ := Lib.hid (And.intro h1 hv2)
      clear C1 C2 h1 h2 h3 hv2
      go_enter Tryz.func252, Tryz.ntmps252
      go_wp2_with fail
      refine (H1.out _).mono ?_
      rintro e w1 ⟨rfl, hb1⟩
      have hr : RowAt w1 w.heap.size 237 #[.int .i64 m.ch, .int .i64 m.at_, .int .i64 m.pal, .int .i64 m.lev, .int .i64 m.part] := (by (repeat' (first | (with_reducible assumption) | (with_reducible refine RowAt.drewN ?_ _) | (with_reducible refine RowAt.drew ?_) | (with_reducible apply RowAt.six) | (with_reducible apply RowAt.seven) | ((with_reducible refine RowAt.mk ?_ ?_); (focus (first | rfl | (simp; done))); rfl) | (with_reducible refine RowAt.alloc ?_ _) | (with_reducible refine RowAt.far ?_ ?_) | (with_reducible refine RowAt.run ?_ (by assumption)) | (with_reducible refine RowAt.below ?_ (by assumption) ?_) | (with_reducible refine RowAt.upd ?_ (by assumption) ?_) | (show _ < _; first | omega | (simp; done) | (simp; omega)) | (show ¬ _ = _; first | omega | (simp; done) | (simp; omega)) | exact rfl))); obtain ⟨hra, hrb, hrc, hrd, hre, hrf⟩ := row_facts hr
      go_wp2_with fail
      refine (H2.out _).mono ?_
      rintro e w2 ⟨rfl, hb2⟩
      go_wp2
      all_goals go_ret
      all_goals exact ⟨ret_int (by have := HQ.out; grind [mvE]), by (repeat' (first | (with_reducible exact Below.refl _ _) | (with_reducible assumption) | (with_reducible refine below_run ?_ (by assumption)) | (with_reducible refine below_of_upd ?_ (by assumption) ?_) | (with_reducible refine below_drewN ?_ _) | (with_reducible refine Below.drew ?_) | (with_reducible refine below_seven ?_ ?_) | (with_reducible refine below_six ?_ ?_) | (with_reducible refine below_one ?_ ?_) | (with_reducible refine Below.alloc ?_ ?_ _) | (with_reducible refine below_after ?_ ?_ (by assumption)) | (show _ ≤ _; first | omega | (simp; done) | (simp; omega))))⟩
  · have hv2 : parE m.ch m.at_ = 2 := by grind [parE]
    rw [hv2] at C1
    have H1 := Lib.hid C1
    have HQ := Lib.hid hv2
    clear C1 C2 h1 hv2
    go_enter Tryz.func252, Tryz.ntmps252
    go_wp2_with fail
    refine (H1.out _).mono ?_
    rintro e w1 ⟨rfl, hb1⟩
    go_wp2
    all_goals go_ret
    all_goals exact ⟨ret_int (by have := HQ.out; grind [mvE]), by (repeat' (first | (with_reducible exact Below.refl _ _) | (with_reducible assumption) | (with_reducible refine below_run ?_ (by assumption)) | (with_reducible refine below_of_upd ?_ (by assumption) ?_) | (with_reducible refine below_drewN ?_ _) | (with_reducible refine Below.drew ?_) | (with_reducible refine below_seven ?_ ?_) | (with_reducible refine below_six ?_ ?_) | (with_reducible refine below_one ?_ ?_) | (with_reducible refine Below.alloc ?_ ?_ _) | (with_reducible refine below_after ?_ ?_ (by assumption)) | (show _ ≤ _; first | omega | (simp; done) | (simp; omega))))⟩

set_option maxHeartbeats 1000000 in
set_option maxRecDepth 100000 in
theorem cmove_some (m q : Mv) (b off j cap : Nat) (w : World) (hb : b < w.heap.size) (hj : j < 1000) (hq : parE q.ch q.at_ = 0) (e0 : w.cell? ⟨b, off + j * 5, none⟩ = some (.int .i64 q.ch)) (e1 : w.cell? ⟨b, off + j * 5 + 1, none⟩ = some (.int .i64 q.at_)) :
    Calls Tryz.prog 252 #[.agg #[.int .i64 m.ch, .int .i64 m.at_, .int .i64 m.pal, .int .i64 m.lev, .int .i64 m.part], .slice (some ⟨b, off, none⟩) (j + 1) cap] w fun e w' => e = .returned (.int .i64 (mvE (some q) m)) ∧ Below w.heap.size w w' := by
  have C1 := fun W => cparam_any m.ch m.at_ W
  have C2 := fun W => pvalue_any m.pal m.lev W
  by_cases h1 : parE m.ch m.at_ = 0
  · rw [h1] at C1
    by_cases h2 : valE m.pal m.lev = 0
    · rw [h2] at C2
      have H1 := Lib.hid C1
      have H2 := Lib.hid C2
      have H3 := Lib.hid (fun W => ccompare_any q.ch q.at_ m.ch m.at_ W hq h1)
      have HQ := Lib.hid (And.intro h1 h2)
      have hj0 : (0 : Int) < (j : Int) + 1 := by omega
      have hj1 : (j : Int) + 1 - 1 = (j : Int) := by omega
      have hj2 : (j : Int) < 1000 := by omega
      have hj3 : IntKind.i64.wrap ((j : Int) + 1 - 1) = (j : Int) := by rw [hj1]; exact IntWalk.i64_in _ (by omega)
      have hj4 : (0 : Int) ≤ (j : Int) ∧ (j : Int) < (j : Int) + 1 := by omega
      have hj5 : (0 : Int) ≤ (j : Int) := by omega
      have hj6 : (j : Int) < (j : Int) + 1 := by omega
      have hj7 : IntKind.i64.wrap (j : Int) = (j : Int) := IntWalk.i64_in _ (by omega)
      have HE := Lib.hid (And.intro e0 e1)
      clear C1 C2 h1 h2 hq e0 e1
      go_enter Tryz.func252, Tryz.ntmps252
      go_wp2_with fail
      refine (H1.out _).mono ?_
      rintro e w1 ⟨rfl, hb1⟩
      have hr : RowAt w1 w.heap.size 237 #[.int .i64 m.ch, .int .i64 m.at_, .int .i64 m.pal, .int .i64 m.lev, .int .i64 m.part] := (by (repeat' (first | (with_reducible assumption) | (with_reducible refine RowAt.drewN ?_ _) | (with_reducible refine RowAt.drew ?_) | (with_reducible apply RowAt.six) | (with_reducible apply RowAt.seven) | ((with_reducible refine RowAt.mk ?_ ?_); (focus (first | rfl | (simp; done))); rfl) | (with_reducible refine RowAt.alloc ?_ _) | (with_reducible refine RowAt.far ?_ ?_) | (with_reducible refine RowAt.run ?_ (by assumption)) | (with_reducible refine RowAt.below ?_ (by assumption) ?_) | (with_reducible refine RowAt.upd ?_ (by assumption) ?_) | (show _ < _; first | omega | (simp; done) | (simp; omega)) | (show ¬ _ = _; first | omega | (simp; done) | (simp; omega)) | exact rfl))); obtain ⟨hra, hrb, hrc, hrd, hre, hrf⟩ := row_facts hr
      go_wp2_with fail
      refine (H2.out _).mono ?_
      rintro e w2 ⟨rfl, hb2⟩
      have hs : RowAt w2 w.heap.size 237 #[.int .i64 m.ch, .int .i64 m.at_, .int .i64 m.pal, .int .i64 m.lev, .int .i64 m.part] := (by (repeat' (first | (with_reducible assumption) | (with_reducible refine RowAt.drewN ?_ _) | (with_reducible refine RowAt.drew ?_) | (with_reducible apply RowAt.six) | (with_reducible apply RowAt.seven) | ((with_reducible refine RowAt.mk ?_ ?_); (focus (first | rfl | (simp; done))); rfl) | (with_reducible refine RowAt.alloc ?_ _) | (with_reducible refine RowAt.far ?_ ?_) | (with_reducible refine RowAt.run ?_ (by assumption)) | (with_reducible refine RowAt.below ?_ (by assumption) ?_) | (with_reducible refine RowAt.upd ?_ (by assumption) ?_) | (show _ < _; first | omega | (simp; done) | (simp; omega)) | (show ¬ _ = _; first | omega | (simp; done) | (simp; omega)) | exact rfl))); obtain ⟨hsa, hsb, hsc, hsd, hse, hsf⟩ := row_facts hs
      have hbw : Below w.heap.size w w2 := by (repeat' (first | (with_reducible exact Below.refl _ _) | (with_reducible assumption) | (with_reducible refine below_run ?_ (by assumption)) | (with_reducible refine below_of_upd ?_ (by assumption) ?_) | (with_reducible refine below_drewN ?_ _) | (with_reducible refine Below.drew ?_) | (with_reducible refine below_seven ?_ ?_) | (with_reducible refine below_six ?_ ?_) | (with_reducible refine below_one ?_ ?_) | (with_reducible refine Below.alloc ?_ ?_ _) | (with_reducible refine below_after ?_ ?_ (by assumption)) | (show _ ≤ _; first | omega | (simp; done) | (simp; omega))))
      have hb9 : b < w2.heap.size := by have := hbw.size; omega
      have d0 := (hbw.cell (p := ⟨b, off + j * 5, none⟩) hb).trans HE.out.1
      have d1 := (hbw.cell (p := ⟨b, off + j * 5 + 1, none⟩) hb).trans HE.out.2
      have HK := Lib.hid (fun (W : World) (hb5 : Below w2.heap.size w2 W) => (And.intro ((hb5.cell (p := ⟨b, off + j * 5, none⟩) hb9).trans d0) (And.intro ((hb5.cell (p := ⟨b, off + j * 5 + 1, none⟩) hb9).trans d1) (And.intro (cell_f (hs.run hb5) 0) (cell_f (hs.run hb5) 1)))))
      clear hra hr
      go_wp2
      all_goals (first | (go_ret; exact ⟨ret_int (by have := HQ.out; grind [mvE]), by (repeat' (first | (with_reducible exact Below.refl _ _) | (with_reducible assumption) | (with_reducible refine below_run ?_ (by assumption)) | (with_reducible refine below_of_upd ?_ (by assumption) ?_) | (with_reducible refine below_drewN ?_ _) | (with_reducible refine Below.drew ?_) | (with_reducible refine below_seven ?_ ?_) | (with_reducible refine below_six ?_ ?_) | (with_reducible refine below_one ?_ ?_) | (with_reducible refine Below.alloc ?_ ?_ _) | (with_reducible refine below_after ?_ ?_ (by assumption)) | (show _ ≤ _; first | omega | (simp; done) | (simp; omega))))⟩) | skip)
      all_goals (go_region_held3 (fun w' => w'.cell? ⟨b, off + j * 5, none⟩ = some (.int .i64 q.ch) ∧ w'.cell? ⟨b, off + j * 5 + 1, none⟩ = some (.int .i64 q.at_) ∧ w'.cell? ⟨w.heap.size, 0, none⟩ = some (.int .i64 m.ch) ∧ w'.cell? ⟨w.heap.size, 1, none⟩ = some (.int .i64 m.at_)) (first | exact HK.out _ (by (repeat' (first | (with_reducible exact Below.refl _ _) | (with_reducible assumption) | (with_reducible refine below_run ?_ (by assumption)) | (with_reducible refine below_of_upd ?_ (by assumption) ?_) | (with_reducible refine below_drewN ?_ _) | (with_reducible refine Below.drew ?_) | (with_reducible refine below_seven ?_ ?_) | (with_reducible refine below_six ?_ ?_) | (with_reducible refine below_one ?_ ?_) | (with_reducible refine Below.alloc ?_ ?_ _) | (with_reducible refine below_after ?_ ?_ (by assumption)) | (show _ ≤ _; first | omega | (simp; done) | (simp; omega))))) | go_keep) ((go_at_call 293; refine (H3.out _).mono ?_; rintro e w4 ⟨⟨r, rfl, hn⟩, hb4⟩)))
      all_goals go_wp2
      all_goals go_ret
      all_goals exact ⟨ret_int (by have := HQ.out; first | (have := hn.out; grind [mvE]) | grind [mvE]), by (repeat' (first | (with_reducible exact Below.refl _ _) | (with_reducible assumption) | (with_reducible refine below_run ?_ (by assumption)) | (with_reducible refine below_of_upd ?_ (by assumption) ?_) | (with_reducible refine below_drewN ?_ _) | (with_reducible refine Below.drew ?_) | (with_reducible refine below_seven ?_ ?_) | (with_reducible refine below_six ?_ ?_) | (with_reducible refine below_one ?_ ?_) | (with_reducible refine Below.alloc ?_ ?_ _) | (with_reducible refine below_after ?_ ?_ (by assumption)) | (show _ ≤ _; first | omega | (simp; done) | (simp; omega))))⟩
    · have hv2 : valE m.pal m.lev = 2 := by grind [valE]
      rw [hv2] at C2
      have H1 := Lib.hid C1
      have H2 := Lib.hid C2
      have HQ := Lib.hid (And.intro h1 hv2)
      clear C1 C2 h1 h2 hv2 hq e0 e1
      go_enter Tryz.func252, Tryz.ntmps252
      go_wp2_with fail
      refine (H1.out _).mono ?_
      rintro e w1 ⟨rfl, hb1⟩
      have hr : RowAt w1 w.heap.size 237 #[.int .i64 m.ch, .int .i64 m.at_, .int .i64 m.pal, .int .i64 m.lev, .int .i64 m.part] := (by (repeat' (first | (with_reducible assumption) | (with_reducible refine RowAt.drewN ?_ _) | (with_reducible refine RowAt.drew ?_) | (with_reducible apply RowAt.six) | (with_reducible apply RowAt.seven) | ((with_reducible refine RowAt.mk ?_ ?_); (focus (first | rfl | (simp; done))); rfl) | (with_reducible refine RowAt.alloc ?_ _) | (with_reducible refine RowAt.far ?_ ?_) | (with_reducible refine RowAt.run ?_ (by assumption)) | (with_reducible refine RowAt.below ?_ (by assumption) ?_) | (with_reducible refine RowAt.upd ?_ (by assumption) ?_) | (show _ < _; first | omega | (simp; done) | (simp; omega)) | (show ¬ _ = _; first | omega | (simp; done) | (simp; omega)) | exact rfl))); obtain ⟨hra, hrb, hrc, hrd, hre, hrf⟩ := row_facts hr
      go_wp2_with fail
      refine (H2.out _).mono ?_
      rintro e w2 ⟨rfl, hb2⟩
      go_wp2
      all_goals go_ret
      all_goals exact ⟨ret_int (by have := HQ.out; grind [mvE]), by (repeat' (first | (with_reducible exact Below.refl _ _) | (with_reducible assumption) | (with_reducible refine below_run ?_ (by assumption)) | (with_reducible refine below_of_upd ?_ (by assumption) ?_) | (with_reducible refine below_drewN ?_ _) | (with_reducible refine Below.drew ?_) | (with_reducible refine below_seven ?_ ?_) | (with_reducible refine below_six ?_ ?_) | (with_reducible refine below_one ?_ ?_) | (with_reducible refine Below.alloc ?_ ?_ _) | (with_reducible refine below_after ?_ ?_ (by assumption)) | (show _ ≤ _; first | omega | (simp; done) | (simp; omega))))⟩
  · have hv2 : parE m.ch m.at_ = 2 := by grind [parE]
    rw [hv2] at C1
    have H1 := Lib.hid C1
    have HQ := Lib.hid hv2
    clear C1 C2 h1 hv2 hq e0 e1
    go_enter Tryz.func252, Tryz.ntmps252
    go_wp2_with fail
    refine (H1.out _).mono ?_
    rintro e w1 ⟨rfl, hb1⟩
    go_wp2
    all_goals go_ret
    all_goals exact ⟨ret_int (by have := HQ.out; grind [mvE]), by (repeat' (first | (with_reducible exact Below.refl _ _) | (with_reducible assumption) | (with_reducible refine below_run ?_ (by assumption)) | (with_reducible refine below_of_upd ?_ (by assumption) ?_) | (with_reducible refine below_drewN ?_ _) | (with_reducible refine Below.drew ?_) | (with_reducible refine below_seven ?_ ?_) | (with_reducible refine below_six ?_ ?_) | (with_reducible refine below_one ?_ ?_) | (with_reducible refine Below.alloc ?_ ?_ _) | (with_reducible refine below_after ?_ ?_ (by assumption)) | (show _ ≤ _; first | omega | (simp; done) | (simp; omega))))⟩
end Go.Proofs.YtjeigphhepngmaaGreatDoor

namespace Go.Proofs.YtjeigphhepngmaaGreatDoor
open Go.RowKit

/-- A slice's length is not beyond its room. -/
def CapOk (v : Value) : Prop := ∀ a n cap, v = .slice a n cap → n ≤ cap
theorem mvE_vals (p : Option Mv) (m : Mv) : mvE p m = 0 ∨ mvE p m = 2 ∨ mvE p m = 9 := by
  unfold mvE
  split
  · simp
  · split
    · simp
    · split
      · simp
      · split
        · simp
        · split <;> simp

set_option maxHeartbeats 1000000 in
set_option maxRecDepth 100000 in
theorem cmoves_any (v : Value) (l : List Mv) (w : World) (hv : ListAt 5 mvA w v l) (hcap : CapOk v) :
    Calls Tryz.prog 157 #[v] w fun e w' => e = .returned (.int .i64 (movesE l)) ∧ Below w.heap.size w w' := by
  rcases hv with ⟨h0, a, cap, rfl⟩ | ⟨h0, h1, b, off, cap, rfl, hlt, hc⟩
  · have hl : l = [] := List.eq_nil_of_length_eq_zero h0
    subst hl
    clear hcap
    go_enter Tryz.func157, Tryz.ntmps157
    go_wp2
    refine wp_loop_rounds 1 ?_
    rw [rounds_succ]
    go_wp2
    go_ret
    exact ⟨rfl, by (repeat' (first | (with_reducible exact Below.refl _ _) | (with_reducible assumption) | (with_reducible refine below_run ?_ (by assumption)) | (with_reducible refine below_of_upd ?_ (by assumption) ?_) | (with_reducible refine below_drewN ?_ _) | (with_reducible refine Below.drew ?_) | (with_reducible refine below_seven ?_ ?_) | (with_reducible refine below_six ?_ ?_) | (with_reducible refine below_one ?_ ?_) | (with_reducible refine Below.alloc ?_ ?_ _) | (with_reducible refine below_after ?_ ?_ (by assumption)) | (show _ ≤ _; first | omega | (simp; done) | (simp; omega))))⟩
  · have hcp : l.length ≤ cap := hcap _ _ _ rfl
    clear hcap
    by_cases h2 : l.length ≤ 128
    · have h3 : (l.length : Int) ≤ 128 := by omega
      have h4 : (0 : Int) < (l.length : Int) := by omega
      have hcp2 : (l.length : Int) ≤ (cap : Int) := by omega
      have hME : movesE l = firstE (mvAtE l) 0 (l.length - 0) := by rw [movesE, if_neg (by omega)]; rfl
      have HM := Lib.hid hME
      clear hME
      go_enter Tryz.func157, Tryz.ntmps157
      go_wp2
      go_loopw [3, 4, 5, 11] (fun _ _ _ i wr => ∃ k : Nat, k ≤ l.length ∧ i = .int .i64 k ∧ Hid (movesE l = firstE (mvAtE l) k (l.length - k) ∧ ∀ j, j < k → mvAtE l j = 0) ∧ Below w.heap.size w wr) (fun _ _ _ i _ => l.length - (intOf i).toNat)
      case atStart => exact ⟨0, Nat.zero_le _, rfl, Lib.hid ⟨HM.out, fun j h => by omega⟩, Below.refl _ _⟩
      case round =>
        obtain ⟨k, hk, rfl, hf, hb0⟩ := hrel
        by_cases hlt2 : k < l.length
        · have hlt3 : (k : Int) < (l.length : Int) := by omega
          have hkc : (k : Int) ≤ (cap : Int) := by omega
          have hc' : ∀ j, j < l.length * 5 → wr.cell? ⟨b, off + j, none⟩ = genC 5 mvA l j := fun j hj => (hb0.cell (p := ⟨b, off + j, none⟩) hlt).trans (hc j hj)
          have hbs := hb0.size
          have hbr : b < wr.heap.size := by omega
          obtain ⟨d, hd⟩ : ∃ d, l[k]? = some d := ⟨_, List.getElem?_eq_getElem hlt2⟩
          obtain ⟨e0, e1, e2, e3, e4⟩ := mv_cells hc' k d hd
          obtain ⟨r, hr⟩ : ∃ r, mvAtE l k = r := ⟨_, rfl⟩
          have hrr : mvE (prevOf l k) d = r := by rw [← hr, mvAtE, hd]
          have hnew : ∀ W, Below wr.heap.size wr W → Calls Tryz.prog 252 #[.agg #[.int .i64 d.ch, .int .i64 d.at_, .int .i64 d.pal, .int .i64 d.lev, .int .i64 d.part], .slice (some ⟨b, off, none⟩) k cap] W fun e w' => e = .returned (.int .i64 r) ∧ Below W.heap.size W w' := by
            intro W hb
            rw [← hrr]
            cases k with
            | zero => exact cmove_none d _ _ W
            | succ j =>
              rw [prevOf_succ]
              obtain ⟨q, hq⟩ : ∃ q, l[j]? = some q := ⟨_, List.getElem?_eq_getElem (by omega)⟩
              rw [hq]
              obtain ⟨g0, g1, _⟩ := mv_cells hc' j q hq
              have hz := hf.out.2 j (by omega)
              rw [mvAtE, hq] at hz
              exact cmove_some d q b off j cap W (by have := hb.size; omega) (by omega) (mvE_par hz) ((hb.cell (p := ⟨b, off + j * 5, none⟩) hbr).trans g0) ((hb.cell (p := ⟨b, off + j * 5 + 1, none⟩) hbr).trans g1)
          have HN := Lib.hid hnew
          have HR := Lib.hid hr
          have hvals : r = 0 ∨ r = 2 ∨ r = 9 := by rw [← hrr]; exact mvE_vals _ _
          have hk0 : (0 : Int) ≤ (k : Int) := by omega
          have HB := Lib.hid hb0
          clear hnew hr hrr hc' hc hd hb0 HM
          go_wp2
          obtain ⟨Z, hZ⟩ : ∃ Z, wr.alloc (.cells #[.int .i64 d.ch, .int .i64 d.at_, .int .i64 d.pal, .int .i64 d.lev, .int .i64 d.part] 237) = Z := ⟨_, rfl⟩
          have hbZ : Below wr.heap.size wr Z.drew := by rw [← hZ]; (repeat' (first | (with_reducible exact Below.refl _ _) | (with_reducible assumption) | (with_reducible refine below_run ?_ (by assumption)) | (with_reducible refine below_of_upd ?_ (by assumption) ?_) | (with_reducible refine below_drewN ?_ _) | (with_reducible refine Below.drew ?_) | (with_reducible refine below_seven ?_ ?_) | (with_reducible refine below_six ?_ ?_) | (with_reducible refine below_one ?_ ?_) | (with_reducible refine Below.alloc ?_ ?_ _) | (with_reducible refine below_after ?_ ?_ (by assumption)) | (show _ ≤ _; first | omega | (simp; done) | (simp; omega))))
          have hrZ : RowAt Z wr.heap.size 237 #[.int .i64 d.ch, .int .i64 d.at_, .int .i64 d.pal, .int .i64 d.lev, .int .i64 d.part] := by rw [← hZ]; exact RowAt.new _ _ _
          obtain ⟨z1, z2, z3, z4, z5, z6⟩ := row_facts hrZ
          rw [hZ]
          have HNZ := Lib.hid (HN.out _ hbZ)
          have HBZ := Lib.hid hbZ
          clear hZ hbZ hrZ HN e0 e1 e2 e3 e4
          go_still_tail 4, (by kernel_rfl)
          go_wp2_with fail
          refine HNZ.out.mono ?_
          rintro e w4 ⟨rfl, hb4⟩
          have hbw4 : Below w.heap.size w w4 := HB.out.trans ((below_after HBZ.out (by have := HBZ.out.size; simpa using this) hb4).mono hbs)
          have HB4 := Lib.hid hbw4
          clear hb4 hbw4
          by_cases hr0 : r = 0
          · subst hr0
            go_wp2
            go_roundw
            case rel => exact ⟨k + 1, by omega, by go_num, Lib.hid ⟨hf.out.1.trans (firstE_go hlt2 HR.out), fun j hj => by
              by_cases e : j = k
              · subst e; exact HR.out
              · exact hf.out.2 j (by omega)⟩, HB4.out⟩
            case measure => simp [intOf]; omega
          · have hr1 : (r != 0) = true := by simpa using hr0
            go_wp2
            go_ret
            exact ⟨ret_int (by rw [hf.out.1, firstE_stop hlt2 (by rw [HR.out]; exact hr0), HR.out]), HB4.out⟩
        · obtain rfl : k = l.length := by omega
          go_wp2
          go_ret
          exact ⟨ret_int (by rw [hf.out.1, firstE_end]), hb0⟩
    · have h3 : 128 < (l.length : Int) := by omega
      go_enter Tryz.func157, Tryz.ntmps157
      go_wp2
      go_ret
      exact ⟨ret_int (by rw [movesE, if_pos (by omega)]), by (repeat' (first | (with_reducible exact Below.refl _ _) | (with_reducible assumption) | (with_reducible refine below_run ?_ (by assumption)) | (with_reducible refine below_of_upd ?_ (by assumption) ?_) | (with_reducible refine below_drewN ?_ _) | (with_reducible refine Below.drew ?_) | (with_reducible refine below_seven ?_ ?_) | (with_reducible refine below_six ?_ ?_) | (with_reducible refine below_one ?_ ?_) | (with_reducible refine Below.alloc ?_ ?_ _) | (with_reducible refine below_after ?_ ?_ (by assumption)) | (show _ ≤ _; first | omega | (simp; done) | (simp; omega))))⟩
end Go.Proofs.YtjeigphhepngmaaGreatDoor
