/-
  The walk of the law on names.
-/
import Derived.Test.YtdklpmaeajpacaaDoorAwm
namespace Go.Proofs.YtdklpmaeajpacaaDoor
open Go.RowKit

set_option maxHeartbeats 2000000 in
set_option maxRecDepth 100000 in
theorem law_names (id : Int) (s : ByteArray) (w : World) (h : Tab w) (h0 : 0 ≤ id) (h1 : id < 18446744073709551616) :
    Calls Tryd.prog 5 #[.int .u64 id, .string s] w fun e w' => e = .returned (.bool true) ∧ Below w.heap.size w w' := by
  have R := Lib.hid (fun W => refname_any id W h0 h1)
  have HT := Lib.hid h
  clear h h0 h1
  by_cases hs : s.size ≤ 100
  · have hsi : ¬ (100 : Int) < (s.size : Int) := by omega
    clear hs
    go_enter Tryd.func5, Tryd.ntmps5
    go_wp2_with fail
    refine (name_any _ _ HT.out).mono ?_
    rintro e w1 ⟨rfl, hb1⟩
    have T1 := Lib.hid (HT.out.run hb1)
    go_wp2_with fail
    refine (R.out _).mono ?_
    rintro e w2 ⟨rfl, hb2⟩
    have T2 := Lib.hid (T1.out.run hb2)
    go_wp2_with fail
    refine (identity_any _ _).mono ?_
    rintro e w3 ⟨rfl, hb3⟩
    have T3 := Lib.hid (T2.out.run hb3)
    go_wp2_with fail
    refine (refidentity_any _ _).mono ?_
    rintro e w4 ⟨rfl, rfl⟩
    go_wp2_with fail
    refine (awake46_any _ T3.out).mono ?_
    rintro e w5 ⟨rfl, hb5⟩
    go_wp2
    go_ret
    exact ⟨rfl, by (repeat' (first | (with_reducible exact Below.refl _ _) | (with_reducible assumption) | (with_reducible refine below_run ?_ (by assumption)) | (with_reducible refine below_of_upd ?_ (by assumption) ?_) | (with_reducible refine below_drewN ?_ _) | (with_reducible refine Below.drew ?_) | (with_reducible refine Below.setCell ?_ ?_ _) | (with_reducible refine Below.alloc ?_ ?_ _) | (with_reducible refine below_after ?_ ?_ (by assumption)) | (show _ ≤ _; first | omega | (simp; done) | (simp; omega))))⟩
  · have hsi : (100 : Int) < (s.size : Int) := by omega
    clear hs
    go_enter Tryd.func5, Tryd.ntmps5
    go_wp2_with fail
    refine (awake46_any _ HT.out).mono ?_
    rintro e w1 ⟨rfl, hb1⟩
    go_wp2
    go_ret
    exact ⟨rfl, hb1⟩

end Go.Proofs.YtdklpmaeajpacaaDoor
