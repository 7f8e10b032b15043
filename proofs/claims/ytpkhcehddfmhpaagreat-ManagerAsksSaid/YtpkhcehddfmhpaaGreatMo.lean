/-
  New managers.
  The reference's Right of managers.
  The reference's New of managers.
  The reference's message of a request.
-/
import Derived.Test.YtpkhcehddfmhpaaGreatMd
import Derived.Test.YtpkhcehddfmhpaaGreatIds
namespace Go.Proofs.YtpkhcehddfmhpaaGreat
open Go.RowKit

/-- A new manager. -/
def newMgr (id tries : Int) : Mgr := if mgrE ⟨id, 0, tries⟩ ≠ 0 then zeroMgr else ⟨id, 0, tries⟩
set_option maxHeartbeats 1000000 in
set_option maxRecDepth 100000 in
theorem mnew_any (id tries : Int) (w : World) : Calls Tryz.prog 35 #[.int .u64 id, .int .i64 tries] w
    fun e w' => e = .returned (.tuple #[.agg #[.int .u64 (newMgr id tries).id, .int .i64 (newMgr id tries).seq, .int .i64 (newMgr id tries).tries], .int .i64 (mgrE ⟨id, 0, tries⟩)]) ∧ Below w.heap.size w w' := by
  have C := Lib.hid (fun W => mright_any id 0 tries _ rfl W)
  obtain ⟨E, hE⟩ : ∃ E, mgrE ⟨id, 0, tries⟩ = E := ⟨_, rfl⟩
  have HE := Lib.hid hE
  unfold newMgr
  rw [hE] at C ⊢
  clear hE
  go_enter Tryz.func35, Tryz.ntmps35
  go_wp2_with fail
  refine (C.out _).mono ?_
  rintro e w1 ⟨rfl, hb1⟩
  have hb : Below w.heap.size w w1 := below_run (((Below.refl _ _).alloc (Nat.le_refl _) _).alloc (by simp) _) hb1
  have hm : RowAt w1 (w.heap.size + 1) 24 #[.int .u64 id, .int .i64 0, .int .i64 tries] := RowAt.run (RowAt.mk (by simp) rfl) hb1
  have hm0 : RowAt w1 w.heap.size 24 #[.int .u64 0, .int .i64 0, .int .i64 0] := RowAt.run ((RowAt.new w _ _).alloc _) hb1
  obtain ⟨x1, x2, x3, x4, x5, x6⟩ := row_facts hm
  obtain ⟨y1, y2, y3, y4, y5, y6⟩ := row_facts hm0
  have d0 := cell_fact hm0 0
  have d1 := cell_fact hm0 1
  have d2 := cell_fact hm0 2
  simp only [List.getElem?_toArray] at d0 d1 d2
  have c0 := cell_fact hm 0
  have c1 := cell_fact hm 1
  have c2 := cell_fact hm 2
  simp only [List.getElem?_toArray] at c0 c1 c2
  have HB := Lib.hid hb
  have HM0 := Lib.hid hm0
  clear x1 y1 hm hm0 hb hb1 C
  by_cases h0 : E = 0
  · subst h0
    go_wp2
    have hF : RowAt (((w1.setCell ⟨w.heap.size, 0, none⟩ (.int .u64 id)).setCell ⟨w.heap.size, 1, none⟩ (.int .i64 0)).setCell ⟨w.heap.size, 2, none⟩ (.int .i64 tries)) w.heap.size 24 #[.int .u64 id, .int .i64 0, .int .i64 tries] := RowAt.set (RowAt.set (RowAt.set HM0.out rfl) rfl) rfl
    have f0 := cell_fact hF 0
    have f1 := cell_fact hF 1
    have f2 := cell_fact hF 2
    simp only [List.getElem?_toArray] at f0 f1 f2
    refine bodyPost_ret (v := .tuple #[.agg #[.int .u64 id, .int .i64 0, .int .i64 tries], .int .i64 0]) ?_ rfl ⟨?_, ?_⟩
    · simp [results, Tryz.results35, go_sem, f0, f1, f2]
    · rfl
    · exact below_one (below_one (below_one HB.out (Nat.le_refl _)) (Nat.le_refl _)) (Nat.le_refl _)
  · have h1 : (E != 0) = true := by simpa using h0
    go_wp2
    have hF : RowAt (((w1.setCell ⟨w.heap.size, 0, none⟩ (.int .u64 0)).setCell ⟨w.heap.size, 1, none⟩ (.int .i64 0)).setCell ⟨w.heap.size, 2, none⟩ (.int .i64 0)) w.heap.size 24 #[.int .u64 0, .int .i64 0, .int .i64 0] := RowAt.set (RowAt.set (RowAt.set HM0.out rfl) rfl) rfl
    have f0 := cell_fact hF 0
    have f1 := cell_fact hF 1
    have f2 := cell_fact hF 2
    simp only [List.getElem?_toArray] at f0 f1 f2
    refine bodyPost_ret (v := .tuple #[.agg #[.int .u64 0, .int .i64 0, .int .i64 0], .int .i64 E]) ?_ rfl ⟨?_, ?_⟩
    · simp [results, Tryz.results35, go_sem, f0, f1, f2]
    · simp [zeroMgr]
    · exact below_one (below_one (below_one HB.out (Nat.le_refl _)) (Nat.le_refl _)) (Nat.le_refl _)
end Go.Proofs.YtpkhcehddfmhpaaGreat

namespace Go.Proofs.YtpkhcehddfmhpaaGreat
open Go.RowKit

set_option maxHeartbeats 2000000 in
set_option maxRecDepth 100000 in
theorem rmright_any (id seq tries : Int) (q : Int) (hq : mgrE ⟨id, seq, tries⟩ = q) (w : World) :
    Calls Tryz.prog 93 #[.agg #[.int .u64 id, .int .i64 seq, .int .i64 tries]] w fun e w' => e = .returned (.int .i64 q) ∧ Below w.heap.size w w' := by
  have HQ := Lib.hid hq
  clear hq
  obtain ⟨b, hb⟩ : ∃ b, isId id = b := ⟨_, rfl⟩
  have C := Lib.hid (fun W => Is_any id W)
  rw [hb] at C
  have HB := Lib.hid hb
  clear hb
  cases b with
  | false =>
    have HE : Hid (q = 2) := by show q = 2; rw [← HQ.out, mgrE, if_pos (.inl HB.out)]
    go_enter Tryz.func93, Tryz.ntmps93
    go_wp2_with ((go_at_call 129; refine (C.out _).mono ?_; rintro e w1 ⟨rfl, rfl⟩; skip))
    go_ret
    exact ⟨ret_int (by rw [HE.out]), by (repeat' (first | (with_reducible exact Below.refl _ _) | (with_reducible assumption) | (with_reducible refine below_run ?_ (by assumption)) | (with_reducible refine below_of_upd ?_ (by assumption) ?_) | (with_reducible refine below_drewN ?_ _) | (with_reducible refine Below.drew ?_) | (with_reducible refine below_seven ?_ ?_) | (with_reducible refine below_six ?_ ?_) | (with_reducible refine below_one ?_ ?_) | (with_reducible refine Below.alloc ?_ ?_ _) | (with_reducible refine below_after ?_ ?_ (by assumption)) | (show _ ≤ _; first | omega | (simp; done) | (simp; omega))))⟩
  | true =>
    by_cases g : seq < 0 ∨ 255 < seq ∨ tries < 1 ∨ 16 < tries
    · have HE : Hid (q = 2) := by show q = 2; rw [← HQ.out, mgrE, if_pos (.inr g)]
      have hs : (seq < 0) ∨ (¬ seq < 0 ∧ 255 < seq) ∨ (¬ seq < 0 ∧ ¬ 255 < seq ∧ tries < 1) ∨ (¬ seq < 0 ∧ ¬ 255 < seq ∧ ¬ tries < 1 ∧ 16 < tries) := by omega
      have HS := Lib.hid hs
      clear g hs
      rcases HS.out with g | ⟨g1, g2⟩ | ⟨g1, g2, g3⟩ | ⟨g1, g2, g3, g4⟩
      all_goals
        go_enter Tryz.func93, Tryz.ntmps93
        go_wp2_with ((go_at_call 129; refine (C.out _).mono ?_; rintro e w1 ⟨rfl, rfl⟩; skip))
        go_ret
        exact ⟨ret_int (by rw [HE.out]), by (repeat' (first | (with_reducible exact Below.refl _ _) | (with_reducible assumption) | (with_reducible refine below_run ?_ (by assumption)) | (with_reducible refine below_of_upd ?_ (by assumption) ?_) | (with_reducible refine below_drewN ?_ _) | (with_reducible refine Below.drew ?_) | (with_reducible refine below_seven ?_ ?_) | (with_reducible refine below_six ?_ ?_) | (with_reducible refine below_one ?_ ?_) | (with_reducible refine Below.alloc ?_ ?_ _) | (with_reducible refine below_after ?_ ?_ (by assumption)) | (show _ ≤ _; first | omega | (simp; done) | (simp; omega))))⟩
    · have HE : Hid (q = 0) := by
        show q = 0
        rw [← HQ.out, mgrE, if_neg]
        rintro (h | h)
        · rw [HB.out] at h; cases h
        · exact g h
      have g1 : ¬ seq < 0 := fun h => g (.inl h)
      have g2 : ¬ 255 < seq := fun h => g (.inr (.inl h))
      have g3 : ¬ tries < 1 := fun h => g (.inr (.inr (.inl h)))
      have g4 : ¬ 16 < tries := fun h => g (.inr (.inr (.inr h)))
      clear g
      go_enter Tryz.func93, Tryz.ntmps93
      go_wp2_with ((go_at_call 129; refine (C.out _).mono ?_; rintro e w1 ⟨rfl, rfl⟩; skip))
      go_ret
      exact ⟨ret_int (by rw [HE.out]), by (repeat' (first | (with_reducible exact Below.refl _ _) | (with_reducible assumption) | (with_reducible refine below_run ?_ (by assumption)) | (with_reducible refine below_of_upd ?_ (by assumption) ?_) | (with_reducible refine below_drewN ?_ _) | (with_reducible refine Below.drew ?_) | (with_reducible refine below_seven ?_ ?_) | (with_reducible refine below_six ?_ ?_) | (with_reducible refine below_one ?_ ?_) | (with_reducible refine Below.alloc ?_ ?_ _) | (with_reducible refine below_after ?_ ?_ (by assumption)) | (show _ ≤ _; first | omega | (simp; done) | (simp; omega))))⟩
end Go.Proofs.YtpkhcehddfmhpaaGreat

namespace Go.Proofs.YtpkhcehddfmhpaaGreat
open Go.RowKit

end Go.Proofs.YtpkhcehddfmhpaaGreat

namespace Go.Proofs.YtpkhcehddfmhpaaGreat
open Go.RowKit

set_option maxHeartbeats 1000000 in
set_option maxRecDepth 100000 in
theorem rmof_any (id seq tries dst kind par : Int) (dat : ByteArray) (w : World) :
    Calls Tryz.prog 71 #[.agg #[.int .u64 id, .int .i64 seq, .int .i64 tries], .agg #[.int .u64 dst, .int .i64 kind, .int .i64 par, .string dat]] w
      fun e w' => e = .returned (.agg #[.int .u64 dst, .int .u64 id, .int .i64 seq, .int .i64 kind, .int .i64 par, .string dat]) ∧ Below w.heap.size w w' := by
  go_enter Tryz.func71, Tryz.ntmps71
  go_wp2
  refine bodyPost_ret (v := .agg #[.int .u64 dst, .int .u64 id, .int .i64 seq, .int .i64 kind, .int .i64 par, .string dat]) ?_ rfl ⟨rfl, by (repeat' (first | (with_reducible exact Below.refl _ _) | (with_reducible assumption) | (with_reducible refine below_run ?_ (by assumption)) | (with_reducible refine below_of_upd ?_ (by assumption) ?_) | (with_reducible refine below_drewN ?_ _) | (with_reducible refine Below.drew ?_) | (with_reducible refine below_seven ?_ ?_) | (with_reducible refine below_six ?_ ?_) | (with_reducible refine below_one ?_ ?_) | (with_reducible refine Below.alloc ?_ ?_ _) | (with_reducible refine below_after ?_ ?_ (by assumption)) | (show _ ≤ _; first | omega | (simp; done) | (simp; omega))))⟩
  simp [results, Tryz.results71, go_sem]
end Go.Proofs.YtpkhcehddfmhpaaGreat
