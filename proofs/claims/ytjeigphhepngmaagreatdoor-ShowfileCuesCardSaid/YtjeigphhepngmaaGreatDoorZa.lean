/-
  The reader that goes on: cues.
-/
import Derived.BigRegion
import Derived.Deep.RegionLaw
import Derived.Test.YtjeigphhepngmaaGreatDoorYz
import Derived.Test.YtjeigphhepngmaaGreatDoorOwn
namespace Go.Proofs.YtjeigphhepngmaaGreatDoor
open Go.RowKit

theorem Tryz.info_mv : (Tryz.prog.info? 237).map (fun i => (i.zero, i.size, i.bytes)) = some (some (.agg #[.int .i64 0, .int .i64 0, .int .i64 0, .int .i64 0, .int .i64 0]), 5, 40) := by kernel_rfl
theorem Tryz.info_tim : (Tryz.prog.info? 142).map (fun i => (i.zero, i.size, i.bytes)) = some (some (.agg #[.int .i64 0, .int .i64 0, .int .i64 0, .int .i64 0, .int .i64 0, .int .i64 0]), 6, 48) := by kernel_rfl
theorem mvA_ones (m : Mv) : ∀ u ∈ (mvA m).toList, u.oneCell' = true := by
  intro u hu
  simp [mvA] at hu
  rcases hu with rfl | rfl | rfl | rfl | rfl <;> rfl
theorem timA_ones (m : Tim) : ∀ u ∈ (timA m).toList, u.oneCell' = true := by
  intro u hu
  simp [timA] at hu
  rcases hu with rfl | rfl | rfl | rfl | rfl | rfl <;> rfl
theorem mvA_size (m : Mv) : (mvA m).size = 5 := rfl
theorem timA_size (m : Tim) : (timA m).size = 6 := rfl
theorem qT_le {s t : ByteArray} {st st1 : RS} (h : qT s st = (t, st1)) (ha : st.at_ ≤ s.size) : st1.at_ ≤ s.size := by
  have := (fwdQ_T s).fwd st ha
  rw [h] at this
  exact this.2
theorem qM_le {s : ByteArray} {n : Int} {st st1 : RS} (h : qM s st = (n, st1)) (ha : st.at_ ≤ s.size) : st1.at_ ≤ s.size := by
  have := (fwdQ_M s).fwd st ha
  rw [h] at this
  exact this.2
theorem qB_le {s : ByteArray} {n : Bool} {st st1 : RS} (h : qB s st = (n, st1)) (ha : st.at_ ≤ s.size) : st1.at_ ≤ s.size := by
  have := (fwdQ_B s).fwd st ha
  rw [h] at this
  exact this.2

/-- How far a list has been read: the elements so far, the state, what is left. -/
def LoopQ {α : Type} (s : ByteArray) (q : Rq α) (N : Nat) (st0 : RS) (l : List α) (st : RS) : Prop :=
  qL q N st0 = (l ++ (qL q (N - l.length) st).1, (qL q (N - l.length) st).2) ∧ st.at_ ≤ s.size ∧ l.length ≤ st.at_ + (if st.bad = true then 1 else 0)
theorem LoopQ.start {α : Type} {s : ByteArray} {q : Rq α} {N : Nat} {st0 : RS} (h : st0.at_ ≤ s.size) : LoopQ s q N st0 [] st0 := ⟨by simp, h, by simp⟩
theorem LoopQ.step {α : Type} {s : ByteArray} {q : Rq α} {N : Nat} {st0 st st' : RS} {l : List α} {x : α} (F : FwdQ s q) (h : LoopQ s q N st0 l st) (hb : st.bad = false) (hl : l.length < N) (hx : q st = (x, st')) : LoopQ s q N st0 (l ++ [x]) st' := by
  obtain ⟨h1, h2, h3⟩ := h
  have f1 := F.fwd st h2
  have f2 := F.good st h2
  rw [hx] at f1 f2
  obtain ⟨c, hc⟩ : ∃ c, N - l.length = c + 1 := ⟨N - l.length - 1, by omega⟩
  refine ⟨?_, f1.2, ?_⟩
  · rw [h1, hc, qL, if_neg (by simp [hb]), hx, List.length_append, show N - (l.length + [x].length) = c from by simp; omega]
    simp
  · rw [if_neg (by simp [hb])] at h3
    simp only [List.length_append, List.length_singleton]
    cases hb' : st'.bad with
    | true => simp; simp at f1; omega
    | false =>
      have := (f2 hb').2
      simp
      simp at this
      omega
theorem LoopQ.stop {α : Type} {s : ByteArray} {q : Rq α} {N : Nat} {st0 st : RS} {l : List α} (h : LoopQ s q N st0 l st) (hs : st.bad = true ∨ N ≤ l.length) : qL q N st0 = (l, st) := by
  rw [h.1]
  rcases hs with hb | hN
  · have : qL q (N - l.length) st = ([], st) := by
      cases N - l.length with
      | zero => rfl
      | succ k => rw [qL, if_pos hb]
    rw [this]
    simp
  · rw [show N - l.length = 0 from by omega]
    simp [qL]
theorem LoopQ.few {α : Type} {s : ByteArray} {q : Rq α} {N : Nat} {st0 st : RS} {l : List α} (h : LoopQ s q N st0 l st) : l.length ≤ s.size + 1 := by
  have := h.2.2
  have := h.2.1
  split at * <;> omega

/-- Nine cells of a cue, stored one by one. -/
theorem RowAt.nine {w : World} {k T : Nat} {c0 c1 c2 c3 c4 c5 c6 c7 c8 v0 v1 v2 v3 v4 v5 v6 v7 v8 : Value} (h : RowAt w k T #[c0, c1, c2, c3, c4, c5, c6, c7, c8]) : RowAt (((((((((w.setCell ⟨k, 0, none⟩ v0).setCell ⟨k, 1, none⟩ v1).setCell ⟨k, 2, none⟩ v2).setCell ⟨k, 3, none⟩ v3).setCell ⟨k, 4, none⟩ v4).setCell ⟨k, 5, none⟩ v5).setCell ⟨k, 6, none⟩ v6).setCell ⟨k, 7, none⟩ v7).setCell ⟨k, 8, none⟩ v8) k T #[v0, v1, v2, v3, v4, v5, v6, v7, v8] := by
  have h0 : RowAt (w.setCell ⟨k, 0, none⟩ v0) k T #[v0, c1, c2, c3, c4, c5, c6, c7, c8] := RowAt.set (i := 0) (u := v0) h rfl
  have h1 : RowAt ((w.setCell ⟨k, 0, none⟩ v0).setCell ⟨k, 1, none⟩ v1) k T #[v0, v1, c2, c3, c4, c5, c6, c7, c8] := RowAt.set (i := 1) (u := v1) h0 rfl
  have h2 : RowAt (((w.setCell ⟨k, 0, none⟩ v0).setCell ⟨k, 1, none⟩ v1).setCell ⟨k, 2, none⟩ v2) k T #[v0, v1, v2, c3, c4, c5, c6, c7, c8] := RowAt.set (i := 2) (u := v2) h1 rfl
  have h3 : RowAt ((((w.setCell ⟨k, 0, none⟩ v0).setCell ⟨k, 1, none⟩ v1).setCell ⟨k, 2, none⟩ v2).setCell ⟨k, 3, none⟩ v3) k T #[v0, v1, v2, v3, c4, c5, c6, c7, c8] := RowAt.set (i := 3) (u := v3) h2 rfl
  have h4 : RowAt (((((w.setCell ⟨k, 0, none⟩ v0).setCell ⟨k, 1, none⟩ v1).setCell ⟨k, 2, none⟩ v2).setCell ⟨k, 3, none⟩ v3).setCell ⟨k, 4, none⟩ v4) k T #[v0, v1, v2, v3, v4, c5, c6, c7, c8] := RowAt.set (i := 4) (u := v4) h3 rfl
  have h5 : RowAt ((((((w.setCell ⟨k, 0, none⟩ v0).setCell ⟨k, 1, none⟩ v1).setCell ⟨k, 2, none⟩ v2).setCell ⟨k, 3, none⟩ v3).setCell ⟨k, 4, none⟩ v4).setCell ⟨k, 5, none⟩ v5) k T #[v0, v1, v2, v3, v4, v5, c6, c7, c8] := RowAt.set (i := 5) (u := v5) h4 rfl
  have h6 : RowAt (((((((w.setCell ⟨k, 0, none⟩ v0).setCell ⟨k, 1, none⟩ v1).setCell ⟨k, 2, none⟩ v2).setCell ⟨k, 3, none⟩ v3).setCell ⟨k, 4, none⟩ v4).setCell ⟨k, 5, none⟩ v5).setCell ⟨k, 6, none⟩ v6) k T #[v0, v1, v2, v3, v4, v5, v6, c7, c8] := RowAt.set (i := 6) (u := v6) h5 rfl
  have h7 : RowAt ((((((((w.setCell ⟨k, 0, none⟩ v0).setCell ⟨k, 1, none⟩ v1).setCell ⟨k, 2, none⟩ v2).setCell ⟨k, 3, none⟩ v3).setCell ⟨k, 4, none⟩ v4).setCell ⟨k, 5, none⟩ v5).setCell ⟨k, 6, none⟩ v6).setCell ⟨k, 7, none⟩ v7) k T #[v0, v1, v2, v3, v4, v5, v6, v7, c8] := RowAt.set (i := 7) (u := v7) h6 rfl
  have h8 : RowAt (((((((((w.setCell ⟨k, 0, none⟩ v0).setCell ⟨k, 1, none⟩ v1).setCell ⟨k, 2, none⟩ v2).setCell ⟨k, 3, none⟩ v3).setCell ⟨k, 4, none⟩ v4).setCell ⟨k, 5, none⟩ v5).setCell ⟨k, 6, none⟩ v6).setCell ⟨k, 7, none⟩ v7).setCell ⟨k, 8, none⟩ v8) k T #[v0, v1, v2, v3, v4, v5, v6, v7, v8] := RowAt.set (i := 8) (u := v8) h7 rfl
  exact h8
theorem RowAt.far9 {w : World} {b k T : Nat} {cs : Array Value} {v0 v1 v2 v3 v4 v5 v6 v7 v8 : Value} (h : RowAt w b T cs) (hne : ¬ b = k) : RowAt (((((((((w.setCell ⟨k, 0, none⟩ v0).setCell ⟨k, 1, none⟩ v1).setCell ⟨k, 2, none⟩ v2).setCell ⟨k, 3, none⟩ v3).setCell ⟨k, 4, none⟩ v4).setCell ⟨k, 5, none⟩ v5).setCell ⟨k, 6, none⟩ v6).setCell ⟨k, 7, none⟩ v7).setCell ⟨k, 8, none⟩ v8) b T cs := by
  have h0 : RowAt (w.setCell ⟨k, 0, none⟩ v0) b T cs := RowAt.far1 h hne
  have h1 : RowAt ((w.setCell ⟨k, 0, none⟩ v0).setCell ⟨k, 1, none⟩ v1) b T cs := RowAt.far1 h0 hne
  have h2 : RowAt (((w.setCell ⟨k, 0, none⟩ v0).setCell ⟨k, 1, none⟩ v1).setCell ⟨k, 2, none⟩ v2) b T cs := RowAt.far1 h1 hne
  have h3 : RowAt ((((w.setCell ⟨k, 0, none⟩ v0).setCell ⟨k, 1, none⟩ v1).setCell ⟨k, 2, none⟩ v2).setCell ⟨k, 3, none⟩ v3) b T cs := RowAt.far1 h2 hne
  have h4 : RowAt (((((w.setCell ⟨k, 0, none⟩ v0).setCell ⟨k, 1, none⟩ v1).setCell ⟨k, 2, none⟩ v2).setCell ⟨k, 3, none⟩ v3).setCell ⟨k, 4, none⟩ v4) b T cs := RowAt.far1 h3 hne
  have h5 : RowAt ((((((w.setCell ⟨k, 0, none⟩ v0).setCell ⟨k, 1, none⟩ v1).setCell ⟨k, 2, none⟩ v2).setCell ⟨k, 3, none⟩ v3).setCell ⟨k, 4, none⟩ v4).setCell ⟨k, 5, none⟩ v5) b T cs := RowAt.far1 h4 hne
  have h6 : RowAt (((((((w.setCell ⟨k, 0, none⟩ v0).setCell ⟨k, 1, none⟩ v1).setCell ⟨k, 2, none⟩ v2).setCell ⟨k, 3, none⟩ v3).setCell ⟨k, 4, none⟩ v4).setCell ⟨k, 5, none⟩ v5).setCell ⟨k, 6, none⟩ v6) b T cs := RowAt.far1 h5 hne
  have h7 : RowAt ((((((((w.setCell ⟨k, 0, none⟩ v0).setCell ⟨k, 1, none⟩ v1).setCell ⟨k, 2, none⟩ v2).setCell ⟨k, 3, none⟩ v3).setCell ⟨k, 4, none⟩ v4).setCell ⟨k, 5, none⟩ v5).setCell ⟨k, 6, none⟩ v6).setCell ⟨k, 7, none⟩ v7) b T cs := RowAt.far1 h6 hne
  have h8 : RowAt (((((((((w.setCell ⟨k, 0, none⟩ v0).setCell ⟨k, 1, none⟩ v1).setCell ⟨k, 2, none⟩ v2).setCell ⟨k, 3, none⟩ v3).setCell ⟨k, 4, none⟩ v4).setCell ⟨k, 5, none⟩ v5).setCell ⟨k, 6, none⟩ v6).setCell ⟨k, 7, none⟩ v7).setCell ⟨k, 8, none⟩ v8) b T cs := RowAt.far1 h7 hne
  exact h8
theorem upd_far9 {b k : Nat} {a w : World} {v0 v1 v2 v3 v4 v5 v6 v7 v8 : Value} (h : Upd b a w) (hk : a.heap.size ≤ k) : Upd b a (((((((((w.setCell ⟨k, 0, none⟩ v0).setCell ⟨k, 1, none⟩ v1).setCell ⟨k, 2, none⟩ v2).setCell ⟨k, 3, none⟩ v3).setCell ⟨k, 4, none⟩ v4).setCell ⟨k, 5, none⟩ v5).setCell ⟨k, 6, none⟩ v6).setCell ⟨k, 7, none⟩ v7).setCell ⟨k, 8, none⟩ v8) := by
  have h0 : Upd b a (w.setCell ⟨k, 0, none⟩ v0) := upd_far h hk v0
  have h1 : Upd b a ((w.setCell ⟨k, 0, none⟩ v0).setCell ⟨k, 1, none⟩ v1) := upd_far h0 hk v1
  have h2 : Upd b a (((w.setCell ⟨k, 0, none⟩ v0).setCell ⟨k, 1, none⟩ v1).setCell ⟨k, 2, none⟩ v2) := upd_far h1 hk v2
  have h3 : Upd b a ((((w.setCell ⟨k, 0, none⟩ v0).setCell ⟨k, 1, none⟩ v1).setCell ⟨k, 2, none⟩ v2).setCell ⟨k, 3, none⟩ v3) := upd_far h2 hk v3
  have h4 : Upd b a (((((w.setCell ⟨k, 0, none⟩ v0).setCell ⟨k, 1, none⟩ v1).setCell ⟨k, 2, none⟩ v2).setCell ⟨k, 3, none⟩ v3).setCell ⟨k, 4, none⟩ v4) := upd_far h3 hk v4
  have h5 : Upd b a ((((((w.setCell ⟨k, 0, none⟩ v0).setCell ⟨k, 1, none⟩ v1).setCell ⟨k, 2, none⟩ v2).setCell ⟨k, 3, none⟩ v3).setCell ⟨k, 4, none⟩ v4).setCell ⟨k, 5, none⟩ v5) := upd_far h4 hk v5
  have h6 : Upd b a (((((((w.setCell ⟨k, 0, none⟩ v0).setCell ⟨k, 1, none⟩ v1).setCell ⟨k, 2, none⟩ v2).setCell ⟨k, 3, none⟩ v3).setCell ⟨k, 4, none⟩ v4).setCell ⟨k, 5, none⟩ v5).setCell ⟨k, 6, none⟩ v6) := upd_far h5 hk v6
  have h7 : Upd b a ((((((((w.setCell ⟨k, 0, none⟩ v0).setCell ⟨k, 1, none⟩ v1).setCell ⟨k, 2, none⟩ v2).setCell ⟨k, 3, none⟩ v3).setCell ⟨k, 4, none⟩ v4).setCell ⟨k, 5, none⟩ v5).setCell ⟨k, 6, none⟩ v6).setCell ⟨k, 7, none⟩ v7) := upd_far h6 hk v7
  have h8 : Upd b a (((((((((w.setCell ⟨k, 0, none⟩ v0).setCell ⟨k, 1, none⟩ v1).setCell ⟨k, 2, none⟩ v2).setCell ⟨k, 3, none⟩ v3).setCell ⟨k, 4, none⟩ v4).setCell ⟨k, 5, none⟩ v5).setCell ⟨k, 6, none⟩ v6).setCell ⟨k, 7, none⟩ v7).setCell ⟨k, 8, none⟩ v8) := upd_far h7 hk v8
  exact h8
theorem upd_set9 {k : Nat} {w : World} {v0 v1 v2 v3 v4 v5 v6 v7 v8 : Value} : Upd k w (((((((((w.setCell ⟨k, 0, none⟩ v0).setCell ⟨k, 1, none⟩ v1).setCell ⟨k, 2, none⟩ v2).setCell ⟨k, 3, none⟩ v3).setCell ⟨k, 4, none⟩ v4).setCell ⟨k, 5, none⟩ v5).setCell ⟨k, 6, none⟩ v6).setCell ⟨k, 7, none⟩ v7).setCell ⟨k, 8, none⟩ v8) := by
  have h0 : Upd k w (w.setCell ⟨k, 0, none⟩ v0) := upd_set (upd_refl k w) 0 v0
  have h1 : Upd k w ((w.setCell ⟨k, 0, none⟩ v0).setCell ⟨k, 1, none⟩ v1) := upd_set h0 1 v1
  have h2 : Upd k w (((w.setCell ⟨k, 0, none⟩ v0).setCell ⟨k, 1, none⟩ v1).setCell ⟨k, 2, none⟩ v2) := upd_set h1 2 v2
  have h3 : Upd k w ((((w.setCell ⟨k, 0, none⟩ v0).setCell ⟨k, 1, none⟩ v1).setCell ⟨k, 2, none⟩ v2).setCell ⟨k, 3, none⟩ v3) := upd_set h2 3 v3
  have h4 : Upd k w (((((w.setCell ⟨k, 0, none⟩ v0).setCell ⟨k, 1, none⟩ v1).setCell ⟨k, 2, none⟩ v2).setCell ⟨k, 3, none⟩ v3).setCell ⟨k, 4, none⟩ v4) := upd_set h3 4 v4
  have h5 : Upd k w ((((((w.setCell ⟨k, 0, none⟩ v0).setCell ⟨k, 1, none⟩ v1).setCell ⟨k, 2, none⟩ v2).setCell ⟨k, 3, none⟩ v3).setCell ⟨k, 4, none⟩ v4).setCell ⟨k, 5, none⟩ v5) := upd_set h4 5 v5
  have h6 : Upd k w (((((((w.setCell ⟨k, 0, none⟩ v0).setCell ⟨k, 1, none⟩ v1).setCell ⟨k, 2, none⟩ v2).setCell ⟨k, 3, none⟩ v3).setCell ⟨k, 4, none⟩ v4).setCell ⟨k, 5, none⟩ v5).setCell ⟨k, 6, none⟩ v6) := upd_set h5 6 v6
  have h7 : Upd k w ((((((((w.setCell ⟨k, 0, none⟩ v0).setCell ⟨k, 1, none⟩ v1).setCell ⟨k, 2, none⟩ v2).setCell ⟨k, 3, none⟩ v3).setCell ⟨k, 4, none⟩ v4).setCell ⟨k, 5, none⟩ v5).setCell ⟨k, 6, none⟩ v6).setCell ⟨k, 7, none⟩ v7) := upd_set h6 7 v7
  have h8 : Upd k w (((((((((w.setCell ⟨k, 0, none⟩ v0).setCell ⟨k, 1, none⟩ v1).setCell ⟨k, 2, none⟩ v2).setCell ⟨k, 3, none⟩ v3).setCell ⟨k, 4, none⟩ v4).setCell ⟨k, 5, none⟩ v5).setCell ⟨k, 6, none⟩ v6).setCell ⟨k, 7, none⟩ v7).setCell ⟨k, 8, none⟩ v8) := upd_set h7 8 v8
  exact h8

set_option maxHeartbeats 16000000 in
set_option maxRecDepth 100000 in
theorem qcue_any (b : Nat) (s : ByteArray) (st : RS) (w : World) (h : RRd w b s st) (ha : st.at_ ≤ s.size) (hs : s.size ≤ 1000000) :
    Calls Tryz.prog 76 #[.pointer (some ⟨b, 0, none⟩)] w fun e w' => ∃ v1 v2, QPost b s (.agg (cueA (qCue s st).1 v1 v2)) (qCue s st).2 w e w' ∧ CueAt w' v1 v2 (qCue s st).1 ∧ CapOk v1 ∧ NewB w.heap.size v1 ∧ NewB w.heap.size v2 := by
  obtain ⟨t1, st1, q1⟩ := pair_is (qT s st)
  obtain ⟨t2, st2, q2⟩ := pair_is (qT s st1)
  obtain ⟨n3, st3, q3⟩ := pair_is (qM s st2)
  obtain ⟨l3, st4, q4⟩ := pair_is (qL (qMv s) n3.toNat st3)
  obtain ⟨n5, st5, q5⟩ := pair_is (qM s st4)
  obtain ⟨l5, st6, q6⟩ := pair_is (qL (qTim s) n5.toNat st5)
  obtain ⟨b7, st7, q7⟩ := pair_is (qB s st6)
  obtain ⟨b8, st8, q8⟩ := pair_is (qB s st7)
  obtain ⟨n9, st9, q9⟩ := pair_is (qI s st8)
  obtain ⟨t10, st10, q10⟩ := pair_is (qT s st9)
  obtain ⟨n11, st11, q11⟩ := pair_is (qI s st10)
  have HQC := Lib.hid (show qCue s st = (⟨t1, t2, l3, l5, b7, b8, n9, t10, n11⟩, st11) from by
    simp [qCue, qMap, qCue9, qThen, qLs, q1, q2, q3, q4, q5, q6, q7, q8, q9, q10, q11, cueOf])
  have hb : b < w.heap.size := lt_of_block h
  have ha1 := qT_le q1 ha
  have ha2 := qT_le q2 ha1
  have ha3 := qM_le q3 ha2
  have ha4 : st4.at_ ≤ s.size := by have := (fwdQ_L (fwdQ_Mv s) n3.toNat st3 ha3).2.1; rw [q4] at this; exact this
  have ha5 := qM_le q5 ha4
  have ha6 : st6.at_ ≤ s.size := by have := (fwdQ_L (fwdQ_Tim s) n5.toNat st5 ha5).2.1; rw [q6] at this; exact this
  have ha7 := qB_le q7 ha6
  have ha8 := qB_le q8 ha7
  have ha9 := qI_le q9 ha8
  have ha10 := qT_le q10 ha9
  have Q : Hid (qT s st = (t1, st1) ∧ qT s st1 = (t2, st2) ∧ qM s st2 = (n3, st3) ∧ qL (qMv s) n3.toNat st3 = (l3, st4) ∧ qM s st4 = (n5, st5) ∧ qL (qTim s) n5.toNat st5 = (l5, st6) ∧ qB s st6 = (b7, st7) ∧ qB s st7 = (b8, st8) ∧ qI s st8 = (n9, st9) ∧ qT s st9 = (t10, st10) ∧ qI s st10 = (n11, st11)) := Lib.hid ⟨q1, q2, q3, q4, q5, q6, q7, q8, q9, q10, q11⟩
  have A : Hid (st.at_ ≤ s.size ∧ st1.at_ ≤ s.size ∧ st2.at_ ≤ s.size ∧ st3.at_ ≤ s.size ∧ st4.at_ ≤ s.size ∧ st5.at_ ≤ s.size ∧ st6.at_ ≤ s.size ∧ st7.at_ ≤ s.size ∧ st8.at_ ≤ s.size ∧ st9.at_ ≤ s.size ∧ st10.at_ ≤ s.size) := Lib.hid ⟨ha, ha1, ha2, ha3, ha4, ha5, ha6, ha7, ha8, ha9, ha10⟩
  have HS := Lib.hid hs
  obtain ⟨i0, hi, hz0, hz1, hz2⟩ := info_parts Tryz.info_mv
  obtain ⟨i1, hi', hz0', hz1', hz2'⟩ := info_parts Tryz.info_tim
  have C1 := Lib.hid (qtext_any b s st (w.alloc (.cells #[.string ⟨#[]⟩, .string ⟨#[]⟩, .slice none 0 0, .slice none 0 0, .bool false, .bool false, .int .i64 0, .string ⟨#[]⟩, .int .i64 0] 64)) (RowAt.alloc h _) ha hs)
  clear h ha hs q1 q2 q3 q4 q5 q6 q7 q8 q9 q10 q11 ha1 ha2 ha3 ha4 ha5 ha6 ha7 ha8 ha9 ha10
  go_enter Tryz.func76, Tryz.ntmps76
  go_wp2_with fail
  refine C1.out.mono ?_
  rintro e w1 hp
  unfold QPost at hp
  rw [Q.out.1] at hp
  obtain ⟨rfl, hr1, hu1⟩ := hp
  have z1 : RowAt w1 w.heap.size 64 #[.string ⟨#[]⟩, .string ⟨#[]⟩, .slice none 0 0, .slice none 0 0, .bool false, .bool false, .int .i64 0, .string ⟨#[]⟩, .int .i64 0] := RowAt.upd (RowAt.new _ _ _) hu1 (by omega)
  have U1 := Lib.hid (upd_trans (upd_alloc (upd_refl b w) (.cells #[.string ⟨#[]⟩, .string ⟨#[]⟩, .slice none 0 0, .slice none 0 0, .bool false, .bool false, .int .i64 0, .string ⟨#[]⟩, .int .i64 0] 64)) hu1)
  have hz1s := lt_of_block z1
  clear hu1
  go_wp2_with fail
  obtain ⟨W1, hW1⟩ : ∃ W, w1.alloc (.cells #[.string t1, .string ⟨#[]⟩, .slice none 0 0, .slice none 0 0, .bool false, .bool false, .int .i64 0, .string ⟨#[]⟩, .int .i64 0] 64) = W := ⟨_, rfl⟩
  have r1 : RowAt W1 w1.heap.size 64 #[.string t1, .string ⟨#[]⟩, .slice none 0 0, .slice none 0 0, .bool false, .bool false, .int .i64 0, .string ⟨#[]⟩, .int .i64 0] := by rw [← hW1]; exact RowAt.new _ _ _
  have z1' : RowAt W1 w.heap.size 64 #[.string ⟨#[]⟩, .string ⟨#[]⟩, .slice none 0 0, .slice none 0 0, .bool false, .bool false, .int .i64 0, .string ⟨#[]⟩, .int .i64 0] := by rw [← hW1]; exact z1.alloc _
  have hr1' : RRd W1 b s st1 := by rw [← hW1]; exact RowAt.alloc hr1 _
  have U1' := Lib.hid (show Upd b w W1 from by rw [← hW1]; exact upd_alloc U1.out _)
  rw [hW1]
  obtain ⟨r, hr⟩ : ∃ r, w1.heap.size = r := ⟨_, rfl⟩
  rw [hr] at r1 hz1s ⊢
  have hbr : b < r := by have := lt_of_block hr1; omega
  clear hW1 z1 hr1 hr
  -- the label
  refine (qtext_any b s st1 W1 hr1' A.out.2.1 HS.out).mono ?_
  rintro e w2 hp
  unfold QPost at hp
  rw [Q.out.2.1] at hp
  obtain ⟨rfl, hr2, hu2⟩ := hp
  have r2 : RowAt w2 r 64 #[.string t1, .string ⟨#[]⟩, .slice none 0 0, .slice none 0 0, .bool false, .bool false, .int .i64 0, .string ⟨#[]⟩, .int .i64 0] := r1.upd hu2 (by omega)
  have z2 : RowAt w2 w.heap.size 64 #[.string ⟨#[]⟩, .string ⟨#[]⟩, .slice none 0 0, .slice none 0 0, .bool false, .bool false, .int .i64 0, .string ⟨#[]⟩, .int .i64 0] := z1'.upd hu2 (by omega)
  have U2 := Lib.hid (upd_trans U1'.out hu2)
  obtain ⟨x1, x2, x3, x4, x5, x6⟩ := row_facts r2
  clear hu2 r1 z1' hr1'
  go_wp2_with fail
  obtain ⟨W2, hW2⟩ : ∃ W, w2.setCell ⟨r, 1, none⟩ (.string t2) = W := ⟨_, rfl⟩
  have r2' : RowAt W2 r 64 #[.string t1, .string t2, .slice none 0 0, .slice none 0 0, .bool false, .bool false, .int .i64 0, .string ⟨#[]⟩, .int .i64 0] := by rw [← hW2]; exact RowAt.set r2 rfl
  have z2' : RowAt W2 w.heap.size 64 #[.string ⟨#[]⟩, .string ⟨#[]⟩, .slice none 0 0, .slice none 0 0, .bool false, .bool false, .int .i64 0, .string ⟨#[]⟩, .int .i64 0] := by rw [← hW2]; exact z2.far1 (by omega)
  have hr2' : RRd W2 b s st2 := by rw [← hW2]; exact RowAt.far1 hr2 (by omega)
  have U2' := Lib.hid (show Upd b w W2 from by rw [← hW2]; exact upd_far U2.out (by show w.heap.size ≤ r; omega) _)
  rw [hW2]
  clear hW2 r2 z2 hr2 x1 x2 x3 x4 x5 x6
  -- how many moves
  refine (qmore_any b s st2 W2 hr2' A.out.2.2.1 HS.out).mono ?_
  rintro e w3 hp
  unfold QPost at hp
  rw [Q.out.2.2.1] at hp
  obtain ⟨rfl, hr3, hu3⟩ := hp
  have r3 : RowAt w3 r 64 #[.string t1, .string t2, .slice none 0 0, .slice none 0 0, .bool false, .bool false, .int .i64 0, .string ⟨#[]⟩, .int .i64 0] := r2'.upd hu3 (by omega)
  have z3 : RowAt w3 w.heap.size 64 #[.string ⟨#[]⟩, .string ⟨#[]⟩, .slice none 0 0, .slice none 0 0, .bool false, .bool false, .int .i64 0, .string ⟨#[]⟩, .int .i64 0] := z2'.upd hu3 (by omega)
  have U3 := Lib.hid (upd_trans U2'.out hu3)
  have R3 := Lib.hid (And.intro hr3 (And.intro z3 r3))
  clear hu3 r2' z2' hr2' hr3 z3 r3
  go_wp2
  go_loopw [5] (fun i wr => ∃ (l : List Mv) (stk : RS) (v1 : Value), i = .int .i64 (l.length : Int) ∧ Hid (LoopQ s (qMv s) n3.toNat st3 l stk ∧ RRd wr b s stk ∧ RowAt wr w.heap.size 64 #[.string ⟨#[]⟩, .string ⟨#[]⟩, .slice none 0 0, .slice none 0 0, .bool false, .bool false, .int .i64 0, .string ⟨#[]⟩, .int .i64 0] ∧ RowAt wr r 64 #[.string t1, .string t2, v1, .slice none 0 0, .bool false, .bool false, .int .i64 0, .string ⟨#[]⟩, .int .i64 0] ∧ wr.ownsRow w.heap.size 237 5 v1 l.length (genL mvA l) ∧ Upd b w wr)) (fun i _ => n3.toNat - (intOf i).toNat)
  case atStart => exact ⟨[], st3, .slice none 0 0, rfl, Lib.hid ⟨LoopQ.start A.out.2.2.2.1, R3.out.1, R3.out.2.1, R3.out.2.2, World.ownsRow_nil _ _ _ _, U3.out⟩⟩
  case round =>
    obtain ⟨l, stk, v1, rfl, hh⟩ := hrel
    obtain ⟨hq, hrd, hzz, hrow, hown, hupd⟩ := hh.out
    have hfew := hq.few
    have hs9 := HS.out
    have hl3 : (l.length : Int) ≤ 1000001 := by omega
    obtain ⟨x1, x2, x3, x4, x5, x6⟩ := row_facts hrow
    obtain ⟨y1, y2, y3, y4, y5, y6⟩ := row_facts hrd
    by_cases hgo : stk.bad = false ∧ (l.length : Int) < n3
    · obtain ⟨hbad, hlt⟩ := hgo
      obtain ⟨m, stm, hqm⟩ := pair_is (qMv s stk)
      obtain ⟨m0, m1, m2, m3, m4⟩ := m
      have HST := Lib.hid (hq.step (fwdQ_Mv s) hbad (by omega) hqm)
      have CC := fun (W : World) (hw : RRd W b s stk) => qmove_any b s stk W hw hq.2.1 hs9
      rw [hqm] at CC
      simp only [mvA] at CC
      have K := Lib.hid CC
      have y0 := y1 2
      simp [hbad] at y0
      have HHH := Lib.hid (And.intro hrd (And.intro hzz (And.intro hrow (And.intro hown hupd))))
      obtain ⟨ad, cp, rfl, -⟩ := own_shape hown
      have x0 := x1 2
      simp at x0
      clear hqm CC hq hrd hzz hown hupd hh y1 x1
      go_wp2
      go_region_law (first
        | (go_simp; go_at_call 180; refine (K.out _ (RowAt.drew HHH.out.1)).mono ?_; rintro e w4 hp; unfold QPost at hp; obtain ⟨rfl, hr4, hu4⟩ := hp; have r14 := RowAt.upd (RowAt.drew HHH.out.2.2.1) hu4 (by omega); have x04 := cell_h r14 2; simp at x04; obtain ⟨g1, g2, g3, g4, g5, g6⟩ := row_facts r14; clear g1; have own4 := own_upd (World.ownsRow.drew HHH.out.2.2.2.1) (RowAt.drew HHH.out.1) (by decide) hu4; have U4 := Lib.hid (upd_trans (upd_drew HHH.out.2.2.2.2) hu4); have hs4 := U4.out.size; have R4 := Lib.hid (And.intro hr4 (And.intro (RowAt.upd (RowAt.drew HHH.out.2.1) hu4 (by omega)) r14)); clear hu4 hr4)
        | (refine step_append_lies _ (by rfl) _ _ _ (by rfl) w.heap.size 237 i0 _ 5 40 Tryz.underlying61 hi hz0 hz1 hz2 rfl (by decide) (.slice ad l.length cp) l.length _ (by rfl) (own4.alloc _) ⟨w4.heap.size, 0, none⟩ 1 1 [.int .i64 m0, .int .i64 m1, .int .i64 m2, .int .i64 m3, .int .i64 m4] (by rfl) (by rfl) (World.news_of_block (cs := #[.int .i64 m0, .int .i64 m1, .int .i64 m2, .int .i64 m3, .int .i64 m4]) (t := 237) (fr := (0, 0)) (heap_alloc_new _ _)) (mvA_ones ⟨m0, m1, m2, m3, m4⟩) (by decide) (by unfold maxLen; omega) (by omega) (by simp; omega) (w4.heap.size + 1) (by simp) ?_; intro gg cp2 w8 hown8 hgrow hat hlt8; have hr8 := row_two (own4.alloc _) (R4.out.2.2.alloc _) (by decide) hgrow; have k0 := cell_h hr8 2; simp at k0; obtain ⟨k1, k2, k3, k4, k5, k6⟩ := row_facts hr8; have R8 := Lib.hid (And.intro (row_two (own4.alloc _) (RowAt.alloc R4.out.1 _) (by decide) hgrow) (And.intro (row_two (own4.alloc _) (RowAt.alloc R4.out.2.1 _) (by decide) hgrow) (And.intro hr8 (And.intro (upd_grown (upd_alloc U4.out _) (own4.alloc _) (Nat.le_refl _) hgrow) hown8)))); clear hgrow hat hown8 hr8 k1))
      all_goals
        go_wp2
        go_roundw
        case rel =>
          refine ⟨l ++ [⟨m0, m1, m2, m3, m4⟩], stm, .slice (some ⟨gg, 0, none⟩) (l.length + 1) cp2, by simp, Lib.hid ⟨HST.out, RowAt.far1 R8.out.1 (by omega), RowAt.far1 R8.out.2.1 (by omega), RowAt.set R8.out.2.2.1 rfl, ?_, upd_far R8.out.2.2.2.1 (by show w.heap.size ≤ r; omega) _⟩⟩
          have q := own_upd R8.out.2.2.2.2 R8.out.2.2.1 (by decide) (upd_set (upd_refl r w8) 2 (.slice (some ⟨gg, 0, none⟩) (l.length + 1) cp2))
          rw [List.length_append, genL_snoc]
          exact q
        case measure => simp [intOf]; omega
    · have hst : stk.bad = true ∨ n3.toNat ≤ l.length := by
        cases hbb : stk.bad with
        | true => exact .inl rfl
        | false => exact .inr (by simp [hbb] at hgo; omega)
      have HST := Lib.hid (hq.stop hst)
      have HHH := Lib.hid (And.intro hrd (And.intro hzz (And.intro hrow (And.intro hown hupd))))
      have HFW := Lib.hid hfew
      have y0 := y1 2
      simp at y0
      have hgo2 : ¬ ((l.length : Int) < n3) ∨ ((l.length : Int) < n3 ∧ stk.bad = true) := by
        by_cases hx : (l.length : Int) < n3
        · refine .inr ⟨hx, ?_⟩
          cases hbb : stk.bad with
          | true => rfl
          | false => exact absurd ⟨hbb, hx⟩ hgo
        · exact .inl hx
      clear hgo hst hq hrd hzz hrow hown hupd hh y1 x1 x2 x3 x4 x5 x6
      obtain ⟨bv, hbv⟩ : ∃ bv, stk.bad = bv := ⟨_, rfl⟩
      rw [hbv] at y0 hgo2
      have HBV := Lib.hid hbv
      clear hbv
      rcases hgo2 with hx | ⟨hx, rfl⟩
      all_goals
        obtain ⟨e1, e2⟩ := Prod.mk.inj (HST.out.symm.trans Q.out.2.2.2.1)
        have e3 := e1.symm
        have e4 := e2.symm
        clear e1 e2
        subst e3 e4
        have HFM := HFW
        clear HFW
        clear hl3 hfew hs9
        go_wp2_with fail
        clear y0 y2 y3 y4 y5 y6
        refine (qmore_any b s st4 _ HHH.out.1 A.out.2.2.2.2.1 HS.out).mono ?_
        rintro e w5 hp
        unfold QPost at hp
        rw [Q.out.2.2.2.2.1] at hp
        obtain ⟨rfl, hr5, hu5⟩ := hp
        have R5 := Lib.hid (And.intro hr5 (And.intro (HHH.out.2.1.upd hu5 (by omega)) (HHH.out.2.2.1.upd hu5 (by omega))))
        have O5 := Lib.hid (own_upd HHH.out.2.2.2.1 HHH.out.1 (by decide) hu5)
        have U5 := Lib.hid (upd_trans HHH.out.2.2.2.2 hu5)
        clear hr5 hu5 HHH HST
        go_wp2
        go_loopw [6] (fun i wr => ∃ (l : List Tim) (stk : RS) (v2 : Value), i = .int .i64 (l.length : Int) ∧ Hid (LoopQ s (qTim s) n5.toNat st5 l stk ∧ RRd wr b s stk ∧ RowAt wr w.heap.size 64 #[.string ⟨#[]⟩, .string ⟨#[]⟩, .slice none 0 0, .slice none 0 0, .bool false, .bool false, .int .i64 0, .string ⟨#[]⟩, .int .i64 0] ∧ RowAt wr r 64 #[.string t1, .string t2, v1, v2, .bool false, .bool false, .int .i64 0, .string ⟨#[]⟩, .int .i64 0] ∧ wr.ownsRow w.heap.size 142 6 v2 l.length (genL timA l) ∧ Upd b w wr ∧ wr.ownsRow w.heap.size 237 5 v1 l3.length (genL mvA l3))) (fun i _ => n5.toNat - (intOf i).toNat)
        case atStart => exact ⟨[], st5, .slice none 0 0, rfl, Lib.hid ⟨LoopQ.start A.out.2.2.2.2.2.1, R5.out.1, R5.out.2.1, R5.out.2.2, World.ownsRow_nil _ _ _ _, U5.out, O5.out⟩⟩
        case round =>
          obtain ⟨l, stk, v2, rfl, hh⟩ := hrel
          obtain ⟨hq, hrd, hzz, hrow, hown, hupd, howm⟩ := hh.out
          have hfew := hq.few
          have hs9 := HS.out
          have hl3 : (l.length : Int) ≤ 1000001 := by omega
          obtain ⟨x1, x2, x3, x4, x5, x6⟩ := row_facts hrow
          obtain ⟨y1, y2, y3, y4, y5, y6⟩ := row_facts hrd
          by_cases hgo : stk.bad = false ∧ (l.length : Int) < n5
          · obtain ⟨hbad, hlt⟩ := hgo
            obtain ⟨m, stm, hqm⟩ := pair_is (qTim s stk)
            obtain ⟨m0, m1, m2, m3, m4, m5⟩ := m
            have HST := Lib.hid (hq.step (fwdQ_Tim s) hbad (by omega) hqm)
            have CC := fun (W : World) (hw : RRd W b s stk) => qtiming_any b s stk W hw hq.2.1 hs9
            rw [hqm] at CC
            simp only [timA] at CC
            have K := Lib.hid CC
            have y0 := y1 2
            simp [hbad] at y0
            have HHH := Lib.hid (And.intro hrd (And.intro hzz (And.intro hrow (And.intro hown (And.intro hupd howm)))))
            obtain ⟨ad, cp, rfl, -⟩ := own_shape hown
            have x0 := x1 3
            simp at x0
            clear hqm CC hq hrd hzz hown hupd hh y1 x1 howm
            go_wp2
            go_region_law (first
              | (go_simp; go_at_call 181; refine (K.out _ (RowAt.drew HHH.out.1)).mono ?_; rintro e w4 hp; unfold QPost at hp; obtain ⟨rfl, hr4, hu4⟩ := hp; have r14 := RowAt.upd (RowAt.drew HHH.out.2.2.1) hu4 (by omega); have x04 := cell_h r14 3; simp at x04; obtain ⟨g1, g2, g3, g4, g5, g6⟩ := row_facts r14; clear g1; have own4 := own_upd (World.ownsRow.drew HHH.out.2.2.2.1) (RowAt.drew HHH.out.1) (by decide) hu4; have ownm4 := own_upd (World.ownsRow.drew HHH.out.2.2.2.2.2) (RowAt.drew HHH.out.1) (by decide) hu4; have U4 := Lib.hid (upd_trans (upd_drew HHH.out.2.2.2.2.1) hu4); have hs4 := U4.out.size; have R4 := Lib.hid (And.intro hr4 (And.intro (RowAt.upd (RowAt.drew HHH.out.2.1) hu4 (by omega)) r14)); clear hu4 hr4)
              | (refine step_append_lies _ (by rfl) _ _ _ (by rfl) w.heap.size 142 i1 _ 6 48 Tryz.underlying62 hi' hz0' hz1' hz2' rfl (by decide) (.slice ad l.length cp) l.length _ (by rfl) (own4.alloc _) ⟨w4.heap.size, 0, none⟩ 1 1 [.int .i64 m0, .int .i64 m1, .int .i64 m2, .int .i64 m3, .int .i64 m4, .int .i64 m5] (by rfl) (by rfl) (World.news_of_block (cs := #[.int .i64 m0, .int .i64 m1, .int .i64 m2, .int .i64 m3, .int .i64 m4, .int .i64 m5]) (t := 142) (fr := (0, 0)) (heap_alloc_new _ _)) (timA_ones ⟨m0, m1, m2, m3, m4, m5⟩) (by decide) (by unfold maxLen; omega) (by omega) (by simp; omega) (w4.heap.size + 1) (by simp) ?_; intro gg cp2 w8 hown8 hgrow hat hlt8; have hr8 := row_two (own4.alloc _) (R4.out.2.2.alloc _) (by decide) hgrow; have k0 := cell_h hr8 3; simp at k0; obtain ⟨k1, k2, k3, k4, k5, k6⟩ := row_facts hr8; have R8 := Lib.hid (And.intro (row_two (own4.alloc _) (RowAt.alloc R4.out.1 _) (by decide) hgrow) (And.intro (row_two (own4.alloc _) (RowAt.alloc R4.out.2.1 _) (by decide) hgrow) (And.intro hr8 (And.intro (upd_grown (upd_alloc U4.out _) (own4.alloc _) (Nat.le_refl _) hgrow) (And.intro hown8 (own_two (own4.alloc _) (ownm4.alloc _) (by decide) hgrow)))))); clear hgrow hat hown8 hr8 k1))
            all_goals
              go_wp2
              go_roundw
              case rel =>
                refine ⟨l ++ [⟨m0, m1, m2, m3, m4, m5⟩], stm, .slice (some ⟨gg, 0, none⟩) (l.length + 1) cp2, by simp, Lib.hid ⟨HST.out, RowAt.far1 R8.out.1 (by omega), RowAt.far1 R8.out.2.1 (by omega), RowAt.set R8.out.2.2.1 rfl, ?_, upd_far R8.out.2.2.2.1 (by show w.heap.size ≤ r; omega) _, own_upd R8.out.2.2.2.2.2 R8.out.2.2.1 (by decide) (upd_set (upd_refl r w8) 3 (.slice (some ⟨gg, 0, none⟩) (l.length + 1) cp2))⟩⟩
                have q := own_upd R8.out.2.2.2.2.1 R8.out.2.2.1 (by decide) (upd_set (upd_refl r w8) 3 (.slice (some ⟨gg, 0, none⟩) (l.length + 1) cp2))
                rw [List.length_append, genL_snoc]
                exact q
              case measure => simp [intOf]; omega
          · have hst : stk.bad = true ∨ n5.toNat ≤ l.length := by
              cases hbb : stk.bad with
              | true => exact .inl rfl
              | false => exact .inr (by simp [hbb] at hgo; omega)
            have HST := Lib.hid (hq.stop hst)
            have HHH := Lib.hid (And.intro hrd (And.intro hzz (And.intro hrow (And.intro hown (And.intro hupd howm)))))
            have HFW := Lib.hid hfew
            have y0 := y1 2
            simp at y0
            have hgo2 : ¬ ((l.length : Int) < n5) ∨ ((l.length : Int) < n5 ∧ stk.bad = true) := by
              by_cases hx : (l.length : Int) < n5
              · refine .inr ⟨hx, ?_⟩
                cases hbb : stk.bad with
                | true => rfl
                | false => exact absurd ⟨hbb, hx⟩ hgo
              · exact .inl hx
            clear hgo hst hq hrd hzz hrow hown hupd hh y1 x1 x2 x3 x4 x5 x6 howm
            obtain ⟨bv, hbv⟩ : ∃ bv, stk.bad = bv := ⟨_, rfl⟩
            rw [hbv] at y0 hgo2
            have HBV := Lib.hid hbv
            clear hbv
            rcases hgo2 with hx | ⟨hx, rfl⟩
            all_goals
              obtain ⟨e1, e2⟩ := Prod.mk.inj (HST.out.symm.trans Q.out.2.2.2.2.2.1)
              have e3 := e1.symm
              have e4 := e2.symm
              clear e1 e2
              subst e3 e4
              clear hl3 hfew hs9
              go_wp2_with fail
              clear y0 y2 y3 y4 y5 y6
              refine (qtruth_any b s st6 _ HHH.out.1 A.out.2.2.2.2.2.2.1 HS.out).mono ?_
              rintro e a7 hp
              unfold QPost at hp
              rw [Q.out.2.2.2.2.2.2.1] at hp
              obtain ⟨rfl, hr, hu⟩ := hp
              have P7 := Lib.hid (And.intro hr (And.intro (RowAt.upd HHH.out.2.1 hu (by omega)) (And.intro (RowAt.upd HHH.out.2.2.1 hu (by omega)) (And.intro (own_upd HHH.out.2.2.2.1 HHH.out.1 (by decide) hu) (And.intro (upd_trans HHH.out.2.2.2.2.1 hu) (own_upd HHH.out.2.2.2.2.2 HHH.out.1 (by decide) hu))))))
              clear hr hu
              obtain ⟨x1, x2, x3, x4, x5, x6⟩ := row_facts P7.out.2.2.1
              go_wp2_with fail
              obtain ⟨W7, hW7⟩ : ∃ W, a7.setCell ⟨r, 4, none⟩ (.bool b7) = W := ⟨_, rfl⟩
              have S7 := Lib.hid (show RRd W7 b s st7 ∧ RowAt W7 w.heap.size 64 #[.string ⟨#[]⟩, .string ⟨#[]⟩, .slice none 0 0, .slice none 0 0, .bool false, .bool false, .int .i64 0, .string ⟨#[]⟩, .int .i64 0] ∧ RowAt W7 r 64 #[.string t1, .string t2, v1, v2, .bool b7, .bool false, .int .i64 0, .string ⟨#[]⟩, .int .i64 0] ∧ W7.ownsRow w.heap.size 142 6 v2 l5.length (genL timA l5) ∧ Upd b w W7 ∧ W7.ownsRow w.heap.size 237 5 v1 l3.length (genL mvA l3) from by
                rw [← hW7]
                exact ⟨RowAt.far1 P7.out.1 (by omega), RowAt.far1 P7.out.2.1 (by omega), RowAt.set P7.out.2.2.1 rfl, own_upd P7.out.2.2.2.1 P7.out.2.2.1 (by decide) (upd_set (upd_refl r _) _ _), upd_far P7.out.2.2.2.2.1 (by show w.heap.size ≤ r; omega) _, own_upd P7.out.2.2.2.2.2 P7.out.2.2.1 (by decide) (upd_set (upd_refl r _) _ _)⟩)
              rw [hW7]
              clear hW7 x1 x2 x3 x4 x5 x6
              refine (qtruth_any b s st7 _ S7.out.1 A.out.2.2.2.2.2.2.2.1 HS.out).mono ?_
              rintro e a8 hp
              unfold QPost at hp
              rw [Q.out.2.2.2.2.2.2.2.1] at hp
              obtain ⟨rfl, hr, hu⟩ := hp
              have P8 := Lib.hid (And.intro hr (And.intro (RowAt.upd S7.out.2.1 hu (by omega)) (And.intro (RowAt.upd S7.out.2.2.1 hu (by omega)) (And.intro (own_upd S7.out.2.2.2.1 S7.out.1 (by decide) hu) (And.intro (upd_trans S7.out.2.2.2.2.1 hu) (own_upd S7.out.2.2.2.2.2 S7.out.1 (by decide) hu))))))
              clear hr hu
              obtain ⟨x1, x2, x3, x4, x5, x6⟩ := row_facts P8.out.2.2.1
              go_wp2_with fail
              obtain ⟨W8, hW8⟩ : ∃ W, a8.setCell ⟨r, 5, none⟩ (.bool b8) = W := ⟨_, rfl⟩
              have S8 := Lib.hid (show RRd W8 b s st8 ∧ RowAt W8 w.heap.size 64 #[.string ⟨#[]⟩, .string ⟨#[]⟩, .slice none 0 0, .slice none 0 0, .bool false, .bool false, .int .i64 0, .string ⟨#[]⟩, .int .i64 0] ∧ RowAt W8 r 64 #[.string t1, .string t2, v1, v2, .bool b7, .bool b8, .int .i64 0, .string ⟨#[]⟩, .int .i64 0] ∧ W8.ownsRow w.heap.size 142 6 v2 l5.length (genL timA l5) ∧ Upd b w W8 ∧ W8.ownsRow w.heap.size 237 5 v1 l3.length (genL mvA l3) from by
                rw [← hW8]
                exact ⟨RowAt.far1 P8.out.1 (by omega), RowAt.far1 P8.out.2.1 (by omega), RowAt.set P8.out.2.2.1 rfl, own_upd P8.out.2.2.2.1 P8.out.2.2.1 (by decide) (upd_set (upd_refl r _) _ _), upd_far P8.out.2.2.2.2.1 (by show w.heap.size ≤ r; omega) _, own_upd P8.out.2.2.2.2.2 P8.out.2.2.1 (by decide) (upd_set (upd_refl r _) _ _)⟩)
              rw [hW8]
              clear hW8 x1 x2 x3 x4 x5 x6
              refine (qint_any b s st8 _ S8.out.1 A.out.2.2.2.2.2.2.2.2.1 HS.out).mono ?_
              rintro e a9 hp
              unfold QPost at hp
              rw [Q.out.2.2.2.2.2.2.2.2.1] at hp
              obtain ⟨rfl, hr, hu⟩ := hp
              have P9 := Lib.hid (And.intro hr (And.intro (RowAt.upd S8.out.2.1 hu (by omega)) (And.intro (RowAt.upd S8.out.2.2.1 hu (by omega)) (And.intro (own_upd S8.out.2.2.2.1 S8.out.1 (by decide) hu) (And.intro (upd_trans S8.out.2.2.2.2.1 hu) (own_upd S8.out.2.2.2.2.2 S8.out.1 (by decide) hu))))))
              clear hr hu
              obtain ⟨x1, x2, x3, x4, x5, x6⟩ := row_facts P9.out.2.2.1
              go_wp2_with fail
              obtain ⟨W9, hW9⟩ : ∃ W, a9.setCell ⟨r, 6, none⟩ (.int .i64 n9) = W := ⟨_, rfl⟩
              have S9 := Lib.hid (show RRd W9 b s st9 ∧ RowAt W9 w.heap.size 64 #[.string ⟨#[]⟩, .string ⟨#[]⟩, .slice none 0 0, .slice none 0 0, .bool false, .bool false, .int .i64 0, .string ⟨#[]⟩, .int .i64 0] ∧ RowAt W9 r 64 #[.string t1, .string t2, v1, v2, .bool b7, .bool b8, .int .i64 n9, .string ⟨#[]⟩, .int .i64 0] ∧ W9.ownsRow w.heap.size 142 6 v2 l5.length (genL timA l5) ∧ Upd b w W9 ∧ W9.ownsRow w.heap.size 237 5 v1 l3.length (genL mvA l3) from by
                rw [← hW9]
                exact ⟨RowAt.far1 P9.out.1 (by omega), RowAt.far1 P9.out.2.1 (by omega), RowAt.set P9.out.2.2.1 rfl, own_upd P9.out.2.2.2.1 P9.out.2.2.1 (by decide) (upd_set (upd_refl r _) _ _), upd_far P9.out.2.2.2.2.1 (by show w.heap.size ≤ r; omega) _, own_upd P9.out.2.2.2.2.2 P9.out.2.2.1 (by decide) (upd_set (upd_refl r _) _ _)⟩)
              rw [hW9]
              clear hW9 x1 x2 x3 x4 x5 x6
              refine (qtext_any b s st9 _ S9.out.1 A.out.2.2.2.2.2.2.2.2.2.1 HS.out).mono ?_
              rintro e a10 hp
              unfold QPost at hp
              rw [Q.out.2.2.2.2.2.2.2.2.2.1] at hp
              obtain ⟨rfl, hr, hu⟩ := hp
              have P10 := Lib.hid (And.intro hr (And.intro (RowAt.upd S9.out.2.1 hu (by omega)) (And.intro (RowAt.upd S9.out.2.2.1 hu (by omega)) (And.intro (own_upd S9.out.2.2.2.1 S9.out.1 (by decide) hu) (And.intro (upd_trans S9.out.2.2.2.2.1 hu) (own_upd S9.out.2.2.2.2.2 S9.out.1 (by decide) hu))))))
              clear hr hu
              obtain ⟨x1, x2, x3, x4, x5, x6⟩ := row_facts P10.out.2.2.1
              go_wp2_with fail
              obtain ⟨W10, hW10⟩ : ∃ W, a10.setCell ⟨r, 7, none⟩ (.string t10) = W := ⟨_, rfl⟩
              have S10 := Lib.hid (show RRd W10 b s st10 ∧ RowAt W10 w.heap.size 64 #[.string ⟨#[]⟩, .string ⟨#[]⟩, .slice none 0 0, .slice none 0 0, .bool false, .bool false, .int .i64 0, .string ⟨#[]⟩, .int .i64 0] ∧ RowAt W10 r 64 #[.string t1, .string t2, v1, v2, .bool b7, .bool b8, .int .i64 n9, .string t10, .int .i64 0] ∧ W10.ownsRow w.heap.size 142 6 v2 l5.length (genL timA l5) ∧ Upd b w W10 ∧ W10.ownsRow w.heap.size 237 5 v1 l3.length (genL mvA l3) from by
                rw [← hW10]
                exact ⟨RowAt.far1 P10.out.1 (by omega), RowAt.far1 P10.out.2.1 (by omega), RowAt.set P10.out.2.2.1 rfl, own_upd P10.out.2.2.2.1 P10.out.2.2.1 (by decide) (upd_set (upd_refl r _) _ _), upd_far P10.out.2.2.2.2.1 (by show w.heap.size ≤ r; omega) _, own_upd P10.out.2.2.2.2.2 P10.out.2.2.1 (by decide) (upd_set (upd_refl r _) _ _)⟩)
              rw [hW10]
              clear hW10 x1 x2 x3 x4 x5 x6
              refine (qint_any b s st10 _ S10.out.1 A.out.2.2.2.2.2.2.2.2.2.2 HS.out).mono ?_
              rintro e a11 hp
              unfold QPost at hp
              rw [Q.out.2.2.2.2.2.2.2.2.2.2] at hp
              obtain ⟨rfl, hr, hu⟩ := hp
              have P11 := Lib.hid (And.intro hr (And.intro (RowAt.upd S10.out.2.1 hu (by omega)) (And.intro (RowAt.upd S10.out.2.2.1 hu (by omega)) (And.intro (own_upd S10.out.2.2.2.1 S10.out.1 (by decide) hu) (And.intro (upd_trans S10.out.2.2.2.2.1 hu) (own_upd S10.out.2.2.2.2.2 S10.out.1 (by decide) hu))))))
              clear hr hu
              obtain ⟨x1, x2, x3, x4, x5, x6⟩ := row_facts P11.out.2.2.1
              clear x1 x2 x3 x4 x5 x6
              obtain ⟨ad1, cp1, rfl, hcp1⟩ := own_shape P11.out.2.2.2.2.2
              obtain ⟨ad2, cp2, rfl, hcp2⟩ := own_shape P11.out.2.2.2.1
              obtain ⟨x1, x2, x3, x4, x5, x6⟩ := row_facts P11.out.2.2.1
              obtain ⟨y1, y2, y3, y4, y5, y6⟩ := row_facts P11.out.2.1
              have hne : ¬ r = w.heap.size := by omega
              have hne2 : ¬ w.heap.size = r := by omega
              go_wp2
              have hG : RowAt (a11.setCell ⟨r, 8, none⟩ (.int .i64 n11)) w.heap.size 64 #[.string ⟨#[]⟩, .string ⟨#[]⟩, .slice none 0 0, .slice none 0 0, .bool false, .bool false, .int .i64 0, .string ⟨#[]⟩, .int .i64 0] := P11.out.2.1.far1 (by omega)
              obtain ⟨Wz, hWz⟩ : ∃ W, ((((((((((a11.setCell ⟨r, 8, none⟩ (.int .i64 n11)).setCell ⟨w.heap.size, 0, none⟩ (.string t1)).setCell ⟨w.heap.size, 1, none⟩ (.string t2)).setCell ⟨w.heap.size, 2, none⟩ (.slice ad1 l3.length cp1)).setCell ⟨w.heap.size, 3, none⟩ (.slice ad2 l5.length cp2)).setCell ⟨w.heap.size, 4, none⟩ (.bool b7)).setCell ⟨w.heap.size, 5, none⟩ (.bool b8)).setCell ⟨w.heap.size, 6, none⟩ (.int .i64 n9)).setCell ⟨w.heap.size, 7, none⟩ (.string t10)).setCell ⟨w.heap.size, 8, none⟩ (.int .i64 n11)) = W := ⟨_, rfl⟩
              have hF : RowAt Wz w.heap.size 64 #[.string t1, .string t2, .slice ad1 l3.length cp1, .slice ad2 l5.length cp2, .bool b7, .bool b8, .int .i64 n9, .string t10, .int .i64 n11] := by
                rw [← hWz]
                exact RowAt.nine hG
              have hU : Upd b w Wz := by
                rw [← hWz]
                exact upd_far9 (upd_far P11.out.2.2.2.2.1 (by show w.heap.size ≤ r; omega) _) (Nat.le_refl _)
              have hR : RRd Wz b s st11 := by
                rw [← hWz]
                exact RowAt.far9 (RowAt.far1 P11.out.1 (by omega)) (by omega)
              have hu9 : Upd w.heap.size (a11.setCell ⟨r, 8, none⟩ (.int .i64 n11)) Wz := by
                rw [← hWz]
                exact upd_set9
              have hur : Upd r a11 (a11.setCell ⟨r, 8, none⟩ (.int .i64 n11)) := upd_set (upd_refl _ _) _ _
              have ho2 := own_upd (own_upd P11.out.2.2.2.1 P11.out.2.2.1 (by decide) hur) hG (by decide) hu9
              have ho1 := own_upd (own_upd P11.out.2.2.2.2.2 P11.out.2.2.1 (by decide) hur) hG (by decide) hu9
              rw [hWz]
              have f0 := cell_h hF 0
              have f1 := cell_h hF 1
              have f2 := cell_h hF 2
              have f3 := cell_h hF 3
              have f4 := cell_h hF 4
              have f5 := cell_h hF 5
              have f6 := cell_h hF 6
              have f7 := cell_h hF 7
              have f8 := cell_h hF 8
              simp only [List.getElem?_toArray] at f0 f1 f2 f3 f4 f5 f6 f7 f8
              have hb1 := HFW.out
              have hb3 := HFM.out
              have hb2 := HS.out
              refine bodyPost_ret (v := .agg #[.string t1, .string t2, .slice ad1 l3.length cp1, .slice ad2 l5.length cp2, .bool b7, .bool b8, .int .i64 n9, .string t10, .int .i64 n11]) ?_ rfl ⟨.slice ad1 l3.length cp1, .slice ad2 l5.length cp2, ⟨?_, ?_, hU⟩, ⟨?_, ?_⟩, ?_, own_new ho1, own_new ho2⟩
              · simp [results, Tryz.results76, go_sem, f0, f1, f2, f3, f4, f5, f6, f7, f8]
              · rw [HQC.out]; rfl
              · rw [HQC.out]; exact hR
              · rw [HQC.out]; exact own_list (by decide) mvA_size ho1 (Nat.le_trans hb3 (by omega))
              · rw [HQC.out]; exact own_list (by decide) timA_size ho2 (Nat.le_trans hb1 (by omega))
              · intro a' n' cap' he
                cases he
                exact hcp1

end Go.Proofs.YtjeigphhepngmaaGreatDoor
