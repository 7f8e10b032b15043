/-
  GetCue of the reference.
-/
import Derived.Test.YtjeigphhepngmaaGreatDoorZa
namespace Go.Proofs.YtjeigphhepngmaaGreatDoor
open Go.RowKit

theorem getT_size {s t : ByteArray} {a nx : Nat} (h : getT s a = .ok (t, nx)) : t.size ≤ 65535 := by
  unfold getT at h
  split at h
  · cases h
  · split at h
    · cases h
    · split at h
      · cases h
      · simp at h
        obtain ⟨h1, h2⟩ := h
        subst h1 h2
        simp [ByteArray.size_extract]
        omega
theorem qT_size (s : ByteArray) (st : RS) : (qT s st).1.size ≤ 65535 := by
  unfold qT
  split
  · rename_i n nx hx
    split
    · exact Nat.zero_le _
    · exact getT_size hx
  · exact Nat.zero_le _
theorem qCue_sizes (s : ByteArray) (st : RS) : (qCue s st).1.num.size ≤ 65535 ∧ (qCue s st).1.lab.size ≤ 65535 ∧ (qCue s st).1.link.size ≤ 65535 := by
  simp only [qCue, qMap, qCue9, qThen, cueOf]
  exact ⟨qT_size _ _, qT_size _ _, qT_size _ _⟩
theorem cueAt_zero (w : World) : CueAt w (.slice none 0 0) (.slice none 0 0) zCue := ⟨.inl ⟨rfl, _, _, rfl⟩, .inl ⟨rfl, _, _, rfl⟩⟩
theorem CueAt.shapes {w : World} {v1 v2 : Value} {c : CueD} (h : CueAt w v1 v2 c) : (∃ a n cap, v1 = .slice a n cap) ∧ (∃ a n cap, v2 = .slice a n cap) := by
  obtain ⟨a, cap, rfl⟩ := h.moves.shape
  obtain ⟨a2, cap2, rfl⟩ := h.parts.shape
  exact ⟨⟨_, _, _, rfl⟩, ⟨_, _, _, rfl⟩⟩
/-- Memory of a cue beside a block that changes. -/
theorem list_upd {α : Type} {S : Nat} {f : α → Array Value} {w w' : World} {k : Nat} {v : Value} {l : List α} (h : ListAt S f w v l) (hu : Upd k w w') (hk : ∀ b off cap, v = .slice (some ⟨b, off, none⟩) l.length cap → 0 < l.length → b ≠ k) : ListAt S f w' v l := by
  rcases h with h | ⟨h0, h1, b, off, cap, rfl, hlt, hc⟩
  · exact .inl h
  · refine .inr ⟨h0, h1, b, off, cap, rfl, Nat.lt_of_lt_of_le hlt hu.size, fun j hj => ?_⟩
    rw [← hc j hj]
    exact World.cell?_of_block (hu.block b hlt (fun e => hk b off cap rfl h0 (Option.some.inj e)))

set_option maxHeartbeats 8000000 in
set_option maxRecDepth 100000 in
theorem r50getcue_any (s : ByteArray) (w : World) (hs : s.size ≤ 1000000) :
    Calls Tryz.prog 31 #[.string s] w fun e w' => ∃ v1 v2, e = .returned (.tuple #[.agg (cueA (getCueD s).1 v1 v2), .int .i64 (getCueD s).2]) ∧ CueAt w' v1 v2 (getCueD s).1 ∧ Below w.heap.size w w' := by
  have hG := getCueD_q s
  obtain ⟨hn, hl, hk⟩ := qCue_sizes s ⟨0, false⟩
  obtain ⟨c, st, hq⟩ := pair_is (qCue s ⟨0, false⟩)
  rw [hq] at hG hn hl hk
  simp only at hG hn hl hk
  have Q := Lib.hid hq
  have G := Lib.hid hG
  have N := Lib.hid (And.intro hn (And.intro hl hk))
  have C1 := Lib.hid (fun (W : World) (h : RRd W (w.heap.size + 1) s ⟨0, false⟩) => qcue_any (w.heap.size + 1) s ⟨0, false⟩ W h (by simp) hs)
  clear hG hn hl hk hq
  go_enter Tryz.func31, Tryz.ntmps31
  go_wp2_with fail
  obtain ⟨W0, hW0⟩ : ∃ W, (w.alloc (.cells #[.string ⟨#[]⟩, .string ⟨#[]⟩, .slice none 0 0, .slice none 0 0, .bool false, .bool false, .int .i64 0, .string ⟨#[]⟩, .int .i64 0] 64)).alloc (.cells #[.string s, .int .i64 0, .bool false] 139) = W := ⟨_, rfl⟩
  have z0 : RowAt W0 w.heap.size 64 #[.string ⟨#[]⟩, .string ⟨#[]⟩, .slice none 0 0, .slice none 0 0, .bool false, .bool false, .int .i64 0, .string ⟨#[]⟩, .int .i64 0] := by rw [← hW0]; exact RowAt.alloc (RowAt.new _ _ _) _
  have r0 : RRd W0 (w.heap.size + 1) s ⟨0, false⟩ := by rw [← hW0]; exact RowAt.mk (by simp) rfl
  have B0 := Lib.hid (show Below w.heap.size w W0 from by rw [← hW0]; (repeat' (first | (with_reducible exact Below.refl _ _) | (with_reducible assumption) | (with_reducible refine below_run ?_ (by assumption)) | (with_reducible refine below_of_upd ?_ (by assumption) ?_) | (with_reducible refine below_drewN ?_ _) | (with_reducible refine Below.drew ?_) | (with_reducible refine below_seven ?_ ?_) | (with_reducible refine below_six ?_ ?_) | (with_reducible refine below_one ?_ ?_) | (with_reducible refine Below.alloc ?_ ?_ _) | (with_reducible refine below_after ?_ ?_ (by assumption)) | (show _ ≤ _; first | omega | (simp; done) | (simp; omega)))))
  rw [hW0]
  clear hW0
  refine (C1.out _ r0).mono ?_
  rintro e w1 ⟨v1, v2, hp, hc1, hcap, hn1, hn2⟩
  unfold QPost at hp
  rw [Q.out] at hp hc1
  obtain ⟨rfl, r1, hu1⟩ := hp
  have z1 : RowAt w1 w.heap.size 64 #[.string ⟨#[]⟩, .string ⟨#[]⟩, .slice none 0 0, .slice none 0 0, .bool false, .bool false, .int .i64 0, .string ⟨#[]⟩, .int .i64 0] := z0.upd hu1 (by omega)
  have B1 := Lib.hid (below_of_upd B0.out hu1 (by omega))
  obtain ⟨⟨a1, n1, p1, rfl⟩, ⟨a2, n2, p2, rfl⟩⟩ := hc1.shapes
  obtain ⟨nu, la, ms, ps, bl, mk, fo, li, lo⟩ := c
  simp only [cueA]
  have C1' := Lib.hid hc1
  have hW0s : w.heap.size + 1 < W0.heap.size := lt_of_block r0
  have NN := Lib.hid (show (∀ b off n cap, (Value.slice a1 n1 p1) = .slice (some ⟨b, off, none⟩) n cap → w.heap.size < b) ∧ (∀ b off n cap, (Value.slice a2 n2 p2) = .slice (some ⟨b, off, none⟩) n cap → w.heap.size < b) from ⟨fun b off n cap he => by have := hn1 b off n cap he; omega, fun b off n cap he => by have := hn2 b off n cap he; omega⟩)
  clear hn1 hn2
  clear hu1 z0 r0 C1 hc1
  go_wp2_with fail
  obtain ⟨W1, hW1⟩ : ∃ W, w1.alloc (.cells #[.string nu, .string la, .slice a1 n1 p1, .slice a2 n2 p2, .bool bl, .bool mk, .int .i64 fo, .string li, .int .i64 lo] 64) = W := ⟨_, rfl⟩
  have z1' : RowAt W1 w.heap.size 64 #[.string ⟨#[]⟩, .string ⟨#[]⟩, .slice none 0 0, .slice none 0 0, .bool false, .bool false, .int .i64 0, .string ⟨#[]⟩, .int .i64 0] := by rw [← hW1]; exact z1.alloc _
  have k1' : RowAt W1 w1.heap.size 64 #[.string nu, .string la, .slice a1 n1 p1, .slice a2 n2 p2, .bool bl, .bool mk, .int .i64 fo, .string li, .int .i64 lo] := by rw [← hW1]; exact RowAt.new _ _ _
  have r1' : RRd W1 (w.heap.size + 1) s st := by rw [← hW1]; exact RowAt.alloc r1 _
  have hb1 : Below w1.heap.size w1 W1 := by rw [← hW1]; (repeat' (first | (with_reducible exact Below.refl _ _) | (with_reducible assumption) | (with_reducible refine below_run ?_ (by assumption)) | (with_reducible refine below_of_upd ?_ (by assumption) ?_) | (with_reducible refine below_drewN ?_ _) | (with_reducible refine Below.drew ?_) | (with_reducible refine below_seven ?_ ?_) | (with_reducible refine below_six ?_ ?_) | (with_reducible refine below_one ?_ ?_) | (with_reducible refine Below.alloc ?_ ?_ _) | (with_reducible refine below_after ?_ ?_ (by assumption)) | (show _ ≤ _; first | omega | (simp; done) | (simp; omega))))
  have B1' := Lib.hid (B1.out.trans (hb1.mono B1.out.size))
  have CA := Lib.hid (C1'.out.run hb1)
  rw [hW1]
  obtain ⟨kk, hkk⟩ : ∃ kk, w1.heap.size = kk := ⟨_, rfl⟩
  have hzk := lt_of_block z1
  rw [hkk] at k1' hzk ⊢
  clear hW1 z1 r1 hb1 hkk
  refine (qdone_any (w.heap.size + 1) s st W1 r1').mono ?_
  rintro e w2 ⟨rfl, hb2⟩
  have z2 := z1'.run hb2
  have k2 := k1'.run hb2
  have B2 := Lib.hid (B1'.out.trans (hb2.mono B1'.out.size))
  have CA2 := Lib.hid (CA.out.run hb2)
  clear hb2 r1' z1' k1'
  obtain ⟨y1, y2, y3, y4, y5, y6⟩ := row_facts z2
  have ZR := Lib.hid z2
  by_cases hd : st.bad = true ∨ st.at_ ≠ s.size
  · have hdq : (!st.bad && decide (st.at_ = s.size)) = false := by
      rcases hd with h | h
      · simp [h]
      · simp [h]
    have GE := Lib.hid (show getCueD s = (zCue, 3) from by rw [G.out, if_pos hd])
    rw [hdq]
    clear hd hdq z2
    go_wp2
    have hF := RowAt.nine (v0 := .string ⟨#[]⟩) (v1 := .string ⟨#[]⟩) (v2 := .slice none 0 0) (v3 := .slice none 0 0) (v4 := .bool false) (v5 := .bool false) (v6 := .int .i64 0) (v7 := .string ⟨#[]⟩) (v8 := .int .i64 0) ZR.out
    obtain ⟨Wz, hWz⟩ : ∃ W, (((((((((w2.setCell ⟨w.heap.size, 0, none⟩ (.string ⟨#[]⟩)).setCell ⟨w.heap.size, 1, none⟩ (.string ⟨#[]⟩)).setCell ⟨w.heap.size, 2, none⟩ (.slice none 0 0)).setCell ⟨w.heap.size, 3, none⟩ (.slice none 0 0)).setCell ⟨w.heap.size, 4, none⟩ (.bool false)).setCell ⟨w.heap.size, 5, none⟩ (.bool false)).setCell ⟨w.heap.size, 6, none⟩ (.int .i64 0)).setCell ⟨w.heap.size, 7, none⟩ (.string ⟨#[]⟩)).setCell ⟨w.heap.size, 8, none⟩ (.int .i64 0)) = W := ⟨_, rfl⟩
    have hB : Below w.heap.size w Wz := by rw [← hWz]; exact below_of_upd B2.out upd_set9 (Nat.le_refl _)
    rw [hWz] at hF ⊢
    have f0 := cell_h hF 0
    have f1 := cell_h hF 1
    have f2 := cell_h hF 2
    have f3 := cell_h hF 3
    have f4 := cell_h hF 4
    have f5 := cell_h hF 5
    have f6 := cell_h hF 6
    have f7 := cell_h hF 7
    have f8 := cell_h hF 8
    simp only [List.getElem?_toArray] at f0 f1 f2 f3 f4 f5 f6 f7 f8
    refine bodyPost_ret (v := .tuple #[.agg #[.string ⟨#[]⟩, .string ⟨#[]⟩, .slice none 0 0, .slice none 0 0, .bool false, .bool false, .int .i64 0, .string ⟨#[]⟩, .int .i64 0], .int .i64 3]) ?_ rfl ⟨.slice none 0 0, .slice none 0 0, ?_, ?_, hB⟩
    · simp [results, Tryz.results31, go_sem, f0, f1, f2, f3, f4, f5, f6, f7, f8]
    · rw [GE.out]; rfl
    · rw [GE.out]; exact cueAt_zero _
  · have hdq : (!st.bad && decide (st.at_ = s.size)) = true := by
      have h1 : st.bad = false := by cases hb : st.bad with
        | true => exact absurd (.inl hb) hd
        | false => rfl
      have h2 : st.at_ = s.size := Decidable.byContradiction fun h => hd (.inr h)
      simp [h1, h2]
    have hGE := G.out
    rw [if_neg hd] at hGE
    have GE := Lib.hid hGE
    rw [hdq]
    obtain ⟨x1, x2, x3, x4, x5, x6⟩ := row_facts k2
    have K2 := Lib.hid k2
    have C3 := fun (W : World) (hb : Below w2.heap.size w2 W) => rcheck_any ⟨nu, la, ms, ps, bl, mk, fo, li, lo⟩ (.slice a1 n1 p1) (.slice a2 n2 p2) W (CA2.out.run hb) (Nat.le_trans N.out.1 (by decide)) (Nat.le_trans N.out.2.1 (by decide)) (Nat.le_trans N.out.2.2 (by decide))
    obtain ⟨E, hE⟩ : ∃ E, cueE ⟨nu, la, ms, ps, bl, mk, fo, li, lo⟩ = E := ⟨_, rfl⟩
    rw [hE] at C3 hGE
    have C3 := Lib.hid C3
    have GE := Lib.hid hGE
    clear hd hdq hGE z2 k2 hE
    go_wp2_with fail
    refine (C3.out _ (Below.refl _ _)).mono ?_
    rintro e w3 ⟨rfl, hb3⟩
    have z3 := ZR.out.run hb3
    have k3 := K2.out.run hb3
    have B3 := Lib.hid (B2.out.trans (hb3.mono B2.out.size))
    have CA3 := Lib.hid (CA2.out.run hb3)
    have ZR3 := Lib.hid z3
    clear hb3 x1 x2 x3 x4 x5 x6 y1 y2 y3 y4 y5 y6
    obtain ⟨x1, x2, x3, x4, x5, x6⟩ := row_facts k3
    obtain ⟨y1, y2, y3, y4, y5, y6⟩ := row_facts z3
    have hne : ¬ kk = w.heap.size := by omega
    have hne2 : ¬ w.heap.size = kk := by omega
    clear z3 k3
    by_cases hE0 : E = 0
    · subst hE0
      go_wp2
      have hF := RowAt.nine (v0 := .string nu) (v1 := .string la) (v2 := .slice a1 n1 p1) (v3 := .slice a2 n2 p2) (v4 := .bool bl) (v5 := .bool mk) (v6 := .int .i64 fo) (v7 := .string li) (v8 := .int .i64 lo) ZR3.out
      have hu := upd_set9 (k := w.heap.size) (w := w3) (v0 := .string nu) (v1 := .string la) (v2 := .slice a1 n1 p1) (v3 := .slice a2 n2 p2) (v4 := .bool bl) (v5 := .bool mk) (v6 := .int .i64 fo) (v7 := .string li) (v8 := .int .i64 lo)
      obtain ⟨Wz, hWz⟩ : ∃ W, (((((((((w3.setCell ⟨w.heap.size, 0, none⟩ (.string nu)).setCell ⟨w.heap.size, 1, none⟩ (.string la)).setCell ⟨w.heap.size, 2, none⟩ (.slice a1 n1 p1)).setCell ⟨w.heap.size, 3, none⟩ (.slice a2 n2 p2)).setCell ⟨w.heap.size, 4, none⟩ (.bool bl)).setCell ⟨w.heap.size, 5, none⟩ (.bool mk)).setCell ⟨w.heap.size, 6, none⟩ (.int .i64 fo)).setCell ⟨w.heap.size, 7, none⟩ (.string li)).setCell ⟨w.heap.size, 8, none⟩ (.int .i64 lo)) = W := ⟨_, rfl⟩
      rw [hWz] at hF hu ⊢
      have hB : Below w.heap.size w Wz := below_of_upd B3.out hu (Nat.le_refl _)
      have far : ∀ {S : Nat} {α : Type} {f : α → Array Value} {v : Value} {l : List α}, ListAt S f w3 v l → (∀ b off cap, v = .slice (some ⟨b, off, none⟩) l.length cap → 0 < l.length → b ≠ w.heap.size) → ListAt S f Wz v l := fun h hk => list_upd h hu hk
      have f0 := cell_h hF 0
      have f1 := cell_h hF 1
      have f2 := cell_h hF 2
      have f3 := cell_h hF 3
      have f4 := cell_h hF 4
      have f5 := cell_h hF 5
      have f6 := cell_h hF 6
      have f7 := cell_h hF 7
      have f8 := cell_h hF 8
      simp only [List.getElem?_toArray] at f0 f1 f2 f3 f4 f5 f6 f7 f8
      refine bodyPost_ret (v := .tuple #[.agg #[.string nu, .string la, .slice a1 n1 p1, .slice a2 n2 p2, .bool bl, .bool mk, .int .i64 fo, .string li, .int .i64 lo], .int .i64 0]) ?_ rfl ⟨.slice a1 n1 p1, .slice a2 n2 p2, ?_, ?_, hB⟩
      · simp [results, Tryz.results31, go_sem, f0, f1, f2, f3, f4, f5, f6, f7, f8]
      · rw [GE.out]; rfl
      · rw [GE.out, if_neg (by simp)]
        exact ⟨far CA3.out.moves fun b off cap he _ => by have := NN.out.1 b off _ _ he; omega, far CA3.out.parts fun b off cap he _ => by have := NN.out.2 b off _ _ he; omega⟩
    · have hE1 : (E != 0) = true := by simpa using hE0
      go_wp2
      have hF := RowAt.nine (v0 := .string ⟨#[]⟩) (v1 := .string ⟨#[]⟩) (v2 := .slice none 0 0) (v3 := .slice none 0 0) (v4 := .bool false) (v5 := .bool false) (v6 := .int .i64 0) (v7 := .string ⟨#[]⟩) (v8 := .int .i64 0) ZR3.out
      obtain ⟨Wz, hWz⟩ : ∃ W, (((((((((w3.setCell ⟨w.heap.size, 0, none⟩ (.string ⟨#[]⟩)).setCell ⟨w.heap.size, 1, none⟩ (.string ⟨#[]⟩)).setCell ⟨w.heap.size, 2, none⟩ (.slice none 0 0)).setCell ⟨w.heap.size, 3, none⟩ (.slice none 0 0)).setCell ⟨w.heap.size, 4, none⟩ (.bool false)).setCell ⟨w.heap.size, 5, none⟩ (.bool false)).setCell ⟨w.heap.size, 6, none⟩ (.int .i64 0)).setCell ⟨w.heap.size, 7, none⟩ (.string ⟨#[]⟩)).setCell ⟨w.heap.size, 8, none⟩ (.int .i64 0)) = W := ⟨_, rfl⟩
      have hB : Below w.heap.size w Wz := by rw [← hWz]; exact below_of_upd B3.out upd_set9 (Nat.le_refl _)
      rw [hWz] at hF ⊢
      have f0 := cell_h hF 0
      have f1 := cell_h hF 1
      have f2 := cell_h hF 2
      have f3 := cell_h hF 3
      have f4 := cell_h hF 4
      have f5 := cell_h hF 5
      have f6 := cell_h hF 6
      have f7 := cell_h hF 7
      have f8 := cell_h hF 8
      simp only [List.getElem?_toArray] at f0 f1 f2 f3 f4 f5 f6 f7 f8
      refine bodyPost_ret (v := .tuple #[.agg #[.string ⟨#[]⟩, .string ⟨#[]⟩, .slice none 0 0, .slice none 0 0, .bool false, .bool false, .int .i64 0, .string ⟨#[]⟩, .int .i64 0], .int .i64 E]) ?_ rfl ⟨.slice none 0 0, .slice none 0 0, ?_, ?_, hB⟩
      · simp [results, Tryz.results31, go_sem, f0, f1, f2, f3, f4, f5, f6, f7, f8]
      · rw [GE.out, if_pos hE0]; rfl
      · rw [GE.out, if_pos hE0]; exact cueAt_zero _
end Go.Proofs.YtjeigphhepngmaaGreatDoor
