/-
  Save of an empty show; the chapter's examples.
  The law ShowfileCues.
-/
import Derived.Test.YtjeigphhepngmaaGreatDoorKb
import Derived.Test.YtjeigphhepngmaaGreatDoorKd
import Derived.Test.YtjeigphhepngmaaGreatDoorZn
import Derived.Test.YtjeigphhepngmaaGreatDoorZx
import Derived.Test.YtjeigphhepngmaaGreatDoorZb
import Derived.Test.YtjeigphhepngmaaGreatDoorZi
import Derived.Test.YtjeigphhepngmaaGreatDoorZj
namespace Go.Proofs.YtjeigphhepngmaaGreatDoor
open Go.RowKit

set_option maxHeartbeats 1000000 in
set_option maxRecDepth 100000 in
theorem pieces2_ex (w : World) : Calls Tryz.prog 14 #[.agg #[.string ⟨#[]⟩, .slice none 0 0, .slice none 0 0, .slice none 0 0, .slice none 0 0, .slice none 0 0, .slice none 0 0, .slice none 0 0, .slice none 0 0]] w fun e w' => ∃ g cap, e = .returned (.tuple #[.slice (some ⟨g, 0, none⟩) 2 cap, .int .i64 0]) ∧ ListAt 2 entA w' (.slice (some ⟨g, 0, none⟩) 2 cap) [(1, exHead), (11, exEnd)] ∧ Below w.heap.size w w' := by
  have s0 := RowAt.new w 31 #[.string ⟨#[]⟩, .slice none 0 0, .slice none 0 0, .slice none 0 0, .slice none 0 0, .slice none 0 0, .slice none 0 0, .slice none 0 0, .slice none 0 0]
  have H0 := Lib.hid s0
  clear s0
  go_enter Tryz.func14, Tryz.ntmps14
  go_wp2_with fail
  refine (check_ex _).mono ?_
  rintro e w1 ⟨rfl, hb1⟩
  have s1 := H0.out.run hb1
  obtain ⟨x1, x2, x3, x4, x5, x6⟩ := row_facts s1
  have hb : Below w.heap.size w w1 := by (repeat' (first | (with_reducible exact Below.refl _ _) | (with_reducible assumption) | (with_reducible refine below_run ?_ (by assumption)) | (with_reducible refine below_of_upd ?_ (by assumption) ?_) | (with_reducible refine below_drewN ?_ _) | (with_reducible refine Below.drew ?_) | (with_reducible refine below_seven ?_ ?_) | (with_reducible refine below_six ?_ ?_) | (with_reducible refine below_one ?_ ?_) | (with_reducible refine Below.alloc ?_ ?_ _) | (with_reducible refine below_after ?_ ?_ (by assumption)) | (show _ ≤ _; first | omega | (simp; done) | (simp; omega))))
  have HB := Lib.hid hb
  clear s1 hb1 hb
  go_wp2_with fail
  refine (pieces_ex _).mono ?_
  rintro e w2 ⟨g, cap, rfl, hL, hb2⟩
  have H2 := Lib.hid (And.intro hL (HB.out.trans (hb2.mono HB.out.size)))
  clear hL hb2
  go_wp2
  go_ret2
  exact ⟨g, cap, rfl, H2.out⟩

set_option maxHeartbeats 1000000 in
set_option maxRecDepth 100000 in
theorem save_ex (w : World) : Calls Tryz.prog 22 #[.agg #[.string ⟨#[]⟩, .slice none 0 0, .slice none 0 0, .slice none 0 0, .slice none 0 0, .slice none 0 0, .slice none 0 0, .slice none 0 0, .slice none 0 0]] w fun e w' => e = .returned (.tuple #[.string exFile, .int .i64 0]) ∧ Below w.heap.size w w' := by
  have s0 := RowAt.new w 31 #[.string ⟨#[]⟩, .slice none 0 0, .slice none 0 0, .slice none 0 0, .slice none 0 0, .slice none 0 0, .slice none 0 0, .slice none 0 0, .slice none 0 0]
  have H0 := Lib.hid s0
  clear s0
  go_enter Tryz.func22, Tryz.ntmps22
  go_wp2_with fail
  refine (pieces2_ex _).mono ?_
  rintro e w1 ⟨g, cap, rfl, hL, hb1⟩
  have hb : Below w.heap.size w w1 := by (repeat' (first | (with_reducible exact Below.refl _ _) | (with_reducible assumption) | (with_reducible refine below_run ?_ (by assumption)) | (with_reducible refine below_of_upd ?_ (by assumption) ?_) | (with_reducible refine below_drewN ?_ _) | (with_reducible refine Below.drew ?_) | (with_reducible refine below_seven ?_ ?_) | (with_reducible refine below_six ?_ ?_) | (with_reducible refine below_one ?_ ?_) | (with_reducible refine Below.alloc ?_ ?_ _) | (with_reducible refine below_after ?_ ?_ (by assumption)) | (show _ ≤ _; first | omega | (simp; done) | (simp; omega))))
  have HB := Lib.hid (And.intro hb hL)
  clear hb1 hb hL
  go_wp2_with fail
  refine (join_any _ [(1, exHead), (11, exEnd)] _ HB.out.2 (by decide)).mono ?_
  rintro e w2 ⟨rfl, hb2⟩
  have HC := Lib.hid (HB.out.1.trans (hb2.mono HB.out.1.size))
  rw [ex_join]
  have hsz : exFile.size = 13 := by rfl
  obtain ⟨f, hf⟩ : ∃ f, exFile = f := ⟨_, rfl⟩
  rw [hf] at hsz ⊢
  have HF := Lib.hid hf
  clear hf
  clear hb2
  go_wp2
  go_ret2
  refine ⟨?_, HC.out⟩
  rw [HF.out]
  rfl

theorem ex_slice : ∀ W : World, (Instr.slice 9 (.string exFile) none (some (.int .i64 7)) none).run Tryz.prog W = .ok (.string ⟨#[1, 0, 2, 6, 0, 23, 9]⟩) W := fun W => by kernel_rfl
theorem ex_made (w : World) : (Instr.makeSlice 62 (.int .i64 1) (.int .i64 1)).run Tryz.prog w = .ok (.slice (some ⟨w.heap.size, 0, none⟩) 1 1) (w.alloc (.cells #[.int .i64 0, .int .i64 0, .int .i64 0, .int .i64 0, .int .i64 0, .int .i64 0] 142)) := by kernel_rfl
theorem ex_parts (w : World) : CueAt (w.alloc (.cells #[.int .i64 0, .int .i64 0, .int .i64 0, .int .i64 0, .int .i64 0, .int .i64 0] 142)) (.slice none 0 0) (.slice (some ⟨w.heap.size, 0, none⟩) 1 1) exCue := by
  refine ⟨.inl ⟨rfl, _, _, rfl⟩, .inr ⟨by decide, by decide, w.heap.size, 0, 1, rfl, by simp, fun j hj => ?_⟩⟩
  have hj6 : j < 6 := by simpa [exCue] using hj
  have : j = 0 ∨ j = 1 ∨ j = 2 ∨ j = 3 ∨ j = 4 ∨ j = 5 := by omega
  rcases this with rfl | rfl | rfl | rfl | rfl | rfl <;> simp [genC, exCue, timA]
theorem exCue_64 : Cue64 exCue := by
  refine ⟨by simp [exCue], ?_, by decide, by decide, by decide, by decide, by decide⟩
  intro m hm
  simp [exCue] at hm
  subst hm
  intro n hn
  simp [timI] at hn
  subst hn
  decide

theorem ex_cut : (⟨#[1, 0, 2, 6, 0, 23, 9, 11, 0, 1, 2, 48, 14]⟩ : ByteArray).extract 0 7 = ⟨#[1, 0, 2, 6, 0, 23, 9]⟩ := by kernel_rfl

set_option maxHeartbeats 1000000 in
set_option maxRecDepth 100000 in
theorem awake_any (w : World) : Calls Tryz.prog 13 #[] w fun e w' => e = .returned (.bool true) ∧ Below w.heap.size w w' := by
  have hmk := ex_made
  have hsl := ex_slice
  have hfx : exFile = ⟨#[1, 0, 2, 6, 0, 23, 9, 11, 0, 1, 2, 48, 14]⟩ := rfl
  have hcx := exCue_s
  go_enter Tryz.func13, Tryz.ntmps13
  go_wp2_with fail
  refine (save_ex _).mono ?_
  rintro e w1 ⟨rfl, hb1⟩
  have H1 := Lib.hid hb1
  clear hb1
  go_wp2_with fail
  refine (scue_any exCue (.slice none 0 0) (.slice (some ⟨w1.heap.size, 0, none⟩) 1 1) _ (ex_parts w1) exCue_64 (by simp [CapOk]) (by rw [exCue_b]; decide) (by decide) (by decide)).mono ?_
  rintro e w2 ⟨rfl, hb2⟩
  rw [exCue_s, exCue_e]
  have H2 := Lib.hid (H1.out.trans ((Below.alloc (Below.refl _ _) (Nat.le_refl _) _).trans (hb2.mono (by simp)) |>.mono H1.out.size))
  have L := load_ex w2
  rw [← ex_cut] at L
  have HL := Lib.hid L
  clear hb2 L
  go_wp2_with fail
  refine HL.out.mono ?_
  rintro e w3 ⟨rfl, hb3⟩
  have b3 : Below w.heap.size w (w3.alloc (.cells #[.string ⟨#[]⟩, .slice none 0 0, .slice none 0 0, .slice none 0 0, .slice none 0 0, .slice none 0 0, .slice none 0 0, .slice none 0 0, .slice none 0 0] 31)) := (H2.out.trans (hb3.mono H2.out.size)).alloc (Nat.le_trans H2.out.size hb3.size) _
  have H3 := Lib.hid b3
  clear hb3 b3
  go_wp2_with fail
  refine (build_old _ _ (RowAt.mk (by simp) rfl)).mono ?_
  rintro e w4 ⟨rfl, hb4⟩
  have b4 : Below w.heap.size w (w4.alloc (.cells #[.string ⟨#[]⟩, .slice none 0 0, .slice none 0 0, .slice none 0 0, .slice none 0 0, .slice none 0 0, .slice none 0 0, .slice none 0 0, .slice none 0 0] 31)) := by
    have s3 := H3.out.size
    have s4 := hb4.size
    have h5 := (Below.refl (w3.alloc (.cells #[.string ⟨#[]⟩, .slice none 0 0, .slice none 0 0, .slice none 0 0, .slice none 0 0, .slice none 0 0, .slice none 0 0, .slice none 0 0, .slice none 0 0] 31)).heap.size (w3.alloc (.cells #[.string ⟨#[]⟩, .slice none 0 0, .slice none 0 0, .slice none 0 0, .slice none 0 0, .slice none 0 0, .slice none 0 0, .slice none 0 0, .slice none 0 0] 31))).alloc (Nat.le_refl _) (.cells #[.int .i64 1, .string exOld] 77)
    refine (H3.out.trans ((h5.trans (hb4.mono h5.size)).mono s3)).alloc (Nat.le_trans (Nat.le_trans s3 h5.size) s4) _
  have H4 := Lib.hid b4
  clear hb4 b4
  go_wp2
  go_ret
  exact ⟨rfl, H4.out⟩

end Go.Proofs.YtjeigphhepngmaaGreatDoor

namespace Go.Proofs.YtjeigphhepngmaaGreatDoor
open Go.RowKit

theorem flat_bound {α : Type} {f : α → List UInt8} {n : Nat} : ∀ l : List α, (∀ x ∈ l, (f x).length ≤ n) → (l.flatMap f).length ≤ l.length * n
  | [], _ => by simp
  | a :: l, h => by
    have h1 := h a (by simp)
    have h2 := flat_bound l (fun x hx => h x (by simp [hx]))
    simp only [List.flatMap_cons, List.length_append, List.length_cons, Nat.succ_mul]
    omega
theorem intsB_bound : ∀ l : List Int, Ints64 l → (intsB l).length ≤ l.length * 10
  | [], _ => by simp [intsB]
  | a :: l, h => by
    have h0 := h a (by simp)
    have h1 := intB_len h0.1 h0.2
    have h2 := intsB_bound l (fun x hx => h x (by simp [hx]))
    rw [intsB_cons]
    simp only [List.length_append, List.length_cons]
    omega
theorem textB_bound {s : ByteArray} (h : s.size ≤ 9223372036854775807) : (textB s).length ≤ 10 + s.size := by
  unfold textB
  split
  · simp
  · have := intB_len (n := s.size) (by omega) (by omega)
    simp only [List.length_append]
    have e : s.data.toList.length = s.size := by simp
    omega
theorem truthB_bound (q : Bool) : (intB (truthI q)).length ≤ 10 := intB_len (truthI_in q).1 (truthI_in q).2
theorem cueB_bound {c : CueD} (h : Cue64 c) (hm1 : c.moves.length ≤ 9223372036854775807) (hp1 : c.parts.length ≤ 9223372036854775807) : (cueB c).length ≤ 100 + c.num.size + c.lab.size + c.link.size + c.moves.length * 50 + c.parts.length * 60 := by
  have h1 := textB_bound h.num
  have h2 := textB_bound h.lab
  have h3 := textB_bound h.link
  have hm := flat_bound (f := mvB) (n := 50) c.moves fun m hm => by have := intsB_bound _ (h.moves m hm); simpa [mvB, mvI] using this
  have hp := flat_bound (f := timB) (n := 60) c.parts fun m hm => by have := intsB_bound _ (h.parts m hm); simpa [timB, timI] using this
  have h4 := truthB_bound c.block
  have h5 := truthB_bound c.mark
  have h6 := intB_len h.follow.1 h.follow.2
  have h7 := intB_len h.loops.1 h.loops.2
  have h8 := intB_len (n := c.moves.length) (by omega) (by omega)
  have h9 := intB_len (n := c.parts.length) (by omega) (by omega)
  simp only [cueB, List.length_append]
  omega

set_option maxHeartbeats 4000000 in
set_option maxRecDepth 100000 in
theorem law_cues (c : CueD) (v1 v2 : Value) (s : ByteArray) (w : World) (h : CueAt w v1 v2 c) (hc : Cue64 c) (hcap : CapOk v1) (hn : c.num.size ≤ 9223372036854775806) (hk : c.link.size ≤ 9223372036854775806) (hs : s.size ≤ 9223372036854775806) :
    Calls Tryz.prog 10 #[.agg #[.string c.num, .string c.lab, v1, v2, .bool c.block, .bool c.mark, .int .i64 c.follow, .string c.link, .int .i64 c.loops], .string s] w fun e w' => e = .returned (.bool true) ∧ Below w.heap.size w w' := by
  have s0 := RowAt.new w 64 #[.string c.num, .string c.lab, v1, v2, .bool c.block, .bool c.mark, .int .i64 c.follow, .string c.link, .int .i64 c.loops]
  have b0 : Below w.heap.size w (w.alloc (.cells #[.string c.num, .string c.lab, v1, v2, .bool c.block, .bool c.mark, .int .i64 c.follow, .string c.link, .int .i64 c.loops] 64)) := by (repeat' (first | (with_reducible exact Below.refl _ _) | (with_reducible assumption) | (with_reducible refine below_run ?_ (by assumption)) | (with_reducible refine below_of_upd ?_ (by assumption) ?_) | (with_reducible refine below_drewN ?_ _) | (with_reducible refine Below.drew ?_) | (with_reducible refine below_seven ?_ ?_) | (with_reducible refine below_six ?_ ?_) | (with_reducible refine below_one ?_ ?_) | (with_reducible refine Below.alloc ?_ ?_ _) | (with_reducible refine below_after ?_ ?_ (by assumption)) | (show _ ≤ _; first | omega | (simp; done) | (simp; omega))))
  have HC := Lib.hid (And.intro h (And.intro hc hcap))
  have H0 := Lib.hid (And.intro s0 b0)
  obtain ⟨a1, p1, rfl⟩ := h.moves.shape
  obtain ⟨a2, p2, rfl⟩ := h.parts.shape
  clear s0 b0 h hc hcap
  go_enter Tryz.func10, Tryz.ntmps10
  go_wp2_with fail
  refine (few_any c a1 a2 p1 p2 _).mono ?_
  rintro e w1 ⟨t, rfl, ht, hb1⟩
  have s1 := H0.out.1.run hb1
  have b1 := H0.out.2.trans (hb1.mono H0.out.2.size)
  obtain ⟨x1, x2, x3, x4, x5, x6⟩ := row_facts s1
  have H1 := Lib.hid (And.intro s1 b1)
  clear s1 b1 hb1
  by_cases hf : t = true ∧ s.size ≤ 5000
  · obtain ⟨rfl, hs5⟩ := hf
    have hf := ht rfl
    have hs6 : ¬ (5000 : Int) < (s.size : Int) := by omega
    have hbd := cueB_bound HC.out.2.1 (by omega) (by omega)
    have hbd2 : (cueB c).length ≤ 1000000000 := by omega
    clear hbd ht
    go_wp2_with fail
    refine (scue_any c _ _ w1 (HC.out.1.run H1.out.2) HC.out.2.1 HC.out.2.2 hbd2 hn hk).mono ?_
    rintro e w2 ⟨rfl, hb2⟩
    have s2 := H1.out.1.run hb2
    have b2 := H1.out.2.trans (hb2.mono H1.out.2.size)
    obtain ⟨x1, x2, x3, x4, x5, x6⟩ := row_facts s2
    have H2 := Lib.hid (And.intro s2 b2)
    clear s2 b2 hb2
    go_wp2_with fail
    refine (r50cue_any c _ _ w2 (HC.out.1.run H2.out.2) HC.out.2.1 hbd2 hn hk).mono ?_
    rintro e w3 ⟨rfl, hb3⟩
    have b3 := H2.out.2.trans (hb3.mono H2.out.2.size)
    have H3 := Lib.hid b3
    generalize cueS c = sv
    generalize cueE c = ev
    clear b3 hb3 x1 x2 x3 x4 x5 x6 hbd2
    go_wp2_with fail
    refine (pgetcue_any s w3 (by omega)).mono ?_
    rintro e w4 ⟨g1, g2, rfl, hg, hb4⟩
    have HG := Lib.hid (fun W => r50getcue_any s W (by omega))
    obtain ⟨d, hd⟩ : ∃ d, (getCueD s).1 = d := ⟨_, rfl⟩
    obtain ⟨r, hr⟩ : ∃ r, (getCueD s).2 = r := ⟨_, rfl⟩
    rw [hd, hr] at HG
    rw [hr, hd]
    rw [hd] at hg
    clear hd hr
    simp only [cueA] at HG ⊢
    obtain ⟨n1, n2, rfl⟩ := hg.moves.shape
    obtain ⟨n3, n4, rfl⟩ := hg.parts.shape
    have b4 := H3.out.trans (hb4.mono H3.out.size)
    have r4 := RowAt.new w4 64 #[.string d.num, .string d.lab, .slice n1 d.moves.length n2, .slice n3 d.parts.length n4, .bool d.block, .bool d.mark, .int .i64 d.follow, .string d.link, .int .i64 d.loops]
    have k4 : Below w4.heap.size w4 (w4.alloc (.cells #[.string d.num, .string d.lab, .slice n1 d.moves.length n2, .slice n3 d.parts.length n4, .bool d.block, .bool d.mark, .int .i64 d.follow, .string d.link, .int .i64 d.loops] 64)) := by (repeat' (first | (with_reducible exact Below.refl _ _) | (with_reducible assumption) | (with_reducible refine below_run ?_ (by assumption)) | (with_reducible refine below_of_upd ?_ (by assumption) ?_) | (with_reducible refine below_drewN ?_ _) | (with_reducible refine Below.drew ?_) | (with_reducible refine below_seven ?_ ?_) | (with_reducible refine below_six ?_ ?_) | (with_reducible refine below_one ?_ ?_) | (with_reducible refine Below.alloc ?_ ?_ _) | (with_reducible refine below_after ?_ ?_ (by assumption)) | (show _ ≤ _; first | omega | (simp; done) | (simp; omega))))
    have H4 := Lib.hid (And.intro r4 (And.intro (hg.run k4) (b4.trans (k4.mono b4.size))))
    clear r4 k4 b4 hb4 hg
    go_wp2_with fail
    refine (HG.out _).mono ?_
    rintro e w5 ⟨g3, g4, rfl, hg5, hb5⟩
    obtain ⟨n5, n6, rfl⟩ := hg5.moves.shape
    obtain ⟨n7, n8, rfl⟩ := hg5.parts.shape
    have r5 := H4.out.1.run hb5
    have q5 := RowAt.new w5 64 #[.string d.num, .string d.lab, .slice n5 d.moves.length n6, .slice n7 d.parts.length n8, .bool d.block, .bool d.mark, .int .i64 d.follow, .string d.link, .int .i64 d.loops]
    have k5 : Below w5.heap.size w5 (w5.alloc (.cells #[.string d.num, .string d.lab, .slice n5 d.moves.length n6, .slice n7 d.parts.length n8, .bool d.block, .bool d.mark, .int .i64 d.follow, .string d.link, .int .i64 d.loops] 64)) := by (repeat' (first | (with_reducible exact Below.refl _ _) | (with_reducible assumption) | (with_reducible refine below_run ?_ (by assumption)) | (with_reducible refine below_of_upd ?_ (by assumption) ?_) | (with_reducible refine below_drewN ?_ _) | (with_reducible refine Below.drew ?_) | (with_reducible refine below_seven ?_ ?_) | (with_reducible refine below_six ?_ ?_) | (with_reducible refine below_one ?_ ?_) | (with_reducible refine Below.alloc ?_ ?_ _) | (with_reducible refine below_after ?_ ?_ (by assumption)) | (show _ ≤ _; first | omega | (simp; done) | (simp; omega))))
    have r5' := r5.run k5
    have b5 := H4.out.2.2.trans ((hb5.trans (k5.mono hb5.size)).mono H4.out.2.2.size)
    have D := Lib.hid (same_any d _ _ _ _ _ ((H4.out.2.1.run hb5).run k5) (hg5.run k5))
    obtain ⟨x1, x2, x3, x4, x5, x6⟩ := row_facts r5'
    obtain ⟨y1, y2, y3, y4, y5, y6⟩ := row_facts q5
    have H5 := Lib.hid b5
    clear r5 q5 k5 r5' b5 hb5 hg5
    go_wp2_with fail
    refine D.out.mono ?_
    rintro e w6 ⟨rfl, hb6⟩
    have H6 := Lib.hid (H5.out.trans (hb6.mono H5.out.size))
    clear hb6 x1 x2 x3 x4 x5 x6 y1 y2 y3 y4 y5 y6
    go_wp2_with fail
    refine (awake_any _).mono ?_
    rintro e w7 ⟨rfl, hb7⟩
    go_wp2
    go_ret
    exact ⟨rfl, H6.out.trans (hb7.mono H6.out.size)⟩
  · by_cases h2 : t = true
    · subst h2
      have hs6 : (5000 : Int) < (s.size : Int) := by simp at hf; omega
      go_wp2_with fail
      refine (awake_any w1).mono ?_
      rintro e w2 ⟨rfl, hb2⟩
      go_wp2
      go_ret
      exact ⟨rfl, H1.out.2.trans (hb2.mono H1.out.2.size)⟩
    · obtain rfl : t = false := by simpa using h2
      go_wp2_with fail
      refine (awake_any w1).mono ?_
      rintro e w2 ⟨rfl, hb2⟩
      go_wp2
      go_ret
      exact ⟨rfl, H1.out.2.trans (hb2.mono H1.out.2.size)⟩

end Go.Proofs.YtjeigphhepngmaaGreatDoor
