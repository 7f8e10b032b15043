/-
  What the writer writes: a cue; data.
  data: what a function writes; the closure that writes a cue.
-/
import Derived.Test.YtjeigphhepngmaaGreatDoorYf
namespace Go.Proofs.YtjeigphhepngmaaGreatDoor
open Go.RowKit

/-- What a cue's numbers and texts must be to be values of the program. -/
structure Cue64 (c : CueD) : Prop where
  moves : ∀ m ∈ c.moves, Ints64 (mvI m)
  parts : ∀ m ∈ c.parts, Ints64 (timI m)
  follow : -9223372036854775808 ≤ c.follow ∧ c.follow ≤ 9223372036854775807
  loops : -9223372036854775808 ≤ c.loops ∧ c.loops ≤ 9223372036854775807
  num : c.num.size ≤ 9223372036854775807
  lab : c.lab.size ≤ 9223372036854775807
  link : c.link.size ≤ 9223372036854775807
theorem truthI_in (q : Bool) : -9223372036854775808 ≤ truthI q ∧ truthI q ≤ 9223372036854775807 := by cases q <;> simp [truthI]

set_option maxHeartbeats 4000000 in
set_option maxRecDepth 100000 in
theorem wcue_any (B b : Nat) (l : List UInt8) (c : CueD) (v1 v2 : Value) (w : World) (h : Wtr B b l w) (hv1 : LowAt B 5 mvA w v1 c.moves) (hv2 : LowAt B 6 timA w v2 c.parts) (hc : Cue64 c) (hlen : l.length + (cueB c).length ≤ 140737488355328) (hB : B ≤ w.heap.size) :
    Calls Tryz.prog 71 #[.pointer (some ⟨b, 0, none⟩), .agg #[.string c.num, .string c.lab, v1, v2, .bool c.block, .bool c.mark, .int .i64 c.follow, .string c.link, .int .i64 c.loops]] w fun e w' => e = .returned (.tuple #[]) ∧ Wtr B b (l ++ cueB c) w' ∧ KeptW B b w w' := by
  have hbw := h.lt.2
  have HL := Lib.hid (show l.length + (textB c.num).length + (textB c.lab).length + (intB c.moves.length).length + (c.moves.flatMap mvB).length + (intB c.parts.length).length + (c.parts.flatMap timB).length + (intB (truthI c.block)).length + (intB (truthI c.mark)).length + (intB c.follow).length + (textB c.link).length + (intB c.loops).length ≤ 140737488355328 from by
    simp only [cueB, List.length_append] at hlen
    omega)
  have HC := Lib.hid hc
  have HV := Lib.hid (And.intro h (And.intro hv1 hv2))
  clear hlen hc h hv1 hv2
  go_enter Tryz.func71, Tryz.ntmps71
  go_wp2_with fail
  have hp0 : AtP ((w.alloc (.cells #[.pointer (some ⟨b, 0, none⟩)] 131)).alloc (.cells #[.string c.num, .string c.lab, v1, v2, .bool c.block, .bool c.mark, .int .i64 c.follow, .string c.link, .int .i64 c.loops] 64)) w.heap.size b := RowAt.alloc (RowAt.new _ _ _) _
  have hq0 : RowAt ((w.alloc (.cells #[.pointer (some ⟨b, 0, none⟩)] 131)).alloc (.cells #[.string c.num, .string c.lab, v1, v2, .bool c.block, .bool c.mark, .int .i64 c.follow, .string c.link, .int .i64 c.loops] 64)) (w.heap.size + 1) 64 #[.string c.num, .string c.lab, v1, v2, .bool c.block, .bool c.mark, .int .i64 c.follow, .string c.link, .int .i64 c.loops] := by
    have h9 := RowAt.new (w.alloc (.cells #[.pointer (some ⟨b, 0, none⟩)] 131)) 64 #[.string c.num, .string c.lab, v1, v2, .bool c.block, .bool c.mark, .int .i64 c.follow, .string c.link, .int .i64 c.loops]
    rw [show (w.alloc (.cells #[.pointer (some ⟨b, 0, none⟩)] 131)).heap.size = w.heap.size + 1 from by simp] at h9
    exact h9
  have hw0 : Wtr B b l ((w.alloc (.cells #[.pointer (some ⟨b, 0, none⟩)] 131)).alloc (.cells #[.string c.num, .string c.lab, v1, v2, .bool c.block, .bool c.mark, .int .i64 c.follow, .string c.link, .int .i64 c.loops] 64)) := (HV.out.1.alloc _).alloc _
  have hk0 : KeptW B b w ((w.alloc (.cells #[.pointer (some ⟨b, 0, none⟩)] 131)).alloc (.cells #[.string c.num, .string c.lab, v1, v2, .bool c.block, .bool c.mark, .int .i64 c.follow, .string c.link, .int .i64 c.loops] 64)) := ((KeptW.refl _ _ _).alloc hB _).alloc (by simp; omega) _
  have S0 := Lib.hid (And.intro hw0 (And.intro hp0 (And.intro hq0 hk0)))
  clear hp0 hq0 hw0 hk0
  refine (wtext_any B b _ c.num _ S0.out.1 (HC.out.num) (by have := HL.out; (try simp only [List.length_append]); omega) (Nat.le_trans hB S0.out.2.2.2.1.size)).mono ?_
  rintro e w1 ⟨rfl, hw, hk⟩
  have S1 := Lib.hid (And.intro hw (And.intro (hk.row S0.out.2.1 (S0.out.1.far S0.out.2.1 (by decide)) (by decide)) (And.intro (hk.row S0.out.2.2.1 (S0.out.1.far S0.out.2.2.1 (by decide)) (by decide)) (S0.out.2.2.2.trans hk))))
  clear hw hk
  obtain ⟨x1, x2, x3, x4, x5, x6⟩ := row_facts S1.out.2.1
  obtain ⟨y1, y2, y3, y4, y5, y6⟩ := row_facts S1.out.2.2.1
  go_wp2_with fail
  clear x1 x2 x3 x4 x5 x6 y1 y2 y3 y4 y5 y6
  refine (wtext_any B b _ c.lab _ S1.out.1 (HC.out.lab) (by have := HL.out; (try simp only [List.length_append]); omega) (Nat.le_trans hB S1.out.2.2.2.1.size)).mono ?_
  rintro e w2 ⟨rfl, hw, hk⟩
  have S2 := Lib.hid (And.intro hw (And.intro (hk.row S1.out.2.1 (S1.out.1.far S1.out.2.1 (by decide)) (by decide)) (And.intro (hk.row S1.out.2.2.1 (S1.out.1.far S1.out.2.2.1 (by decide)) (by decide)) (S1.out.2.2.2.trans hk))))
  clear hw hk
  obtain ⟨x1, x2, x3, x4, x5, x6⟩ := row_facts S2.out.2.1
  obtain ⟨y1, y2, y3, y4, y5, y6⟩ := row_facts S2.out.2.2.1
  go_wp2_with fail
  clear x1 x2 x3 x4 x5 x6 y1 y2 y3 y4 y5 y6
  refine (mv_each B b w.heap.size _ v1 c.moves _ S2.out.1 S2.out.2.1 (HV.out.2.1.kept S2.out.2.2.2.1) HC.out.moves (by have := HL.out; (try simp only [List.length_append]); omega) (Nat.le_trans hB S2.out.2.2.2.1.size)).mono ?_
  rintro e w3 ⟨rfl, hw, hk⟩
  have S3 := Lib.hid (And.intro hw (And.intro (hk.row S2.out.2.1 (S2.out.1.far S2.out.2.1 (by decide)) (by decide)) (And.intro (hk.row S2.out.2.2.1 (S2.out.1.far S2.out.2.2.1 (by decide)) (by decide)) (S2.out.2.2.2.trans hk))))
  clear hw hk
  obtain ⟨x1, x2, x3, x4, x5, x6⟩ := row_facts S3.out.2.1
  obtain ⟨y1, y2, y3, y4, y5, y6⟩ := row_facts S3.out.2.2.1
  go_wp2_with fail
  clear x1 x2 x3 x4 x5 x6 y1 y2 y3 y4 y5 y6
  refine (tim_each B b w.heap.size _ v2 c.parts _ S3.out.1 S3.out.2.1 (HV.out.2.2.kept S3.out.2.2.2.1) HC.out.parts (by have := HL.out; (try simp only [List.length_append]); omega) (Nat.le_trans hB S3.out.2.2.2.1.size)).mono ?_
  rintro e w4 ⟨rfl, hw, hk⟩
  have S4 := Lib.hid (And.intro hw (And.intro (hk.row S3.out.2.1 (S3.out.1.far S3.out.2.1 (by decide)) (by decide)) (And.intro (hk.row S3.out.2.2.1 (S3.out.1.far S3.out.2.2.1 (by decide)) (by decide)) (S3.out.2.2.2.trans hk))))
  clear hw hk
  obtain ⟨x1, x2, x3, x4, x5, x6⟩ := row_facts S4.out.2.1
  obtain ⟨y1, y2, y3, y4, y5, y6⟩ := row_facts S4.out.2.2.1
  go_wp2_with fail
  clear x1 x2 x3 x4 x5 x6 y1 y2 y3 y4 y5 y6
  refine (wtruth_any B b _ c.block _ S4.out.1 (by have := HL.out; (try simp only [List.length_append]); omega) (Nat.le_trans hB S4.out.2.2.2.1.size)).mono ?_
  rintro e w5 ⟨rfl, hw, hk⟩
  have S5 := Lib.hid (And.intro hw (And.intro (hk.row S4.out.2.1 (S4.out.1.far S4.out.2.1 (by decide)) (by decide)) (And.intro (hk.row S4.out.2.2.1 (S4.out.1.far S4.out.2.2.1 (by decide)) (by decide)) (S4.out.2.2.2.trans hk))))
  clear hw hk
  obtain ⟨x1, x2, x3, x4, x5, x6⟩ := row_facts S5.out.2.1
  obtain ⟨y1, y2, y3, y4, y5, y6⟩ := row_facts S5.out.2.2.1
  go_wp2_with fail
  clear x1 x2 x3 x4 x5 x6 y1 y2 y3 y4 y5 y6
  refine (wtruth_any B b _ c.mark _ S5.out.1 (by have := HL.out; (try simp only [List.length_append]); omega) (Nat.le_trans hB S5.out.2.2.2.1.size)).mono ?_
  rintro e w6 ⟨rfl, hw, hk⟩
  have S6 := Lib.hid (And.intro hw (And.intro (hk.row S5.out.2.1 (S5.out.1.far S5.out.2.1 (by decide)) (by decide)) (And.intro (hk.row S5.out.2.2.1 (S5.out.1.far S5.out.2.2.1 (by decide)) (by decide)) (S5.out.2.2.2.trans hk))))
  clear hw hk
  obtain ⟨x1, x2, x3, x4, x5, x6⟩ := row_facts S6.out.2.1
  obtain ⟨y1, y2, y3, y4, y5, y6⟩ := row_facts S6.out.2.2.1
  go_wp2_with fail
  clear x1 x2 x3 x4 x5 x6 y1 y2 y3 y4 y5 y6
  refine (wint1_any B b _ c.follow _ S6.out.1 HC.out.follow (by have := HL.out; (try simp only [List.length_append]); omega) (Nat.le_trans hB S6.out.2.2.2.1.size)).mono ?_
  rintro e w7 ⟨rfl, hw, hk⟩
  have S7 := Lib.hid (And.intro hw (And.intro (hk.row S6.out.2.1 (S6.out.1.far S6.out.2.1 (by decide)) (by decide)) (And.intro (hk.row S6.out.2.2.1 (S6.out.1.far S6.out.2.2.1 (by decide)) (by decide)) (S6.out.2.2.2.trans hk))))
  clear hw hk
  obtain ⟨x1, x2, x3, x4, x5, x6⟩ := row_facts S7.out.2.1
  obtain ⟨y1, y2, y3, y4, y5, y6⟩ := row_facts S7.out.2.2.1
  go_wp2_with fail
  clear x1 x2 x3 x4 x5 x6 y1 y2 y3 y4 y5 y6
  refine (wtext_any B b _ c.link _ S7.out.1 (HC.out.link) (by have := HL.out; (try simp only [List.length_append]); omega) (Nat.le_trans hB S7.out.2.2.2.1.size)).mono ?_
  rintro e w8 ⟨rfl, hw, hk⟩
  have S8 := Lib.hid (And.intro hw (And.intro (hk.row S7.out.2.1 (S7.out.1.far S7.out.2.1 (by decide)) (by decide)) (And.intro (hk.row S7.out.2.2.1 (S7.out.1.far S7.out.2.2.1 (by decide)) (by decide)) (S7.out.2.2.2.trans hk))))
  clear hw hk
  obtain ⟨x1, x2, x3, x4, x5, x6⟩ := row_facts S8.out.2.1
  obtain ⟨y1, y2, y3, y4, y5, y6⟩ := row_facts S8.out.2.2.1
  go_wp2_with fail
  clear x1 x2 x3 x4 x5 x6 y1 y2 y3 y4 y5 y6
  refine (wint1_any B b _ c.loops _ S8.out.1 HC.out.loops (by have := HL.out; (try simp only [List.length_append]); omega) (Nat.le_trans hB S8.out.2.2.2.1.size)).mono ?_
  rintro e w9 ⟨rfl, hw, hk⟩
  have S9 := Lib.hid (And.intro hw (And.intro (hk.row S8.out.2.1 (S8.out.1.far S8.out.2.1 (by decide)) (by decide)) (And.intro (hk.row S8.out.2.2.1 (S8.out.1.far S8.out.2.2.1 (by decide)) (by decide)) (S8.out.2.2.2.trans hk))))
  clear hw hk
  go_wp2
  (first | go_end0 | refine bodyPost_ret (results_none rfl _ _ _) rfl ?_)
  exact ⟨rfl, by have := S9.out.1; simpa [cueB, List.append_assoc] using this, S9.out.2.2.2⟩
end Go.Proofs.YtjeigphhepngmaaGreatDoor

namespace Go.Proofs.YtjeigphhepngmaaGreatDoor
open Go.RowKit

set_option maxHeartbeats 1000000 in
set_option maxRecDepth 100000 in
theorem data_any (K : Nat) (x : Value) (out : List UInt8) (w : World) (h0 : out ≠ []) (he : ∀ args W, (callFunc K args).run Tryz.prog W = .ok (.enter K args) W)
    (F : ∀ (b : Nat) (W : World), Wtr w.heap.size b [] W → Below w.heap.size w W → Calls Tryz.prog K #[.pointer (some ⟨b, 0, none⟩), x] W fun e w' => e = .returned (.tuple #[]) ∧ Wtr w.heap.size b out w' ∧ KeptW w.heap.size b W w') :
    Calls Tryz.prog 69 #[.func (.func K) #[] #[x]] w fun e w' => e = .returned (.string (str out)) ∧ Below w.heap.size w w' := by
  have hf : Wtr w.heap.size w.heap.size [] (w.alloc (.cells #[.pointer none, .slice none 0 0] 230)) := Lib.IsBuilderF.of (Lib.fresh_isBuilder 230 5 w)
  have HF := Lib.hid (And.intro hf F)
  clear F hf
  go_enter Tryz.func69, Tryz.ntmps69
  go_wp2_with fail
  refine (HF.out.2 _ _ HF.out.1 (by (repeat' (first | (with_reducible exact Below.refl _ _) | (with_reducible assumption) | (with_reducible refine below_run ?_ (by assumption)) | (with_reducible refine below_of_upd ?_ (by assumption) ?_) | (with_reducible refine below_drewN ?_ _) | (with_reducible refine Below.drew ?_) | (with_reducible refine below_seven ?_ ?_) | (with_reducible refine below_six ?_ ?_) | (with_reducible refine below_one ?_ ?_) | (with_reducible refine Below.alloc ?_ ?_ _) | (with_reducible refine below_after ?_ ?_ (by assumption)) | (show _ ≤ _; first | omega | (simp; done) | (simp; omega)))))).mono ?_
  rintro e w1 ⟨rfl, hw, hk⟩
  have HW := Lib.hid hw
  clear hw
  go_wp2_with fail
  refine (wtr_string _ _ _ _ HW.out h0).mono ?_
  rintro e w2 ⟨rfl, hb2⟩
  go_wp2
  go_ret
  exact ⟨rfl, (((Below.refl _ _).alloc (Nat.le_refl _) _).trans hk.1).trans hb2⟩

theorem cueB_ne (c : CueD) : cueB c ≠ [] := by
  have := vint_pos (zig c.loops)
  intro h
  have h2 := congrArg List.length h
  simp only [cueB, List.length_append, List.length_nil] at h2
  unfold intB at h2
  omega

def cueA (c : CueD) (v1 v2 : Value) : Array Value := #[.string c.num, .string c.lab, v1, v2, .bool c.block, .bool c.mark, .int .i64 c.follow, .string c.link, .int .i64 c.loops]
/-- A value is a cue. -/
structure CueAt (w : World) (v1 v2 : Value) (c : CueD) : Prop where
  moves : ListAt 5 mvA w v1 c.moves
  parts : ListAt 6 timA w v2 c.parts
theorem CueAt.run {w w' : World} {v1 v2 : Value} {c : CueD} (h : CueAt w v1 v2 c) (hb : Below w.heap.size w w') : CueAt w' v1 v2 c := ⟨h.moves.run hb, h.parts.run hb⟩

set_option maxHeartbeats 1000000 in
set_option maxRecDepth 100000 in
theorem wcue1_any (B b q : Nat) (c : CueD) (v1 v2 : Value) (w : World) (h : Wtr B b [] w) (hq : RowAt w q 64 (cueA c v1 v2)) (hv1 : LowAt B 5 mvA w v1 c.moves) (hv2 : LowAt B 6 timA w v2 c.parts) (hc : Cue64 c) (hlen : (cueB c).length ≤ 140737488355328) (hB : B ≤ w.heap.size) :
    Calls Tryz.prog 70 #[.pointer (some ⟨b, 0, none⟩), .pointer (some ⟨q, 0, none⟩)] w fun e w' => e = .returned (.tuple #[]) ∧ Wtr B b (cueB c) w' ∧ KeptW B b w w' := by
  have C := Lib.hid (wcue_any B b [] c v1 v2 w h hv1 hv2 hc (by simpa using hlen) hB)
  obtain ⟨x1, x2, x3, x4, x5, x6⟩ := row_facts hq
  simp only [cueA] at x1
  clear hlen hc h hv1 hv2
  go_enter Tryz.func70, Tryz.ntmps70
  go_wp2_with fail
  refine C.out.mono ?_
  rintro e w1 ⟨rfl, hw, hk⟩
  go_wp2
  (first | go_end0 | refine bodyPost_ret (results_none rfl _ _ _) rfl ?_)
  exact ⟨rfl, hw, hk⟩
end Go.Proofs.YtjeigphhepngmaaGreatDoor
