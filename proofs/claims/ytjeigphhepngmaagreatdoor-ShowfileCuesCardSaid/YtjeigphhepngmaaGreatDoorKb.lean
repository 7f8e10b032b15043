/-
  Pieces: the closure that adds a record.
  Pieces: the header and the end; the records of an empty show.
-/
import Derived.Deep.RegionHeld3
import Derived.Test.YtjeigphhepngmaaGreatDoorZx
namespace Go.Proofs.YtjeigphhepngmaaGreatDoor
open Go.RowKit

theorem Tryz.info_entry : (Tryz.prog.info? 77).map (fun i => (i.zero, i.size, i.bytes)) = some (some (.agg #[.int .i64 0, .string ⟨#[]⟩]), 2, 24) := by kernel_rfl

set_option maxHeartbeats 1000000 in
set_option maxRecDepth 100000 in
theorem add_any (B q K : Nat) (x : Value) (kd : UInt8) (out : List UInt8) (es : List Ent) (v : Value) (w : World) (hq : RowAt w q 34 #[v]) (hown : w.ownsRow B 77 2 v es.length (genL entA es)) (hB : B ≤ w.heap.size) (hBq : B ≤ q) (hl : es.length ≤ 1000000)
    (h0 : out ≠ []) (he : ∀ args W, (callFunc K args).run Tryz.prog W = .ok (.enter K args) W)
    (F : ∀ (b : Nat) (W : World), Wtr w.heap.size b [] W → Below w.heap.size w W → Calls Tryz.prog K #[.pointer (some ⟨b, 0, none⟩), x] W fun e w' => e = .returned (.tuple #[]) ∧ Wtr w.heap.size b out w' ∧ KeptW w.heap.size b W w') :
    Calls Tryz.prog 83 #[.int .i64 (kd.toNat : Int), .func (.func K) #[] #[x], .pointer (some ⟨q, 0, none⟩)] w fun e w' => e = .returned (.tuple #[]) ∧ (∃ g cap, RowAt w' q 34 #[.slice (some ⟨g, 0, none⟩) (es ++ [(kd, str out)]).length cap] ∧ w'.ownsRow B 77 2 (.slice (some ⟨g, 0, none⟩) (es ++ [(kd, str out)]).length cap) (es ++ [(kd, str out)]).length (genL entA (es ++ [(kd, str out)]))) ∧ Below B w w' := by
  obtain ⟨i0, hi, hz0, hz1, hz2⟩ := info_parts Tryz.info_entry
  have D := Lib.hid (data_any K x out w.drew h0 he (fun b W hW hb => F b W hW ⟨hb.os, hb.tape, hb.output, hb.size, hb.block⟩))
  obtain ⟨x1, x2, x3, x4, x5, x6⟩ := row_facts hq
  have x0 := x1 0
  simp at x0
  obtain ⟨ad, cp, rfl, -⟩ := own_shape hown
  have HH := Lib.hid (And.intro hq hown)
  have HB := Lib.hid (And.intro hB hBq)
  have hl3 : (es.length : Int) ≤ 1000000 := by omega
  have e1 : (es ++ [(kd, str out)]).length = es.length + 1 := by simp
  have e2 : genL entA (es ++ [(kd, str out)]) = genL entA es ++ [.int .i64 (kd.toNat : Int), .string (str out)] := by rw [genL_snoc]; rfl
  have HE := Lib.hid (And.intro e1 e2)
  have ho := entA_ones (kd, str out)
  simp only [entA] at ho
  generalize (es ++ [(kd, str out)]) = es' at HE ⊢
  generalize str out = so at D HE ho ⊢
  generalize (kd.toNat : Int) = kk at HE ho ⊢
  clear F hq hown x1 e1 e2 h0 he
  go_enter Tryz.func83, Tryz.ntmps83
  go_wp2
  go_region_law (first
    | (go_simp; go_at_call 69; refine D.out.mono ?_; rintro e w4 ⟨rfl, hb4⟩; have r4 := RowAt.run (RowAt.drew HH.out.1) hb4; have own4 := own_run (World.ownsRow.drew HH.out.2) hb4; have hs4 := hb4.size; have x04 := cell_h r4 0; simp at x04; obtain ⟨g1, g2, g3, g4, g5, g6⟩ := row_facts r4; clear g1; have R4 := Lib.hid (And.intro r4 (And.intro own4 ((Below.drew (Below.refl B w)).trans (hb4.mono HB.out.1)))); clear hb4)
    | (refine step_append_lies _ (by rfl) _ _ _ (by rfl) B 77 i0 _ 2 24 Tryz.underlying34 hi hz0 hz1 hz2 rfl (by decide) (.slice ad es.length cp) es.length _ (by rfl) (own4.alloc _) ⟨w4.heap.size, 0, none⟩ 1 1 [.int .i64 kk, .string so] (by rfl) (by rfl) (World.news_of_block (cs := #[.int .i64 kk, .string so]) (t := 77) (fr := (0, 0)) (heap_alloc_new _ _)) ho (by decide) (by unfold maxLen; omega) (by omega) (by simp; omega) (w4.heap.size + 1) (by simp) ?_; intro gg cp2 w8 hown8 hgrow hat hlt8; have hr8 := row_two (own4.alloc _) (RowAt.alloc r4 _) (by decide) hgrow; have k0 := cell_h hr8 0; simp at k0; obtain ⟨k1, k2, k3, k4, k5, k6⟩ := row_facts hr8; clear k1; have R8 := Lib.hid (And.intro hr8 (And.intro (below_grown (Below.alloc R4.out.2.2 (by omega) _) (own4.alloc _) (Nat.le_refl _) hgrow (by simp; omega)) hown8)); clear hgrow hat hown8 hr8))
  all_goals
    go_wp2
    (first | go_end0 | refine bodyPost_ret (results_none rfl _ _ _) rfl ?_)
    rw [HE.out.1, HE.out.2]
    refine ⟨rfl, ⟨gg, cp2, RowAt.set R8.out.1 rfl, ?_⟩, Below.setCell R8.out.2.1 (by show B ≤ q; omega) _⟩
    exact own_upd R8.out.2.2 R8.out.1 (by decide) (upd_set (upd_refl q w8) 0 _)

end Go.Proofs.YtjeigphhepngmaaGreatDoor

namespace Go.Proofs.YtjeigphhepngmaaGreatDoor
open Go.RowKit

set_option maxHeartbeats 1000000 in
set_option maxRecDepth 100000 in
theorem whead_any (B b q : Nat) (t : ByteArray) (v1 v2 v3 v4 v5 v6 v7 v8 : Value) (w : World) (h : Wtr B b [] w) (hq : RowAt w q 31 #[.string t, v1, v2, v3, v4, v5, v6, v7, v8]) (ht : t.size ≤ 1000000000) (hB : B ≤ w.heap.size) :
    Calls Tryz.prog 84 #[.pointer (some ⟨b, 0, none⟩), .pointer (some ⟨q, 0, none⟩)] w fun e w' => e = .returned (.tuple #[]) ∧ Wtr B b (intB 3 ++ textB t) w' ∧ KeptW B b w w' := by
  have hl3 : (intB 3).length ≤ 10 := intB_len (by decide) (by decide)
  have hlt : (textB t).length ≤ 10 + t.size := by
    unfold textB
    split
    · simp
    · have := intB_len (n := t.size) (by omega) (by omega)
      simp only [List.length_append]
      have e : t.data.toList.length = t.size := by simp
      omega
  have C1 := Lib.hid (wint1_any B b [] 3 w h (by decide) (by simp; omega) hB)
  have C2 := Lib.hid (fun (W : World) (hW : Wtr B b ([] ++ intB 3) W) (hBW : B ≤ W.heap.size) => wtext_any B b ([] ++ intB 3) t W hW (by omega) (by simp; omega) hBW)
  have HQ := Lib.hid (And.intro hq (h.far hq (by decide)))
  clear hlt hl3 hq h
  go_enter Tryz.func84, Tryz.ntmps84
  go_wp2_with fail
  refine C1.out.mono ?_
  rintro e w1 ⟨rfl, hw1, hk1⟩
  have hq1 := hk1.row HQ.out.1 HQ.out.2 (by decide)
  obtain ⟨x1, x2, x3, x4, x5, x6⟩ := row_facts hq1
  have HH := Lib.hid (And.intro hw1 hk1)
  clear hw1 hq1
  go_wp2_with fail
  refine (C2.out w1 HH.out.1 (Nat.le_trans hB HH.out.2.1.size)).mono ?_
  rintro e w2 ⟨rfl, hw2, hk2⟩
  go_wp2
  (first | go_end0 | refine bodyPost_ret (results_none rfl _ _ _) rfl ?_)
  exact ⟨rfl, by simpa using hw2, HH.out.2.trans hk2⟩

set_option maxHeartbeats 1000000 in
set_option maxRecDepth 100000 in
theorem wlast_any (B b q : Nat) (n : Int) (w : World) (h : Wtr B b [] w) (hq : RowAt w q 3 #[.int .i64 n]) (hn : -9223372036854775808 ≤ n ∧ n ≤ 9223372036854775807) (hB : B ≤ w.heap.size) :
    Calls Tryz.prog 105 #[.pointer (some ⟨b, 0, none⟩), .pointer (some ⟨q, 0, none⟩)] w fun e w' => e = .returned (.tuple #[]) ∧ Wtr B b (intB n) w' ∧ KeptW B b w w' := by
  have hl3 : (intB n).length ≤ 10 := intB_len hn.1 hn.2
  have C1 := Lib.hid (wint1_any B b [] n w h hn (by simp; omega) hB)
  obtain ⟨x1, x2, x3, x4, x5, x6⟩ := row_facts hq
  have HQ := Lib.hid (And.intro h hq)
  clear hq h
  go_enter Tryz.func105, Tryz.ntmps105
  go_wp2_with fail
  refine C1.out.mono ?_
  rintro e w1 ⟨rfl, hw1, hk1⟩
  go_wp2
  (first | go_end0 | refine bodyPost_ret (results_none rfl _ _ _) rfl ?_)
  exact ⟨rfl, by simpa using hw1, hk1⟩

theorem whead_enters : ∀ args W, (callFunc 84 args).run Tryz.prog W = .ok (.enter 84 args) W := enters_of Tryz.func84 (by kernel_rfl) rfl
theorem wlast_enters : ∀ args W, (callFunc 105 args).run Tryz.prog W = .ok (.enter 105 args) W := enters_of Tryz.func105 (by kernel_rfl) rfl

set_option maxHeartbeats 1000000 in
set_option maxRecDepth 100000 in
theorem pieces_ex (w : World) :
    Calls Tryz.prog 44 #[.agg #[.string ⟨#[]⟩, .slice none 0 0, .slice none 0 0, .slice none 0 0, .slice none 0 0, .slice none 0 0, .slice none 0 0, .slice none 0 0, .slice none 0 0]] w fun e w' => ∃ g cap, e = .returned (.slice (some ⟨g, 0, none⟩) 2 cap) ∧ ListAt 2 entA w' (.slice (some ⟨g, 0, none⟩) 2 cap) [(1, exHead), (11, exEnd)] ∧ Below w.heap.size w w' := by
  have hmf : ∀ (fn : Fn) (first cap : Array Value) (w : World), (Instr.makeFunc fn first cap).run Tryz.prog w = .ok (.func fn first cap) w := fun _ _ _ _ => rfl
  obtain ⟨W0, hW0⟩ : ∃ W, (w.alloc (.cells #[.string ⟨#[]⟩, .slice none 0 0, .slice none 0 0, .slice none 0 0, .slice none 0 0, .slice none 0 0, .slice none 0 0, .slice none 0 0, .slice none 0 0] 31)).alloc (.cells #[.slice none 0 0] 34) = W := ⟨_, rfl⟩
  have s0 : RowAt W0 w.heap.size 31 #[.string ⟨#[]⟩, .slice none 0 0, .slice none 0 0, .slice none 0 0, .slice none 0 0, .slice none 0 0, .slice none 0 0, .slice none 0 0, .slice none 0 0] := by rw [← hW0]; exact RowAt.alloc (RowAt.new _ _ _) _
  have q0 : RowAt W0 (w.heap.size + 1) 34 #[.slice none 0 0] := by
    rw [← hW0]
    have h9 := RowAt.new (w.alloc (.cells #[.string ⟨#[]⟩, .slice none 0 0, .slice none 0 0, .slice none 0 0, .slice none 0 0, .slice none 0 0, .slice none 0 0, .slice none 0 0, .slice none 0 0] 31)) 34 #[.slice none 0 0]
    rw [show (w.alloc (.cells #[.string ⟨#[]⟩, .slice none 0 0, .slice none 0 0, .slice none 0 0, .slice none 0 0, .slice none 0 0, .slice none 0 0, .slice none 0 0, .slice none 0 0] 31)).heap.size = w.heap.size + 1 from by simp] at h9
    exact h9
  have hz0 : W0.heap.size = w.heap.size + 2 := by rw [← hW0]; simp
  have b0 : Below w.heap.size w W0 := by rw [← hW0]; (repeat' (first | (with_reducible exact Below.refl _ _) | (with_reducible assumption) | (with_reducible refine below_run ?_ (by assumption)) | (with_reducible refine below_of_upd ?_ (by assumption) ?_) | (with_reducible refine below_drewN ?_ _) | (with_reducible refine Below.drew ?_) | (with_reducible refine below_seven ?_ ?_) | (with_reducible refine below_six ?_ ?_) | (with_reducible refine below_one ?_ ?_) | (with_reducible refine Below.alloc ?_ ?_ _) | (with_reducible refine below_after ?_ ?_ (by assumption)) | (show _ ≤ _; first | omega | (simp; done) | (simp; omega))))
  have C1 := Lib.hid (fun (W : World) (hW : W0 = W) => by subst hW; exact add_any (w.heap.size + 1) (w.heap.size + 1) 84 (.pointer (some ⟨w.heap.size, 0, none⟩)) 1 (intB 3 ++ textB ⟨#[]⟩) [] (.slice none 0 0) W0 q0 (World.ownsRow_nil _ _ _ _) (by omega) (by omega) (by simp) (by rw [ex_headB]; simp) whead_enters (fun b W hW hb => whead_any W0.heap.size b w.heap.size ⟨#[]⟩ _ _ _ _ _ _ _ _ W hW (s0.run hb) (by decide) hb.size))
  have H0 := Lib.hid (And.intro s0 (And.intro b0 hz0))
  clear s0 q0 b0 hz0
  go_enter Tryz.func44, Tryz.ntmps44
  go_wp2_with fail
  refine (C1.out _ rfl).mono ?_
  rintro e w1 ⟨rfl, ⟨g, cap, hq1, hown1⟩, hb1⟩
  have hs1 := hb1.size
  have s1 : RowAt w1 w.heap.size 31 #[.string ⟨#[]⟩, .slice none 0 0, .slice none 0 0, .slice none 0 0, .slice none 0 0, .slice none 0 0, .slice none 0 0, .slice none 0 0, .slice none 0 0] := H0.out.1.below hb1 (by omega)
  have hz1 := H0.out.2.2
  have b1 : Below w.heap.size w w1 := H0.out.2.1.trans (hb1.mono (by omega))
  rw [ex_headB] at hown1 hq1
  simp only [List.nil_append, List.length_cons, List.length_nil] at hown1 hq1
  have q1 : RowAt (w1.alloc (.cells #[.int .i64 1] 3)) (w.heap.size + 1) 34 #[.slice (some ⟨g, 0, none⟩) 1 cap] := hq1.alloc _
  have C2 := Lib.hid (add_any (w.heap.size + 1) (w.heap.size + 1) 105 (.pointer (some ⟨w1.heap.size, 0, none⟩)) 11 (intB 1) [(1, exHead)] (.slice (some ⟨g, 0, none⟩) 1 cap) (w1.alloc (.cells #[.int .i64 1] 3)) q1 (World.ownsRow.alloc hown1 _) (by simp; omega) (by omega) (by simp) (by rw [ex_endB]; simp) wlast_enters (fun b W hW hb => wlast_any _ b w1.heap.size 1 W hW ((RowAt.new w1 _ _).run hb) (by decide) hb.size))
  obtain ⟨x1, x2, x3, x4, x5, x6⟩ := row_facts s1
  obtain ⟨y1, y2, y3, y4, y5, y6⟩ := row_facts hq1
  have H1 := Lib.hid (And.intro b1 (And.intro hs1 hz1))
  clear hown1 hq1 q1 b1 hb1 hs1 hz1 s1
  go_wp2
  go_loopw [31] (fun i wr => i = .int .i64 0 ∧ w1 = wr) (fun _ _ => 0)
  case atStart => exact ⟨rfl, rfl⟩
  case round =>
    obtain ⟨rfl, rfl⟩ := hrel
    go_wp2
    go_loopw [42] (fun i wr => i = .int .i64 0 ∧ w1 = wr) (fun _ _ => 0)
    case atStart => exact ⟨rfl, rfl⟩
    case round =>
      obtain ⟨rfl, rfl⟩ := hrel
      go_wp2
      go_loopw [53] (fun i wr => i = .int .i64 0 ∧ w1 = wr) (fun _ _ => 0)
      case atStart => exact ⟨rfl, rfl⟩
      case round =>
        obtain ⟨rfl, rfl⟩ := hrel
        go_wp2
        go_loopw [64] (fun i wr => i = .int .i64 0 ∧ w1 = wr) (fun _ _ => 0)
        case atStart => exact ⟨rfl, rfl⟩
        case round =>
          obtain ⟨rfl, rfl⟩ := hrel
          go_wp2
          go_loopw [75] (fun i wr => i = .int .i64 0 ∧ w1 = wr) (fun _ _ => 0)
          case atStart => exact ⟨rfl, rfl⟩
          case round =>
            obtain ⟨rfl, rfl⟩ := hrel
            go_wp2
            go_loopw [86] (fun i wr => i = .int .i64 0 ∧ w1 = wr) (fun _ _ => 0)
            case atStart => exact ⟨rfl, rfl⟩
            case round =>
              obtain ⟨rfl, rfl⟩ := hrel
              go_wp2
              go_loopw [108] (fun i wr => i = .int .i64 0 ∧ w1 = wr) (fun _ _ => 0)
              case atStart => exact ⟨rfl, rfl⟩
              case round =>
                obtain ⟨rfl, rfl⟩ := hrel
                go_wp2
                go_loopw [119] (fun i wr => i = .int .i64 0 ∧ w1 = wr) (fun _ _ => 0)
                case atStart => exact ⟨rfl, rfl⟩
                case round =>
                  obtain ⟨rfl, rfl⟩ := hrel
                  go_wp2_with fail
                  refine C2.out.mono ?_
                  rintro e w2 ⟨rfl, ⟨g2, cap2, hq2, hown2⟩, hb2⟩
                  obtain ⟨z1, z2, z3, z4, z5, z6⟩ := row_facts hq2
                  have hL := own_list (S := 2) (f := entA) (l := [(1, exHead), (11, exEnd)]) (by decide) entA_size (by have h9 := hown2; rw [ex_endB] at h9; exact h9) (by decide)
                  go_wp2
                  go_ret
                  exact ⟨g2, cap2, rfl, hL, H1.out.1.trans ((Below.alloc (Below.refl _ _) (by have := H1.out.2; omega) _).trans (hb2.mono (by omega)))⟩

end Go.Proofs.YtjeigphhepngmaaGreatDoor
