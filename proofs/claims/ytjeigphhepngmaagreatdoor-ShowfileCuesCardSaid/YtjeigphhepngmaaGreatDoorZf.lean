/-
  The program's reader: lists.
-/
import Derived.Test.YtjeigphhepngmaaGreatDoorZe
namespace Go.Proofs.YtjeigphhepngmaaGreatDoor
open Go.RowKit

theorem own_upd2 {w w' : World} {B T S n b t U : Nat} {v : Value} {xs : List Value} {cs : Array Value} (h : w.ownsRow B T S v n xs) (hr : RowAt w b U cs) (hne : T ≠ U) (ht : w.heap.size ≤ t) (hu : Upd2 b t w w') : w'.ownsRow B T S v n xs := by
  refine ⟨h.1, ?_⟩
  rcases h.2 with hn | ⟨g, cap, cur, rfl, hbg, hg, rest⟩
  · exact .inl hn
  · refine .inr ⟨g, cap, cur, rfl, hbg, (hu.block g (lt_of_block hg) (fun e => ?_) (by have := lt_of_block hg; omega)).trans hg, rest⟩
    subst e
    unfold RowAt at hr
    rw [hr] at hg
    simp at hg
    exact hne hg.2.symm
theorem own_upd2n {w W w' : World} {B T S n b t U : Nat} {v : Value} {xs : List Value} {cs : Array Value} (h : w.ownsRow B T S v n xs) (hr : RowAt w b U cs) (hne : T ≠ U) (hb : Below w.heap.size w W) (ht : w.heap.size ≤ t) (hu : Upd2 b t W w') : w'.ownsRow B T S v n xs :=
  own_upd2 h hr hne ht (((Upd2.refl b t w).below hb).trans hu)
/-- What reading a list says. -/
def LPost {α : Type} (b T S : Nat) (f : α → Array Value) (s : ByteArray) (r : Option (List α × Nat)) (w : World) (e : Ending) (w' : World) : Prop :=
  match r with
  | some (l, k) => ∃ v, e = .returned v ∧ PRd w' b s k ∧ Upd b w w' ∧ w'.ownsRow w.heap.size T S v l.length (genL f l) ∧ l.length ≤ s.size
  | none => e = BadE ∧ Upd b w w'
theorem put_mv : ∀ {l : List Int}, l.length = 5 → putA #[.int .i64 0, .int .i64 0, .int .i64 0, .int .i64 0, .int .i64 0] 0 l = mvA (mvOf l)
  | [_, _, _, _, _], _ => rfl
theorem put_tim : ∀ {l : List Int}, l.length = 6 → putA #[.int .i64 0, .int .i64 0, .int .i64 0, .int .i64 0, .int .i64 0, .int .i64 0] 0 l = timA (timOf l)
  | [_, _, _, _, _, _], _ => rfl

set_option maxHeartbeats 1000000 in
set_option maxRecDepth 100000 in
theorem plmv_any (b : Nat) (s : ByteArray) (a : Nat) (w : World) (h : PRd w b s a) (ha : a ≤ s.size) (hs : s.size ≤ 1000000) :
    Calls Tryz.prog 173 #[.pointer (some ⟨b, 0, none⟩), .func (.func 174) #[.pointer (some ⟨b, 0, none⟩)] #[]] w fun e w' => LPost b 237 5 mvA s (rLs s (rMv s) a) w e w' := by
  have CN := Lib.hid (pnatural_any b s 9223372036854775807 a w h ha hs)
  obtain ⟨i0, hi, hz0, hz1, hz2⟩ := info_parts Tryz.info_mv
  cases hx : rN s 9223372036854775807 a with
  | none =>
    have HX := Lib.hid (show rLs s (rMv s) a = none from by simp [rLs, hx])
    rw [hx] at CN
    clear hx h ha hs
    go_enter Tryz.func173, Tryz.ntmps173
    go_wp2_with fail
    refine CN.out.mono ?_
    rintro e w1 ⟨rfl, hu1⟩
    simp only [BadE]
    go_wp2
    exact ⟨rfl, by rw [HX.out]; exact ⟨rfl, hu1⟩⟩
  | some y =>
    obtain ⟨n, c0⟩ := y
    have HX := Lib.hid (show rLs s (rMv s) a = rL (rMv s) n.toNat c0 from by simp [rLs, hx])
    have hc0 := (fwd_rN s 9223372036854775807 a n c0 hx ha).2
    rw [hx] at CN
    clear hx h ha
    go_enter Tryz.func173, Tryz.ntmps173
    go_wp2_with fail
    refine CN.out.mono ?_
    rintro e w0 ⟨rfl, hp0, hu0⟩
    have HS := Lib.hid hu0.size
    go_wp2
    go_loopw [5, 6, 9] (fun v _ i wr => ∃ (l : List Mv) (c : Nat), i = .int .i64 (l.length : Int) ∧ Hid (LoopR s (rMv s) n.toNat c0 l c ∧ PRd wr b s c ∧ wr.ownsRow w.heap.size 237 5 v l.length (genL mvA l) ∧ Upd b w wr)) (fun _ _ i _ => n.toNat - (intOf i).toNat)
    case atStart => exact ⟨[], c0, rfl, Lib.hid ⟨LoopR.start hc0, hp0, World.ownsRow_nil _ _ _ _, hu0⟩⟩
    case round =>
      obtain ⟨l, c, rfl, hh⟩ := hrel
      obtain ⟨hl, hp, hown, hu⟩ := hh.out
      have hfew : (l.length : Int) ≤ 1000000 := by have := hl.2.2.1; have := hl.2.1; omega
      by_cases hlt : (l.length : Int) < n
      · have hltn : l.length < n.toNat := by omega
        have hbs := lt_of_block hp
        have C := pmove_any b wr.heap.size 237 s c #[.int .i64 0, .int .i64 0, .int .i64 0, .int .i64 0, .int .i64 0] (wr.alloc (.cells #[.int .i64 0, .int .i64 0, .int .i64 0, .int .i64 0, .int .i64 0] 237)) (hp.run (by (repeat' (first | (with_reducible exact Below.refl _ _) | (with_reducible assumption) | (with_reducible refine below_run ?_ (by assumption)) | (with_reducible refine below_of_upd ?_ (by assumption) ?_) | (with_reducible refine below_drewN ?_ _) | (with_reducible refine Below.drew ?_) | (with_reducible refine below_seven ?_ ?_) | (with_reducible refine below_six ?_ ?_) | (with_reducible refine below_one ?_ ?_) | (with_reducible refine Below.alloc ?_ ?_ _) | (with_reducible refine below_after ?_ ?_ (by assumption)) | (show _ ≤ _; first | omega | (simp; done) | (simp; omega)))))) (RowAt.new _ _ _) (by omega) (by simp) hl.2.1 hs
        cases hy : rIs s 5 c with
        | none =>
          have HF := Lib.hid (hl.fail hltn (show rMv s c = none from by simp [rMv, rMap, hy]))
          rw [hy] at C
          have K := Lib.hid C
          have HU := Lib.hid (And.intro hu hbs)
          clear hl hp hown hu hh C hy
          go_wp2_with fail
          refine K.out.mono ?_
          rintro e w1 ⟨rfl, hu1⟩
          simp only [BadE]
          go_wp2
          exact ⟨rfl, by rw [HX.out, HF.out]; exact ⟨rfl, Upd2.one (upd_alloc HU.out.1 _) hu1 HU.out.1.size⟩⟩
        | some y =>
          obtain ⟨li, c'⟩ := y
          have hli := rIs_len hy
          have HST := hl.step (fwd_Mv s) hltn (show rMv s c = some (mvOf li, c') from by simp [rMv, rMap, hy])
          rw [hy] at C
          have K := C
          simp only [IPost, put_mv hli] at K
          generalize mvOf li = m at K HST
          obtain ⟨m0, m1, m2, m3, m4⟩ := m
          have HSX := Lib.hid HST
          have HK := Lib.hid K
          have HH := Lib.hid (And.intro hp (And.intro hown (And.intro hu hbs)))
          clear hl hp hown hu hh C K HST hy hli
          go_wp2_with fail
          refine HK.out.mono ?_
          rintro e w1 ⟨rfl, hp1, hr1, hu1⟩
          have hown1 : w1.ownsRow w.heap.size 237 5 _ l.length (genL mvA l) := own_upd2n HH.out.2.1 HH.out.1 (by decide) (by (repeat' (first | (with_reducible exact Below.refl _ _) | (with_reducible assumption) | (with_reducible refine below_run ?_ (by assumption)) | (with_reducible refine below_of_upd ?_ (by assumption) ?_) | (with_reducible refine below_drewN ?_ _) | (with_reducible refine Below.drew ?_) | (with_reducible refine below_seven ?_ ?_) | (with_reducible refine below_six ?_ ?_) | (with_reducible refine below_one ?_ ?_) | (with_reducible refine Below.alloc ?_ ?_ _) | (with_reducible refine below_after ?_ ?_ (by assumption)) | (show _ ≤ _; first | omega | (simp; done) | (simp; omega))))) (Nat.le_refl _) hu1
          have U1 := Upd2.one (upd_alloc HH.out.2.2.1 _) hu1 HH.out.2.2.1.size
          have hs1 := U1.size
          have R1 := Lib.hid (And.intro hp1 U1)
          simp only [mvA] at hr1
          obtain ⟨x1, x2, x3, x4, x5, x6⟩ := row_facts hr1
          clear hp1 hu1 U1
          go_wp2_with (at_builtin; refine wpList_append_own _ rfl _ _ 61 rfl w.heap.size 237 i0 _ 5 40 Tryz.underlying61 hi hz0 hz1 hz2 rfl (by decide) _ _ _ rfl (hown1.alloc _) ⟨w1.heap.size, 0, none⟩ 1 1 [.int .i64 m0, .int .i64 m1, .int .i64 m2, .int .i64 m3, .int .i64 m4] rfl rfl ?c1 (mvA_ones ⟨m0, m1, m2, m3, m4⟩) ?c3 ?c4 ?c5 ?_)
          case c1 => exact World.news_of_block (cs := #[.int .i64 m0, .int .i64 m1, .int .i64 m2, .int .i64 m3, .int .i64 m4]) (t := 237) (fr := (0, 0)) (heap_alloc_new _ _)
          case c3 => unfold maxLen; omega
          case c4 => omega
          case c5 => simp; omega
          · intro v' w2 hown' hgrow _
            have hb1 : Below w1.heap.size w1 (w1.alloc (.cells #[.int .i64 m0, .int .i64 m1, .int .i64 m2, .int .i64 m3, .int .i64 m4] 237)) := by (repeat' (first | (with_reducible exact Below.refl _ _) | (with_reducible assumption) | (with_reducible refine below_run ?_ (by assumption)) | (with_reducible refine below_of_upd ?_ (by assumption) ?_) | (with_reducible refine below_drewN ?_ _) | (with_reducible refine Below.drew ?_) | (with_reducible refine below_seven ?_ ?_) | (with_reducible refine below_six ?_ ?_) | (with_reducible refine below_one ?_ ?_) | (with_reducible refine Below.alloc ?_ ?_ _) | (with_reducible refine below_after ?_ ?_ (by assumption)) | (show _ ≤ _; first | omega | (simp; done) | (simp; omega))))
            have hp2 : PRd w2 b s c' := row_two (hown1.alloc _) (R1.out.1.run hb1) (by decide) hgrow
            have hu2 : Upd b w w2 := upd_grown (upd_alloc R1.out.2 _) (hown1.alloc _) (Nat.le_refl _) hgrow
            have R2 := Lib.hid (And.intro hp2 (And.intro hown' hu2))
            clear hp2 hown' hu2 hgrow hown1 hr1 x1 x2 hb1
            go_wp2
            go_roundw
            case rel => exact ⟨l ++ [⟨m0, m1, m2, m3, m4⟩], c', by simp, Lib.hid ⟨HSX.out, R2.out.1, by rw [List.length_append, genL_snoc]; exact R2.out.2.1, R2.out.2.2⟩⟩
            case measure => simp [intOf]; omega
      · have HST := Lib.hid (hl.stop (by omega))
        have HH := Lib.hid (And.intro hp (And.intro hown hu))
        have HL := Lib.hid (show l.length ≤ s.size from by have := hl.2.2.1; have := hl.2.1; omega)
        clear hl hp hown hu hh
        go_wp2
        go_ret
        rw [HX.out, HST.out]
        exact ⟨_, rfl, HH.out.1, HH.out.2.2, HH.out.2.1, HL.out⟩

set_option maxHeartbeats 1000000 in
set_option maxRecDepth 100000 in
theorem pltim_any (b : Nat) (s : ByteArray) (a : Nat) (w : World) (h : PRd w b s a) (ha : a ≤ s.size) (hs : s.size ≤ 1000000) :
    Calls Tryz.prog 175 #[.pointer (some ⟨b, 0, none⟩), .func (.func 176) #[.pointer (some ⟨b, 0, none⟩)] #[]] w fun e w' => LPost b 142 6 timA s (rLs s (rTim s) a) w e w' := by
  have CN := Lib.hid (pnatural_any b s 9223372036854775807 a w h ha hs)
  obtain ⟨i0, hi, hz0, hz1, hz2⟩ := info_parts Tryz.info_tim
  cases hx : rN s 9223372036854775807 a with
  | none =>
    have HX := Lib.hid (show rLs s (rTim s) a = none from by simp [rLs, hx])
    rw [hx] at CN
    clear hx h ha hs
    go_enter Tryz.func175, Tryz.ntmps175
    go_wp2_with fail
    refine CN.out.mono ?_
    rintro e w1 ⟨rfl, hu1⟩
    simp only [BadE]
    go_wp2
    exact ⟨rfl, by rw [HX.out]; exact ⟨rfl, hu1⟩⟩
  | some y =>
    obtain ⟨n, c0⟩ := y
    have HX := Lib.hid (show rLs s (rTim s) a = rL (rTim s) n.toNat c0 from by simp [rLs, hx])
    have hc0 := (fwd_rN s 9223372036854775807 a n c0 hx ha).2
    rw [hx] at CN
    clear hx h ha
    go_enter Tryz.func175, Tryz.ntmps175
    go_wp2_with fail
    refine CN.out.mono ?_
    rintro e w0 ⟨rfl, hp0, hu0⟩
    have HS := Lib.hid hu0.size
    go_wp2
    go_loopw [5, 6, 9] (fun v _ i wr => ∃ (l : List Tim) (c : Nat), i = .int .i64 (l.length : Int) ∧ Hid (LoopR s (rTim s) n.toNat c0 l c ∧ PRd wr b s c ∧ wr.ownsRow w.heap.size 142 6 v l.length (genL timA l) ∧ Upd b w wr)) (fun _ _ i _ => n.toNat - (intOf i).toNat)
    case atStart => exact ⟨[], c0, rfl, Lib.hid ⟨LoopR.start hc0, hp0, World.ownsRow_nil _ _ _ _, hu0⟩⟩
    case round =>
      obtain ⟨l, c, rfl, hh⟩ := hrel
      obtain ⟨hl, hp, hown, hu⟩ := hh.out
      have hfew : (l.length : Int) ≤ 1000000 := by have := hl.2.2.1; have := hl.2.1; omega
      by_cases hlt : (l.length : Int) < n
      · have hltn : l.length < n.toNat := by omega
        have hbs := lt_of_block hp
        have C := ptiming_any b wr.heap.size 142 s c #[.int .i64 0, .int .i64 0, .int .i64 0, .int .i64 0, .int .i64 0, .int .i64 0] (wr.alloc (.cells #[.int .i64 0, .int .i64 0, .int .i64 0, .int .i64 0, .int .i64 0, .int .i64 0] 142)) (hp.run (by (repeat' (first | (with_reducible exact Below.refl _ _) | (with_reducible assumption) | (with_reducible refine below_run ?_ (by assumption)) | (with_reducible refine below_of_upd ?_ (by assumption) ?_) | (with_reducible refine below_drewN ?_ _) | (with_reducible refine Below.drew ?_) | (with_reducible refine below_seven ?_ ?_) | (with_reducible refine below_six ?_ ?_) | (with_reducible refine below_one ?_ ?_) | (with_reducible refine Below.alloc ?_ ?_ _) | (with_reducible refine below_after ?_ ?_ (by assumption)) | (show _ ≤ _; first | omega | (simp; done) | (simp; omega)))))) (RowAt.new _ _ _) (by omega) (by simp) hl.2.1 hs
        cases hy : rIs s 6 c with
        | none =>
          have HF := Lib.hid (hl.fail hltn (show rTim s c = none from by simp [rTim, rMap, hy]))
          rw [hy] at C
          have K := Lib.hid C
          have HU := Lib.hid (And.intro hu hbs)
          clear hl hp hown hu hh C hy
          go_wp2_with fail
          refine K.out.mono ?_
          rintro e w1 ⟨rfl, hu1⟩
          simp only [BadE]
          go_wp2
          exact ⟨rfl, by rw [HX.out, HF.out]; exact ⟨rfl, Upd2.one (upd_alloc HU.out.1 _) hu1 HU.out.1.size⟩⟩
        | some y =>
          obtain ⟨li, c'⟩ := y
          have hli := rIs_len hy
          have HST := hl.step (fwd_Tim s) hltn (show rTim s c = some (timOf li, c') from by simp [rTim, rMap, hy])
          rw [hy] at C
          have K := C
          simp only [IPost, put_tim hli] at K
          generalize timOf li = m at K HST
          obtain ⟨m0, m1, m2, m3, m4, m5⟩ := m
          have HSX := Lib.hid HST
          have HK := Lib.hid K
          have HH := Lib.hid (And.intro hp (And.intro hown (And.intro hu hbs)))
          clear hl hp hown hu hh C K HST hy hli
          go_wp2_with fail
          refine HK.out.mono ?_
          rintro e w1 ⟨rfl, hp1, hr1, hu1⟩
          have hown1 : w1.ownsRow w.heap.size 142 6 _ l.length (genL timA l) := own_upd2n HH.out.2.1 HH.out.1 (by decide) (by (repeat' (first | (with_reducible exact Below.refl _ _) | (with_reducible assumption) | (with_reducible refine below_run ?_ (by assumption)) | (with_reducible refine below_of_upd ?_ (by assumption) ?_) | (with_reducible refine below_drewN ?_ _) | (with_reducible refine Below.drew ?_) | (with_reducible refine below_seven ?_ ?_) | (with_reducible refine below_six ?_ ?_) | (with_reducible refine below_one ?_ ?_) | (with_reducible refine Below.alloc ?_ ?_ _) | (with_reducible refine below_after ?_ ?_ (by assumption)) | (show _ ≤ _; first | omega | (simp; done) | (simp; omega))))) (Nat.le_refl _) hu1
          have U1 := Upd2.one (upd_alloc HH.out.2.2.1 _) hu1 HH.out.2.2.1.size
          have hs1 := U1.size
          have R1 := Lib.hid (And.intro hp1 U1)
          simp only [timA] at hr1
          obtain ⟨x1, x2, x3, x4, x5, x6⟩ := row_facts hr1
          clear hp1 hu1 U1
          go_wp2_with (at_builtin; refine wpList_append_own _ rfl _ _ 62 rfl w.heap.size 142 i0 _ 6 48 Tryz.underlying62 hi hz0 hz1 hz2 rfl (by decide) _ _ _ rfl (hown1.alloc _) ⟨w1.heap.size, 0, none⟩ 1 1 [.int .i64 m0, .int .i64 m1, .int .i64 m2, .int .i64 m3, .int .i64 m4, .int .i64 m5] rfl rfl ?c1 (timA_ones ⟨m0, m1, m2, m3, m4, m5⟩) ?c3 ?c4 ?c5 ?_)
          case c1 => exact World.news_of_block (cs := #[.int .i64 m0, .int .i64 m1, .int .i64 m2, .int .i64 m3, .int .i64 m4, .int .i64 m5]) (t := 142) (fr := (0, 0)) (heap_alloc_new _ _)
          case c3 => unfold maxLen; omega
          case c4 => omega
          case c5 => simp; omega
          · intro v' w2 hown' hgrow _
            have hb1 : Below w1.heap.size w1 (w1.alloc (.cells #[.int .i64 m0, .int .i64 m1, .int .i64 m2, .int .i64 m3, .int .i64 m4, .int .i64 m5] 142)) := by (repeat' (first | (with_reducible exact Below.refl _ _) | (with_reducible assumption) | (with_reducible refine below_run ?_ (by assumption)) | (with_reducible refine below_of_upd ?_ (by assumption) ?_) | (with_reducible refine below_drewN ?_ _) | (with_reducible refine Below.drew ?_) | (with_reducible refine below_seven ?_ ?_) | (with_reducible refine below_six ?_ ?_) | (with_reducible refine below_one ?_ ?_) | (with_reducible refine Below.alloc ?_ ?_ _) | (with_reducible refine below_after ?_ ?_ (by assumption)) | (show _ ≤ _; first | omega | (simp; done) | (simp; omega))))
            have hp2 : PRd w2 b s c' := row_two (hown1.alloc _) (R1.out.1.run hb1) (by decide) hgrow
            have hu2 : Upd b w w2 := upd_grown (upd_alloc R1.out.2 _) (hown1.alloc _) (Nat.le_refl _) hgrow
            have R2 := Lib.hid (And.intro hp2 (And.intro hown' hu2))
            clear hp2 hown' hu2 hgrow hown1 hr1 x1 x2 hb1
            go_wp2
            go_roundw
            case rel => exact ⟨l ++ [⟨m0, m1, m2, m3, m4, m5⟩], c', by simp, Lib.hid ⟨HSX.out, R2.out.1, by rw [List.length_append, genL_snoc]; exact R2.out.2.1, R2.out.2.2⟩⟩
            case measure => simp [intOf]; omega
      · have HST := Lib.hid (hl.stop (by omega))
        have HH := Lib.hid (And.intro hp (And.intro hown hu))
        have HL := Lib.hid (show l.length ≤ s.size from by have := hl.2.2.1; have := hl.2.1; omega)
        clear hl hp hown hu hh
        go_wp2
        go_ret
        rw [HX.out, HST.out]
        exact ⟨_, rfl, HH.out.1, HH.out.2.2, HH.out.2.1, HL.out⟩

end Go.Proofs.YtjeigphhepngmaaGreatDoor
