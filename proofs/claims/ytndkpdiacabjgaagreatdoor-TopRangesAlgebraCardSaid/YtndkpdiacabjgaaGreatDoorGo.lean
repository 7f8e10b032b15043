/-
  Union, Minus, Common.
-/
import Derived.Test.YtndkpdiacabjgaaGreatDoorGj
import Derived.Deep.RegionWith
import Derived.Deep.RegionHeld
import Derived.Deep.RegionHeld3
namespace Go.Proofs.YtndkpdiacabjgaaGreatDoor
open Go.RowKit

theorem set_congr {M M' : Nat → Bool} {l : List (Int × Int)} (h : SetOf M l) (he : ∀ c, 1 ≤ c → c ≤ 999 → M c = M' c) : SetOf M' l := ⟨h.1, fun c => by
  rw [h.2]
  by_cases h1 : 1 ≤ c
  · by_cases h2 : c ≤ 999
    · rw [he c h1 h2]
    · simp [h2]
  · simp [h1]⟩
/-- What a call leaves that returns a set and no error. -/
def SetPost (M : Nat → Bool) (w : World) (e : Ending) (w' : World) : Prop :=
  ∃ (a : Option Addr) (c : Nat) (l : List (Int × Int)), e = .returned (.tuple #[.slice a l.length c, .int .i64 0]) ∧ RngsAt w' (.slice a l.length c) l ∧ SetOf M l ∧ l.length ≤ 999 ∧ Below w.heap.size w w'
/-- Two sets together, up to a channel. -/
def mixG (f : Bool → Bool → Bool) (X Y : Nat → Bool) (k : Nat) : Nat → Bool := fun c => if c < k then f (X c) (Y c) else false

theorem chk_is (l : List (Int × Int)) (v : Value) (w : World) (h : RngsAt w v l) (hc : Canon l) : Calls Tryz.prog 32 #[v] w fun e w' => e = .returned (.int .i64 0) ∧ Below w.heap.size w w' := by
  have := gcheck_any l v w h
  rw [(chkG_none l).2 hc] at this
  exact this
theorem two_at0 (a b : Option Addr) (n m c d : Nat) (w : World) : (Instr.index 48 (.agg #[.slice a n c, .slice b m d]) (.int .i64 0)).run Tryz.prog w = .ok (.slice a n c) w := by kernel_rfl
theorem two_at1 (a b : Option Addr) (n m c d : Nat) (w : World) : (Instr.index 48 (.agg #[.slice a n c, .slice b m d]) (.int .i64 1)).run Tryz.prog w = .ok (.slice b m d) w := by kernel_rfl
theorem three_kept {a w w' : World} {b : Nat} (h : Below a.heap.size a w) (hu : Upd b w w') (hb : a.heap.size ≤ b) : Below a.heap.size a w' := below_of_upd h hu hb

set_option maxHeartbeats 1000000 in
set_option maxRecDepth 100000 in
theorem gop_U (p q : Bool) (w : World) : Calls Tryz.prog 36 #[.bool p, .bool q] w fun e w' => e = .returned (.bool (p || q)) ∧ w = w' := by
  go_enter Tryz.func36, Tryz.ntmps36
  cases p <;> cases q <;> go_wp2 <;> go_ret <;> exact ⟨rfl, rfl⟩

set_option maxHeartbeats 8000000 in
set_option maxRecDepth 100000 in
theorem gcomb_U (la lb : List (Int × Int)) (va vb : Value) (w : World) (ha : RngsAt w va la) (hb : RngsAt w vb lb) (ca : Canon la) (cb : Canon lb) :
    Calls Tryz.prog 35 #[va, vb, .func (.func 36) #[] #[]] w (SetPost (fun c => (fun p q : Bool => p || q) (memG la c) (memG lb c)) w) := by
  obtain ⟨aa, ac, e⟩ := seq_shape ha
  subst e
  obtain ⟨ba, bc, e⟩ := seq_shape hb
  subst e
  obtain ⟨C, hC, hz⟩ := zero_mem.out
  have HC := Lib.hid hC
  have HA := Lib.hid ha
  have HB := Lib.hid hb
  have CA := Lib.hid ca
  have CB := Lib.hid cb
  have C1 := Lib.hid (fun W (hW : Below w.heap.size w W) => chk_is la _ W (ha.run hW) ca)
  have C2 := Lib.hid (fun W (hW : Below w.heap.size w W) => chk_is lb _ W (hb.run hW) cb)
  obtain ⟨f, hf⟩ : ∃ f : Bool → Bool → Bool, (fun p q : Bool => p || q) = f := ⟨_, rfl⟩
  have hff : f false false = false := by rw [← hf]; rfl
  have CF := Lib.hid (fun p q W => (gop_U p q W).mono (R' := fun e w' => e = .returned (.bool (f p q)) ∧ W = w') (by rintro e w' ⟨rfl, rfl⟩; exact ⟨by rw [← hf], rfl⟩))
  rw [hf]
  have HFF := Lib.hid hff
  have i0 := two_at0 aa ba la.length lb.length ac bc
  have i1 := two_at1 aa ba la.length lb.length ac bc
  clear ha hb ca cb hf hff hC
  go_enter Tryz.func35, Tryz.ntmps35
  go_wp2
  go_loopw [9, 10, 18] (fun _ _ i wr => ∃ k : Nat, k ≤ 2 ∧ i = .int .i64 k ∧ Hid (Below w.heap.size w wr)) (fun _ _ i _ => 2 - (intOf i).toNat)
  case atStart => exact ⟨0, by omega, rfl, Lib.hid (Below.refl _ _)⟩
  case round =>
    rename World => wr
    obtain ⟨k, hk, rfl, HB0⟩ := hrel
    have h3 : k = 0 ∨ k = 1 ∨ k = 2 := by omega
    rcases h3 with rfl | rfl | rfl
    · go_wp2_with fail
      refine (C1.out _ HB0.out).mono ?_
      rintro e w1 ⟨rfl, hb1⟩
      have HB1 := Lib.hid (below_run HB0.out hb1)
      go_wp2
      go_roundw
      case rel => exact ⟨1, by omega, by go_num, HB1⟩
      case measure => simp [intOf]
    · go_wp2_with fail
      refine (C2.out _ HB0.out).mono ?_
      rintro e w1 ⟨rfl, hb1⟩
      have HB1 := Lib.hid (below_run HB0.out hb1)
      go_wp2
      go_roundw
      case rel => exact ⟨2, by omega, by go_num, HB1⟩
      case measure => simp [intOf]
    · go_wp2_with fail
      obtain ⟨wz, hwz⟩ : ∃ wz, ((wr.alloc (.cells C 71)).alloc (.cells C 71)).alloc (.cells C 71) = wz := ⟨_, rfl⟩
      obtain ⟨bx, hbx⟩ : ∃ b, wr.heap.size = b := ⟨_, rfl⟩
      obtain ⟨b1, hb1⟩ : ∃ b, wr.heap.size + 1 = b := ⟨_, rfl⟩
      obtain ⟨b2, hb2⟩ : ∃ b, wr.heap.size + 1 + 1 = b := ⟨_, rfl⟩
      have sx : SetAt wz bx fun _ => false := by
        have : RowAt wz bx 71 C := by rw [← hwz]; exact RowAt.alloc (RowAt.alloc (RowAt.mk (by omega) rfl) _) _
        rw [HC.out] at this; exact this
      have sy : SetAt wz b1 fun _ => false := by
        have : RowAt wz b1 71 C := by rw [← hwz]; exact RowAt.alloc (RowAt.mk (by simp; omega) rfl) _
        rw [HC.out] at this; exact this
      have so : SetAt wz b2 fun _ => false := by
        have : RowAt wz b2 71 C := by rw [← hwz]; exact RowAt.mk (by simp; omega) rfl
        rw [HC.out] at this; exact this
      have hsz := HB0.out.size
      have bz : Below w.heap.size w wz := by rw [← hwz]; exact ((HB0.out.alloc hsz _).alloc (by simp; omega) _).alloc (by simp; omega) _
      have n1 : ¬ bx = b1 := by omega
      have n2 : ¬ bx = b2 := by omega
      have n3 : ¬ b1 = b2 := by omega
      have n4 : ¬ b1 = bx := by omega
      have n5 : ¬ b2 = bx := by omega
      have n6 : ¬ b2 = b1 := by omega
      have g1 : w.heap.size ≤ bx := by omega
      have g2 : w.heap.size ≤ b1 := by omega
      have g3 : w.heap.size ≤ b2 := by omega
      have HN := Lib.hid (show _ ∧ _ ∧ _ ∧ _ ∧ _ ∧ _ from ⟨n1, n2, n3, n4, n5, n6⟩)
      have HG := Lib.hid (show _ ∧ _ ∧ _ from ⟨g1, g2, g3⟩)
      have SX := Lib.hid sx
      have SY := Lib.hid sy
      have SO := Lib.hid so
      have BZ := Lib.hid bz
      rw [hwz, hb2, hb1, hbx]
      clear i0 i1 sx sy so bz hwz HC hb2 hb1 hbx C1 C2 HB0 hz
      refine (gput_any bx true _ la _ wz SX.out (HA.out.run BZ.out) (fun r hr => CA.out.1 r hr)).mono ?_
      rintro e w1 ⟨rfl, s1, u1⟩
      have BB1 := Lib.hid (below_of_upd BZ.out u1 HG.out.1)
      have SX1 := Lib.hid s1
      have SY1 : Hid (SetAt w1 b1 fun _ => false) := Lib.hid (RowAt.upd SY.out u1 n4)
      have SO1 : Hid (SetAt w1 b2 fun _ => false) := Lib.hid (RowAt.upd SO.out u1 n5)
      clear s1 u1 SX SY SO BZ
      go_wp2_with fail
      refine (gput_any b1 true _ lb _ w1 SY1.out (HB.out.run BB1.out) (fun r hr => CB.out.1 r hr)).mono ?_
      rintro e w2 ⟨rfl, s2, u2⟩
      have BB2 := Lib.hid (below_of_upd BB1.out u2 HG.out.2.1)
      have SX2 : Hid (SetAt w2 bx (putsG true la fun _ => false)) := Lib.hid (RowAt.upd SX1.out u2 n1)
      have SY2 := Lib.hid s2
      have SO2 : Hid (SetAt w2 b2 fun _ => false) := Lib.hid (RowAt.upd SO1.out u2 n6)
      obtain ⟨X, hX⟩ : ∃ X, putsG true la (fun _ => false) = X := ⟨_, rfl⟩
      obtain ⟨Y, hY⟩ : ∃ Y, putsG true lb (fun _ => false) = Y := ⟨_, rfl⟩
      rw [hX] at SX2
      rw [hY] at SY2
      have HX : Hid (∀ c, X c = memG la c) := Lib.hid (fun c => by rw [← hX, putsG_true]; simp)
      have HY : Hid (∀ c, Y c = memG lb c) := Lib.hid (fun c => by rw [← hY, putsG_true]; simp)
      clear s2 u2 SX1 SY1 SO1 BB1 hX hY
      go_wp2
      go_loopw [14, 31] (fun _ i wx => ∃ k : Nat, k ≤ 1001 ∧ i = .int .i64 k ∧ Hid (SetAt wx bx X) ∧ Hid (SetAt wx b1 Y) ∧ Hid (SetAt wx b2 (mixG f X Y k)) ∧ Hid (Below w.heap.size w wx)) (fun _ i _ => 1001 - (intOf i).toNat)
      case atStart => exact ⟨0, by omega, rfl, SX2, SY2, Lib.hid (SetAt.congr SO2.out (fun c _ => by rw [mixG, if_neg (by omega)])), BB2⟩
      case round =>
        clear SX2 SY2 SO2 BB2
        rename World => wx
        obtain ⟨k, hk, rfl, GX, GY, GO, GB⟩ := hrel
        by_cases hlt : k < 1001
        · have hlt' : (k : Int) < 1001 := by omega
          have hk0 : (0 : Int) ≤ (k : Int) := by omega
          have cx := GX.out.facts.1 k hlt
          have cy := GY.out.facts.1 k hlt
          have co := GO.out.facts.1 k hlt
          have fo := GO.out.facts.2.1 k
          obtain ⟨p, hp⟩ : ∃ p, X k = p := ⟨_, rfl⟩
          obtain ⟨q, hq⟩ : ∃ p, Y k = p := ⟨_, rfl⟩
          rw [hp] at cx
          rw [hq] at cy
          have HNX : Hid (∀ W : World, SetAt W b2 (mixG f X Y k) → SetAt (W.setCell ⟨b2, k, none⟩ (.bool (f p q))) b2 (mixG f X Y (k + 1))) := Lib.hid (fun W hW => SetAt.set hW hlt (by rw [mixG, if_pos (by omega), hp, hq]) (fun i hi => by
            unfold mixG
            by_cases h : i < k
            · rw [if_pos h, if_pos (by omega)]
            · rw [if_neg h, if_neg (by omega)]))
          obtain ⟨o, ho⟩ : ∃ o, mixG f X Y k k = o := ⟨_, rfl⟩
          rw [ho] at co
          clear hp hq ho
          go_wp2_with fail
          go_region_held3 (fun w' => w'.cell? ⟨bx, k, none⟩ = some (.bool p) ∧ w'.cell? ⟨b1, k, none⟩ = some (.bool q)) (go_keep) (first | (go_at_call 36; with_reducible refine (CF.out _ _ _).mono ?_; rintro e u ⟨rfl, rfl⟩) | fail)
          all_goals go_wp2_with fail
          all_goals go_roundw
          case rel => exact ⟨k + 1, by omega, by go_num, Lib.hid (RowAt.far GX.out n2), Lib.hid (RowAt.far GY.out n3), Lib.hid (HNX.out _ GO.out), Lib.hid (Below.drew (Below.setCell GB.out HG.out.2.2 _))⟩
          case measure => simp [intOf]; omega
        · obtain rfl : k = 1001 := by omega
          have CR := Lib.hid (granges_any b2 _ wx GO.out (by rw [mixG, if_pos (by omega), HX.out, HY.out]; rw [show memG la 0 = false from by rw [Bool.eq_false_iff]; intro x; have := canon_mem CA.out x; omega, show memG lb 0 = false from by rw [Bool.eq_false_iff]; intro x; have := canon_mem CB.out x; omega]; exact HFF.out))
          go_wp2_with fail
          refine CR.out.mono ?_
          rintro e w3 ⟨a, cc, l, rfl, hl, hset, hl9, hb3⟩
          go_wp2
          go_ret2
          exact ⟨a, cc, l, rfl, hl, set_congr hset (fun c h1 h2 => by rw [mixG, if_pos (by omega), HX.out, HY.out]), hl9, below_run GB.out hb3⟩

set_option maxHeartbeats 1000000 in
set_option maxRecDepth 100000 in
theorem gUnion_any (la lb : List (Int × Int)) (va vb : Value) (w : World) (ha : RngsAt w va la) (hb : RngsAt w vb lb) (ca : Canon la) (cb : Canon lb) :
    Calls Tryz.prog 14 #[va, vb] w (SetPost (fun c => (fun p q : Bool => p || q) (memG la c) (memG lb c)) w) := by
  have HC := Lib.hid (gcomb_U la lb va vb w ha hb ca cb)
  clear ha hb ca cb
  go_enter Tryz.func14, Tryz.ntmps14
  go_wp2_with fail
  refine HC.out.mono ?_
  rintro e w3 ⟨a, cc, l, rfl, hl, hset, hl9, hb3⟩
  go_wp2
  go_ret2
  exact ⟨a, cc, l, rfl, hl, hset, hl9, hb3⟩

set_option maxHeartbeats 1000000 in
set_option maxRecDepth 100000 in
theorem gop_N (p q : Bool) (w : World) : Calls Tryz.prog 41 #[.bool p, .bool q] w fun e w' => e = .returned (.bool (p && !q)) ∧ w = w' := by
  go_enter Tryz.func41, Tryz.ntmps41
  cases p <;> cases q <;> go_wp2 <;> go_ret <;> exact ⟨rfl, rfl⟩

set_option maxHeartbeats 8000000 in
set_option maxRecDepth 100000 in
theorem gcomb_N (la lb : List (Int × Int)) (va vb : Value) (w : World) (ha : RngsAt w va la) (hb : RngsAt w vb lb) (ca : Canon la) (cb : Canon lb) :
    Calls Tryz.prog 35 #[va, vb, .func (.func 41) #[] #[]] w (SetPost (fun c => (fun p q : Bool => p && !q) (memG la c) (memG lb c)) w) := by
  obtain ⟨aa, ac, e⟩ := seq_shape ha
  subst e
  obtain ⟨ba, bc, e⟩ := seq_shape hb
  subst e
  obtain ⟨C, hC, hz⟩ := zero_mem.out
  have HC := Lib.hid hC
  have HA := Lib.hid ha
  have HB := Lib.hid hb
  have CA := Lib.hid ca
  have CB := Lib.hid cb
  have C1 := Lib.hid (fun W (hW : Below w.heap.size w W) => chk_is la _ W (ha.run hW) ca)
  have C2 := Lib.hid (fun W (hW : Below w.heap.size w W) => chk_is lb _ W (hb.run hW) cb)
  obtain ⟨f, hf⟩ : ∃ f : Bool → Bool → Bool, (fun p q : Bool => p && !q) = f := ⟨_, rfl⟩
  have hff : f false false = false := by rw [← hf]; rfl
  have CF := Lib.hid (fun p q W => (gop_N p q W).mono (R' := fun e w' => e = .returned (.bool (f p q)) ∧ W = w') (by rintro e w' ⟨rfl, rfl⟩; exact ⟨by rw [← hf], rfl⟩))
  rw [hf]
  have HFF := Lib.hid hff
  have i0 := two_at0 aa ba la.length lb.length ac bc
  have i1 := two_at1 aa ba la.length lb.length ac bc
  clear ha hb ca cb hf hff hC
  go_enter Tryz.func35, Tryz.ntmps35
  go_wp2
  go_loopw [9, 10, 18] (fun _ _ i wr => ∃ k : Nat, k ≤ 2 ∧ i = .int .i64 k ∧ Hid (Below w.heap.size w wr)) (fun _ _ i _ => 2 - (intOf i).toNat)
  case atStart => exact ⟨0, by omega, rfl, Lib.hid (Below.refl _ _)⟩
  case round =>
    rename World => wr
    obtain ⟨k, hk, rfl, HB0⟩ := hrel
    have h3 : k = 0 ∨ k = 1 ∨ k = 2 := by omega
    rcases h3 with rfl | rfl | rfl
    · go_wp2_with fail
      refine (C1.out _ HB0.out).mono ?_
      rintro e w1 ⟨rfl, hb1⟩
      have HB1 := Lib.hid (below_run HB0.out hb1)
      go_wp2
      go_roundw
      case rel => exact ⟨1, by omega, by go_num, HB1⟩
      case measure => simp [intOf]
    · go_wp2_with fail
      refine (C2.out _ HB0.out).mono ?_
      rintro e w1 ⟨rfl, hb1⟩
      have HB1 := Lib.hid (below_run HB0.out hb1)
      go_wp2
      go_roundw
      case rel => exact ⟨2, by omega, by go_num, HB1⟩
      case measure => simp [intOf]
    · go_wp2_with fail
      obtain ⟨wz, hwz⟩ : ∃ wz, ((wr.alloc (.cells C 71)).alloc (.cells C 71)).alloc (.cells C 71) = wz := ⟨_, rfl⟩
      obtain ⟨bx, hbx⟩ : ∃ b, wr.heap.size = b := ⟨_, rfl⟩
      obtain ⟨b1, hb1⟩ : ∃ b, wr.heap.size + 1 = b := ⟨_, rfl⟩
      obtain ⟨b2, hb2⟩ : ∃ b, wr.heap.size + 1 + 1 = b := ⟨_, rfl⟩
      have sx : SetAt wz bx fun _ => false := by
        have : RowAt wz bx 71 C := by rw [← hwz]; exact RowAt.alloc (RowAt.alloc (RowAt.mk (by omega) rfl) _) _
        rw [HC.out] at this; exact this
      have sy : SetAt wz b1 fun _ => false := by
        have : RowAt wz b1 71 C := by rw [← hwz]; exact RowAt.alloc (RowAt.mk (by simp; omega) rfl) _
        rw [HC.out] at this; exact this
      have so : SetAt wz b2 fun _ => false := by
        have : RowAt wz b2 71 C := by rw [← hwz]; exact RowAt.mk (by simp; omega) rfl
        rw [HC.out] at this; exact this
      have hsz := HB0.out.size
      have bz : Below w.heap.size w wz := by rw [← hwz]; exact ((HB0.out.alloc hsz _).alloc (by simp; omega) _).alloc (by simp; omega) _
      have n1 : ¬ bx = b1 := by omega
      have n2 : ¬ bx = b2 := by omega
      have n3 : ¬ b1 = b2 := by omega
      have n4 : ¬ b1 = bx := by omega
      have n5 : ¬ b2 = bx := by omega
      have n6 : ¬ b2 = b1 := by omega
      have g1 : w.heap.size ≤ bx := by omega
      have g2 : w.heap.size ≤ b1 := by omega
      have g3 : w.heap.size ≤ b2 := by omega
      have HN := Lib.hid (show _ ∧ _ ∧ _ ∧ _ ∧ _ ∧ _ from ⟨n1, n2, n3, n4, n5, n6⟩)
      have HG := Lib.hid (show _ ∧ _ ∧ _ from ⟨g1, g2, g3⟩)
      have SX := Lib.hid sx
      have SY := Lib.hid sy
      have SO := Lib.hid so
      have BZ := Lib.hid bz
      rw [hwz, hb2, hb1, hbx]
      clear i0 i1 sx sy so bz hwz HC hb2 hb1 hbx C1 C2 HB0 hz
      refine (gput_any bx true _ la _ wz SX.out (HA.out.run BZ.out) (fun r hr => CA.out.1 r hr)).mono ?_
      rintro e w1 ⟨rfl, s1, u1⟩
      have BB1 := Lib.hid (below_of_upd BZ.out u1 HG.out.1)
      have SX1 := Lib.hid s1
      have SY1 : Hid (SetAt w1 b1 fun _ => false) := Lib.hid (RowAt.upd SY.out u1 n4)
      have SO1 : Hid (SetAt w1 b2 fun _ => false) := Lib.hid (RowAt.upd SO.out u1 n5)
      clear s1 u1 SX SY SO BZ
      go_wp2_with fail
      refine (gput_any b1 true _ lb _ w1 SY1.out (HB.out.run BB1.out) (fun r hr => CB.out.1 r hr)).mono ?_
      rintro e w2 ⟨rfl, s2, u2⟩
      have BB2 := Lib.hid (below_of_upd BB1.out u2 HG.out.2.1)
      have SX2 : Hid (SetAt w2 bx (putsG true la fun _ => false)) := Lib.hid (RowAt.upd SX1.out u2 n1)
      have SY2 := Lib.hid s2
      have SO2 : Hid (SetAt w2 b2 fun _ => false) := Lib.hid (RowAt.upd SO1.out u2 n6)
      obtain ⟨X, hX⟩ : ∃ X, putsG true la (fun _ => false) = X := ⟨_, rfl⟩
      obtain ⟨Y, hY⟩ : ∃ Y, putsG true lb (fun _ => false) = Y := ⟨_, rfl⟩
      rw [hX] at SX2
      rw [hY] at SY2
      have HX : Hid (∀ c, X c = memG la c) := Lib.hid (fun c => by rw [← hX, putsG_true]; simp)
      have HY : Hid (∀ c, Y c = memG lb c) := Lib.hid (fun c => by rw [← hY, putsG_true]; simp)
      clear s2 u2 SX1 SY1 SO1 BB1 hX hY
      go_wp2
      go_loopw [14, 31] (fun _ i wx => ∃ k : Nat, k ≤ 1001 ∧ i = .int .i64 k ∧ Hid (SetAt wx bx X) ∧ Hid (SetAt wx b1 Y) ∧ Hid (SetAt wx b2 (mixG f X Y k)) ∧ Hid (Below w.heap.size w wx)) (fun _ i _ => 1001 - (intOf i).toNat)
      case atStart => exact ⟨0, by omega, rfl, SX2, SY2, Lib.hid (SetAt.congr SO2.out (fun c _ => by rw [mixG, if_neg (by omega)])), BB2⟩
      case round =>
        clear SX2 SY2 SO2 BB2
        rename World => wx
        obtain ⟨k, hk, rfl, GX, GY, GO, GB⟩ := hrel
        by_cases hlt : k < 1001
        · have hlt' : (k : Int) < 1001 := by omega
          have hk0 : (0 : Int) ≤ (k : Int) := by omega
          have cx := GX.out.facts.1 k hlt
          have cy := GY.out.facts.1 k hlt
          have co := GO.out.facts.1 k hlt
          have fo := GO.out.facts.2.1 k
          obtain ⟨p, hp⟩ : ∃ p, X k = p := ⟨_, rfl⟩
          obtain ⟨q, hq⟩ : ∃ p, Y k = p := ⟨_, rfl⟩
          rw [hp] at cx
          rw [hq] at cy
          have HNX : Hid (∀ W : World, SetAt W b2 (mixG f X Y k) → SetAt (W.setCell ⟨b2, k, none⟩ (.bool (f p q))) b2 (mixG f X Y (k + 1))) := Lib.hid (fun W hW => SetAt.set hW hlt (by rw [mixG, if_pos (by omega), hp, hq]) (fun i hi => by
            unfold mixG
            by_cases h : i < k
            · rw [if_pos h, if_pos (by omega)]
            · rw [if_neg h, if_neg (by omega)]))
          obtain ⟨o, ho⟩ : ∃ o, mixG f X Y k k = o := ⟨_, rfl⟩
          rw [ho] at co
          clear hp hq ho
          go_wp2_with fail
          go_region_held3 (fun w' => w'.cell? ⟨bx, k, none⟩ = some (.bool p) ∧ w'.cell? ⟨b1, k, none⟩ = some (.bool q)) (go_keep) (first | (go_at_call 41; with_reducible refine (CF.out _ _ _).mono ?_; rintro e u ⟨rfl, rfl⟩) | fail)
          all_goals go_wp2_with fail
          all_goals go_roundw
          case rel => exact ⟨k + 1, by omega, by go_num, Lib.hid (RowAt.far GX.out n2), Lib.hid (RowAt.far GY.out n3), Lib.hid (HNX.out _ GO.out), Lib.hid (Below.drew (Below.setCell GB.out HG.out.2.2 _))⟩
          case measure => simp [intOf]; omega
        · obtain rfl : k = 1001 := by omega
          have CR := Lib.hid (granges_any b2 _ wx GO.out (by rw [mixG, if_pos (by omega), HX.out, HY.out]; rw [show memG la 0 = false from by rw [Bool.eq_false_iff]; intro x; have := canon_mem CA.out x; omega, show memG lb 0 = false from by rw [Bool.eq_false_iff]; intro x; have := canon_mem CB.out x; omega]; exact HFF.out))
          go_wp2_with fail
          refine CR.out.mono ?_
          rintro e w3 ⟨a, cc, l, rfl, hl, hset, hl9, hb3⟩
          go_wp2
          go_ret2
          exact ⟨a, cc, l, rfl, hl, set_congr hset (fun c h1 h2 => by rw [mixG, if_pos (by omega), HX.out, HY.out]), hl9, below_run GB.out hb3⟩

set_option maxHeartbeats 1000000 in
set_option maxRecDepth 100000 in
theorem gMinus_any (la lb : List (Int × Int)) (va vb : Value) (w : World) (ha : RngsAt w va la) (hb : RngsAt w vb lb) (ca : Canon la) (cb : Canon lb) :
    Calls Tryz.prog 17 #[va, vb] w (SetPost (fun c => (fun p q : Bool => p && !q) (memG la c) (memG lb c)) w) := by
  have HC := Lib.hid (gcomb_N la lb va vb w ha hb ca cb)
  clear ha hb ca cb
  go_enter Tryz.func17, Tryz.ntmps17
  go_wp2_with fail
  refine HC.out.mono ?_
  rintro e w3 ⟨a, cc, l, rfl, hl, hset, hl9, hb3⟩
  go_wp2
  go_ret2
  exact ⟨a, cc, l, rfl, hl, hset, hl9, hb3⟩

set_option maxHeartbeats 1000000 in
set_option maxRecDepth 100000 in
theorem gop_K (p q : Bool) (w : World) : Calls Tryz.prog 42 #[.bool p, .bool q] w fun e w' => e = .returned (.bool (p && q)) ∧ w = w' := by
  go_enter Tryz.func42, Tryz.ntmps42
  cases p <;> cases q <;> go_wp2 <;> go_ret <;> exact ⟨rfl, rfl⟩

set_option maxHeartbeats 8000000 in
set_option maxRecDepth 100000 in
theorem gcomb_K (la lb : List (Int × Int)) (va vb : Value) (w : World) (ha : RngsAt w va la) (hb : RngsAt w vb lb) (ca : Canon la) (cb : Canon lb) :
    Calls Tryz.prog 35 #[va, vb, .func (.func 42) #[] #[]] w (SetPost (fun c => (fun p q : Bool => p && q) (memG la c) (memG lb c)) w) := by
  obtain ⟨aa, ac, e⟩ := seq_shape ha
  subst e
  obtain ⟨ba, bc, e⟩ := seq_shape hb
  subst e
  obtain ⟨C, hC, hz⟩ := zero_mem.out
  have HC := Lib.hid hC
  have HA := Lib.hid ha
  have HB := Lib.hid hb
  have CA := Lib.hid ca
  have CB := Lib.hid cb
  have C1 := Lib.hid (fun W (hW : Below w.heap.size w W) => chk_is la _ W (ha.run hW) ca)
  have C2 := Lib.hid (fun W (hW : Below w.heap.size w W) => chk_is lb _ W (hb.run hW) cb)
  obtain ⟨f, hf⟩ : ∃ f : Bool → Bool → Bool, (fun p q : Bool => p && q) = f := ⟨_, rfl⟩
  have hff : f false false = false := by rw [← hf]; rfl
  have CF := Lib.hid (fun p q W => (gop_K p q W).mono (R' := fun e w' => e = .returned (.bool (f p q)) ∧ W = w') (by rintro e w' ⟨rfl, rfl⟩; exact ⟨by rw [← hf], rfl⟩))
  rw [hf]
  have HFF := Lib.hid hff
  have i0 := two_at0 aa ba la.length lb.length ac bc
  have i1 := two_at1 aa ba la.length lb.length ac bc
  clear ha hb ca cb hf hff hC
  go_enter Tryz.func35, Tryz.ntmps35
  go_wp2
  go_loopw [9, 10, 18] (fun _ _ i wr => ∃ k : Nat, k ≤ 2 ∧ i = .int .i64 k ∧ Hid (Below w.heap.size w wr)) (fun _ _ i _ => 2 - (intOf i).toNat)
  case atStart => exact ⟨0, by omega, rfl, Lib.hid (Below.refl _ _)⟩
  case round =>
    rename World => wr
    obtain ⟨k, hk, rfl, HB0⟩ := hrel
    have h3 : k = 0 ∨ k = 1 ∨ k = 2 := by omega
    rcases h3 with rfl | rfl | rfl
    · go_wp2_with fail
      refine (C1.out _ HB0.out).mono ?_
      rintro e w1 ⟨rfl, hb1⟩
      have HB1 := Lib.hid (below_run HB0.out hb1)
      go_wp2
      go_roundw
      case rel => exact ⟨1, by omega, by go_num, HB1⟩
      case measure => simp [intOf]
    · go_wp2_with fail
      refine (C2.out _ HB0.out).mono ?_
      rintro e w1 ⟨rfl, hb1⟩
      have HB1 := Lib.hid (below_run HB0.out hb1)
      go_wp2
      go_roundw
      case rel => exact ⟨2, by omega, by go_num, HB1⟩
      case measure => simp [intOf]
    · go_wp2_with fail
      obtain ⟨wz, hwz⟩ : ∃ wz, ((wr.alloc (.cells C 71)).alloc (.cells C 71)).alloc (.cells C 71) = wz := ⟨_, rfl⟩
      obtain ⟨bx, hbx⟩ : ∃ b, wr.heap.size = b := ⟨_, rfl⟩
      obtain ⟨b1, hb1⟩ : ∃ b, wr.heap.size + 1 = b := ⟨_, rfl⟩
      obtain ⟨b2, hb2⟩ : ∃ b, wr.heap.size + 1 + 1 = b := ⟨_, rfl⟩
      have sx : SetAt wz bx fun _ => false := by
        have : RowAt wz bx 71 C := by rw [← hwz]; exact RowAt.alloc (RowAt.alloc (RowAt.mk (by omega) rfl) _) _
        rw [HC.out] at this; exact this
      have sy : SetAt wz b1 fun _ => false := by
        have : RowAt wz b1 71 C := by rw [← hwz]; exact RowAt.alloc (RowAt.mk (by simp; omega) rfl) _
        rw [HC.out] at this; exact this
      have so : SetAt wz b2 fun _ => false := by
        have : RowAt wz b2 71 C := by rw [← hwz]; exact RowAt.mk (by simp; omega) rfl
        rw [HC.out] at this; exact this
      have hsz := HB0.out.size
      have bz : Below w.heap.size w wz := by rw [← hwz]; exact ((HB0.out.alloc hsz _).alloc (by simp; omega) _).alloc (by simp; omega) _
      have n1 : ¬ bx = b1 := by omega
      have n2 : ¬ bx = b2 := by omega
      have n3 : ¬ b1 = b2 := by omega
      have n4 : ¬ b1 = bx := by omega
      have n5 : ¬ b2 = bx := by omega
      have n6 : ¬ b2 = b1 := by omega
      have g1 : w.heap.size ≤ bx := by omega
      have g2 : w.heap.size ≤ b1 := by omega
      have g3 : w.heap.size ≤ b2 := by omega
      have HN := Lib.hid (show _ ∧ _ ∧ _ ∧ _ ∧ _ ∧ _ from ⟨n1, n2, n3, n4, n5, n6⟩)
      have HG := Lib.hid (show _ ∧ _ ∧ _ from ⟨g1, g2, g3⟩)
      have SX := Lib.hid sx
      have SY := Lib.hid sy
      have SO := Lib.hid so
      have BZ := Lib.hid bz
      rw [hwz, hb2, hb1, hbx]
      clear i0 i1 sx sy so bz hwz HC hb2 hb1 hbx C1 C2 HB0 hz
      refine (gput_any bx true _ la _ wz SX.out (HA.out.run BZ.out) (fun r hr => CA.out.1 r hr)).mono ?_
      rintro e w1 ⟨rfl, s1, u1⟩
      have BB1 := Lib.hid (below_of_upd BZ.out u1 HG.out.1)
      have SX1 := Lib.hid s1
      have SY1 : Hid (SetAt w1 b1 fun _ => false) := Lib.hid (RowAt.upd SY.out u1 n4)
      have SO1 : Hid (SetAt w1 b2 fun _ => false) := Lib.hid (RowAt.upd SO.out u1 n5)
      clear s1 u1 SX SY SO BZ
      go_wp2_with fail
      refine (gput_any b1 true _ lb _ w1 SY1.out (HB.out.run BB1.out) (fun r hr => CB.out.1 r hr)).mono ?_
      rintro e w2 ⟨rfl, s2, u2⟩
      have BB2 := Lib.hid (below_of_upd BB1.out u2 HG.out.2.1)
      have SX2 : Hid (SetAt w2 bx (putsG true la fun _ => false)) := Lib.hid (RowAt.upd SX1.out u2 n1)
      have SY2 := Lib.hid s2
      have SO2 : Hid (SetAt w2 b2 fun _ => false) := Lib.hid (RowAt.upd SO1.out u2 n6)
      obtain ⟨X, hX⟩ : ∃ X, putsG true la (fun _ => false) = X := ⟨_, rfl⟩
      obtain ⟨Y, hY⟩ : ∃ Y, putsG true lb (fun _ => false) = Y := ⟨_, rfl⟩
      rw [hX] at SX2
      rw [hY] at SY2
      have HX : Hid (∀ c, X c = memG la c) := Lib.hid (fun c => by rw [← hX, putsG_true]; simp)
      have HY : Hid (∀ c, Y c = memG lb c) := Lib.hid (fun c => by rw [← hY, putsG_true]; simp)
      clear s2 u2 SX1 SY1 SO1 BB1 hX hY
      go_wp2
      go_loopw [14, 31] (fun _ i wx => ∃ k : Nat, k ≤ 1001 ∧ i = .int .i64 k ∧ Hid (SetAt wx bx X) ∧ Hid (SetAt wx b1 Y) ∧ Hid (SetAt wx b2 (mixG f X Y k)) ∧ Hid (Below w.heap.size w wx)) (fun _ i _ => 1001 - (intOf i).toNat)
      case atStart => exact ⟨0, by omega, rfl, SX2, SY2, Lib.hid (SetAt.congr SO2.out (fun c _ => by rw [mixG, if_neg (by omega)])), BB2⟩
      case round =>
        clear SX2 SY2 SO2 BB2
        rename World => wx
        obtain ⟨k, hk, rfl, GX, GY, GO, GB⟩ := hrel
        by_cases hlt : k < 1001
        · have hlt' : (k : Int) < 1001 := by omega
          have hk0 : (0 : Int) ≤ (k : Int) := by omega
          have cx := GX.out.facts.1 k hlt
          have cy := GY.out.facts.1 k hlt
          have co := GO.out.facts.1 k hlt
          have fo := GO.out.facts.2.1 k
          obtain ⟨p, hp⟩ : ∃ p, X k = p := ⟨_, rfl⟩
          obtain ⟨q, hq⟩ : ∃ p, Y k = p := ⟨_, rfl⟩
          rw [hp] at cx
          rw [hq] at cy
          have HNX : Hid (∀ W : World, SetAt W b2 (mixG f X Y k) → SetAt (W.setCell ⟨b2, k, none⟩ (.bool (f p q))) b2 (mixG f X Y (k + 1))) := Lib.hid (fun W hW => SetAt.set hW hlt (by rw [mixG, if_pos (by omega), hp, hq]) (fun i hi => by
            unfold mixG
            by_cases h : i < k
            · rw [if_pos h, if_pos (by omega)]
            · rw [if_neg h, if_neg (by omega)]))
          obtain ⟨o, ho⟩ : ∃ o, mixG f X Y k k = o := ⟨_, rfl⟩
          rw [ho] at co
          clear hp hq ho
          go_wp2_with fail
          go_region_held3 (fun w' => w'.cell? ⟨bx, k, none⟩ = some (.bool p) ∧ w'.cell? ⟨b1, k, none⟩ = some (.bool q)) (go_keep) (first | (go_at_call 42; with_reducible refine (CF.out _ _ _).mono ?_; rintro e u ⟨rfl, rfl⟩) | fail)
          all_goals go_wp2_with fail
          all_goals go_roundw
          case rel => exact ⟨k + 1, by omega, by go_num, Lib.hid (RowAt.far GX.out n2), Lib.hid (RowAt.far GY.out n3), Lib.hid (HNX.out _ GO.out), Lib.hid (Below.drew (Below.setCell GB.out HG.out.2.2 _))⟩
          case measure => simp [intOf]; omega
        · obtain rfl : k = 1001 := by omega
          have CR := Lib.hid (granges_any b2 _ wx GO.out (by rw [mixG, if_pos (by omega), HX.out, HY.out]; rw [show memG la 0 = false from by rw [Bool.eq_false_iff]; intro x; have := canon_mem CA.out x; omega, show memG lb 0 = false from by rw [Bool.eq_false_iff]; intro x; have := canon_mem CB.out x; omega]; exact HFF.out))
          go_wp2_with fail
          refine CR.out.mono ?_
          rintro e w3 ⟨a, cc, l, rfl, hl, hset, hl9, hb3⟩
          go_wp2
          go_ret2
          exact ⟨a, cc, l, rfl, hl, set_congr hset (fun c h1 h2 => by rw [mixG, if_pos (by omega), HX.out, HY.out]), hl9, below_run GB.out hb3⟩

set_option maxHeartbeats 1000000 in
set_option maxRecDepth 100000 in
theorem gCommon_any (la lb : List (Int × Int)) (va vb : Value) (w : World) (ha : RngsAt w va la) (hb : RngsAt w vb lb) (ca : Canon la) (cb : Canon lb) :
    Calls Tryz.prog 21 #[va, vb] w (SetPost (fun c => (fun p q : Bool => p && q) (memG la c) (memG lb c)) w) := by
  have HC := Lib.hid (gcomb_K la lb va vb w ha hb ca cb)
  clear ha hb ca cb
  go_enter Tryz.func21, Tryz.ntmps21
  go_wp2_with fail
  refine HC.out.mono ?_
  rintro e w3 ⟨a, cc, l, rfl, hl, hset, hl9, hb3⟩
  go_wp2
  go_ret2
  exact ⟨a, cc, l, rfl, hl, hset, hl9, hb3⟩

end Go.Proofs.YtndkpdiacabjgaaGreatDoor
