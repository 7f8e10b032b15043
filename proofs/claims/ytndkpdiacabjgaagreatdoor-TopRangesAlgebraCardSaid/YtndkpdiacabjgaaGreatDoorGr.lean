/-
  The law TopRangesAlgebra.
-/
import Derived.Test.YtndkpdiacabjgaaGreatDoorGr0
namespace Go.Proofs.YtndkpdiacabjgaaGreatDoor
open Go.RowKit

theorem canon_len {l : List (Int × Int)} (h : Canon l) : l.length ≤ (chanG l).length := by
  induction l with
  | nil => simp
  | cons r l ih =>
    obtain ⟨hr, _, hl⟩ := canon_cons.1 h
    have h1 := rightG_iff.1 hr
    have h2 := ih hl
    have h3 : chanG (r :: l) = segG r.1.toNat (r.2.toNat + 1) ++ chanG l := rfl
    rw [h3, List.length_append, segG_length, List.length_cons]
    omega
theorem seteq_of {f g : Nat → Bool} {l l' : List (Int × Int)} (h : SetOf f l) (h' : SetOf g l') (he : ∀ c, 1 ≤ c → c ≤ 999 → f c = g c) : l = l' := set_eq h h' he
theorem ten_eqs {la lb lc l1 l2 l3 l4 l5 l6 l7 l8 l9 l10 l11 l12 l13 l14 l15 l16 l17 l18 l19 l20 l21 l22 l23 l24 l25 l26 l27 l28 l29 l30 l31 l32 l33 l34 l35 l36 l37 : List (Int × Int)} (ka : Canon la) (s1 : SetOf (fun c => (fun p q : Bool => p || q) (memG la c) (memG lb c)) l1) (s2 : SetOf (fun c => (fun p q : Bool => p || q) (memG lb c) (memG la c)) l2) (s3 : SetOf (fun c => (fun p q : Bool => p && q) (memG la c) (memG lb c)) l3) (s4 : SetOf (fun c => (fun p q : Bool => p && q) (memG lb c) (memG la c)) l4) (s5 : SetOf (fun c => (fun p q : Bool => p || q) (memG la c) (memG lb c)) l5) (s6 : SetOf (fun c => (fun p q : Bool => p || q) (memG l5 c) (memG lc c)) l6) (s7 : SetOf (fun c => (fun p q : Bool => p || q) (memG lb c) (memG lc c)) l7) (s8 : SetOf (fun c => (fun p q : Bool => p || q) (memG la c) (memG l7 c)) l8) (s9 : SetOf (fun c => (fun p q : Bool => p && q) (memG la c) (memG lb c)) l9) (s10 : SetOf (fun c => (fun p q : Bool => p && q) (memG l9 c) (memG lc c)) l10) (s11 : SetOf (fun c => (fun p q : Bool => p && q) (memG lb c) (memG lc c)) l11) (s12 : SetOf (fun c => (fun p q : Bool => p && q) (memG la c) (memG l11 c)) l12) (s13 : SetOf (fun c => (fun p q : Bool => p || q) (memG lb c) (memG lc c)) l13) (s14 : SetOf (fun c => (fun p q : Bool => p && q) (memG la c) (memG l13 c)) l14) (s15 : SetOf (fun c => (fun p q : Bool => p && q) (memG la c) (memG lb c)) l15) (s16 : SetOf (fun c => (fun p q : Bool => p && q) (memG la c) (memG lc c)) l16) (s17 : SetOf (fun c => (fun p q : Bool => p || q) (memG l15 c) (memG l16 c)) l17) (s18 : SetOf (fun c => (fun p q : Bool => p && q) (memG lb c) (memG lc c)) l18) (s19 : SetOf (fun c => (fun p q : Bool => p || q) (memG la c) (memG l18 c)) l19) (s20 : SetOf (fun c => (fun p q : Bool => p || q) (memG la c) (memG lb c)) l20) (s21 : SetOf (fun c => (fun p q : Bool => p || q) (memG la c) (memG lc c)) l21) (s22 : SetOf (fun c => (fun p q : Bool => p && q) (memG l20 c) (memG l21 c)) l22) (s23 : SetOf (fun c => (fun p q : Bool => p || q) (memG la c) (memG lb c)) l23) (s24 : SetOf (fun c => (fun p q : Bool => p && !q) (memG l23 c) (memG lc c)) l24) (s25 : SetOf (fun c => (fun p q : Bool => p && !q) (memG la c) (memG lc c)) l25) (s26 : SetOf (fun c => (fun p q : Bool => p && !q) (memG lb c) (memG lc c)) l26) (s27 : SetOf (fun c => (fun p q : Bool => p || q) (memG l25 c) (memG l26 c)) l27) (s28 : SetOf (fun c => (fun p q : Bool => p || q) (memG lb c) (memG lc c)) l28) (s29 : SetOf (fun c => (fun p q : Bool => p && !q) (memG la c) (memG l28 c)) l29) (s30 : SetOf (fun c => (fun p q : Bool => p && !q) (memG la c) (memG lb c)) l30) (s31 : SetOf (fun c => (fun p q : Bool => p && !q) (memG la c) (memG lc c)) l31) (s32 : SetOf (fun c => (fun p q : Bool => p && q) (memG l30 c) (memG l31 c)) l32) (s33 : SetOf (fun c => (fun p q : Bool => p && !q) (memG la c) (memG lb c)) l33) (s34 : SetOf (fun c => (fun p q : Bool => p && q) (memG la c) (memG lb c)) l34) (s35 : SetOf (fun c => (fun p q : Bool => p || q) (memG l33 c) (memG l34 c)) l35) (s36 : SetOf (fun c => (fun p q : Bool => p && !q) (memG la c) (memG lb c)) l36) (s37 : SetOf (fun c => (fun p q : Bool => p && q) (memG l36 c) (memG lb c)) l37) :
    l1 = l2 ∧ l3 = l4 ∧ l6 = l8 ∧ l10 = l12 ∧ l14 = l17 ∧ l19 = l22 ∧ l24 = l27 ∧ l29 = l32 ∧ l35 = la ∧ l37 = ([] : List (Int × Int)) := by
  refine ⟨?_, ?_, ?_, ?_, ?_, ?_, ?_, ?_, ?_, ?_⟩
  · refine set_eq s1 s2 fun c h1 h2 => ?_
    cases memG la c <;> cases memG lb c <;> cases memG lc c <;> rfl
  · refine set_eq s3 s4 fun c h1 h2 => ?_
    cases memG la c <;> cases memG lb c <;> cases memG lc c <;> rfl
  · refine set_eq s6 s8 fun c h1 h2 => ?_
    simp only [set_mem s5 h1 h2, set_mem s7 h1 h2]
    cases memG la c <;> cases memG lb c <;> cases memG lc c <;> rfl
  · refine set_eq s10 s12 fun c h1 h2 => ?_
    simp only [set_mem s9 h1 h2, set_mem s11 h1 h2]
    cases memG la c <;> cases memG lb c <;> cases memG lc c <;> rfl
  · refine set_eq s14 s17 fun c h1 h2 => ?_
    simp only [set_mem s13 h1 h2, set_mem s15 h1 h2, set_mem s16 h1 h2]
    cases memG la c <;> cases memG lb c <;> cases memG lc c <;> rfl
  · refine set_eq s19 s22 fun c h1 h2 => ?_
    simp only [set_mem s18 h1 h2, set_mem s20 h1 h2, set_mem s21 h1 h2]
    cases memG la c <;> cases memG lb c <;> cases memG lc c <;> rfl
  · refine set_eq s24 s27 fun c h1 h2 => ?_
    simp only [set_mem s23 h1 h2, set_mem s25 h1 h2, set_mem s26 h1 h2]
    cases memG la c <;> cases memG lb c <;> cases memG lc c <;> rfl
  · refine set_eq s29 s32 fun c h1 h2 => ?_
    simp only [set_mem s28 h1 h2, set_mem s30 h1 h2, set_mem s31 h1 h2]
    cases memG la c <;> cases memG lb c <;> cases memG lc c <;> rfl
  · refine set_eq s35 (set_self ka) fun c h1 h2 => ?_
    simp only [set_mem s33 h1 h2, set_mem s34 h1 h2]
    cases memG la c <;> cases memG lb c <;> cases memG lc c <;> rfl
  · refine set_eq s37 (set_self canon_nil) fun c h1 h2 => ?_
    simp only [set_mem s36 h1 h2]
    show _ = false
    cases memG la c <;> cases memG lb c <;> cases memG lc c <;> rfl

set_option maxHeartbeats 64000000 in
set_option maxRecDepth 100000 in
theorem law_algebra (la lb lc : List (Int × Int)) (va vb vc : Value) (w : World) (ha : RngsAt w va la) (hb : RngsAt w vb lb) (hc : RngsAt w vc lc) (hra : la.length * 16 ≤ 140737488351232) (hrb : lb.length * 16 ≤ 140737488351232) (hrc : lc.length * 16 ≤ 140737488351232) (hp : Pow w) :
    Calls Tryz.prog 5 #[va, vb, vc] w fun e w' => e = .returned (.bool true) ∧ Below w.heap.size w w' := by
  obtain ⟨aa, ac, e⟩ := seq_shape ha
  subst e
  obtain ⟨ba, bc, e⟩ := seq_shape hb
  subst e
  obtain ⟨ca, cc, e⟩ := seq_shape hc
  subst e
  have HP := Lib.hid hp
  have HA := Lib.hid ha
  have HB := Lib.hid hb
  have HC := Lib.hid hc
  obtain ⟨qa, hqa⟩ : ∃ q, (decide (la.length ≤ 30) && decide (chkG none la = 0)) = q := ⟨_, rfl⟩
  obtain ⟨qb, hqb⟩ : ∃ q, (decide (lb.length ≤ 30) && decide (chkG none lb = 0)) = q := ⟨_, rfl⟩
  obtain ⟨qc, hqc⟩ : ∃ q, (decide (lc.length ≤ 30) && decide (chkG none lc = 0)) = q := ⟨_, rfl⟩
  have C1 := Lib.hid (pset_is qa la _ w ha hra hqa)
  have C2 := Lib.hid (fun W (hW : Below w.heap.size w W) => pset_is qb lb _ W (hb.run hW) hrb hqb)
  have C2c := Lib.hid (fun W (hW : Below w.heap.size w W) => pset_is qc lc _ W (hc.run hW) hrc hqc)
  have C3 := Lib.hid (fun W (hW : Below w.heap.size w W) => playN_any W (hp.run hW))
  clear ha hb hc hp
  cases qa with
  | false =>
    clear hqa hqb hqc hra hrb hrc
    go_enter Tryz.func5, Tryz.ntmps5
    go_wp2_with fail
    refine C1.out.mono ?_
    rintro e w1 ⟨rfl, hb1⟩
    go_wp2_with fail
    refine (C3.out _ hb1).mono ?_
    rintro e w2 ⟨rfl, hb2⟩
    go_wp2
    go_ret
    exact ⟨rfl, below_run hb1 hb2⟩
  | true =>
    cases qb with
    | false =>
      clear hqa hqb hqc hra hrb hrc
      go_enter Tryz.func5, Tryz.ntmps5
      go_wp2_with fail
      refine C1.out.mono ?_
      rintro e w1 ⟨rfl, hb1⟩
      go_wp2_with fail
      refine (C2.out _ hb1).mono ?_
      rintro e w1a ⟨rfl, hb1a⟩
      have HB1 := Lib.hid (below_run hb1 hb1a)
      go_wp2_with fail
      refine (C3.out _ HB1.out).mono ?_
      rintro e w2 ⟨rfl, hb2⟩
      go_wp2
      go_ret
      exact ⟨rfl, below_run HB1.out hb2⟩
    | true =>
      cases qc with
      | false =>
        clear hqa hqb hqc hra hrb hrc
        go_enter Tryz.func5, Tryz.ntmps5
        go_wp2_with fail
        refine C1.out.mono ?_
        rintro e w1 ⟨rfl, hb1⟩
        go_wp2_with fail
        refine (C2.out _ hb1).mono ?_
        rintro e w1a ⟨rfl, hb1a⟩
        have HB1 := Lib.hid (below_run hb1 hb1a)
        go_wp2_with fail
        refine (C2c.out _ HB1.out).mono ?_
        rintro e w1b ⟨rfl, hb1b⟩
        have HB1b := Lib.hid (below_run HB1.out hb1b)
        go_wp2_with fail
        refine (C3.out _ HB1b.out).mono ?_
        rintro e w2 ⟨rfl, hb2⟩
        go_wp2
        go_ret
        exact ⟨rfl, below_run HB1b.out hb2⟩
      | true =>
        rw [Bool.and_eq_true, decide_eq_true_eq, decide_eq_true_eq] at hqa hqb hqc
        have KA := Lib.hid ((chkG_none la).1 hqa.2)
        have KB := Lib.hid ((chkG_none lb).1 hqb.2)
        have KC := Lib.hid ((chkG_none lc).1 hqc.2)
        have HLA := Lib.hid hqa.1
        have HLB := Lib.hid hqb.1
        clear hqa hqb hqc hra hrb hrc
        go_enter Tryz.func5, Tryz.ntmps5
        go_wp2_with fail
        refine C1.out.mono ?_
        rintro e w1 ⟨rfl, hb1⟩
        go_wp2_with fail
        refine (C2.out _ hb1).mono ?_
        rintro e w2 ⟨rfl, hb2⟩
        have HBb := Lib.hid (below_run hb1 hb2)
        clear hb1 hb2
        go_wp2_with fail
        refine (C2c.out _ HBb.out).mono ?_
        rintro e w3 ⟨rfl, hb3⟩
        have HBc := Lib.hid (below_run HBb.out hb3)
        clear hb3 HBb C1 C2 C2c
        go_wp2_with fail
        obtain ⟨W0, hW0⟩ : ∃ W0, (w3.alloc (.cells #[.bool true] 45)).alloc (.cells #[.pointer (some ⟨w3.heap.size, 0, none⟩)] 43) = W0 := ⟨_, rfl⟩
        have hg0 : GoodG (w3.heap.size + 1) w3.heap.size w [(.slice aa la.length ac, la), (.slice ba lb.length bc, lb), (.slice ca lc.length cc, lc)] W0 := by
          have hbz : Below w.heap.size w W0 := by rw [← hW0]; exact (HBc.out.alloc HBc.out.size _).alloc (Nat.le_trans HBc.out.size (by simp)) _
          refine ⟨by rw [← hW0]; exact RowAt.mk (by simp) rfl, by rw [← hW0]; exact RowAt.alloc (RowAt.new _ _ _) _, hbz, HBc.out.size, by omega, fun x hx => ?_⟩
          simp only [List.mem_cons, List.not_mem_nil, or_false] at hx
          rcases hx with rfl | rfl | rfl
          · exact ⟨HA.out.run hbz, KA.out⟩
          · exact ⟨HB.out.run hbz, KB.out⟩
          · exact ⟨HC.out.run hbz, KC.out⟩
        obtain ⟨kp, hkp⟩ : ∃ kp, w3.heap.size + 1 = kp := ⟨_, rfl⟩
        obtain ⟨pb, hpb⟩ : ∃ pb, w3.heap.size = pb := ⟨_, rfl⟩
        rw [hkp, hpb] at hg0
        have G0 := Lib.hid hg0
        clear hg0
        rw [hW0, hkp]
        (try rw [hpb])
        clear hW0 hkp hpb HA HB HC HBc
        refine (clo_U kp pb w _ aa ac la ba bc lb _ G0.out (.head _) (.tail _ (.head _))).mono ?_
        rintro e W1 ⟨a1, c1, l1, rfl, s1, g1⟩
        have G1 := Lib.hid g1
        have S1 := Lib.hid s1
        clear g1 s1 G0
        go_wp2_with fail
        refine (clo_U kp pb w _ ba bc lb aa ac la _ G1.out (.tail _ (.tail _ (.head _))) (.tail _ (.head _))).mono ?_
        rintro e W2 ⟨a2, c2, l2, rfl, s2, g2⟩
        have G2 := Lib.hid g2
        have S2 := Lib.hid s2
        clear g2 s2 G1
        go_wp2_with fail
        refine (clo_K kp pb w _ aa ac la ba bc lb _ G2.out (.tail _ (.tail _ (.head _))) (.tail _ (.tail _ (.tail _ (.head _))))).mono ?_
        rintro e W3 ⟨a3, c3, l3, rfl, s3, g3⟩
        have G3 := Lib.hid g3
        have S3 := Lib.hid s3
        clear g3 s3 G2
        go_wp2_with fail
        refine (clo_K kp pb w _ ba bc lb aa ac la _ G3.out (.tail _ (.tail _ (.tail _ (.tail _ (.head _))))) (.tail _ (.tail _ (.tail _ (.head _))))).mono ?_
        rintro e W4 ⟨a4, c4, l4, rfl, s4, g4⟩
        have G4 := Lib.hid g4
        have S4 := Lib.hid s4
        clear g4 s4 G3
        go_wp2_with fail
        refine (clo_U kp pb w _ aa ac la ba bc lb _ G4.out (.tail _ (.tail _ (.tail _ (.tail _ (.head _))))) (.tail _ (.tail _ (.tail _ (.tail _ (.tail _ (.head _))))))).mono ?_
        rintro e W5 ⟨a5, c5, l5, rfl, s5, g5⟩
        have G5 := Lib.hid g5
        have S5 := Lib.hid s5
        clear g5 s5 G4
        go_wp2_with fail
        refine (clo_U kp pb w _ a5 c5 l5 ca cc lc _ G5.out (.head _) (.tail _ (.tail _ (.tail _ (.tail _ (.tail _ (.tail _ (.tail _ (.head _))))))))).mono ?_
        rintro e W6 ⟨a6, c6, l6, rfl, s6, g6⟩
        have G6 := Lib.hid g6
        have S6 := Lib.hid s6
        clear g6 s6 G5
        go_wp2_with fail
        refine (clo_U kp pb w _ ba bc lb ca cc lc _ G6.out (.tail _ (.tail _ (.tail _ (.tail _ (.tail _ (.tail _ (.tail _ (.head _)))))))) (.tail _ (.tail _ (.tail _ (.tail _ (.tail _ (.tail _ (.tail _ (.tail _ (.head _)))))))))).mono ?_
        rintro e W7 ⟨a7, c7, l7, rfl, s7, g7⟩
        have G7 := Lib.hid g7
        have S7 := Lib.hid s7
        clear g7 s7 G6
        go_wp2_with fail
        refine (clo_U kp pb w _ aa ac la a7 c7 l7 _ G7.out (.tail _ (.tail _ (.tail _ (.tail _ (.tail _ (.tail _ (.tail _ (.head _)))))))) (.head _)).mono ?_
        rintro e W8 ⟨a8, c8, l8, rfl, s8, g8⟩
        have G8 := Lib.hid g8
        have S8 := Lib.hid s8
        clear g8 s8 G7
        go_wp2_with fail
        refine (clo_K kp pb w _ aa ac la ba bc lb _ G8.out (.tail _ (.tail _ (.tail _ (.tail _ (.tail _ (.tail _ (.tail _ (.tail _ (.head _))))))))) (.tail _ (.tail _ (.tail _ (.tail _ (.tail _ (.tail _ (.tail _ (.tail _ (.tail _ (.head _))))))))))).mono ?_
        rintro e W9 ⟨a9, c9, l9, rfl, s9, g9⟩
        have G9 := Lib.hid g9
        have S9 := Lib.hid s9
        clear g9 s9 G8
        go_wp2_with fail
        refine (clo_K kp pb w _ a9 c9 l9 ca cc lc _ G9.out (.head _) (.tail _ (.tail _ (.tail _ (.tail _ (.tail _ (.tail _ (.tail _ (.tail _ (.tail _ (.tail _ (.tail _ (.head _))))))))))))).mono ?_
        rintro e W10 ⟨a10, c10, l10, rfl, s10, g10⟩
        have G10 := Lib.hid g10
        have S10 := Lib.hid s10
        clear g10 s10 G9
        go_wp2_with fail
        refine (clo_K kp pb w _ ba bc lb ca cc lc _ G10.out (.tail _ (.tail _ (.tail _ (.tail _ (.tail _ (.tail _ (.tail _ (.tail _ (.tail _ (.tail _ (.tail _ (.head _)))))))))))) (.tail _ (.tail _ (.tail _ (.tail _ (.tail _ (.tail _ (.tail _ (.tail _ (.tail _ (.tail _ (.tail _ (.tail _ (.head _)))))))))))))).mono ?_
        rintro e W11 ⟨a11, c11, l11, rfl, s11, g11⟩
        have G11 := Lib.hid g11
        have S11 := Lib.hid s11
        clear g11 s11 G10
        go_wp2_with fail
        refine (clo_K kp pb w _ aa ac la a11 c11 l11 _ G11.out (.tail _ (.tail _ (.tail _ (.tail _ (.tail _ (.tail _ (.tail _ (.tail _ (.tail _ (.tail _ (.tail _ (.head _)))))))))))) (.head _)).mono ?_
        rintro e W12 ⟨a12, c12, l12, rfl, s12, g12⟩
        have G12 := Lib.hid g12
        have S12 := Lib.hid s12
        clear g12 s12 G11
        go_wp2_with fail
        refine (clo_U kp pb w _ ba bc lb ca cc lc _ G12.out (.tail _ (.tail _ (.tail _ (.tail _ (.tail _ (.tail _ (.tail _ (.tail _ (.tail _ (.tail _ (.tail _ (.tail _ (.tail _ (.head _)))))))))))))) (.tail _ (.tail _ (.tail _ (.tail _ (.tail _ (.tail _ (.tail _ (.tail _ (.tail _ (.tail _ (.tail _ (.tail _ (.tail _ (.tail _ (.head _)))))))))))))))).mono ?_
        rintro e W13 ⟨a13, c13, l13, rfl, s13, g13⟩
        have G13 := Lib.hid g13
        have S13 := Lib.hid s13
        clear g13 s13 G12
        go_wp2_with fail
        refine (clo_K kp pb w _ aa ac la a13 c13 l13 _ G13.out (.tail _ (.tail _ (.tail _ (.tail _ (.tail _ (.tail _ (.tail _ (.tail _ (.tail _ (.tail _ (.tail _ (.tail _ (.tail _ (.head _)))))))))))))) (.head _)).mono ?_
        rintro e W14 ⟨a14, c14, l14, rfl, s14, g14⟩
        have G14 := Lib.hid g14
        have S14 := Lib.hid s14
        clear g14 s14 G13
        go_wp2_with fail
        refine (clo_K kp pb w _ aa ac la ba bc lb _ G14.out (.tail _ (.tail _ (.tail _ (.tail _ (.tail _ (.tail _ (.tail _ (.tail _ (.tail _ (.tail _ (.tail _ (.tail _ (.tail _ (.tail _ (.head _))))))))))))))) (.tail _ (.tail _ (.tail _ (.tail _ (.tail _ (.tail _ (.tail _ (.tail _ (.tail _ (.tail _ (.tail _ (.tail _ (.tail _ (.tail _ (.tail _ (.head _))))))))))))))))).mono ?_
        rintro e W15 ⟨a15, c15, l15, rfl, s15, g15⟩
        have G15 := Lib.hid g15
        have S15 := Lib.hid s15
        clear g15 s15 G14
        go_wp2_with fail
        refine (clo_K kp pb w _ aa ac la ca cc lc _ G15.out (.tail _ (.tail _ (.tail _ (.tail _ (.tail _ (.tail _ (.tail _ (.tail _ (.tail _ (.tail _ (.tail _ (.tail _ (.tail _ (.tail _ (.tail _ (.head _)))))))))))))))) (.tail _ (.tail _ (.tail _ (.tail _ (.tail _ (.tail _ (.tail _ (.tail _ (.tail _ (.tail _ (.tail _ (.tail _ (.tail _ (.tail _ (.tail _ (.tail _ (.tail _ (.head _))))))))))))))))))).mono ?_
        rintro e W16 ⟨a16, c16, l16, rfl, s16, g16⟩
        have G16 := Lib.hid g16
        have S16 := Lib.hid s16
        clear g16 s16 G15
        go_wp2_with fail
        refine (clo_U kp pb w _ a15 c15 l15 a16 c16 l16 _ G16.out (.tail _ (.head _)) (.head _)).mono ?_
        rintro e W17 ⟨a17, c17, l17, rfl, s17, g17⟩
        have G17 := Lib.hid g17
        have S17 := Lib.hid s17
        clear g17 s17 G16
        go_wp2_with fail
        refine (clo_K kp pb w _ ba bc lb ca cc lc _ G17.out (.tail _ (.tail _ (.tail _ (.tail _ (.tail _ (.tail _ (.tail _ (.tail _ (.tail _ (.tail _ (.tail _ (.tail _ (.tail _ (.tail _ (.tail _ (.tail _ (.tail _ (.tail _ (.head _))))))))))))))))))) (.tail _ (.tail _ (.tail _ (.tail _ (.tail _ (.tail _ (.tail _ (.tail _ (.tail _ (.tail _ (.tail _ (.tail _ (.tail _ (.tail _ (.tail _ (.tail _ (.tail _ (.tail _ (.tail _ (.head _))))))))))))))))))))).mono ?_
        rintro e W18 ⟨a18, c18, l18, rfl, s18, g18⟩
        have G18 := Lib.hid g18
        have S18 := Lib.hid s18
        clear g18 s18 G17
        go_wp2_with fail
        refine (clo_U kp pb w _ aa ac la a18 c18 l18 _ G18.out (.tail _ (.tail _ (.tail _ (.tail _ (.tail _ (.tail _ (.tail _ (.tail _ (.tail _ (.tail _ (.tail _ (.tail _ (.tail _ (.tail _ (.tail _ (.tail _ (.tail _ (.tail _ (.head _))))))))))))))))))) (.head _)).mono ?_
        rintro e W19 ⟨a19, c19, l19, rfl, s19, g19⟩
        have G19 := Lib.hid g19
        have S19 := Lib.hid s19
        clear g19 s19 G18
        go_wp2_with fail
        refine (clo_U kp pb w _ aa ac la ba bc lb _ G19.out (.tail _ (.tail _ (.tail _ (.tail _ (.tail _ (.tail _ (.tail _ (.tail _ (.tail _ (.tail _ (.tail _ (.tail _ (.tail _ (.tail _ (.tail _ (.tail _ (.tail _ (.tail _ (.tail _ (.head _)))))))))))))))))))) (.tail _ (.tail _ (.tail _ (.tail _ (.tail _ (.tail _ (.tail _ (.tail _ (.tail _ (.tail _ (.tail _ (.tail _ (.tail _ (.tail _ (.tail _ (.tail _ (.tail _ (.tail _ (.tail _ (.tail _ (.head _)))))))))))))))))))))).mono ?_
        rintro e W20 ⟨a20, c20, l20, rfl, s20, g20⟩
        have G20 := Lib.hid g20
        have S20 := Lib.hid s20
        clear g20 s20 G19
        go_wp2_with fail
        refine (clo_U kp pb w _ aa ac la ca cc lc _ G20.out (.tail _ (.tail _ (.tail _ (.tail _ (.tail _ (.tail _ (.tail _ (.tail _ (.tail _ (.tail _ (.tail _ (.tail _ (.tail _ (.tail _ (.tail _ (.tail _ (.tail _ (.tail _ (.tail _ (.tail _ (.head _))))))))))))))))))))) (.tail _ (.tail _ (.tail _ (.tail _ (.tail _ (.tail _ (.tail _ (.tail _ (.tail _ (.tail _ (.tail _ (.tail _ (.tail _ (.tail _ (.tail _ (.tail _ (.tail _ (.tail _ (.tail _ (.tail _ (.tail _ (.tail _ (.head _)))))))))))))))))))))))).mono ?_
        rintro e W21 ⟨a21, c21, l21, rfl, s21, g21⟩
        have G21 := Lib.hid g21
        have S21 := Lib.hid s21
        clear g21 s21 G20
        go_wp2_with fail
        refine (clo_K kp pb w _ a20 c20 l20 a21 c21 l21 _ G21.out (.tail _ (.head _)) (.head _)).mono ?_
        rintro e W22 ⟨a22, c22, l22, rfl, s22, g22⟩
        have G22 := Lib.hid g22
        have S22 := Lib.hid s22
        clear g22 s22 G21
        go_wp2_with fail
        refine (clo_U kp pb w _ aa ac la ba bc lb _ G22.out (.tail _ (.tail _ (.tail _ (.tail _ (.tail _ (.tail _ (.tail _ (.tail _ (.tail _ (.tail _ (.tail _ (.tail _ (.tail _ (.tail _ (.tail _ (.tail _ (.tail _ (.tail _ (.tail _ (.tail _ (.tail _ (.tail _ (.head _))))))))))))))))))))))) (.tail _ (.tail _ (.tail _ (.tail _ (.tail _ (.tail _ (.tail _ (.tail _ (.tail _ (.tail _ (.tail _ (.tail _ (.tail _ (.tail _ (.tail _ (.tail _ (.tail _ (.tail _ (.tail _ (.tail _ (.tail _ (.tail _ (.tail _ (.head _))))))))))))))))))))))))).mono ?_
        rintro e W23 ⟨a23, c23, l23, rfl, s23, g23⟩
        have G23 := Lib.hid g23
        have S23 := Lib.hid s23
        clear g23 s23 G22
        go_wp2_with fail
        refine (clo_N kp pb w _ a23 c23 l23 ca cc lc _ G23.out (.head _) (.tail _ (.tail _ (.tail _ (.tail _ (.tail _ (.tail _ (.tail _ (.tail _ (.tail _ (.tail _ (.tail _ (.tail _ (.tail _ (.tail _ (.tail _ (.tail _ (.tail _ (.tail _ (.tail _ (.tail _ (.tail _ (.tail _ (.tail _ (.tail _ (.tail _ (.head _))))))))))))))))))))))))))).mono ?_
        rintro e W24 ⟨a24, c24, l24, rfl, s24, g24⟩
        have G24 := Lib.hid g24
        have S24 := Lib.hid s24
        clear g24 s24 G23
        go_wp2_with fail
        refine (clo_N kp pb w _ aa ac la ca cc lc _ G24.out (.tail _ (.tail _ (.tail _ (.tail _ (.tail _ (.tail _ (.tail _ (.tail _ (.tail _ (.tail _ (.tail _ (.tail _ (.tail _ (.tail _ (.tail _ (.tail _ (.tail _ (.tail _ (.tail _ (.tail _ (.tail _ (.tail _ (.tail _ (.tail _ (.head _))))))))))))))))))))))))) (.tail _ (.tail _ (.tail _ (.tail _ (.tail _ (.tail _ (.tail _ (.tail _ (.tail _ (.tail _ (.tail _ (.tail _ (.tail _ (.tail _ (.tail _ (.tail _ (.tail _ (.tail _ (.tail _ (.tail _ (.tail _ (.tail _ (.tail _ (.tail _ (.tail _ (.tail _ (.head _)))))))))))))))))))))))))))).mono ?_
        rintro e W25 ⟨a25, c25, l25, rfl, s25, g25⟩
        have G25 := Lib.hid g25
        have S25 := Lib.hid s25
        clear g25 s25 G24
        go_wp2_with fail
        refine (clo_N kp pb w _ ba bc lb ca cc lc _ G25.out (.tail _ (.tail _ (.tail _ (.tail _ (.tail _ (.tail _ (.tail _ (.tail _ (.tail _ (.tail _ (.tail _ (.tail _ (.tail _ (.tail _ (.tail _ (.tail _ (.tail _ (.tail _ (.tail _ (.tail _ (.tail _ (.tail _ (.tail _ (.tail _ (.tail _ (.tail _ (.head _))))))))))))))))))))))))))) (.tail _ (.tail _ (.tail _ (.tail _ (.tail _ (.tail _ (.tail _ (.tail _ (.tail _ (.tail _ (.tail _ (.tail _ (.tail _ (.tail _ (.tail _ (.tail _ (.tail _ (.tail _ (.tail _ (.tail _ (.tail _ (.tail _ (.tail _ (.tail _ (.tail _ (.tail _ (.tail _ (.head _))))))))))))))))))))))))))))).mono ?_
        rintro e W26 ⟨a26, c26, l26, rfl, s26, g26⟩
        have G26 := Lib.hid g26
        have S26 := Lib.hid s26
        clear g26 s26 G25
        go_wp2_with fail
        refine (clo_U kp pb w _ a25 c25 l25 a26 c26 l26 _ G26.out (.tail _ (.head _)) (.head _)).mono ?_
        rintro e W27 ⟨a27, c27, l27, rfl, s27, g27⟩
        have G27 := Lib.hid g27
        have S27 := Lib.hid s27
        clear g27 s27 G26
        go_wp2_with fail
        refine (clo_U kp pb w _ ba bc lb ca cc lc _ G27.out (.tail _ (.tail _ (.tail _ (.tail _ (.tail _ (.tail _ (.tail _ (.tail _ (.tail _ (.tail _ (.tail _ (.tail _ (.tail _ (.tail _ (.tail _ (.tail _ (.tail _ (.tail _ (.tail _ (.tail _ (.tail _ (.tail _ (.tail _ (.tail _ (.tail _ (.tail _ (.tail _ (.tail _ (.head _))))))))))))))))))))))))))))) (.tail _ (.tail _ (.tail _ (.tail _ (.tail _ (.tail _ (.tail _ (.tail _ (.tail _ (.tail _ (.tail _ (.tail _ (.tail _ (.tail _ (.tail _ (.tail _ (.tail _ (.tail _ (.tail _ (.tail _ (.tail _ (.tail _ (.tail _ (.tail _ (.tail _ (.tail _ (.tail _ (.tail _ (.tail _ (.head _))))))))))))))))))))))))))))))).mono ?_
        rintro e W28 ⟨a28, c28, l28, rfl, s28, g28⟩
        have G28 := Lib.hid g28
        have S28 := Lib.hid s28
        clear g28 s28 G27
        go_wp2_with fail
        refine (clo_N kp pb w _ aa ac la a28 c28 l28 _ G28.out (.tail _ (.tail _ (.tail _ (.tail _ (.tail _ (.tail _ (.tail _ (.tail _ (.tail _ (.tail _ (.tail _ (.tail _ (.tail _ (.tail _ (.tail _ (.tail _ (.tail _ (.tail _ (.tail _ (.tail _ (.tail _ (.tail _ (.tail _ (.tail _ (.tail _ (.tail _ (.tail _ (.tail _ (.head _))))))))))))))))))))))))))))) (.head _)).mono ?_
        rintro e W29 ⟨a29, c29, l29, rfl, s29, g29⟩
        have G29 := Lib.hid g29
        have S29 := Lib.hid s29
        clear g29 s29 G28
        go_wp2_with fail
        refine (clo_N kp pb w _ aa ac la ba bc lb _ G29.out (.tail _ (.tail _ (.tail _ (.tail _ (.tail _ (.tail _ (.tail _ (.tail _ (.tail _ (.tail _ (.tail _ (.tail _ (.tail _ (.tail _ (.tail _ (.tail _ (.tail _ (.tail _ (.tail _ (.tail _ (.tail _ (.tail _ (.tail _ (.tail _ (.tail _ (.tail _ (.tail _ (.tail _ (.tail _ (.head _)))))))))))))))))))))))))))))) (.tail _ (.tail _ (.tail _ (.tail _ (.tail _ (.tail _ (.tail _ (.tail _ (.tail _ (.tail _ (.tail _ (.tail _ (.tail _ (.tail _ (.tail _ (.tail _ (.tail _ (.tail _ (.tail _ (.tail _ (.tail _ (.tail _ (.tail _ (.tail _ (.tail _ (.tail _ (.tail _ (.tail _ (.tail _ (.tail _ (.head _)))))))))))))))))))))))))))))))).mono ?_
        rintro e W30 ⟨a30, c30, l30, rfl, s30, g30⟩
        have G30 := Lib.hid g30
        have S30 := Lib.hid s30
        clear g30 s30 G29
        go_wp2_with fail
        refine (clo_N kp pb w _ aa ac la ca cc lc _ G30.out (.tail _ (.tail _ (.tail _ (.tail _ (.tail _ (.tail _ (.tail _ (.tail _ (.tail _ (.tail _ (.tail _ (.tail _ (.tail _ (.tail _ (.tail _ (.tail _ (.tail _ (.tail _ (.tail _ (.tail _ (.tail _ (.tail _ (.tail _ (.tail _ (.tail _ (.tail _ (.tail _ (.tail _ (.tail _ (.tail _ (.head _))))))))))))))))))))))))))))))) (.tail _ (.tail _ (.tail _ (.tail _ (.tail _ (.tail _ (.tail _ (.tail _ (.tail _ (.tail _ (.tail _ (.tail _ (.tail _ (.tail _ (.tail _ (.tail _ (.tail _ (.tail _ (.tail _ (.tail _ (.tail _ (.tail _ (.tail _ (.tail _ (.tail _ (.tail _ (.tail _ (.tail _ (.tail _ (.tail _ (.tail _ (.tail _ (.head _)))))))))))))))))))))))))))))))))).mono ?_
        rintro e W31 ⟨a31, c31, l31, rfl, s31, g31⟩
        have G31 := Lib.hid g31
        have S31 := Lib.hid s31
        clear g31 s31 G30
        go_wp2_with fail
        refine (clo_K kp pb w _ a30 c30 l30 a31 c31 l31 _ G31.out (.tail _ (.head _)) (.head _)).mono ?_
        rintro e W32 ⟨a32, c32, l32, rfl, s32, g32⟩
        have G32 := Lib.hid g32
        have S32 := Lib.hid s32
        clear g32 s32 G31
        go_wp2_with fail
        refine (clo_N kp pb w _ aa ac la ba bc lb _ G32.out (.tail _ (.tail _ (.tail _ (.tail _ (.tail _ (.tail _ (.tail _ (.tail _ (.tail _ (.tail _ (.tail _ (.tail _ (.tail _ (.tail _ (.tail _ (.tail _ (.tail _ (.tail _ (.tail _ (.tail _ (.tail _ (.tail _ (.tail _ (.tail _ (.tail _ (.tail _ (.tail _ (.tail _ (.tail _ (.tail _ (.tail _ (.tail _ (.head _))))))))))))))))))))))))))))))))) (.tail _ (.tail _ (.tail _ (.tail _ (.tail _ (.tail _ (.tail _ (.tail _ (.tail _ (.tail _ (.tail _ (.tail _ (.tail _ (.tail _ (.tail _ (.tail _ (.tail _ (.tail _ (.tail _ (.tail _ (.tail _ (.tail _ (.tail _ (.tail _ (.tail _ (.tail _ (.tail _ (.tail _ (.tail _ (.tail _ (.tail _ (.tail _ (.tail _ (.head _))))))))))))))))))))))))))))))))))).mono ?_
        rintro e W33 ⟨a33, c33, l33, rfl, s33, g33⟩
        have G33 := Lib.hid g33
        have S33 := Lib.hid s33
        clear g33 s33 G32
        go_wp2_with fail
        refine (clo_K kp pb w _ aa ac la ba bc lb _ G33.out (.tail _ (.tail _ (.tail _ (.tail _ (.tail _ (.tail _ (.tail _ (.tail _ (.tail _ (.tail _ (.tail _ (.tail _ (.tail _ (.tail _ (.tail _ (.tail _ (.tail _ (.tail _ (.tail _ (.tail _ (.tail _ (.tail _ (.tail _ (.tail _ (.tail _ (.tail _ (.tail _ (.tail _ (.tail _ (.tail _ (.tail _ (.tail _ (.tail _ (.head _)))))))))))))))))))))))))))))))))) (.tail _ (.tail _ (.tail _ (.tail _ (.tail _ (.tail _ (.tail _ (.tail _ (.tail _ (.tail _ (.tail _ (.tail _ (.tail _ (.tail _ (.tail _ (.tail _ (.tail _ (.tail _ (.tail _ (.tail _ (.tail _ (.tail _ (.tail _ (.tail _ (.tail _ (.tail _ (.tail _ (.tail _ (.tail _ (.tail _ (.tail _ (.tail _ (.tail _ (.tail _ (.head _)))))))))))))))))))))))))))))))))))).mono ?_
        rintro e W34 ⟨a34, c34, l34, rfl, s34, g34⟩
        have G34 := Lib.hid g34
        have S34 := Lib.hid s34
        clear g34 s34 G33
        go_wp2_with fail
        refine (clo_U kp pb w _ a33 c33 l33 a34 c34 l34 _ G34.out (.tail _ (.head _)) (.head _)).mono ?_
        rintro e W35 ⟨a35, c35, l35, rfl, s35, g35⟩
        have G35 := Lib.hid g35
        have S35 := Lib.hid s35
        clear g35 s35 G34
        go_wp2_with fail
        refine (clo_N kp pb w _ aa ac la ba bc lb _ G35.out (.tail _ (.tail _ (.tail _ (.tail _ (.tail _ (.tail _ (.tail _ (.tail _ (.tail _ (.tail _ (.tail _ (.tail _ (.tail _ (.tail _ (.tail _ (.tail _ (.tail _ (.tail _ (.tail _ (.tail _ (.tail _ (.tail _ (.tail _ (.tail _ (.tail _ (.tail _ (.tail _ (.tail _ (.tail _ (.tail _ (.tail _ (.tail _ (.tail _ (.tail _ (.tail _ (.head _)))))))))))))))))))))))))))))))))))) (.tail _ (.tail _ (.tail _ (.tail _ (.tail _ (.tail _ (.tail _ (.tail _ (.tail _ (.tail _ (.tail _ (.tail _ (.tail _ (.tail _ (.tail _ (.tail _ (.tail _ (.tail _ (.tail _ (.tail _ (.tail _ (.tail _ (.tail _ (.tail _ (.tail _ (.tail _ (.tail _ (.tail _ (.tail _ (.tail _ (.tail _ (.tail _ (.tail _ (.tail _ (.tail _ (.tail _ (.head _)))))))))))))))))))))))))))))))))))))).mono ?_
        rintro e W36 ⟨a36, c36, l36, rfl, s36, g36⟩
        have G36 := Lib.hid g36
        have S36 := Lib.hid s36
        clear g36 s36 G35
        go_wp2_with fail
        refine (clo_K kp pb w _ a36 c36 l36 ba bc lb _ G36.out (.head _) (.tail _ (.tail _ (.tail _ (.tail _ (.tail _ (.tail _ (.tail _ (.tail _ (.tail _ (.tail _ (.tail _ (.tail _ (.tail _ (.tail _ (.tail _ (.tail _ (.tail _ (.tail _ (.tail _ (.tail _ (.tail _ (.tail _ (.tail _ (.tail _ (.tail _ (.tail _ (.tail _ (.tail _ (.tail _ (.tail _ (.tail _ (.tail _ (.tail _ (.tail _ (.tail _ (.tail _ (.tail _ (.head _))))))))))))))))))))))))))))))))))))))).mono ?_
        rintro e W37 ⟨a37, c37, l37, rfl, s37, g37⟩
        have G37 := Lib.hid g37
        have S37 := Lib.hid s37
        clear g37 s37 G36
        have EQ := Lib.hid (ten_eqs KA.out S1.out S2.out S3.out S4.out S5.out S6.out S7.out S8.out S9.out S10.out S11.out S12.out S13.out S14.out S15.out S16.out S17.out S18.out S19.out S20.out S21.out S22.out S23.out S24.out S25.out S26.out S27.out S28.out S29.out S30.out S31.out S32.out S33.out S34.out S35.out S36.out S37.out)
        clear S1 S2 S3 S4 S5 S6 S7 S8 S9 S10 S11 S12 S13 S14 S15 S16 S17 S18 S19 S20 S21 S22 S23 S24 S25 S26 S27 S28 S29 S30 S31 S32 S33 S34 S35 S36 S37
        go_wp2_with fail
        obtain ⟨WB, hWB⟩ : ∃ WB, W37.alloc (.cells #[.slice a1 l1.length c1, .slice a2 l2.length c2, .slice a3 l3.length c3, .slice a4 l4.length c4, .slice a6 l6.length c6, .slice a8 l8.length c8, .slice a10 l10.length c10, .slice a12 l12.length c12, .slice a14 l14.length c14, .slice a17 l17.length c17, .slice a19 l19.length c19, .slice a22 l22.length c22, .slice a24 l24.length c24, .slice a27 l27.length c27, .slice a29 l29.length c29, .slice a32 l32.length c32, .slice a35 l35.length c35, .slice aa la.length ac, .slice a37 l37.length c37, .slice none 0 0] 48) = WB := ⟨_, rfl⟩
        obtain ⟨kb, hkb⟩ : ∃ kb, W37.heap.size = kb := ⟨_, rfl⟩
        have hrow : RowAt WB kb 48 #[.slice a1 l1.length c1, .slice a2 l2.length c2, .slice a3 l3.length c3, .slice a4 l4.length c4, .slice a6 l6.length c6, .slice a8 l8.length c8, .slice a10 l10.length c10, .slice a12 l12.length c12, .slice a14 l14.length c14, .slice a17 l17.length c17, .slice a19 l19.length c19, .slice a22 l22.length c22, .slice a24 l24.length c24, .slice a27 l27.length c27, .slice a29 l29.length c29, .slice a32 l32.length c32, .slice a35 l35.length c35, .slice aa la.length ac, .slice a37 l37.length c37, .slice none 0 0] := by rw [← hWB, ← hkb]; exact RowAt.new _ _ _
        have hbB : Below W37.heap.size W37 WB := by rw [← hWB]; exact (Below.refl _ _).alloc (Nat.le_refl _) _
        have GB := Lib.hid (G37.out.run hbB)
        have x1 := (row_facts hrow).1
        have HPAIR : Hid (∀ k, k < 10 → ∃ (pa : Option Addr) (pc : Nat) (qa : Option Addr) (qc : Nat) (l l' : List (Int × Int)), WB.cell? ⟨kb, k * 2, none⟩ = some (.slice pa l.length pc) ∧ WB.cell? ⟨kb, k * 2 + 1, none⟩ = some (.slice qa l'.length qc) ∧ l = l' ∧ RngsAt WB (.slice pa l.length pc) l ∧ RngsAt WB (.slice qa l'.length qc) l') := by
          obtain ⟨E0, E1, E2, E3, E4, E5, E6, E7, E8, E9⟩ := EQ.out
          intro k hk
          match k, hk with
          | 0, _ => exact ⟨a1, c1, a2, c2, l1, l2, x1 0, x1 1, E0, (GB.out.all _ (.tail _ (.tail _ (.tail _ (.tail _ (.tail _ (.tail _ (.tail _ (.tail _ (.tail _ (.tail _ (.tail _ (.tail _ (.tail _ (.tail _ (.tail _ (.tail _ (.tail _ (.tail _ (.tail _ (.tail _ (.tail _ (.tail _ (.tail _ (.tail _ (.tail _ (.tail _ (.tail _ (.tail _ (.tail _ (.tail _ (.tail _ (.tail _ (.tail _ (.tail _ (.tail _ (.tail _ (.head _)))))))))))))))))))))))))))))))))))))).1, (GB.out.all _ (.tail _ (.tail _ (.tail _ (.tail _ (.tail _ (.tail _ (.tail _ (.tail _ (.tail _ (.tail _ (.tail _ (.tail _ (.tail _ (.tail _ (.tail _ (.tail _ (.tail _ (.tail _ (.tail _ (.tail _ (.tail _ (.tail _ (.tail _ (.tail _ (.tail _ (.tail _ (.tail _ (.tail _ (.tail _ (.tail _ (.tail _ (.tail _ (.tail _ (.tail _ (.tail _ (.head _))))))))))))))))))))))))))))))))))))).1⟩
          | 1, _ => exact ⟨a3, c3, a4, c4, l3, l4, x1 2, x1 3, E1, (GB.out.all _ (.tail _ (.tail _ (.tail _ (.tail _ (.tail _ (.tail _ (.tail _ (.tail _ (.tail _ (.tail _ (.tail _ (.tail _ (.tail _ (.tail _ (.tail _ (.tail _ (.tail _ (.tail _ (.tail _ (.tail _ (.tail _ (.tail _ (.tail _ (.tail _ (.tail _ (.tail _ (.tail _ (.tail _ (.tail _ (.tail _ (.tail _ (.tail _ (.tail _ (.tail _ (.head _)))))))))))))))))))))))))))))))))))).1, (GB.out.all _ (.tail _ (.tail _ (.tail _ (.tail _ (.tail _ (.tail _ (.tail _ (.tail _ (.tail _ (.tail _ (.tail _ (.tail _ (.tail _ (.tail _ (.tail _ (.tail _ (.tail _ (.tail _ (.tail _ (.tail _ (.tail _ (.tail _ (.tail _ (.tail _ (.tail _ (.tail _ (.tail _ (.tail _ (.tail _ (.tail _ (.tail _ (.tail _ (.tail _ (.head _))))))))))))))))))))))))))))))))))).1⟩
          | 2, _ => exact ⟨a6, c6, a8, c8, l6, l8, x1 4, x1 5, E2, (GB.out.all _ (.tail _ (.tail _ (.tail _ (.tail _ (.tail _ (.tail _ (.tail _ (.tail _ (.tail _ (.tail _ (.tail _ (.tail _ (.tail _ (.tail _ (.tail _ (.tail _ (.tail _ (.tail _ (.tail _ (.tail _ (.tail _ (.tail _ (.tail _ (.tail _ (.tail _ (.tail _ (.tail _ (.tail _ (.tail _ (.tail _ (.tail _ (.head _))))))))))))))))))))))))))))))))).1, (GB.out.all _ (.tail _ (.tail _ (.tail _ (.tail _ (.tail _ (.tail _ (.tail _ (.tail _ (.tail _ (.tail _ (.tail _ (.tail _ (.tail _ (.tail _ (.tail _ (.tail _ (.tail _ (.tail _ (.tail _ (.tail _ (.tail _ (.tail _ (.tail _ (.tail _ (.tail _ (.tail _ (.tail _ (.tail _ (.tail _ (.head _))))))))))))))))))))))))))))))).1⟩
          | 3, _ => exact ⟨a10, c10, a12, c12, l10, l12, x1 6, x1 7, E3, (GB.out.all _ (.tail _ (.tail _ (.tail _ (.tail _ (.tail _ (.tail _ (.tail _ (.tail _ (.tail _ (.tail _ (.tail _ (.tail _ (.tail _ (.tail _ (.tail _ (.tail _ (.tail _ (.tail _ (.tail _ (.tail _ (.tail _ (.tail _ (.tail _ (.tail _ (.tail _ (.tail _ (.tail _ (.head _))))))))))))))))))))))))))))).1, (GB.out.all _ (.tail _ (.tail _ (.tail _ (.tail _ (.tail _ (.tail _ (.tail _ (.tail _ (.tail _ (.tail _ (.tail _ (.tail _ (.tail _ (.tail _ (.tail _ (.tail _ (.tail _ (.tail _ (.tail _ (.tail _ (.tail _ (.tail _ (.tail _ (.tail _ (.tail _ (.head _))))))))))))))))))))))))))).1⟩
          | 4, _ => exact ⟨a14, c14, a17, c17, l14, l17, x1 8, x1 9, E4, (GB.out.all _ (.tail _ (.tail _ (.tail _ (.tail _ (.tail _ (.tail _ (.tail _ (.tail _ (.tail _ (.tail _ (.tail _ (.tail _ (.tail _ (.tail _ (.tail _ (.tail _ (.tail _ (.tail _ (.tail _ (.tail _ (.tail _ (.tail _ (.tail _ (.head _))))))))))))))))))))))))).1, (GB.out.all _ (.tail _ (.tail _ (.tail _ (.tail _ (.tail _ (.tail _ (.tail _ (.tail _ (.tail _ (.tail _ (.tail _ (.tail _ (.tail _ (.tail _ (.tail _ (.tail _ (.tail _ (.tail _ (.tail _ (.tail _ (.head _)))))))))))))))))))))).1⟩
          | 5, _ => exact ⟨a19, c19, a22, c22, l19, l22, x1 10, x1 11, E5, (GB.out.all _ (.tail _ (.tail _ (.tail _ (.tail _ (.tail _ (.tail _ (.tail _ (.tail _ (.tail _ (.tail _ (.tail _ (.tail _ (.tail _ (.tail _ (.tail _ (.tail _ (.tail _ (.tail _ (.head _)))))))))))))))))))).1, (GB.out.all _ (.tail _ (.tail _ (.tail _ (.tail _ (.tail _ (.tail _ (.tail _ (.tail _ (.tail _ (.tail _ (.tail _ (.tail _ (.tail _ (.tail _ (.tail _ (.head _))))))))))))))))).1⟩
          | 6, _ => exact ⟨a24, c24, a27, c27, l24, l27, x1 12, x1 13, E6, (GB.out.all _ (.tail _ (.tail _ (.tail _ (.tail _ (.tail _ (.tail _ (.tail _ (.tail _ (.tail _ (.tail _ (.tail _ (.tail _ (.tail _ (.head _))))))))))))))).1, (GB.out.all _ (.tail _ (.tail _ (.tail _ (.tail _ (.tail _ (.tail _ (.tail _ (.tail _ (.tail _ (.tail _ (.head _)))))))))))).1⟩
          | 7, _ => exact ⟨a29, c29, a32, c32, l29, l32, x1 14, x1 15, E7, (GB.out.all _ (.tail _ (.tail _ (.tail _ (.tail _ (.tail _ (.tail _ (.tail _ (.tail _ (.head _)))))))))).1, (GB.out.all _ (.tail _ (.tail _ (.tail _ (.tail _ (.tail _ (.head _))))))).1⟩
          | 8, _ => exact ⟨a35, c35, aa, ac, l35, la, x1 16, x1 17, E8, (GB.out.all _ (.tail _ (.tail _ (.head _)))).1, (GB.out.all _ (.tail _ (.tail _ (.tail _ (.tail _ (.tail _ (.tail _ (.tail _ (.tail _ (.tail _ (.tail _ (.tail _ (.tail _ (.tail _ (.tail _ (.tail _ (.tail _ (.tail _ (.tail _ (.tail _ (.tail _ (.tail _ (.tail _ (.tail _ (.tail _ (.tail _ (.tail _ (.tail _ (.tail _ (.tail _ (.tail _ (.tail _ (.tail _ (.tail _ (.tail _ (.tail _ (.tail _ (.tail _ (.head _))))))))))))))))))))))))))))))))))))))).1⟩
          | 9, _ => exact ⟨a37, c37, none, 0, l37, [], x1 18, x1 19, E9, (GB.out.all _ (.head _)).1, (.inl ⟨rfl, _, _, rfl⟩)⟩
        clear EQ x1 hrow hbB G37
        rw [hWB, hkb]
        clear hWB hkb
        go_wp2
        go_loopw [13, 184] (fun _ i wr => ∃ k : Nat, k ≤ 10 ∧ i = .int .i64 k ∧ Hid (Below WB.heap.size WB wr)) (fun _ i _ => 10 - (intOf i).toNat)
        case atStart => exact ⟨0, by omega, rfl, Lib.hid (Below.refl _ _)⟩
        case round =>
          rename World => wr
          obtain ⟨k, hk, rfl, HBr⟩ := hrel
          have GR := Lib.hid (GB.out.run HBr.out)
          obtain ⟨x1, x2, x3, x4, x5, x6⟩ := row_facts GR.out.kpr
          obtain ⟨y1, y2, y3, y4, y5, y6⟩ := row_facts GR.out.pbr
          have ck := x1 0
          have cp := y1 0
          simp only [List.getElem?_toArray, List.getElem?_cons_zero] at ck cp
          clear x1 y1 x2 y2
          by_cases hlt : k < 10
          · have hlt' : (k : Int) < 10 := by omega
            have hk0 : (0 : Int) ≤ (k : Int) := by omega
            obtain ⟨pa, pc, qa, qc, l, l', e1, e2, e3, e4, e5⟩ := HPAIR.out k hlt
            subst e3
            have hkbl : kb < WB.heap.size := World.block_lt_of_cell? WB _ e1
            have f1 := (HBr.out.cell (p := ⟨kb, k * 2, none⟩) hkbl).trans e1
            have f2 := (HBr.out.cell (p := ⟨kb, k * 2 + 1, none⟩) hkbl).trans e2
            have E4 := Lib.hid (e4.run HBr.out)
            have E5 := Lib.hid (e5.run HBr.out)
            have hkblr : kb < wr.heap.size := Nat.lt_of_lt_of_le hkbl HBr.out.size
            clear e1 e2 e4 e5
            go_wp2_with fail
            have hba : Below wr.heap.size wr (wr.alloc (.cells #[.slice pa l.length pc, .slice qa l.length qc] 48)) := (Below.refl _ _).alloc (Nat.le_refl _) _
            refine (gequal_same l _ _ _ (E4.out.run hba) (E5.out.run hba)).mono ?_
            rintro e w5 ⟨rfl, hb5⟩
            have HB5 := Lib.hid (below_run HBr.out (below_run hba hb5))
            clear hba hb5
            go_wp2
            go_roundw
            case rel => exact ⟨k + 1, by omega, by go_num, HB5⟩
            case measure => simp [intOf]; omega
          · obtain rfl : k = 10 := by omega
            have KA1 := Lib.hid (fun W (hW : Below w.heap.size w W) (hr : RngsAt W (.slice aa la.length ac) la) => gcount_any la _ W hr KA.out (by have := HLA.out; omega))
            have KB1 := Lib.hid (fun W (hW : Below w.heap.size w W) (hr : RngsAt W (.slice ba lb.length bc) lb) => gcount_any lb _ W hr KB.out (by have := HLB.out; omega))
            obtain ⟨na, hna⟩ : ∃ n, cntG la = n := ⟨_, rfl⟩
            obtain ⟨nb, hnb⟩ : ∃ n, cntG lb = n := ⟨_, rfl⟩
            have cba := chan_few KA.out
            have cbb := chan_few KB.out
            have cca := chan_count la KA.out
            have ccb := chan_count lb KB.out
            rw [hna] at cca
            rw [hnb] at ccb
            have na0 : 0 ≤ na ∧ na ≤ 1000 := by omega
            have nb0 : 0 ≤ nb ∧ nb ≤ 1000 := by omega
            rw [hna] at KA1
            rw [hnb] at KB1
            clear cba cbb cca ccb HPAIR GB
            go_wp2_with fail
            refine (KA1.out _ GR.out.base (GR.out.all _ (.tail _ (.tail _ (.tail _ (.tail _ (.tail _ (.tail _ (.tail _ (.tail _ (.tail _ (.tail _ (.tail _ (.tail _ (.tail _ (.tail _ (.tail _ (.tail _ (.tail _ (.tail _ (.tail _ (.tail _ (.tail _ (.tail _ (.tail _ (.tail _ (.tail _ (.tail _ (.tail _ (.tail _ (.tail _ (.tail _ (.tail _ (.tail _ (.tail _ (.tail _ (.tail _ (.tail _ (.tail _ (.head _))))))))))))))))))))))))))))))))))))))).1).mono ?_
            rintro e w5 ⟨rfl, hb5⟩
            have G5 := Lib.hid (GR.out.run hb5)
            clear hb5 GR ck cp x3 x4 x5 x6 y3 y4 y5 y6
            go_wp2_with fail
            refine (KB1.out _ G5.out.base (G5.out.all _ (.tail _ (.tail _ (.tail _ (.tail _ (.tail _ (.tail _ (.tail _ (.tail _ (.tail _ (.tail _ (.tail _ (.tail _ (.tail _ (.tail _ (.tail _ (.tail _ (.tail _ (.tail _ (.tail _ (.tail _ (.tail _ (.tail _ (.tail _ (.tail _ (.tail _ (.tail _ (.tail _ (.tail _ (.tail _ (.tail _ (.tail _ (.tail _ (.tail _ (.tail _ (.tail _ (.tail _ (.tail _ (.tail _ (.head _)))))))))))))))))))))))))))))))))))))))).1).mono ?_
            rintro e w6 ⟨rfl, hb6⟩
            have G6 := Lib.hid (G5.out.run hb6)
            clear hb6 G5
            go_wp2_with fail
            refine (clo_U kp pb w _ aa ac la ba bc lb _ G6.out (.tail _ (.tail _ (.tail _ (.tail _ (.tail _ (.tail _ (.tail _ (.tail _ (.tail _ (.tail _ (.tail _ (.tail _ (.tail _ (.tail _ (.tail _ (.tail _ (.tail _ (.tail _ (.tail _ (.tail _ (.tail _ (.tail _ (.tail _ (.tail _ (.tail _ (.tail _ (.tail _ (.tail _ (.tail _ (.tail _ (.tail _ (.tail _ (.tail _ (.tail _ (.tail _ (.tail _ (.tail _ (.head _)))))))))))))))))))))))))))))))))))))) (.tail _ (.tail _ (.tail _ (.tail _ (.tail _ (.tail _ (.tail _ (.tail _ (.tail _ (.tail _ (.tail _ (.tail _ (.tail _ (.tail _ (.tail _ (.tail _ (.tail _ (.tail _ (.tail _ (.tail _ (.tail _ (.tail _ (.tail _ (.tail _ (.tail _ (.tail _ (.tail _ (.tail _ (.tail _ (.tail _ (.tail _ (.tail _ (.tail _ (.tail _ (.tail _ (.tail _ (.tail _ (.tail _ (.head _)))))))))))))))))))))))))))))))))))))))).mono ?_
            rintro e w7 ⟨ua, uc, U, rfl, su, g7⟩
            have G7 := Lib.hid g7
            have hUc : Canon U := (g7.all _ (.head _)).2
            have CU := Lib.hid (gcount_any U _ w7 (g7.all _ (.head _)).1 hUc (by have := chan_few hUc; have := canon_len hUc; omega))
            obtain ⟨nu, hnu⟩ : ∃ n, cntG U = n := ⟨_, rfl⟩
            have cbu := chan_few hUc
            have ccu := chan_count U hUc
            rw [hnu] at ccu CU
            have nu0 : 0 ≤ nu ∧ nu ≤ 1000 := by omega
            have SU := Lib.hid su
            clear g7 G6 hUc cbu ccu su
            go_wp2_with fail
            refine CU.out.mono ?_
            rintro e w8 ⟨rfl, hb8⟩
            have G8 := Lib.hid (G7.out.run hb8)
            clear hb8 G7
            go_wp2_with fail
            refine (clo_K kp pb w _ aa ac la ba bc lb _ G8.out (.tail _ (.tail _ (.tail _ (.tail _ (.tail _ (.tail _ (.tail _ (.tail _ (.tail _ (.tail _ (.tail _ (.tail _ (.tail _ (.tail _ (.tail _ (.tail _ (.tail _ (.tail _ (.tail _ (.tail _ (.tail _ (.tail _ (.tail _ (.tail _ (.tail _ (.tail _ (.tail _ (.tail _ (.tail _ (.tail _ (.tail _ (.tail _ (.tail _ (.tail _ (.tail _ (.tail _ (.tail _ (.tail _ (.head _))))))))))))))))))))))))))))))))))))))) (.tail _ (.tail _ (.tail _ (.tail _ (.tail _ (.tail _ (.tail _ (.tail _ (.tail _ (.tail _ (.tail _ (.tail _ (.tail _ (.tail _ (.tail _ (.tail _ (.tail _ (.tail _ (.tail _ (.tail _ (.tail _ (.tail _ (.tail _ (.tail _ (.tail _ (.tail _ (.tail _ (.tail _ (.tail _ (.tail _ (.tail _ (.tail _ (.tail _ (.tail _ (.tail _ (.tail _ (.tail _ (.tail _ (.tail _ (.head _))))))))))))))))))))))))))))))))))))))))).mono ?_
            rintro e w9 ⟨ia, ic, Ii, rfl, si, g9⟩
            have G9 := Lib.hid g9
            have hIc : Canon Ii := (g9.all _ (.head _)).2
            have CI := Lib.hid (gcount_any Ii _ w9 (g9.all _ (.head _)).1 hIc (by have := chan_few hIc; have := canon_len hIc; omega))
            obtain ⟨ni, hni⟩ : ∃ n, cntG Ii = n := ⟨_, rfl⟩
            have cbi := chan_few hIc
            have cci := chan_count Ii hIc
            rw [hni] at cci CI
            have ni0 : 0 ≤ ni ∧ ni ≤ 1000 := by omega
            have hadd : na + nb = nu + ni := by rw [← hna, ← hnb, ← hnu, ← hni]; exact cnt_add KA.out KB.out SU.out si
            clear g9 G8 hIc cbi cci si
            go_wp2_with fail
            refine CI.out.mono ?_
            rintro e w10 ⟨rfl, hb10⟩
            have G10 := Lib.hid (G9.out.run hb10)
            obtain ⟨x1, x2, x3, x4, x5, x6⟩ := row_facts G10.out.kpr
            obtain ⟨y1, y2, y3, y4, y5, y6⟩ := row_facts G10.out.pbr
            have ck := x1 0
            have cp := y1 0
            simp only [List.getElem?_toArray, List.getElem?_cons_zero] at ck cp
            have q1 : IntKind.i64.wrap (na + nb) = na + nb := IntWalk.i64_in _ (by omega)
            have q2 : IntKind.i64.wrap (nu + ni) = na + nb := by rw [← hadd]; exact q1
            clear x1 y1 x2 y2 hb10 G9 hadd
            go_wp2_with fail
            refine (C3.out _ G10.out.base).mono ?_
            rintro e w11 ⟨rfl, hb11⟩
            have HBf := Lib.hid (below_run G10.out.base hb11)
            go_wp2
            go_ret
            exact ⟨rfl, HBf.out⟩
end Go.Proofs.YtndkpdiacabjgaaGreatDoor
