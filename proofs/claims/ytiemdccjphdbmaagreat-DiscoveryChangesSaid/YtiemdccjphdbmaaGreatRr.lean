/-
  The reference's Refresh.
-/
import Derived.Test.YtiemdccjphdbmaaGreatFe
import Derived.Test.YtiemdccjphdbmaaGreatRk
import Derived.Deep.RegionLaw
import Derived.Deep.AppendLies
namespace Go.Proofs.YtiemdccjphdbmaaGreat
open Go.RowKit

/-- Identities are appended to a row of the call's own, as a step of a region that draws its order. -/
theorem step_append_ids {w : World} {ops : Array Oper} {o : Oper} {a : Act} {K : Act → World → Prop} {Q : Exit → Act → World → Prop} {E : Prop} (hgd : o.guard = none) (s x : Operand)
    (ho : o.op = .call { callee := .builtin .append, args := #[s, x], argTypes := #[30, 30] }) (base : Nat) (v : Value) (n : Nat) (xs : List Value) (hs : a.eval s = v) (hown : w.ownsRow base 23 1 v n xs)
    (y : Value) (l : List Int) (hx : a.eval x = y) (hy : IdsAt w y l) (hz : NilOk y) (h63 : n + l.length ≤ 100000) (hbase : base ≤ w.heap.size)
    (h : ∀ v' w', w'.ownsRow base 23 1 v' (n + l.length) (xs ++ u64L l) → w.grownBy w' v.ownBlock → K (a.put o.dst v') w') :
    if Region.wanted o (yielded ops a.tmps) = true then Oper.wp Tryz.prog o a w K Q else E := by
  have hw : Region.wanted o (yielded ops a.tmps) = true := by simp [Region.wanted, hgd]
  rw [if_pos hw]
  obtain ⟨i0, hi, hz0, hz1, hz2⟩ := info_parts Tryz.info_u64
  rcases hy with ⟨h0, ad, cap, rfl⟩ | ⟨h0, h1, b, off, cap, rfl, hlt, hc⟩
  · have hl : l = [] := List.eq_nil_of_length_eq_zero h0
    subst hl
    cases ad with
    | none =>
      rw [hz _ _ rfl] at hx
      have hrun := run_append_owned_none (P := Tryz.prog) (w := w) base 30 o.type 23 i0 1 Tryz.underlying30 hi v n xs hown
      unfold Oper.wp
      simp [execOp, ho, resolve, invoke, builtin, hs, hx, hrun, Result.andThen]
      exact h v w (by simpa [u64L] using hown) ⟨rfl, rfl, rfl, Nat.le_refl _, fun _ _ _ => rfl⟩
    | some ad =>
      exact wp_append_own w s x _ ho base 23 i0 _ 1 8 Tryz.underlying30 hi hz0 hz1 hz2 rfl (by decide) v n xs hs hown ad 0 cap [] hx rfl (fun j u hj => by cases hj) (fun u hu => by cases hu) (by unfold maxLen; simp at h63; omega) (by simp at h63; omega) hbase (fun v' w' h1 h2 _ => h v' w' h1 h2)
  · exact wp_append_own w s x _ ho base 23 i0 _ 1 8 Tryz.underlying30 hi hz0 hz1 hz2 rfl (by decide) v n xs hs hown ⟨b, off, none⟩ l.length cap (u64L l) hx (by rw [u64L_length, Nat.mul_one]) (fun j u hj => by
      have hjn : j < l.length * 1 := by
        have := (List.getElem?_eq_some_iff.1 hj).1
        rw [u64L_length] at this
        omega
      rw [Addr.add_lit, hc j hjn, ← u64L_get]
      exact hj) (fun u hu => by obtain ⟨x, _, rfl⟩ := List.mem_map.1 hu; rfl) (by unfold maxLen; omega) (by omega) hbase (fun v' w' h1 h2 _ => h v' w' h1 h2)

theorem refr_len (src : Int) : ∀ (l : List Int) (s : SSt) (lost : List Int), (refrS src l s lost).1.known.length ≤ s.known.length + l.length
  | [], _, _ => Nat.le_refl _
  | y :: l, s, lost => by
    refine Nat.le_trans (refr_len src l (muteS src s y) _) ?_
    have : (muteS src s y).known.length ≤ s.known.length + 1 := by
      show (if orderB src s 2 y then s.known ++ [y] else s.known).length ≤ _
      split <;> simp
    rw [List.length_cons]
    omega

/-- What is so in each round. -/
def Sep (kv vl : Value) : Prop := ∀ g, vl.ownBlock = some g → kv.ownBlock ≠ some g
theorem sep_nil (v : Value) : Sep v (.slice none 0 0) := fun _ e => by cases e
def Loop14 (w W : World) (k1 : Nat) (src : Int) (P : SSt × List Int) (vl : Value) : Prop :=
  ∃ ka kn kc da dn dc fa fn fc, RowAt W k1 86 #[.slice ka kn kc, .slice da dn dc, .int .u64 src, .int .i64 P.1.seq, .slice fa fn fc, .int .i64 (IntKind.i64.wrap P.1.msgs)] ∧ RPar W (.slice ka kn kc) (.slice da dn dc) (.slice fa fn fc) P.1 ∧
    Sep (.slice ka kn kc) vl ∧ Sep (.slice fa fn fc) vl ∧ W.ownsRow w.heap.size 23 1 vl P.2.length (u64L P.2) ∧ RowAt W w.heap.size 36 #[.slice none 0 0, .int .i64 0] ∧ Below w.heap.size w W
theorem typed_lt {w : World} {v : Value} {T g : Nat} (h : Typed w v T) (hg : v.ownBlock = some g) : g < w.heap.size := by
  match v, hg with
  | .slice (some a) n c, hg =>
    obtain ⟨cur, x, e⟩ := h a n c rfl
    simp [Value.ownBlock] at hg
    subst hg
    exact lt_of_block e
theorem seq_grown {w w' : World} {S n : Nat} {v u : Value} {cs : Nat → Option Value} (h : SeqAt w S v n cs) (hg : w.grownBy w' u.ownBlock) (hs : Sep v u) : SeqAt w' S v n cs := by
  rcases h with h | ⟨h0, h1, b, off, cap, rfl, hlt, hc⟩
  · exact .inl h
  · refine .inr ⟨h0, h1, b, off, cap, rfl, Nat.lt_of_lt_of_le hlt hg.size, fun j hj => ?_⟩
    have hb := hg.block b hlt (fun e => hs b e.symm rfl)
    exact (World.cell?_of_block (a := ⟨b, off + j, none⟩) hb).trans (hc j hj)
theorem typed_grown {w w' : World} {T : Nat} {v u : Value} (h : Typed w v T) (hg : w.grownBy w' u.ownBlock) (hs : Sep v u) : Typed w' v T := by
  intro a n c e
  obtain ⟨cur, x, hh⟩ := h a n c e
  subst e
  exact ⟨cur, x, (hg.block a.block (lt_of_block hh) (fun e => hs a.block e.symm rfl)).trans hh⟩
theorem rpar_grown {w w' : World} {kv dv fv u : Value} {t : SSt} (h : RPar w kv dv fv t) (hg : w.grownBy w' u.ownBlock) (s1 : Sep kv u) (s2 : Sep dv u) (s3 : Sep fv u) : RPar w' kv dv fv t :=
  ⟨seq_grown h.known hg s1, typed_grown h.kty hg s1, seq_grown h.devs hg s2, seq_grown h.found hg s3, typed_grown h.fty hg s3, h.kz, h.fz⟩
theorem sep_grown {w : World} {kv vl : Value} {T g n c : Nat} (h : Sep kv vl) (ht : Typed w kv T) (hg : vl.ownBlock = some g ∨ g = w.heap.size) : Sep kv (.slice (some ⟨g, 0, none⟩) n c) := by
  intro g' e hk
  simp [Value.ownBlock] at e
  subst e
  rcases hg with hg | hg
  · exact h _ hg hk
  · have := typed_lt ht hk
    omega
theorem sep_new {w w' : World} {B T S n B' T' S' n' : Nat} {vk vl : Value} {xs xs' : List Value} (h : w'.ownsRow B T S vk n xs) (hl : w.ownsRow B' T' S' vl n' xs') (hb : w.heap.size ≤ B) : Sep vk vl := fun g hg e => by
  have h1 := (h.lt g e).1
  have h2 := (hl.lt g hg).2
  omega
/-- What stays within a round. -/
structure Keep14 (w W : World) (k1 : Nat) (cs : Array Value) (vl : Value) (L : List Int) : Prop where
  box : RowAt W k1 86 cs
  own : W.ownsRow w.heap.size 23 1 vl L.length (u64L L)
  fin : RowAt W w.heap.size 36 #[.slice none 0 0, .int .i64 0]
  bel : Below w.heap.size w W
theorem Keep14.run {w W W' : World} {k1 : Nat} {cs : Array Value} {vl : Value} {L : List Int} (h : Keep14 w W k1 cs vl L) (hb : Below W.heap.size W W') : Keep14 w W' k1 cs vl L :=
  ⟨h.box.run hb, own_run h.own hb, h.fin.run hb, below_run h.bel hb⟩
theorem Keep14.drew {w W : World} {k1 : Nat} {cs : Array Value} {vl : Value} {L : List Int} (h : Keep14 w W k1 cs vl L) : Keep14 w W.drew k1 cs vl L := h.run (Below.refl _ _).drew
theorem Keep14.alloc {w W : World} {k1 : Nat} {cs : Array Value} {vl : Value} {L : List Int} (h : Keep14 w W k1 cs vl L) (o : Obj) : Keep14 w (W.alloc o) k1 cs vl L := h.run ((Below.refl _ _).alloc (Nat.le_refl _) _)
theorem own_six {w w' : World} {B n : Nat} {v : Value} {xs : List Value} (h : w.ownsRow B 23 1 v n xs) (ho : Own6 w w') : w'.ownsRow B 23 1 v n xs := by
  refine ⟨h.1, ?_⟩
  rcases h.2 with hn | ⟨g, cap, cur, rfl, hbg, hg, rest⟩
  · exact .inl hn
  · exact .inr ⟨g, cap, cur, rfl, hbg, (ho.far g (lt_of_block hg) (mine_other hg (by decide))).trans hg, rest⟩
theorem own_slice {w : World} {B T S n : Nat} {v : Value} {xs : List Value} (h : w.ownsRow B T S v n xs) : ∃ a k c, v = .slice a k c := by
  rcases h.2 with ⟨rfl, _⟩ | ⟨g, cap, cur, rfl, _⟩
  · exact ⟨_, _, _, rfl⟩
  · exact ⟨_, _, _, rfl⟩
theorem ids_one {w : World} {b : Nat} {x : Int} (h : RowAt w b 23 #[.int .u64 x]) : IdsAt w (.slice (some ⟨b, 0, none⟩) 1 1) [x] := by
  refine .inr ⟨Nat.one_pos, by show 1 ≤ _; decide, b, 0, 1, rfl, lt_of_block h, fun j hj => ?_⟩
  rw [(row_facts h).1, Nat.zero_add]
  match j, hj with
  | 0, _ => rfl
/-- Six stores into another state's block. -/
theorem keep_six {w W : World} {k1 g : Nat} {cs : Array Value} {vl a b c d e f v0 v1 v2 v3 v4 v5 kv dv fv : Value} {L : List Int} {t : SSt} (h : Keep14 w W k1 cs vl L) (hg : RowAt W g 86 #[a, b, c, d, e, f]) (hp : RPar W kv dv fv t)
    (ha : a = .slice none 0 0) (hne : ¬ k1 = g) (hwg : ¬ w.heap.size = g) (hle : w.heap.size ≤ g) :
    Keep14 w ((((((W.setCell ⟨g, 0, none⟩ v0).setCell ⟨g, 1, none⟩ v1).setCell ⟨g, 2, none⟩ v2).setCell ⟨g, 3, none⟩ v3).setCell ⟨g, 4, none⟩ v4).setCell ⟨g, 5, none⟩ v5) k1 cs vl L ∧
    RowAt ((((((W.setCell ⟨g, 0, none⟩ v0).setCell ⟨g, 1, none⟩ v1).setCell ⟨g, 2, none⟩ v2).setCell ⟨g, 3, none⟩ v3).setCell ⟨g, 4, none⟩ v4).setCell ⟨g, 5, none⟩ v5) g 86 #[v0, v1, v2, v3, v4, v5] ∧
    RPar ((((((W.setCell ⟨g, 0, none⟩ v0).setCell ⟨g, 1, none⟩ v1).setCell ⟨g, 2, none⟩ v2).setCell ⟨g, 3, none⟩ v3).setCell ⟨g, 4, none⟩ v4).setCell ⟨g, 5, none⟩ v5) kv dv fv t := by
  subst ha
  have M : Mine W g := ⟨_, hg, rfl, _, _, _, rfl⟩
  have O := own6_set (i := 5) (own6_set (i := 4) (own6_set (i := 3) (own6_set (i := 2) (own6_set (i := 1) (own6_set (i := 0) (own6_refl W) M v0) M v1) M v2) M v3) M v4) M v5
  exact ⟨⟨RowAt.far6 h.box hne, own_six h.own O, RowAt.far6 h.fin hwg, below_six h.bel hle⟩, RowAt.six hg, hp.six O⟩
/-- Six stores into the state's own block. -/
theorem keep_into {w W : World} {k1 : Nat} {vl b c d e f v0 v1 v2 v3 v4 v5 kv dv fv : Value} {a : Option Addr} {n m : Nat} {L : List Int} {t : SSt} (h : Keep14 w W k1 #[.slice a n m, b, c, d, e, f] vl L) (hp : RPar W kv dv fv t)
    (hwg : ¬ w.heap.size = k1) (hle : w.heap.size ≤ k1) :
    Keep14 w ((((((W.setCell ⟨k1, 0, none⟩ v0).setCell ⟨k1, 1, none⟩ v1).setCell ⟨k1, 2, none⟩ v2).setCell ⟨k1, 3, none⟩ v3).setCell ⟨k1, 4, none⟩ v4).setCell ⟨k1, 5, none⟩ v5) k1 #[v0, v1, v2, v3, v4, v5] vl L ∧
    RPar ((((((W.setCell ⟨k1, 0, none⟩ v0).setCell ⟨k1, 1, none⟩ v1).setCell ⟨k1, 2, none⟩ v2).setCell ⟨k1, 3, none⟩ v3).setCell ⟨k1, 4, none⟩ v4).setCell ⟨k1, 5, none⟩ v5) kv dv fv t := by
  have M : Mine W k1 := ⟨_, h.box, rfl, _, _, _, rfl⟩
  have O := own6_set (i := 5) (own6_set (i := 4) (own6_set (i := 3) (own6_set (i := 2) (own6_set (i := 1) (own6_set (i := 0) (own6_refl W) M v0) M v1) M v2) M v3) M v4) M v5
  exact ⟨⟨RowAt.six h.box, own_six h.own O, RowAt.far6 h.fin hwg, below_six h.bel hle⟩, hp.six O⟩
/-- One store into it. -/
theorem keep_one {w W : World} {k1 : Nat} {vl b c d e f v dv fv kv : Value} {a : Option Addr} {n m : Nat} {L : List Int} {t : SSt} (h : Keep14 w W k1 #[.slice a n m, b, c, d, e, f] vl L) (hp : RPar W kv dv fv t) (_ : kv = v)
    (hle : w.heap.size ≤ k1) (hwg : ¬ w.heap.size = k1) :
    Keep14 w (W.setCell ⟨k1, 0, none⟩ v) k1 #[v, b, c, d, e, f] vl L ∧ RPar (W.setCell ⟨k1, 0, none⟩ v) kv dv fv t := by
  have M : Mine W k1 := ⟨_, h.box, rfl, _, _, _, rfl⟩
  have O := own6_set (i := 0) (own6_refl W) M v
  exact ⟨⟨RowAt.set h.box rfl, own_six h.own O, h.fin.far1 hwg, below_one h.bel hle⟩, hp.six O⟩

set_option maxHeartbeats 1000000 in
set_option maxRecDepth 100000 in
theorem rrefresh_any (v vk : Value) (l : List Dev) (k : List Int) (src : Int) (w : World) (hv : DevsAt w v l) (hk : IdsAt w vk k) (hlb : ∀ d ∈ l, d.lb.size ≤ 9223372036854775807) (hcap : CapOk vk) :
    Calls Tryz.prog 23 #[v, .int .u64 src, vk] w (RefrPost (refrE l src k) (refrU l src k) (refrL l src k) w) := by
  have hv' := hv.alloc (.cells #[.slice none 0 0, .int .i64 0] 36)
  have hb0 : Below w.heap.size w (w.alloc (.cells #[.slice none 0 0, .int .i64 0] 36)) := (Below.refl _ _).alloc (Nat.le_refl _) _
  have hz0 : RowAt (w.alloc (.cells #[.slice none 0 0, .int .i64 0] 36)) w.heap.size 36 #[.slice none 0 0, .int .i64 0] := RowAt.new _ _ _
  have hln : ∀ a m c, vk = .slice a m c → m = k.length := by
    rintro a m c rfl
    rcases hk with ⟨h0, _, _, e⟩ | ⟨_, _, _, _, _, e, _⟩ <;> cases e <;> omega
  obtain ⟨sa, sk, sc, rfl⟩ := slice_of hk
  obtain rfl := hln _ _ _ rfl
  have HCAP := Lib.hid hcap
  obtain ⟨n, hn⟩ : ∃ n, devsE l = n := ⟨_, rfl⟩
  have C := Lib.hid (devs_is n _ l _ hv' hlb hn)
  have HV := Lib.hid hv'
  have HN := Lib.hid hn
  have HB0 := Lib.hid hb0
  have HZ0 := Lib.hid hz0
  have HK := Lib.hid hk
  clear hv hv' hlb hn hb0 hz0 hk hln hcap
  go_enter Tryz.func23, Tryz.ntmps23
  go_wp2_with fail
  refine C.out.mono ?_
  rintro e w1 ⟨rfl, hb1⟩
  have hz1 := HZ0.out.run hb1
  have HV1 := Lib.hid (HV.out.run hb1)
  have hbw := below_run HB0.out hb1
  obtain ⟨x1, x2, x3, x4, x5, x6⟩ := row_facts hz1
  have HB1 := Lib.hid hbw
  have HZ1 := Lib.hid hz1
  clear hb1 hz1 hbw HV C
  by_cases z : n = 0
  · subst z
    obtain ⟨q, hq⟩ : ∃ q, isId src = q := ⟨_, rfl⟩
    have CS := Lib.hid (Is_is q src hq)
    cases q with
    | false =>
      have hB : beginE l src 0 = 2 := by rw [beginE, if_neg (not_not_intro HN.out), if_pos (.inl hq)]
      have HE := Lib.hid (show refrE l src k = 2 by rw [refrE, if_pos (by rw [hB]; decide), hB])
      have HZ := Lib.hid (refr_zero HE.out (by decide))
      clear hB hq
      go_wp2_with fail
      refine (CS.out _).mono ?_
      rintro e w2 ⟨rfl, rfl⟩
      go_wp2
      rw [HE.out, HZ.out.1, HZ.out.2]
      refine bodyPost_ret (v := .tuple #[.slice none 0 0, .agg #[.slice none 0 0, .int .i64 0], .slice none 0 0, .int .i64 2]) ?_ rfl (refr_bad (by have := HB1.out; (repeat' (first | (with_reducible exact Below.refl _ _) | (with_reducible assumption) | (with_reducible refine below_run ?_ (by assumption)) | (with_reducible refine below_of_upd ?_ (by assumption) ?_) | (with_reducible refine below_drewN ?_ _) | (with_reducible refine Below.drew ?_) | (with_reducible refine below_seven ?_ ?_) | (with_reducible refine below_six ?_ ?_) | (with_reducible refine below_one ?_ ?_) | (with_reducible refine Below.alloc ?_ ?_ _) | (with_reducible refine below_after ?_ ?_ (by assumption)) | (show _ ≤ _; first | omega | (simp; done) | (simp; omega))))))
      simp [results, Tryz.results23, go_sem, *]
    | true =>
      have hB : beginE l src 0 = 0 := by rw [beginE, if_neg (not_not_intro HN.out), if_neg (by rw [hq]; simp)]
      have hE : refrE l src k = knownE k := by rw [refrE, if_neg (not_not_intro hB)]
      have HOK := Lib.hid (start_ok hB)
      obtain ⟨c, hc⟩ : ∃ c, knownE k = c := ⟨_, rfl⟩
      have CK := Lib.hid (fun W h => rknown_any (.slice sa k.length sc) k W h HCAP.out)
      rw [hc] at CK
      have HE := Lib.hid (hE.trans hc)
      have HC := Lib.hid hc
      clear hB hq hE hc
      go_wp2_with fail
      refine (CS.out _).mono ?_
      rintro e w2 ⟨rfl, rfl⟩
      go_wp2_with fail
      refine (CK.out _ (HK.out.run HB1.out)).mono ?_
      rintro e w2 ⟨rfl, hb2⟩
      have hz2 := HZ1.out.run hb2
      obtain ⟨y1, y2, y3, y4, y5, y6⟩ := row_facts hz2
      have HB2 := Lib.hid (below_run HB1.out hb2)
      have HV2 := Lib.hid (HV1.out.run hb2)
      have HZ2 := Lib.hid hz2
      clear x1 x2 x3 x4 x5 x6 hz2 hb2 HB1 HZ1 HV1 CS CK
      by_cases hc0 : c = 0
      · subst hc0
        obtain ⟨h64n, hkn0⟩ := known_few HC.out
        have HU := Lib.hid (show refrU l src k = searchS src 48 1 281474976710654 (refrP l src k).1 by rw [refrU, if_pos HE.out])
        have HL := Lib.hid (show refrL l src k = (refrP l src k).2 by rw [refrL, if_pos HE.out])
        have CU := Lib.hid (runmuted_any v l src w2 HV2.out HOK.out)
        have HOK1 : Hid (Sok src (unmS src l)) := order_ok HOK.out (.inr rfl)
        have HKR := Lib.hid (kn_right k [] hkn0)
        obtain ⟨U, hU⟩ : ∃ U, unmS src l = U := ⟨_, rfl⟩
        have HUN : Hid (refrP l src k = refrS src k U []) := by show refrP l src k = _; rw [refrP, hU]
        have HUK : Hid (U.known = [] ∧ U.found = []) := by rw [← hU]; exact ⟨rfl, rfl⟩
        rw [hU] at HOK1 CU
        clear hU hkn0 HC HV2
        go_wp2_with fail
        refine CU.out.mono ?_
        rintro e w3 ⟨y, rfl, hy, hb3⟩
        obtain ⟨ka, kn, kc, da, dn, dc, fa, fn, fc, rfl, hpar⟩ := hy
        obtain ⟨Q, hQ⟩ : ∃ Q, U.seq = Q := ⟨_, rfl⟩
        obtain ⟨N, hN⟩ : ∃ N, IntKind.i64.wrap (U.msgs : Int) = N := ⟨_, rfl⟩
        rw [stA, hQ, hN]
        have hz3 := HZ2.out.run hb3
        have hb3' := below_run HB2.out hb3
        have hlk := lt_of_block hz3
        go_upto_region 11 with fail
        have hbx : Below w3.heap.size w3 (w3.alloc (.cells #[.slice ka kn kc, .slice da dn dc, .int .u64 src, .int .i64 Q, .slice fa fn fc, .int .i64 N] 86)) := (Below.refl _ _).alloc (Nat.le_refl _) _
        have hrb : RBox (w3.alloc (.cells #[.slice ka kn kc, .slice da dn dc, .int .u64 src, .int .i64 Q, .slice fa fn fc, .int .i64 N] 86)) w3.heap.size src U := by
          refine ⟨ka, kn, kc, da, dn, dc, fa, fn, fc, ?_, hpar.run hbx⟩
          rw [hQ, hN]
          exact RowAt.new _ _ _
        have hz4 := hz3.run hbx
        have hb4 := below_run hb3' hbx
        have hle4 := hb3'.size
        have hne : ¬ w.heap.size = w3.heap.size := by omega
        generalize (w3.alloc (.cells #[.slice ka kn kc, .slice da dn dc, .int .u64 src, .int .i64 Q, .slice fa fn fc, .int .i64 N] 86)) = w4 at hrb hz4 hb4 ⊢
        generalize w3.heap.size = k1 at hrb hne hle4 ⊢
        have HRB := Lib.hid hrb
        have HZ4 := Lib.hid hz4
        have HB4 := Lib.hid hb4
        clear hQ hN hpar hz3 hb3 hb3' hbx hrb hz4 hb4 y1 y2 y3 y4 y5 y6 HZ2 HB2 CU hlk
        go_wp2_with fail
        go_loopw [13, 14, 15, 16] (fun vl i _ _ wr => ∃ j : Nat, j ≤ k.length ∧ i = .int .i64 j ∧ Loop14 w wr k1 src (refrS src (k.take j) U []) vl) (fun _ i _ _ _ => k.length - (intOf i).toNat)
        case atStart =>
          obtain ⟨xa, xn, xc, ya, yn, yc, za, zn, zc, h1, h2⟩ := HRB.out
          exact ⟨0, Nat.zero_le _, rfl, xa, xn, xc, ya, yn, yc, za, zn, zc, h1, h2, sep_nil _, sep_nil _, World.ownsRow_nil _ _ _ _, HZ4.out, HB4.out⟩
        case round =>
          obtain ⟨j, hj, rfl, hL⟩ := hrel
          by_cases hlt2 : j < k.length
          · have hlt3 : (j : Int) < (k.length : Int) := by omega
            have hj0 : (0 : Int) ≤ (j : Int) := by omega
            rcases HK.out with ⟨h0, _⟩ | ⟨h0, h1, b, off, cap, hvv, hlt, hcel⟩
            · omega
            · cases hvv
              obtain ⟨x, hx, e0⟩ := id_cell hcel j hlt2
              obtain ⟨a1, a2, a3, a4⟩ := refr_all (src := src) (k.take j) U [] HOK1.out
              have a5 := refr_len src (k.take j) U []
              have hsn := refr_snoc src x (k.take j) U []
              rw [← take_succ_some hx] at hsn
              obtain ⟨P, hP⟩ : ∃ P, refrS src (k.take j) U [] = P := ⟨_, rfl⟩
              rw [hP] at hL a1 a2 a3 a4 a5 hsn
              have hxi : isId x = true := (HKR.out.1 x (List.mem_of_getElem? hx)).1
              have hkl : P.1.known.length ≤ 64 := by have := HUK.out.1; rw [this] at a5; simp at a5; omega
              have hll : P.2.length ≤ 64 := by simp at a4; omega
              obtain ⟨pa, pn, pc, qa, qn, qc, ra, rn, rc, hr1, hpar, hsk, hsf, hown, hfin, hbel⟩ := hL
              have CM := Lib.hid (fun W hp => rmutedK_any pa qa ra pn pc qn qc rn rc src P.1 x W hp a1.devs (ord_chk a1.id a1.q0 a1.q1 (.inl rfl) (.inl hxi)) a1.q0 a1.q1)
              obtain ⟨q, hq⟩ : ∃ q, orderB src P.1 2 x = q := ⟨_, rfl⟩
              obtain ⟨T1, hT1⟩ : ∃ T1, orderS src P.1 2 x = T1 := ⟨_, rfl⟩
              obtain ⟨Q1, hQ1⟩ : ∃ Q, P.1.seq = Q := ⟨_, rfl⟩
              obtain ⟨N1, hN1⟩ : ∃ N, IntKind.i64.wrap (P.1.msgs : Int) = N := ⟨_, rfl⟩
              have hms : muteS src P.1 x = { T1 with known := if q then P.1.known ++ [x] else P.1.known } := by rw [muteS, hT1, hq]
              have hT1k : T1.known = P.1.known := by rw [← hT1]; rfl
              rw [hms] at hsn
              rw [hq, hT1, hQ1, hN1] at CM
              rw [hq] at hsn
              rw [hQ1, hN1] at hr1
              have HSK := Lib.hid hsk
              have HSF := Lib.hid hsf
              obtain ⟨Q2, hQ2⟩ : ∃ Q, T1.seq = Q := ⟨_, rfl⟩
              obtain ⟨N2, hN2⟩ : ∃ N, IntKind.i64.wrap (T1.msgs : Int) = N := ⟨_, rfl⟩
              have HQN2 := Lib.hid (And.intro hQ2 hN2)
              have HSN := Lib.hid hsn
              have HMS := Lib.hid hms
              have HTK := Lib.hid hT1k
              have KP := Lib.hid (Keep14.mk hr1 hown hfin hbel)
              have HPAR := Lib.hid hpar
              have hle1 := hbel.size
              have hbl : b < wr.heap.size := by omega
              have eq0 := (hbel.cell (p := ⟨b, off + j, none⟩) hlt).trans e0
              have hlkk := lt_of_block hr1
              clear hx a1 a2 a3 a4 a5 hsn hP hxi hr1 hown hfin hbel hq hT1 hQ1 hN1 hms hT1k hpar hcel hsk hsf hQ2 hN2
              go_upto_region 14 with fail
              go_cut [15, 16] (fun s15 s16 wx => ∃ (g : Nat) (ja : Option Addr) (jm jc : Nat), s15 = .pointer (some ⟨g, 0, none⟩) ∧ s16 = .bool q ∧ ¬ k1 = g ∧ RowAt wx g 86 #[.slice pa pn pc, .slice ja jm jc, .int .u64 src, .int .i64 Q2, .slice ra rn rc, .int .i64 N2] ∧ RPar wx (.slice pa pn pc) (.slice ja jm jc) (.slice ra rn rc) T1 ∧ Sep (.slice ja jm jc) u13 ∧ Keep14 w wx k1 #[.slice pa pn pc, .slice qa qn qc, .int .u64 src, .int .i64 Q1, .slice ra rn rc, .int .i64 N1] u13 P.2)
              case first =>
                refine wp_region_noPanic ?_
                refine wp_region_held_drew (S := (fun w' => RowAt w' k1 86 #[.slice pa pn pc, .slice qa qn qc, .int .u64 src, .int .i64 Q1, .slice ra rn rc, .int .i64 N1] ∧ w'.cell? ⟨b, off + j, none⟩ = some (.int .u64 x))) (by kernel_rfl) ?_ (fun hHeld => ?_)
                · exact ⟨KP.out.box.drew, (KP.out.bel.cell (p := ⟨b, off + j, none⟩) hlt).trans e0⟩
                refine wpAnyH_take (i := 0) (oi := _) (v := ?_) rfl (by kernel_rfl) (by kernel_rfl) (by kernel_rfl) (fun _ _ _ h => h) (Or.inl ⟨by rfl, ?_⟩) (by assumption) ?_
                rotate_left
                · intro w' hSw
                  (try dsimp only at hSw)
                  obtain ⟨r1, r2⟩ := hSw
                  obtain ⟨p1, p2, p3, p4, p5, p6⟩ := row_facts r1
                  go_simp
                  (try with_reducible rfl)
                (try simp only [Act.put, List.setIfInBounds_toArray, List.set_cons_zero, List.set_cons_succ, List.getElem_toArray, List.getElem_cons_zero])
                refine wpAnyH_take (i := 1) (oi := _) (v := ?_) rfl (by kernel_rfl) (by kernel_rfl) (by kernel_rfl) (fun _ _ _ h => h) (Or.inl ⟨by rfl, ?_⟩) (by assumption) ?_
                rotate_left
                · intro w' hSw
                  (try dsimp only at hSw)
                  obtain ⟨r1, r2⟩ := hSw
                  obtain ⟨p1, p2, p3, p4, p5, p6⟩ := row_facts r1
                  go_simp
                  (try with_reducible rfl)
                (try simp only [Act.put, List.setIfInBounds_toArray, List.set_cons_zero, List.set_cons_succ, List.getElem_toArray, List.getElem_cons_succ, List.getElem_cons_zero])
                refine wpAnyH_take (i := 2) (oi := _) (v := ?_) rfl (by kernel_rfl) (by kernel_rfl) (by kernel_rfl) (fun _ _ _ h => h) (Or.inl ⟨by rfl, ?_⟩) (by assumption) ?_
                rotate_left
                · intro w' hSw
                  (try dsimp only at hSw)
                  obtain ⟨r1, r2⟩ := hSw
                  obtain ⟨p1, p2, p3, p4, p5, p6⟩ := row_facts r1
                  go_simp
                  (try with_reducible rfl)
                (try simp only [Act.put, List.setIfInBounds_toArray, List.set_cons_zero, List.set_cons_succ, List.getElem_toArray, List.getElem_cons_succ, List.getElem_cons_zero])
                refine wpAnyH_take (i := 3) (oi := _) (v := ?_) rfl (by kernel_rfl) (by kernel_rfl) (by kernel_rfl) (fun _ _ _ h => h) (Or.inl ⟨by rfl, ?_⟩) (by assumption) ?_
                rotate_left
                · intro w' hSw
                  (try dsimp only at hSw)
                  obtain ⟨r1, r2⟩ := hSw
                  obtain ⟨p1, p2, p3, p4, p5, p6⟩ := row_facts r1
                  go_simp
                  (try with_reducible rfl)
                (try simp only [Act.put, List.setIfInBounds_toArray, List.set_cons_zero, List.set_cons_succ, List.getElem_toArray, List.getElem_cons_succ, List.getElem_cons_zero])
                refine wpAnyH_take (i := 4) (oi := _) (v := ?_) rfl (by kernel_rfl) (by kernel_rfl) (by kernel_rfl) (fun _ _ _ h => h) (Or.inl ⟨by rfl, ?_⟩) (by assumption) ?_
                rotate_left
                · intro w' hSw
                  (try dsimp only at hSw)
                  obtain ⟨r1, r2⟩ := hSw
                  obtain ⟨p1, p2, p3, p4, p5, p6⟩ := row_facts r1
                  go_simp
                  (try with_reducible rfl)
                (try simp only [Act.put, List.setIfInBounds_toArray, List.set_cons_zero, List.set_cons_succ, List.getElem_toArray, List.getElem_cons_succ, List.getElem_cons_zero])
                refine wpAnyH_ready (rs := [5, 9]) (by kernel_rfl) (by simp) ?_
                refine AllReadyH.cons (o := _) rfl (fun K hK => ?_) (AllReadyH.cons (o := _) rfl (fun K hK => ?_) (AllReadyH.nil))
                · go_simp
                  (go_at_call 51; with_reducible refine (CM.out _ (HPAR.out.run (Below.refl _ _).drew)).mono ?_; rintro e w2 ⟨y, rfl, hy, hb2⟩)
                  obtain ⟨ja, jm, jc, rfl, hp2, hfr⟩ := hy
                  rw [stA, HQN2.out.1, HQN2.out.2]
                  have hsep : Sep (.slice ja jm jc) u13 := fun g hg e => (by have h1 := (KP.out.own.lt g hg).2; have h2 := Nat.le_trans (Nat.le_refl wr.heap.size) (hfr g e); omega)
                  have kp2 := KP.out.drew.run hb2
                  refine hK.out _ _ ?_ (fun hHeld => ?_)
                  · exact ⟨kp2.box, (kp2.bel.cell (p := ⟨b, off + j, none⟩) hlt).trans e0⟩
                  (try simp only [Act.put, List.setIfInBounds_toArray, List.set_cons_zero, List.set_cons_succ, List.getElem_toArray, List.getElem_cons_succ, List.getElem_cons_zero])
                  refine wpAnyH_take (i := 6) (oi := _) (v := ?_) rfl (by kernel_rfl) (by kernel_rfl) (by kernel_rfl) (fun _ _ _ h => h) (Or.inl ⟨by rfl, ?_⟩) (by assumption) ?_
                  rotate_left
                  · intro w' hSw
                    (try dsimp only at hSw)
                    go_simp
                    (try with_reducible rfl)
                  (try simp only [Act.put, List.setIfInBounds_toArray, List.set_cons_zero, List.set_cons_succ, List.getElem_toArray, List.getElem_cons_succ, List.getElem_cons_zero])
                  refine wpAnyH_take (i := 7) (oi := _) (v := ?_) rfl (by kernel_rfl) (by kernel_rfl) (by kernel_rfl) (fun _ _ _ h => h) (Or.inl ⟨by rfl, ?_⟩) (by assumption) ?_
                  rotate_left
                  · intro w' hSw
                    (try dsimp only at hSw)
                    go_simp
                    (try with_reducible rfl)
                  (try simp only [Act.put, List.setIfInBounds_toArray, List.set_cons_zero, List.set_cons_succ, List.getElem_toArray, List.getElem_cons_succ, List.getElem_cons_zero])
                  refine wpAnyH_take (i := 8) (oi := _) (v := ?_) rfl (by kernel_rfl) (by kernel_rfl) (by kernel_rfl) (fun _ _ _ h => h) (Or.inl ⟨by rfl, ?_⟩) (by assumption) ?_
                  rotate_left
                  · intro w' hSw
                    (try dsimp only at hSw)
                    go_simp
                    (try with_reducible rfl)
                  (try simp only [Act.put, List.setIfInBounds_toArray, List.set_cons_zero, List.set_cons_succ, List.getElem_toArray, List.getElem_cons_succ, List.getElem_cons_zero])
                  refine wpAnyH_ready (rs := [9]) (by kernel_rfl) (by simp) ?_
                  refine AllReadyH.cons (o := _) rfl (fun K hK => ?_) (AllReadyH.nil)
                  go_simp
                  refine hK.out _ _ ?_ (fun hHeld => ?_)
                  · exact ⟨kp2.box.alloc _, ((kp2.bel.alloc kp2.bel.size _).cell (p := ⟨b, off + j, none⟩) hlt).trans e0⟩
                  (try simp only [Act.put, List.setIfInBounds_toArray, List.set_cons_zero, List.set_cons_succ, List.getElem_toArray, List.getElem_cons_succ, List.getElem_cons_zero])
                  have hk1g : ¬ k1 = w2.heap.size := (by have := lt_of_block kp2.box; omega)
                  have hwg : ¬ w.heap.size = w2.heap.size := (by have := lt_of_block kp2.fin; omega)
                  have hlg : w.heap.size ≤ w2.heap.size := kp2.bel.size
                  have kp4 := kp2.alloc (.cells #[.slice pa pn pc, .slice ja jm jc, .int .u64 src, .int .i64 Q2, .slice ra rn rc, .int .i64 N2] 86)
                  have hg4 := RowAt.new w2 86 #[.slice pa pn pc, .slice ja jm jc, .int .u64 src, .int .i64 Q2, .slice ra rn rc, .int .i64 N2]
                  have hp4 := hp2.run ((Below.refl _ _).alloc (Nat.le_refl _) (.cells #[.slice pa pn pc, .slice ja jm jc, .int .u64 src, .int .i64 Q2, .slice ra rn rc, .int .i64 N2] 86))
                  refine wpAnyH_ready (rs := [10]) (by kernel_rfl) (by simp) ?_
                  refine AllReadyH.cons (o := _) rfl (fun K hK => ?_) (AllReadyH.nil)
                  go_simp
                  refine hK.out _ _ ?_ (fun hHeld => ?_)
                  · with_reducible exact ⟨kp4.box, (kp4.bel.cell (p := ⟨b, off + j, none⟩) hlt).trans e0⟩
                  (try simp only [Act.put, List.setIfInBounds_toArray, List.set_cons_zero, List.set_cons_succ, List.getElem_toArray, List.getElem_cons_succ, List.getElem_cons_zero])
                  refine wpAnyH_take (i := 11) (oi := _) (v := ?_) rfl (by kernel_rfl) (by kernel_rfl) (by kernel_rfl) (fun _ _ _ h => h) (Or.inl ⟨by rfl, ?_⟩) (by assumption) ?_
                  rotate_left
                  · intro w' hSw
                    (try dsimp only at hSw)
                    go_simp
                    (try with_reducible rfl)
                  (try simp only [Act.put, List.setIfInBounds_toArray, List.set_cons_zero, List.set_cons_succ, List.getElem_toArray, List.getElem_cons_succ, List.getElem_cons_zero])
                  refine wpAnyH_done (by kernel_rfl) ?_ _
                  refine NoPanic.normal ?_
                  (try go_simp)
                  go_wp2_with fail
                  go_meet
                  refine ⟨_, ja, jm, jc, rfl, rfl, hk1g, ?_, ?_, hsep, ?_⟩
                  · with_reducible exact hg4
                  · with_reducible exact hp4
                  · with_reducible exact kp4
                · go_simp
                  have kp1 : Keep14 w ((wr.alloc (.cells #[.slice none 0 0, .slice none 0 0, .int .u64 0, .int .i64 0, .slice none 0 0, .int .i64 0] 86)).drew) k1 #[.slice pa pn pc, .slice qa qn qc, .int .u64 src, .int .i64 Q1, .slice ra rn rc, .int .i64 N1] u13 P.2 := (KP.out.alloc _).drew
                  have hbd1 : Below wr.heap.size wr ((wr.alloc (.cells #[.slice none 0 0, .slice none 0 0, .int .u64 0, .int .i64 0, .slice none 0 0, .int .i64 0] 86)).drew) := ((Below.refl _ _).alloc (Nat.le_refl _) _).drew
                  have hg1 : RowAt ((wr.alloc (.cells #[.slice none 0 0, .slice none 0 0, .int .u64 0, .int .i64 0, .slice none 0 0, .int .i64 0] 86)).drew) wr.heap.size 86 #[.slice none 0 0, .slice none 0 0, .int .u64 0, .int .i64 0, .slice none 0 0, .int .i64 0] := (RowAt.new wr 86 #[.slice none 0 0, .slice none 0 0, .int .u64 0, .int .i64 0, .slice none 0 0, .int .i64 0]).drew
                  generalize ((wr.alloc (.cells #[.slice none 0 0, .slice none 0 0, .int .u64 0, .int .i64 0, .slice none 0 0, .int .i64 0] 86)).drew) = w1 at kp1 hbd1 hg1 ⊢
                  refine hK.out _ _ ?_ (fun hHeld => ?_)
                  · exact ⟨kp1.box, (kp1.bel.cell (p := ⟨b, off + j, none⟩) hlt).trans e0⟩
                  (try simp only [Act.put, List.setIfInBounds_toArray, List.set_cons_zero, List.set_cons_succ, List.getElem_toArray, List.getElem_cons_succ, List.getElem_cons_zero])
                  refine wpAnyH_ready (rs := [5]) (by kernel_rfl) (by simp) ?_
                  refine AllReadyH.cons (o := _) rfl (fun K hK => ?_) (AllReadyH.nil)
                  go_simp
                  (go_at_call 51; with_reducible refine (CM.out _ (HPAR.out.run hbd1)).mono ?_; rintro e w2 ⟨y, rfl, hy, hb2⟩)
                  obtain ⟨ja, jm, jc, rfl, hp2, hfr⟩ := hy
                  rw [stA, HQN2.out.1, HQN2.out.2]
                  have hsep : Sep (.slice ja jm jc) u13 := fun g hg e => (by have h1 := (KP.out.own.lt g hg).2; have h2 := Nat.le_trans hbd1.size (hfr g e); omega)
                  have kp2 := kp1.run hb2
                  refine hK.out _ _ ?_ (fun hHeld => ?_)
                  · exact ⟨kp2.box, (kp2.bel.cell (p := ⟨b, off + j, none⟩) hlt).trans e0⟩
                  (try simp only [Act.put, List.setIfInBounds_toArray, List.set_cons_zero, List.set_cons_succ, List.getElem_toArray, List.getElem_cons_succ, List.getElem_cons_zero])
                  refine wpAnyH_take (i := 6) (oi := _) (v := ?_) rfl (by kernel_rfl) (by kernel_rfl) (by kernel_rfl) (fun _ _ _ h => h) (Or.inl ⟨by rfl, ?_⟩) (by assumption) ?_
                  rotate_left
                  · intro w' hSw
                    (try dsimp only at hSw)
                    go_simp
                    (try with_reducible rfl)
                  (try simp only [Act.put, List.setIfInBounds_toArray, List.set_cons_zero, List.set_cons_succ, List.getElem_toArray, List.getElem_cons_succ, List.getElem_cons_zero])
                  refine wpAnyH_take (i := 7) (oi := _) (v := ?_) rfl (by kernel_rfl) (by kernel_rfl) (by kernel_rfl) (fun _ _ _ h => h) (Or.inl ⟨by rfl, ?_⟩) (by assumption) ?_
                  rotate_left
                  · intro w' hSw
                    (try dsimp only at hSw)
                    go_simp
                    (try with_reducible rfl)
                  (try simp only [Act.put, List.setIfInBounds_toArray, List.set_cons_zero, List.set_cons_succ, List.getElem_toArray, List.getElem_cons_succ, List.getElem_cons_zero])
                  refine wpAnyH_take (i := 8) (oi := _) (v := ?_) rfl (by kernel_rfl) (by kernel_rfl) (by kernel_rfl) (fun _ _ _ h => h) (Or.inl ⟨by rfl, ?_⟩) (by assumption) ?_
                  rotate_left
                  · intro w' hSw
                    (try dsimp only at hSw)
                    go_simp
                    (try with_reducible rfl)
                  (try simp only [Act.put, List.setIfInBounds_toArray, List.set_cons_zero, List.set_cons_succ, List.getElem_toArray, List.getElem_cons_succ, List.getElem_cons_zero])
                  have kp := kp2
                  obtain ⟨y1, y2, y3, y4, y5, y6⟩ := row_facts (RowAt.run hg1 hb2)
                  have hg := RowAt.run hg1 hb2
                  have hp := hp2
                  have hk1g : ¬ k1 = wr.heap.size := (by have := lt_of_block KP.out.box; omega)
                  have hwg : ¬ w.heap.size = wr.heap.size := (by have := lt_of_block KP.out.fin; omega)
                  have hlg : w.heap.size ≤ wr.heap.size := KP.out.bel.size
                  obtain ⟨kp4, hg4, hp4⟩ := keep_six (v0 := .slice pa pn pc) (v1 := .slice ja jm jc) (v2 := .int .u64 src) (v3 := .int .i64 Q2) (v4 := .slice ra rn rc) (v5 := .int .i64 N2) kp hg hp rfl hk1g hwg hlg
                  refine wpAnyH_ready (rs := [10]) (by kernel_rfl) (by simp) ?_
                  refine AllReadyH.cons (o := _) rfl (fun K hK => ?_) (AllReadyH.nil)
                  go_simp
                  refine hK.out _ _ ?_ (fun hHeld => ?_)
                  · with_reducible exact ⟨kp4.box, (kp4.bel.cell (p := ⟨b, off + j, none⟩) hlt).trans e0⟩
                  (try simp only [Act.put, List.setIfInBounds_toArray, List.set_cons_zero, List.set_cons_succ, List.getElem_toArray, List.getElem_cons_succ, List.getElem_cons_zero])
                  refine wpAnyH_take (i := 11) (oi := _) (v := ?_) rfl (by kernel_rfl) (by kernel_rfl) (by kernel_rfl) (fun _ _ _ h => h) (Or.inl ⟨by rfl, ?_⟩) (by assumption) ?_
                  rotate_left
                  · intro w' hSw
                    (try dsimp only at hSw)
                    go_simp
                    (try with_reducible rfl)
                  (try simp only [Act.put, List.setIfInBounds_toArray, List.set_cons_zero, List.set_cons_succ, List.getElem_toArray, List.getElem_cons_succ, List.getElem_cons_zero])
                  refine wpAnyH_done (by kernel_rfl) ?_ _
                  refine NoPanic.normal ?_
                  (try go_simp)
                  go_wp2_with fail
                  go_meet
                  refine ⟨_, ja, jm, jc, rfl, rfl, hk1g, ?_, ?_, hsep, ?_⟩
                  · with_reducible exact hg4
                  · with_reducible exact hp4
                  · with_reducible exact kp4
              case rest =>
                obtain ⟨g, ja, jm, jc, rfl, rfl, hk1g, hg1, hp1, hsj, kp1⟩ := hcut
                rename World => wx
                have HSJ := Lib.hid hsj
                have hwk1 : ¬ w.heap.size = k1 := hne
                have hlk1 : w.heap.size ≤ k1 := hle4
                obtain ⟨p1, p2, p3, p4, p5, p6⟩ := row_facts hg1
                obtain ⟨q1, q2, q3, q4, q5, q6⟩ := row_facts kp1.box
                have K5 := Lib.hid (keep_into (v0 := .slice pa pn pc) (v1 := .slice ja jm jc) (v2 := .int .u64 src) (v3 := .int .i64 Q2) (v4 := .slice ra rn rc) (v5 := .int .i64 N2) kp1 hp1 hwk1 hlk1)
                clear hg1 hp1 kp1 hsj
                go_upto_region 16 with fail
                generalize ((((((wx.setCell ⟨k1, 0, none⟩ (.slice pa pn pc)).setCell ⟨k1, 1, none⟩ (.slice ja jm jc)).setCell ⟨k1, 2, none⟩ (.int .u64 src)).setCell ⟨k1, 3, none⟩ (.int .i64 Q2)).setCell ⟨k1, 4, none⟩ (.slice ra rn rc)).setCell ⟨k1, 5, none⟩ (.int .i64 N2)) = w5 at K5 ⊢
                have KP5 := Lib.hid K5.out.1
                have HP5 := Lib.hid K5.out.2
                clear p1 p2 p3 p4 p5 p6 q1 q2 q3 q4 q5 q6
                clear K5
                have c05 := cell_fact KP5.out.box 0
                have e05 := (KP5.out.bel.cell (p := ⟨b, off + j, none⟩) hlt).trans e0
                have hk15 := lt_of_block KP5.out.box
                have hbk5 : b < w5.heap.size := by have := KP5.out.bel.size; omega
                cases q with
                | true =>
                  have hms2 : muteS src P.1 x = { T1 with known := T1.known ++ [x] } := by rw [HMS.out, HTK.out]; rfl
                  have HMS2 := Lib.hid (HSN.out.trans (by rw [← HMS.out, hms2]; rfl : _ = ({ T1 with known := T1.known ++ [x] }, P.2)))
                  have hbd : Below w5.heap.size w5 w5.drew := (Below.refl _ _).drew
                  have hkl5 : T1.known.length ≤ 64 := by rw [HTK.out]; exact hkl
                  clear hms2
                  go_upto_region 17 with fail
                  refine wp_region_noPanic ?_
                  refine wp_region_held_drew (S := (fun w' => w'.cell? ⟨b, off + j, none⟩ = some (.int .u64 x))) (by kernel_rfl) ?_ (fun hHeld => ?_)
                  · exact e05
                  refine wpAnyH_take (i := 1) (oi := _) (v := ?_) rfl (by kernel_rfl) (by kernel_rfl) (by kernel_rfl) (fun _ _ _ h => h) (Or.inl ⟨by rfl, ?_⟩) (by assumption) ?_
                  rotate_left
                  · intro w' hSw
                    (try dsimp only at hSw)
                    go_simp
                    (try with_reducible rfl)
                  (try simp only [Act.put, List.setIfInBounds_toArray, List.set_cons_zero, List.set_cons_succ, List.getElem_toArray, List.getElem_cons_succ, List.getElem_cons_zero])
                  refine wpAnyH_take (i := 4) (oi := _) (v := ?_) rfl (by kernel_rfl) (by kernel_rfl) (by kernel_rfl) (fun _ _ _ h => h) (Or.inl ⟨by rfl, ?_⟩) (by assumption) ?_
                  rotate_left
                  · intro w' hSw
                    (try dsimp only at hSw)
                    go_simp
                    (try with_reducible rfl)
                  (try simp only [Act.put, List.setIfInBounds_toArray, List.set_cons_zero, List.set_cons_succ, List.getElem_toArray, List.getElem_cons_succ, List.getElem_cons_zero])
                  refine wpAnyH_take (i := 5) (oi := _) (v := ?_) rfl (by kernel_rfl) (by kernel_rfl) (by kernel_rfl) (fun _ _ _ h => h) (Or.inl ⟨by rfl, ?_⟩) (by assumption) ?_
                  rotate_left
                  · intro w' hSw
                    (try dsimp only at hSw)
                    go_simp
                    (try with_reducible rfl)
                  (try simp only [Act.put, List.setIfInBounds_toArray, List.set_cons_zero, List.set_cons_succ, List.getElem_toArray, List.getElem_cons_succ, List.getElem_cons_zero])
                  refine wpAnyH_take (i := 6) (oi := _) (v := ?_) rfl (by kernel_rfl) (by kernel_rfl) (by kernel_rfl) (fun _ _ _ h => h) (Or.inl ⟨by rfl, ?_⟩) (by assumption) ?_
                  rotate_left
                  · intro w' hSw
                    (try dsimp only at hSw)
                    go_simp
                    (try with_reducible rfl)
                  (try simp only [Act.put, List.setIfInBounds_toArray, List.set_cons_zero, List.set_cons_succ, List.getElem_toArray, List.getElem_cons_succ, List.getElem_cons_zero])
                  refine wpAnyH_take (i := 7) (oi := _) (v := ?_) rfl (by kernel_rfl) (by kernel_rfl) (by kernel_rfl) (fun _ _ _ h => h) (Or.inl ⟨by rfl, ?_⟩) (by assumption) ?_
                  rotate_left
                  · intro w' hSw
                    (try dsimp only at hSw)
                    go_simp
                    (try with_reducible rfl)
                  (try simp only [Act.put, List.setIfInBounds_toArray, List.set_cons_zero, List.set_cons_succ, List.getElem_toArray, List.getElem_cons_succ, List.getElem_cons_zero])
                  refine wpAnyH_ready (rs := [0, 2, 8]) (by kernel_rfl) (by simp) ?_
                  refine AllReadyH.cons (o := _) rfl (fun K hK => ?_) (AllReadyH.cons (o := _) rfl (fun K hK => ?_) (AllReadyH.cons (o := _) rfl (fun K hK => ?_) (AllReadyH.nil)))
                  · go_simp
                    have hb21 : Below w5.heap.size w5 ((w5.alloc (.cells #[] 23)).drew) := (((Below.refl w5.heap.size w5).alloc (Below.refl w5.heap.size w5).size _).drew)
                    have own21 : World.ownsRow ((w5.alloc (.cells #[] 23)).drew) w5.heap.size 23 1 (.slice (some ⟨w5.heap.size, 0, none⟩) 0 0) 0 [] := World.ownsRow_made (e := 23) (size := 1) (base := w5.heap.size) w5 #[] 0 ((Below.refl w5.heap.size w5).size) (Nat.zero_le _) rfl
                    generalize ((w5.alloc (.cells #[] 23)).drew) = w21 at hb21 own21 ⊢
                    refine hK.out _ _ ?_ (fun hHeld => ?_)
                    · exact (hb21.cell (p := ⟨b, off + j, none⟩) hbk5).trans e05
                    (try simp only [Act.put, List.setIfInBounds_toArray, List.set_cons_zero, List.set_cons_succ, List.getElem_toArray, List.getElem_cons_succ, List.getElem_cons_zero])
                    refine wpAnyH_ready (rs := [2, 8]) (by kernel_rfl) (by simp) ?_
                    refine AllReadyH.cons (o := _) rfl (fun K hK => ?_) (AllReadyH.cons (o := _) rfl (fun K hK => ?_) (AllReadyH.nil))
                    · have cl22 := (hb21.cell (p := ⟨k1, 0, none⟩) hk15).trans c05
                      go_simp
                      have hb22 := hb21
                      refine hK.out _ _ ?_ (fun hHeld => ?_)
                      · exact (hb22.cell (p := ⟨b, off + j, none⟩) hbk5).trans e05
                      (try simp only [Act.put, List.setIfInBounds_toArray, List.set_cons_zero, List.set_cons_succ, List.getElem_toArray, List.getElem_cons_succ, List.getElem_cons_zero])
                      refine wpAnyH_ready (rs := [3, 8]) (by kernel_rfl) (by simp) ?_
                      refine AllReadyH.cons (o := _) rfl (fun K hK => ?_) (AllReadyH.cons (o := _) rfl (fun K hK => ?_) (AllReadyH.nil))
                      · refine step_append_ids rfl (.tmp 53) (.tmp 55) rfl w5.heap.size _ _ _ rfl own21 _ T1.known rfl (HP5.out.known.run (hb21)) HP5.out.kz (by omega) hb21.size ?_
                        intro v23 w23 own23 hg23
                        have hb23 := below_grown hb21 own21 (Nat.le_refl _) hg23 hb21.size
                        refine hK.out _ _ ?_ (fun hHeld => ?_)
                        · exact (hb23.cell (p := ⟨b, off + j, none⟩) hbk5).trans e05
                        (try simp only [Act.put, List.setIfInBounds_toArray, List.set_cons_zero, List.set_cons_succ, List.getElem_toArray, List.getElem_cons_succ, List.getElem_cons_zero])
                        refine wpAnyH_ready (rs := [8]) (by kernel_rfl) (by simp) ?_
                        refine AllReadyH.cons (o := _) rfl (fun K hK => ?_) (AllReadyH.nil)
                        go_simp
                        have hb24 : Below w5.heap.size w5 (w23.alloc (.cells #[.int .u64 x] 23)) := hb23.alloc hb23.size _
                        have nw24 : RowAt (w23.alloc (.cells #[.int .u64 x] 23)) (w23.heap.size) 23 #[.int .u64 x] := RowAt.new w23 _ _
                        have own24 := own_run own23 (show Below w23.heap.size w23 (w23.alloc (.cells #[.int .u64 x] 23)) from ((Below.refl _ _).alloc (Nat.le_refl _) _))
                        generalize (w23.alloc (.cells #[.int .u64 x] 23)) = w24 at hb24 nw24 own24 ⊢
                        refine hK.out _ _ ?_ (fun hHeld => ?_)
                        · exact (hb24.cell (p := ⟨b, off + j, none⟩) hbk5).trans e05
                        (try simp only [Act.put, List.setIfInBounds_toArray, List.set_cons_zero, List.set_cons_succ, List.getElem_toArray, List.getElem_cons_succ, List.getElem_cons_zero])
                        refine wpAnyH_ready (rs := [9]) (by kernel_rfl) (by simp) ?_
                        refine AllReadyH.cons (o := _) rfl (fun K hK => ?_) (AllReadyH.nil)
                        refine step_append_ids rfl (.tmp 56) (.tmp 61) rfl w5.heap.size _ _ _ rfl own24 _ [x] rfl (ids_one nw24) (fun _ _ e => by cases e) (by simp; omega) hb24.size ?_
                        intro v25 w25 own25 hg25
                        have hb25 := below_grown hb24 own24 (Nat.le_refl _) hg25 hb24.size
                        refine hK.out _ _ ?_ (fun hHeld => ?_)
                        · exact (hb25.cell (p := ⟨b, off + j, none⟩) hbk5).trans e05
                        (try simp only [Act.put, List.setIfInBounds_toArray, List.set_cons_zero, List.set_cons_succ, List.getElem_toArray, List.getElem_cons_succ, List.getElem_cons_zero])
                        refine wpAnyH_take (i := 10) (oi := _) (v := ?_) rfl (by kernel_rfl) (by kernel_rfl) (by kernel_rfl) (fun _ _ _ h => h) (Or.inl ⟨by rfl, ?_⟩) (by assumption) ?_
                        rotate_left
                        · intro w' hSw
                          (try dsimp only at hSw)
                          go_simp
                          (try with_reducible rfl)
                        (try simp only [Act.put, List.setIfInBounds_toArray, List.set_cons_zero, List.set_cons_succ, List.getElem_toArray, List.getElem_cons_succ, List.getElem_cons_zero])
                        refine wpAnyH_ready (rs := [11]) (by kernel_rfl) (by simp) ?_
                        refine AllReadyH.cons (o := _) rfl (fun K hK => ?_) (AllReadyH.nil)
                        obtain ⟨sa', sn', sc', rfl⟩ := own_slice own25
                        have kp6 := KP5.out.run hb25
                        have hsn : Sep (.slice sa' sn' sc') u13 := sep_new own25 KP5.out.own (Nat.le_refl _)
                        have owk : World.ownsRow w25 w5.heap.size 23 1 (.slice sa' sn' sc') (T1.known ++ [x]).length (u64L (T1.known ++ [x])) := (by simpa [u64L] using own25)
                        have hp6 : RPar w25 (.slice sa' sn' sc') (.slice ja jm jc) (.slice ra rn rc) { T1 with known := T1.known ++ [x] } := ⟨own_ids owk rfl (by simp; omega), typed_own own25, HP5.out.devs.run hb25, HP5.out.found.run hb25, HP5.out.fty.run hb25, nilok_own own25, HP5.out.fz⟩
                        have K7 := keep_one (v := .slice sa' sn' sc') kp6 hp6 rfl hlk1 hwk1
                        obtain ⟨y1, y2, y3, y4, y5, y6⟩ := row_facts kp6.box
                        go_simp
                        refine hK.out _ _ ?_ (fun hHeld => ?_)
                        · exact (K7.1.bel.cell (p := ⟨b, off + j, none⟩) hlt).trans e0
                        (try simp only [Act.put, List.setIfInBounds_toArray, List.set_cons_zero, List.set_cons_succ, List.getElem_toArray, List.getElem_cons_succ, List.getElem_cons_zero])
                        refine wpAnyH_done (by kernel_rfl) ?_ _
                        refine NoPanic.normal ?_
                        (try go_simp)
                        have hL : Loop14 w (w25.setCell ⟨k1, 0, none⟩ (.slice sa' sn' sc')) k1 src (refrS src (k.take (j + 1)) U []) u13 := (by rw [HMS2.out]; exact ⟨sa', sn', sc', ja, jm, jc, ra, rn, rc, (by show RowAt _ _ _ #[_, _, _, .int .i64 T1.seq, _, .int .i64 (IntKind.i64.wrap (T1.msgs : Int))]; rw [HQN2.out.1, HQN2.out.2]; exact K7.1.box), K7.2, hsn, HSF.out, K7.1.own, K7.1.fin, K7.1.bel⟩)
                        have HLL := Lib.hid hL
                        go_wp2
                        go_roundw
                        case rel => exact ⟨j + 1, by omega, by go_num, HLL.out⟩
                        case measure => simp [intOf]; omega
                      · go_simp
                        have hb27 : Below w5.heap.size w5 (w21.alloc (.cells #[.int .u64 x] 23)) := hb21.alloc hb21.size _
                        have nw27 : RowAt (w21.alloc (.cells #[.int .u64 x] 23)) (w21.heap.size) 23 #[.int .u64 x] := RowAt.new w21 _ _
                        have ne27 : ¬ w21.heap.size = w5.heap.size := (by have h1 : w5.heap.size < w21.heap.size := (own21.lt _ rfl).2; omega)
                        have own27 := own_run own21 (show Below w21.heap.size w21 (w21.alloc (.cells #[.int .u64 x] 23)) from ((Below.refl _ _).alloc (Nat.le_refl _) _))
                        generalize (w21.alloc (.cells #[.int .u64 x] 23)) = w27 at hb27 nw27 own27 ⊢
                        refine hK.out _ _ ?_ (fun hHeld => ?_)
                        · exact (hb27.cell (p := ⟨b, off + j, none⟩) hbk5).trans e05
                        (try simp only [Act.put, List.setIfInBounds_toArray, List.set_cons_zero, List.set_cons_succ, List.getElem_toArray, List.getElem_cons_succ, List.getElem_cons_zero])
                        refine wpAnyH_ready (rs := [3]) (by kernel_rfl) (by simp) ?_
                        refine AllReadyH.cons (o := _) rfl (fun K hK => ?_) (AllReadyH.nil)
                        refine step_append_ids rfl (.tmp 53) (.tmp 55) rfl w5.heap.size _ _ _ rfl own27 _ T1.known rfl (HP5.out.known.run (hb27)) HP5.out.kz (by omega) hb27.size ?_
                        intro v28 w28 own28 hg28
                        have hb28 := below_grown hb27 own27 (Nat.le_refl _) hg28 hb27.size
                        have nw28 := (hg28.block _ (lt_of_block nw27) (fun e => ne27 (Option.some.inj e))).trans nw27
                        refine hK.out _ _ ?_ (fun hHeld => ?_)
                        · exact (hb28.cell (p := ⟨b, off + j, none⟩) hbk5).trans e05
                        (try simp only [Act.put, List.setIfInBounds_toArray, List.set_cons_zero, List.set_cons_succ, List.getElem_toArray, List.getElem_cons_succ, List.getElem_cons_zero])
                        refine wpAnyH_ready (rs := [9]) (by kernel_rfl) (by simp) ?_
                        refine AllReadyH.cons (o := _) rfl (fun K hK => ?_) (AllReadyH.nil)
                        refine step_append_ids rfl (.tmp 56) (.tmp 61) rfl w5.heap.size _ _ _ rfl own28 _ [x] rfl (ids_one nw28) (fun _ _ e => by cases e) (by simp; omega) hb28.size ?_
                        intro v29 w29 own29 hg29
                        have hb29 := below_grown hb28 own28 (Nat.le_refl _) hg29 hb28.size
                        refine hK.out _ _ ?_ (fun hHeld => ?_)
                        · exact (hb29.cell (p := ⟨b, off + j, none⟩) hbk5).trans e05
                        (try simp only [Act.put, List.setIfInBounds_toArray, List.set_cons_zero, List.set_cons_succ, List.getElem_toArray, List.getElem_cons_succ, List.getElem_cons_zero])
                        refine wpAnyH_take (i := 10) (oi := _) (v := ?_) rfl (by kernel_rfl) (by kernel_rfl) (by kernel_rfl) (fun _ _ _ h => h) (Or.inl ⟨by rfl, ?_⟩) (by assumption) ?_
                        rotate_left
                        · intro w' hSw
                          (try dsimp only at hSw)
                          go_simp
                          (try with_reducible rfl)
                        (try simp only [Act.put, List.setIfInBounds_toArray, List.set_cons_zero, List.set_cons_succ, List.getElem_toArray, List.getElem_cons_succ, List.getElem_cons_zero])
                        refine wpAnyH_ready (rs := [11]) (by kernel_rfl) (by simp) ?_
                        refine AllReadyH.cons (o := _) rfl (fun K hK => ?_) (AllReadyH.nil)
                        obtain ⟨sa', sn', sc', rfl⟩ := own_slice own29
                        have kp6 := KP5.out.run hb29
                        have hsn : Sep (.slice sa' sn' sc') u13 := sep_new own29 KP5.out.own (Nat.le_refl _)
                        have owk : World.ownsRow w29 w5.heap.size 23 1 (.slice sa' sn' sc') (T1.known ++ [x]).length (u64L (T1.known ++ [x])) := (by simpa [u64L] using own29)
                        have hp6 : RPar w29 (.slice sa' sn' sc') (.slice ja jm jc) (.slice ra rn rc) { T1 with known := T1.known ++ [x] } := ⟨own_ids owk rfl (by simp; omega), typed_own own29, HP5.out.devs.run hb29, HP5.out.found.run hb29, HP5.out.fty.run hb29, nilok_own own29, HP5.out.fz⟩
                        have K7 := keep_one (v := .slice sa' sn' sc') kp6 hp6 rfl hlk1 hwk1
                        obtain ⟨y1, y2, y3, y4, y5, y6⟩ := row_facts kp6.box
                        go_simp
                        refine hK.out _ _ ?_ (fun hHeld => ?_)
                        · exact (K7.1.bel.cell (p := ⟨b, off + j, none⟩) hlt).trans e0
                        (try simp only [Act.put, List.setIfInBounds_toArray, List.set_cons_zero, List.set_cons_succ, List.getElem_toArray, List.getElem_cons_succ, List.getElem_cons_zero])
                        refine wpAnyH_done (by kernel_rfl) ?_ _
                        refine NoPanic.normal ?_
                        (try go_simp)
                        have hL : Loop14 w (w29.setCell ⟨k1, 0, none⟩ (.slice sa' sn' sc')) k1 src (refrS src (k.take (j + 1)) U []) u13 := (by rw [HMS2.out]; exact ⟨sa', sn', sc', ja, jm, jc, ra, rn, rc, (by show RowAt _ _ _ #[_, _, _, .int .i64 T1.seq, _, .int .i64 (IntKind.i64.wrap (T1.msgs : Int))]; rw [HQN2.out.1, HQN2.out.2]; exact K7.1.box), K7.2, hsn, HSF.out, K7.1.own, K7.1.fin, K7.1.bel⟩)
                        have HLL := Lib.hid hL
                        go_wp2
                        go_roundw
                        case rel => exact ⟨j + 1, by omega, by go_num, HLL.out⟩
                        case measure => simp [intOf]; omega
                    · go_simp
                      have hb31 : Below w5.heap.size w5 (w21.alloc (.cells #[.int .u64 x] 23)) := hb21.alloc hb21.size _
                      have nw31 : RowAt (w21.alloc (.cells #[.int .u64 x] 23)) (w21.heap.size) 23 #[.int .u64 x] := RowAt.new w21 _ _
                      have ne31 : ¬ w21.heap.size = w5.heap.size := (by have h1 : w5.heap.size < w21.heap.size := (own21.lt _ rfl).2; omega)
                      have own31 := own_run own21 (show Below w21.heap.size w21 (w21.alloc (.cells #[.int .u64 x] 23)) from ((Below.refl _ _).alloc (Nat.le_refl _) _))
                      generalize (w21.alloc (.cells #[.int .u64 x] 23)) = w31 at hb31 nw31 own31 ⊢
                      refine hK.out _ _ ?_ (fun hHeld => ?_)
                      · exact (hb31.cell (p := ⟨b, off + j, none⟩) hbk5).trans e05
                      (try simp only [Act.put, List.setIfInBounds_toArray, List.set_cons_zero, List.set_cons_succ, List.getElem_toArray, List.getElem_cons_succ, List.getElem_cons_zero])
                      refine wpAnyH_ready (rs := [2]) (by kernel_rfl) (by simp) ?_
                      refine AllReadyH.cons (o := _) rfl (fun K hK => ?_) (AllReadyH.nil)
                      have cl32 := (hb31.cell (p := ⟨k1, 0, none⟩) hk15).trans c05
                      go_simp
                      have hb32 := hb31
                      refine hK.out _ _ ?_ (fun hHeld => ?_)
                      · exact (hb32.cell (p := ⟨b, off + j, none⟩) hbk5).trans e05
                      (try simp only [Act.put, List.setIfInBounds_toArray, List.set_cons_zero, List.set_cons_succ, List.getElem_toArray, List.getElem_cons_succ, List.getElem_cons_zero])
                      refine wpAnyH_ready (rs := [3]) (by kernel_rfl) (by simp) ?_
                      refine AllReadyH.cons (o := _) rfl (fun K hK => ?_) (AllReadyH.nil)
                      refine step_append_ids rfl (.tmp 53) (.tmp 55) rfl w5.heap.size _ _ _ rfl own31 _ T1.known rfl (HP5.out.known.run (hb31)) HP5.out.kz (by omega) hb31.size ?_
                      intro v33 w33 own33 hg33
                      have hb33 := below_grown hb31 own31 (Nat.le_refl _) hg33 hb31.size
                      have nw33 := (hg33.block _ (lt_of_block nw31) (fun e => ne31 (Option.some.inj e))).trans nw31
                      refine hK.out _ _ ?_ (fun hHeld => ?_)
                      · exact (hb33.cell (p := ⟨b, off + j, none⟩) hbk5).trans e05
                      (try simp only [Act.put, List.setIfInBounds_toArray, List.set_cons_zero, List.set_cons_succ, List.getElem_toArray, List.getElem_cons_succ, List.getElem_cons_zero])
                      refine wpAnyH_ready (rs := [9]) (by kernel_rfl) (by simp) ?_
                      refine AllReadyH.cons (o := _) rfl (fun K hK => ?_) (AllReadyH.nil)
                      refine step_append_ids rfl (.tmp 56) (.tmp 61) rfl w5.heap.size _ _ _ rfl own33 _ [x] rfl (ids_one nw33) (fun _ _ e => by cases e) (by simp; omega) hb33.size ?_
                      intro v34 w34 own34 hg34
                      have hb34 := below_grown hb33 own33 (Nat.le_refl _) hg34 hb33.size
                      refine hK.out _ _ ?_ (fun hHeld => ?_)
                      · exact (hb34.cell (p := ⟨b, off + j, none⟩) hbk5).trans e05
                      (try simp only [Act.put, List.setIfInBounds_toArray, List.set_cons_zero, List.set_cons_succ, List.getElem_toArray, List.getElem_cons_succ, List.getElem_cons_zero])
                      refine wpAnyH_take (i := 10) (oi := _) (v := ?_) rfl (by kernel_rfl) (by kernel_rfl) (by kernel_rfl) (fun _ _ _ h => h) (Or.inl ⟨by rfl, ?_⟩) (by assumption) ?_
                      rotate_left
                      · intro w' hSw
                        (try dsimp only at hSw)
                        go_simp
                        (try with_reducible rfl)
                      (try simp only [Act.put, List.setIfInBounds_toArray, List.set_cons_zero, List.set_cons_succ, List.getElem_toArray, List.getElem_cons_succ, List.getElem_cons_zero])
                      refine wpAnyH_ready (rs := [11]) (by kernel_rfl) (by simp) ?_
                      refine AllReadyH.cons (o := _) rfl (fun K hK => ?_) (AllReadyH.nil)
                      obtain ⟨sa', sn', sc', rfl⟩ := own_slice own34
                      have kp6 := KP5.out.run hb34
                      have hsn : Sep (.slice sa' sn' sc') u13 := sep_new own34 KP5.out.own (Nat.le_refl _)
                      have owk : World.ownsRow w34 w5.heap.size 23 1 (.slice sa' sn' sc') (T1.known ++ [x]).length (u64L (T1.known ++ [x])) := (by simpa [u64L] using own34)
                      have hp6 : RPar w34 (.slice sa' sn' sc') (.slice ja jm jc) (.slice ra rn rc) { T1 with known := T1.known ++ [x] } := ⟨own_ids owk rfl (by simp; omega), typed_own own34, HP5.out.devs.run hb34, HP5.out.found.run hb34, HP5.out.fty.run hb34, nilok_own own34, HP5.out.fz⟩
                      have K7 := keep_one (v := .slice sa' sn' sc') kp6 hp6 rfl hlk1 hwk1
                      obtain ⟨y1, y2, y3, y4, y5, y6⟩ := row_facts kp6.box
                      go_simp
                      refine hK.out _ _ ?_ (fun hHeld => ?_)
                      · exact (K7.1.bel.cell (p := ⟨b, off + j, none⟩) hlt).trans e0
                      (try simp only [Act.put, List.setIfInBounds_toArray, List.set_cons_zero, List.set_cons_succ, List.getElem_toArray, List.getElem_cons_succ, List.getElem_cons_zero])
                      refine wpAnyH_done (by kernel_rfl) ?_ _
                      refine NoPanic.normal ?_
                      (try go_simp)
                      have hL : Loop14 w (w34.setCell ⟨k1, 0, none⟩ (.slice sa' sn' sc')) k1 src (refrS src (k.take (j + 1)) U []) u13 := (by rw [HMS2.out]; exact ⟨sa', sn', sc', ja, jm, jc, ra, rn, rc, (by show RowAt _ _ _ #[_, _, _, .int .i64 T1.seq, _, .int .i64 (IntKind.i64.wrap (T1.msgs : Int))]; rw [HQN2.out.1, HQN2.out.2]; exact K7.1.box), K7.2, hsn, HSF.out, K7.1.own, K7.1.fin, K7.1.bel⟩)
                      have HLL := Lib.hid hL
                      go_wp2
                      go_roundw
                      case rel => exact ⟨j + 1, by omega, by go_num, HLL.out⟩
                      case measure => simp [intOf]; omega
                  · have cl36 := (hbd.cell (p := ⟨k1, 0, none⟩) hk15).trans c05
                    go_simp
                    have hb36 := hbd
                    refine hK.out _ _ ?_ (fun hHeld => ?_)
                    · exact (hb36.cell (p := ⟨b, off + j, none⟩) hbk5).trans e05
                    (try simp only [Act.put, List.setIfInBounds_toArray, List.set_cons_zero, List.set_cons_succ, List.getElem_toArray, List.getElem_cons_succ, List.getElem_cons_zero])
                    refine wpAnyH_ready (rs := [0, 8]) (by kernel_rfl) (by simp) ?_
                    refine AllReadyH.cons (o := _) rfl (fun K hK => ?_) (AllReadyH.cons (o := _) rfl (fun K hK => ?_) (AllReadyH.nil))
                    · go_simp
                      have hb37 : Below w5.heap.size w5 ((w5.alloc (.cells #[] 23)).drew) := (((Below.refl w5.heap.size w5).alloc (Below.refl w5.heap.size w5).size _).drew)
                      have own37 : World.ownsRow ((w5.alloc (.cells #[] 23)).drew) w5.heap.size 23 1 (.slice (some ⟨w5.heap.size, 0, none⟩) 0 0) 0 [] := World.ownsRow_made (e := 23) (size := 1) (base := w5.heap.size) w5 #[] 0 ((Below.refl w5.heap.size w5).size) (Nat.zero_le _) rfl
                      generalize ((w5.alloc (.cells #[] 23)).drew) = w37 at hb37 own37 ⊢
                      refine hK.out _ _ ?_ (fun hHeld => ?_)
                      · exact (hb37.cell (p := ⟨b, off + j, none⟩) hbk5).trans e05
                      (try simp only [Act.put, List.setIfInBounds_toArray, List.set_cons_zero, List.set_cons_succ, List.getElem_toArray, List.getElem_cons_succ, List.getElem_cons_zero])
                      refine wpAnyH_ready (rs := [3, 8]) (by kernel_rfl) (by simp) ?_
                      refine AllReadyH.cons (o := _) rfl (fun K hK => ?_) (AllReadyH.cons (o := _) rfl (fun K hK => ?_) (AllReadyH.nil))
                      · refine step_append_ids rfl (.tmp 53) (.tmp 55) rfl w5.heap.size _ _ _ rfl own37 _ T1.known rfl (HP5.out.known.run (hb37)) HP5.out.kz (by omega) hb37.size ?_
                        intro v38 w38 own38 hg38
                        have hb38 := below_grown hb37 own37 (Nat.le_refl _) hg38 hb37.size
                        refine hK.out _ _ ?_ (fun hHeld => ?_)
                        · exact (hb38.cell (p := ⟨b, off + j, none⟩) hbk5).trans e05
                        (try simp only [Act.put, List.setIfInBounds_toArray, List.set_cons_zero, List.set_cons_succ, List.getElem_toArray, List.getElem_cons_succ, List.getElem_cons_zero])
                        refine wpAnyH_ready (rs := [8]) (by kernel_rfl) (by simp) ?_
                        refine AllReadyH.cons (o := _) rfl (fun K hK => ?_) (AllReadyH.nil)
                        go_simp
                        have hb39 : Below w5.heap.size w5 (w38.alloc (.cells #[.int .u64 x] 23)) := hb38.alloc hb38.size _
                        have nw39 : RowAt (w38.alloc (.cells #[.int .u64 x] 23)) (w38.heap.size) 23 #[.int .u64 x] := RowAt.new w38 _ _
                        have own39 := own_run own38 (show Below w38.heap.size w38 (w38.alloc (.cells #[.int .u64 x] 23)) from ((Below.refl _ _).alloc (Nat.le_refl _) _))
                        generalize (w38.alloc (.cells #[.int .u64 x] 23)) = w39 at hb39 nw39 own39 ⊢
                        refine hK.out _ _ ?_ (fun hHeld => ?_)
                        · exact (hb39.cell (p := ⟨b, off + j, none⟩) hbk5).trans e05
                        (try simp only [Act.put, List.setIfInBounds_toArray, List.set_cons_zero, List.set_cons_succ, List.getElem_toArray, List.getElem_cons_succ, List.getElem_cons_zero])
                        refine wpAnyH_ready (rs := [9]) (by kernel_rfl) (by simp) ?_
                        refine AllReadyH.cons (o := _) rfl (fun K hK => ?_) (AllReadyH.nil)
                        refine step_append_ids rfl (.tmp 56) (.tmp 61) rfl w5.heap.size _ _ _ rfl own39 _ [x] rfl (ids_one nw39) (fun _ _ e => by cases e) (by simp; omega) hb39.size ?_
                        intro v40 w40 own40 hg40
                        have hb40 := below_grown hb39 own39 (Nat.le_refl _) hg40 hb39.size
                        refine hK.out _ _ ?_ (fun hHeld => ?_)
                        · exact (hb40.cell (p := ⟨b, off + j, none⟩) hbk5).trans e05
                        (try simp only [Act.put, List.setIfInBounds_toArray, List.set_cons_zero, List.set_cons_succ, List.getElem_toArray, List.getElem_cons_succ, List.getElem_cons_zero])
                        refine wpAnyH_take (i := 10) (oi := _) (v := ?_) rfl (by kernel_rfl) (by kernel_rfl) (by kernel_rfl) (fun _ _ _ h => h) (Or.inl ⟨by rfl, ?_⟩) (by assumption) ?_
                        rotate_left
                        · intro w' hSw
                          (try dsimp only at hSw)
                          go_simp
                          (try with_reducible rfl)
                        (try simp only [Act.put, List.setIfInBounds_toArray, List.set_cons_zero, List.set_cons_succ, List.getElem_toArray, List.getElem_cons_succ, List.getElem_cons_zero])
                        refine wpAnyH_ready (rs := [11]) (by kernel_rfl) (by simp) ?_
                        refine AllReadyH.cons (o := _) rfl (fun K hK => ?_) (AllReadyH.nil)
                        obtain ⟨sa', sn', sc', rfl⟩ := own_slice own40
                        have kp6 := KP5.out.run hb40
                        have hsn : Sep (.slice sa' sn' sc') u13 := sep_new own40 KP5.out.own (Nat.le_refl _)
                        have owk : World.ownsRow w40 w5.heap.size 23 1 (.slice sa' sn' sc') (T1.known ++ [x]).length (u64L (T1.known ++ [x])) := (by simpa [u64L] using own40)
                        have hp6 : RPar w40 (.slice sa' sn' sc') (.slice ja jm jc) (.slice ra rn rc) { T1 with known := T1.known ++ [x] } := ⟨own_ids owk rfl (by simp; omega), typed_own own40, HP5.out.devs.run hb40, HP5.out.found.run hb40, HP5.out.fty.run hb40, nilok_own own40, HP5.out.fz⟩
                        have K7 := keep_one (v := .slice sa' sn' sc') kp6 hp6 rfl hlk1 hwk1
                        obtain ⟨y1, y2, y3, y4, y5, y6⟩ := row_facts kp6.box
                        go_simp
                        refine hK.out _ _ ?_ (fun hHeld => ?_)
                        · exact (K7.1.bel.cell (p := ⟨b, off + j, none⟩) hlt).trans e0
                        (try simp only [Act.put, List.setIfInBounds_toArray, List.set_cons_zero, List.set_cons_succ, List.getElem_toArray, List.getElem_cons_succ, List.getElem_cons_zero])
                        refine wpAnyH_done (by kernel_rfl) ?_ _
                        refine NoPanic.normal ?_
                        (try go_simp)
                        have hL : Loop14 w (w40.setCell ⟨k1, 0, none⟩ (.slice sa' sn' sc')) k1 src (refrS src (k.take (j + 1)) U []) u13 := (by rw [HMS2.out]; exact ⟨sa', sn', sc', ja, jm, jc, ra, rn, rc, (by show RowAt _ _ _ #[_, _, _, .int .i64 T1.seq, _, .int .i64 (IntKind.i64.wrap (T1.msgs : Int))]; rw [HQN2.out.1, HQN2.out.2]; exact K7.1.box), K7.2, hsn, HSF.out, K7.1.own, K7.1.fin, K7.1.bel⟩)
                        have HLL := Lib.hid hL
                        go_wp2
                        go_roundw
                        case rel => exact ⟨j + 1, by omega, by go_num, HLL.out⟩
                        case measure => simp [intOf]; omega
                      · go_simp
                        have hb42 : Below w5.heap.size w5 (w37.alloc (.cells #[.int .u64 x] 23)) := hb37.alloc hb37.size _
                        have nw42 : RowAt (w37.alloc (.cells #[.int .u64 x] 23)) (w37.heap.size) 23 #[.int .u64 x] := RowAt.new w37 _ _
                        have ne42 : ¬ w37.heap.size = w5.heap.size := (by have h1 : w5.heap.size < w37.heap.size := (own37.lt _ rfl).2; omega)
                        have own42 := own_run own37 (show Below w37.heap.size w37 (w37.alloc (.cells #[.int .u64 x] 23)) from ((Below.refl _ _).alloc (Nat.le_refl _) _))
                        generalize (w37.alloc (.cells #[.int .u64 x] 23)) = w42 at hb42 nw42 own42 ⊢
                        refine hK.out _ _ ?_ (fun hHeld => ?_)
                        · exact (hb42.cell (p := ⟨b, off + j, none⟩) hbk5).trans e05
                        (try simp only [Act.put, List.setIfInBounds_toArray, List.set_cons_zero, List.set_cons_succ, List.getElem_toArray, List.getElem_cons_succ, List.getElem_cons_zero])
                        refine wpAnyH_ready (rs := [3]) (by kernel_rfl) (by simp) ?_
                        refine AllReadyH.cons (o := _) rfl (fun K hK => ?_) (AllReadyH.nil)
                        refine step_append_ids rfl (.tmp 53) (.tmp 55) rfl w5.heap.size _ _ _ rfl own42 _ T1.known rfl (HP5.out.known.run (hb42)) HP5.out.kz (by omega) hb42.size ?_
                        intro v43 w43 own43 hg43
                        have hb43 := below_grown hb42 own42 (Nat.le_refl _) hg43 hb42.size
                        have nw43 := (hg43.block _ (lt_of_block nw42) (fun e => ne42 (Option.some.inj e))).trans nw42
                        refine hK.out _ _ ?_ (fun hHeld => ?_)
                        · exact (hb43.cell (p := ⟨b, off + j, none⟩) hbk5).trans e05
                        (try simp only [Act.put, List.setIfInBounds_toArray, List.set_cons_zero, List.set_cons_succ, List.getElem_toArray, List.getElem_cons_succ, List.getElem_cons_zero])
                        refine wpAnyH_ready (rs := [9]) (by kernel_rfl) (by simp) ?_
                        refine AllReadyH.cons (o := _) rfl (fun K hK => ?_) (AllReadyH.nil)
                        refine step_append_ids rfl (.tmp 56) (.tmp 61) rfl w5.heap.size _ _ _ rfl own43 _ [x] rfl (ids_one nw43) (fun _ _ e => by cases e) (by simp; omega) hb43.size ?_
                        intro v44 w44 own44 hg44
                        have hb44 := below_grown hb43 own43 (Nat.le_refl _) hg44 hb43.size
                        refine hK.out _ _ ?_ (fun hHeld => ?_)
                        · exact (hb44.cell (p := ⟨b, off + j, none⟩) hbk5).trans e05
                        (try simp only [Act.put, List.setIfInBounds_toArray, List.set_cons_zero, List.set_cons_succ, List.getElem_toArray, List.getElem_cons_succ, List.getElem_cons_zero])
                        refine wpAnyH_take (i := 10) (oi := _) (v := ?_) rfl (by kernel_rfl) (by kernel_rfl) (by kernel_rfl) (fun _ _ _ h => h) (Or.inl ⟨by rfl, ?_⟩) (by assumption) ?_
                        rotate_left
                        · intro w' hSw
                          (try dsimp only at hSw)
                          go_simp
                          (try with_reducible rfl)
                        (try simp only [Act.put, List.setIfInBounds_toArray, List.set_cons_zero, List.set_cons_succ, List.getElem_toArray, List.getElem_cons_succ, List.getElem_cons_zero])
                        refine wpAnyH_ready (rs := [11]) (by kernel_rfl) (by simp) ?_
                        refine AllReadyH.cons (o := _) rfl (fun K hK => ?_) (AllReadyH.nil)
                        obtain ⟨sa', sn', sc', rfl⟩ := own_slice own44
                        have kp6 := KP5.out.run hb44
                        have hsn : Sep (.slice sa' sn' sc') u13 := sep_new own44 KP5.out.own (Nat.le_refl _)
                        have owk : World.ownsRow w44 w5.heap.size 23 1 (.slice sa' sn' sc') (T1.known ++ [x]).length (u64L (T1.known ++ [x])) := (by simpa [u64L] using own44)
                        have hp6 : RPar w44 (.slice sa' sn' sc') (.slice ja jm jc) (.slice ra rn rc) { T1 with known := T1.known ++ [x] } := ⟨own_ids owk rfl (by simp; omega), typed_own own44, HP5.out.devs.run hb44, HP5.out.found.run hb44, HP5.out.fty.run hb44, nilok_own own44, HP5.out.fz⟩
                        have K7 := keep_one (v := .slice sa' sn' sc') kp6 hp6 rfl hlk1 hwk1
                        obtain ⟨y1, y2, y3, y4, y5, y6⟩ := row_facts kp6.box
                        go_simp
                        refine hK.out _ _ ?_ (fun hHeld => ?_)
                        · exact (K7.1.bel.cell (p := ⟨b, off + j, none⟩) hlt).trans e0
                        (try simp only [Act.put, List.setIfInBounds_toArray, List.set_cons_zero, List.set_cons_succ, List.getElem_toArray, List.getElem_cons_succ, List.getElem_cons_zero])
                        refine wpAnyH_done (by kernel_rfl) ?_ _
                        refine NoPanic.normal ?_
                        (try go_simp)
                        have hL : Loop14 w (w44.setCell ⟨k1, 0, none⟩ (.slice sa' sn' sc')) k1 src (refrS src (k.take (j + 1)) U []) u13 := (by rw [HMS2.out]; exact ⟨sa', sn', sc', ja, jm, jc, ra, rn, rc, (by show RowAt _ _ _ #[_, _, _, .int .i64 T1.seq, _, .int .i64 (IntKind.i64.wrap (T1.msgs : Int))]; rw [HQN2.out.1, HQN2.out.2]; exact K7.1.box), K7.2, hsn, HSF.out, K7.1.own, K7.1.fin, K7.1.bel⟩)
                        have HLL := Lib.hid hL
                        go_wp2
                        go_roundw
                        case rel => exact ⟨j + 1, by omega, by go_num, HLL.out⟩
                        case measure => simp [intOf]; omega
                    · go_simp
                      have hb46 : Below w5.heap.size w5 ((w5.alloc (.cells #[.int .u64 x] 23)).drew) := (((Below.refl w5.heap.size w5).alloc (Below.refl w5.heap.size w5).size _).drew)
                      have nw46 : RowAt ((w5.alloc (.cells #[.int .u64 x] 23)).drew) (w5.heap.size) 23 #[.int .u64 x] := RowAt.new w5 _ _
                      generalize ((w5.alloc (.cells #[.int .u64 x] 23)).drew) = w46 at hb46 nw46 ⊢
                      refine hK.out _ _ ?_ (fun hHeld => ?_)
                      · exact (hb46.cell (p := ⟨b, off + j, none⟩) hbk5).trans e05
                      (try simp only [Act.put, List.setIfInBounds_toArray, List.set_cons_zero, List.set_cons_succ, List.getElem_toArray, List.getElem_cons_succ, List.getElem_cons_zero])
                      refine wpAnyH_ready (rs := [0]) (by kernel_rfl) (by simp) ?_
                      refine AllReadyH.cons (o := _) rfl (fun K hK => ?_) (AllReadyH.nil)
                      go_simp
                      have hb47 : Below w5.heap.size w5 (w46.alloc (.cells #[] 23)) := hb46.alloc hb46.size _
                      have own47 : World.ownsRow (w46.alloc (.cells #[] 23)) w5.heap.size 23 1 (.slice (some ⟨w46.heap.size, 0, none⟩) 0 0) 0 [] := World.ownsRow_made (e := 23) (size := 1) (base := w5.heap.size) w46 #[] 0 (hb46.size) (Nat.zero_le _) rfl
                      have ne47 : ¬ w5.heap.size = w46.heap.size := (by have := lt_of_block nw46; omega)
                      have nw47 : RowAt (w46.alloc (.cells #[] 23)) (w5.heap.size) 23 #[.int .u64 x] := nw46.alloc _
                      generalize (w46.alloc (.cells #[] 23)) = w47 at hb47 own47 nw47 ⊢
                      refine hK.out _ _ ?_ (fun hHeld => ?_)
                      · exact (hb47.cell (p := ⟨b, off + j, none⟩) hbk5).trans e05
                      (try simp only [Act.put, List.setIfInBounds_toArray, List.set_cons_zero, List.set_cons_succ, List.getElem_toArray, List.getElem_cons_succ, List.getElem_cons_zero])
                      refine wpAnyH_ready (rs := [3]) (by kernel_rfl) (by simp) ?_
                      refine AllReadyH.cons (o := _) rfl (fun K hK => ?_) (AllReadyH.nil)
                      refine step_append_ids rfl (.tmp 53) (.tmp 55) rfl w5.heap.size _ _ _ rfl own47 _ T1.known rfl (HP5.out.known.run (hb47)) HP5.out.kz (by omega) hb47.size ?_
                      intro v48 w48 own48 hg48
                      have hb48 := below_grown hb47 own47 (Nat.le_refl _) hg48 hb47.size
                      have nw48 := (hg48.block _ (lt_of_block nw47) (fun e => ne47 (Option.some.inj e))).trans nw47
                      refine hK.out _ _ ?_ (fun hHeld => ?_)
                      · exact (hb48.cell (p := ⟨b, off + j, none⟩) hbk5).trans e05
                      (try simp only [Act.put, List.setIfInBounds_toArray, List.set_cons_zero, List.set_cons_succ, List.getElem_toArray, List.getElem_cons_succ, List.getElem_cons_zero])
                      refine wpAnyH_ready (rs := [9]) (by kernel_rfl) (by simp) ?_
                      refine AllReadyH.cons (o := _) rfl (fun K hK => ?_) (AllReadyH.nil)
                      refine step_append_ids rfl (.tmp 56) (.tmp 61) rfl w5.heap.size _ _ _ rfl own48 _ [x] rfl (ids_one nw48) (fun _ _ e => by cases e) (by simp; omega) hb48.size ?_
                      intro v49 w49 own49 hg49
                      have hb49 := below_grown hb48 own48 (Nat.le_refl _) hg49 hb48.size
                      refine hK.out _ _ ?_ (fun hHeld => ?_)
                      · exact (hb49.cell (p := ⟨b, off + j, none⟩) hbk5).trans e05
                      (try simp only [Act.put, List.setIfInBounds_toArray, List.set_cons_zero, List.set_cons_succ, List.getElem_toArray, List.getElem_cons_succ, List.getElem_cons_zero])
                      refine wpAnyH_take (i := 10) (oi := _) (v := ?_) rfl (by kernel_rfl) (by kernel_rfl) (by kernel_rfl) (fun _ _ _ h => h) (Or.inl ⟨by rfl, ?_⟩) (by assumption) ?_
                      rotate_left
                      · intro w' hSw
                        (try dsimp only at hSw)
                        go_simp
                        (try with_reducible rfl)
                      (try simp only [Act.put, List.setIfInBounds_toArray, List.set_cons_zero, List.set_cons_succ, List.getElem_toArray, List.getElem_cons_succ, List.getElem_cons_zero])
                      refine wpAnyH_ready (rs := [11]) (by kernel_rfl) (by simp) ?_
                      refine AllReadyH.cons (o := _) rfl (fun K hK => ?_) (AllReadyH.nil)
                      obtain ⟨sa', sn', sc', rfl⟩ := own_slice own49
                      have kp6 := KP5.out.run hb49
                      have hsn : Sep (.slice sa' sn' sc') u13 := sep_new own49 KP5.out.own (Nat.le_refl _)
                      have owk : World.ownsRow w49 w5.heap.size 23 1 (.slice sa' sn' sc') (T1.known ++ [x]).length (u64L (T1.known ++ [x])) := (by simpa [u64L] using own49)
                      have hp6 : RPar w49 (.slice sa' sn' sc') (.slice ja jm jc) (.slice ra rn rc) { T1 with known := T1.known ++ [x] } := ⟨own_ids owk rfl (by simp; omega), typed_own own49, HP5.out.devs.run hb49, HP5.out.found.run hb49, HP5.out.fty.run hb49, nilok_own own49, HP5.out.fz⟩
                      have K7 := keep_one (v := .slice sa' sn' sc') kp6 hp6 rfl hlk1 hwk1
                      obtain ⟨y1, y2, y3, y4, y5, y6⟩ := row_facts kp6.box
                      go_simp
                      refine hK.out _ _ ?_ (fun hHeld => ?_)
                      · exact (K7.1.bel.cell (p := ⟨b, off + j, none⟩) hlt).trans e0
                      (try simp only [Act.put, List.setIfInBounds_toArray, List.set_cons_zero, List.set_cons_succ, List.getElem_toArray, List.getElem_cons_succ, List.getElem_cons_zero])
                      refine wpAnyH_done (by kernel_rfl) ?_ _
                      refine NoPanic.normal ?_
                      (try go_simp)
                      have hL : Loop14 w (w49.setCell ⟨k1, 0, none⟩ (.slice sa' sn' sc')) k1 src (refrS src (k.take (j + 1)) U []) u13 := (by rw [HMS2.out]; exact ⟨sa', sn', sc', ja, jm, jc, ra, rn, rc, (by show RowAt _ _ _ #[_, _, _, .int .i64 T1.seq, _, .int .i64 (IntKind.i64.wrap (T1.msgs : Int))]; rw [HQN2.out.1, HQN2.out.2]; exact K7.1.box), K7.2, hsn, HSF.out, K7.1.own, K7.1.fin, K7.1.bel⟩)
                      have HLL := Lib.hid hL
                      go_wp2
                      go_roundw
                      case rel => exact ⟨j + 1, by omega, by go_num, HLL.out⟩
                      case measure => simp [intOf]; omega
                  · go_simp
                    have hb51 : Below w5.heap.size w5 ((w5.alloc (.cells #[.int .u64 x] 23)).drew) := (((Below.refl w5.heap.size w5).alloc (Below.refl w5.heap.size w5).size _).drew)
                    have nw51 : RowAt ((w5.alloc (.cells #[.int .u64 x] 23)).drew) (w5.heap.size) 23 #[.int .u64 x] := RowAt.new w5 _ _
                    generalize ((w5.alloc (.cells #[.int .u64 x] 23)).drew) = w51 at hb51 nw51 ⊢
                    refine hK.out _ _ ?_ (fun hHeld => ?_)
                    · exact (hb51.cell (p := ⟨b, off + j, none⟩) hbk5).trans e05
                    (try simp only [Act.put, List.setIfInBounds_toArray, List.set_cons_zero, List.set_cons_succ, List.getElem_toArray, List.getElem_cons_succ, List.getElem_cons_zero])
                    refine wpAnyH_ready (rs := [0, 2]) (by kernel_rfl) (by simp) ?_
                    refine AllReadyH.cons (o := _) rfl (fun K hK => ?_) (AllReadyH.cons (o := _) rfl (fun K hK => ?_) (AllReadyH.nil))
                    · go_simp
                      have hb52 : Below w5.heap.size w5 (w51.alloc (.cells #[] 23)) := hb51.alloc hb51.size _
                      have own52 : World.ownsRow (w51.alloc (.cells #[] 23)) w5.heap.size 23 1 (.slice (some ⟨w51.heap.size, 0, none⟩) 0 0) 0 [] := World.ownsRow_made (e := 23) (size := 1) (base := w5.heap.size) w51 #[] 0 (hb51.size) (Nat.zero_le _) rfl
                      have ne52 : ¬ w5.heap.size = w51.heap.size := (by have := lt_of_block nw51; omega)
                      have nw52 : RowAt (w51.alloc (.cells #[] 23)) (w5.heap.size) 23 #[.int .u64 x] := nw51.alloc _
                      generalize (w51.alloc (.cells #[] 23)) = w52 at hb52 own52 nw52 ⊢
                      refine hK.out _ _ ?_ (fun hHeld => ?_)
                      · exact (hb52.cell (p := ⟨b, off + j, none⟩) hbk5).trans e05
                      (try simp only [Act.put, List.setIfInBounds_toArray, List.set_cons_zero, List.set_cons_succ, List.getElem_toArray, List.getElem_cons_succ, List.getElem_cons_zero])
                      refine wpAnyH_ready (rs := [2]) (by kernel_rfl) (by simp) ?_
                      refine AllReadyH.cons (o := _) rfl (fun K hK => ?_) (AllReadyH.nil)
                      have cl53 := (hb52.cell (p := ⟨k1, 0, none⟩) hk15).trans c05
                      go_simp
                      have hb53 := hb52
                      refine hK.out _ _ ?_ (fun hHeld => ?_)
                      · exact (hb53.cell (p := ⟨b, off + j, none⟩) hbk5).trans e05
                      (try simp only [Act.put, List.setIfInBounds_toArray, List.set_cons_zero, List.set_cons_succ, List.getElem_toArray, List.getElem_cons_succ, List.getElem_cons_zero])
                      refine wpAnyH_ready (rs := [3]) (by kernel_rfl) (by simp) ?_
                      refine AllReadyH.cons (o := _) rfl (fun K hK => ?_) (AllReadyH.nil)
                      refine step_append_ids rfl (.tmp 53) (.tmp 55) rfl w5.heap.size _ _ _ rfl own52 _ T1.known rfl (HP5.out.known.run (hb52)) HP5.out.kz (by omega) hb52.size ?_
                      intro v54 w54 own54 hg54
                      have hb54 := below_grown hb52 own52 (Nat.le_refl _) hg54 hb52.size
                      have nw54 := (hg54.block _ (lt_of_block nw52) (fun e => ne52 (Option.some.inj e))).trans nw52
                      refine hK.out _ _ ?_ (fun hHeld => ?_)
                      · exact (hb54.cell (p := ⟨b, off + j, none⟩) hbk5).trans e05
                      (try simp only [Act.put, List.setIfInBounds_toArray, List.set_cons_zero, List.set_cons_succ, List.getElem_toArray, List.getElem_cons_succ, List.getElem_cons_zero])
                      refine wpAnyH_ready (rs := [9]) (by kernel_rfl) (by simp) ?_
                      refine AllReadyH.cons (o := _) rfl (fun K hK => ?_) (AllReadyH.nil)
                      refine step_append_ids rfl (.tmp 56) (.tmp 61) rfl w5.heap.size _ _ _ rfl own54 _ [x] rfl (ids_one nw54) (fun _ _ e => by cases e) (by simp; omega) hb54.size ?_
                      intro v55 w55 own55 hg55
                      have hb55 := below_grown hb54 own54 (Nat.le_refl _) hg55 hb54.size
                      refine hK.out _ _ ?_ (fun hHeld => ?_)
                      · exact (hb55.cell (p := ⟨b, off + j, none⟩) hbk5).trans e05
                      (try simp only [Act.put, List.setIfInBounds_toArray, List.set_cons_zero, List.set_cons_succ, List.getElem_toArray, List.getElem_cons_succ, List.getElem_cons_zero])
                      refine wpAnyH_take (i := 10) (oi := _) (v := ?_) rfl (by kernel_rfl) (by kernel_rfl) (by kernel_rfl) (fun _ _ _ h => h) (Or.inl ⟨by rfl, ?_⟩) (by assumption) ?_
                      rotate_left
                      · intro w' hSw
                        (try dsimp only at hSw)
                        go_simp
                        (try with_reducible rfl)
                      (try simp only [Act.put, List.setIfInBounds_toArray, List.set_cons_zero, List.set_cons_succ, List.getElem_toArray, List.getElem_cons_succ, List.getElem_cons_zero])
                      refine wpAnyH_ready (rs := [11]) (by kernel_rfl) (by simp) ?_
                      refine AllReadyH.cons (o := _) rfl (fun K hK => ?_) (AllReadyH.nil)
                      obtain ⟨sa', sn', sc', rfl⟩ := own_slice own55
                      have kp6 := KP5.out.run hb55
                      have hsn : Sep (.slice sa' sn' sc') u13 := sep_new own55 KP5.out.own (Nat.le_refl _)
                      have owk : World.ownsRow w55 w5.heap.size 23 1 (.slice sa' sn' sc') (T1.known ++ [x]).length (u64L (T1.known ++ [x])) := (by simpa [u64L] using own55)
                      have hp6 : RPar w55 (.slice sa' sn' sc') (.slice ja jm jc) (.slice ra rn rc) { T1 with known := T1.known ++ [x] } := ⟨own_ids owk rfl (by simp; omega), typed_own own55, HP5.out.devs.run hb55, HP5.out.found.run hb55, HP5.out.fty.run hb55, nilok_own own55, HP5.out.fz⟩
                      have K7 := keep_one (v := .slice sa' sn' sc') kp6 hp6 rfl hlk1 hwk1
                      obtain ⟨y1, y2, y3, y4, y5, y6⟩ := row_facts kp6.box
                      go_simp
                      refine hK.out _ _ ?_ (fun hHeld => ?_)
                      · exact (K7.1.bel.cell (p := ⟨b, off + j, none⟩) hlt).trans e0
                      (try simp only [Act.put, List.setIfInBounds_toArray, List.set_cons_zero, List.set_cons_succ, List.getElem_toArray, List.getElem_cons_succ, List.getElem_cons_zero])
                      refine wpAnyH_done (by kernel_rfl) ?_ _
                      refine NoPanic.normal ?_
                      (try go_simp)
                      have hL : Loop14 w (w55.setCell ⟨k1, 0, none⟩ (.slice sa' sn' sc')) k1 src (refrS src (k.take (j + 1)) U []) u13 := (by rw [HMS2.out]; exact ⟨sa', sn', sc', ja, jm, jc, ra, rn, rc, (by show RowAt _ _ _ #[_, _, _, .int .i64 T1.seq, _, .int .i64 (IntKind.i64.wrap (T1.msgs : Int))]; rw [HQN2.out.1, HQN2.out.2]; exact K7.1.box), K7.2, hsn, HSF.out, K7.1.own, K7.1.fin, K7.1.bel⟩)
                      have HLL := Lib.hid hL
                      go_wp2
                      go_roundw
                      case rel => exact ⟨j + 1, by omega, by go_num, HLL.out⟩
                      case measure => simp [intOf]; omega
                    · have cl57 := (hb51.cell (p := ⟨k1, 0, none⟩) hk15).trans c05
                      go_simp
                      have hb57 := hb51
                      refine hK.out _ _ ?_ (fun hHeld => ?_)
                      · exact (hb57.cell (p := ⟨b, off + j, none⟩) hbk5).trans e05
                      (try simp only [Act.put, List.setIfInBounds_toArray, List.set_cons_zero, List.set_cons_succ, List.getElem_toArray, List.getElem_cons_succ, List.getElem_cons_zero])
                      refine wpAnyH_ready (rs := [0]) (by kernel_rfl) (by simp) ?_
                      refine AllReadyH.cons (o := _) rfl (fun K hK => ?_) (AllReadyH.nil)
                      go_simp
                      have hb58 : Below w5.heap.size w5 (w51.alloc (.cells #[] 23)) := hb51.alloc hb51.size _
                      have own58 : World.ownsRow (w51.alloc (.cells #[] 23)) w5.heap.size 23 1 (.slice (some ⟨w51.heap.size, 0, none⟩) 0 0) 0 [] := World.ownsRow_made (e := 23) (size := 1) (base := w5.heap.size) w51 #[] 0 (hb51.size) (Nat.zero_le _) rfl
                      have ne58 : ¬ w5.heap.size = w51.heap.size := (by have := lt_of_block nw51; omega)
                      have nw58 : RowAt (w51.alloc (.cells #[] 23)) (w5.heap.size) 23 #[.int .u64 x] := nw51.alloc _
                      generalize (w51.alloc (.cells #[] 23)) = w58 at hb58 own58 nw58 ⊢
                      refine hK.out _ _ ?_ (fun hHeld => ?_)
                      · exact (hb58.cell (p := ⟨b, off + j, none⟩) hbk5).trans e05
                      (try simp only [Act.put, List.setIfInBounds_toArray, List.set_cons_zero, List.set_cons_succ, List.getElem_toArray, List.getElem_cons_succ, List.getElem_cons_zero])
                      refine wpAnyH_ready (rs := [3]) (by kernel_rfl) (by simp) ?_
                      refine AllReadyH.cons (o := _) rfl (fun K hK => ?_) (AllReadyH.nil)
                      refine step_append_ids rfl (.tmp 53) (.tmp 55) rfl w5.heap.size _ _ _ rfl own58 _ T1.known rfl (HP5.out.known.run (hb58)) HP5.out.kz (by omega) hb58.size ?_
                      intro v59 w59 own59 hg59
                      have hb59 := below_grown hb58 own58 (Nat.le_refl _) hg59 hb58.size
                      have nw59 := (hg59.block _ (lt_of_block nw58) (fun e => ne58 (Option.some.inj e))).trans nw58
                      refine hK.out _ _ ?_ (fun hHeld => ?_)
                      · exact (hb59.cell (p := ⟨b, off + j, none⟩) hbk5).trans e05
                      (try simp only [Act.put, List.setIfInBounds_toArray, List.set_cons_zero, List.set_cons_succ, List.getElem_toArray, List.getElem_cons_succ, List.getElem_cons_zero])
                      refine wpAnyH_ready (rs := [9]) (by kernel_rfl) (by simp) ?_
                      refine AllReadyH.cons (o := _) rfl (fun K hK => ?_) (AllReadyH.nil)
                      refine step_append_ids rfl (.tmp 56) (.tmp 61) rfl w5.heap.size _ _ _ rfl own59 _ [x] rfl (ids_one nw59) (fun _ _ e => by cases e) (by simp; omega) hb59.size ?_
                      intro v60 w60 own60 hg60
                      have hb60 := below_grown hb59 own59 (Nat.le_refl _) hg60 hb59.size
                      refine hK.out _ _ ?_ (fun hHeld => ?_)
                      · exact (hb60.cell (p := ⟨b, off + j, none⟩) hbk5).trans e05
                      (try simp only [Act.put, List.setIfInBounds_toArray, List.set_cons_zero, List.set_cons_succ, List.getElem_toArray, List.getElem_cons_succ, List.getElem_cons_zero])
                      refine wpAnyH_take (i := 10) (oi := _) (v := ?_) rfl (by kernel_rfl) (by kernel_rfl) (by kernel_rfl) (fun _ _ _ h => h) (Or.inl ⟨by rfl, ?_⟩) (by assumption) ?_
                      rotate_left
                      · intro w' hSw
                        (try dsimp only at hSw)
                        go_simp
                        (try with_reducible rfl)
                      (try simp only [Act.put, List.setIfInBounds_toArray, List.set_cons_zero, List.set_cons_succ, List.getElem_toArray, List.getElem_cons_succ, List.getElem_cons_zero])
                      refine wpAnyH_ready (rs := [11]) (by kernel_rfl) (by simp) ?_
                      refine AllReadyH.cons (o := _) rfl (fun K hK => ?_) (AllReadyH.nil)
                      obtain ⟨sa', sn', sc', rfl⟩ := own_slice own60
                      have kp6 := KP5.out.run hb60
                      have hsn : Sep (.slice sa' sn' sc') u13 := sep_new own60 KP5.out.own (Nat.le_refl _)
                      have owk : World.ownsRow w60 w5.heap.size 23 1 (.slice sa' sn' sc') (T1.known ++ [x]).length (u64L (T1.known ++ [x])) := (by simpa [u64L] using own60)
                      have hp6 : RPar w60 (.slice sa' sn' sc') (.slice ja jm jc) (.slice ra rn rc) { T1 with known := T1.known ++ [x] } := ⟨own_ids owk rfl (by simp; omega), typed_own own60, HP5.out.devs.run hb60, HP5.out.found.run hb60, HP5.out.fty.run hb60, nilok_own own60, HP5.out.fz⟩
                      have K7 := keep_one (v := .slice sa' sn' sc') kp6 hp6 rfl hlk1 hwk1
                      obtain ⟨y1, y2, y3, y4, y5, y6⟩ := row_facts kp6.box
                      go_simp
                      refine hK.out _ _ ?_ (fun hHeld => ?_)
                      · exact (K7.1.bel.cell (p := ⟨b, off + j, none⟩) hlt).trans e0
                      (try simp only [Act.put, List.setIfInBounds_toArray, List.set_cons_zero, List.set_cons_succ, List.getElem_toArray, List.getElem_cons_succ, List.getElem_cons_zero])
                      refine wpAnyH_done (by kernel_rfl) ?_ _
                      refine NoPanic.normal ?_
                      (try go_simp)
                      have hL : Loop14 w (w60.setCell ⟨k1, 0, none⟩ (.slice sa' sn' sc')) k1 src (refrS src (k.take (j + 1)) U []) u13 := (by rw [HMS2.out]; exact ⟨sa', sn', sc', ja, jm, jc, ra, rn, rc, (by show RowAt _ _ _ #[_, _, _, .int .i64 T1.seq, _, .int .i64 (IntKind.i64.wrap (T1.msgs : Int))]; rw [HQN2.out.1, HQN2.out.2]; exact K7.1.box), K7.2, hsn, HSF.out, K7.1.own, K7.1.fin, K7.1.bel⟩)
                      have HLL := Lib.hid hL
                      go_wp2
                      go_roundw
                      case rel => exact ⟨j + 1, by omega, by go_num, HLL.out⟩
                      case measure => simp [intOf]; omega
                | false =>
                  obtain ⟨i0, hi, hz0, hz1', hz2'⟩ := info_parts Tryz.info_u64
                  have hms2 : muteS src P.1 x = T1 := by rw [HMS.out, if_neg (by decide), ← HTK.out]
                  have HMS2 := Lib.hid (HSN.out.trans (by rw [← HMS.out, hms2]; rfl : _ = (T1, P.2 ++ [x])))
                  have own5 := KP5.out.own
                  have own6 := own_run own5 ((Below.refl _ _).alloc (Nat.le_refl _) (.cells #[.int .u64 x] 23))
                  have kp6 := KP5.out.alloc (.cells #[.int .u64 x] 23)
                  have hp6 := HP5.out.run ((Below.refl _ _).alloc (Nat.le_refl _) (.cells #[.int .u64 x] 23))
                  have hnew : RowAt (w5.alloc (.cells #[.int .u64 x] 23)) w5.heap.size 23 #[.int .u64 x] := RowAt.new _ _ _
                  have KP6 := Lib.hid kp6
                  have HP6 := Lib.hid hp6
                  clear own5 kp6 hp6 hms2
                  go_wp2_with (at_builtin; refine wpList_append_lies _ rfl (.tmp 64) (.tmp 69) 30 rfl w.heap.size 23 i0 _ 1 8 Tryz.underlying30 hi hz0 hz1' hz2' rfl (by decide) _ _ _ rfl own6 ⟨w5.heap.size, 0, none⟩ 1 1 [.int .u64 x] rfl rfl ?c1 ?c2 ?c6 ?c3 ?c4 ?c5 _ rfl ?_)
                  case c1 =>
                    intro j u hj
                    match j, hj with
                    | 0, hj =>
                      simp at hj
                      subst hj
                      exact (row_facts hnew).1 0
                  case c2 => intro u hu; simp at hu; subst hu; rfl
                  case c6 => decide
                  case c3 => unfold maxLen; omega
                  case c4 => omega
                  case c5 => have := KP6.out.bel.size; simp at this ⊢; omega
                  · intro g7 c7 w7 hown7 hgrow hg7 _
                    have hg7 : u13.ownBlock = some g7 ∨ g7 = (w5.alloc (.cells #[.int .u64 x] 23)).heap.size := (by simpa using hg7)
                    have hL : Loop14 w w7 k1 src (refrS src (k.take (j + 1)) U []) (.slice (some ⟨g7, 0, none⟩) (P.2.length + 1) c7) := by
                      rw [HMS2.out]
                      refine ⟨pa, pn, pc, ja, jm, jc, ra, rn, rc, ?_, rpar_grown HP6.out hgrow HSK.out HSJ.out HSF.out, sep_grown HSK.out HP6.out.kty hg7, sep_grown HSF.out HP6.out.fty hg7, ?_, ?_, ?_⟩
                      · show RowAt _ _ _ #[_, _, _, .int .i64 T1.seq, _, .int .i64 (IntKind.i64.wrap (T1.msgs : Int))]
                        rw [HQN2.out.1, HQN2.out.2]
                        exact row_two own6 KP6.out.box (by decide) hgrow
                      · show World.ownsRow _ _ _ 1 _ (P.2 ++ [x]).length (u64L (P.2 ++ [x]))
                        rw [List.length_append, u64L, List.map_append]
                        exact hown7
                      · exact row_two own6 KP6.out.fin (by decide) hgrow
                      · exact below_grown KP6.out.bel own6 (Nat.le_refl _) hgrow KP6.out.bel.size
                    have HLL := Lib.hid hL
                    clear hL hown7 hgrow own6 hnew
                    go_wp2
                    go_roundw
                    case rel => exact ⟨j + 1, by omega, by go_num, HLL.out⟩
                    case measure => simp [intOf]; omega
          · obtain rfl : j = k.length := by omega
            rw [List.take_length] at hL
            obtain ⟨a1, a2, a3, a4⟩ := refr_all (src := src) k U [] HOK1.out
            have hUN := HUN.out
            obtain ⟨P, hP⟩ : ∃ P, refrS src k U [] = P := ⟨_, rfl⟩
            rw [hP] at hL a1 a2 a3 a4 hUN
            have hf : P.1.found = [] := by rw [a2, HUK.out.2]
            have hll : P.2.length ≤ 64 := by simp at a4; omega
            obtain ⟨pa, pn, pc, qa, qn, qc, ra, rn, rc, hr1, hpar, -, -, hown, hfin, hbel⟩ := hL
            have CA := Lib.hid (searched_any src 48 pa qa ra pn pc qn qc rn rc 1 281474976710654 P.1 wr all_in.1 all_in.2.1 all_in.2.2.1 all_in.2.2.2 a1 hpar)
            have HSO := Lib.hid (search_ok 48 1 281474976710654 P.1 all_in.1 all_in.2.1 all_in.2.2.1 a1)
            have HU2 : Hid (refrU l src k = searchS src 48 1 281474976710654 P.1) := by show refrU l src k = _; rw [HU.out, hUN]
            have HL2 : Hid (refrL l src k = P.2) := by show refrL l src k = _; rw [HL.out, hUN]
            obtain ⟨u, hu⟩ : ∃ u, searchS src 48 1 281474976710654 P.1 = u := ⟨_, rfl⟩
            obtain ⟨Q1, hQ1⟩ : ∃ Q, P.1.seq = Q := ⟨_, rfl⟩
            obtain ⟨N1, hN1⟩ : ∃ N, IntKind.i64.wrap (P.1.msgs : Int) = N := ⟨_, rfl⟩
            rw [hu] at HSO HU2
            rw [hu, hQ1, hN1] at CA
            rw [hQ1, hN1] at hr1
            obtain ⟨la, lm, lc, rfl⟩ := own_slice hown
            have KP := Lib.hid (Keep14.mk hr1 hown hfin hbel)
            have HLL := Lib.hid hll
            obtain ⟨p1, p2, p3, p4, p5, p6⟩ := row_facts hr1
            have hwk1 : ¬ w.heap.size = k1 := hne
            have hlk1 : w.heap.size ≤ k1 := hle4
            clear hr1 hpar hown hfin hbel a1 a2 a3 a4 hUN hP hf hu hlt2 hj hll hQ1 hN1
            go_wp2_with fail
            refine CA.out.mono ?_
            rintro e w3 ⟨y, rfl, hy, hb3⟩
            obtain ⟨xa, xn, xc, ya, yn, yc, za, zn, zc, rfl, hp3⟩ := hy
            obtain ⟨Q2, hQ2⟩ : ∃ Q, u.seq = Q := ⟨_, rfl⟩
            obtain ⟨N2, hN2⟩ : ∃ N, IntKind.i64.wrap (u.msgs : Int) = N := ⟨_, rfl⟩
            rw [stA, hQ2, hN2]
            have kp3 := KP.out.run hb3
            obtain ⟨q1, q2, q3, q4, q5, q6⟩ := row_facts kp3.box
            have K5 := Lib.hid (keep_into (v0 := .slice xa xn xc) (v1 := .slice ya yn yc) (v2 := .int .u64 src) (v3 := .int .i64 Q2) (v4 := .slice za zn zc) (v5 := .int .i64 N2) kp3 hp3 hwk1 hlk1)
            have HNN := Lib.hid hN2
            clear p1 p2 p3 p4 p5 p6 hQ2 hN2 kp3 hp3 hb3 CA
            go_upto_region 20 with fail
            generalize ((((((w3.setCell ⟨k1, 0, none⟩ (.slice xa xn xc)).setCell ⟨k1, 1, none⟩ (.slice ya yn yc)).setCell ⟨k1, 2, none⟩ (.int .u64 src)).setCell ⟨k1, 3, none⟩ (.int .i64 Q2)).setCell ⟨k1, 4, none⟩ (.slice za zn zc)).setCell ⟨k1, 5, none⟩ (.int .i64 N2)) = w5 at K5 ⊢
            obtain ⟨kp5, hp5⟩ := K5.out
            have c1 := cell_fact kp5.box 1
            have c4 := cell_fact kp5.box 4
            have c5 := cell_fact kp5.box 5
            have hlk5 := lt_of_block kp5.box
            obtain ⟨y1, y2, y3, y4, y5, y6⟩ := row_facts kp5.fin
            have hne2 : ¬ k1 = w.heap.size := fun e => hwk1 e.symm
            have PTS := Lib.hid (rparts_two (u1 := .slice za zn zc) (u2 := .int .i64 N2) kp5.fin hp5)
            have HIL := Lib.hid (ids_two (u1 := .slice za zn zc) (u2 := .int .i64 N2) kp5.fin (own_ids kp5.own rfl (by have := HLL.out; omega)))
            have KP5 := Lib.hid kp5
            clear q1 q2 q3 q4 q5 q6 K5 kp5 hp5
            go_region_held3 (fun w' => w'.cell? ⟨k1, 1, none⟩ = some (.slice ya yn yc) ∧ w'.cell? ⟨k1, 4, none⟩ = some (.slice za zn zc) ∧ w'.cell? ⟨k1, 5, none⟩ = some (.int .i64 N2)) (go_keep) (fail)
            all_goals go_wp2
            all_goals
              rw [HE.out, HU2.out, HL2.out]
              obtain ⟨p1, p2⟩ := PTS.out
              have hr4 : RowAt ((w5.setCell ⟨w.heap.size, 0, none⟩ (.slice za zn zc)).setCell ⟨w.heap.size, 1, none⟩ (.int .i64 N2)) w.heap.size 36 #[.slice za zn zc, .int .i64 N2] := RowAt.set (RowAt.set KP5.out.fin rfl) rfl
              refine bodyPost_ret (v := .tuple #[.slice ya yn yc, .agg #[.slice za zn zc, .int .i64 N2], .slice la lm lc, .int .i64 0]) ?_ rfl ⟨_, _, _, by rw [HNN.out], p1, p2, HIL.out, Below.drew (below_one (below_one KP5.out.bel (Nat.le_refl _)) (Nat.le_refl _))⟩
              simp [results, Tryz.results23, go_sem, cell_fact hr4]
      · have e9 : (c != 0) = true := by simpa using hc0
        have HZ := Lib.hid (refr_zero HE.out hc0)
        clear hc0
        go_wp2
        rw [HE.out, HZ.out.1, HZ.out.2]
        refine bodyPost_ret (v := .tuple #[.slice none 0 0, .agg #[.slice none 0 0, .int .i64 0], .slice none 0 0, .int .i64 c]) ?_ rfl (refr_bad (by have := HB2.out; (repeat' (first | (with_reducible exact Below.refl _ _) | (with_reducible assumption) | (with_reducible refine below_run ?_ (by assumption)) | (with_reducible refine below_of_upd ?_ (by assumption) ?_) | (with_reducible refine below_drewN ?_ _) | (with_reducible refine Below.drew ?_) | (with_reducible refine below_seven ?_ ?_) | (with_reducible refine below_six ?_ ?_) | (with_reducible refine below_one ?_ ?_) | (with_reducible refine Below.alloc ?_ ?_ _) | (with_reducible refine below_after ?_ ?_ (by assumption)) | (show _ ≤ _; first | omega | (simp; done) | (simp; omega))))))
        simp [results, Tryz.results23, go_sem, *]
  · have e9 : (n != 0) = true := by simpa using z
    have hB : beginE l src 0 = n := by rw [beginE, if_pos (by rw [HN.out]; exact z), HN.out]
    have HE := Lib.hid (show refrE l src k = n by rw [refrE, if_pos (by rw [hB]; exact z), hB])
    have HZ := Lib.hid (refr_zero HE.out z)
    clear z hB
    go_wp2
    rw [HE.out, HZ.out.1, HZ.out.2]
    refine bodyPost_ret (v := .tuple #[.slice none 0 0, .agg #[.slice none 0 0, .int .i64 0], .slice none 0 0, .int .i64 n]) ?_ rfl (refr_bad (by have := HB1.out; (repeat' (first | (with_reducible exact Below.refl _ _) | (with_reducible assumption) | (with_reducible refine below_run ?_ (by assumption)) | (with_reducible refine below_of_upd ?_ (by assumption) ?_) | (with_reducible refine below_drewN ?_ _) | (with_reducible refine Below.drew ?_) | (with_reducible refine below_seven ?_ ?_) | (with_reducible refine below_six ?_ ?_) | (with_reducible refine below_one ?_ ?_) | (with_reducible refine Below.alloc ?_ ?_ _) | (with_reducible refine below_after ?_ ?_ (by assumption)) | (show _ ≤ _; first | omega | (simp; done) | (simp; omega))))))
    simp [results, Tryz.results23, go_sem, *]
end Go.Proofs.YtiemdccjphdbmaaGreat
