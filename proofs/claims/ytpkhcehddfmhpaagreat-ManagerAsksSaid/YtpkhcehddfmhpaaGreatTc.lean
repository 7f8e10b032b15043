/-
  The reference's Send.
  The reference's Asked.
  The reference's Ask.
-/
import Derived.Test.YtpkhcehddfmhpaaGreatQs
import Derived.Test.YtpkhcehddfmhpaaGreatQn
import Derived.Test.YtpkhcehddfmhpaaGreatRchk
namespace Go.Proofs.YtpkhcehddfmhpaaGreat
open Go.RowKit Go.Shelf

/-- From a block on. -/
def FreshB (B : Nat) (v : Value) : Prop := ∀ g, v.ownBlock = some g → B ≤ g
/-- In no block from K to B. -/
def OutB (K B : Nat) (v : Value) (n : Nat) : Prop := n ≠ 0 → ∀ g, v.ownBlock = some g → g < K ∨ B ≤ g
theorem out_of {S n n0 K B : Nat} {w w2 : World} {v v0 : Value} {cs cs0 : Nat → Option Value} (h0 : SeqAt w S v0 n0 cs0) (hor : v = v0 ∨ FreshB B v) (hk : w.heap.size ≤ K) (h : SeqAt w2 S v n cs) : OutB K B v n := by
  intro hn g hg
  rcases hor with rfl | hf
  · left
    obtain ⟨a, c, rfl⟩ := shape_of h
    rcases h0 with ⟨e0, a', c', e⟩ | ⟨_, _, b, off, cap, e, hlt, _⟩
    · exact absurd (Value.slice.inj e).2.1 hn
    · obtain ⟨rfl, -, -⟩ := Value.slice.inj e
      have hg' : b = g := by simpa [Value.ownBlock] using hg
      omega
  · exact .inr (hf g hg)
theorem seq_out {S n b K B : Nat} {w w' : World} {v : Value} {cs : Nat → Option Value} (h : SeqAt w S v n cs) (ho : OutB K B v n) (h1 : K ≤ b) (h2 : b < B) (hu : Upd b w w') : SeqAt w' S v n cs := by
  rcases h with ⟨h0, a, c, rfl⟩ | ⟨h0, h3, g, off, cap, rfl, hlt, hc⟩
  · exact .inl ⟨h0, a, c, rfl⟩
  · have hg := ho (by omega) g rfl
    exact SeqAt.same (.inr ⟨h0, h3, g, off, cap, rfl, hlt, hc⟩) hu.size fun g' off' cap' e _ _ => by
      cases e
      exact hu.block g hlt (fun e => by cases e; omega)
/-- The wire in the rounds: in old memory, or in new. -/
structure WireI (K B : Nat) (w wr : World) (dv0 fv0 lv0 : Value) (y0 : Wre) (dv fv lv : Value) (y : Wre) : Prop where
  devs : DevsAt wr dv y.devs
  late : StrsAt wr lv y.late
  nil : NilOne lv
  room : RoomOk fv
  hd : dv = dv0 ∨ FreshB B dv
  hl : lv = lv0 ∨ FreshB B lv
  hf : SubInts fv0 y0.faults fv y.faults
theorem WireI.run {K B : Nat} {w wr wx : World} {dv0 fv0 lv0 dv fv lv : Value} {y0 y : Wre} (h : WireI K B w wr dv0 fv0 lv0 y0 dv fv lv y) (hb : Below wr.heap.size wr wx) : WireI K B w wx dv0 fv0 lv0 y0 dv fv lv y :=
  ⟨h.devs.below hb, h.late.runM hb, h.nil, h.room, h.hd, h.hl, h.hf⟩
theorem WireI.upd {K B b : Nat} {w wr wx : World} {dv0 fv0 lv0 dv fv lv : Value} {y0 y : Wre} (h : WireI K B w wr dv0 fv0 lv0 y0 dv fv lv y) (h0 : WireS w dv0 fv0 lv0 y0) (hk : w.heap.size ≤ K) (hu : Upd b wr wx) (h1 : K ≤ b) (h2 : b < B) : WireI K B w wx dv0 fv0 lv0 y0 dv fv lv y :=
  ⟨seq_out h.devs (out_of h0.r.devs h.hd hk h.devs) h1 h2 hu, seq_out h.late (out_of h0.r.late h.hl hk h.late) h1 h2 hu, h.nil, h.room, h.hd, h.hl, h.hf⟩
theorem WireI.s {K B : Nat} {w wr : World} {dv0 fv0 lv0 dv fv lv : Value} {y0 y : Wre} (h : WireI K B w wr dv0 fv0 lv0 y0 dv fv lv y) (h0 : WireS w dv0 fv0 lv0 y0) (hb : Below w.heap.size w wr) : WireS wr dv fv lv y :=
  ⟨⟨h.devs, (h.hf w h0.r.faults).run hb, h.late⟩, h.nil, h.room⟩
/-- What the reference's Send returns. -/
def RSendUPost (p : Mgr × Wre × List Msg) (n : Int) (dv0 fv0 lv0 : Value) (y0 : Wre) (w : World) (e : Ending) (w' : World) : Prop :=
  ∃ da fa la ma, ∃ dn dc fn fc ln lc mn mc : Nat, e = .returned (.tuple #[mgrV p.1, .agg #[.slice da dn dc, .slice fa fn fc, .slice la ln lc], .slice ma mn mc, .int .i64 n]) ∧ WireI w.heap.size w.heap.size w w' dv0 fv0 lv0 y0 (.slice da dn dc) (.slice fa fn fc) (.slice la ln lc) p.2.1 ∧ MsgsAt w' (.slice ma mn mc) p.2.2 ∧ Below w.heap.size w w'
theorem wireI_zero (K B : Nat) (w wr : World) (dv fv lv : Value) (y : Wre) : WireI K B w wr dv fv lv y (.slice none 0 0) (.slice none 0 0) (.slice none 0 0) zeroWre :=
  ⟨.inl ⟨rfl, _, _, rfl⟩, .inl ⟨rfl, _, _, rfl⟩, nilone_nil, (fun _ _ _ e => by cases e; exact Nat.le_refl _), .inr (fun g e => by cases e), .inr (fun g e => by cases e), fun V _ => .inl ⟨rfl, _, _, rfl⟩⟩
theorem wireS_zero (w : World) : WireS w (.slice none 0 0) (.slice none 0 0) (.slice none 0 0) zeroWre :=
  ⟨⟨.inl ⟨rfl, _, _, rfl⟩, .inl ⟨rfl, _, _, rfl⟩, .inl ⟨rfl, _, _, rfl⟩⟩, nilone_nil, fun _ _ _ e => by cases e; exact Nat.le_refl _⟩
/-- What lies in a new block does not change where an old one does. -/
theorem seq_fresh {S n b : Nat} {w1 w w' : World} {v : Value} {cs : Nat → Option Value} (h : SeqAt w S v n cs) (hf : Fresh w1 v) (hb : b < w1.heap.size) (hu : Upd b w w') : SeqAt w' S v n cs := by
  rcases h with ⟨h0, a, c, rfl⟩ | ⟨h0, h1, g, off, cap, rfl, hlt, hc⟩
  · exact .inl ⟨h0, a, c, rfl⟩
  · have hg := hf g rfl
    exact SeqAt.same (.inr ⟨h0, h1, g, off, cap, rfl, hlt, hc⟩) hu.size fun g' off' cap' e _ _ => by
      cases e
      exact hu.block g hlt (fun e => by cases e; omega)
theorem devs_out {k : Nat} {w w1 w2 : World} {dv v : Value} {l l' : List Dev} (h : DevsAt w dv l) (hor : v = dv ∨ Fresh w1 v) (hk : w.heap.size = k) (h1 : k + 5 ≤ w1.heap.size) (hd : DevsAt w2 v l') : DevsOut k w2 v l' := by
  refine ⟨hd, fun hn g hg => ?_⟩
  rcases hor with rfl | hf
  · left
    obtain ⟨a, c, rfl⟩ := shape_of hd
    rcases h with ⟨h0, a', c', e⟩ | ⟨_, _, b, off, cap, e, hlt, _⟩
    · exact absurd (Value.slice.inj e).2.1 hn
    · obtain ⟨rfl, -, -⟩ := Value.slice.inj e
      have hg' : b = g := by simpa [Value.ownBlock] using hg
      omega
  · right
    have := hf g hg
    omega

end Go.Proofs.YtpkhcehddfmhpaaGreat

namespace Go.Proofs.YtpkhcehddfmhpaaGreat
open Go.RowKit Go.Shelf

/-- What asking leaves. -/
def RAskedPost (p : Mgr × Wre × Rsl) (dv0 fv0 lv0 : Value) (y0 : Wre) (w : World) (e : Ending) (w' : World) : Prop :=
  ∃ da fa la, ∃ dn dc fn fc ln lc : Nat, e = .returned (.tuple #[mgrV p.1, .agg #[.slice da dn dc, .slice fa fn fc, .slice la ln lc], rslV p.2.2]) ∧ WireI w.heap.size w.heap.size w w' dv0 fv0 lv0 y0 (.slice da dn dc) (.slice fa fn fc) (.slice la ln lc) p.2.1 ∧ Below w.heap.size w w'
theorem WireI.mono {K B K' B' : Nat} {w wr : World} {dv0 fv0 lv0 dv fv lv : Value} {y0 y : Wre} (h : WireI K B w wr dv0 fv0 lv0 y0 dv fv lv y) (hB : B' ≤ B) : WireI K' B' w wr dv0 fv0 lv0 y0 dv fv lv y :=
  ⟨h.devs, h.late, h.nil, h.room, h.hd.imp id (fun f g e => Nat.le_trans hB (f g e)), h.hl.imp id (fun f g e => Nat.le_trans hB (f g e)), h.hf⟩
theorem asked_post {p : Mgr × Wre × Rsl} {dv0 fv0 lv0 : Value} {y0 : Wre} {w w' : World} {da fa la : Option Addr} {dn dc fn fc ln lc : Nat} {e : Ending} (h : WireI w.heap.size (w.heap.size + 6) w w' dv0 fv0 lv0 y0 (.slice da dn dc) (.slice fa fn fc) (.slice la ln lc) p.2.1) (hb : Below w.heap.size w w') (he : e = .returned (.tuple #[mgrV p.1, .agg #[.slice da dn dc, .slice fa fn fc, .slice la ln lc], rslV p.2.2])) : RAskedPost p dv0 fv0 lv0 y0 w e w' :=
  ⟨da, fa, la, dn, dc, fn, fc, ln, lc, he, h.mono (by omega), hb⟩
theorem SRows.both {k : Nat} {w wx : World} {x : Mgr} {r : Rqs} {dv fv lv d f l : Value} {i s t : Int} (h : SRows k w wx x r dv fv lv) :
    SRows k w ((((((wx.setCell ⟨k, 0, none⟩ (.int .u64 i)).setCell ⟨k, 1, none⟩ (.int .i64 s)).setCell ⟨k, 2, none⟩ (.int .i64 t)).setCell ⟨k + 1, 0, none⟩ d).setCell ⟨k + 1, 1, none⟩ f).setCell ⟨k + 1, 2, none⟩ l) ⟨i, s, t⟩ r d f l :=
  ⟨(row3 h.m).far3 (by omega), row3 (h.b.far3 (by omega)), (h.q.far3 (by omega)).far3 (by omega), (h.z.far3 (by omega)).far3 (by omega), (h.y.far3 (by omega)).far3 (by omega), below_three (below_three h.below (Nat.le_refl _)) (by omega)⟩
/-- What is so in each round. -/
def RAskRel (x : Mgr) (r : Rqs) (p : Mgr × Wre × Rsl) (dv0 fv0 lv0 : Value) (y0 : Wre) (w wr : World) (i : Value) : Prop :=
  ∃ (n : Nat) (t : Int) (x' : Mgr) (y' : Wre) (da fa la : Option Addr), ∃ dn dc fn fc ln lc : Nat, i = .int .i64 t ∧ 1 ≤ t ∧ t + n = x.tries + 1 ∧ SRows w.heap.size w wr x' r (.slice da dn dc) (.slice fa fn fc) (.slice la ln lc) ∧ RowAt wr (w.heap.size + 5) 45 #[.int .i64 0, .string ⟨#[]⟩, .int .i64 0, .int .i64 0] ∧
    WireI w.heap.size (w.heap.size + 6) w wr dv0 fv0 lv0 y0 (.slice da dn dc) (.slice fa fn fc) (.slice la ln lc) y' ∧ wireE y' = 0 ∧ chk (ofM x' r) = 0 ∧ x'.tries = x.tries ∧ askF r n t x' y' = p

set_option maxHeartbeats 16000000 in
set_option maxRecDepth 100000 in
theorem rasked_any (x : Mgr) (da fa la : Option Addr) (dn dc fn fc ln lc : Nat) (y : Wre) (dst kind par : Int) (dat : ByteArray) (w : World) (h : WireS w (.slice da dn dc) (.slice fa fn fc) (.slice la ln lc) y) (hy : wireE y = 0) (hm : chk (ofM x ⟨dst, kind, par, dat⟩) = 0) (ht1 : 1 ≤ x.tries) (ht2 : x.tries ≤ 16) (hds : dat.size ≤ 9223372036854775807) :
    Calls Tryz.prog 27 #[.agg #[.int .u64 x.id, .int .i64 x.seq, .int .i64 x.tries], .agg #[.slice da dn dc, .slice fa fn fc, .slice la ln lc], .agg #[.int .u64 dst, .int .i64 kind, .int .i64 par, .string dat]] w (RAskedPost (askM x y ⟨dst, kind, par, dat⟩) (.slice da dn dc) (.slice fa fn fc) (.slice la ln lc) y w) := by
  obtain ⟨id, seq, tries⟩ := x
  dsimp only at ht1 ht2
  obtain ⟨p, hp⟩ : ∃ p, askM ⟨id, seq, tries⟩ y ⟨dst, kind, par, dat⟩ = p := ⟨_, rfl⟩
  rw [hp]
  show Calls Tryz.prog 27 #[.agg #[.int .u64 id, .int .i64 seq, .int .i64 tries], _, _] w _
  obtain ⟨W0, hW0⟩ : ∃ W, ((((w.alloc (.cells #[.int .u64 id, .int .i64 seq, .int .i64 tries] 41)).alloc (.cells #[.slice da dn dc, .slice fa fn fc, .slice la ln lc] 44)).alloc (.cells #[.int .u64 dst, .int .i64 kind, .int .i64 par, .string dat] 49)).alloc (.cells #[.int .u64 0, .int .i64 0, .int .i64 0] 41)).alloc (.cells #[.slice none 0 0, .slice none 0 0, .slice none 0 0] 44) = W := ⟨_, rfl⟩
  have hbW : Below w.heap.size w W0 := by rw [← hW0]; (repeat' (first | (with_reducible exact Below.refl _ _) | (with_reducible assumption) | (with_reducible refine below_run ?_ (by assumption)) | (with_reducible refine below_of_upd ?_ (by assumption) ?_) | (with_reducible refine below_drewN ?_ _) | (with_reducible refine Below.drew ?_) | (with_reducible refine below_seven ?_ ?_) | (with_reducible refine below_six ?_ ?_) | (with_reducible refine below_one ?_ ?_) | (with_reducible refine Below.alloc ?_ ?_ _) | (with_reducible refine below_after ?_ ?_ (by assumption)) | (show _ ≤ _; first | omega | (simp; done) | (simp; omega))))
  have hS : SRows w.heap.size w W0 ⟨id, seq, tries⟩ ⟨dst, kind, par, dat⟩ (.slice da dn dc) (.slice fa fn fc) (.slice la ln lc) := by
    refine ⟨?_, ?_, ?_, ?_, ?_, hbW⟩ <;> rw [← hW0]
    · exact ((((RowAt.new _ _ _).alloc _).alloc _).alloc _).alloc _
    · exact (((RowAt.mk (by simp) rfl).alloc _).alloc _).alloc _
    · exact ((RowAt.mk (by simp) rfl).alloc _).alloc _
    · exact (RowAt.mk (by simp) rfl).alloc _
    · exact RowAt.mk (by simp) rfl
  have hz0 : W0.heap.size = w.heap.size + 5 := by rw [← hW0]; simp
  obtain ⟨W, hW⟩ : ∃ W, W0.alloc (.cells #[.int .i64 0, .string ⟨#[]⟩, .int .i64 0, .int .i64 0] 45) = W := ⟨_, rfl⟩
  have hb0 : Below W0.heap.size W0 W := hW ▸ (Below.refl _ _).alloc (Nat.le_refl _) _
  have hS' := hS.run hb0
  have hR : RowAt W (w.heap.size + 5) 45 #[.int .i64 0, .string ⟨#[]⟩, .int .i64 0, .int .i64 0] := by rw [← hW, ← hz0]; exact RowAt.new _ _ _
  have HREL := Lib.hid (show RAskRel ⟨id, seq, tries⟩ ⟨dst, kind, par, dat⟩ p (.slice da dn dc) (.slice fa fn fc) (.slice la ln lc) y w W (.int .i64 1) from
    ⟨tries.toNat, 1, ⟨id, seq, tries⟩, y, da, fa, la, dn, dc, fn, fc, ln, lc, rfl, by omega, by show 1 + (tries.toNat : Int) = tries + 1; omega, hS', hR, ⟨h.r.devs.below hS'.below, h.r.late.runM hS'.below, h.nil, h.room, .inl rfl, .inl rfl, fun V hV => hV⟩, hy, hm, rfl, hp⟩)
  have H0 := Lib.hid h
  have HDS := Lib.hid hds
  clear h hy hm hp hbW hS hS' hR hb0 hds
  go_enter Tryz.func27, Tryz.ntmps27
  go_upto_region 1 with fail
  clear hW hW0 hz0
  rw [show w.heap.size + 1 + 1 + 1 + 1 + 1 = w.heap.size + 5 from rfl, show w.heap.size + 1 + 1 + 1 + 1 = w.heap.size + 4 from rfl, show w.heap.size + 1 + 1 + 1 = w.heap.size + 3 from rfl, show w.heap.size + 1 + 1 = w.heap.size + 2 from rfl]
  go_wp2
  go_loopw [9, 10, 11, 12, 13, 14] (fun i _ _ _ _ _ wr => RAskRel ⟨id, seq, tries⟩ ⟨dst, kind, par, dat⟩ p (.slice da dn dc) (.slice fa fn fc) (.slice la ln lc) y w wr i) (fun i _ _ _ _ _ _ => (tries + 1 - intOf i).toNat)
  case atStart => exact HREL.out
  case round =>
    clear HREL
    obtain ⟨n, t, ⟨id', seq', tries'⟩, y', a1, a2, a3, n1, c1, n2, c2, n3, c3, rfl, ht, htn, hS, hR, hWI, hy', hc', htr, hp'⟩ := hrel
    dsimp only at htr
    subst htr
    have HS := Lib.hid hS
    have HR := Lib.hid hR
    have HWI := Lib.hid hWI
    have HP := Lib.hid hp'
    have HC := Lib.hid hc'
    have HY := Lib.hid hy'
    have hz := hS.size
    have hzr := lt_of_block hR
    obtain ⟨x1, x2, x3, x4, x5, x6⟩ := row_facts hS.m
    obtain ⟨y1, y2, y3, y4, y5, y6⟩ := row_facts hS.b
    obtain ⟨z1, z2, z3, z4, z5, z6⟩ := row_facts hS.q
    dsimp only at htn
    clear hS hR hWI hp' hc' hy'
    by_cases hle : t ≤ tries'
    · obtain ⟨n, rfl⟩ : ∃ k, n = k + 1 := ⟨n - 1, by omega⟩
      have hk' : (small_of_chk HC.out).2.2.2.2.1 = (small_of_chk HC.out).2.2.2.2.1 := rfl
      have CS := Lib.hid (fun (V : World) (hb : Below wr.heap.size wr V) => rsent_any ⟨id', seq', tries'⟩ a1 a2 a3 n1 c1 n2 c2 n3 c3 y' dst kind par dat V (((HWI.out.run hb).s H0.out (below_run HS.out.below hb))) HY.out HC.out ⟨(small_of_chk HC.out).2.2.2.2.1, (small_of_chk HC.out).2.2.2.2.2.1⟩ HDS.out)
      go_wp2_with fail
      refine (rmof_any _ _ _ _ _ _ _ _).mono ?_
      rintro e w1 ⟨rfl, hb1⟩
      have hS1 := HS.out.run hb1
      clear x1 x2 x3 x4 x5 x6 y1 y2 y3 y4 y5 y6 z1 z2 z3 z4 z5 z6
      obtain ⟨x1, x2, x3, x4, x5, x6⟩ := row_facts hS1.m
      obtain ⟨y1, y2, y3, y4, y5, y6⟩ := row_facts hS1.b
      obtain ⟨z1, z2, z3, z4, z5, z6⟩ := row_facts hS1.q
      have HB1 := Lib.hid hb1
      clear hb1 hS1
      go_upto_region 5 with fail
      have hb12 : Below w1.heap.size w1 (w1.alloc (.cells #[.int .u64 dst, .int .u64 id', .int .i64 seq', .int .i64 kind, .int .i64 par, .string dat] 52)) := (Below.refl _ _).alloc (Nat.le_refl _) _
      have hmr : RowAt (w1.alloc (.cells #[.int .u64 dst, .int .u64 id', .int .i64 seq', .int .i64 kind, .int .i64 par, .string dat] 52)) w1.heap.size 52 #[.int .u64 dst, .int .u64 id', .int .i64 seq', .int .i64 kind, .int .i64 par, .string dat] := RowAt.new _ _ _
      have hb2 := below_run HB1.out hb12
      have hS2 := HS.out.run hb2
      have hzw := HB1.out.size
      clear x1 x2 x3 x4 x5 x6 y1 y2 y3 y4 y5 y6 z1 z2 z3 z4 z5 z6 HB1
      generalize (w1.alloc (.cells #[.int .u64 dst, .int .u64 id', .int .i64 seq', .int .i64 kind, .int .i64 par, .string dat] 52)) = W2 at hb12 hmr hb2 hS2 ⊢
      clear hb12
      generalize w1.heap.size = k1 at hmr hzw ⊢
      have HMR := Lib.hid hmr
      have HB2 := Lib.hid hb2
      have HS2 := Lib.hid hS2
      obtain ⟨x1, x2, x3, x4, x5, x6⟩ := row_facts hS2.m
      obtain ⟨y1, y2, y3, y4, y5, y6⟩ := row_facts hS2.b
      obtain ⟨z1, z2, z3, z4, z5, z6⟩ := row_facts hS2.q
      clear hmr hb2 hS2
      go_wp2_with fail
      refine (CS.out _ HB2.out).mono ?_
      rintro e w3 ⟨d2, f2, l2, ma, n2', c2', m2, e2, o2, g2, mn, mc, he, hw3, hm3, hb3, hor, hsub, hfl, hfm⟩
      obtain ⟨⟨i9, s9, t9⟩, hnx⟩ : ∃ x9, nextM ⟨id', seq', tries'⟩ = x9 := ⟨_, rfl⟩
      obtain ⟨y9, hy9⟩ : ∃ y9, sendW ⟨id', seq', tries'⟩ ⟨dst, kind, par, dat⟩ y' = y9 := ⟨_, rfl⟩
      obtain ⟨L, hL⟩ : ∃ L, hearW ⟨id', seq', tries'⟩ ⟨dst, kind, par, dat⟩ y' = L := ⟨_, rfl⟩
      have HPA := HP.out
      rw [askF, hL, hnx, hy9] at HPA
      have HY9 := Lib.hid (hy9 ▸ send_right HY.out HC.out)
      have HC9 := Lib.hid (hnx ▸ of_next (r := ⟨dst, kind, par, dat⟩) HC.out)
      have HT9 := Lib.hid (show t9 = tries' from by have := congrArg Mgr.tries hnx; exact this.symm)
      rw [hy9] at hw3 hsub
      rw [hL] at hm3
      rw [hnx] at he
      have he' : e = .returned (.tuple #[.agg #[.int .u64 i9, .int .i64 s9, .int .i64 t9], .agg #[.slice d2 n2' c2', .slice f2 m2 e2, .slice l2 o2 g2], .slice ma mn mc]) := he
      subst he'
      have hW3 := HWI.out.run (below_run HB2.out hb3)
      have hz2 := HB2.out.size
      have hd9 : Value.slice d2 n2' c2' = Value.slice da dn dc ∨ FreshB (w.heap.size + 6) (Value.slice d2 n2' c2') := by
        rcases hor with e | f
        · rw [e]
          exact HWI.out.hd
        · exact .inr fun g hg => by have := f g hg; omega
      have HWI3 := Lib.hid (show WireI w.heap.size (w.heap.size + 6) w w3 (.slice da dn dc) (.slice fa fn fc) (.slice la ln lc) y (.slice d2 n2' c2') (.slice f2 m2 e2) (.slice l2 o2 g2) y9 from
        ⟨hw3.r.devs, hw3.r.late, hw3.nil, hw3.room, hd9, .inr (fun g hg => by have := hfl g hg; omega), fun V hV => hsub V (HWI.out.hf V hV)⟩)
      have HS3 := Lib.hid (HS2.out.run hb3)
      have HMR3 := Lib.hid (HMR.out.run hb3)
      have HR3 := Lib.hid ((HR.out.run HB2.out).run hb3)
      have HM3 := Lib.hid hm3
      have HFM := Lib.hid (show FreshB (w.heap.size + 6) (.slice ma mn mc) from fun g hg => by have := hfm g hg; omega)
      have HPP := Lib.hid HPA
      have hz3 := hb3.size
      clear hd9 x1 x2 x3 x4 x5 x6 y1 y2 y3 y4 y5 y6 z1 z2 z3 z4 z5 z6 he hnx hy9 hL hW3 hw3 hm3 hb3 hor hsub hfl hfm HPA HMR HB2 HS2 HR HS HWI HY HC CS HP
      go_upto_region 6 with fail
      have hbT : Below w3.heap.size w3 ((w3.alloc (.cells #[.int .u64 i9, .int .i64 s9, .int .i64 t9] 41)).alloc (.cells #[.slice d2 n2' c2', .slice f2 m2 e2, .slice l2 o2 g2] 44)) := by (repeat' (first | (with_reducible exact Below.refl _ _) | (with_reducible assumption) | (with_reducible refine below_run ?_ (by assumption)) | (with_reducible refine below_of_upd ?_ (by assumption) ?_) | (with_reducible refine below_drewN ?_ _) | (with_reducible refine Below.drew ?_) | (with_reducible refine below_seven ?_ ?_) | (with_reducible refine below_six ?_ ?_) | (with_reducible refine below_one ?_ ?_) | (with_reducible refine Below.alloc ?_ ?_ _) | (with_reducible refine below_after ?_ ?_ (by assumption)) | (show _ ≤ _; first | omega | (simp; done) | (simp; omega))))
      have r11 : RowAt ((w3.alloc (.cells #[.int .u64 i9, .int .i64 s9, .int .i64 t9] 41)).alloc (.cells #[.slice d2 n2' c2', .slice f2 m2 e2, .slice l2 o2 g2] 44)) w3.heap.size 41 #[.int .u64 i9, .int .i64 s9, .int .i64 t9] := (RowAt.new _ _ _).alloc _
      have r12 : RowAt ((w3.alloc (.cells #[.int .u64 i9, .int .i64 s9, .int .i64 t9] 41)).alloc (.cells #[.slice d2 n2' c2', .slice f2 m2 e2, .slice l2 o2 g2] 44)) (w3.heap.size + 1) 44 #[.slice d2 n2' c2', .slice f2 m2 e2, .slice l2 o2 g2] := RowAt.mk (by simp) rfl
      have hS5 := HS3.out.run hbT
      have hI5 := HWI3.out.run hbT
      have hR5 := HR3.out.run hbT
      have hM5 := HM3.out.run hbT
      have hK5 := HMR3.out.run hbT
      have hz33 := lt_of_block HR3.out
      have hzk1 := lt_of_block HMR3.out
      generalize ((w3.alloc (.cells #[.int .u64 i9, .int .i64 s9, .int .i64 t9] 41)).alloc (.cells #[.slice d2 n2' c2', .slice f2 m2 e2, .slice l2 o2 g2] 44)) = W5 at hbT r11 r12 hS5 hI5 hR5 hM5 hK5 ⊢
      generalize w3.heap.size = k3 at r11 r12 hz33 hzk1 ⊢
      have HS5 := Lib.hid hS5
      have HI5 := Lib.hid hI5
      have HR5 := Lib.hid hR5
      have HM5 := Lib.hid hM5
      have HK5 := Lib.hid hK5
      obtain ⟨x1, x2, x3, x4, x5, x6⟩ := row_facts r11
      obtain ⟨y1, y2, y3, y4, y5, y6⟩ := row_facts r12
      obtain ⟨z1, z2, z3, z4, z5, z6⟩ := row_facts hS5.m
      obtain ⟨v1, v2, v3, v4, v5, v6⟩ := row_facts hS5.b
      (try (have hn : ¬ k3 = w.heap.size := (by omega); have hn' : ¬ w.heap.size = k3 := (by omega)))
      (try (have hn : ¬ k3 = w.heap.size + 1 := (by omega); have hn' : ¬ w.heap.size + 1 = k3 := (by omega)))
      (try (have hn : ¬ k3 + 1 = w.heap.size := (by omega); have hn' : ¬ w.heap.size = k3 + 1 := (by omega)))
      (try (have hn : ¬ k3 + 1 = w.heap.size + 1 := (by omega); have hn' : ¬ w.heap.size + 1 = k3 + 1 := (by omega)))
      (try (have hn : ¬ w.heap.size = w.heap.size + 1 := (by omega); have hn' : ¬ w.heap.size + 1 = w.heap.size := (by omega)))
      clear hS5 hI5 hR5 hM5 hK5 hbT r11 r12 HS3 HWI3 HR3 HM3 HMR3
      go_region_held3 (fun w' => w'.cell? ⟨k3, 0, none⟩ = some (.int .u64 i9) ∧ w'.cell? ⟨k3, 1, none⟩ = some (.int .i64 s9) ∧ w'.cell? ⟨k3, 2, none⟩ = some (.int .i64 t9) ∧ w'.cell? ⟨k3 + 1, 0, none⟩ = some (.slice d2 n2' c2') ∧ w'.cell? ⟨k3 + 1, 1, none⟩ = some (.slice f2 m2 e2) ∧ w'.cell? ⟨k3 + 1, 2, none⟩ = some (.slice l2 o2 g2)) (go_keep) (fail)
      have HS7 := Lib.hid (HS5.out.both (i := i9) (s := s9) (t := t9) (d := .slice d2 n2' c2') (f := .slice f2 m2 e2) (l := .slice l2 o2 g2))
      have HR7 := Lib.hid ((HR5.out.far3 (u0 := .int .u64 i9) (u1 := .int .i64 s9) (u2 := .int .i64 t9) (b := w.heap.size) (by omega)).far3 (u0 := .slice d2 n2' c2') (u1 := .slice f2 m2 e2) (u2 := .slice l2 o2 g2) (b := w.heap.size + 1) (by omega))
      have HK7 := Lib.hid ((HK5.out.far3 (u0 := .int .u64 i9) (u1 := .int .i64 s9) (u2 := .int .i64 t9) (b := w.heap.size) (by omega)).far3 (u0 := .slice d2 n2' c2') (u1 := .slice f2 m2 e2) (u2 := .slice l2 o2 g2) (b := w.heap.size + 1) (by omega))
      have HI7 := Lib.hid ((HI5.out.upd H0.out (Nat.le_refl _) (upd3 (u0 := .int .u64 i9) (u1 := .int .i64 s9) (u2 := .int .i64 t9) (b := w.heap.size)) (by omega) (by omega)).upd H0.out (Nat.le_refl _) (upd3 (u0 := .slice d2 n2' c2') (u1 := .slice f2 m2 e2) (u2 := .slice l2 o2 g2) (b := w.heap.size + 1)) (by omega) (by omega))
      have HM7 := Lib.hid (seq_out (seq_out HM5.out (fun _ g hg => .inr (HFM.out g hg)) (Nat.le_refl _) (by omega) (upd3 (u0 := .int .u64 i9) (u1 := .int .i64 s9) (u2 := .int .i64 t9) (b := w.heap.size))) (fun _ g hg => .inr (HFM.out g hg)) (K := w.heap.size) (by omega) (by omega) (upd3 (u0 := .slice d2 n2' c2') (u1 := .slice f2 m2 e2) (u2 := .slice l2 o2 g2) (b := w.heap.size + 1)))
      clear HS5 HI5 HR5 HM5 HK5 x1 x2 x3 x4 x5 x6 y1 y2 y3 y4 y5 y6 z1 z2 z3 z4 z5 z6 v1 v2 v3 v4 v5 v6
      obtain ⟨W6, hW6⟩ : ∃ W6, ((((((W5.setCell ⟨w.heap.size, 0, none⟩ (.int .u64 i9)).setCell ⟨w.heap.size, 1, none⟩ (.int .i64 s9)).setCell ⟨w.heap.size, 2, none⟩ (.int .i64 t9)).setCell ⟨w.heap.size + 1, 0, none⟩ (.slice d2 n2' c2')).setCell ⟨w.heap.size + 1, 1, none⟩ (.slice f2 m2 e2)).setCell ⟨w.heap.size + 1, 2, none⟩ (.slice l2 o2 g2)) = W6 := ⟨_, rfl⟩
      rw [hW6] at HS7 HR7 HK7 HI7 HM7 ⊢
      have hdr : Below W6.heap.size W6 W6.drew := Below.drew (Below.refl _ _)
      have HS8 := Lib.hid (HS7.out.run hdr)
      have HR8 := Lib.hid (HR7.out.run hdr)
      have HK8 := Lib.hid (HK7.out.run hdr)
      have HI8 := Lib.hid (HI7.out.run hdr)
      have HM8 := Lib.hid (show MsgsAt W6.drew (.slice ma mn mc) L from SeqAt.below HM7.out hdr)
      clear hdr hW6 HS7 HR7 HK7 HI7 HM7
      generalize W6.drew = W7 at HS8 HR8 HK8 HI8 HM8 ⊢
      obtain rfl : mn = L.length := by
        obtain ⟨a, c, e⟩ := shape_of HM8.out
        exact (Value.slice.inj e).2.1
      have hLl : (L.length : Int) ≤ 140737488351232 := by
        rcases HM8.out with ⟨h0, _⟩ | ⟨_, h1, _⟩ <;> omega
      have hz7 := HS8.out.size
      have hz77 := lt_of_block HR8.out
      go_wp2
      go_loopw [14] (fun i wx => ∃ j : Nat, j ≤ L.length ∧ i = .int .i64 j ∧ (L.take j).find? (matchesM (ofM ⟨id', seq', tries'⟩ ⟨dst, kind, par, dat⟩)) = none ∧ Below W7.heap.size W7 wx) (fun i _ => L.length - (intOf i).toNat)
      case atStart => exact ⟨0, Nat.zero_le _, rfl, rfl, Below.refl _ _⟩
      case round =>
        obtain ⟨j, hj, rfl, hfind, hbx⟩ := hrel
        by_cases hlt2 : j < L.length
        · have hlt3 : (j : Int) < (L.length : Int) := by omega
          have hj0 : (0 : Int) ≤ (j : Int) := by omega
          obtain ⟨b, off, e, hblt, hcel⟩ : ∃ b off, ma = some ⟨b, off, none⟩ ∧ b < wr.heap.size ∧ ∀ i, i < L.length * 6 → wr.cell? ⟨b, off + i, none⟩ = msgsC L i := by
            rcases SeqAt.below HM8.out hbx with ⟨h0, _⟩ | ⟨h0, h1, b, off, cap, hv, hbl, hcel⟩
            · omega
            · exact ⟨b, off, (Value.slice.inj hv).1, hbl, hcel⟩
          cases e
          obtain ⟨a, ha, e0, e1, e2', e3, e4, e5⟩ := msg_cells hcel j hlt2
          have hk8 := HK8.out.run hbx
          have q0 : wr.cell? ⟨k1, 0, none⟩ = some (.int .u64 dst) := cell_fact hk8 0
          have q1 : wr.cell? ⟨k1, 1, none⟩ = some (.int .u64 id') := cell_fact hk8 1
          have q2 : wr.cell? ⟨k1, 2, none⟩ = some (.int .i64 seq') := cell_fact hk8 2
          have q3 : wr.cell? ⟨k1, 3, none⟩ = some (.int .i64 kind) := cell_fact hk8 3
          have q4 : wr.cell? ⟨k1, 4, none⟩ = some (.int .i64 par) := cell_fact hk8 4
          have q5 : wr.cell? ⟨k1, 5, none⟩ = some (.string dat) := cell_fact hk8 5
          obtain ⟨q, hq⟩ : ∃ q, matchesM ⟨dst, id', seq', kind, par, dat⟩ ⟨a.dst, a.src, a.seq, a.kind, a.par, a.dat⟩ = q := ⟨_, rfl⟩
          have C := Lib.hid (fun W => refmatches_any dst id' seq' kind par a.dst a.src a.seq a.kind a.par dat a.dat W)
          rw [hq] at C
          have HQ2 := Lib.hid hq
          have HAJ := Lib.hid ha
          have HF := Lib.hid hfind
          have HBX := Lib.hid hbx
          have HCEL := Lib.hid hcel
          clear hcel ha hk8 hq hfind hbx
          go_upto_region 10 with fail
          go_region_held3 (fun w' => w'.cell? ⟨k1, 0, none⟩ = some (.int .u64 dst) ∧ w'.cell? ⟨k1, 1, none⟩ = some (.int .u64 id') ∧ w'.cell? ⟨k1, 2, none⟩ = some (.int .i64 seq') ∧ w'.cell? ⟨k1, 3, none⟩ = some (.int .i64 kind) ∧ w'.cell? ⟨k1, 4, none⟩ = some (.int .i64 par) ∧ w'.cell? ⟨k1, 5, none⟩ = some (.string dat) ∧ w'.cell? ⟨b, off + j * 6, none⟩ = some (.int .u64 a.dst) ∧ w'.cell? ⟨b, off + j * 6 + 1, none⟩ = some (.int .u64 a.src) ∧ w'.cell? ⟨b, off + j * 6 + 2, none⟩ = some (.int .i64 a.seq) ∧ w'.cell? ⟨b, off + j * 6 + 3, none⟩ = some (.int .i64 a.kind) ∧ w'.cell? ⟨b, off + j * 6 + 4, none⟩ = some (.int .i64 a.par) ∧ w'.cell? ⟨b, off + j * 6 + 5, none⟩ = some (.string a.dat)) (first | go_keep | exact ⟨cell_run hb8' q0, cell_run hb8' q1, cell_run hb8' q2, cell_run hb8' q3, cell_run hb8' q4, cell_run hb8' q5, cell_run hb8' e0, cell_run hb8' e1, cell_run hb8' e2', cell_run hb8' e3, cell_run hb8' e4, cell_run hb8' e5⟩)
            ((go_at_call 73; refine (C.out _).mono ?_; rintro e w8 ⟨rfl, hb8⟩; have hb8' : Below wr.heap.size wr w8 := (by first | exact hb8 | exact below_undrew hb8)))
          have e5' := cell_run hb8' e5
          have e3' := cell_run hb8' e3
          have HSX := Lib.hid ((HS8.out.run HBX.out).run hb8')
          have HRZ := Lib.hid ((HR8.out.run HBX.out).run hb8')
          have HWX := Lib.hid ((HI8.out.run HBX.out).run hb8')
          have hzx := HSX.out.size
          have hbl8 : b < w8.heap.size := Nat.lt_of_lt_of_le hblt hb8'.size
          have HB8 := Lib.hid (below_run HBX.out hb8')
          clear q0 q1 q2 q3 q4 q5 e0 e1 e2' e3 e4 e5 hb8 hb8' HBX C
          cases q with
          | false =>
            go_wp2
            go_roundw
            case rel => exact ⟨j + 1, by omega, by go_num, by rw [take_succ_some HAJ.out, List.find?_append, HF.out]; simp [HQ2.out, ofM], HB8.out⟩
            case measure => simp [intOf]; omega
          | true =>
            have hpick := pick_some (m := ofM ⟨id', seq', tries'⟩ ⟨dst, kind, par, dat⟩) t HF.out HAJ.out HQ2.out
            have hp2 := HPP.out
            rw [hpick] at hp2
            dsimp only at hp2
            have HPE0 := Lib.hid hp2
            have hzr8 := lt_of_block HRZ.out
            -- the message lies elsewhere
            have hob : b < w.heap.size ∨ w.heap.size + 6 ≤ b := .inr (HFM.out b rfl)
            have hn3 : ¬ w.heap.size + 3 = b := by omega
            have hn4 : ¬ w.heap.size + 4 = b := by omega
            have hn5 : ¬ w.heap.size + 5 = b := by omega
            have hn3' : ¬ b = w.heap.size + 3 := by omega
            have hn4' : ¬ b = w.heap.size + 4 := by omega
            have hn5' : ¬ b = w.heap.size + 5 := by omega
            clear hpick hp2
            by_cases hk7 : a.kind = 7
            · have hca : chk ⟨a.dst, a.src, a.seq, a.kind, a.par, a.dat⟩ = 0 := (of_decide_eq_true HQ2.out).2.1
              have hsz : a.dat.size = 1 := refuse_size hca hk7
              have h0 : 0 < a.dat.size := by omega
              have s0 : (0 : Int) < (a.dat.size : Int) := by omega
              have hres : resM t a = ⟨1, ⟨#[]⟩, ((a.dat[0]'h0).toNat : Int), t⟩ := by rw [resM, if_pos hk7, b0_eq a.dat h0]
              have e7 : (a.kind == 7) = true := by simpa using hk7
              have hb8 : ((a.dat[0]'h0).toNat : Int) < 256 := by
                have := (a.dat[0]'h0).toNat_lt
                omega
              have hwr : IntKind.i64.wrap ((a.dat[0]'h0).toNat : Int) = ((a.dat[0]'h0).toNat : Int) := by
                simp only [IntKind.wrap, IntKind.bits, IntKind.signed, Bool.true_and, decide_eq_true_eq, show (64 : Nat) - 1 = 63 from rfl, show (2 : Int) ^ 64 = 18446744073709551616 from by decide, show (2 : Int) ^ 63 = 9223372036854775808 from by decide]
                split <;> omega
              have HPE := Lib.hid (hres ▸ HPE0.out)
              clear hsz hk7 hres hca HPE0
              go_upto_region 12 with fail
              obtain ⟨x1, x2, x3, x4, x5, x6⟩ := row_facts HSX.out.m
              obtain ⟨y1, y2, y3, y4, y5, y6⟩ := row_facts HSX.out.b
              obtain ⟨z1, z2, z3, z4, z5, z6⟩ := row_facts HSX.out.z
              obtain ⟨v1, v2, v3, v4, v5, v6⟩ := row_facts HSX.out.y
              obtain ⟨r1, r2, r3, r4, r5, r6⟩ := row_facts HRZ.out
              (try (have hn : ¬ w.heap.size = w.heap.size + 3 := (by omega); have hn' : ¬ w.heap.size + 3 = w.heap.size := (by omega)))
              (try (have hn : ¬ w.heap.size = w.heap.size + 4 := (by omega); have hn' : ¬ w.heap.size + 4 = w.heap.size := (by omega)))
              (try (have hn : ¬ w.heap.size = w.heap.size + 5 := (by omega); have hn' : ¬ w.heap.size + 5 = w.heap.size := (by omega)))
              (try (have hn : ¬ w.heap.size + 1 = w.heap.size + 3 := (by omega); have hn' : ¬ w.heap.size + 3 = w.heap.size + 1 := (by omega)))
              (try (have hn : ¬ w.heap.size + 1 = w.heap.size + 4 := (by omega); have hn' : ¬ w.heap.size + 4 = w.heap.size + 1 := (by omega)))
              (try (have hn : ¬ w.heap.size + 1 = w.heap.size + 5 := (by omega); have hn' : ¬ w.heap.size + 5 = w.heap.size + 1 := (by omega)))
              (try (have hn : ¬ w.heap.size + 3 = w.heap.size + 4 := (by omega); have hn' : ¬ w.heap.size + 4 = w.heap.size + 3 := (by omega)))
              (try (have hn : ¬ w.heap.size + 3 = w.heap.size + 5 := (by omega); have hn' : ¬ w.heap.size + 5 = w.heap.size + 3 := (by omega)))
              (try (have hn : ¬ w.heap.size + 4 = w.heap.size + 5 := (by omega); have hn' : ¬ w.heap.size + 5 = w.heap.size + 4 := (by omega)))
              go_region_held3 (fun w' => w'.cell? ⟨w.heap.size, 0, none⟩ = some (.int .u64 i9) ∧ w'.cell? ⟨w.heap.size, 1, none⟩ = some (.int .i64 s9) ∧ w'.cell? ⟨w.heap.size, 2, none⟩ = some (.int .i64 t9) ∧ w'.cell? ⟨w.heap.size + 1, 0, none⟩ = some (.slice d2 n2' c2') ∧ w'.cell? ⟨w.heap.size + 1, 1, none⟩ = some (.slice f2 m2 e2) ∧ w'.cell? ⟨w.heap.size + 1, 2, none⟩ = some (.slice l2 o2 g2) ∧ w'.cell? ⟨b, off + j * 6 + 5, none⟩ = some (.string a.dat)) (go_keep) (fail)
              all_goals
                obtain ⟨W11, hW11⟩ : ∃ W, ((w8.setCell ⟨w.heap.size + 3, 0, none⟩ (.int .u64 i9)).setCell ⟨w.heap.size + 3, 1, none⟩ (.int .i64 s9)).setCell ⟨w.heap.size + 3, 2, none⟩ (.int .i64 t9) = W := ⟨_, rfl⟩
                rw [hW11]
                obtain ⟨W12, hW12⟩ : ∃ W, ((W11.setCell ⟨w.heap.size + 4, 0, none⟩ (.slice d2 n2' c2')).setCell ⟨w.heap.size + 4, 1, none⟩ (.slice f2 m2 e2)).setCell ⟨w.heap.size + 4, 2, none⟩ (.slice l2 o2 g2) = W := ⟨_, rfl⟩
                rw [hW12]
                obtain ⟨W13, hW13⟩ : ∃ W, (((W12.setCell ⟨w.heap.size + 5, 0, none⟩ (.int .i64 1)).setCell ⟨w.heap.size + 5, 1, none⟩ (.string ⟨#[]⟩)).setCell ⟨w.heap.size + 5, 2, none⟩ (.int .i64 (a.dat[0]'h0).toNat)).setCell ⟨w.heap.size + 5, 3, none⟩ (.int .i64 t) = W := ⟨_, rfl⟩
                rw [hW13]
                have hu11 : Upd (w.heap.size + 3) w8 W11 := hW11 ▸ upd3
                have z11 : RowAt W11 (w.heap.size + 3) 41 #[.int .u64 i9, .int .i64 s9, .int .i64 t9] := hW11 ▸ row3 HSX.out.z
                have y11 := HSX.out.y.upd hu11 (by omega)
                have r11 := HRZ.out.upd hu11 (by omega)
                have hu12 : Upd (w.heap.size + 4) W11 W12 := hW12 ▸ upd3
                have z12 := z11.upd hu12 (by omega)
                have y12 : RowAt W12 (w.heap.size + 4) 44 #[.slice d2 n2' c2', .slice f2 m2 e2, .slice l2 o2 g2] := hW12 ▸ row3 y11
                have r12 := r11.upd hu12 (by omega)
                have hu13 : Upd (w.heap.size + 5) W12 W13 := hW13 ▸ upd4
                have z13 := z12.upd hu13 (by omega)
                have y13 := y12.upd hu13 (by omega)
                have r13 : RowAt W13 (w.heap.size + 5) 45 #[.int .i64 1, .string ⟨#[]⟩, .int .i64 (a.dat[0]'h0).toNat, .int .i64 t] := hW13 ▸ row4 r12
                have b13 := below_of_upd (below_of_upd (below_of_upd HSX.out.below hu11 (by omega)) hu12 (by omega)) hu13 (by omega)
                have w13 := ((HWX.out.upd H0.out (Nat.le_refl _) hu11 (by omega) (by omega)).upd H0.out (Nat.le_refl _) hu12 (by omega) (by omega)).upd H0.out (Nat.le_refl _) hu13 (by omega) (by omega)
                clear hW11 hW12 hW13 hu11 z11 y11 r11 hu12 z12 y12 r12 hu13
                clear x1 x2 x3 x4 x5 x6 y1 y2 y3 y4 y5 y6 z1 z2 z3 z4 z5 z6 v1 v2 v3 v4 v5 v6 r1 r2 r3 r4 r5 r6
                obtain ⟨x1, x2, x3, x4, x5, x6⟩ := row_facts z13
                obtain ⟨y1, y2, y3, y4, y5, y6⟩ := row_facts y13
                obtain ⟨v1, v2, v3, v4, v5, v6⟩ := row_facts r13
                have HB13 := Lib.hid (Below.drew b13)
                have HW13 := Lib.hid (w13.run (Below.drew (Below.refl _ _)))
                clear z13 y13 r13 b13 w13
                go_wp2
                refine bodyPost_ret (v := .tuple #[.agg #[.int .u64 i9, .int .i64 s9, .int .i64 t9], .agg #[.slice d2 n2' c2', .slice f2 m2 e2, .slice l2 o2 g2], .agg #[.int .i64 1, .string ⟨#[]⟩, .int .i64 (a.dat[0]'h0).toNat, .int .i64 t]]) ?_ rfl ?_
                · simp [results, Tryz.results27, go_sem, *]
                · rw [← HPE.out]
                  exact asked_post HW13.out HB13.out rfl
            · have hres : resM t a = ⟨0, a.dat, 0, t⟩ := by rw [resM, if_neg hk7]
              have e7 : (a.kind == 7) = false := by simpa using hk7
              have HPE := Lib.hid (hres ▸ HPE0.out)
              clear hk7 hres HPE0
              go_upto_region 13 with fail
              obtain ⟨x1, x2, x3, x4, x5, x6⟩ := row_facts HSX.out.m
              obtain ⟨y1, y2, y3, y4, y5, y6⟩ := row_facts HSX.out.b
              obtain ⟨z1, z2, z3, z4, z5, z6⟩ := row_facts HSX.out.z
              obtain ⟨v1, v2, v3, v4, v5, v6⟩ := row_facts HSX.out.y
              obtain ⟨r1, r2, r3, r4, r5, r6⟩ := row_facts HRZ.out
              (try (have hn : ¬ w.heap.size = w.heap.size + 3 := (by omega); have hn' : ¬ w.heap.size + 3 = w.heap.size := (by omega)))
              (try (have hn : ¬ w.heap.size = w.heap.size + 4 := (by omega); have hn' : ¬ w.heap.size + 4 = w.heap.size := (by omega)))
              (try (have hn : ¬ w.heap.size = w.heap.size + 5 := (by omega); have hn' : ¬ w.heap.size + 5 = w.heap.size := (by omega)))
              (try (have hn : ¬ w.heap.size + 1 = w.heap.size + 3 := (by omega); have hn' : ¬ w.heap.size + 3 = w.heap.size + 1 := (by omega)))
              (try (have hn : ¬ w.heap.size + 1 = w.heap.size + 4 := (by omega); have hn' : ¬ w.heap.size + 4 = w.heap.size + 1 := (by omega)))
              (try (have hn : ¬ w.heap.size + 1 = w.heap.size + 5 := (by omega); have hn' : ¬ w.heap.size + 5 = w.heap.size + 1 := (by omega)))
              (try (have hn : ¬ w.heap.size + 3 = w.heap.size + 4 := (by omega); have hn' : ¬ w.heap.size + 4 = w.heap.size + 3 := (by omega)))
              (try (have hn : ¬ w.heap.size + 3 = w.heap.size + 5 := (by omega); have hn' : ¬ w.heap.size + 5 = w.heap.size + 3 := (by omega)))
              (try (have hn : ¬ w.heap.size + 4 = w.heap.size + 5 := (by omega); have hn' : ¬ w.heap.size + 5 = w.heap.size + 4 := (by omega)))
              go_region_held3 (fun w' => w'.cell? ⟨w.heap.size, 0, none⟩ = some (.int .u64 i9) ∧ w'.cell? ⟨w.heap.size, 1, none⟩ = some (.int .i64 s9) ∧ w'.cell? ⟨w.heap.size, 2, none⟩ = some (.int .i64 t9) ∧ w'.cell? ⟨w.heap.size + 1, 0, none⟩ = some (.slice d2 n2' c2') ∧ w'.cell? ⟨w.heap.size + 1, 1, none⟩ = some (.slice f2 m2 e2) ∧ w'.cell? ⟨w.heap.size + 1, 2, none⟩ = some (.slice l2 o2 g2) ∧ w'.cell? ⟨b, off + j * 6 + 5, none⟩ = some (.string a.dat)) (go_keep) (fail)
              all_goals
                obtain ⟨W11, hW11⟩ : ∃ W, ((w8.setCell ⟨w.heap.size + 3, 0, none⟩ (.int .u64 i9)).setCell ⟨w.heap.size + 3, 1, none⟩ (.int .i64 s9)).setCell ⟨w.heap.size + 3, 2, none⟩ (.int .i64 t9) = W := ⟨_, rfl⟩
                rw [hW11]
                obtain ⟨W12, hW12⟩ : ∃ W, ((W11.setCell ⟨w.heap.size + 4, 0, none⟩ (.slice d2 n2' c2')).setCell ⟨w.heap.size + 4, 1, none⟩ (.slice f2 m2 e2)).setCell ⟨w.heap.size + 4, 2, none⟩ (.slice l2 o2 g2) = W := ⟨_, rfl⟩
                rw [hW12]
                obtain ⟨W13, hW13⟩ : ∃ W, (((W12.setCell ⟨w.heap.size + 5, 0, none⟩ (.int .i64 0)).setCell ⟨w.heap.size + 5, 1, none⟩ (.string a.dat)).setCell ⟨w.heap.size + 5, 2, none⟩ (.int .i64 0)).setCell ⟨w.heap.size + 5, 3, none⟩ (.int .i64 t) = W := ⟨_, rfl⟩
                rw [hW13]
                have hu11 : Upd (w.heap.size + 3) w8 W11 := hW11 ▸ upd3
                have z11 : RowAt W11 (w.heap.size + 3) 41 #[.int .u64 i9, .int .i64 s9, .int .i64 t9] := hW11 ▸ row3 HSX.out.z
                have y11 := HSX.out.y.upd hu11 (by omega)
                have r11 := HRZ.out.upd hu11 (by omega)
                have hu12 : Upd (w.heap.size + 4) W11 W12 := hW12 ▸ upd3
                have z12 := z11.upd hu12 (by omega)
                have y12 : RowAt W12 (w.heap.size + 4) 44 #[.slice d2 n2' c2', .slice f2 m2 e2, .slice l2 o2 g2] := hW12 ▸ row3 y11
                have r12 := r11.upd hu12 (by omega)
                have hu13 : Upd (w.heap.size + 5) W12 W13 := hW13 ▸ upd4
                have z13 := z12.upd hu13 (by omega)
                have y13 := y12.upd hu13 (by omega)
                have r13 : RowAt W13 (w.heap.size + 5) 45 #[.int .i64 0, .string a.dat, .int .i64 0, .int .i64 t] := hW13 ▸ row4 r12
                have b13 := below_of_upd (below_of_upd (below_of_upd HSX.out.below hu11 (by omega)) hu12 (by omega)) hu13 (by omega)
                have w13 := ((HWX.out.upd H0.out (Nat.le_refl _) hu11 (by omega) (by omega)).upd H0.out (Nat.le_refl _) hu12 (by omega) (by omega)).upd H0.out (Nat.le_refl _) hu13 (by omega) (by omega)
                clear hW11 hW12 hW13 hu11 z11 y11 r11 hu12 z12 y12 r12 hu13
                clear x1 x2 x3 x4 x5 x6 y1 y2 y3 y4 y5 y6 z1 z2 z3 z4 z5 z6 v1 v2 v3 v4 v5 v6 r1 r2 r3 r4 r5 r6
                obtain ⟨x1, x2, x3, x4, x5, x6⟩ := row_facts z13
                obtain ⟨y1, y2, y3, y4, y5, y6⟩ := row_facts y13
                obtain ⟨v1, v2, v3, v4, v5, v6⟩ := row_facts r13
                have HB13 := Lib.hid (Below.drew b13)
                have HW13 := Lib.hid (w13.run (Below.drew (Below.refl _ _)))
                clear z13 y13 r13 b13 w13
                go_wp2
                refine bodyPost_ret (v := .tuple #[.agg #[.int .u64 i9, .int .i64 s9, .int .i64 t9], .agg #[.slice d2 n2' c2', .slice f2 m2 e2, .slice l2 o2 g2], .agg #[.int .i64 0, .string a.dat, .int .i64 0, .int .i64 t]]) ?_ rfl ?_
                · simp [results, Tryz.results27, go_sem, *]
                · rw [← HPE.out]
                  exact asked_post HW13.out HB13.out rfl
        · obtain rfl : j = L.length := Nat.le_antisymm hj (Nat.le_of_not_lt hlt2)
          rw [List.take_length] at hfind
          have hp2 := HPP.out
          rw [pick_none t hfind] at hp2
          dsimp only at hp2
          have HPE := Lib.hid hp2
          have HBX := Lib.hid hbx
          have HTN := Lib.hid htn
          clear hfind hp2 hbx htn
          go_wp2
          go_roundw
          case rel => exact ⟨n, t + 1, ⟨i9, s9, t9⟩, y9, d2, f2, l2, n2', c2', m2, e2, o2, g2, by go_num, by omega, by have := HTN.out; push_cast at this ⊢; omega, HS8.out.run HBX.out, HR8.out.run HBX.out, HI8.out.run HBX.out, HY9.out, HC9.out, HT9.out, HPE.out⟩
          case measure => simp [intOf]; omega
    · obtain rfl : n = 0 := by omega
      have hp2 := HP.out
      rw [askF] at hp2
      have HPE := Lib.hid hp2
      have HSX := Lib.hid HS.out
      have HRZ := Lib.hid HR.out
      have HWX := Lib.hid HWI.out
      have hzx := hz
      clear hp2 x1 x2 x3 x4 x5 x6 y1 y2 y3 y4 y5 y6 z1 z2 z3 z4 z5 z6 HS HR HWI HP
      obtain ⟨x1, x2, x3, x4, x5, x6⟩ := row_facts HSX.out.m
      obtain ⟨y1, y2, y3, y4, y5, y6⟩ := row_facts HSX.out.b
      obtain ⟨z1, z2, z3, z4, z5, z6⟩ := row_facts HSX.out.z
      obtain ⟨v1, v2, v3, v4, v5, v6⟩ := row_facts HSX.out.y
      obtain ⟨r1, r2, r3, r4, r5, r6⟩ := row_facts HRZ.out
      (try (have hn : ¬ w.heap.size = w.heap.size + 3 := (by omega); have hn' : ¬ w.heap.size + 3 = w.heap.size := (by omega)))
      (try (have hn : ¬ w.heap.size = w.heap.size + 4 := (by omega); have hn' : ¬ w.heap.size + 4 = w.heap.size := (by omega)))
      (try (have hn : ¬ w.heap.size = w.heap.size + 5 := (by omega); have hn' : ¬ w.heap.size + 5 = w.heap.size := (by omega)))
      (try (have hn : ¬ w.heap.size + 1 = w.heap.size + 3 := (by omega); have hn' : ¬ w.heap.size + 3 = w.heap.size + 1 := (by omega)))
      (try (have hn : ¬ w.heap.size + 1 = w.heap.size + 4 := (by omega); have hn' : ¬ w.heap.size + 4 = w.heap.size + 1 := (by omega)))
      (try (have hn : ¬ w.heap.size + 1 = w.heap.size + 5 := (by omega); have hn' : ¬ w.heap.size + 5 = w.heap.size + 1 := (by omega)))
      (try (have hn : ¬ w.heap.size + 3 = w.heap.size + 4 := (by omega); have hn' : ¬ w.heap.size + 4 = w.heap.size + 3 := (by omega)))
      (try (have hn : ¬ w.heap.size + 3 = w.heap.size + 5 := (by omega); have hn' : ¬ w.heap.size + 5 = w.heap.size + 3 := (by omega)))
      (try (have hn : ¬ w.heap.size + 4 = w.heap.size + 5 := (by omega); have hn' : ¬ w.heap.size + 5 = w.heap.size + 4 := (by omega)))
      go_upto_region 14 with fail
      go_region_held3 (fun w' => w'.cell? ⟨w.heap.size, 0, none⟩ = some (.int .u64 id') ∧ w'.cell? ⟨w.heap.size, 1, none⟩ = some (.int .i64 seq') ∧ w'.cell? ⟨w.heap.size, 2, none⟩ = some (.int .i64 tries') ∧ w'.cell? ⟨w.heap.size + 1, 0, none⟩ = some (.slice a1 n1 c1) ∧ w'.cell? ⟨w.heap.size + 1, 1, none⟩ = some (.slice a2 n2 c2) ∧ w'.cell? ⟨w.heap.size + 1, 2, none⟩ = some (.slice a3 n3 c3)) (go_keep) (fail)
      all_goals
        obtain ⟨W11, hW11⟩ : ∃ W, ((wr.setCell ⟨w.heap.size + 3, 0, none⟩ (.int .u64 id')).setCell ⟨w.heap.size + 3, 1, none⟩ (.int .i64 seq')).setCell ⟨w.heap.size + 3, 2, none⟩ (.int .i64 tries') = W := ⟨_, rfl⟩
        rw [hW11]
        obtain ⟨W12, hW12⟩ : ∃ W, ((W11.setCell ⟨w.heap.size + 4, 0, none⟩ (.slice a1 n1 c1)).setCell ⟨w.heap.size + 4, 1, none⟩ (.slice a2 n2 c2)).setCell ⟨w.heap.size + 4, 2, none⟩ (.slice a3 n3 c3) = W := ⟨_, rfl⟩
        rw [hW12]
        obtain ⟨W13, hW13⟩ : ∃ W, (((W12.setCell ⟨w.heap.size + 5, 0, none⟩ (.int .i64 2)).setCell ⟨w.heap.size + 5, 1, none⟩ (.string ⟨#[]⟩)).setCell ⟨w.heap.size + 5, 2, none⟩ (.int .i64 0)).setCell ⟨w.heap.size + 5, 3, none⟩ (.int .i64 tries') = W := ⟨_, rfl⟩
        rw [hW13]
        have hu11 : Upd (w.heap.size + 3) wr W11 := hW11 ▸ upd3
        have z11 : RowAt W11 (w.heap.size + 3) 41 #[.int .u64 id', .int .i64 seq', .int .i64 tries'] := hW11 ▸ row3 HSX.out.z
        have y11 := HSX.out.y.upd hu11 (by omega)
        have r11 := HRZ.out.upd hu11 (by omega)
        have hu12 : Upd (w.heap.size + 4) W11 W12 := hW12 ▸ upd3
        have z12 := z11.upd hu12 (by omega)
        have y12 : RowAt W12 (w.heap.size + 4) 44 #[.slice a1 n1 c1, .slice a2 n2 c2, .slice a3 n3 c3] := hW12 ▸ row3 y11
        have r12 := r11.upd hu12 (by omega)
        have hu13 : Upd (w.heap.size + 5) W12 W13 := hW13 ▸ upd4
        have z13 := z12.upd hu13 (by omega)
        have y13 := y12.upd hu13 (by omega)
        have r13 : RowAt W13 (w.heap.size + 5) 45 #[.int .i64 2, .string ⟨#[]⟩, .int .i64 0, .int .i64 tries'] := hW13 ▸ row4 r12
        have b13 := below_of_upd (below_of_upd (below_of_upd HSX.out.below hu11 (by omega)) hu12 (by omega)) hu13 (by omega)
        have w13 := ((HWX.out.upd H0.out (Nat.le_refl _) hu11 (by omega) (by omega)).upd H0.out (Nat.le_refl _) hu12 (by omega) (by omega)).upd H0.out (Nat.le_refl _) hu13 (by omega) (by omega)
        clear hW11 hW12 hW13 hu11 z11 y11 r11 hu12 z12 y12 r12 hu13
        clear x1 x2 x3 x4 x5 x6 y1 y2 y3 y4 y5 y6 z1 z2 z3 z4 z5 z6 v1 v2 v3 v4 v5 v6 r1 r2 r3 r4 r5 r6
        obtain ⟨x1, x2, x3, x4, x5, x6⟩ := row_facts z13
        obtain ⟨y1, y2, y3, y4, y5, y6⟩ := row_facts y13
        obtain ⟨v1, v2, v3, v4, v5, v6⟩ := row_facts r13
        have HB13 := Lib.hid (Below.drew b13)
        have HW13 := Lib.hid (w13.run (Below.drew (Below.refl _ _)))
        clear z13 y13 r13 b13 w13
        go_wp2
        refine bodyPost_ret (v := .tuple #[.agg #[.int .u64 id', .int .i64 seq', .int .i64 tries'], .agg #[.slice a1 n1 c1, .slice a2 n2 c2, .slice a3 n3 c3], .agg #[.int .i64 2, .string ⟨#[]⟩, .int .i64 0, .int .i64 tries']]) ?_ rfl ?_
        · simp [results, Tryz.results27, go_sem, *]
        · rw [← HPE.out]
          exact asked_post HW13.out HB13.out rfl
end Go.Proofs.YtpkhcehddfmhpaaGreat

namespace Go.Proofs.YtpkhcehddfmhpaaGreat
open Go.RowKit Go.Shelf

/-- What the reference's Ask returns. -/
def RAskUPost (p : Mgr × Wre × Rsl) (n : Int) (dv0 fv0 lv0 : Value) (y0 : Wre) (w : World) (e : Ending) (w' : World) : Prop :=
  ∃ da fa la, ∃ dn dc fn fc ln lc : Nat, e = .returned (.tuple #[mgrV p.1, .agg #[.slice da dn dc, .slice fa fn fc, .slice la ln lc], rslV p.2.2, .int .i64 n]) ∧ WireI w.heap.size w.heap.size w w' dv0 fv0 lv0 y0 (.slice da dn dc) (.slice fa fn fc) (.slice la ln lc) p.2.1 ∧ Below w.heap.size w w'

set_option maxHeartbeats 8000000 in
set_option maxRecDepth 100000 in
theorem raskU_any (x : Mgr) (da fa la : Option Addr) (dn dc fn fc ln lc : Nat) (y : Wre) (dst kind par : Int) (dat : ByteArray) (w : World) (h : WireS w (.slice da dn dc) (.slice fa fn fc) (.slice la ln lc) y) (hlb : ∀ d ∈ y.devs, d.lb.size ≤ 9223372036854775807) (hds : dat.size ≤ 9223372036854775807) :
    Calls Tryz.prog 8 #[.agg #[.int .u64 x.id, .int .i64 x.seq, .int .i64 x.tries], .agg #[.slice da dn dc, .slice fa fn fc, .slice la ln lc], .agg #[.int .u64 dst, .int .i64 kind, .int .i64 par, .string dat]] w (RAskUPost (askU x y ⟨dst, kind, par, dat⟩) (askE x y ⟨dst, kind, par, dat⟩) (.slice da dn dc) (.slice fa fn fc) (.slice la ln lc) y w) := by
  obtain ⟨id, seq, tries⟩ := x
  show Calls Tryz.prog 8 #[.agg #[.int .u64 id, .int .i64 seq, .int .i64 tries], _, _] w _
  obtain ⟨W0, hW0⟩ : ∃ W, ((((w.alloc (.cells #[.int .u64 id, .int .i64 seq, .int .i64 tries] 41)).alloc (.cells #[.slice da dn dc, .slice fa fn fc, .slice la ln lc] 44)).alloc (.cells #[.int .u64 dst, .int .i64 kind, .int .i64 par, .string dat] 49)).alloc (.cells #[.int .u64 0, .int .i64 0, .int .i64 0] 41)).alloc (.cells #[.slice none 0 0, .slice none 0 0, .slice none 0 0] 44) = W := ⟨_, rfl⟩
  have hbW : Below w.heap.size w W0 := by rw [← hW0]; (repeat' (first | (with_reducible exact Below.refl _ _) | (with_reducible assumption) | (with_reducible refine below_run ?_ (by assumption)) | (with_reducible refine below_of_upd ?_ (by assumption) ?_) | (with_reducible refine below_drewN ?_ _) | (with_reducible refine Below.drew ?_) | (with_reducible refine below_seven ?_ ?_) | (with_reducible refine below_six ?_ ?_) | (with_reducible refine below_one ?_ ?_) | (with_reducible refine Below.alloc ?_ ?_ _) | (with_reducible refine below_after ?_ ?_ (by assumption)) | (show _ ≤ _; first | omega | (simp; done) | (simp; omega))))
  have hS0 : SRows w.heap.size w W0 ⟨id, seq, tries⟩ ⟨dst, kind, par, dat⟩ (.slice da dn dc) (.slice fa fn fc) (.slice la ln lc) := by
    refine ⟨?_, ?_, ?_, ?_, ?_, hbW⟩ <;> rw [← hW0]
    · exact ((((RowAt.new _ _ _).alloc _).alloc _).alloc _).alloc _
    · exact (((RowAt.mk (by simp) rfl).alloc _).alloc _).alloc _
    · exact ((RowAt.mk (by simp) rfl).alloc _).alloc _
    · exact (RowAt.mk (by simp) rfl).alloc _
    · exact RowAt.mk (by simp) rfl
  have hz0 : W0.heap.size = w.heap.size + 5 := by rw [← hW0]; simp
  obtain ⟨W, hW⟩ : ∃ W, W0.alloc (.cells #[.int .i64 0, .string ⟨#[]⟩, .int .i64 0, .int .i64 0] 45) = W := ⟨_, rfl⟩
  have hb0 : Below W0.heap.size W0 W := hW ▸ (Below.refl _ _).alloc (Nat.le_refl _) _
  have hS := hS0.run hb0
  have hR : RowAt W (w.heap.size + 5) 45 #[.int .i64 0, .string ⟨#[]⟩, .int .i64 0, .int .i64 0] := by rw [← hW, ← hz0]; exact RowAt.new _ _ _
  obtain ⟨E, hE⟩ : ∃ E, askE ⟨id, seq, tries⟩ y ⟨dst, kind, par, dat⟩ = E := ⟨_, rfl⟩
  have C1 := Lib.hid (fun W hv => raskable_any E id seq tries da fa la dn dc fn fc ln lc y dst kind par dat W hv hlb hE)
  have HH := Lib.hid (h.run hS.below)
  have H0 := Lib.hid h
  have HE := Lib.hid hE
  have HS := Lib.hid hS
  have HR := Lib.hid hR
  have HDS := Lib.hid hds
  obtain ⟨x1, x2, x3, x4, x5, x6⟩ := row_facts hS.m
  obtain ⟨y1, y2, y3, y4, y5, y6⟩ := row_facts hS.b
  obtain ⟨z1, z2, z3, z4, z5, z6⟩ := row_facts hS.q
  rw [hE]
  clear h hE hS hS0 hR hb0 hbW hlb hds
  go_enter Tryz.func8, Tryz.ntmps8
  go_upto_region 1 with fail
  clear hW hW0 hz0
  go_wp2_with fail
  refine (C1.out _ HH.out.r).mono ?_
  rintro e w1 ⟨rfl, hb1⟩
  rw [show w.heap.size + 1 + 1 + 1 + 1 + 1 = w.heap.size + 5 from rfl, show w.heap.size + 1 + 1 + 1 + 1 = w.heap.size + 4 from rfl, show w.heap.size + 1 + 1 + 1 = w.heap.size + 3 from rfl, show w.heap.size + 1 + 1 = w.heap.size + 2 from rfl]
  have hS1 := HS.out.run hb1
  have HS1 := Lib.hid hS1
  have HR1 := Lib.hid (HR.out.run hb1)
  have H1 := Lib.hid (HH.out.run hb1)
  clear x1 x2 x3 x4 x5 x6 y1 y2 y3 y4 y5 y6 z1 z2 z3 z4 z5 z6 hb1 HS HH HR C1
  by_cases hz : E = 0
  · subst hz
    have hga : givenE ⟨id, seq, tries⟩ y ⟨dst, kind, par, dat⟩ = 0 := by
      have := HE.out
      unfold askE at this
      split at this
      · rename_i h1
        exact absurd this h1
      · rename_i h1
        exact Decidable.of_not_not h1
    obtain ⟨g1, g2, g3⟩ := given_parts hga
    obtain ⟨k1, k2, k3, k4, k5⟩ := mgr_parts g1
    have C2 := rasked_any ⟨id, seq, tries⟩ da fa la dn dc fn fc ln lc y dst kind par dat w1 H1.out g2 g3 k4 k5 HDS.out
    have hU := askU_of HE.out
    obtain ⟨⟨⟨i', s', t'⟩, y', ⟨rk, rd, rr, rt⟩⟩, hp⟩ : ∃ p, askM ⟨id, seq, tries⟩ y ⟨dst, kind, par, dat⟩ = p := ⟨_, rfl⟩
    rw [hp] at C2 hU
    have HUU := Lib.hid hU
    have C2H := Lib.hid C2
    obtain ⟨x1, x2, x3, x4, x5, x6⟩ := row_facts hS1.m
    obtain ⟨y1, y2, y3, y4, y5, y6⟩ := row_facts hS1.b
    obtain ⟨z1, z2, z3, z4, z5, z6⟩ := row_facts hS1.q
    clear g1 g2 g3 k1 k2 k3 k4 k5 hU hp hS1 C2 hga
    go_wp2_with fail
    refine C2H.out.mono ?_
    rintro e w2 ⟨a1, a2, a3, n1, c1, n2, c2, n3, c3, he, hI, hb2⟩
    have he' : e = .returned (.tuple #[.agg #[.int .u64 i', .int .i64 s', .int .i64 t'], .agg #[.slice a1 n1 c1, .slice a2 n2 c2, .slice a3 n3 c3], .agg #[.int .i64 rk, .string rd, .int .i64 rr, .int .i64 rt]]) := he
    subst he'
    have hzz1 := lt_of_block HR1.out
    have HS2 := Lib.hid (HS1.out.run hb2)
    have HR2 := Lib.hid (HR1.out.run hb2)
    have HI2 := Lib.hid (show WireI w.heap.size w1.heap.size w w2 (.slice da dn dc) (.slice fa fn fc) (.slice la ln lc) y (.slice a1 n1 c1) (.slice a2 n2 c2) (.slice a3 n3 c3) y' from ⟨hI.devs, hI.late, hI.nil, hI.room, hI.hd, hI.hl, hI.hf⟩)
    clear he hI x1 x2 x3 x4 x5 x6 y1 y2 y3 y4 y5 y6 z1 z2 z3 z4 z5 z6 C2H H1 HS1 HR1
    go_upto_region 5 with fail
    (try rw [show w2.heap.size + 1 + 1 = w2.heap.size + 2 from rfl])
    have hbT : Below w2.heap.size w2 (((w2.alloc (.cells #[.int .u64 i', .int .i64 s', .int .i64 t'] 41)).alloc (.cells #[.slice a1 n1 c1, .slice a2 n2 c2, .slice a3 n3 c3] 44)).alloc (.cells #[.int .i64 rk, .string rd, .int .i64 rr, .int .i64 rt] 45)) := by (repeat' (first | (with_reducible exact Below.refl _ _) | (with_reducible assumption) | (with_reducible refine below_run ?_ (by assumption)) | (with_reducible refine below_of_upd ?_ (by assumption) ?_) | (with_reducible refine below_drewN ?_ _) | (with_reducible refine Below.drew ?_) | (with_reducible refine below_seven ?_ ?_) | (with_reducible refine below_six ?_ ?_) | (with_reducible refine below_one ?_ ?_) | (with_reducible refine Below.alloc ?_ ?_ _) | (with_reducible refine below_after ?_ ?_ (by assumption)) | (show _ ≤ _; first | omega | (simp; done) | (simp; omega))))
    have r11 : RowAt (((w2.alloc (.cells #[.int .u64 i', .int .i64 s', .int .i64 t'] 41)).alloc (.cells #[.slice a1 n1 c1, .slice a2 n2 c2, .slice a3 n3 c3] 44)).alloc (.cells #[.int .i64 rk, .string rd, .int .i64 rr, .int .i64 rt] 45)) w2.heap.size 41 #[.int .u64 i', .int .i64 s', .int .i64 t'] := ((RowAt.new _ _ _).alloc _).alloc _
    have r12 : RowAt (((w2.alloc (.cells #[.int .u64 i', .int .i64 s', .int .i64 t'] 41)).alloc (.cells #[.slice a1 n1 c1, .slice a2 n2 c2, .slice a3 n3 c3] 44)).alloc (.cells #[.int .i64 rk, .string rd, .int .i64 rr, .int .i64 rt] 45)) (w2.heap.size + 1) 44 #[.slice a1 n1 c1, .slice a2 n2 c2, .slice a3 n3 c3] := (RowAt.mk (by simp) rfl).alloc _
    have r13 : RowAt (((w2.alloc (.cells #[.int .u64 i', .int .i64 s', .int .i64 t'] 41)).alloc (.cells #[.slice a1 n1 c1, .slice a2 n2 c2, .slice a3 n3 c3] 44)).alloc (.cells #[.int .i64 rk, .string rd, .int .i64 rr, .int .i64 rt] 45)) (w2.heap.size + 2) 45 #[.int .i64 rk, .string rd, .int .i64 rr, .int .i64 rt] := RowAt.mk (by simp) rfl
    have hS7 := HS2.out.run hbT
    have hR7 := HR2.out.run hbT
    have hI7 := HI2.out.run hbT
    have hz22 := lt_of_block HR2.out
    generalize ((w2.alloc (.cells #[.int .u64 i', .int .i64 s', .int .i64 t'] 41)).alloc (.cells #[.slice a1 n1 c1, .slice a2 n2 c2, .slice a3 n3 c3] 44)).alloc (.cells #[.int .i64 rk, .string rd, .int .i64 rr, .int .i64 rt] 45) = W7 at hbT r11 r12 r13 hS7 hR7 hI7 ⊢
    generalize w2.heap.size = k2 at r11 r12 r13 hz22 ⊢
    have HSX := Lib.hid hS7
    have HRZ := Lib.hid hR7
    have HWX := Lib.hid hI7
    obtain ⟨x1, x2, x3, x4, x5, x6⟩ := row_facts r11
    obtain ⟨y1, y2, y3, y4, y5, y6⟩ := row_facts r12
    obtain ⟨u1, u2, u3, u4, u5, u6⟩ := row_facts r13
    obtain ⟨z1, z2, z3, z4, z5, z6⟩ := row_facts hS7.z
    obtain ⟨v1, v2, v3, v4, v5, v6⟩ := row_facts hS7.y
    obtain ⟨q1, q2, q3, q4, q5, q6⟩ := row_facts hR7
    (try (have hn : ¬ k2 = w.heap.size + 3 := (by omega); have hn' : ¬ w.heap.size + 3 = k2 := (by omega)))
    (try (have hn : ¬ k2 = w.heap.size + 4 := (by omega); have hn' : ¬ w.heap.size + 4 = k2 := (by omega)))
    (try (have hn : ¬ k2 = w.heap.size + 5 := (by omega); have hn' : ¬ w.heap.size + 5 = k2 := (by omega)))
    (try (have hn : ¬ k2 + 1 = w.heap.size + 3 := (by omega); have hn' : ¬ w.heap.size + 3 = k2 + 1 := (by omega)))
    (try (have hn : ¬ k2 + 1 = w.heap.size + 4 := (by omega); have hn' : ¬ w.heap.size + 4 = k2 + 1 := (by omega)))
    (try (have hn : ¬ k2 + 1 = w.heap.size + 5 := (by omega); have hn' : ¬ w.heap.size + 5 = k2 + 1 := (by omega)))
    (try (have hn : ¬ k2 + 2 = w.heap.size + 3 := (by omega); have hn' : ¬ w.heap.size + 3 = k2 + 2 := (by omega)))
    (try (have hn : ¬ k2 + 2 = w.heap.size + 4 := (by omega); have hn' : ¬ w.heap.size + 4 = k2 + 2 := (by omega)))
    (try (have hn : ¬ k2 + 2 = w.heap.size + 5 := (by omega); have hn' : ¬ w.heap.size + 5 = k2 + 2 := (by omega)))
    (try (have hn : ¬ w.heap.size + 3 = w.heap.size + 4 := (by omega); have hn' : ¬ w.heap.size + 4 = w.heap.size + 3 := (by omega)))
    (try (have hn : ¬ w.heap.size + 3 = w.heap.size + 5 := (by omega); have hn' : ¬ w.heap.size + 5 = w.heap.size + 3 := (by omega)))
    (try (have hn : ¬ w.heap.size + 4 = w.heap.size + 5 := (by omega); have hn' : ¬ w.heap.size + 5 = w.heap.size + 4 := (by omega)))
    clear hS7 hR7 hI7 hbT r11 r12 r13
    go_region_held3 (fun w' => w'.cell? ⟨k2, 0, none⟩ = some (.int .u64 i') ∧ w'.cell? ⟨k2, 1, none⟩ = some (.int .i64 s') ∧ w'.cell? ⟨k2, 2, none⟩ = some (.int .i64 t') ∧ w'.cell? ⟨k2 + 1, 0, none⟩ = some (.slice a1 n1 c1) ∧ w'.cell? ⟨k2 + 1, 1, none⟩ = some (.slice a2 n2 c2) ∧ w'.cell? ⟨k2 + 1, 2, none⟩ = some (.slice a3 n3 c3) ∧ w'.cell? ⟨k2 + 2, 0, none⟩ = some (.int .i64 rk) ∧ w'.cell? ⟨k2 + 2, 1, none⟩ = some (.string rd) ∧ w'.cell? ⟨k2 + 2, 2, none⟩ = some (.int .i64 rr) ∧ w'.cell? ⟨k2 + 2, 3, none⟩ = some (.int .i64 rt)) (go_keep) (fail)
    all_goals
      obtain ⟨W11, hW11⟩ : ∃ W, ((W7.setCell ⟨w.heap.size + 3, 0, none⟩ (.int .u64 i')).setCell ⟨w.heap.size + 3, 1, none⟩ (.int .i64 s')).setCell ⟨w.heap.size + 3, 2, none⟩ (.int .i64 t') = W := ⟨_, rfl⟩
      rw [hW11]
      obtain ⟨W12, hW12⟩ : ∃ W, ((W11.setCell ⟨w.heap.size + 4, 0, none⟩ (.slice a1 n1 c1)).setCell ⟨w.heap.size + 4, 1, none⟩ (.slice a2 n2 c2)).setCell ⟨w.heap.size + 4, 2, none⟩ (.slice a3 n3 c3) = W := ⟨_, rfl⟩
      rw [hW12]
      obtain ⟨W13, hW13⟩ : ∃ W, (((W12.setCell ⟨w.heap.size + 5, 0, none⟩ (.int .i64 rk)).setCell ⟨w.heap.size + 5, 1, none⟩ (.string rd)).setCell ⟨w.heap.size + 5, 2, none⟩ (.int .i64 rr)).setCell ⟨w.heap.size + 5, 3, none⟩ (.int .i64 rt) = W := ⟨_, rfl⟩
      rw [hW13]
      have hu11 : Upd (w.heap.size + 3) W7 W11 := hW11 ▸ upd3
      have z11 : RowAt W11 (w.heap.size + 3) 41 #[.int .u64 i', .int .i64 s', .int .i64 t'] := hW11 ▸ row3 HSX.out.z
      have y11 := HSX.out.y.upd hu11 (by omega)
      have r11 := HRZ.out.upd hu11 (by omega)
      have hu12 : Upd (w.heap.size + 4) W11 W12 := hW12 ▸ upd3
      have z12 := z11.upd hu12 (by omega)
      have y12 : RowAt W12 (w.heap.size + 4) 44 #[.slice a1 n1 c1, .slice a2 n2 c2, .slice a3 n3 c3] := hW12 ▸ row3 y11
      have r12 := r11.upd hu12 (by omega)
      have hu13 : Upd (w.heap.size + 5) W12 W13 := hW13 ▸ upd4
      have z13 := z12.upd hu13 (by omega)
      have y13 := y12.upd hu13 (by omega)
      have r13 : RowAt W13 (w.heap.size + 5) 45 #[.int .i64 rk, .string rd, .int .i64 rr, .int .i64 rt] := hW13 ▸ row4 r12
      have b13 := below_of_upd (below_of_upd (below_of_upd HSX.out.below hu11 (by omega)) hu12 (by omega)) hu13 (by omega)
      have w13 := ((HWX.out.upd H0.out (Nat.le_refl _) hu11 (by omega) (by omega)).upd H0.out (Nat.le_refl _) hu12 (by omega) (by omega)).upd H0.out (Nat.le_refl _) hu13 (by omega) (by omega)
      clear hW11 hW12 hW13 hu11 z11 y11 r11 hu12 z12 y12 r12 hu13
      clear x1 x2 x3 x4 x5 x6 y1 y2 y3 y4 y5 y6 u1 u2 u3 u4 u5 u6 z1 z2 z3 z4 z5 z6 v1 v2 v3 v4 v5 v6 q1 q2 q3 q4 q5 q6
      obtain ⟨x1, x2, x3, x4, x5, x6⟩ := row_facts z13
      obtain ⟨y1, y2, y3, y4, y5, y6⟩ := row_facts y13
      obtain ⟨v1, v2, v3, v4, v5, v6⟩ := row_facts r13
      have HB9 := Lib.hid (Below.drew b13)
      have HI9 := Lib.hid (show WireI w.heap.size w.heap.size w W13.drew (.slice da dn dc) (.slice fa fn fc) (.slice la ln lc) y (.slice a1 n1 c1) (.slice a2 n2 c2) (.slice a3 n3 c3) y' from (w13.run (Below.drew (Below.refl _ _))).mono (by omega))
      clear z13 y13 r13 b13 w13
      go_wp2
      rw [HUU.out]
      refine bodyPost_ret (v := .tuple #[.agg #[.int .u64 i', .int .i64 s', .int .i64 t'], .agg #[.slice a1 n1 c1, .slice a2 n2 c2, .slice a3 n3 c3], .agg #[.int .i64 rk, .string rd, .int .i64 rr, .int .i64 rt], .int .i64 0]) ?_ rfl ⟨a1, a2, a3, n1, c1, n2, c2, n3, c3, rfl, HI9.out, HB9.out⟩
      simp [results, Tryz.results8, go_sem, *]
  · have e1 : (E != 0) = true := by simpa using hz
    have hU : askU ⟨id, seq, tries⟩ y ⟨dst, kind, par, dat⟩ = (zeroMgr, zeroWre, zeroRsl) := by rw [askU, if_neg (by rw [HE.out]; exact hz)]
    have HUU := Lib.hid hU
    have HSX := Lib.hid hS1
    have HRZ := Lib.hid HR1.out
    have hz1 := lt_of_block HR1.out
    obtain ⟨x1, x2, x3, x4, x5, x6⟩ := row_facts hS1.z
    obtain ⟨y1, y2, y3, y4, y5, y6⟩ := row_facts hS1.y
    obtain ⟨v1, v2, v3, v4, v5, v6⟩ := row_facts HR1.out
    clear hz hU hS1
    go_wp2
    obtain ⟨W11, hW11⟩ : ∃ W, ((w1.setCell ⟨w.heap.size + 3, 0, none⟩ (.int .u64 0)).setCell ⟨w.heap.size + 3, 1, none⟩ (.int .i64 0)).setCell ⟨w.heap.size + 3, 2, none⟩ (.int .i64 0) = W := ⟨_, rfl⟩
    rw [hW11]
    obtain ⟨W12, hW12⟩ : ∃ W, ((W11.setCell ⟨w.heap.size + 4, 0, none⟩ (.slice none 0 0)).setCell ⟨w.heap.size + 4, 1, none⟩ (.slice none 0 0)).setCell ⟨w.heap.size + 4, 2, none⟩ (.slice none 0 0) = W := ⟨_, rfl⟩
    rw [hW12]
    obtain ⟨W13, hW13⟩ : ∃ W, (((W12.setCell ⟨w.heap.size + 5, 0, none⟩ (.int .i64 0)).setCell ⟨w.heap.size + 5, 1, none⟩ (.string ⟨#[]⟩)).setCell ⟨w.heap.size + 5, 2, none⟩ (.int .i64 0)).setCell ⟨w.heap.size + 5, 3, none⟩ (.int .i64 0) = W := ⟨_, rfl⟩
    rw [hW13]
    have hu11 : Upd (w.heap.size + 3) w1 W11 := hW11 ▸ upd3
    have z11 : RowAt W11 (w.heap.size + 3) 41 #[.int .u64 0, .int .i64 0, .int .i64 0] := hW11 ▸ row3 HSX.out.z
    have y11 := HSX.out.y.upd hu11 (by omega)
    have r11 := HRZ.out.upd hu11 (by omega)
    have hu12 : Upd (w.heap.size + 4) W11 W12 := hW12 ▸ upd3
    have z12 := z11.upd hu12 (by omega)
    have y12 : RowAt W12 (w.heap.size + 4) 44 #[.slice none 0 0, .slice none 0 0, .slice none 0 0] := hW12 ▸ row3 y11
    have r12 := r11.upd hu12 (by omega)
    have hu13 : Upd (w.heap.size + 5) W12 W13 := hW13 ▸ upd4
    have z13 := z12.upd hu13 (by omega)
    have y13 := y12.upd hu13 (by omega)
    have r13 : RowAt W13 (w.heap.size + 5) 45 #[.int .i64 0, .string ⟨#[]⟩, .int .i64 0, .int .i64 0] := hW13 ▸ row4 r12
    have b13 := below_of_upd (below_of_upd (below_of_upd HSX.out.below hu11 (by omega)) hu12 (by omega)) hu13 (by omega)
    clear hW11 hW12 hW13 hu11 z11 y11 r11 hu12 z12 y12 r12 hu13
    clear x1 x2 x3 x4 x5 x6 y1 y2 y3 y4 y5 y6 v1 v2 v3 v4 v5 v6
    obtain ⟨x1, x2, x3, x4, x5, x6⟩ := row_facts z13
    obtain ⟨y1, y2, y3, y4, y5, y6⟩ := row_facts y13
    obtain ⟨v1, v2, v3, v4, v5, v6⟩ := row_facts r13
    rw [HUU.out]
    refine bodyPost_ret (v := .tuple #[.agg #[.int .u64 0, .int .i64 0, .int .i64 0], .agg #[.slice none 0 0, .slice none 0 0, .slice none 0 0], .agg #[.int .i64 0, .string ⟨#[]⟩, .int .i64 0, .int .i64 0], .int .i64 E]) ?_ rfl ⟨none, none, none, 0, 0, 0, 0, 0, 0, rfl, wireI_zero _ _ _ _ _ _ _ _, b13⟩
    simp [results, Tryz.results8, go_sem, *]
end Go.Proofs.YtpkhcehddfmhpaaGreat
