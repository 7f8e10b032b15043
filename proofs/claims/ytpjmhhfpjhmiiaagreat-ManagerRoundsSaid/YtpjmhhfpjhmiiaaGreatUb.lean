/-
  Lists of identities compared: the library's.
  The reference's All.
  The walk of the law ManagerRounds.
-/
import Derived.Test.YtpjmhhfpjhmiiaaGreatSk
import Derived.Test.YtpjmhhfpjhmiiaaGreatBusX
import Derived.Test.YtpjmhhfpjhmiiaaGreatTc
import Derived.Test.YtpjmhhfpjhmiiaaGreatQx
import Derived.Deep.AppendLies
import Derived.Test.YtpjmhhfpjhmiiaaGreatTf
import Derived.Test.YtpjmhhfpjhmiiaaGreatQh
import Derived.Test.YtpjmhhfpjhmiiaaGreatSameM
namespace Go.Proofs.YtpjmhhfpjhmiiaaGreat
open Go.RowKit


set_option maxHeartbeats 1000000 in
set_option maxRecDepth 100000 in
theorem equal_sameU (v u : Value) (l : List Int) (w : World) (hv : IdsAt w v l) (hu : IdsAt w u l) :
    Calls Tryz.prog 41 #[v, u] w fun e w' => e = .returned (.bool true) ∧ Below w.heap.size w w' := by
  rcases hv with ⟨h0, a, cap, rfl⟩ | ⟨h0, h1, b, off, cap, rfl, hlt, hc⟩
  · have hl : l = [] := List.eq_nil_of_length_eq_zero h0
    subst hl
    rcases hu with ⟨_, a', cap', rfl⟩ | ⟨g0, _⟩
    · go_enter Tryz.func41, Tryz.ntmps41
      go_wp2
      refine wp_loop_rounds 1 ?_
      rw [rounds_succ]
      go_wp2
      go_ret
      exact ⟨rfl, by (repeat' (first | (with_reducible exact Below.refl _ _) | (with_reducible assumption) | (with_reducible refine below_run ?_ (by assumption)) | (with_reducible refine below_of_upd ?_ (by assumption) ?_) | (with_reducible refine below_drewN ?_ _) | (with_reducible refine Below.drew ?_) | (with_reducible refine below_seven ?_ ?_) | (with_reducible refine below_six ?_ ?_) | (with_reducible refine below_one ?_ ?_) | (with_reducible refine Below.alloc ?_ ?_ _) | (with_reducible refine below_after ?_ ?_ (by assumption)) | (show _ ≤ _; first | omega | (simp; done) | (simp; omega))))⟩
    · simp at g0
  · rcases hu with ⟨g0, _⟩ | ⟨_, _, b', off', cap', rfl, hlt', hc'⟩
    · omega
    · have h3 : (l.length : Int) ≤ 140737488351232 := by omega
      have h4 : (0 : Int) < (l.length : Int) := by omega
      have h5 : ((l.length : Int) != (l.length : Int)) = false := by simp
      go_enter Tryz.func41, Tryz.ntmps41
      go_wp2
      go_loopw [5, 13] (fun _ i wr => ∃ k : Nat, k ≤ l.length ∧ i = .int .i64 k ∧ Below w.heap.size w wr) (fun _ i _ => l.length - (intOf i).toNat)
      case atStart => exact ⟨0, Nat.zero_le _, rfl, Below.refl _ _⟩
      case round =>
        obtain ⟨k, hk, rfl, hb0⟩ := hrel
        by_cases hlt2 : k < l.length
        · have hlt3 : (k : Int) < (l.length : Int) := by omega
          have hk0 : (0 : Int) ≤ (k : Int) := by omega
          have hw1 : ∀ j, j < l.length * 1 → wr.cell? ⟨b, off + j, none⟩ = u64C l j := fun j hj => (hb0.cell (p := ⟨b, off + j, none⟩) hlt).trans (hc j hj)
          have hw2 : ∀ j, j < l.length * 1 → wr.cell? ⟨b', off' + j, none⟩ = u64C l j := fun j hj => (hb0.cell (p := ⟨b', off' + j, none⟩) hlt').trans (hc' j hj)
          obtain ⟨y, hy, e0⟩ := id_cell hw1 k hlt2
          obtain ⟨y', hy', e0'⟩ := id_cell hw2 k hlt2
          rw [hy] at hy'
          simp only [Option.some.injEq] at hy'
          subst hy'
          clear hc hc' hw1 hw2 hy
          go_wp2
          go_quiet (fail)
          go_wp2
          go_roundw
          case rel => exact ⟨k + 1, by omega, by go_num, by (repeat' (first | (with_reducible exact Below.refl _ _) | (with_reducible assumption) | (with_reducible refine below_run ?_ (by assumption)) | (with_reducible refine below_of_upd ?_ (by assumption) ?_) | (with_reducible refine below_drewN ?_ _) | (with_reducible refine Below.drew ?_) | (with_reducible refine below_seven ?_ ?_) | (with_reducible refine below_six ?_ ?_) | (with_reducible refine below_one ?_ ?_) | (with_reducible refine Below.alloc ?_ ?_ _) | (with_reducible refine below_after ?_ ?_ (by assumption)) | (show _ ≤ _; first | omega | (simp; done) | (simp; omega))))⟩
          case measure => simp [intOf]; omega
        · obtain rfl : k = l.length := by omega
          go_wp2
          go_ret
          exact ⟨rfl, hb0⟩
end Go.Proofs.YtpjmhhfpjhmiiaaGreat

namespace Go.Proofs.YtpjmhhfpjhmiiaaGreat
open Go.RowKit Go.Shelf

theorem Tryz.info_rrslt : (Tryz.prog.info? 56).map (fun i => (i.zero, i.size, i.bytes)) = some (some (.agg #[.int .i64 0, .string ⟨#[]⟩, .int .i64 0, .int .i64 0]), 4, 40) := by kernel_rfl
/-- Asking leaves a right wire. -/
theorem ask_wire {r : Rqs} : ∀ (n : Nat) (t : Int) (x : Mgr) (y : Wre), wireE y = 0 → chk (ofM x r) = 0 → wireE (askF r n t x y).2.1 = 0
  | 0, _, _, _, hy, _ => hy
  | n + 1, t, x, y, hy, hm => by
    have a1 := send_right (r := r) hy hm
    rw [askF]
    cases hp : pickR (ofM x r) t (hearW x r y) with
    | some a => exact a1
    | none => exact ask_wire n (t + 1) (nextM x) (sendW x r y) a1 (of_next hm)
theorem WireI.trans {K B : Nat} {w wx : World} {wr : World} {dv0 fv0 lv0 dv fv lv dv2 fv2 lv2 : Value} {y0 y y2 : Wre} {K2 B2 : Nat} {w2 : World} (h : WireI K B w wr dv0 fv0 lv0 y0 dv fv lv y) (h2 : WireI K2 B2 w2 wx dv fv lv y dv2 fv2 lv2 y2) (hB : B ≤ B2) : WireI K B w wx dv0 fv0 lv0 y0 dv2 fv2 lv2 y2 :=
  ⟨h2.devs, h2.late, h2.nil, h2.room, h2.hd.elim (fun e => e ▸ h.hd) (fun f => .inr (fun g e => Nat.le_trans hB (f g e))), h2.hl.elim (fun e => e ▸ h.hl) (fun f => .inr (fun g e => Nat.le_trans hB (f g e))), fun V hv => h2.hf V (h.hf V hv)⟩
theorem SRows.setTo {k : Nat} {w wx : World} {x : Mgr} {d0 kind par d : Int} {dat : ByteArray} {dv fv lv : Value} (h : SRows k w wx x ⟨d0, kind, par, dat⟩ dv fv lv) : SRows k w (wx.setCell ⟨k + 2, 0, none⟩ (.int .u64 d)) x ⟨d, kind, par, dat⟩ dv fv lv :=
  ⟨h.m.far1 (by omega), h.b.far1 (by omega), RowAt.set h.q rfl, h.z.far1 (by omega), h.y.far1 (by omega), below_one h.below (by omega)⟩
/-- What the reference's All returns. -/
def RAllPost (p : Mgr × Wre × List Rsl × Int) (dv0 fv0 lv0 : Value) (y0 : Wre) (w : World) (e : Ending) (w' : World) : Prop :=
  ∃ da fa la ra, ∃ dn dc fn fc ln lc rc : Nat, e = .returned (.tuple #[mgrV p.1, .agg #[.slice da dn dc, .slice fa fn fc, .slice la ln lc], .slice ra p.2.2.1.length rc, .int .i64 p.2.2.2]) ∧ WireI w.heap.size w.heap.size w w' dv0 fv0 lv0 y0 (.slice da dn dc) (.slice fa fn fc) (.slice la ln lc) p.2.1 ∧ RslsAt w' (.slice ra p.2.2.1.length rc) p.2.2.1 ∧ Below w.heap.size w w'
/-- A slice that is not empty lies in another block. -/
def ApartV (v u : Value) : Prop := ∀ a n c, u = .slice a n c → n ≠ 0 → ∀ g, u.ownBlock = some g → v.ownBlock ≠ some g
theorem apart_nil (u : Value) : ApartV (.slice none 0 0) u := fun _ _ _ _ _ g _ e => by cases e
theorem apart_or {w : World} {base T S n : Nat} {v u u' : Value} {xs : List Value} {B : Nat} (h : ApartV v u) (hown : w.ownsRow base T S v n xs) (ho : u' = u ∨ FreshB B u') (hB : w.heap.size ≤ B) : ApartV v u' := by
  rcases ho with rfl | hf
  · exact h
  · intro _ _ _ _ _ g hg hv
    have h1 := hf g hg
    have h2 := (hown.lt g hv).2
    omega
theorem apart_new {S m : Nat} {w : World} {v u : Value} {g n cap H : Nat} {cs : Nat → Option Value} (h : ApartV v u) (hat : v.ownBlock = some g ∨ g = H) (hs : SeqAt w S u m cs) (hH : w.heap.size ≤ H) : ApartV (.slice (some ⟨g, 0, none⟩) n cap) u := fun a k c e hk b hb hv => by
  have eg : g = b := by simpa [Value.ownBlock] using hv
  subst eg
  rcases hat with h1 | rfl
  · exact h a k c e hk g hb h1
  · rcases hs with ⟨h0, a', c', e'⟩ | ⟨_, _, b', off', cap', e', hlt, _⟩
    · rw [e] at e'
      exact hk (Value.slice.inj e').2.1
    · subst e'
      have e2 : b' = g := by simpa [Value.ownBlock] using hb
      omega
theorem seq_apart {S n : Nat} {w w' : World} {u v : Value} {cs : Nat → Option Value} (h : SeqAt w S u n cs) (ha : ApartV v u) (hg : w.grownBy w' v.ownBlock) : SeqAt w' S u n cs := by
  rcases h with h | ⟨h0, h1, b, off, cap, rfl, hlt, hc⟩
  · exact .inl h
  · exact SeqAt.same (.inr ⟨h0, h1, b, off, cap, rfl, hlt, hc⟩) hg.size fun b' off' cap' e _ _ => by
      cases e
      exact hg.block b hlt (fun e => ha _ _ _ rfl (by omega) b rfl e.symm)
theorem WireI.apart {K B : Nat} {w wr w8 : World} {dv0 fv0 lv0 dv fv lv v : Value} {y0 y : Wre} (h : WireI K B w wr dv0 fv0 lv0 y0 dv fv lv y) (h1 : ApartV v dv) (h2 : ApartV v lv) (hg : wr.grownBy w8 v.ownBlock) : WireI K B w w8 dv0 fv0 lv0 y0 dv fv lv y :=
  ⟨seq_apart h.devs h1 hg, seq_apart h.late h2 hg, h.nil, h.room, h.hd, h.hl, h.hf⟩
theorem wire_lb {y : Wre} (h : wireE y = 0) : ∀ d ∈ y.devs, d.lb.size ≤ 9223372036854775807 := fun d hd => by
  have h1 := (devs_few2 (wire_parts h).1).2 d hd
  have h2 : d.lb.size ≤ 32 := lbl_size _ (by grind [chkD])
  omega
theorem SRows.two {k B n : Nat} {w wx w8 : World} {x : Mgr} {r : Rqs} {dv fv lv v : Value} {xs : List Value} (h : SRows k w wx x r dv fv lv) (hown : wx.ownsRow B 56 4 v n xs) (hB : k ≤ B) (hg : wx.grownBy w8 v.ownBlock) : SRows k w w8 x r dv fv lv :=
  ⟨row_two hown h.m (by decide) hg, row_two hown h.b (by decide) hg, row_two hown h.q (by decide) hg, row_two hown h.z (by decide) hg, row_two hown h.y (by decide) hg, below_grown h.below hown hB hg (by have := h.size; omega)⟩
/-- What is so in each round. -/
def RAllRel (ids : List Int) (kind par : Int) (dat : ByteArray) (p : Mgr × Wre × List Rsl × Int) (dv0 fv0 lv0 : Value) (y0 : Wre) (w wr : World) (v i : Value) : Prop :=
  ∃ (k : Nat) (i' s' t' : Int) (y' : Wre) (out : List Rsl) (d' : Int) (da fa la : Option Addr), ∃ dn dc fn fc ln lc : Nat, i = .int .i64 k ∧ k ≤ ids.length ∧ SRows w.heap.size w wr ⟨i', s', t'⟩ ⟨d', kind, par, dat⟩ (.slice da dn dc) (.slice fa fn fc) (.slice la ln lc) ∧
    WireI w.heap.size (w.heap.size + 5) w wr dv0 fv0 lv0 y0 (.slice da dn dc) (.slice fa fn fc) (.slice la ln lc) y' ∧ wr.ownsRow (w.heap.size + 5) 56 4 v k (rslL out) ∧ out.length = k ∧ allF ⟨0, kind, par, dat⟩ (ids.drop k) ⟨i', s', t'⟩ y' out = p ∧ (∀ d ∈ y'.devs, d.lb.size ≤ 9223372036854775807) ∧ ApartV v (.slice da dn dc) ∧ ApartV v (.slice la ln lc)
theorem allF_dst (r : Rqs) (d : Int) : ∀ (ids : List Int) (x : Mgr) (y : Wre) (out : List Rsl), allF r ids x y out = allF { r with dst := d } ids x y out
  | [], _, _, _ => rfl
  | id :: ids, x, y, out => by
    simp only [allF]
    have e : toR { r with dst := d } id = toR r id := rfl
    rw [e]
    split
    · exact allF_dst r d ids _ _ _
    · rfl

set_option maxHeartbeats 16000000 in
set_option maxRecDepth 100000 in
theorem rall_any (x : Mgr) (da fa la : Option Addr) (dn dc fn fc ln lc : Nat) (y : Wre) (ids : List Int) (ia : Option Addr) (ic : Nat) (dst kind par : Int) (dat : ByteArray) (w : World) (h : WireS w (.slice da dn dc) (.slice fa fn fc) (.slice la ln lc) y) (hi : IdsAt w (.slice ia ids.length ic) ids) (hlb : ∀ d ∈ y.devs, d.lb.size ≤ 9223372036854775807) (hds : dat.size ≤ 9223372036854775807) :
    Calls Tryz.prog 38 #[.agg #[.int .u64 x.id, .int .i64 x.seq, .int .i64 x.tries], .agg #[.slice da dn dc, .slice fa fn fc, .slice la ln lc], .slice ia ids.length ic, .agg #[.int .u64 dst, .int .i64 kind, .int .i64 par, .string dat]] w (RAllPost (allU x y ids ⟨dst, kind, par, dat⟩) (.slice da dn dc) (.slice fa fn fc) (.slice la ln lc) y w) := by
  obtain ⟨id, seq, tries⟩ := x
  show Calls Tryz.prog 38 #[.agg #[.int .u64 id, .int .i64 seq, .int .i64 tries], _, _, _] w _
  obtain ⟨W, hW⟩ : ∃ W, ((((w.alloc (.cells #[.int .u64 id, .int .i64 seq, .int .i64 tries] 41)).alloc (.cells #[.slice da dn dc, .slice fa fn fc, .slice la ln lc] 35)).alloc (.cells #[.int .u64 dst, .int .i64 kind, .int .i64 par, .string dat] 59)).alloc (.cells #[.int .u64 0, .int .i64 0, .int .i64 0] 41)).alloc (.cells #[.slice none 0 0, .slice none 0 0, .slice none 0 0] 35) = W := ⟨_, rfl⟩
  have hbW : Below w.heap.size w W := by rw [← hW]; (repeat' (first | (with_reducible exact Below.refl _ _) | (with_reducible assumption) | (with_reducible refine below_run ?_ (by assumption)) | (with_reducible refine below_of_upd ?_ (by assumption) ?_) | (with_reducible refine below_drewN ?_ _) | (with_reducible refine Below.drew ?_) | (with_reducible refine below_seven ?_ ?_) | (with_reducible refine below_six ?_ ?_) | (with_reducible refine below_one ?_ ?_) | (with_reducible refine Below.alloc ?_ ?_ _) | (with_reducible refine below_after ?_ ?_ (by assumption)) | (show _ ≤ _; first | omega | (simp; done) | (simp; omega))))
  have hS : SRows w.heap.size w W ⟨id, seq, tries⟩ ⟨dst, kind, par, dat⟩ (.slice da dn dc) (.slice fa fn fc) (.slice la ln lc) := by
    refine ⟨?_, ?_, ?_, ?_, ?_, hbW⟩ <;> rw [← hW]
    · exact ((((RowAt.new _ _ _).alloc _).alloc _).alloc _).alloc _
    · exact (((RowAt.mk (by simp) rfl).alloc _).alloc _).alloc _
    · exact ((RowAt.mk (by simp) rfl).alloc _).alloc _
    · exact (RowAt.mk (by simp) rfl).alloc _
    · exact RowAt.mk (by simp) rfl
  obtain ⟨E1, hE1⟩ : ∃ E, mgrE ⟨id, seq, tries⟩ = E := ⟨_, rfl⟩
  obtain ⟨E2, hE2⟩ : ∃ E, wireE y = E := ⟨_, rfl⟩
  have C1 := Lib.hid (fun W => rmright_any id seq tries E1 hE1 W)
  have C2 := Lib.hid (fun W hv => rcheck_any E2 da fa la dn dc fn fc ln lc y W hv hE2 hlb)
  have HE1 := Lib.hid hE1
  have HE2 := Lib.hid hE2
  have H0 := Lib.hid h
  have HS := Lib.hid hS
  have HI := Lib.hid hi
  have HLB := Lib.hid hlb
  have HDS := Lib.hid hds
  have hil : (ids.length : Int) ≤ 140737488351232 := by
    rcases hi with ⟨h0, _⟩ | ⟨_, h1, _⟩ <;> omega
  have HW0 : Hid (WireI w.heap.size (w.heap.size + 5) w W (.slice da dn dc) (.slice fa fn fc) (.slice la ln lc) y (.slice da dn dc) (.slice fa fn fc) (.slice la ln lc) y) := Lib.hid ⟨(h.run hbW).r.devs, (h.run hbW).r.late, h.nil, h.room, .inl rfl, .inl rfl, fun _ hv => hv⟩
  obtain ⟨x1, x2, x3, x4, x5, x6⟩ := row_facts hS.m
  clear h hi hE1 hE2 hS hbW hlb hds
  go_enter Tryz.func38, Tryz.ntmps38
  go_upto_region 1 with fail
  clear hW
  rw [show w.heap.size + 1 + 1 + 1 + 1 = w.heap.size + 4 from rfl, show w.heap.size + 1 + 1 + 1 = w.heap.size + 3 from rfl, show w.heap.size + 1 + 1 = w.heap.size + 2 from rfl]
  go_wp2_with fail
  refine (C1.out _).mono ?_
  rintro e w1 ⟨rfl, hb1⟩
  have HS1 := Lib.hid (HS.out.run hb1)
  have HW1 := Lib.hid (HW0.out.run hb1)
  have hz1 := HS1.out.size
  clear hb1 HS HW0 x1 x2 x3 x4 x5 x6 C1
  by_cases z1 : E1 = 0
  · subst z1
    obtain ⟨x1, x2, x3, x4, x5, x6⟩ := row_facts HS1.out.b
    have HR1 := Lib.hid ((HW1.out.s H0.out HS1.out.below).r)
    go_wp2_with fail
    refine (C2.out _ HR1.out).mono ?_
    rintro e w2 ⟨rfl, hb2⟩
    have HS2 := Lib.hid (HS1.out.run hb2)
    have HW2 := Lib.hid (HW1.out.run hb2)
    have hz2 := HS2.out.size
    clear hb2 HS1 HW1 x1 x2 x3 x4 x5 x6 C2 HR1
    by_cases z2 : E2 = 0
    · subst z2
      by_cases z3 : 64 < ids.length
      · have z3' : (64 : Int) < (ids.length : Int) := by omega
        have hU : allU ⟨id, seq, tries⟩ y ids ⟨dst, kind, par, dat⟩ = (zeroMgr, zeroWre, [], 5) := by rw [allU, if_neg (not_not_intro HE1.out), if_neg (not_not_intro HE2.out), if_pos z3]
        have HUU := Lib.hid hU
        clear hU z3
        obtain ⟨x1, x2, x3, x4, x5, x6⟩ := row_facts HS2.out.z
        obtain ⟨y1, y2, y3, y4, y5, y6⟩ := row_facts HS2.out.y
        go_wp2
        obtain ⟨W11, hW11⟩ : ∃ W, ((w2.setCell ⟨w.heap.size + 3, 0, none⟩ (.int .u64 0)).setCell ⟨w.heap.size + 3, 1, none⟩ (.int .i64 0)).setCell ⟨w.heap.size + 3, 2, none⟩ (.int .i64 0) = W := ⟨_, rfl⟩
        rw [hW11]
        obtain ⟨W12, hW12⟩ : ∃ W, ((W11.setCell ⟨w.heap.size + 4, 0, none⟩ (.slice none 0 0)).setCell ⟨w.heap.size + 4, 1, none⟩ (.slice none 0 0)).setCell ⟨w.heap.size + 4, 2, none⟩ (.slice none 0 0) = W := ⟨_, rfl⟩
        rw [hW12]
        have hu11 : Upd (w.heap.size + 3) w2 W11 := hW11 ▸ upd3
        have z11 : RowAt W11 (w.heap.size + 3) 41 #[.int .u64 0, .int .i64 0, .int .i64 0] := hW11 ▸ row3 HS2.out.z
        have y11 := HS2.out.y.upd hu11 (by omega)
        have hu12 : Upd (w.heap.size + 4) W11 W12 := hW12 ▸ upd3
        have z12 := z11.upd hu12 (by omega)
        have y12 : RowAt W12 (w.heap.size + 4) 35 #[.slice none 0 0, .slice none 0 0, .slice none 0 0] := hW12 ▸ row3 y11
        have b12 := below_of_upd (below_of_upd HS2.out.below hu11 (by omega)) hu12 (by omega)
        clear hW11 hW12 hu11 z11 y11 hu12
        have f30 := cell_fact z12 0
        have f31 := cell_fact z12 1
        have f32 := cell_fact z12 2
        have f40 := cell_fact y12 0
        have f41 := cell_fact y12 1
        have f42 := cell_fact y12 2
        simp only [List.getElem?_toArray] at f30 f31 f32 f40 f41 f42
        rw [HUU.out]
        refine bodyPost_ret (v := .tuple #[.agg #[.int .u64 0, .int .i64 0, .int .i64 0], .agg #[.slice none 0 0, .slice none 0 0, .slice none 0 0], .slice none 0 0, .int .i64 5]) ?_ rfl ⟨none, none, none, none, 0, 0, 0, 0, 0, 0, 0, rfl, wireI_zero _ _ _ _ _ _ _ _, .inl ⟨rfl, _, _, rfl⟩, b12⟩
        simp [results, Tryz.results38, go_sem, f30, f31, f32, f40, f41, f42]
      · have z3' : ¬ (64 : Int) < (ids.length : Int) := by omega
        obtain ⟨p, hp⟩ : ∃ p, allF ⟨0, kind, par, dat⟩ ids ⟨id, seq, tries⟩ y [] = p := ⟨_, rfl⟩
        have hU : allU ⟨id, seq, tries⟩ y ids ⟨dst, kind, par, dat⟩ = p := by rw [allU, if_neg (not_not_intro HE1.out), if_neg (not_not_intro HE2.out), if_neg z3, ← hp, allF_dst ⟨dst, kind, par, dat⟩ 0]
        have HUU := Lib.hid hU
        have HREL : Hid (RAllRel ids kind par dat p (.slice da dn dc) (.slice fa fn fc) (.slice la ln lc) y w w2 (.slice none 0 0) (.int .i64 0)) := Lib.hid ⟨0, id, seq, tries, y, [], dst, da, fa, la, dn, dc, fn, fc, ln, lc, rfl, Nat.zero_le _, HS2.out, HW2.out, World.ownsRow_nil _ _ _ _, rfl, hp, HLB.out, apart_nil _, apart_nil _⟩
        clear hU hp z3 HS2 HW2 hz2 hz1
        obtain ⟨i0, hi4, hz0, hz1, hz2⟩ := info_parts Tryz.info_rrslt
        go_wp2
        go_loopw [14, 15, 16, 17, 18, 19] (fun v i _ _ _ _ wr => RAllRel ids kind par dat p (.slice da dn dc) (.slice fa fn fc) (.slice la ln lc) y w wr v i) (fun _ i _ _ _ _ _ => ids.length - (intOf i).toNat)
        case atStart => exact HREL.out
        case round =>
          rename World => wr
          obtain ⟨k, i', s', t', y', out, d', da', fa', la', dn', dc', fn', fc', ln', lc', rfl, hk, hs, hw, hown, hol, hall, hlbs, hap1, hap2⟩ := hrel
          have HOL := Lib.hid hol
          have HS' := Lib.hid hs
          have HW' := Lib.hid hw
          have HO' := Lib.hid hown
          have HLB' := Lib.hid hlbs
          have HAP1 := Lib.hid hap1
          have HAP2 := Lib.hid hap2
          have hzr := hs.size
          clear hol HREL hlbs hap1 hap2
          by_cases hlt2 : k < ids.length
          · have hlt3 : (k : Int) < (ids.length : Int) := by omega
            have hk0 : (0 : Int) ≤ (k : Int) := by omega
            obtain ⟨b, off, cap, hve, hcel⟩ : ∃ b off cap, Value.slice ia ids.length ic = .slice (some ⟨b, off, none⟩) ids.length cap ∧ ∀ i, i < ids.length * 1 → wr.cell? ⟨b, off + i, none⟩ = u64C ids i := by
              rcases HI.out.below hs.below with ⟨h0, _⟩ | ⟨h0, h1, b, off, cap, hv, hbl, hcel⟩
              · omega
              · exact ⟨b, off, cap, hv, hcel⟩
            cases hve
            obtain ⟨d, hd, f0⟩ := id_cell hcel k hlt2
            have hst := hall
            have e0 : toR ⟨0, kind, par, dat⟩ d = ⟨d, kind, par, dat⟩ := rfl
            obtain ⟨E, hE⟩ : ∃ E, askE ⟨i', s', t'⟩ y' ⟨d, kind, par, dat⟩ = E := ⟨_, rfl⟩
            rw [drop_id hd, allF, e0, hE] at hst
            have HST := Lib.hid hst
            have HE := Lib.hid hE
            obtain ⟨x1, x2, x3, x4, x5, x6⟩ := row_facts hs.q
            clear hst hE hs hw hown hall hcel hd e0
            go_upto_region 14 with fail
            obtain ⟨Z, hZ⟩ : ∃ Z, wr.setCell ⟨w.heap.size + 2, 0, none⟩ (.int .u64 d) = Z := ⟨_, rfl⟩
            rw [hZ]
            have hu : Upd (w.heap.size + 2) wr Z := hZ ▸ upd_set (upd_refl _ _) 0 _
            have tS : SRows w.heap.size w Z ⟨i', s', t'⟩ ⟨d, kind, par, dat⟩ (.slice da' dn' dc') (.slice fa' fn' fc') (.slice la' ln' lc') := hZ ▸ HS'.out.setTo
            have tW := HW'.out.upd H0.out (Nat.le_refl _) hu (by omega) (by omega)
            have tO := own_upd HO'.out HS'.out.q (by decide) hu
            have tz := tS.size
            have HSZ := Lib.hid tS
            have HWZ := Lib.hid tW
            have HOZ := Lib.hid tO
            have HWS := Lib.hid (tW.s H0.out tS.below)
            clear x1 x2 x3 x4 x5 x6 hZ hu tW tO HS' HW' HO' f0
            obtain ⟨x1, x2, x3, x4, x5, x6⟩ := row_facts tS.m
            obtain ⟨y1, y2, y3, y4, y5, y6⟩ := row_facts tS.b
            obtain ⟨q1, q2, q3, q4, q5, q6⟩ := row_facts tS.q
            have CK := Lib.hid (raskable_any E i' s' t' da' fa' la' dn' dc' fn' fc' ln' lc' y' d kind par dat Z HWS.out.r HLB'.out HE.out)
            clear tS
            go_wp2_with fail
            refine CK.out.mono ?_
            rintro e w5 ⟨rfl, hb5⟩
            have HS5 := Lib.hid (HSZ.out.run hb5)
            have HW5 := Lib.hid (HWZ.out.run hb5)
            have HO5 := Lib.hid (own_run HOZ.out hb5)
            have HWS5 := Lib.hid (HWS.out.run hb5)
            have hz5 := HS5.out.size
            clear x1 x2 x3 x4 x5 x6 y1 y2 y3 y4 y5 y6 q1 q2 q3 q4 q5 q6 hb5 HSZ HWZ HOZ HWS CK
            by_cases hz : E = 0
            · subst hz
              obtain ⟨g1, g2, g3, -, -, -⟩ := ask_parts HE.out
              obtain ⟨-, -, -, k4, k5⟩ := mgr_parts g1
              obtain ⟨⟨⟨j1, j2, j3⟩, y2, ⟨rk, rd, rr, rt⟩⟩, hp2⟩ : ∃ q, askM ⟨i', s', t'⟩ y' ⟨d, kind, par, dat⟩ = q := ⟨_, rfl⟩
              have hca := rasked_any ⟨i', s', t'⟩ da' fa' la' dn' dc' fn' fc' ln' lc' y' d kind par dat w5 HWS5.out g2 g3 k4 k5 HDS.out
              have hst2 := HST.out
              have hwy : wireE y2 = 0 := by
                have := ask_wire (r := ⟨d, kind, par, dat⟩) (⟨i', s', t'⟩ : Mgr).tries.toNat 1 ⟨i', s', t'⟩ y' g2 g3
                have e : askF ⟨d, kind, par, dat⟩ (⟨i', s', t'⟩ : Mgr).tries.toNat 1 ⟨i', s', t'⟩ y' = _ := hp2
                rw [e] at this
                exact this
              rw [hp2] at hca hst2
              rw [if_pos rfl] at hst2
              dsimp only at hst2
              have CA := Lib.hid hca
              have HST2 := Lib.hid hst2
              have HWY := Lib.hid hwy
              obtain ⟨x1, x2, x3, x4, x5, x6⟩ := row_facts HS5.out.m
              obtain ⟨y1, y2', y3, y4, y5, y6⟩ := row_facts HS5.out.b
              obtain ⟨q1, q2, q3, q4, q5, q6⟩ := row_facts HS5.out.q
              clear hca hst2 g1 g2 g3 k4 k5 hp2 HST HE hwy
              go_wp2_with fail
              refine CA.out.mono ?_
              rintro e w6 ⟨a1, a2, a3, n1, c1, n2, c2, n3, c3, he, hI, hb6⟩
              have he' : e = .returned (.tuple #[.agg #[.int .u64 j1, .int .i64 j2, .int .i64 j3], .agg #[.slice a1 n1 c1, .slice a2 n2 c2, .slice a3 n3 c3], .agg #[.int .i64 rk, .string rd, .int .i64 rr, .int .i64 rt]]) := he
              subst he'
              have HS6 := Lib.hid (HS5.out.run hb6)
              have HO6 := Lib.hid (own_run HO5.out hb6)
              have HW6 := Lib.hid (HW5.out.trans hI hz5)
              have AP1 := Lib.hid (apart_or HAP1.out HO5.out hI.hd (Nat.le_refl _))
              have AP2 := Lib.hid (apart_or HAP2.out HO5.out hI.hl (Nat.le_refl _))
              have hz6 := HS6.out.size
              clear he hI hb6 x1 x2 x3 x4 x5 x6 y1 y2' y3 y4 y5 y6 q1 q2 q3 q4 q5 q6 CA HS5 HO5 HW5 HWS5
              go_upto_region 18 with fail
              (try rw [show w6.heap.size + 1 + 1 = w6.heap.size + 2 from rfl])
              obtain ⟨W7, hW7⟩ : ∃ W, ((w6.alloc (.cells #[.int .u64 j1, .int .i64 j2, .int .i64 j3] 41)).alloc (.cells #[.slice a1 n1 c1, .slice a2 n2 c2, .slice a3 n3 c3] 35)).alloc (.cells #[.int .i64 rk, .string rd, .int .i64 rr, .int .i64 rt] 56) = W := ⟨_, rfl⟩
              rw [hW7]
              have hb7 : Below w6.heap.size w6 W7 := by rw [← hW7]; (repeat' (first | (with_reducible exact Below.refl _ _) | (with_reducible assumption) | (with_reducible refine below_run ?_ (by assumption)) | (with_reducible refine below_of_upd ?_ (by assumption) ?_) | (with_reducible refine below_drewN ?_ _) | (with_reducible refine Below.drew ?_) | (with_reducible refine below_seven ?_ ?_) | (with_reducible refine below_six ?_ ?_) | (with_reducible refine below_one ?_ ?_) | (with_reducible refine Below.alloc ?_ ?_ _) | (with_reducible refine below_after ?_ ?_ (by assumption)) | (show _ ≤ _; first | omega | (simp; done) | (simp; omega))))
              have r11 : RowAt W7 w6.heap.size 41 #[.int .u64 j1, .int .i64 j2, .int .i64 j3] := by rw [← hW7]; exact ((RowAt.new _ _ _).alloc _).alloc _
              have r12 : RowAt W7 (w6.heap.size + 1) 35 #[.slice a1 n1 c1, .slice a2 n2 c2, .slice a3 n3 c3] := by rw [← hW7]; exact (RowAt.mk (by simp) rfl).alloc _
              have r13 : RowAt W7 (w6.heap.size + 2) 56 #[.int .i64 rk, .string rd, .int .i64 rr, .int .i64 rt] := by rw [← hW7]; exact RowAt.mk (by simp) rfl
              have HS7 := Lib.hid (HS6.out.run hb7)
              have HW7 := Lib.hid (HW6.out.run hb7)
              have HO7 := Lib.hid (own_run HO6.out hb7)
              have HLT6 := Lib.hid HO6.out.lt
              obtain ⟨k2, hk2⟩ : ∃ k, w6.heap.size = k := ⟨_, rfl⟩
              rw [hk2] at r11 r12 r13 hz6 HLT6 ⊢
              have hz7 := lt_of_block r13
              have HL8 : Hid (∀ w8, (W7.alloc (.cells #[.int .i64 rk, .string rd, .int .i64 rr, .int .i64 rt] 56)).drew.grownBy w8 (Value.ownBlock u14) → (w8.cell? ⟨k2, 0, none⟩ = some (.int .u64 j1) ∧ w8.cell? ⟨k2, 1, none⟩ = some (.int .i64 j2) ∧ w8.cell? ⟨k2, 2, none⟩ = some (.int .i64 j3) ∧ w8.cell? ⟨k2 + 1, 0, none⟩ = some (.slice a1 n1 c1) ∧ w8.cell? ⟨k2 + 1, 1, none⟩ = some (.slice a2 n2 c2) ∧ w8.cell? ⟨k2 + 1, 2, none⟩ = some (.slice a3 n3 c3) ∧ w8.cell? ⟨k2 + 2, 0, none⟩ = some (.int .i64 rk) ∧ w8.cell? ⟨k2 + 2, 1, none⟩ = some (.string rd) ∧ w8.cell? ⟨k2 + 2, 2, none⟩ = some (.int .i64 rr) ∧ w8.cell? ⟨k2 + 2, 3, none⟩ = some (.int .i64 rt))) := Lib.hid (fun w8 hg => by
                have a0 := row_two ((HO7.out.alloc (.cells #[.int .i64 rk, .string rd, .int .i64 rr, .int .i64 rt] 56)).drew) ((r11.alloc _).drew) (by decide) hg
                have a1 := row_two ((HO7.out.alloc (.cells #[.int .i64 rk, .string rd, .int .i64 rr, .int .i64 rt] 56)).drew) ((r12.alloc _).drew) (by decide) hg
                have a2 : RowAt w8 (k2 + 2) 56 #[.int .i64 rk, .string rd, .int .i64 rr, .int .i64 rt] := (hg.block (k2 + 2) (by simp; omega) (fun e => by
                  have h9 := (HLT6.out (k2 + 2) e.symm).2
                  omega)).trans (r13.alloc _)
                exact ⟨cell_fact a0 0, cell_fact a0 1, cell_fact a0 2, cell_fact a1 0, cell_fact a1 1, cell_fact a1 2, cell_fact a2 0, cell_fact a2 1, cell_fact a2 2, cell_fact a2 3⟩)
              have HS8 : Hid (∀ w8, (W7.alloc (.cells #[.int .i64 rk, .string rd, .int .i64 rr, .int .i64 rt] 56)).drew.grownBy w8 (Value.ownBlock u14) → SRows w.heap.size w w8 ⟨i', s', t'⟩ ⟨d, kind, par, dat⟩ (.slice da' dn' dc') (.slice fa' fn' fc') (.slice la' ln' lc')) := Lib.hid (fun w8 hg => SRows.two (HS7.out.run (Below.drew ((Below.refl _ _).alloc (Nat.le_refl _) _))) ((HO7.out.alloc _).drew) (by omega) hg)
              have hk64 : k < 64 := by omega
              obtain ⟨x1, x2, x3, x4, x5, x6⟩ := row_facts r11
              obtain ⟨y1, y2', y3, y4, y5, y6⟩ := row_facts r12
              obtain ⟨q1, q2, q3, q4, q5, q6⟩ := row_facts r13
              clear r11 r12 r13 hW7 hb7 HS6 HW6 HO6
              (try (have hn : ¬ k2 = w.heap.size := (by omega); have hn' : ¬ w.heap.size = k2 := (by omega)))
              (try (have hn : ¬ k2 = w.heap.size + 1 := (by omega); have hn' : ¬ w.heap.size + 1 = k2 := (by omega)))
              (try (have hn : ¬ k2 + 1 = w.heap.size := (by omega); have hn' : ¬ w.heap.size = k2 + 1 := (by omega)))
              (try (have hn : ¬ k2 + 1 = w.heap.size + 1 := (by omega); have hn' : ¬ w.heap.size + 1 = k2 + 1 := (by omega)))
              (try (have hn : ¬ k2 + 2 = w.heap.size := (by omega); have hn' : ¬ w.heap.size = k2 + 2 := (by omega)))
              (try (have hn : ¬ k2 + 2 = w.heap.size + 1 := (by omega); have hn' : ¬ w.heap.size + 1 = k2 + 2 := (by omega)))
              go_region_held3 (fun w' => w'.cell? ⟨k2, 0, none⟩ = some (.int .u64 j1) ∧ w'.cell? ⟨k2, 1, none⟩ = some (.int .i64 j2) ∧ w'.cell? ⟨k2, 2, none⟩ = some (.int .i64 j3) ∧ w'.cell? ⟨k2 + 1, 0, none⟩ = some (.slice a1 n1 c1) ∧ w'.cell? ⟨k2 + 1, 1, none⟩ = some (.slice a2 n2 c2) ∧ w'.cell? ⟨k2 + 1, 2, none⟩ = some (.slice a3 n3 c3) ∧ w'.cell? ⟨k2 + 2, 0, none⟩ = some (.int .i64 rk) ∧ w'.cell? ⟨k2 + 2, 1, none⟩ = some (.string rd) ∧ w'.cell? ⟨k2 + 2, 2, none⟩ = some (.int .i64 rr) ∧ w'.cell? ⟨k2 + 2, 3, none⟩ = some (.int .i64 rt)) (first | (with_reducible exact ⟨m0, m1, m2, m3, m4, m5, m6, m7, m8, m9⟩) | go_keep)
                ((refine step_append_lies _ (by rfl) _ _ _ (by rfl) (w.heap.size + 5) 56 i0 _ 4 40 Tryz.underlying88 hi4 hz0 hz1 hz2 rfl (by decide) u14 k _ (by rfl) ((HO7.out.alloc _).drew) ⟨W7.heap.size, 0, none⟩ 1 1 (rslA ⟨rk, rd, rr, rt⟩).toList (by rfl) (by rfl) (World.news_of_block (cs := #[.int .i64 rk, .string rd, .int .i64 rr, .int .i64 rt]) (t := 56) (fr := (0, 0)) (heap_alloc_new _ _)) (rsl_ones ⟨rk, rd, rr, rt⟩) (by decide) (by unfold maxLen; omega) (by omega) (by simp; omega) (W7.heap.size + 1) (by simp) ?_; intro gg cp w8 hown8 hgrow hat hlt8; have hgr8 : (W7.alloc (.cells #[.int .i64 rk, .string rd, .int .i64 rr, .int .i64 rt] 56)).drew.grownBy w8 (Value.ownBlock u14) := hgrow; obtain ⟨m0, m1, m2, m3, m4, m5, m6, m7, m8, m9⟩ := HL8.out w8 hgr8; have hs8 := HS8.out w8 hgr8; obtain ⟨v1, v2, v3, v4, v5, v6⟩ := row_facts hs8.m; obtain ⟨z1', z2', z3'', z4, z5, z6⟩ := row_facts hs8.b))
              obtain ⟨W8, hW8⟩ : ∃ W, ((w8.setCell ⟨w.heap.size, 0, none⟩ (.int .u64 j1)).setCell ⟨w.heap.size, 1, none⟩ (.int .i64 j2)).setCell ⟨w.heap.size, 2, none⟩ (.int .i64 j3) = W := ⟨_, rfl⟩
              rw [hW8]
              obtain ⟨W9, hW9⟩ : ∃ W, ((W8.setCell ⟨w.heap.size + 1, 0, none⟩ (.slice a1 n1 c1)).setCell ⟨w.heap.size + 1, 1, none⟩ (.slice a2 n2 c2)).setCell ⟨w.heap.size + 1, 2, none⟩ (.slice a3 n3 c3) = W := ⟨_, rfl⟩
              rw [hW9]
              have hu8 : Upd w.heap.size w8 W8 := hW8 ▸ upd3
              have hu9 : Upd (w.heap.size + 1) W8 W9 := hW9 ▸ upd3
              have s9 : SRows w.heap.size w W9 ⟨j1, j2, j3⟩ ⟨d, kind, par, dat⟩ (.slice a1 n1 c1) (.slice a2 n2 c2) (.slice a3 n3 c3) := by rw [← hW9, ← hW8]; exact hs8.both
              have i8 := (HW7.out.run (Below.drew ((Below.refl _ _).alloc (Nat.le_refl _) (.cells #[.int .i64 rk, .string rd, .int .i64 rr, .int .i64 rt] 56)))).apart AP1.out AP2.out hgr8
              have i9 := (i8.upd H0.out (Nat.le_refl _) hu8 (Nat.le_refl _) (by omega)).upd H0.out (Nat.le_refl _) hu9 (by omega) (by omega)
              have o9 := own_upd (own_upd hown8 hs8.m (by decide) hu8) (hs8.b.upd hu8 (by omega)) (by decide) hu9
              have hd2 : rslL (out ++ [(⟨rk, rd, rr, rt⟩ : Rsl)]) = rslL out ++ (rslA ⟨rk, rd, rr, rt⟩).toList := by rw [rslL_append]; rfl
              rw [← hd2] at o9
              have HREL2 := Lib.hid (show RAllRel ids kind par dat p (.slice da dn dc) (.slice fa fn fc) (.slice la ln lc) y w W9 (.slice (some ⟨gg, 0, none⟩) (k + 1) cp) (.int .i64 ((k + 1 : Nat) : Int)) from
                ⟨k + 1, j1, j2, j3, y2, out ++ [⟨rk, rd, rr, rt⟩], d, a1, a2, a3, n1, c1, n2, c2, n3, c3, rfl, by omega, s9, i9, o9, by simp [HOL.out], HST2.out, wire_lb HWY.out, apart_new AP1.out hat HW7.out.devs (by omega), apart_new AP2.out hat HW7.out.late (by omega)⟩)
              clear hW8 hW9 hu8 hu9 s9 i8 i9 o9 hd2 hs8 hown8 hgrow hgr8 hat hlt8 HL8 HS8 HS7 HW7 HO7 HLT6 AP1 AP2 HST2 HWY m0 m1 m2 m3 m4 m5 m6 m7 m8 m9 v1 v2 v3 v4 v5 v6 z1' z2' z3'' z4 z5 z6 x1 x2 x3 x4 x5 x6 y1 y2' y3 y4 y5 y6 q1 q2 q3 q4 q5 q6
              go_wp2
              go_roundw
              case rel =>
                refine Eq.mpr (congrArg (fun i => RAllRel ids kind par dat p (.slice da dn dc) (.slice fa fn fc) (.slice la ln lc) y w W9 (.slice (some ⟨gg, 0, none⟩) (k + 1) cp) i) (?_ : _ = Value.int .i64 ((k + 1 : Nat) : Int))) HREL2.out
                go_num
              case measure => simp [intOf]; omega
            · have e9 : (E != 0) = true := by simpa using hz
              have hst2 := HST.out
              rw [if_neg hz] at hst2
              have hU2 := HUU.out
              rw [← hst2] at hU2
              have HU2 := Lib.hid hU2
              clear hz hst2 hU2 HST HE
              obtain ⟨x1, x2, x3, x4, x5, x6⟩ := row_facts HS5.out.z
              obtain ⟨y1, y2, y3, y4, y5, y6⟩ := row_facts HS5.out.y
              go_wp2
              obtain ⟨W11, hW11⟩ : ∃ W, ((w5.setCell ⟨w.heap.size + 3, 0, none⟩ (.int .u64 0)).setCell ⟨w.heap.size + 3, 1, none⟩ (.int .i64 0)).setCell ⟨w.heap.size + 3, 2, none⟩ (.int .i64 0) = W := ⟨_, rfl⟩
              rw [hW11]
              obtain ⟨W12, hW12⟩ : ∃ W, ((W11.setCell ⟨w.heap.size + 4, 0, none⟩ (.slice none 0 0)).setCell ⟨w.heap.size + 4, 1, none⟩ (.slice none 0 0)).setCell ⟨w.heap.size + 4, 2, none⟩ (.slice none 0 0) = W := ⟨_, rfl⟩
              rw [hW12]
              have hu11 : Upd (w.heap.size + 3) w5 W11 := hW11 ▸ upd3
              have z11 : RowAt W11 (w.heap.size + 3) 41 #[.int .u64 0, .int .i64 0, .int .i64 0] := hW11 ▸ row3 HS5.out.z
              have y11 := HS5.out.y.upd hu11 (by omega)
              have hu12 : Upd (w.heap.size + 4) W11 W12 := hW12 ▸ upd3
              have z12 := z11.upd hu12 (by omega)
              have y12 : RowAt W12 (w.heap.size + 4) 35 #[.slice none 0 0, .slice none 0 0, .slice none 0 0] := hW12 ▸ row3 y11
              have b12 := below_of_upd (below_of_upd HS5.out.below hu11 (by omega)) hu12 (by omega)
              clear hW11 hW12 hu11 z11 y11 hu12
              have f30 := cell_fact z12 0
              have f31 := cell_fact z12 1
              have f32 := cell_fact z12 2
              have f40 := cell_fact y12 0
              have f41 := cell_fact y12 1
              have f42 := cell_fact y12 2
              simp only [List.getElem?_toArray] at f30 f31 f32 f40 f41 f42
              rw [HU2.out]
              refine bodyPost_ret (v := .tuple #[.agg #[.int .u64 0, .int .i64 0, .int .i64 0], .agg #[.slice none 0 0, .slice none 0 0, .slice none 0 0], .slice none 0 0, .int .i64 E]) ?_ rfl ⟨none, none, none, none, 0, 0, 0, 0, 0, 0, 0, rfl, wireI_zero _ _ _ _ _ _ _ _, .inl ⟨rfl, _, _, rfl⟩, b12⟩
              simp [results, Tryz.results38, go_sem, f30, f31, f32, f40, f41, f42]
          · obtain rfl : k = ids.length := by omega
            rw [List.drop_length, allF] at hall
            subst hall
            have hown2 := hown
            rw [← HOL.out] at hown2
            obtain ⟨ra, rc, rfl⟩ := shape_of (own_rsls hown2 (by have := HOL.out; omega))
            have HO2 := Lib.hid hown2
            have hol2 : (out.length : Int) ≤ 140737488351232 := by have := HOL.out; omega
            obtain ⟨x1, x2, x3, x4, x5, x6⟩ := row_facts hs.m
            obtain ⟨y1, y2, y3, y4, y5, y6⟩ := row_facts hs.b
            obtain ⟨z1, z2, z3, z4, z5, z6⟩ := row_facts hs.z
            obtain ⟨v1, v2, v3, v4, v5, v6⟩ := row_facts hs.y
            (try (have hn : ¬ w.heap.size = w.heap.size + 3 := (by omega); have hn' : ¬ w.heap.size + 3 = w.heap.size := (by omega)))
            (try (have hn : ¬ w.heap.size = w.heap.size + 4 := (by omega); have hn' : ¬ w.heap.size + 4 = w.heap.size := (by omega)))
            (try (have hn : ¬ w.heap.size + 1 = w.heap.size + 3 := (by omega); have hn' : ¬ w.heap.size + 3 = w.heap.size + 1 := (by omega)))
            (try (have hn : ¬ w.heap.size + 1 = w.heap.size + 4 := (by omega); have hn' : ¬ w.heap.size + 4 = w.heap.size + 1 := (by omega)))
            (try (have hn : ¬ w.heap.size + 3 = w.heap.size + 4 := (by omega); have hn' : ¬ w.heap.size + 4 = w.heap.size + 3 := (by omega)))
            clear hs hw hown hown2 HAP1 HAP2 HLB'
            go_wp2_with fail
            go_region_held3 (fun w' => w'.cell? ⟨w.heap.size, 0, none⟩ = some (.int .u64 i') ∧ w'.cell? ⟨w.heap.size, 1, none⟩ = some (.int .i64 s') ∧ w'.cell? ⟨w.heap.size, 2, none⟩ = some (.int .i64 t') ∧ w'.cell? ⟨w.heap.size + 1, 0, none⟩ = some (.slice da' dn' dc') ∧ w'.cell? ⟨w.heap.size + 1, 1, none⟩ = some (.slice fa' fn' fc') ∧ w'.cell? ⟨w.heap.size + 1, 2, none⟩ = some (.slice la' ln' lc')) (go_keep) (fail)
            all_goals
              obtain ⟨W11, hW11⟩ : ∃ W, ((wr.setCell ⟨w.heap.size + 3, 0, none⟩ (.int .u64 i')).setCell ⟨w.heap.size + 3, 1, none⟩ (.int .i64 s')).setCell ⟨w.heap.size + 3, 2, none⟩ (.int .i64 t') = W := ⟨_, rfl⟩
              rw [hW11]
              obtain ⟨W12, hW12⟩ : ∃ W, ((W11.setCell ⟨w.heap.size + 4, 0, none⟩ (.slice da' dn' dc')).setCell ⟨w.heap.size + 4, 1, none⟩ (.slice fa' fn' fc')).setCell ⟨w.heap.size + 4, 2, none⟩ (.slice la' ln' lc') = W := ⟨_, rfl⟩
              rw [hW12]
              have hu11 : Upd (w.heap.size + 3) wr W11 := hW11 ▸ upd3
              have z11 : RowAt W11 (w.heap.size + 3) 41 #[.int .u64 i', .int .i64 s', .int .i64 t'] := hW11 ▸ row3 HS'.out.z
              have y11 := HS'.out.y.upd hu11 (by omega)
              have hu12 : Upd (w.heap.size + 4) W11 W12 := hW12 ▸ upd3
              have z12 := z11.upd hu12 (by omega)
              have y12 : RowAt W12 (w.heap.size + 4) 35 #[.slice da' dn' dc', .slice fa' fn' fc', .slice la' ln' lc'] := hW12 ▸ row3 y11
              have b12 := below_of_upd (below_of_upd HS'.out.below hu11 (by omega)) hu12 (by omega)
              have w12 := (HW'.out.upd H0.out (Nat.le_refl _) hu11 (by omega) (by omega)).upd H0.out (Nat.le_refl _) hu12 (by omega) (by omega)
              have o12 := own_upd (own_upd HO2.out HS'.out.z (by decide) hu11) y11 (by decide) hu12
              clear hW11 hW12 hu11 z11 y11 hu12
              have f30 := cell_fact z12 0
              have f31 := cell_fact z12 1
              have f32 := cell_fact z12 2
              have f40 := cell_fact y12 0
              have f41 := cell_fact y12 1
              have f42 := cell_fact y12 2
              simp only [List.getElem?_toArray] at f30 f31 f32 f40 f41 f42
              have hB9 := Lib.hid b12
              have hW9 := Lib.hid w12
              have hO9 := Lib.hid o12
              go_wp2
              rw [HUU.out]
              refine bodyPost_ret (v := .tuple #[.agg #[.int .u64 i', .int .i64 s', .int .i64 t'], .agg #[.slice da' dn' dc', .slice fa' fn' fc', .slice la' ln' lc'], .slice ra out.length rc, .int .i64 0]) ?_ rfl ⟨da', fa', la', ra, dn', dc', fn', fc', ln', lc', rc, rfl, ?_, ?_, ?_⟩
              · simp [results, Tryz.results38, go_sem, f30, f31, f32, f40, f41, f42]
              · exact (hW9.out.run (Below.drew (Below.refl _ _))).mono (by omega)
              · exact RslsAt.drew (own_rsls (l := out) hO9.out (by omega))
              · exact Below.drew hB9.out
    · have e9 : (E2 != 0) = true := by simpa using z2
      have hU : allU ⟨id, seq, tries⟩ y ids ⟨dst, kind, par, dat⟩ = (zeroMgr, zeroWre, [], E2) := by rw [allU, if_neg (not_not_intro HE1.out), if_pos (by rw [HE2.out]; exact z2), HE2.out]
      have HUU := Lib.hid hU
      clear hU z2
      obtain ⟨x1, x2, x3, x4, x5, x6⟩ := row_facts HS2.out.z
      obtain ⟨y1, y2, y3, y4, y5, y6⟩ := row_facts HS2.out.y
      go_wp2
      obtain ⟨W11, hW11⟩ : ∃ W, ((w2.setCell ⟨w.heap.size + 3, 0, none⟩ (.int .u64 0)).setCell ⟨w.heap.size + 3, 1, none⟩ (.int .i64 0)).setCell ⟨w.heap.size + 3, 2, none⟩ (.int .i64 0) = W := ⟨_, rfl⟩
      rw [hW11]
      obtain ⟨W12, hW12⟩ : ∃ W, ((W11.setCell ⟨w.heap.size + 4, 0, none⟩ (.slice none 0 0)).setCell ⟨w.heap.size + 4, 1, none⟩ (.slice none 0 0)).setCell ⟨w.heap.size + 4, 2, none⟩ (.slice none 0 0) = W := ⟨_, rfl⟩
      rw [hW12]
      have hu11 : Upd (w.heap.size + 3) w2 W11 := hW11 ▸ upd3
      have z11 : RowAt W11 (w.heap.size + 3) 41 #[.int .u64 0, .int .i64 0, .int .i64 0] := hW11 ▸ row3 HS2.out.z
      have y11 := HS2.out.y.upd hu11 (by omega)
      have hu12 : Upd (w.heap.size + 4) W11 W12 := hW12 ▸ upd3
      have z12 := z11.upd hu12 (by omega)
      have y12 : RowAt W12 (w.heap.size + 4) 35 #[.slice none 0 0, .slice none 0 0, .slice none 0 0] := hW12 ▸ row3 y11
      have b12 := below_of_upd (below_of_upd HS2.out.below hu11 (by omega)) hu12 (by omega)
      clear hW11 hW12 hu11 z11 y11 hu12
      have f30 := cell_fact z12 0
      have f31 := cell_fact z12 1
      have f32 := cell_fact z12 2
      have f40 := cell_fact y12 0
      have f41 := cell_fact y12 1
      have f42 := cell_fact y12 2
      simp only [List.getElem?_toArray] at f30 f31 f32 f40 f41 f42
      rw [HUU.out]
      refine bodyPost_ret (v := .tuple #[.agg #[.int .u64 0, .int .i64 0, .int .i64 0], .agg #[.slice none 0 0, .slice none 0 0, .slice none 0 0], .slice none 0 0, .int .i64 E2]) ?_ rfl ⟨none, none, none, none, 0, 0, 0, 0, 0, 0, 0, rfl, wireI_zero _ _ _ _ _ _ _ _, .inl ⟨rfl, _, _, rfl⟩, b12⟩
      simp [results, Tryz.results38, go_sem, f30, f31, f32, f40, f41, f42]
  · have e9 : (E1 != 0) = true := by simpa using z1
    have hU : allU ⟨id, seq, tries⟩ y ids ⟨dst, kind, par, dat⟩ = (zeroMgr, zeroWre, [], E1) := by rw [allU, if_pos (by rw [HE1.out]; exact z1), HE1.out]
    have HUU := Lib.hid hU
    clear hU z1
    obtain ⟨x1, x2, x3, x4, x5, x6⟩ := row_facts HS1.out.z
    obtain ⟨y1, y2, y3, y4, y5, y6⟩ := row_facts HS1.out.y
    go_wp2
    obtain ⟨W11, hW11⟩ : ∃ W, ((w1.setCell ⟨w.heap.size + 3, 0, none⟩ (.int .u64 0)).setCell ⟨w.heap.size + 3, 1, none⟩ (.int .i64 0)).setCell ⟨w.heap.size + 3, 2, none⟩ (.int .i64 0) = W := ⟨_, rfl⟩
    rw [hW11]
    obtain ⟨W12, hW12⟩ : ∃ W, ((W11.setCell ⟨w.heap.size + 4, 0, none⟩ (.slice none 0 0)).setCell ⟨w.heap.size + 4, 1, none⟩ (.slice none 0 0)).setCell ⟨w.heap.size + 4, 2, none⟩ (.slice none 0 0) = W := ⟨_, rfl⟩
    rw [hW12]
    have hu11 : Upd (w.heap.size + 3) w1 W11 := hW11 ▸ upd3
    have z11 : RowAt W11 (w.heap.size + 3) 41 #[.int .u64 0, .int .i64 0, .int .i64 0] := hW11 ▸ row3 HS1.out.z
    have y11 := HS1.out.y.upd hu11 (by omega)
    have hu12 : Upd (w.heap.size + 4) W11 W12 := hW12 ▸ upd3
    have z12 := z11.upd hu12 (by omega)
    have y12 : RowAt W12 (w.heap.size + 4) 35 #[.slice none 0 0, .slice none 0 0, .slice none 0 0] := hW12 ▸ row3 y11
    have b12 := below_of_upd (below_of_upd HS1.out.below hu11 (by omega)) hu12 (by omega)
    clear hW11 hW12 hu11 z11 y11 hu12
    have f30 := cell_fact z12 0
    have f31 := cell_fact z12 1
    have f32 := cell_fact z12 2
    have f40 := cell_fact y12 0
    have f41 := cell_fact y12 1
    have f42 := cell_fact y12 2
    simp only [List.getElem?_toArray] at f30 f31 f32 f40 f41 f42
    rw [HUU.out]
    refine bodyPost_ret (v := .tuple #[.agg #[.int .u64 0, .int .i64 0, .int .i64 0], .agg #[.slice none 0 0, .slice none 0 0, .slice none 0 0], .slice none 0 0, .int .i64 E1]) ?_ rfl ⟨none, none, none, none, 0, 0, 0, 0, 0, 0, 0, rfl, wireI_zero _ _ _ _ _ _ _ _, .inl ⟨rfl, _, _, rfl⟩, b12⟩
    simp [results, Tryz.results38, go_sem, f30, f31, f32, f40, f41, f42]
end Go.Proofs.YtpjmhhfpjhmiiaaGreat

namespace Go.Proofs.YtpjmhhfpjhmiiaaGreat
open Go.RowKit Go.Shelf

theorem allF_length (r : Rqs) : ∀ (ids : List Int) (x : Mgr) (y : Wre) (out : List Rsl), (allF r ids x y out).2.1.devs.length ≤ y.devs.length
  | [], _, _, _ => Nat.le_refl _
  | id :: ids, x, y, out => by
    rw [allF]
    split
    · refine Nat.le_trans (allF_length r ids _ _ _) (Nat.le_of_eq ?_)
      exact askF_length _ _ _ _ _
    · exact Nat.zero_le _
theorem allU_length (x : Mgr) (y : Wre) (ids : List Int) (r : Rqs) : (allU x y ids r).2.1.devs.length ≤ y.devs.length := by
  unfold allU
  split
  · exact Nat.zero_le _
  · split
    · exact Nat.zero_le _
    · split
      · exact Nat.zero_le _
      · exact allF_length r ids x y []
/-- Results lie elsewhere than a row of three cells. -/
theorem rsls_three {w w' : World} {s T : Nat} {a0 a1 a2 v : Value} {l : List Rsl} (h : RslsAt w v l) (hr : RowAt w s T #[a0, a1, a2]) (hu : Upd s w w') : RslsAt w' v l :=
  SeqAt.same h hu.size fun b off cap e h0 hc => by
    have q3 : w.cell? ⟨b, off + 3, none⟩ = some (.int .i64 (l[0]'h0).tries) := by
      rw [hc 3 (by omega)]
      simp [rslC, List.getElem?_eq_getElem h0, rslA]
    refine hu.block b (World.block_lt_of_cell? w _ q3) (fun e => ?_)
    cases e
    rw [cell_fact hr] at q3
    have h3 := (Array.getElem?_eq_some_iff.1 q3).1
    have h4 : (#[a0, a1, a2] : Array Value).size = 3 := rfl
    omega
theorem RslsAt.alloc {w : World} {v : Value} {l : List Rsl} (h : RslsAt w v l) (o : Obj) : RslsAt (w.alloc o) v l := h.run ((Below.refl _ _).alloc (Nat.le_refl _) o)

/-- What is so behind the reference's All. -/
def RoundsCut (x : Mgr) (y : Wre) (L : List Rsl) (E : Int) (Z : World) (s9 s10 s11 s12 : Value) (wx : World) : Prop :=
  ∃ (g9 g10 : Nat) (d3 f3 l3 m3 : Option Addr), ∃ n1 c1 n2 c2 n3 c3 n4 c4 : Nat, n4 = L.length ∧ s9 = .pointer (some ⟨g9, 0, none⟩) ∧ s10 = .pointer (some ⟨g10, 0, none⟩) ∧ s11 = .slice m3 n4 c4 ∧ s12 = .int .i64 E ∧
    RowAt wx g9 41 #[.int .u64 x.id, .int .i64 x.seq, .int .i64 x.tries] ∧ RowAt wx g10 35 #[.slice d3 n1 c1, .slice f3 n2 c2, .slice l3 n3 c3] ∧
    WireR wx (.slice d3 n1 c1) (.slice f3 n2 c2) (.slice l3 n3 c3) y ∧ RslsAt wx (.slice m3 n4 c4) L ∧ Below Z.heap.size Z wx
theorem rounds_cut {K B : Nat} {w0 wx Z : World} {x : Mgr} {y : Wre} {L : List Rsl} {E : Int} {g9 g10 : Nat} {d3 f3 l3 m3 : Option Addr} {n1 c1 n2 c2 n3 c3 n4 c4 : Nat} (F : LawF K B w0 wx (.slice d3 n1 c1) (.slice f3 n2 c2) (.slice l3 n3 c3) (.slice none 0 0) y [])
    (r9 : RowAt wx g9 41 #[.int .u64 x.id, .int .i64 x.seq, .int .i64 x.tries]) (r10 : RowAt wx g10 35 #[.slice d3 n1 c1, .slice f3 n2 c2, .slice l3 n3 c3]) (hm : RslsAt wx (.slice m3 n4 c4) L) (hn : n4 = L.length) (hb : Below Z.heap.size Z wx) :
    RoundsCut x y L E Z (.pointer (some ⟨g9, 0, none⟩)) (.pointer (some ⟨g10, 0, none⟩)) (.slice m3 n4 c4) (.int .i64 E) wx :=
  ⟨g9, g10, d3, f3, l3, m3, n1, c1, n2, c2, n3, c3, n4, c4, hn, rfl, rfl, rfl, rfl, r9, r10, F.r, hm, hb⟩
section
variable {B : Nat} {w u2 Z : World} {x : Mgr} {y : Wre} {L : List Rsl} {E : Int} {d3 f3 l3 m3 : Option Addr} {n1 c1 n2 c2 n3 c3 n4 c4 : Nat}
theorem rounds_F1 (F : LawF w.heap.size B w u2 (.slice d3 n1 c1) (.slice f3 n2 c2) (.slice l3 n3 c3) (.slice none 0 0) y []) (hm : RslsAt u2 (.slice m3 n4 c4) L) (hn : n4 = L.length) (hb : Below Z.heap.size Z u2) :
    RoundsCut x y L E Z (.pointer (some ⟨u2.heap.size, 0, none⟩)) (.pointer (some ⟨u2.heap.size + 1, 0, none⟩)) (.slice m3 n4 c4) (.int .i64 E) ((u2.alloc (.cells #[.int .u64 x.id, .int .i64 x.seq, .int .i64 x.tries] 41)).alloc (.cells #[.slice d3 n1 c1, .slice f3 n2 c2, .slice l3 n3 c3] 35)) :=
  rounds_cut ((F.alloc _).alloc _) ((RowAt.new _ _ _).alloc _) (RowAt.mk (by simp) rfl) ((hm.alloc _).alloc _) hn ((hb.alloc hb.size _).alloc (by have := hb.size; simp; omega) _)
theorem rounds_F2 (F : LawF w.heap.size B w u2 (.slice d3 n1 c1) (.slice f3 n2 c2) (.slice l3 n3 c3) (.slice none 0 0) y []) (hm : RslsAt u2 (.slice m3 n4 c4) L) (hn : n4 = L.length) (hb : Below Z.heap.size Z u2) :
    RoundsCut x y L E Z (.pointer (some ⟨u2.heap.size + 1, 0, none⟩)) (.pointer (some ⟨u2.heap.size, 0, none⟩)) (.slice m3 n4 c4) (.int .i64 E) ((u2.alloc (.cells #[.slice d3 n1 c1, .slice f3 n2 c2, .slice l3 n3 c3] 35)).alloc (.cells #[.int .u64 x.id, .int .i64 x.seq, .int .i64 x.tries] 41)) :=
  rounds_cut ((F.alloc _).alloc _) (RowAt.mk (by simp) rfl) ((RowAt.new _ _ _).alloc _) ((hm.alloc _).alloc _) hn ((hb.alloc hb.size _).alloc (by have := hb.size; simp; omega) _)
theorem rounds_F3 {g9 : Nat} {a0 a1 a2 : Value} (F : LawF w.heap.size B w u2 (.slice d3 n1 c1) (.slice f3 n2 c2) (.slice l3 n3 c3) (.slice none 0 0) y []) (hm : RslsAt u2 (.slice m3 n4 c4) L) (hn : n4 = L.length) (hb : Below Z.heap.size Z u2) (r : RowAt u2 g9 41 #[a0, a1, a2]) (h1 : w.heap.size ≤ g9) (h2 : g9 < B) (h3 : Z.heap.size ≤ g9) :
    RoundsCut x y L E Z (.pointer (some ⟨g9, 0, none⟩)) (.pointer (some ⟨u2.heap.size, 0, none⟩)) (.slice m3 n4 c4) (.int .i64 E) ((((u2.setCell ⟨g9, 0, none⟩ (.int .u64 x.id)).setCell ⟨g9, 1, none⟩ (.int .i64 x.seq)).setCell ⟨g9, 2, none⟩ (.int .i64 x.tries)).alloc (.cells #[.slice d3 n1 c1, .slice f3 n2 c2, .slice l3 n3 c3] 35)) :=
  rounds_cut ((F.set3 r (Nat.le_refl _) h1 h2).alloc _) ((row3 r).alloc _) (RowAt.mk (by simp) rfl) ((rsls_three hm r upd3).alloc _) hn ((below_three hb h3).alloc (by have := hb.size; simp; omega) _)
theorem rounds_F4 {g9 g10 : Nat} {a0 a1 a2 b0 b1 b2 : Value} (F : LawF w.heap.size B w u2 (.slice d3 n1 c1) (.slice f3 n2 c2) (.slice l3 n3 c3) (.slice none 0 0) y []) (hm : RslsAt u2 (.slice m3 n4 c4) L) (hn : n4 = L.length) (hb : Below Z.heap.size Z u2) (r : RowAt u2 g9 41 #[a0, a1, a2]) (r' : RowAt u2 g10 35 #[b0, b1, b2]) (h1 : w.heap.size ≤ g9) (h2 : g9 < B) (h3 : Z.heap.size ≤ g9) (h4 : w.heap.size ≤ g10) (h5 : g10 < B) (h6 : Z.heap.size ≤ g10) (hne : ¬ g10 = g9) :
    RoundsCut x y L E Z (.pointer (some ⟨g9, 0, none⟩)) (.pointer (some ⟨g10, 0, none⟩)) (.slice m3 n4 c4) (.int .i64 E) (((((((u2.setCell ⟨g9, 0, none⟩ (.int .u64 x.id)).setCell ⟨g9, 1, none⟩ (.int .i64 x.seq)).setCell ⟨g9, 2, none⟩ (.int .i64 x.tries)).setCell ⟨g10, 0, none⟩ (.slice d3 n1 c1)).setCell ⟨g10, 1, none⟩ (.slice f3 n2 c2)).setCell ⟨g10, 2, none⟩ (.slice l3 n3 c3))) :=
  rounds_cut ((F.set3 r (Nat.le_refl _) h1 h2).set3 (r'.far3 hne) (Nat.le_refl _) h4 h5) ((row3 r).far3 (fun e => hne e.symm)) (row3 (r'.far3 hne)) (rsls_three (rsls_three hm r upd3) (r'.far3 hne) upd3) hn (below_three (below_three hb h3) h6)
theorem rounds_F5 {g10 : Nat} {b0 b1 b2 : Value} (F : LawF w.heap.size B w u2 (.slice d3 n1 c1) (.slice f3 n2 c2) (.slice l3 n3 c3) (.slice none 0 0) y []) (hm : RslsAt u2 (.slice m3 n4 c4) L) (hn : n4 = L.length) (hb : Below Z.heap.size Z u2) (r' : RowAt u2 g10 35 #[b0, b1, b2]) (h4 : w.heap.size ≤ g10) (h5 : g10 < B) (h6 : Z.heap.size ≤ g10) :
    RoundsCut x y L E Z (.pointer (some ⟨u2.heap.size, 0, none⟩)) (.pointer (some ⟨g10, 0, none⟩)) (.slice m3 n4 c4) (.int .i64 E) ((((u2.setCell ⟨g10, 0, none⟩ (.slice d3 n1 c1)).setCell ⟨g10, 1, none⟩ (.slice f3 n2 c2)).setCell ⟨g10, 2, none⟩ (.slice l3 n3 c3)).alloc (.cells #[.int .u64 x.id, .int .i64 x.seq, .int .i64 x.tries] 41)) :=
  rounds_cut ((F.set3 r' (Nat.le_refl _) h4 h5).alloc _) (RowAt.mk (by simp) rfl) ((row3 r').alloc _) ((rsls_three hm r' upd3).alloc _) hn ((below_three hb h6).alloc (by have := hb.size; simp; omega) _)
end

set_option maxHeartbeats 32000000 in
set_option maxRecDepth 100000 in
theorem law_roundsA (x : Mgr) (da fa la : Option Addr) (dn dc fn fc ln lc : Nat) (y : Wre) (dst kind par : Int) (dat : ByteArray) (w : World) (h : WireAt w (.slice da dn dc) (.slice fa fn fc) (.slice la ln lc) y) (hr : y.devs.length * 56 ≤ 140737488351232) (hn : NilOne (.slice la ln lc)) (hrm : RoomOk (.slice fa fn fc)) (ids : List Int) (ia : Option Addr) (ic : Nat) (hi : IdsAt w (.slice ia ids.length ic) ids) (hiz : ids.length * 8 ≤ 140737488351232) (hg : ids.length ≤ 12) :
    Calls Tryz.prog 10 #[.agg #[.int .u64 x.id, .int .i64 x.seq, .int .i64 x.tries, .slice da dn dc, .slice fa fn fc, .slice la ln lc], .slice ia ids.length ic, .agg #[.int .u64 dst, .int .i64 kind, .int .i64 par, .string dat]] w fun e w' => e = .returned (.bool true) ∧ Below w.heap.size w w' := by
  obtain ⟨xi, xs, xt⟩ := x
  show Calls Tryz.prog 10 #[.agg #[.int .u64 xi, .int .i64 xs, .int .i64 xt, .slice da dn dc, .slice fa fn fc, .slice la ln lc], _, _] w _
  obtain ⟨W, hW⟩ : ∃ W, (w.alloc (.cells #[.int .u64 xi, .int .i64 xs, .int .i64 xt, .slice da dn dc, .slice fa fn fc, .slice la ln lc] 31)).alloc (.cells #[.int .u64 dst, .int .i64 kind, .int .i64 par, .string dat] 50) = W := ⟨_, rfl⟩
  have hbW : Below w.heap.size w W := by rw [← hW]; (repeat' (first | (with_reducible exact Below.refl _ _) | (with_reducible assumption) | (with_reducible refine below_run ?_ (by assumption)) | (with_reducible refine below_of_upd ?_ (by assumption) ?_) | (with_reducible refine below_drewN ?_ _) | (with_reducible refine Below.drew ?_) | (with_reducible refine below_seven ?_ ?_) | (with_reducible refine below_six ?_ ?_) | (with_reducible refine below_one ?_ ?_) | (with_reducible refine Below.alloc ?_ ?_ _) | (with_reducible refine below_after ?_ ?_ (by assumption)) | (show _ ≤ _; first | omega | (simp; done) | (simp; omega))))
  have r0 : RowAt W w.heap.size 31 #[.int .u64 xi, .int .i64 xs, .int .i64 xt, .slice da dn dc, .slice fa fn fc, .slice la ln lc] := by rw [← hW]; exact (RowAt.new _ _ _).alloc _
  have r1 : RowAt W (w.heap.size + 1) 50 #[.int .u64 dst, .int .i64 kind, .int .i64 par, .string dat] := by rw [← hW]; exact RowAt.mk (by simp) rfl
  obtain ⟨q, hq⟩ : ∃ q, (fewW y && decide (dat.size ≤ 1000)) = q := ⟨_, rfl⟩
  have CF := Lib.hid (mfew_any q ⟨xi, xs, xt⟩ da fa la dn dc fn fc ln lc y dst kind par dat W (h.run hbW) hr hq)
  have HH := Lib.hid h
  have HR := Lib.hid hr
  have HN := Lib.hid hn
  have HI := Lib.hid hi
  have HRM := Lib.hid hrm
  have HQ := Lib.hid hq
  have R0 := Lib.hid r0
  have R1 := Lib.hid r1
  have HB := Lib.hid hbW
  obtain ⟨x1, x2, x3, x4, x5, x6⟩ := row_facts r0
  obtain ⟨y1, y2, y3, y4, y5, y6⟩ := row_facts r1
  clear h hr hn hrm hq r0 r1 hbW hi
  go_enter Tryz.func10, Tryz.ntmps10
  go_upto_region 1 with fail
  clear hW
  go_wp2_with fail
  refine CF.out.mono ?_
  rintro e w1 ⟨rfl, hb1⟩
  have r0 := R0.out.run hb1
  have r1 := R1.out.run hb1
  have HB1 := Lib.hid (below_run HB.out hb1)
  have R01 := Lib.hid r0
  have R11 := Lib.hid r1
  clear x1 x2 x3 x4 x5 x6 y1 y2 y3 y4 y5 y6 hb1 R0 R1 HB CF
  obtain ⟨x1, x2, x3, x4, x5, x6⟩ := row_facts r0
  obtain ⟨y1, y2, y3, y4, y5, y6⟩ := row_facts r1
  clear r0 r1
  cases q with
  | false =>
    go_wp2_with fail
    refine (awake49_any _).mono ?_
    rintro e w9 ⟨rfl, hb9⟩
    go_wp2
    go_ret
    exact ⟨rfl, below_run HB1.out hb9⟩
  | true =>
  have hq := HQ.out
  simp only [Bool.and_eq_true, decide_eq_true_eq] at hq
  obtain ⟨hfw, hds⟩ := hq
  obtain ⟨f1, f2, -⟩ := few_small hfw
  have HLB := Lib.hid (show ∀ d ∈ y.devs, d.lb.size ≤ 9223372036854775807 from fun d hd => by have := f2 d hd; omega)
  have HDS := Lib.hid (show dat.size ≤ 9223372036854775807 by omega)
  have j1 : ¬ (12 : Int) < (ids.length : Int) := by omega
  have j3 : ¬ (1000 : Int) < (ids.length : Int) := by omega
  have HIZ := Lib.hid hiz
  obtain ⟨⟨⟨pi, ps, pt⟩, y', L, E⟩, hp⟩ : ∃ p, allU ⟨xi, xs, xt⟩ y ids ⟨dst, kind, par, dat⟩ = p := ⟨_, rfl⟩
  have hyl : y'.devs.length ≤ 128 := by
    have h1 : (allU ⟨xi, xs, xt⟩ y ids ⟨dst, kind, par, dat⟩).2.1 = y' := by rw [hp]
    rw [← h1]
    exact Nat.le_trans (allU_length _ _ _ _) f1
  have HYL := Lib.hid hyl
  have C1 := mall_any ⟨xi, xs, xt⟩ da fa la dn dc fn fc ln lc y ids ia ic dst kind par dat w1 (HH.out.run HB1.out) (HI.out.run HB1.out)
  have C2 := fun V (a9 : Option Addr) (c9 : Nat) (hv : WireAt V (.slice a9 y.devs.length c9) (.slice fa fn fc) (.slice la ln lc) y) (hv2 : IdsAt V (.slice ia ids.length ic) ids) => rall_any ⟨xi, xs, xt⟩ a9 fa la y.devs.length c9 fn fc ln lc y ids ia ic dst kind par dat V ⟨hv.r, HN.out, HRM.out⟩ hv2 HLB.out HDS.out
  rw [hp] at C1
  simp only [hp] at C2
  have C1H := Lib.hid C1
  have C2H := Lib.hid C2
  clear C1 C2 hp hfw hds f1 f2 hyl hiz
  go_wp2_with fail
  refine C1H.out.mono ?_
  rintro e w2 ⟨d1, g1, l1, ma, n1, c1, n2, c2, n3, c3, c4, he, hw2, hm2, hb2⟩
  have he' : e = .returned (.tuple #[.agg #[.int .u64 pi, .int .i64 ps, .int .i64 pt], .agg #[.slice d1 n1 c1, .slice g1 n2 c2, .slice l1 n3 c3], .slice ma L.length c4, .int .i64 E]) := he
  subst he'
  have HW2 := Lib.hid hw2
  have HM2 := Lib.hid hm2
  have R02 := Lib.hid (R01.out.run hb2)
  have R12 := Lib.hid (R11.out.run hb2)
  have HB2 := Lib.hid (below_run HB1.out hb2)
  clear he hw2 hm2 hb2 x1 x2 x3 x4 x5 x6 y1 y2 y3 y4 y5 y6 R01 R11 HB1 C1H
  go_upto_region 4 with fail
  have hbT : Below w2.heap.size w2 ((w2.alloc (.cells #[.int .u64 pi, .int .i64 ps, .int .i64 pt] 24)).alloc (.cells #[.slice d1 n1 c1, .slice g1 n2 c2, .slice l1 n3 c3] 29)) := by (repeat' (first | (with_reducible exact Below.refl _ _) | (with_reducible assumption) | (with_reducible refine below_run ?_ (by assumption)) | (with_reducible refine below_of_upd ?_ (by assumption) ?_) | (with_reducible refine below_drewN ?_ _) | (with_reducible refine Below.drew ?_) | (with_reducible refine below_seven ?_ ?_) | (with_reducible refine below_six ?_ ?_) | (with_reducible refine below_one ?_ ?_) | (with_reducible refine Below.alloc ?_ ?_ _) | (with_reducible refine below_after ?_ ?_ (by assumption)) | (show _ ≤ _; first | omega | (simp; done) | (simp; omega))))
  have r5 : RowAt ((w2.alloc (.cells #[.int .u64 pi, .int .i64 ps, .int .i64 pt] 24)).alloc (.cells #[.slice d1 n1 c1, .slice g1 n2 c2, .slice l1 n3 c3] 29)) w2.heap.size 24 #[.int .u64 pi, .int .i64 ps, .int .i64 pt] := (RowAt.new _ _ _).alloc _
  have r6 : RowAt ((w2.alloc (.cells #[.int .u64 pi, .int .i64 ps, .int .i64 pt] 24)).alloc (.cells #[.slice d1 n1 c1, .slice g1 n2 c2, .slice l1 n3 c3] 29)) (w2.heap.size + 1) 29 #[.slice d1 n1 c1, .slice g1 n2 c2, .slice l1 n3 c3] := RowAt.mk (by simp) rfl
  have r0 := R02.out.run hbT
  have r1 := R12.out.run hbT
  have hw := HW2.out.run hbT
  have hm := HM2.out.run hbT
  have hbw := below_run HB2.out hbT
  generalize (w2.alloc (.cells #[.int .u64 pi, .int .i64 ps, .int .i64 pt] 24)).alloc (.cells #[.slice d1 n1 c1, .slice g1 n2 c2, .slice l1 n3 c3] 29) = Z at hbT r5 r6 r0 r1 hw hm hbw ⊢
  generalize w2.heap.size = k5 at r5 r6 ⊢
  have hkeep : ∀ W', Below Z.heap.size Z W' → (W'.cell? ⟨w.heap.size, 0, none⟩ = some (.int .u64 xi) ∧ W'.cell? ⟨w.heap.size, 1, none⟩ = some (.int .i64 xs) ∧ W'.cell? ⟨w.heap.size, 2, none⟩ = some (.int .i64 xt) ∧ W'.cell? ⟨w.heap.size, 3, none⟩ = some (.slice da dn dc) ∧ W'.cell? ⟨w.heap.size, 4, none⟩ = some (.slice fa fn fc) ∧ W'.cell? ⟨w.heap.size, 5, none⟩ = some (.slice la ln lc) ∧ W'.cell? ⟨w.heap.size + 1, 0, none⟩ = some (.int .u64 dst) ∧ W'.cell? ⟨w.heap.size + 1, 1, none⟩ = some (.int .i64 kind) ∧ W'.cell? ⟨w.heap.size + 1, 2, none⟩ = some (.int .i64 par) ∧ W'.cell? ⟨w.heap.size + 1, 3, none⟩ = some (.string dat)) := by
    intro W' hb
    have a0 := r0.run hb
    have a1 := r1.run hb
    exact ⟨cell_fact a0 0, cell_fact a0 1, cell_fact a0 2, cell_fact a0 3, cell_fact a0 4, cell_fact a0 5, cell_fact a1 0, cell_fact a1 1, cell_fact a1 2, cell_fact a1 3⟩
  have HK := Lib.hid hkeep
  have hbd : Below Z.heap.size Z Z.drew := Below.drew (Below.refl _ _)
  obtain ⟨m0, m1, m2, m3, m4, m5, m6, m7, m8, m9⟩ := hkeep Z (Below.refl _ _)
  have HWZ := Lib.hid hw
  have HMZ := Lib.hid hm
  have HBZ := Lib.hid hbw
  have R5 := Lib.hid r5
  have R6 := Lib.hid r6
  have hz0 := hbw.size
  have hlz := lt_of_block r1
  have CO := Lib.hid (fun V (hb : Below Z.heap.size Z V) => wof_any da fa la dn dc fn fc ln lc y V (HH.out.run (below_run HBZ.out hb)) HR.out)
  clear hbT r5 r6 r0 r1 hw hm hbw hkeep HW2 HM2 R02 R12 HB2
  have HIZZ := Lib.hid (HI.out.run HBZ.out)
  go_cut [11, 12, 13, 14] (fun s9 s10 s11 s12 wx => RoundsCut ⟨pi, ps, pt⟩ y' L E Z s9 s10 s11 s12 wx)
  case first =>
    go_region_held3 (fun w' => w'.cell? ⟨w.heap.size, 0, none⟩ = some (.int .u64 xi) ∧ w'.cell? ⟨w.heap.size, 1, none⟩ = some (.int .i64 xs) ∧ w'.cell? ⟨w.heap.size, 2, none⟩ = some (.int .i64 xt) ∧ w'.cell? ⟨w.heap.size, 3, none⟩ = some (.slice da dn dc) ∧ w'.cell? ⟨w.heap.size, 4, none⟩ = some (.slice fa fn fc) ∧ w'.cell? ⟨w.heap.size, 5, none⟩ = some (.slice la ln lc) ∧ w'.cell? ⟨w.heap.size + 1, 0, none⟩ = some (.int .u64 dst) ∧ w'.cell? ⟨w.heap.size + 1, 1, none⟩ = some (.int .i64 kind) ∧ w'.cell? ⟨w.heap.size + 1, 2, none⟩ = some (.int .i64 par) ∧ w'.cell? ⟨w.heap.size + 1, 3, none⟩ = some (.string dat)) (first | go_keep | exact HK.out _ (by (repeat' (first | (with_reducible exact Below.refl _ _) | (with_reducible assumption) | (with_reducible refine below_run ?_ (by assumption)) | (with_reducible refine below_of_upd ?_ (by assumption) ?_) | (with_reducible refine below_drewN ?_ _) | (with_reducible refine Below.drew ?_) | (with_reducible refine below_seven ?_ ?_) | (with_reducible refine below_six ?_ ?_) | (with_reducible refine below_one ?_ ?_) | (with_reducible refine Below.alloc ?_ ?_ _) | (with_reducible refine below_after ?_ ?_ (by assumption)) | (show _ ≤ _; first | omega | (simp; done) | (simp; omega))))))
      (first
        | (go_at_call 14; refine (CO.out _ (by (repeat' (first | (with_reducible exact Below.refl _ _) | (with_reducible assumption) | (with_reducible refine below_run ?_ (by assumption)) | (with_reducible refine below_of_upd ?_ (by assumption) ?_) | (with_reducible refine below_drewN ?_ _) | (with_reducible refine Below.drew ?_) | (with_reducible refine below_seven ?_ ?_) | (with_reducible refine below_six ?_ ?_) | (with_reducible refine below_one ?_ ?_) | (with_reducible refine Below.alloc ?_ ?_ _) | (with_reducible refine below_after ?_ ?_ (by assumption)) | (show _ ≤ _; first | omega | (simp; done) | (simp; omega)))))).mono ?_; rintro e u1 ⟨a9, c9, rfl, hv9, hb9⟩; have hs9 := hb9.size; (try simp at hs9); (try (refine have_of (p := RowAt u1 Z.heap.size 41 #[.int .u64 0, .int .i64 0, .int .i64 0]) ?_ ?_; (focus ((repeat' (first | (with_reducible assumption) | (with_reducible refine RowAt.drewN ?_ _) | (with_reducible refine RowAt.drew ?_) | (with_reducible apply RowAt.seven) | (with_reducible apply RowAt.six) | (with_reducible refine RowAt.far7 ?_ ?_) | (with_reducible refine RowAt.far6 ?_ ?_) | (with_reducible refine RowAt.far1 ?_ ?_) | ((with_reducible refine RowAt.mk ?_ ?_); (focus (first | (with_reducible rfl) | (simp; done))); rfl) | (with_reducible refine RowAt.alloc ?_ _) | (with_reducible refine RowAt.run ?_ (by assumption)) | (with_reducible refine RowAt.below ?_ (by assumption) ?_) | (with_reducible refine RowAt.upd ?_ (by assumption) ?_) | (with_reducible show _ < _; first | omega | (simp; done) | (simp; omega)) | (with_reducible show ¬ _ = _; first | omega | (simp; done) | (simp; omega)) | (with_reducible exact rfl))); done)); intro hx; obtain ⟨x1, x2, x3, x4, x5, x6⟩ := row_facts hx)); (try (refine have_of (p := RowAt u1 Z.heap.size 35 #[.slice none 0 0, .slice none 0 0, .slice none 0 0]) ?_ ?_; (focus ((repeat' (first | (with_reducible assumption) | (with_reducible refine RowAt.drewN ?_ _) | (with_reducible refine RowAt.drew ?_) | (with_reducible apply RowAt.seven) | (with_reducible apply RowAt.six) | (with_reducible refine RowAt.far7 ?_ ?_) | (with_reducible refine RowAt.far6 ?_ ?_) | (with_reducible refine RowAt.far1 ?_ ?_) | ((with_reducible refine RowAt.mk ?_ ?_); (focus (first | (with_reducible rfl) | (simp; done))); rfl) | (with_reducible refine RowAt.alloc ?_ _) | (with_reducible refine RowAt.run ?_ (by assumption)) | (with_reducible refine RowAt.below ?_ (by assumption) ?_) | (with_reducible refine RowAt.upd ?_ (by assumption) ?_) | (with_reducible show _ < _; first | omega | (simp; done) | (simp; omega)) | (with_reducible show ¬ _ = _; first | omega | (simp; done) | (simp; omega)) | (with_reducible exact rfl))); done)); intro hx; obtain ⟨x1, x2, x3, x4, x5, x6⟩ := row_facts hx)); (try (refine have_of (p := RowAt u1 (Z.heap.size + 1) 41 #[.int .u64 0, .int .i64 0, .int .i64 0]) ?_ ?_; (focus ((repeat' (first | (with_reducible assumption) | (with_reducible refine RowAt.drewN ?_ _) | (with_reducible refine RowAt.drew ?_) | (with_reducible apply RowAt.seven) | (with_reducible apply RowAt.six) | (with_reducible refine RowAt.far7 ?_ ?_) | (with_reducible refine RowAt.far6 ?_ ?_) | (with_reducible refine RowAt.far1 ?_ ?_) | ((with_reducible refine RowAt.mk ?_ ?_); (focus (first | (with_reducible rfl) | (simp; done))); rfl) | (with_reducible refine RowAt.alloc ?_ _) | (with_reducible refine RowAt.run ?_ (by assumption)) | (with_reducible refine RowAt.below ?_ (by assumption) ?_) | (with_reducible refine RowAt.upd ?_ (by assumption) ?_) | (with_reducible show _ < _; first | omega | (simp; done) | (simp; omega)) | (with_reducible show ¬ _ = _; first | omega | (simp; done) | (simp; omega)) | (with_reducible exact rfl))); done)); intro hx; obtain ⟨x1, x2, x3, x4, x5, x6⟩ := row_facts hx)); (try (refine have_of (p := RowAt u1 (Z.heap.size + 1) 35 #[.slice none 0 0, .slice none 0 0, .slice none 0 0]) ?_ ?_; (focus ((repeat' (first | (with_reducible assumption) | (with_reducible refine RowAt.drewN ?_ _) | (with_reducible refine RowAt.drew ?_) | (with_reducible apply RowAt.seven) | (with_reducible apply RowAt.six) | (with_reducible refine RowAt.far7 ?_ ?_) | (with_reducible refine RowAt.far6 ?_ ?_) | (with_reducible refine RowAt.far1 ?_ ?_) | ((with_reducible refine RowAt.mk ?_ ?_); (focus (first | (with_reducible rfl) | (simp; done))); rfl) | (with_reducible refine RowAt.alloc ?_ _) | (with_reducible refine RowAt.run ?_ (by assumption)) | (with_reducible refine RowAt.below ?_ (by assumption) ?_) | (with_reducible refine RowAt.upd ?_ (by assumption) ?_) | (with_reducible show _ < _; first | omega | (simp; done) | (simp; omega)) | (with_reducible show ¬ _ = _; first | omega | (simp; done) | (simp; omega)) | (with_reducible exact rfl))); done)); intro hx; obtain ⟨x1, x2, x3, x4, x5, x6⟩ := row_facts hx));  have hY1 : Below Z.heap.size Z u1 := (by (repeat' (first | (with_reducible exact Below.refl _ _) | (with_reducible assumption) | (with_reducible refine below_run ?_ (by assumption)) | (with_reducible refine below_of_upd ?_ (by assumption) ?_) | (with_reducible refine below_drewN ?_ _) | (with_reducible refine Below.drew ?_) | (with_reducible refine below_seven ?_ ?_) | (with_reducible refine below_six ?_ ?_) | (with_reducible refine below_one ?_ ?_) | (with_reducible refine Below.alloc ?_ ?_ _) | (with_reducible refine below_after ?_ ?_ (by assumption)) | (show _ ≤ _; first | omega | (simp; done) | (simp; omega))))); obtain ⟨m0, m1, m2, m3, m4, m5, m6, m7, m8, m9⟩ := HK.out _ hY1; have hzu1 := hY1.size)
        | (go_at_call 38; refine (C2H.out _ a9 c9 (by first | exact hv9 | exact hv9.drew | exact hv9.run (by (repeat' (first | (with_reducible exact Below.refl _ _) | (with_reducible assumption) | (with_reducible refine below_run ?_ (by assumption)) | (with_reducible refine below_of_upd ?_ (by assumption) ?_) | (with_reducible refine below_drewN ?_ _) | (with_reducible refine Below.drew ?_) | (with_reducible refine below_seven ?_ ?_) | (with_reducible refine below_six ?_ ?_) | (with_reducible refine below_one ?_ ?_) | (with_reducible refine Below.alloc ?_ ?_ _) | (with_reducible refine below_after ?_ ?_ (by assumption)) | (show _ ≤ _; first | omega | (simp; done) | (simp; omega)))))) (HIZZ.out.run (by (repeat' (first | (with_reducible exact Below.refl _ _) | (with_reducible assumption) | (with_reducible refine below_run ?_ (by assumption)) | (with_reducible refine below_of_upd ?_ (by assumption) ?_) | (with_reducible refine below_drewN ?_ _) | (with_reducible refine Below.drew ?_) | (with_reducible refine below_seven ?_ ?_) | (with_reducible refine below_six ?_ ?_) | (with_reducible refine below_one ?_ ?_) | (with_reducible refine Below.alloc ?_ ?_ _) | (with_reducible refine below_after ?_ ?_ (by assumption)) | (show _ ≤ _; first | omega | (simp; done) | (simp; omega))))))).mono ?_; rintro e u2 ⟨d3, f3, l3, m3', o1, e1, o2, e2, o3, e3, e4, he2, hI2, hM2, hb22⟩; have he3 : e = .returned (.tuple #[.agg #[.int .u64 pi, .int .i64 ps, .int .i64 pt], .agg #[.slice d3 o1 e1, .slice f3 o2 e2, .slice l3 o3 e3], .slice m3' L.length e4, .int .i64 E]) := he2; subst he3; clear he2; have hs22 := hb22.size; (try simp at hs22); (try (refine have_of (p := RowAt u2 Z.heap.size 41 #[.int .u64 0, .int .i64 0, .int .i64 0]) ?_ ?_; (focus ((repeat' (first | (with_reducible assumption) | (with_reducible refine RowAt.drewN ?_ _) | (with_reducible refine RowAt.drew ?_) | (with_reducible apply RowAt.seven) | (with_reducible apply RowAt.six) | (with_reducible refine RowAt.far7 ?_ ?_) | (with_reducible refine RowAt.far6 ?_ ?_) | (with_reducible refine RowAt.far1 ?_ ?_) | ((with_reducible refine RowAt.mk ?_ ?_); (focus (first | (with_reducible rfl) | (simp; done))); rfl) | (with_reducible refine RowAt.alloc ?_ _) | (with_reducible refine RowAt.run ?_ (by assumption)) | (with_reducible refine RowAt.below ?_ (by assumption) ?_) | (with_reducible refine RowAt.upd ?_ (by assumption) ?_) | (with_reducible show _ < _; first | omega | (simp; done) | (simp; omega)) | (with_reducible show ¬ _ = _; first | omega | (simp; done) | (simp; omega)) | (with_reducible exact rfl))); done)); intro hx; obtain ⟨x1, x2, x3, x4, x5, x6⟩ := row_facts hx)); (try (refine have_of (p := RowAt u2 Z.heap.size 35 #[.slice none 0 0, .slice none 0 0, .slice none 0 0]) ?_ ?_; (focus ((repeat' (first | (with_reducible assumption) | (with_reducible refine RowAt.drewN ?_ _) | (with_reducible refine RowAt.drew ?_) | (with_reducible apply RowAt.seven) | (with_reducible apply RowAt.six) | (with_reducible refine RowAt.far7 ?_ ?_) | (with_reducible refine RowAt.far6 ?_ ?_) | (with_reducible refine RowAt.far1 ?_ ?_) | ((with_reducible refine RowAt.mk ?_ ?_); (focus (first | (with_reducible rfl) | (simp; done))); rfl) | (with_reducible refine RowAt.alloc ?_ _) | (with_reducible refine RowAt.run ?_ (by assumption)) | (with_reducible refine RowAt.below ?_ (by assumption) ?_) | (with_reducible refine RowAt.upd ?_ (by assumption) ?_) | (with_reducible show _ < _; first | omega | (simp; done) | (simp; omega)) | (with_reducible show ¬ _ = _; first | omega | (simp; done) | (simp; omega)) | (with_reducible exact rfl))); done)); intro hx; obtain ⟨x1, x2, x3, x4, x5, x6⟩ := row_facts hx)); (try (refine have_of (p := RowAt u2 (Z.heap.size + 1) 41 #[.int .u64 0, .int .i64 0, .int .i64 0]) ?_ ?_; (focus ((repeat' (first | (with_reducible assumption) | (with_reducible refine RowAt.drewN ?_ _) | (with_reducible refine RowAt.drew ?_) | (with_reducible apply RowAt.seven) | (with_reducible apply RowAt.six) | (with_reducible refine RowAt.far7 ?_ ?_) | (with_reducible refine RowAt.far6 ?_ ?_) | (with_reducible refine RowAt.far1 ?_ ?_) | ((with_reducible refine RowAt.mk ?_ ?_); (focus (first | (with_reducible rfl) | (simp; done))); rfl) | (with_reducible refine RowAt.alloc ?_ _) | (with_reducible refine RowAt.run ?_ (by assumption)) | (with_reducible refine RowAt.below ?_ (by assumption) ?_) | (with_reducible refine RowAt.upd ?_ (by assumption) ?_) | (with_reducible show _ < _; first | omega | (simp; done) | (simp; omega)) | (with_reducible show ¬ _ = _; first | omega | (simp; done) | (simp; omega)) | (with_reducible exact rfl))); done)); intro hx; obtain ⟨x1, x2, x3, x4, x5, x6⟩ := row_facts hx)); (try (refine have_of (p := RowAt u2 (Z.heap.size + 1) 35 #[.slice none 0 0, .slice none 0 0, .slice none 0 0]) ?_ ?_; (focus ((repeat' (first | (with_reducible assumption) | (with_reducible refine RowAt.drewN ?_ _) | (with_reducible refine RowAt.drew ?_) | (with_reducible apply RowAt.seven) | (with_reducible apply RowAt.six) | (with_reducible refine RowAt.far7 ?_ ?_) | (with_reducible refine RowAt.far6 ?_ ?_) | (with_reducible refine RowAt.far1 ?_ ?_) | ((with_reducible refine RowAt.mk ?_ ?_); (focus (first | (with_reducible rfl) | (simp; done))); rfl) | (with_reducible refine RowAt.alloc ?_ _) | (with_reducible refine RowAt.run ?_ (by assumption)) | (with_reducible refine RowAt.below ?_ (by assumption) ?_) | (with_reducible refine RowAt.upd ?_ (by assumption) ?_) | (with_reducible show _ < _; first | omega | (simp; done) | (simp; omega)) | (with_reducible show ¬ _ = _; first | omega | (simp; done) | (simp; omega)) | (with_reducible exact rfl))); done)); intro hx; obtain ⟨x1, x2, x3, x4, x5, x6⟩ := row_facts hx)); (try (refine have_of (p := RowAt u2 u1.heap.size 41 #[.int .u64 0, .int .i64 0, .int .i64 0]) ?_ ?_; (focus ((repeat' (first | (with_reducible assumption) | (with_reducible refine RowAt.drewN ?_ _) | (with_reducible refine RowAt.drew ?_) | (with_reducible apply RowAt.seven) | (with_reducible apply RowAt.six) | (with_reducible refine RowAt.far7 ?_ ?_) | (with_reducible refine RowAt.far6 ?_ ?_) | (with_reducible refine RowAt.far1 ?_ ?_) | ((with_reducible refine RowAt.mk ?_ ?_); (focus (first | (with_reducible rfl) | (simp; done))); rfl) | (with_reducible refine RowAt.alloc ?_ _) | (with_reducible refine RowAt.run ?_ (by assumption)) | (with_reducible refine RowAt.below ?_ (by assumption) ?_) | (with_reducible refine RowAt.upd ?_ (by assumption) ?_) | (with_reducible show _ < _; first | omega | (simp; done) | (simp; omega)) | (with_reducible show ¬ _ = _; first | omega | (simp; done) | (simp; omega)) | (with_reducible exact rfl))); done)); intro hx; obtain ⟨x1, x2, x3, x4, x5, x6⟩ := row_facts hx)); (try (refine have_of (p := RowAt u2 u1.heap.size 35 #[.slice none 0 0, .slice none 0 0, .slice none 0 0]) ?_ ?_; (focus ((repeat' (first | (with_reducible assumption) | (with_reducible refine RowAt.drewN ?_ _) | (with_reducible refine RowAt.drew ?_) | (with_reducible apply RowAt.seven) | (with_reducible apply RowAt.six) | (with_reducible refine RowAt.far7 ?_ ?_) | (with_reducible refine RowAt.far6 ?_ ?_) | (with_reducible refine RowAt.far1 ?_ ?_) | ((with_reducible refine RowAt.mk ?_ ?_); (focus (first | (with_reducible rfl) | (simp; done))); rfl) | (with_reducible refine RowAt.alloc ?_ _) | (with_reducible refine RowAt.run ?_ (by assumption)) | (with_reducible refine RowAt.below ?_ (by assumption) ?_) | (with_reducible refine RowAt.upd ?_ (by assumption) ?_) | (with_reducible show _ < _; first | omega | (simp; done) | (simp; omega)) | (with_reducible show ¬ _ = _; first | omega | (simp; done) | (simp; omega)) | (with_reducible exact rfl))); done)); intro hx; obtain ⟨x1, x2, x3, x4, x5, x6⟩ := row_facts hx)); (try (refine have_of (p := RowAt u2 (u1.heap.size + 1) 41 #[.int .u64 0, .int .i64 0, .int .i64 0]) ?_ ?_; (focus ((repeat' (first | (with_reducible assumption) | (with_reducible refine RowAt.drewN ?_ _) | (with_reducible refine RowAt.drew ?_) | (with_reducible apply RowAt.seven) | (with_reducible apply RowAt.six) | (with_reducible refine RowAt.far7 ?_ ?_) | (with_reducible refine RowAt.far6 ?_ ?_) | (with_reducible refine RowAt.far1 ?_ ?_) | ((with_reducible refine RowAt.mk ?_ ?_); (focus (first | (with_reducible rfl) | (simp; done))); rfl) | (with_reducible refine RowAt.alloc ?_ _) | (with_reducible refine RowAt.run ?_ (by assumption)) | (with_reducible refine RowAt.below ?_ (by assumption) ?_) | (with_reducible refine RowAt.upd ?_ (by assumption) ?_) | (with_reducible show _ < _; first | omega | (simp; done) | (simp; omega)) | (with_reducible show ¬ _ = _; first | omega | (simp; done) | (simp; omega)) | (with_reducible exact rfl))); done)); intro hx; obtain ⟨x1, x2, x3, x4, x5, x6⟩ := row_facts hx)); (try (refine have_of (p := RowAt u2 (u1.heap.size + 1) 35 #[.slice none 0 0, .slice none 0 0, .slice none 0 0]) ?_ ?_; (focus ((repeat' (first | (with_reducible assumption) | (with_reducible refine RowAt.drewN ?_ _) | (with_reducible refine RowAt.drew ?_) | (with_reducible apply RowAt.seven) | (with_reducible apply RowAt.six) | (with_reducible refine RowAt.far7 ?_ ?_) | (with_reducible refine RowAt.far6 ?_ ?_) | (with_reducible refine RowAt.far1 ?_ ?_) | ((with_reducible refine RowAt.mk ?_ ?_); (focus (first | (with_reducible rfl) | (simp; done))); rfl) | (with_reducible refine RowAt.alloc ?_ _) | (with_reducible refine RowAt.run ?_ (by assumption)) | (with_reducible refine RowAt.below ?_ (by assumption) ?_) | (with_reducible refine RowAt.upd ?_ (by assumption) ?_) | (with_reducible show _ < _; first | omega | (simp; done) | (simp; omega)) | (with_reducible show ¬ _ = _; first | omega | (simp; done) | (simp; omega)) | (with_reducible exact rfl))); done)); intro hx; obtain ⟨x1, x2, x3, x4, x5, x6⟩ := row_facts hx));  have hY2 : Below Z.heap.size Z u2 := (by (repeat' (first | (with_reducible exact Below.refl _ _) | (with_reducible assumption) | (with_reducible refine below_run ?_ (by assumption)) | (with_reducible refine below_of_upd ?_ (by assumption) ?_) | (with_reducible refine below_drewN ?_ _) | (with_reducible refine Below.drew ?_) | (with_reducible refine below_seven ?_ ?_) | (with_reducible refine below_six ?_ ?_) | (with_reducible refine below_one ?_ ?_) | (with_reducible refine Below.alloc ?_ ?_ _) | (with_reducible refine below_after ?_ ?_ (by assumption)) | (show _ ≤ _; first | omega | (simp; done) | (simp; omega))))); have hLF := lawF_of hI2 HH.out.faults HH.out.late (mv := .slice none 0 0) (L := []) (.inl ⟨rfl, _, _, rfl⟩) (below_run HBZ.out hY2); obtain ⟨m0, m1, m2, m3, m4, m5, m6, m7, m8, m9⟩ := HK.out _ hY2; have hzu2 := hY2.size))
    all_goals (go_wp2_with fail; go_meet)
    all_goals (have hwz : w.heap.size ≤ Z.heap.size := hz0)
    all_goals (first
      | (with_reducible exact rounds_F1 (x := ⟨pi, ps, pt⟩) hLF hM2 rfl hY2)
      | (with_reducible exact rounds_F2 (x := ⟨pi, ps, pt⟩) hLF hM2 rfl hY2)
      | (with_reducible refine rounds_F4 (x := ⟨pi, ps, pt⟩) hLF hM2 rfl hY2 (by assumption) (by assumption) ?_ ?_ ?_ ?_ ?_ ?_ ?_)
      | (with_reducible refine rounds_F3 (x := ⟨pi, ps, pt⟩) hLF hM2 rfl hY2 (by assumption) ?_ ?_ ?_)
      | (with_reducible refine rounds_F5 (x := ⟨pi, ps, pt⟩) hLF hM2 rfl hY2 (by assumption) ?_ ?_ ?_))
    all_goals (first | omega | (simp; done) | (simp; omega))
  case rest =>
    obtain ⟨g9, g10, d3, f3, l3, ad3, o1, e1, o2, e2, o3, e3, o4, e4, rfl, rfl, rfl, rfl, rfl, r9, r10, hwr, hmr, hbc⟩ := hcut
    clear m0 m1 m2 m3 m4 m5 m6 m7 m8 m9 hbd
    rename World => X
    have hkeep : ∀ W', Below X.heap.size X W' → (W'.cell? ⟨k5, 0, none⟩ = some (.int .u64 pi) ∧ W'.cell? ⟨k5, 1, none⟩ = some (.int .i64 ps) ∧ W'.cell? ⟨k5, 2, none⟩ = some (.int .i64 pt) ∧ W'.cell? ⟨k5 + 1, 0, none⟩ = some (.slice d1 n1 c1) ∧ W'.cell? ⟨k5 + 1, 1, none⟩ = some (.slice g1 n2 c2) ∧ W'.cell? ⟨k5 + 1, 2, none⟩ = some (.slice l1 n3 c3) ∧ W'.cell? ⟨g9, 0, none⟩ = some (.int .u64 pi) ∧ W'.cell? ⟨g9, 1, none⟩ = some (.int .i64 ps) ∧ W'.cell? ⟨g9, 2, none⟩ = some (.int .i64 pt) ∧ W'.cell? ⟨g10, 0, none⟩ = some (.slice d3 o1 e1) ∧ W'.cell? ⟨g10, 1, none⟩ = some (.slice f3 o2 e2) ∧ W'.cell? ⟨g10, 2, none⟩ = some (.slice l3 o3 e3)) := by
      intro W' hb
      have hbb := below_run hbc hb
      have a0 := R5.out.run hbb
      have a1 := R6.out.run hbb
      have a2 := r9.run hb
      have a3 := r10.run hb
      exact ⟨cell_fact a0 0, cell_fact a0 1, cell_fact a0 2, cell_fact a1 0, cell_fact a1 1, cell_fact a1 2, cell_fact a2 0, cell_fact a2 1, cell_fact a2 2, cell_fact a3 0, cell_fact a3 1, cell_fact a3 2⟩
    have HKX := Lib.hid hkeep
    obtain ⟨m0, m1, m2, m3', m4, m5, m6, m7, m8, m9, m10, m11⟩ := hkeep X (Below.refl _ _)
    have hbd : Below X.heap.size X X.drew := Below.drew (Below.refl _ _)
    have HWX := Lib.hid (HWZ.out.run hbc)
    have HRX := Lib.hid hwr
    have HMX := Lib.hid (HMZ.out.run hbc)
    have HIX := Lib.hid (HIZZ.out.run hbc)
    have HMR := Lib.hid hmr
    have HBX := Lib.hid (below_run HBZ.out hbc)
    have CO2 := Lib.hid (fun V (hb : Below X.heap.size X V) => wof_any d1 g1 l1 n1 c1 n2 c2 n3 c3 y' V (HWX.out.run hb).at (by have := HYL.out; omega))
    have z1 : (E == E) = true := by simp
    clear hkeep hwr hmr hbc r9 r10 HK HWZ HMZ HBZ R5 R6 CO C2H
    go_upto_region 5 with fail
    go_region_held3 (fun w' => w'.cell? ⟨k5, 0, none⟩ = some (.int .u64 pi) ∧ w'.cell? ⟨k5, 1, none⟩ = some (.int .i64 ps) ∧ w'.cell? ⟨k5, 2, none⟩ = some (.int .i64 pt) ∧ w'.cell? ⟨k5 + 1, 0, none⟩ = some (.slice d1 n1 c1) ∧ w'.cell? ⟨k5 + 1, 1, none⟩ = some (.slice g1 n2 c2) ∧ w'.cell? ⟨k5 + 1, 2, none⟩ = some (.slice l1 n3 c3) ∧ w'.cell? ⟨g9, 0, none⟩ = some (.int .u64 pi) ∧ w'.cell? ⟨g9, 1, none⟩ = some (.int .i64 ps) ∧ w'.cell? ⟨g9, 2, none⟩ = some (.int .i64 pt) ∧ w'.cell? ⟨g10, 0, none⟩ = some (.slice d3 o1 e1) ∧ w'.cell? ⟨g10, 1, none⟩ = some (.slice f3 o2 e2) ∧ w'.cell? ⟨g10, 2, none⟩ = some (.slice l3 o3 e3)) (first | go_keep | exact HKX.out _ (by (repeat' (first | (with_reducible exact Below.refl _ _) | (with_reducible assumption) | (with_reducible refine below_run ?_ (by assumption)) | (with_reducible refine below_of_upd ?_ (by assumption) ?_) | (with_reducible refine below_drewN ?_ _) | (with_reducible refine Below.drew ?_) | (with_reducible refine below_seven ?_ ?_) | (with_reducible refine below_six ?_ ?_) | (with_reducible refine below_one ?_ ?_) | (with_reducible refine Below.alloc ?_ ?_ _) | (with_reducible refine below_after ?_ ?_ (by assumption)) | (show _ ≤ _; first | omega | (simp; done) | (simp; omega))))))
      (first
        | (go_at_call 14; refine (CO2.out _ (by (repeat' (first | (with_reducible exact Below.refl _ _) | (with_reducible assumption) | (with_reducible refine below_run ?_ (by assumption)) | (with_reducible refine below_of_upd ?_ (by assumption) ?_) | (with_reducible refine below_drewN ?_ _) | (with_reducible refine Below.drew ?_) | (with_reducible refine below_seven ?_ ?_) | (with_reducible refine below_six ?_ ?_) | (with_reducible refine below_one ?_ ?_) | (with_reducible refine Below.alloc ?_ ?_ _) | (with_reducible refine below_after ?_ ?_ (by assumption)) | (show _ ≤ _; first | omega | (simp; done) | (simp; omega)))))).mono ?_; rintro e u3 ⟨a7, c7, rfl, hv7, hb7⟩; have hY7 : Below X.heap.size X u3 := (by (repeat' (first | (with_reducible exact Below.refl _ _) | (with_reducible assumption) | (with_reducible refine below_run ?_ (by assumption)) | (with_reducible refine below_of_upd ?_ (by assumption) ?_) | (with_reducible refine below_drewN ?_ _) | (with_reducible refine Below.drew ?_) | (with_reducible refine below_seven ?_ ?_) | (with_reducible refine below_six ?_ ?_) | (with_reducible refine below_one ?_ ?_) | (with_reducible refine Below.alloc ?_ ?_ _) | (with_reducible refine below_after ?_ ?_ (by assumption)) | (show _ ≤ _; first | omega | (simp; done) | (simp; omega))))); have hr7 := HRX.out.run hY7; clear hb7)
        | (go_at_call 25; refine (rsame_any _ _ _ _ _ _ _ _ _ _ _ _ _ _ _ _ _ _ y' _ (by first | exact hv7.r | exact hv7.r.drew) (by first | exact hr7 | exact hr7.drew)).mono ?_; rintro e u4 ⟨rfl, hb8⟩; have hY8 : Below X.heap.size X u4 := below_run hY7 (by first | exact hb8 | exact below_undrew hb8); clear hb8))
    all_goals (clear m0 m1 m2 m3' m4 m5 m6 m7 m8 m9 m10 m11 hbd HKX CO2 z1)
    all_goals (
      have hLz : (L.length : Int) ≤ 140737488351232 := by
        rcases HMX.out with ⟨h0, _⟩ | ⟨_, h1, _⟩ <;> omega
      have HY8 := Lib.hid hY8
      clear hY8 hY7 hr7 hv7
      go_wp2_with fail
      go_loopw [15, 89] (fun _ i wr => ∃ k : Nat, k ≤ L.length ∧ i = .int .i64 k ∧ Hid (Below X.heap.size X wr)) (fun _ i _ => L.length - (intOf i).toNat)
      case atStart =>
        have hY8 := HY8.out
        exact ⟨0, Nat.zero_le _, rfl, Lib.hid (by (repeat' (first | (with_reducible exact Below.refl _ _) | (with_reducible assumption) | (with_reducible refine below_run ?_ (by assumption)) | (with_reducible refine below_of_upd ?_ (by assumption) ?_) | (with_reducible refine below_drewN ?_ _) | (with_reducible refine Below.drew ?_) | (with_reducible refine below_seven ?_ ?_) | (with_reducible refine below_six ?_ ?_) | (with_reducible refine below_one ?_ ?_) | (with_reducible refine Below.alloc ?_ ?_ _) | (with_reducible refine below_after ?_ ?_ (by assumption)) | (show _ ≤ _; first | omega | (simp; done) | (simp; omega)))))⟩
      case round =>
        rename World => wr
        obtain ⟨k, hk, rfl, HBr⟩ := hrel
        by_cases hlt2 : k < L.length
        · have hlt3 : (k : Int) < (L.length : Int) := by omega
          have hk0 : (0 : Int) ≤ (k : Int) := by omega
          have q1 : ∃ b off cap, Value.slice ma L.length c4 = .slice (some ⟨b, off, none⟩) L.length cap ∧ ∀ i, i < L.length * 4 → wr.cell? ⟨b, off + i, none⟩ = rslC L i := by
            rcases (HMX.out.run HBr.out : RslsAt wr _ L) with ⟨h0, _⟩ | ⟨h0, h1, b, off, cap, hv, hbl, hcel⟩
            · omega
            · exact ⟨b, off, cap, hv, hcel⟩
          have q2 : ∃ b off cap, Value.slice ad3 L.length e4 = .slice (some ⟨b, off, none⟩) L.length cap ∧ ∀ i, i < L.length * 4 → wr.cell? ⟨b, off + i, none⟩ = rslC L i := by
            rcases (HMR.out.run HBr.out : RslsAt wr _ L) with ⟨h0, _⟩ | ⟨h0, h1, b, off, cap, hv, hbl, hcel⟩
            · omega
            · exact ⟨b, off, cap, hv, hcel⟩
          obtain ⟨b1, o1', p1, hv1, hc1⟩ := q1
          cases hv1
          obtain ⟨b2, o2', p2, hv2, hc2⟩ := q2
          cases hv2
          obtain ⟨d, hd, f0, f1, f2, f3⟩ := rsl_cells hc1 k hlt2
          obtain ⟨d', hd', g0, g1', g2, g3⟩ := rsl_cells hc2 k hlt2
          obtain rfl : d = d' := Option.some.inj (hd.symm.trans hd')
          clear hc1 hc2 hd hd'
          go_wp2_with fail
          go_quiet (fail)
          go_wp2
          go_roundw
          case rel => exact ⟨k + 1, by omega, by go_num, Lib.hid (below_drewN HBr.out _)⟩
          case measure => simp [intOf]; omega
        · obtain rfl : k = L.length := by omega
          have CF1 := Lib.hid (mfailed_any (.slice ia ids.length ic) (.slice ma L.length c4) ids L wr (HIX.out.run HBr.out) (HMX.out.run HBr.out) HIZ.out)
          have CF2 := Lib.hid (fun V (hV : Below wr.heap.size wr V) => rfailed_any (.slice ia ids.length ic) (.slice ad3 L.length e4) ids L V (HIX.out.run (below_run HBr.out hV)) (HMR.out.run (below_run HBr.out hV)) HIZ.out)
          have z1 : (failE ids L == failE ids L) = true := by simp
          go_wp2_with fail
          refine CF1.out.mono ?_
          rintro e w5 ⟨v1, rfl, hv1, hb5⟩
          go_wp2_with fail
          refine (CF2.out _ hb5).mono ?_
          rintro e w6 ⟨v2, rfl, hv2, hb6⟩
          go_wp2_with fail
          refine (equal_sameU v1 v2 _ w6 (hv1.run hb6) hv2).mono ?_
          rintro e w7 ⟨rfl, hb7⟩
          have HB7 := Lib.hid (below_run (below_run (below_run (below_run HBX.out HBr.out) hb5) hb6) hb7)
          clear hb5 hb6 hb7 hv1 hv2
          go_wp2_with fail
          refine (awake49_any _).mono ?_
          rintro e w8 ⟨rfl, hb8⟩
          go_wp2
          go_ret
          exact ⟨rfl, below_run HB7.out hb8⟩)

set_option maxHeartbeats 32000000 in
set_option maxRecDepth 100000 in
theorem law_roundsB (x : Mgr) (da fa la : Option Addr) (dn dc fn fc ln lc : Nat) (y : Wre) (dst kind par : Int) (dat : ByteArray) (w : World) (h : WireAt w (.slice da dn dc) (.slice fa fn fc) (.slice la ln lc) y) (hr : y.devs.length * 56 ≤ 140737488351232) (hn : NilOne (.slice la ln lc)) (hrm : RoomOk (.slice fa fn fc)) (ids : List Int) (ia : Option Addr) (ic : Nat) (hi : IdsAt w (.slice ia ids.length ic) ids) (hiz : ids.length * 8 ≤ 140737488351232) (hg : 64 < ids.length ∧ ids.length ≤ 1000) :
    Calls Tryz.prog 10 #[.agg #[.int .u64 x.id, .int .i64 x.seq, .int .i64 x.tries, .slice da dn dc, .slice fa fn fc, .slice la ln lc], .slice ia ids.length ic, .agg #[.int .u64 dst, .int .i64 kind, .int .i64 par, .string dat]] w fun e w' => e = .returned (.bool true) ∧ Below w.heap.size w w' := by
  obtain ⟨xi, xs, xt⟩ := x
  show Calls Tryz.prog 10 #[.agg #[.int .u64 xi, .int .i64 xs, .int .i64 xt, .slice da dn dc, .slice fa fn fc, .slice la ln lc], _, _] w _
  obtain ⟨W, hW⟩ : ∃ W, (w.alloc (.cells #[.int .u64 xi, .int .i64 xs, .int .i64 xt, .slice da dn dc, .slice fa fn fc, .slice la ln lc] 31)).alloc (.cells #[.int .u64 dst, .int .i64 kind, .int .i64 par, .string dat] 50) = W := ⟨_, rfl⟩
  have hbW : Below w.heap.size w W := by rw [← hW]; (repeat' (first | (with_reducible exact Below.refl _ _) | (with_reducible assumption) | (with_reducible refine below_run ?_ (by assumption)) | (with_reducible refine below_of_upd ?_ (by assumption) ?_) | (with_reducible refine below_drewN ?_ _) | (with_reducible refine Below.drew ?_) | (with_reducible refine below_seven ?_ ?_) | (with_reducible refine below_six ?_ ?_) | (with_reducible refine below_one ?_ ?_) | (with_reducible refine Below.alloc ?_ ?_ _) | (with_reducible refine below_after ?_ ?_ (by assumption)) | (show _ ≤ _; first | omega | (simp; done) | (simp; omega))))
  have r0 : RowAt W w.heap.size 31 #[.int .u64 xi, .int .i64 xs, .int .i64 xt, .slice da dn dc, .slice fa fn fc, .slice la ln lc] := by rw [← hW]; exact (RowAt.new _ _ _).alloc _
  have r1 : RowAt W (w.heap.size + 1) 50 #[.int .u64 dst, .int .i64 kind, .int .i64 par, .string dat] := by rw [← hW]; exact RowAt.mk (by simp) rfl
  obtain ⟨q, hq⟩ : ∃ q, (fewW y && decide (dat.size ≤ 1000)) = q := ⟨_, rfl⟩
  have CF := Lib.hid (mfew_any q ⟨xi, xs, xt⟩ da fa la dn dc fn fc ln lc y dst kind par dat W (h.run hbW) hr hq)
  have HH := Lib.hid h
  have HR := Lib.hid hr
  have HN := Lib.hid hn
  have HI := Lib.hid hi
  have HRM := Lib.hid hrm
  have HQ := Lib.hid hq
  have R0 := Lib.hid r0
  have R1 := Lib.hid r1
  have HB := Lib.hid hbW
  obtain ⟨x1, x2, x3, x4, x5, x6⟩ := row_facts r0
  obtain ⟨y1, y2, y3, y4, y5, y6⟩ := row_facts r1
  clear h hr hn hrm hq r0 r1 hbW hi
  go_enter Tryz.func10, Tryz.ntmps10
  go_upto_region 1 with fail
  clear hW
  go_wp2_with fail
  refine CF.out.mono ?_
  rintro e w1 ⟨rfl, hb1⟩
  have r0 := R0.out.run hb1
  have r1 := R1.out.run hb1
  have HB1 := Lib.hid (below_run HB.out hb1)
  have R01 := Lib.hid r0
  have R11 := Lib.hid r1
  clear x1 x2 x3 x4 x5 x6 y1 y2 y3 y4 y5 y6 hb1 R0 R1 HB CF
  obtain ⟨x1, x2, x3, x4, x5, x6⟩ := row_facts r0
  obtain ⟨y1, y2, y3, y4, y5, y6⟩ := row_facts r1
  clear r0 r1
  cases q with
  | false =>
    go_wp2_with fail
    refine (awake49_any _).mono ?_
    rintro e w9 ⟨rfl, hb9⟩
    go_wp2
    go_ret
    exact ⟨rfl, below_run HB1.out hb9⟩
  | true =>
  have hq := HQ.out
  simp only [Bool.and_eq_true, decide_eq_true_eq] at hq
  obtain ⟨hfw, hds⟩ := hq
  obtain ⟨f1, f2, -⟩ := few_small hfw
  have HLB := Lib.hid (show ∀ d ∈ y.devs, d.lb.size ≤ 9223372036854775807 from fun d hd => by have := f2 d hd; omega)
  have HDS := Lib.hid (show dat.size ≤ 9223372036854775807 by omega)
  have j1 : (12 : Int) < (ids.length : Int) := by omega
  have j2 : ¬ (ids.length : Int) ≤ 64 := by omega
  have j3 : ¬ (1000 : Int) < (ids.length : Int) := by omega
  have HIZ := Lib.hid hiz
  obtain ⟨⟨⟨pi, ps, pt⟩, y', L, E⟩, hp⟩ : ∃ p, allU ⟨xi, xs, xt⟩ y ids ⟨dst, kind, par, dat⟩ = p := ⟨_, rfl⟩
  have hyl : y'.devs.length ≤ 128 := by
    have h1 : (allU ⟨xi, xs, xt⟩ y ids ⟨dst, kind, par, dat⟩).2.1 = y' := by rw [hp]
    rw [← h1]
    exact Nat.le_trans (allU_length _ _ _ _) f1
  have HYL := Lib.hid hyl
  have C1 := mall_any ⟨xi, xs, xt⟩ da fa la dn dc fn fc ln lc y ids ia ic dst kind par dat w1 (HH.out.run HB1.out) (HI.out.run HB1.out)
  have C2 := fun V (a9 : Option Addr) (c9 : Nat) (hv : WireAt V (.slice a9 y.devs.length c9) (.slice fa fn fc) (.slice la ln lc) y) (hv2 : IdsAt V (.slice ia ids.length ic) ids) => rall_any ⟨xi, xs, xt⟩ a9 fa la y.devs.length c9 fn fc ln lc y ids ia ic dst kind par dat V ⟨hv.r, HN.out, HRM.out⟩ hv2 HLB.out HDS.out
  rw [hp] at C1
  simp only [hp] at C2
  have C1H := Lib.hid C1
  have C2H := Lib.hid C2
  clear C1 C2 hp hfw hds f1 f2 hyl hiz
  go_wp2_with fail
  refine C1H.out.mono ?_
  rintro e w2 ⟨d1, g1, l1, ma, n1, c1, n2, c2, n3, c3, c4, he, hw2, hm2, hb2⟩
  have he' : e = .returned (.tuple #[.agg #[.int .u64 pi, .int .i64 ps, .int .i64 pt], .agg #[.slice d1 n1 c1, .slice g1 n2 c2, .slice l1 n3 c3], .slice ma L.length c4, .int .i64 E]) := he
  subst he'
  have HW2 := Lib.hid hw2
  have HM2 := Lib.hid hm2
  have R02 := Lib.hid (R01.out.run hb2)
  have R12 := Lib.hid (R11.out.run hb2)
  have HB2 := Lib.hid (below_run HB1.out hb2)
  clear he hw2 hm2 hb2 x1 x2 x3 x4 x5 x6 y1 y2 y3 y4 y5 y6 R01 R11 HB1 C1H
  go_upto_region 4 with fail
  have hbT : Below w2.heap.size w2 ((w2.alloc (.cells #[.int .u64 pi, .int .i64 ps, .int .i64 pt] 24)).alloc (.cells #[.slice d1 n1 c1, .slice g1 n2 c2, .slice l1 n3 c3] 29)) := by (repeat' (first | (with_reducible exact Below.refl _ _) | (with_reducible assumption) | (with_reducible refine below_run ?_ (by assumption)) | (with_reducible refine below_of_upd ?_ (by assumption) ?_) | (with_reducible refine below_drewN ?_ _) | (with_reducible refine Below.drew ?_) | (with_reducible refine below_seven ?_ ?_) | (with_reducible refine below_six ?_ ?_) | (with_reducible refine below_one ?_ ?_) | (with_reducible refine Below.alloc ?_ ?_ _) | (with_reducible refine below_after ?_ ?_ (by assumption)) | (show _ ≤ _; first | omega | (simp; done) | (simp; omega))))
  have r5 : RowAt ((w2.alloc (.cells #[.int .u64 pi, .int .i64 ps, .int .i64 pt] 24)).alloc (.cells #[.slice d1 n1 c1, .slice g1 n2 c2, .slice l1 n3 c3] 29)) w2.heap.size 24 #[.int .u64 pi, .int .i64 ps, .int .i64 pt] := (RowAt.new _ _ _).alloc _
  have r6 : RowAt ((w2.alloc (.cells #[.int .u64 pi, .int .i64 ps, .int .i64 pt] 24)).alloc (.cells #[.slice d1 n1 c1, .slice g1 n2 c2, .slice l1 n3 c3] 29)) (w2.heap.size + 1) 29 #[.slice d1 n1 c1, .slice g1 n2 c2, .slice l1 n3 c3] := RowAt.mk (by simp) rfl
  have r0 := R02.out.run hbT
  have r1 := R12.out.run hbT
  have hw := HW2.out.run hbT
  have hm := HM2.out.run hbT
  have hbw := below_run HB2.out hbT
  generalize (w2.alloc (.cells #[.int .u64 pi, .int .i64 ps, .int .i64 pt] 24)).alloc (.cells #[.slice d1 n1 c1, .slice g1 n2 c2, .slice l1 n3 c3] 29) = Z at hbT r5 r6 r0 r1 hw hm hbw ⊢
  generalize w2.heap.size = k5 at r5 r6 ⊢
  have hkeep : ∀ W', Below Z.heap.size Z W' → (W'.cell? ⟨w.heap.size, 0, none⟩ = some (.int .u64 xi) ∧ W'.cell? ⟨w.heap.size, 1, none⟩ = some (.int .i64 xs) ∧ W'.cell? ⟨w.heap.size, 2, none⟩ = some (.int .i64 xt) ∧ W'.cell? ⟨w.heap.size, 3, none⟩ = some (.slice da dn dc) ∧ W'.cell? ⟨w.heap.size, 4, none⟩ = some (.slice fa fn fc) ∧ W'.cell? ⟨w.heap.size, 5, none⟩ = some (.slice la ln lc) ∧ W'.cell? ⟨w.heap.size + 1, 0, none⟩ = some (.int .u64 dst) ∧ W'.cell? ⟨w.heap.size + 1, 1, none⟩ = some (.int .i64 kind) ∧ W'.cell? ⟨w.heap.size + 1, 2, none⟩ = some (.int .i64 par) ∧ W'.cell? ⟨w.heap.size + 1, 3, none⟩ = some (.string dat)) := by
    intro W' hb
    have a0 := r0.run hb
    have a1 := r1.run hb
    exact ⟨cell_fact a0 0, cell_fact a0 1, cell_fact a0 2, cell_fact a0 3, cell_fact a0 4, cell_fact a0 5, cell_fact a1 0, cell_fact a1 1, cell_fact a1 2, cell_fact a1 3⟩
  have HK := Lib.hid hkeep
  have hbd : Below Z.heap.size Z Z.drew := Below.drew (Below.refl _ _)
  obtain ⟨m0, m1, m2, m3, m4, m5, m6, m7, m8, m9⟩ := hkeep Z (Below.refl _ _)
  have HWZ := Lib.hid hw
  have HMZ := Lib.hid hm
  have HBZ := Lib.hid hbw
  have R5 := Lib.hid r5
  have R6 := Lib.hid r6
  have hz0 := hbw.size
  have hlz := lt_of_block r1
  have CO := Lib.hid (fun V (hb : Below Z.heap.size Z V) => wof_any da fa la dn dc fn fc ln lc y V (HH.out.run (below_run HBZ.out hb)) HR.out)
  clear hbT r5 r6 r0 r1 hw hm hbw hkeep HW2 HM2 R02 R12 HB2
  have HIZZ := Lib.hid (HI.out.run HBZ.out)
  go_cut [11, 12, 13, 14] (fun s9 s10 s11 s12 wx => RoundsCut ⟨pi, ps, pt⟩ y' L E Z s9 s10 s11 s12 wx)
  case first =>
    go_region_held3 (fun w' => w'.cell? ⟨w.heap.size, 0, none⟩ = some (.int .u64 xi) ∧ w'.cell? ⟨w.heap.size, 1, none⟩ = some (.int .i64 xs) ∧ w'.cell? ⟨w.heap.size, 2, none⟩ = some (.int .i64 xt) ∧ w'.cell? ⟨w.heap.size, 3, none⟩ = some (.slice da dn dc) ∧ w'.cell? ⟨w.heap.size, 4, none⟩ = some (.slice fa fn fc) ∧ w'.cell? ⟨w.heap.size, 5, none⟩ = some (.slice la ln lc) ∧ w'.cell? ⟨w.heap.size + 1, 0, none⟩ = some (.int .u64 dst) ∧ w'.cell? ⟨w.heap.size + 1, 1, none⟩ = some (.int .i64 kind) ∧ w'.cell? ⟨w.heap.size + 1, 2, none⟩ = some (.int .i64 par) ∧ w'.cell? ⟨w.heap.size + 1, 3, none⟩ = some (.string dat)) (first | go_keep | exact HK.out _ (by (repeat' (first | (with_reducible exact Below.refl _ _) | (with_reducible assumption) | (with_reducible refine below_run ?_ (by assumption)) | (with_reducible refine below_of_upd ?_ (by assumption) ?_) | (with_reducible refine below_drewN ?_ _) | (with_reducible refine Below.drew ?_) | (with_reducible refine below_seven ?_ ?_) | (with_reducible refine below_six ?_ ?_) | (with_reducible refine below_one ?_ ?_) | (with_reducible refine Below.alloc ?_ ?_ _) | (with_reducible refine below_after ?_ ?_ (by assumption)) | (show _ ≤ _; first | omega | (simp; done) | (simp; omega))))))
      (first
        | (go_at_call 14; refine (CO.out _ (by (repeat' (first | (with_reducible exact Below.refl _ _) | (with_reducible assumption) | (with_reducible refine below_run ?_ (by assumption)) | (with_reducible refine below_of_upd ?_ (by assumption) ?_) | (with_reducible refine below_drewN ?_ _) | (with_reducible refine Below.drew ?_) | (with_reducible refine below_seven ?_ ?_) | (with_reducible refine below_six ?_ ?_) | (with_reducible refine below_one ?_ ?_) | (with_reducible refine Below.alloc ?_ ?_ _) | (with_reducible refine below_after ?_ ?_ (by assumption)) | (show _ ≤ _; first | omega | (simp; done) | (simp; omega)))))).mono ?_; rintro e u1 ⟨a9, c9, rfl, hv9, hb9⟩; have hs9 := hb9.size; (try simp at hs9); (try (refine have_of (p := RowAt u1 Z.heap.size 41 #[.int .u64 0, .int .i64 0, .int .i64 0]) ?_ ?_; (focus ((repeat' (first | (with_reducible assumption) | (with_reducible refine RowAt.drewN ?_ _) | (with_reducible refine RowAt.drew ?_) | (with_reducible apply RowAt.seven) | (with_reducible apply RowAt.six) | (with_reducible refine RowAt.far7 ?_ ?_) | (with_reducible refine RowAt.far6 ?_ ?_) | (with_reducible refine RowAt.far1 ?_ ?_) | ((with_reducible refine RowAt.mk ?_ ?_); (focus (first | (with_reducible rfl) | (simp; done))); rfl) | (with_reducible refine RowAt.alloc ?_ _) | (with_reducible refine RowAt.run ?_ (by assumption)) | (with_reducible refine RowAt.below ?_ (by assumption) ?_) | (with_reducible refine RowAt.upd ?_ (by assumption) ?_) | (with_reducible show _ < _; first | omega | (simp; done) | (simp; omega)) | (with_reducible show ¬ _ = _; first | omega | (simp; done) | (simp; omega)) | (with_reducible exact rfl))); done)); intro hx; obtain ⟨x1, x2, x3, x4, x5, x6⟩ := row_facts hx)); (try (refine have_of (p := RowAt u1 Z.heap.size 35 #[.slice none 0 0, .slice none 0 0, .slice none 0 0]) ?_ ?_; (focus ((repeat' (first | (with_reducible assumption) | (with_reducible refine RowAt.drewN ?_ _) | (with_reducible refine RowAt.drew ?_) | (with_reducible apply RowAt.seven) | (with_reducible apply RowAt.six) | (with_reducible refine RowAt.far7 ?_ ?_) | (with_reducible refine RowAt.far6 ?_ ?_) | (with_reducible refine RowAt.far1 ?_ ?_) | ((with_reducible refine RowAt.mk ?_ ?_); (focus (first | (with_reducible rfl) | (simp; done))); rfl) | (with_reducible refine RowAt.alloc ?_ _) | (with_reducible refine RowAt.run ?_ (by assumption)) | (with_reducible refine RowAt.below ?_ (by assumption) ?_) | (with_reducible refine RowAt.upd ?_ (by assumption) ?_) | (with_reducible show _ < _; first | omega | (simp; done) | (simp; omega)) | (with_reducible show ¬ _ = _; first | omega | (simp; done) | (simp; omega)) | (with_reducible exact rfl))); done)); intro hx; obtain ⟨x1, x2, x3, x4, x5, x6⟩ := row_facts hx)); (try (refine have_of (p := RowAt u1 (Z.heap.size + 1) 41 #[.int .u64 0, .int .i64 0, .int .i64 0]) ?_ ?_; (focus ((repeat' (first | (with_reducible assumption) | (with_reducible refine RowAt.drewN ?_ _) | (with_reducible refine RowAt.drew ?_) | (with_reducible apply RowAt.seven) | (with_reducible apply RowAt.six) | (with_reducible refine RowAt.far7 ?_ ?_) | (with_reducible refine RowAt.far6 ?_ ?_) | (with_reducible refine RowAt.far1 ?_ ?_) | ((with_reducible refine RowAt.mk ?_ ?_); (focus (first | (with_reducible rfl) | (simp; done))); rfl) | (with_reducible refine RowAt.alloc ?_ _) | (with_reducible refine RowAt.run ?_ (by assumption)) | (with_reducible refine RowAt.below ?_ (by assumption) ?_) | (with_reducible refine RowAt.upd ?_ (by assumption) ?_) | (with_reducible show _ < _; first | omega | (simp; done) | (simp; omega)) | (with_reducible show ¬ _ = _; first | omega | (simp; done) | (simp; omega)) | (with_reducible exact rfl))); done)); intro hx; obtain ⟨x1, x2, x3, x4, x5, x6⟩ := row_facts hx)); (try (refine have_of (p := RowAt u1 (Z.heap.size + 1) 35 #[.slice none 0 0, .slice none 0 0, .slice none 0 0]) ?_ ?_; (focus ((repeat' (first | (with_reducible assumption) | (with_reducible refine RowAt.drewN ?_ _) | (with_reducible refine RowAt.drew ?_) | (with_reducible apply RowAt.seven) | (with_reducible apply RowAt.six) | (with_reducible refine RowAt.far7 ?_ ?_) | (with_reducible refine RowAt.far6 ?_ ?_) | (with_reducible refine RowAt.far1 ?_ ?_) | ((with_reducible refine RowAt.mk ?_ ?_); (focus (first | (with_reducible rfl) | (simp; done))); rfl) | (with_reducible refine RowAt.alloc ?_ _) | (with_reducible refine RowAt.run ?_ (by assumption)) | (with_reducible refine RowAt.below ?_ (by assumption) ?_) | (with_reducible refine RowAt.upd ?_ (by assumption) ?_) | (with_reducible show _ < _; first | omega | (simp; done) | (simp; omega)) | (with_reducible show ¬ _ = _; first | omega | (simp; done) | (simp; omega)) | (with_reducible exact rfl))); done)); intro hx; obtain ⟨x1, x2, x3, x4, x5, x6⟩ := row_facts hx));  have hY1 : Below Z.heap.size Z u1 := (by (repeat' (first | (with_reducible exact Below.refl _ _) | (with_reducible assumption) | (with_reducible refine below_run ?_ (by assumption)) | (with_reducible refine below_of_upd ?_ (by assumption) ?_) | (with_reducible refine below_drewN ?_ _) | (with_reducible refine Below.drew ?_) | (with_reducible refine below_seven ?_ ?_) | (with_reducible refine below_six ?_ ?_) | (with_reducible refine below_one ?_ ?_) | (with_reducible refine Below.alloc ?_ ?_ _) | (with_reducible refine below_after ?_ ?_ (by assumption)) | (show _ ≤ _; first | omega | (simp; done) | (simp; omega))))); obtain ⟨m0, m1, m2, m3, m4, m5, m6, m7, m8, m9⟩ := HK.out _ hY1; have hzu1 := hY1.size)
        | (go_at_call 38; refine (C2H.out _ a9 c9 (by first | exact hv9 | exact hv9.drew | exact hv9.run (by (repeat' (first | (with_reducible exact Below.refl _ _) | (with_reducible assumption) | (with_reducible refine below_run ?_ (by assumption)) | (with_reducible refine below_of_upd ?_ (by assumption) ?_) | (with_reducible refine below_drewN ?_ _) | (with_reducible refine Below.drew ?_) | (with_reducible refine below_seven ?_ ?_) | (with_reducible refine below_six ?_ ?_) | (with_reducible refine below_one ?_ ?_) | (with_reducible refine Below.alloc ?_ ?_ _) | (with_reducible refine below_after ?_ ?_ (by assumption)) | (show _ ≤ _; first | omega | (simp; done) | (simp; omega)))))) (HIZZ.out.run (by (repeat' (first | (with_reducible exact Below.refl _ _) | (with_reducible assumption) | (with_reducible refine below_run ?_ (by assumption)) | (with_reducible refine below_of_upd ?_ (by assumption) ?_) | (with_reducible refine below_drewN ?_ _) | (with_reducible refine Below.drew ?_) | (with_reducible refine below_seven ?_ ?_) | (with_reducible refine below_six ?_ ?_) | (with_reducible refine below_one ?_ ?_) | (with_reducible refine Below.alloc ?_ ?_ _) | (with_reducible refine below_after ?_ ?_ (by assumption)) | (show _ ≤ _; first | omega | (simp; done) | (simp; omega))))))).mono ?_; rintro e u2 ⟨d3, f3, l3, m3', o1, e1, o2, e2, o3, e3, e4, he2, hI2, hM2, hb22⟩; have he3 : e = .returned (.tuple #[.agg #[.int .u64 pi, .int .i64 ps, .int .i64 pt], .agg #[.slice d3 o1 e1, .slice f3 o2 e2, .slice l3 o3 e3], .slice m3' L.length e4, .int .i64 E]) := he2; subst he3; clear he2; have hs22 := hb22.size; (try simp at hs22); (try (refine have_of (p := RowAt u2 Z.heap.size 41 #[.int .u64 0, .int .i64 0, .int .i64 0]) ?_ ?_; (focus ((repeat' (first | (with_reducible assumption) | (with_reducible refine RowAt.drewN ?_ _) | (with_reducible refine RowAt.drew ?_) | (with_reducible apply RowAt.seven) | (with_reducible apply RowAt.six) | (with_reducible refine RowAt.far7 ?_ ?_) | (with_reducible refine RowAt.far6 ?_ ?_) | (with_reducible refine RowAt.far1 ?_ ?_) | ((with_reducible refine RowAt.mk ?_ ?_); (focus (first | (with_reducible rfl) | (simp; done))); rfl) | (with_reducible refine RowAt.alloc ?_ _) | (with_reducible refine RowAt.run ?_ (by assumption)) | (with_reducible refine RowAt.below ?_ (by assumption) ?_) | (with_reducible refine RowAt.upd ?_ (by assumption) ?_) | (with_reducible show _ < _; first | omega | (simp; done) | (simp; omega)) | (with_reducible show ¬ _ = _; first | omega | (simp; done) | (simp; omega)) | (with_reducible exact rfl))); done)); intro hx; obtain ⟨x1, x2, x3, x4, x5, x6⟩ := row_facts hx)); (try (refine have_of (p := RowAt u2 Z.heap.size 35 #[.slice none 0 0, .slice none 0 0, .slice none 0 0]) ?_ ?_; (focus ((repeat' (first | (with_reducible assumption) | (with_reducible refine RowAt.drewN ?_ _) | (with_reducible refine RowAt.drew ?_) | (with_reducible apply RowAt.seven) | (with_reducible apply RowAt.six) | (with_reducible refine RowAt.far7 ?_ ?_) | (with_reducible refine RowAt.far6 ?_ ?_) | (with_reducible refine RowAt.far1 ?_ ?_) | ((with_reducible refine RowAt.mk ?_ ?_); (focus (first | (with_reducible rfl) | (simp; done))); rfl) | (with_reducible refine RowAt.alloc ?_ _) | (with_reducible refine RowAt.run ?_ (by assumption)) | (with_reducible refine RowAt.below ?_ (by assumption) ?_) | (with_reducible refine RowAt.upd ?_ (by assumption) ?_) | (with_reducible show _ < _; first | omega | (simp; done) | (simp; omega)) | (with_reducible show ¬ _ = _; first | omega | (simp; done) | (simp; omega)) | (with_reducible exact rfl))); done)); intro hx; obtain ⟨x1, x2, x3, x4, x5, x6⟩ := row_facts hx)); (try (refine have_of (p := RowAt u2 (Z.heap.size + 1) 41 #[.int .u64 0, .int .i64 0, .int .i64 0]) ?_ ?_; (focus ((repeat' (first | (with_reducible assumption) | (with_reducible refine RowAt.drewN ?_ _) | (with_reducible refine RowAt.drew ?_) | (with_reducible apply RowAt.seven) | (with_reducible apply RowAt.six) | (with_reducible refine RowAt.far7 ?_ ?_) | (with_reducible refine RowAt.far6 ?_ ?_) | (with_reducible refine RowAt.far1 ?_ ?_) | ((with_reducible refine RowAt.mk ?_ ?_); (focus (first | (with_reducible rfl) | (simp; done))); rfl) | (with_reducible refine RowAt.alloc ?_ _) | (with_reducible refine RowAt.run ?_ (by assumption)) | (with_reducible refine RowAt.below ?_ (by assumption) ?_) | (with_reducible refine RowAt.upd ?_ (by assumption) ?_) | (with_reducible show _ < _; first | omega | (simp; done) | (simp; omega)) | (with_reducible show ¬ _ = _; first | omega | (simp; done) | (simp; omega)) | (with_reducible exact rfl))); done)); intro hx; obtain ⟨x1, x2, x3, x4, x5, x6⟩ := row_facts hx)); (try (refine have_of (p := RowAt u2 (Z.heap.size + 1) 35 #[.slice none 0 0, .slice none 0 0, .slice none 0 0]) ?_ ?_; (focus ((repeat' (first | (with_reducible assumption) | (with_reducible refine RowAt.drewN ?_ _) | (with_reducible refine RowAt.drew ?_) | (with_reducible apply RowAt.seven) | (with_reducible apply RowAt.six) | (with_reducible refine RowAt.far7 ?_ ?_) | (with_reducible refine RowAt.far6 ?_ ?_) | (with_reducible refine RowAt.far1 ?_ ?_) | ((with_reducible refine RowAt.mk ?_ ?_); (focus (first | (with_reducible rfl) | (simp; done))); rfl) | (with_reducible refine RowAt.alloc ?_ _) | (with_reducible refine RowAt.run ?_ (by assumption)) | (with_reducible refine RowAt.below ?_ (by assumption) ?_) | (with_reducible refine RowAt.upd ?_ (by assumption) ?_) | (with_reducible show _ < _; first | omega | (simp; done) | (simp; omega)) | (with_reducible show ¬ _ = _; first | omega | (simp; done) | (simp; omega)) | (with_reducible exact rfl))); done)); intro hx; obtain ⟨x1, x2, x3, x4, x5, x6⟩ := row_facts hx)); (try (refine have_of (p := RowAt u2 u1.heap.size 41 #[.int .u64 0, .int .i64 0, .int .i64 0]) ?_ ?_; (focus ((repeat' (first | (with_reducible assumption) | (with_reducible refine RowAt.drewN ?_ _) | (with_reducible refine RowAt.drew ?_) | (with_reducible apply RowAt.seven) | (with_reducible apply RowAt.six) | (with_reducible refine RowAt.far7 ?_ ?_) | (with_reducible refine RowAt.far6 ?_ ?_) | (with_reducible refine RowAt.far1 ?_ ?_) | ((with_reducible refine RowAt.mk ?_ ?_); (focus (first | (with_reducible rfl) | (simp; done))); rfl) | (with_reducible refine RowAt.alloc ?_ _) | (with_reducible refine RowAt.run ?_ (by assumption)) | (with_reducible refine RowAt.below ?_ (by assumption) ?_) | (with_reducible refine RowAt.upd ?_ (by assumption) ?_) | (with_reducible show _ < _; first | omega | (simp; done) | (simp; omega)) | (with_reducible show ¬ _ = _; first | omega | (simp; done) | (simp; omega)) | (with_reducible exact rfl))); done)); intro hx; obtain ⟨x1, x2, x3, x4, x5, x6⟩ := row_facts hx)); (try (refine have_of (p := RowAt u2 u1.heap.size 35 #[.slice none 0 0, .slice none 0 0, .slice none 0 0]) ?_ ?_; (focus ((repeat' (first | (with_reducible assumption) | (with_reducible refine RowAt.drewN ?_ _) | (with_reducible refine RowAt.drew ?_) | (with_reducible apply RowAt.seven) | (with_reducible apply RowAt.six) | (with_reducible refine RowAt.far7 ?_ ?_) | (with_reducible refine RowAt.far6 ?_ ?_) | (with_reducible refine RowAt.far1 ?_ ?_) | ((with_reducible refine RowAt.mk ?_ ?_); (focus (first | (with_reducible rfl) | (simp; done))); rfl) | (with_reducible refine RowAt.alloc ?_ _) | (with_reducible refine RowAt.run ?_ (by assumption)) | (with_reducible refine RowAt.below ?_ (by assumption) ?_) | (with_reducible refine RowAt.upd ?_ (by assumption) ?_) | (with_reducible show _ < _; first | omega | (simp; done) | (simp; omega)) | (with_reducible show ¬ _ = _; first | omega | (simp; done) | (simp; omega)) | (with_reducible exact rfl))); done)); intro hx; obtain ⟨x1, x2, x3, x4, x5, x6⟩ := row_facts hx)); (try (refine have_of (p := RowAt u2 (u1.heap.size + 1) 41 #[.int .u64 0, .int .i64 0, .int .i64 0]) ?_ ?_; (focus ((repeat' (first | (with_reducible assumption) | (with_reducible refine RowAt.drewN ?_ _) | (with_reducible refine RowAt.drew ?_) | (with_reducible apply RowAt.seven) | (with_reducible apply RowAt.six) | (with_reducible refine RowAt.far7 ?_ ?_) | (with_reducible refine RowAt.far6 ?_ ?_) | (with_reducible refine RowAt.far1 ?_ ?_) | ((with_reducible refine RowAt.mk ?_ ?_); (focus (first | (with_reducible rfl) | (simp; done))); rfl) | (with_reducible refine RowAt.alloc ?_ _) | (with_reducible refine RowAt.run ?_ (by assumption)) | (with_reducible refine RowAt.below ?_ (by assumption) ?_) | (with_reducible refine RowAt.upd ?_ (by assumption) ?_) | (with_reducible show _ < _; first | omega | (simp; done) | (simp; omega)) | (with_reducible show ¬ _ = _; first | omega | (simp; done) | (simp; omega)) | (with_reducible exact rfl))); done)); intro hx; obtain ⟨x1, x2, x3, x4, x5, x6⟩ := row_facts hx)); (try (refine have_of (p := RowAt u2 (u1.heap.size + 1) 35 #[.slice none 0 0, .slice none 0 0, .slice none 0 0]) ?_ ?_; (focus ((repeat' (first | (with_reducible assumption) | (with_reducible refine RowAt.drewN ?_ _) | (with_reducible refine RowAt.drew ?_) | (with_reducible apply RowAt.seven) | (with_reducible apply RowAt.six) | (with_reducible refine RowAt.far7 ?_ ?_) | (with_reducible refine RowAt.far6 ?_ ?_) | (with_reducible refine RowAt.far1 ?_ ?_) | ((with_reducible refine RowAt.mk ?_ ?_); (focus (first | (with_reducible rfl) | (simp; done))); rfl) | (with_reducible refine RowAt.alloc ?_ _) | (with_reducible refine RowAt.run ?_ (by assumption)) | (with_reducible refine RowAt.below ?_ (by assumption) ?_) | (with_reducible refine RowAt.upd ?_ (by assumption) ?_) | (with_reducible show _ < _; first | omega | (simp; done) | (simp; omega)) | (with_reducible show ¬ _ = _; first | omega | (simp; done) | (simp; omega)) | (with_reducible exact rfl))); done)); intro hx; obtain ⟨x1, x2, x3, x4, x5, x6⟩ := row_facts hx));  have hY2 : Below Z.heap.size Z u2 := (by (repeat' (first | (with_reducible exact Below.refl _ _) | (with_reducible assumption) | (with_reducible refine below_run ?_ (by assumption)) | (with_reducible refine below_of_upd ?_ (by assumption) ?_) | (with_reducible refine below_drewN ?_ _) | (with_reducible refine Below.drew ?_) | (with_reducible refine below_seven ?_ ?_) | (with_reducible refine below_six ?_ ?_) | (with_reducible refine below_one ?_ ?_) | (with_reducible refine Below.alloc ?_ ?_ _) | (with_reducible refine below_after ?_ ?_ (by assumption)) | (show _ ≤ _; first | omega | (simp; done) | (simp; omega))))); have hLF := lawF_of hI2 HH.out.faults HH.out.late (mv := .slice none 0 0) (L := []) (.inl ⟨rfl, _, _, rfl⟩) (below_run HBZ.out hY2); obtain ⟨m0, m1, m2, m3, m4, m5, m6, m7, m8, m9⟩ := HK.out _ hY2; have hzu2 := hY2.size))
    all_goals (go_wp2_with fail; go_meet)
    all_goals (have hwz : w.heap.size ≤ Z.heap.size := hz0)
    all_goals (first
      | (with_reducible exact rounds_F1 (x := ⟨pi, ps, pt⟩) hLF hM2 rfl hY2)
      | (with_reducible exact rounds_F2 (x := ⟨pi, ps, pt⟩) hLF hM2 rfl hY2)
      | (with_reducible refine rounds_F4 (x := ⟨pi, ps, pt⟩) hLF hM2 rfl hY2 (by assumption) (by assumption) ?_ ?_ ?_ ?_ ?_ ?_ ?_)
      | (with_reducible refine rounds_F3 (x := ⟨pi, ps, pt⟩) hLF hM2 rfl hY2 (by assumption) ?_ ?_ ?_)
      | (with_reducible refine rounds_F5 (x := ⟨pi, ps, pt⟩) hLF hM2 rfl hY2 (by assumption) ?_ ?_ ?_))
    all_goals (first | omega | (simp; done) | (simp; omega))
  case rest =>
    obtain ⟨g9, g10, d3, f3, l3, ad3, o1, e1, o2, e2, o3, e3, o4, e4, rfl, rfl, rfl, rfl, rfl, r9, r10, hwr, hmr, hbc⟩ := hcut
    clear m0 m1 m2 m3 m4 m5 m6 m7 m8 m9 hbd
    rename World => X
    have hkeep : ∀ W', Below X.heap.size X W' → (W'.cell? ⟨k5, 0, none⟩ = some (.int .u64 pi) ∧ W'.cell? ⟨k5, 1, none⟩ = some (.int .i64 ps) ∧ W'.cell? ⟨k5, 2, none⟩ = some (.int .i64 pt) ∧ W'.cell? ⟨k5 + 1, 0, none⟩ = some (.slice d1 n1 c1) ∧ W'.cell? ⟨k5 + 1, 1, none⟩ = some (.slice g1 n2 c2) ∧ W'.cell? ⟨k5 + 1, 2, none⟩ = some (.slice l1 n3 c3) ∧ W'.cell? ⟨g9, 0, none⟩ = some (.int .u64 pi) ∧ W'.cell? ⟨g9, 1, none⟩ = some (.int .i64 ps) ∧ W'.cell? ⟨g9, 2, none⟩ = some (.int .i64 pt) ∧ W'.cell? ⟨g10, 0, none⟩ = some (.slice d3 o1 e1) ∧ W'.cell? ⟨g10, 1, none⟩ = some (.slice f3 o2 e2) ∧ W'.cell? ⟨g10, 2, none⟩ = some (.slice l3 o3 e3)) := by
      intro W' hb
      have hbb := below_run hbc hb
      have a0 := R5.out.run hbb
      have a1 := R6.out.run hbb
      have a2 := r9.run hb
      have a3 := r10.run hb
      exact ⟨cell_fact a0 0, cell_fact a0 1, cell_fact a0 2, cell_fact a1 0, cell_fact a1 1, cell_fact a1 2, cell_fact a2 0, cell_fact a2 1, cell_fact a2 2, cell_fact a3 0, cell_fact a3 1, cell_fact a3 2⟩
    have HKX := Lib.hid hkeep
    obtain ⟨m0, m1, m2, m3', m4, m5, m6, m7, m8, m9, m10, m11⟩ := hkeep X (Below.refl _ _)
    have hbd : Below X.heap.size X X.drew := Below.drew (Below.refl _ _)
    have HWX := Lib.hid (HWZ.out.run hbc)
    have HRX := Lib.hid hwr
    have HMX := Lib.hid (HMZ.out.run hbc)
    have HIX := Lib.hid (HIZZ.out.run hbc)
    have HMR := Lib.hid hmr
    have HBX := Lib.hid (below_run HBZ.out hbc)
    have CO2 := Lib.hid (fun V (hb : Below X.heap.size X V) => wof_any d1 g1 l1 n1 c1 n2 c2 n3 c3 y' V (HWX.out.run hb).at (by have := HYL.out; omega))
    have z1 : (E == E) = true := by simp
    clear hkeep hwr hmr hbc r9 r10 HK HWZ HMZ HBZ R5 R6 CO C2H
    go_upto_region 5 with fail
    go_region_held3 (fun w' => w'.cell? ⟨k5, 0, none⟩ = some (.int .u64 pi) ∧ w'.cell? ⟨k5, 1, none⟩ = some (.int .i64 ps) ∧ w'.cell? ⟨k5, 2, none⟩ = some (.int .i64 pt) ∧ w'.cell? ⟨k5 + 1, 0, none⟩ = some (.slice d1 n1 c1) ∧ w'.cell? ⟨k5 + 1, 1, none⟩ = some (.slice g1 n2 c2) ∧ w'.cell? ⟨k5 + 1, 2, none⟩ = some (.slice l1 n3 c3) ∧ w'.cell? ⟨g9, 0, none⟩ = some (.int .u64 pi) ∧ w'.cell? ⟨g9, 1, none⟩ = some (.int .i64 ps) ∧ w'.cell? ⟨g9, 2, none⟩ = some (.int .i64 pt) ∧ w'.cell? ⟨g10, 0, none⟩ = some (.slice d3 o1 e1) ∧ w'.cell? ⟨g10, 1, none⟩ = some (.slice f3 o2 e2) ∧ w'.cell? ⟨g10, 2, none⟩ = some (.slice l3 o3 e3)) (first | go_keep | exact HKX.out _ (by (repeat' (first | (with_reducible exact Below.refl _ _) | (with_reducible assumption) | (with_reducible refine below_run ?_ (by assumption)) | (with_reducible refine below_of_upd ?_ (by assumption) ?_) | (with_reducible refine below_drewN ?_ _) | (with_reducible refine Below.drew ?_) | (with_reducible refine below_seven ?_ ?_) | (with_reducible refine below_six ?_ ?_) | (with_reducible refine below_one ?_ ?_) | (with_reducible refine Below.alloc ?_ ?_ _) | (with_reducible refine below_after ?_ ?_ (by assumption)) | (show _ ≤ _; first | omega | (simp; done) | (simp; omega))))))
      (first
        | (go_at_call 14; refine (CO2.out _ (by (repeat' (first | (with_reducible exact Below.refl _ _) | (with_reducible assumption) | (with_reducible refine below_run ?_ (by assumption)) | (with_reducible refine below_of_upd ?_ (by assumption) ?_) | (with_reducible refine below_drewN ?_ _) | (with_reducible refine Below.drew ?_) | (with_reducible refine below_seven ?_ ?_) | (with_reducible refine below_six ?_ ?_) | (with_reducible refine below_one ?_ ?_) | (with_reducible refine Below.alloc ?_ ?_ _) | (with_reducible refine below_after ?_ ?_ (by assumption)) | (show _ ≤ _; first | omega | (simp; done) | (simp; omega)))))).mono ?_; rintro e u3 ⟨a7, c7, rfl, hv7, hb7⟩; have hY7 : Below X.heap.size X u3 := (by (repeat' (first | (with_reducible exact Below.refl _ _) | (with_reducible assumption) | (with_reducible refine below_run ?_ (by assumption)) | (with_reducible refine below_of_upd ?_ (by assumption) ?_) | (with_reducible refine below_drewN ?_ _) | (with_reducible refine Below.drew ?_) | (with_reducible refine below_seven ?_ ?_) | (with_reducible refine below_six ?_ ?_) | (with_reducible refine below_one ?_ ?_) | (with_reducible refine Below.alloc ?_ ?_ _) | (with_reducible refine below_after ?_ ?_ (by assumption)) | (show _ ≤ _; first | omega | (simp; done) | (simp; omega))))); have hr7 := HRX.out.run hY7; clear hb7)
        | (go_at_call 25; refine (rsame_any _ _ _ _ _ _ _ _ _ _ _ _ _ _ _ _ _ _ y' _ (by first | exact hv7.r | exact hv7.r.drew) (by first | exact hr7 | exact hr7.drew)).mono ?_; rintro e u4 ⟨rfl, hb8⟩; have hY8 : Below X.heap.size X u4 := below_run hY7 (by first | exact hb8 | exact below_undrew hb8); clear hb8))
    all_goals (clear m0 m1 m2 m3' m4 m5 m6 m7 m8 m9 m10 m11 hbd HKX CO2 z1)
    all_goals (
      have hLz : (L.length : Int) ≤ 140737488351232 := by
        rcases HMX.out with ⟨h0, _⟩ | ⟨_, h1, _⟩ <;> omega
      have HY8 := Lib.hid hY8
      clear hY8 hY7 hr7 hv7
      go_wp2_with fail
      go_loopw [15, 89] (fun _ i wr => ∃ k : Nat, k ≤ L.length ∧ i = .int .i64 k ∧ Hid (Below X.heap.size X wr)) (fun _ i _ => L.length - (intOf i).toNat)
      case atStart =>
        have hY8 := HY8.out
        exact ⟨0, Nat.zero_le _, rfl, Lib.hid (by (repeat' (first | (with_reducible exact Below.refl _ _) | (with_reducible assumption) | (with_reducible refine below_run ?_ (by assumption)) | (with_reducible refine below_of_upd ?_ (by assumption) ?_) | (with_reducible refine below_drewN ?_ _) | (with_reducible refine Below.drew ?_) | (with_reducible refine below_seven ?_ ?_) | (with_reducible refine below_six ?_ ?_) | (with_reducible refine below_one ?_ ?_) | (with_reducible refine Below.alloc ?_ ?_ _) | (with_reducible refine below_after ?_ ?_ (by assumption)) | (show _ ≤ _; first | omega | (simp; done) | (simp; omega)))))⟩
      case round =>
        rename World => wr
        obtain ⟨k, hk, rfl, HBr⟩ := hrel
        by_cases hlt2 : k < L.length
        · have hlt3 : (k : Int) < (L.length : Int) := by omega
          have hk0 : (0 : Int) ≤ (k : Int) := by omega
          have q1 : ∃ b off cap, Value.slice ma L.length c4 = .slice (some ⟨b, off, none⟩) L.length cap ∧ ∀ i, i < L.length * 4 → wr.cell? ⟨b, off + i, none⟩ = rslC L i := by
            rcases (HMX.out.run HBr.out : RslsAt wr _ L) with ⟨h0, _⟩ | ⟨h0, h1, b, off, cap, hv, hbl, hcel⟩
            · omega
            · exact ⟨b, off, cap, hv, hcel⟩
          have q2 : ∃ b off cap, Value.slice ad3 L.length e4 = .slice (some ⟨b, off, none⟩) L.length cap ∧ ∀ i, i < L.length * 4 → wr.cell? ⟨b, off + i, none⟩ = rslC L i := by
            rcases (HMR.out.run HBr.out : RslsAt wr _ L) with ⟨h0, _⟩ | ⟨h0, h1, b, off, cap, hv, hbl, hcel⟩
            · omega
            · exact ⟨b, off, cap, hv, hcel⟩
          obtain ⟨b1, o1', p1, hv1, hc1⟩ := q1
          cases hv1
          obtain ⟨b2, o2', p2, hv2, hc2⟩ := q2
          cases hv2
          obtain ⟨d, hd, f0, f1, f2, f3⟩ := rsl_cells hc1 k hlt2
          obtain ⟨d', hd', g0, g1', g2, g3⟩ := rsl_cells hc2 k hlt2
          obtain rfl : d = d' := Option.some.inj (hd.symm.trans hd')
          clear hc1 hc2 hd hd'
          go_wp2_with fail
          go_quiet (fail)
          go_wp2
          go_roundw
          case rel => exact ⟨k + 1, by omega, by go_num, Lib.hid (below_drewN HBr.out _)⟩
          case measure => simp [intOf]; omega
        · obtain rfl : k = L.length := by omega
          have CF1 := Lib.hid (mfailed_any (.slice ia ids.length ic) (.slice ma L.length c4) ids L wr (HIX.out.run HBr.out) (HMX.out.run HBr.out) HIZ.out)
          have CF2 := Lib.hid (fun V (hV : Below wr.heap.size wr V) => rfailed_any (.slice ia ids.length ic) (.slice ad3 L.length e4) ids L V (HIX.out.run (below_run HBr.out hV)) (HMR.out.run (below_run HBr.out hV)) HIZ.out)
          have z1 : (failE ids L == failE ids L) = true := by simp
          go_wp2_with fail
          refine CF1.out.mono ?_
          rintro e w5 ⟨v1, rfl, hv1, hb5⟩
          go_wp2_with fail
          refine (CF2.out _ hb5).mono ?_
          rintro e w6 ⟨v2, rfl, hv2, hb6⟩
          go_wp2_with fail
          refine (equal_sameU v1 v2 _ w6 (hv1.run hb6) hv2).mono ?_
          rintro e w7 ⟨rfl, hb7⟩
          have HB7 := Lib.hid (below_run (below_run (below_run (below_run HBX.out HBr.out) hb5) hb6) hb7)
          clear hb5 hb6 hb7 hv1 hv2
          go_wp2_with fail
          refine (awake49_any _).mono ?_
          rintro e w8 ⟨rfl, hb8⟩
          go_wp2
          go_ret
          exact ⟨rfl, below_run HB7.out hb8⟩)

set_option maxHeartbeats 32000000 in
set_option maxRecDepth 100000 in
theorem law_roundsC (x : Mgr) (da fa la : Option Addr) (dn dc fn fc ln lc : Nat) (y : Wre) (dst kind par : Int) (dat : ByteArray) (w : World) (h : WireAt w (.slice da dn dc) (.slice fa fn fc) (.slice la ln lc) y) (hr : y.devs.length * 56 ≤ 140737488351232) (hn : NilOne (.slice la ln lc)) (hrm : RoomOk (.slice fa fn fc)) (ids : List Int) (ia : Option Addr) (ic : Nat) (hi : IdsAt w (.slice ia ids.length ic) ids) (hiz : ids.length * 8 ≤ 140737488351232) (hg : (12 < ids.length ∧ ids.length ≤ 64) ∨ 1000 < ids.length) :
    Calls Tryz.prog 10 #[.agg #[.int .u64 x.id, .int .i64 x.seq, .int .i64 x.tries, .slice da dn dc, .slice fa fn fc, .slice la ln lc], .slice ia ids.length ic, .agg #[.int .u64 dst, .int .i64 kind, .int .i64 par, .string dat]] w fun e w' => e = .returned (.bool true) ∧ Below w.heap.size w w' := by
  obtain ⟨xi, xs, xt⟩ := x
  show Calls Tryz.prog 10 #[.agg #[.int .u64 xi, .int .i64 xs, .int .i64 xt, .slice da dn dc, .slice fa fn fc, .slice la ln lc], _, _] w _
  obtain ⟨W, hW⟩ : ∃ W, (w.alloc (.cells #[.int .u64 xi, .int .i64 xs, .int .i64 xt, .slice da dn dc, .slice fa fn fc, .slice la ln lc] 31)).alloc (.cells #[.int .u64 dst, .int .i64 kind, .int .i64 par, .string dat] 50) = W := ⟨_, rfl⟩
  have hbW : Below w.heap.size w W := by rw [← hW]; (repeat' (first | (with_reducible exact Below.refl _ _) | (with_reducible assumption) | (with_reducible refine below_run ?_ (by assumption)) | (with_reducible refine below_of_upd ?_ (by assumption) ?_) | (with_reducible refine below_drewN ?_ _) | (with_reducible refine Below.drew ?_) | (with_reducible refine below_seven ?_ ?_) | (with_reducible refine below_six ?_ ?_) | (with_reducible refine below_one ?_ ?_) | (with_reducible refine Below.alloc ?_ ?_ _) | (with_reducible refine below_after ?_ ?_ (by assumption)) | (show _ ≤ _; first | omega | (simp; done) | (simp; omega))))
  have r0 : RowAt W w.heap.size 31 #[.int .u64 xi, .int .i64 xs, .int .i64 xt, .slice da dn dc, .slice fa fn fc, .slice la ln lc] := by rw [← hW]; exact (RowAt.new _ _ _).alloc _
  have r1 : RowAt W (w.heap.size + 1) 50 #[.int .u64 dst, .int .i64 kind, .int .i64 par, .string dat] := by rw [← hW]; exact RowAt.mk (by simp) rfl
  obtain ⟨q, hq⟩ : ∃ q, (fewW y && decide (dat.size ≤ 1000)) = q := ⟨_, rfl⟩
  have CF := Lib.hid (mfew_any q ⟨xi, xs, xt⟩ da fa la dn dc fn fc ln lc y dst kind par dat W (h.run hbW) hr hq)
  have HH := Lib.hid h
  have HR := Lib.hid hr
  have HN := Lib.hid hn
  have HI := Lib.hid hi
  have HRM := Lib.hid hrm
  have HQ := Lib.hid hq
  have R0 := Lib.hid r0
  have R1 := Lib.hid r1
  have HB := Lib.hid hbW
  obtain ⟨x1, x2, x3, x4, x5, x6⟩ := row_facts r0
  obtain ⟨y1, y2, y3, y4, y5, y6⟩ := row_facts r1
  clear h hr hn hrm hq r0 r1 hbW hi
  go_enter Tryz.func10, Tryz.ntmps10
  go_upto_region 1 with fail
  clear hW
  go_wp2_with fail
  refine CF.out.mono ?_
  rintro e w1 ⟨rfl, hb1⟩
  have r0 := R0.out.run hb1
  have r1 := R1.out.run hb1
  have HB1 := Lib.hid (below_run HB.out hb1)
  have R01 := Lib.hid r0
  have R11 := Lib.hid r1
  clear x1 x2 x3 x4 x5 x6 y1 y2 y3 y4 y5 y6 hb1 R0 R1 HB CF
  obtain ⟨x1, x2, x3, x4, x5, x6⟩ := row_facts r0
  obtain ⟨y1, y2, y3, y4, y5, y6⟩ := row_facts r1
  clear r0 r1
  cases q with
  | false =>
    go_wp2_with fail
    refine (awake49_any _).mono ?_
    rintro e w9 ⟨rfl, hb9⟩
    go_wp2
    go_ret
    exact ⟨rfl, below_run HB1.out hb9⟩
  | true =>
  have hq := HQ.out
  simp only [Bool.and_eq_true, decide_eq_true_eq] at hq
  obtain ⟨hfw, hds⟩ := hq
  obtain ⟨f1, f2, -⟩ := few_small hfw
  have HLB := Lib.hid (show ∀ d ∈ y.devs, d.lb.size ≤ 9223372036854775807 from fun d hd => by have := f2 d hd; omega)
  have HDS := Lib.hid (show dat.size ≤ 9223372036854775807 by omega)
  rcases hg with ⟨hg1, hg2⟩ | hg1
  · have j1 : (12 : Int) < (ids.length : Int) := by omega
    have j2 : (ids.length : Int) ≤ 64 := by omega
    clear hfw hds f1 f2 hiz
    go_wp2_with fail
    refine (awake49_any _).mono ?_
    rintro e w9 ⟨rfl, hb9⟩
    go_wp2
    go_ret
    exact ⟨rfl, below_run HB1.out hb9⟩
  · have j1 : (12 : Int) < (ids.length : Int) := by omega
    have j2 : ¬ (ids.length : Int) ≤ 64 := by omega
    have j3 : (1000 : Int) < (ids.length : Int) := by omega
    clear hfw hds f1 f2 hiz
    go_wp2_with fail
    refine (awake49_any _).mono ?_
    rintro e w9 ⟨rfl, hb9⟩
    go_wp2
    go_ret
    exact ⟨rfl, below_run HB1.out hb9⟩

theorem law_rounds (x : Mgr) (da fa la : Option Addr) (dn dc fn fc ln lc : Nat) (y : Wre) (dst kind par : Int) (dat : ByteArray) (w : World) (h : WireAt w (.slice da dn dc) (.slice fa fn fc) (.slice la ln lc) y) (hr : y.devs.length * 56 ≤ 140737488351232) (hn : NilOne (.slice la ln lc)) (hrm : RoomOk (.slice fa fn fc)) (ids : List Int) (ia : Option Addr) (ic : Nat) (hi : IdsAt w (.slice ia ids.length ic) ids) (hiz : ids.length * 8 ≤ 140737488351232) :
    Calls Tryz.prog 10 #[.agg #[.int .u64 x.id, .int .i64 x.seq, .int .i64 x.tries, .slice da dn dc, .slice fa fn fc, .slice la ln lc], .slice ia ids.length ic, .agg #[.int .u64 dst, .int .i64 kind, .int .i64 par, .string dat]] w fun e w' => e = .returned (.bool true) ∧ Below w.heap.size w w' := by
  by_cases h1 : ids.length ≤ 12
  · exact law_roundsA x da fa la dn dc fn fc ln lc y dst kind par dat w h hr hn hrm ids ia ic hi hiz h1
  · by_cases h2 : 64 < ids.length ∧ ids.length ≤ 1000
    · exact law_roundsB x da fa la dn dc fn fc ln lc y dst kind par dat w h hr hn hrm ids ia ic hi hiz h2
    · exact law_roundsC x da fa la dn dc fn fc ln lc y dst kind par dat w h hr hn hrm ids ia ic hi hiz (by omega)
theorem law_roundsV (x : Mgr) (da fa la : Option Addr) (dn dc fn fc ln lc : Nat) (y : Wre) (dst kind par : Int) (dat : ByteArray) (w : World) (h : WireAt w (.slice da dn dc) (.slice fa fn fc) (.slice la ln lc) y) (hr : y.devs.length * 56 ≤ 140737488351232) (hn : NilOne (.slice la ln lc)) (hrm : RoomOk (.slice fa fn fc)) (ids : List Int) (v : Value) (hi : IdsAt w v ids) (hiz : ids.length * 8 ≤ 140737488351232) :
    Calls Tryz.prog 10 #[.agg #[.int .u64 x.id, .int .i64 x.seq, .int .i64 x.tries, .slice da dn dc, .slice fa fn fc, .slice la ln lc], v, .agg #[.int .u64 dst, .int .i64 kind, .int .i64 par, .string dat]] w fun e w' => e = .returned (.bool true) ∧ Below w.heap.size w w' := by
  obtain ⟨ia, ic, rfl⟩ := shape_of hi
  exact law_rounds x da fa la dn dc fn fc ln lc y dst kind par dat w h hr hn hrm ids ia ic hi hiz
end Go.Proofs.YtpjmhhfpjhmiiaaGreat
