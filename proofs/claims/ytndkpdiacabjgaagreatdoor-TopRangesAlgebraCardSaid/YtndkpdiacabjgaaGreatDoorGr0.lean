/-
  The closures of the law TopRangesAlgebra.
-/
import Derived.Test.YtndkpdiacabjgaaGreatDoorGs
import Derived.Test.YtndkpdiacabjgaaGreatDoorGq
namespace Go.Proofs.YtndkpdiacabjgaaGreatDoor
open Go.RowKit

theorem rngs_upd {w w' : World} {pb T : Nat} {v : Value} {l : List (Int × Int)} (h : RngsAt w v l) (hp : RowAt w pb T #[.bool true]) (hu : Upd pb w w') : RngsAt w' v l := by
  rcases h with h | ⟨h0, h1, b, off, cap, rfl, hlt, hc⟩
  · exact .inl h
  · have hne : b ≠ pb := by
      rintro rfl
      have e1 := (rng_cells hc 0 h0).1
      rw [(row_facts hp).1] at e1
      cases off with
      | zero => simp at e1
      | succ n => simp at e1
    refine .inr ⟨h0, h1, b, off, cap, rfl, Nat.lt_of_lt_of_le hlt hu.size, fun j hj => ?_⟩
    rw [← hc j hj]
    exact World.cell?_of_block (hu.block b hlt (by simp [hne]))

/-- The memory of the law: the combining struct, and the lists so far. -/
structure GoodG (kp pb : Nat) (w0 : World) (L : List (Value × List (Int × Int))) (W : World) : Prop where
  kpr : RowAt W kp 43 #[.pointer (some ⟨pb, 0, none⟩)]
  pbr : RowAt W pb 45 #[.bool true]
  base : Below w0.heap.size w0 W
  new : w0.heap.size ≤ pb
  ne : ¬ kp = pb
  all : ∀ x ∈ L, RngsAt W x.1 x.2 ∧ Canon x.2
theorem GoodG.run {kp pb : Nat} {w0 W W' : World} {L : List (Value × List (Int × Int))} (h : GoodG kp pb w0 L W) (hb : Below W.heap.size W W') : GoodG kp pb w0 L W' :=
  ⟨h.kpr.run hb, h.pbr.run hb, below_run h.base hb, h.new, h.ne, fun x hx => ⟨(h.all x hx).1.run hb, (h.all x hx).2⟩⟩
theorem GoodG.step {kp pb : Nat} {w0 W u u2 : World} {L : List (Value × List (Int × Int))} {v : Value} {l : List (Int × Int)} (h : GoodG kp pb w0 L W) (hb : Below W.heap.size W u) (hl : RngsAt u v l) (hc : Canon l) (hu : Upd pb u u2) (hp : RowAt u2 pb 45 #[.bool true]) :
    GoodG kp pb w0 ((v, l) :: L) u2 := by
  have h' := h.run hb
  refine ⟨h'.kpr.upd hu h'.ne, hp, below_of_upd h'.base hu h.new, h.new, h.ne, fun x hx => ?_⟩
  rcases List.mem_cons.1 hx with rfl | hx
  · exact ⟨rngs_upd hl h'.pbr hu, hc⟩
  · exact ⟨rngs_upd (h'.all x hx).1 h'.pbr hu, (h'.all x hx).2⟩
theorem GoodG.alloc {kp pb : Nat} {w0 W : World} {L : List (Value × List (Int × Int))} (h : GoodG kp pb w0 L W) (o : Obj) : GoodG kp pb w0 L (W.alloc o) := h.run ((Below.refl _ _).alloc (Nat.le_refl _) _)

set_option maxHeartbeats 1000000 in
set_option maxRecDepth 100000 in
theorem gof_any (pb : Nat) (a : Option Addr) (n c : Nat) (w : World) (h : RowAt w pb 45 #[.bool true]) :
    Calls Tryz.prog 19 #[.pointer (some ⟨pb, 0, none⟩), .slice a n c, .int .i64 0] w fun e w' => e = .returned (.slice a n c) ∧ RowAt w' pb 45 #[.bool true] ∧ Upd pb w w' := by
  obtain ⟨x1, x2, x3, x4, x5, x6⟩ := row_facts h
  have c0 := x1 0
  have f0 := x2 0
  simp only [List.getElem?_toArray, List.getElem?_cons_zero] at c0
  have H := Lib.hid h
  clear x1 h
  go_enter Tryz.func19, Tryz.ntmps19
  go_wp2
  go_ret
  exact ⟨rfl, RowAt.set H.out rfl, by (repeat' (first | (with_reducible exact upd_refl _ _) | (with_reducible assumption) | (with_reducible refine upd_drewN ?_ _) | (with_reducible refine upd_drew ?_) | (with_reducible refine upd_set ?_ _ _) | (with_reducible refine upd_far ?_ ?_ _) | (with_reducible refine upd_alloc ?_ _) | (with_reducible refine upd_below ?_ (by assumption)) | (with_reducible refine upd_upd ?_ (by assumption)) | (show _ ≤ _; first | omega | (simp; done) | (simp; omega))))⟩

set_option maxHeartbeats 4000000 in
set_option maxRecDepth 100000 in
theorem clo_U (kp pb : Nat) (w0 : World) (L : List (Value × List (Int × Int))) (aa : Option Addr) (ac : Nat) (la : List (Int × Int)) (ba : Option Addr) (bc : Nat) (lb : List (Int × Int)) (w : World) (h : GoodG kp pb w0 L w) (hx : (Value.slice aa la.length ac, la) ∈ L) (hy : (Value.slice ba lb.length bc, lb) ∈ L) :
    Calls Tryz.prog 18 #[.slice aa la.length ac, .slice ba lb.length bc, .pointer (some ⟨kp, 0, none⟩)] w fun e w' =>
      ∃ (a : Option Addr) (c : Nat) (l : List (Int × Int)), e = .returned (.slice a l.length c) ∧ SetOf (fun c => (fun p q : Bool => p || q) (memG la c) (memG lb c)) l ∧ GoodG kp pb w0 ((.slice a l.length c, l) :: L) w' := by
  obtain ⟨f, hf⟩ : ∃ f : Bool → Bool → Bool, (fun p q : Bool => p || q) = f := ⟨_, rfl⟩
  have HU : Hid (∀ W, Below w.heap.size w W → Calls Tryz.prog 14 #[.slice aa la.length ac, .slice ba lb.length bc] W (SetPost (fun c => f (memG la c) (memG lb c)) W)) := Lib.hid (fun W hW => by
    rw [← hf]
    exact gUnion_any la lb _ _ W ((h.all _ hx).1.run hW) ((h.all _ hy).1.run hW) (h.all _ hx).2 (h.all _ hy).2)
  rw [hf]
  have HO := Lib.hid (fun (W : World) a n c (hW : RowAt W pb 45 #[.bool true]) => gof_any pb a n c W hW)
  obtain ⟨x1, x2, x3, x4, x5, x6⟩ := row_facts h.kpr
  have c0 := x1 0
  simp only [List.getElem?_toArray, List.getElem?_cons_zero] at c0
  have hpb := h.pbr
  have hkp := h.kpr
  have hne := h.ne
  have H := Lib.hid h
  clear x1 x2 h hx hy hf
  go_enter Tryz.func18, Tryz.ntmps18
  go_wp2_with fail
  go_region_held3 (fun w' => w'.cell? ⟨kp, 0, none⟩ = some (.pointer (some ⟨pb, 0, none⟩))) (go_keep)
    (first | (go_at_call 14; refine (HU.out _ (by (repeat' (first | (with_reducible exact Below.refl _ _) | (with_reducible assumption) | (with_reducible refine below_run ?_ (by assumption)) | (with_reducible refine below_of_upd ?_ (by assumption) ?_) | (with_reducible refine below_drewN ?_ _) | (with_reducible refine Below.drew ?_) | (with_reducible refine Below.setCell ?_ ?_ _) | (with_reducible refine Below.alloc ?_ ?_ _) | (with_reducible refine below_after ?_ ?_ (by assumption)) | (show _ ≤ _; first | omega | (simp; done) | (simp; omega)))))).mono ?_; rintro e u ⟨a, c, l, rfl, hl, hset, hl9, hbu⟩; have hxu : RowAt u kp 43 #[.pointer (some ⟨pb, 0, none⟩)] := (by (repeat' (first | (with_reducible assumption) | (with_reducible refine RowAt.drewN ?_ _) | (with_reducible refine RowAt.drew ?_) | (with_reducible apply RowAt.six) | (with_reducible apply RowAt.seven) | ((with_reducible refine RowAt.mk ?_ ?_); (focus (first | rfl | (simp; done))); rfl) | (with_reducible refine RowAt.alloc ?_ _) | (with_reducible refine RowAt.far ?_ ?_) | (with_reducible refine RowAt.run ?_ (by assumption)) | (with_reducible refine RowAt.below ?_ (by assumption) ?_) | (with_reducible refine RowAt.upd ?_ (by assumption) ?_) | (show _ < _; first | omega | (simp; done) | (simp; omega)) | (show ¬ _ = _; first | omega | (simp; done) | (simp; omega)) | exact rfl))); have cu := (row_facts hxu).1 0; simp only [List.getElem?_toArray, List.getElem?_cons_zero] at cu) | (go_at_call 19; refine (HO.out _ _ _ _ (by (repeat' (first | (with_reducible assumption) | (with_reducible refine RowAt.drewN ?_ _) | (with_reducible refine RowAt.drew ?_) | (with_reducible apply RowAt.six) | (with_reducible apply RowAt.seven) | ((with_reducible refine RowAt.mk ?_ ?_); (focus (first | rfl | (simp; done))); rfl) | (with_reducible refine RowAt.alloc ?_ _) | (with_reducible refine RowAt.far ?_ ?_) | (with_reducible refine RowAt.run ?_ (by assumption)) | (with_reducible refine RowAt.below ?_ (by assumption) ?_) | (with_reducible refine RowAt.upd ?_ (by assumption) ?_) | (show _ < _; first | omega | (simp; done) | (simp; omega)) | (show ¬ _ = _; first | omega | (simp; done) | (simp; omega)) | exact rfl)))).mono ?_; rintro e u2 ⟨rfl, hp2, hu2⟩; have hxv : RowAt u2 kp 43 #[.pointer (some ⟨pb, 0, none⟩)] := (by (repeat' (first | (with_reducible assumption) | (with_reducible refine RowAt.drewN ?_ _) | (with_reducible refine RowAt.drew ?_) | (with_reducible apply RowAt.six) | (with_reducible apply RowAt.seven) | ((with_reducible refine RowAt.mk ?_ ?_); (focus (first | rfl | (simp; done))); rfl) | (with_reducible refine RowAt.alloc ?_ _) | (with_reducible refine RowAt.far ?_ ?_) | (with_reducible refine RowAt.run ?_ (by assumption)) | (with_reducible refine RowAt.below ?_ (by assumption) ?_) | (with_reducible refine RowAt.upd ?_ (by assumption) ?_) | (show _ < _; first | omega | (simp; done) | (simp; omega)) | (show ¬ _ = _; first | omega | (simp; done) | (simp; omega)) | exact rfl))); have cv := (row_facts hxv).1 0; simp only [List.getElem?_toArray, List.getElem?_cons_zero] at cv) | fail)
  all_goals go_wp2
  all_goals go_ret
  all_goals exact ⟨_, _, _, rfl, hset, GoodG.step H.out (by (repeat' (first | (with_reducible exact Below.refl _ _) | (with_reducible assumption) | (with_reducible refine below_run ?_ (by assumption)) | (with_reducible refine below_of_upd ?_ (by assumption) ?_) | (with_reducible refine below_drewN ?_ _) | (with_reducible refine Below.drew ?_) | (with_reducible refine Below.setCell ?_ ?_ _) | (with_reducible refine Below.alloc ?_ ?_ _) | (with_reducible refine below_after ?_ ?_ (by assumption)) | (show _ ≤ _; first | omega | (simp; done) | (simp; omega))))) hl hset.1 hu2 hp2⟩

set_option maxHeartbeats 4000000 in
set_option maxRecDepth 100000 in
theorem clo_K (kp pb : Nat) (w0 : World) (L : List (Value × List (Int × Int))) (aa : Option Addr) (ac : Nat) (la : List (Int × Int)) (ba : Option Addr) (bc : Nat) (lb : List (Int × Int)) (w : World) (h : GoodG kp pb w0 L w) (hx : (Value.slice aa la.length ac, la) ∈ L) (hy : (Value.slice ba lb.length bc, lb) ∈ L) :
    Calls Tryz.prog 20 #[.slice aa la.length ac, .slice ba lb.length bc, .pointer (some ⟨kp, 0, none⟩)] w fun e w' =>
      ∃ (a : Option Addr) (c : Nat) (l : List (Int × Int)), e = .returned (.slice a l.length c) ∧ SetOf (fun c => (fun p q : Bool => p && q) (memG la c) (memG lb c)) l ∧ GoodG kp pb w0 ((.slice a l.length c, l) :: L) w' := by
  obtain ⟨f, hf⟩ : ∃ f : Bool → Bool → Bool, (fun p q : Bool => p && q) = f := ⟨_, rfl⟩
  have HU : Hid (∀ W, Below w.heap.size w W → Calls Tryz.prog 21 #[.slice aa la.length ac, .slice ba lb.length bc] W (SetPost (fun c => f (memG la c) (memG lb c)) W)) := Lib.hid (fun W hW => by
    rw [← hf]
    exact gCommon_any la lb _ _ W ((h.all _ hx).1.run hW) ((h.all _ hy).1.run hW) (h.all _ hx).2 (h.all _ hy).2)
  rw [hf]
  have HO := Lib.hid (fun (W : World) a n c (hW : RowAt W pb 45 #[.bool true]) => gof_any pb a n c W hW)
  obtain ⟨x1, x2, x3, x4, x5, x6⟩ := row_facts h.kpr
  have c0 := x1 0
  simp only [List.getElem?_toArray, List.getElem?_cons_zero] at c0
  have hpb := h.pbr
  have hkp := h.kpr
  have hne := h.ne
  have H := Lib.hid h
  clear x1 x2 h hx hy hf
  go_enter Tryz.func20, Tryz.ntmps20
  go_wp2_with fail
  go_region_held3 (fun w' => w'.cell? ⟨kp, 0, none⟩ = some (.pointer (some ⟨pb, 0, none⟩))) (go_keep)
    (first | (go_at_call 21; refine (HU.out _ (by (repeat' (first | (with_reducible exact Below.refl _ _) | (with_reducible assumption) | (with_reducible refine below_run ?_ (by assumption)) | (with_reducible refine below_of_upd ?_ (by assumption) ?_) | (with_reducible refine below_drewN ?_ _) | (with_reducible refine Below.drew ?_) | (with_reducible refine Below.setCell ?_ ?_ _) | (with_reducible refine Below.alloc ?_ ?_ _) | (with_reducible refine below_after ?_ ?_ (by assumption)) | (show _ ≤ _; first | omega | (simp; done) | (simp; omega)))))).mono ?_; rintro e u ⟨a, c, l, rfl, hl, hset, hl9, hbu⟩; have hxu : RowAt u kp 43 #[.pointer (some ⟨pb, 0, none⟩)] := (by (repeat' (first | (with_reducible assumption) | (with_reducible refine RowAt.drewN ?_ _) | (with_reducible refine RowAt.drew ?_) | (with_reducible apply RowAt.six) | (with_reducible apply RowAt.seven) | ((with_reducible refine RowAt.mk ?_ ?_); (focus (first | rfl | (simp; done))); rfl) | (with_reducible refine RowAt.alloc ?_ _) | (with_reducible refine RowAt.far ?_ ?_) | (with_reducible refine RowAt.run ?_ (by assumption)) | (with_reducible refine RowAt.below ?_ (by assumption) ?_) | (with_reducible refine RowAt.upd ?_ (by assumption) ?_) | (show _ < _; first | omega | (simp; done) | (simp; omega)) | (show ¬ _ = _; first | omega | (simp; done) | (simp; omega)) | exact rfl))); have cu := (row_facts hxu).1 0; simp only [List.getElem?_toArray, List.getElem?_cons_zero] at cu) | (go_at_call 19; refine (HO.out _ _ _ _ (by (repeat' (first | (with_reducible assumption) | (with_reducible refine RowAt.drewN ?_ _) | (with_reducible refine RowAt.drew ?_) | (with_reducible apply RowAt.six) | (with_reducible apply RowAt.seven) | ((with_reducible refine RowAt.mk ?_ ?_); (focus (first | rfl | (simp; done))); rfl) | (with_reducible refine RowAt.alloc ?_ _) | (with_reducible refine RowAt.far ?_ ?_) | (with_reducible refine RowAt.run ?_ (by assumption)) | (with_reducible refine RowAt.below ?_ (by assumption) ?_) | (with_reducible refine RowAt.upd ?_ (by assumption) ?_) | (show _ < _; first | omega | (simp; done) | (simp; omega)) | (show ¬ _ = _; first | omega | (simp; done) | (simp; omega)) | exact rfl)))).mono ?_; rintro e u2 ⟨rfl, hp2, hu2⟩; have hxv : RowAt u2 kp 43 #[.pointer (some ⟨pb, 0, none⟩)] := (by (repeat' (first | (with_reducible assumption) | (with_reducible refine RowAt.drewN ?_ _) | (with_reducible refine RowAt.drew ?_) | (with_reducible apply RowAt.six) | (with_reducible apply RowAt.seven) | ((with_reducible refine RowAt.mk ?_ ?_); (focus (first | rfl | (simp; done))); rfl) | (with_reducible refine RowAt.alloc ?_ _) | (with_reducible refine RowAt.far ?_ ?_) | (with_reducible refine RowAt.run ?_ (by assumption)) | (with_reducible refine RowAt.below ?_ (by assumption) ?_) | (with_reducible refine RowAt.upd ?_ (by assumption) ?_) | (show _ < _; first | omega | (simp; done) | (simp; omega)) | (show ¬ _ = _; first | omega | (simp; done) | (simp; omega)) | exact rfl))); have cv := (row_facts hxv).1 0; simp only [List.getElem?_toArray, List.getElem?_cons_zero] at cv) | fail)
  all_goals go_wp2
  all_goals go_ret
  all_goals exact ⟨_, _, _, rfl, hset, GoodG.step H.out (by (repeat' (first | (with_reducible exact Below.refl _ _) | (with_reducible assumption) | (with_reducible refine below_run ?_ (by assumption)) | (with_reducible refine below_of_upd ?_ (by assumption) ?_) | (with_reducible refine below_drewN ?_ _) | (with_reducible refine Below.drew ?_) | (with_reducible refine Below.setCell ?_ ?_ _) | (with_reducible refine Below.alloc ?_ ?_ _) | (with_reducible refine below_after ?_ ?_ (by assumption)) | (show _ ≤ _; first | omega | (simp; done) | (simp; omega))))) hl hset.1 hu2 hp2⟩

set_option maxHeartbeats 4000000 in
set_option maxRecDepth 100000 in
theorem clo_N (kp pb : Nat) (w0 : World) (L : List (Value × List (Int × Int))) (aa : Option Addr) (ac : Nat) (la : List (Int × Int)) (ba : Option Addr) (bc : Nat) (lb : List (Int × Int)) (w : World) (h : GoodG kp pb w0 L w) (hx : (Value.slice aa la.length ac, la) ∈ L) (hy : (Value.slice ba lb.length bc, lb) ∈ L) :
    Calls Tryz.prog 22 #[.slice aa la.length ac, .slice ba lb.length bc, .pointer (some ⟨kp, 0, none⟩)] w fun e w' =>
      ∃ (a : Option Addr) (c : Nat) (l : List (Int × Int)), e = .returned (.slice a l.length c) ∧ SetOf (fun c => (fun p q : Bool => p && !q) (memG la c) (memG lb c)) l ∧ GoodG kp pb w0 ((.slice a l.length c, l) :: L) w' := by
  obtain ⟨f, hf⟩ : ∃ f : Bool → Bool → Bool, (fun p q : Bool => p && !q) = f := ⟨_, rfl⟩
  have HU : Hid (∀ W, Below w.heap.size w W → Calls Tryz.prog 17 #[.slice aa la.length ac, .slice ba lb.length bc] W (SetPost (fun c => f (memG la c) (memG lb c)) W)) := Lib.hid (fun W hW => by
    rw [← hf]
    exact gMinus_any la lb _ _ W ((h.all _ hx).1.run hW) ((h.all _ hy).1.run hW) (h.all _ hx).2 (h.all _ hy).2)
  rw [hf]
  have HO := Lib.hid (fun (W : World) a n c (hW : RowAt W pb 45 #[.bool true]) => gof_any pb a n c W hW)
  obtain ⟨x1, x2, x3, x4, x5, x6⟩ := row_facts h.kpr
  have c0 := x1 0
  simp only [List.getElem?_toArray, List.getElem?_cons_zero] at c0
  have hpb := h.pbr
  have hkp := h.kpr
  have hne := h.ne
  have H := Lib.hid h
  clear x1 x2 h hx hy hf
  go_enter Tryz.func22, Tryz.ntmps22
  go_wp2_with fail
  go_region_held3 (fun w' => w'.cell? ⟨kp, 0, none⟩ = some (.pointer (some ⟨pb, 0, none⟩))) (go_keep)
    (first | (go_at_call 17; refine (HU.out _ (by (repeat' (first | (with_reducible exact Below.refl _ _) | (with_reducible assumption) | (with_reducible refine below_run ?_ (by assumption)) | (with_reducible refine below_of_upd ?_ (by assumption) ?_) | (with_reducible refine below_drewN ?_ _) | (with_reducible refine Below.drew ?_) | (with_reducible refine Below.setCell ?_ ?_ _) | (with_reducible refine Below.alloc ?_ ?_ _) | (with_reducible refine below_after ?_ ?_ (by assumption)) | (show _ ≤ _; first | omega | (simp; done) | (simp; omega)))))).mono ?_; rintro e u ⟨a, c, l, rfl, hl, hset, hl9, hbu⟩; have hxu : RowAt u kp 43 #[.pointer (some ⟨pb, 0, none⟩)] := (by (repeat' (first | (with_reducible assumption) | (with_reducible refine RowAt.drewN ?_ _) | (with_reducible refine RowAt.drew ?_) | (with_reducible apply RowAt.six) | (with_reducible apply RowAt.seven) | ((with_reducible refine RowAt.mk ?_ ?_); (focus (first | rfl | (simp; done))); rfl) | (with_reducible refine RowAt.alloc ?_ _) | (with_reducible refine RowAt.far ?_ ?_) | (with_reducible refine RowAt.run ?_ (by assumption)) | (with_reducible refine RowAt.below ?_ (by assumption) ?_) | (with_reducible refine RowAt.upd ?_ (by assumption) ?_) | (show _ < _; first | omega | (simp; done) | (simp; omega)) | (show ¬ _ = _; first | omega | (simp; done) | (simp; omega)) | exact rfl))); have cu := (row_facts hxu).1 0; simp only [List.getElem?_toArray, List.getElem?_cons_zero] at cu) | (go_at_call 19; refine (HO.out _ _ _ _ (by (repeat' (first | (with_reducible assumption) | (with_reducible refine RowAt.drewN ?_ _) | (with_reducible refine RowAt.drew ?_) | (with_reducible apply RowAt.six) | (with_reducible apply RowAt.seven) | ((with_reducible refine RowAt.mk ?_ ?_); (focus (first | rfl | (simp; done))); rfl) | (with_reducible refine RowAt.alloc ?_ _) | (with_reducible refine RowAt.far ?_ ?_) | (with_reducible refine RowAt.run ?_ (by assumption)) | (with_reducible refine RowAt.below ?_ (by assumption) ?_) | (with_reducible refine RowAt.upd ?_ (by assumption) ?_) | (show _ < _; first | omega | (simp; done) | (simp; omega)) | (show ¬ _ = _; first | omega | (simp; done) | (simp; omega)) | exact rfl)))).mono ?_; rintro e u2 ⟨rfl, hp2, hu2⟩; have hxv : RowAt u2 kp 43 #[.pointer (some ⟨pb, 0, none⟩)] := (by (repeat' (first | (with_reducible assumption) | (with_reducible refine RowAt.drewN ?_ _) | (with_reducible refine RowAt.drew ?_) | (with_reducible apply RowAt.six) | (with_reducible apply RowAt.seven) | ((with_reducible refine RowAt.mk ?_ ?_); (focus (first | rfl | (simp; done))); rfl) | (with_reducible refine RowAt.alloc ?_ _) | (with_reducible refine RowAt.far ?_ ?_) | (with_reducible refine RowAt.run ?_ (by assumption)) | (with_reducible refine RowAt.below ?_ (by assumption) ?_) | (with_reducible refine RowAt.upd ?_ (by assumption) ?_) | (show _ < _; first | omega | (simp; done) | (simp; omega)) | (show ¬ _ = _; first | omega | (simp; done) | (simp; omega)) | exact rfl))); have cv := (row_facts hxv).1 0; simp only [List.getElem?_toArray, List.getElem?_cons_zero] at cv) | fail)
  all_goals go_wp2
  all_goals go_ret
  all_goals exact ⟨_, _, _, rfl, hset, GoodG.step H.out (by (repeat' (first | (with_reducible exact Below.refl _ _) | (with_reducible assumption) | (with_reducible refine below_run ?_ (by assumption)) | (with_reducible refine below_of_upd ?_ (by assumption) ?_) | (with_reducible refine below_drewN ?_ _) | (with_reducible refine Below.drew ?_) | (with_reducible refine Below.setCell ?_ ?_ _) | (with_reducible refine Below.alloc ?_ ?_ _) | (with_reducible refine below_after ?_ ?_ (by assumption)) | (show _ ≤ _; first | omega | (simp; done) | (simp; omega))))) hl hset.1 hu2 hp2⟩

end Go.Proofs.YtndkpdiacabjgaaGreatDoor
