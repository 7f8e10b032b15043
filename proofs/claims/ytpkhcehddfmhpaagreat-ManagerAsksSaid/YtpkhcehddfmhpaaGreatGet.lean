/-
  The contract of the table of settings, and of what is found there.
  The contracts of what a device tells of itself.
-/
import Derived.Test.YtpkhcehddfmhpaaGreatDchk
import Derived.Test.YtpkhcehddfmhpaaGreatIds
import Derived.Test.YtpkhcehddfmhpaaGreatMsg
import Derived.Laws.EntriesVeiled
import Derived.Deep.WholeRow
import Derived.Deep.RegionHeld3
import Derived.Deep.DrawnRows
namespace Go.Proofs.YtpkhcehddfmhpaaGreat
open Go.RowKit

/-- A function as a value. -/
@[go_sem] def fv (f : FuncId) : Value := .func (.func f) #[] #[]

/-- The rows of the table. -/
def rowsT : List (Int × Value × Int × Value) :=
  [(80, fv 191, 0, .nilFunc), (96, fv 192, 0, .nilFunc), (130, fv 193, -1, fv 194), (240, fv 195, 2, fv 196),
   (1024, fv 197, 0, .nilFunc), (4096, fv 198, 1, fv 200), (4097, .nilFunc, 1, fv 201)]

@[go_sem] def rowA (r : Int × Value × Int × Value) : Array Value := #[.int .i64 r.1, r.2.1, .int .i64 r.2.2.1, r.2.2.2]

/-- The table. -/
def tabT : Array Value := ((rowsT.map fun r => (rowA r).toList).flatten).toArray

/-- The setting with a number, and whether there is one. -/
def findT (p : Int) : Array Value × Bool :=
  if p = 80 then (rowA (80, fv 191, 0, .nilFunc), true) else if p = 96 then (rowA (96, fv 192, 0, .nilFunc), true)
  else if p = 130 then (rowA (130, fv 193, -1, fv 194), true) else if p = 240 then (rowA (240, fv 195, 2, fv 196), true)
  else if p = 1024 then (rowA (1024, fv 197, 0, .nilFunc), true) else if p = 4096 then (rowA (4096, fv 198, 1, fv 200), true)
  else if p = 4097 then (rowA (4097, .nilFunc, 1, fv 201), true) else (rowA (0, .nilFunc, 0, .nilFunc), false)

theorem Tryz.size_tab : (Tryz.prog.info? 272).map (·.size) = some tabT.size := by kernel_rfl
theorem tabT_cells : tabT.all (·.oneCell') = true := by kernel_rfl

set_option maxHeartbeats 1000000 in
set_option maxRecDepth 100000 in
theorem settings_any (w : World) : Calls Tryz.prog 190 #[] w fun e w' => e = .returned (.agg tabT) ∧ Below w.heap.size w w' := by
  have hi := Tryz.size_tab
  have h1 := tabT_cells
  go_enter Tryz.func190, Tryz.ntmps190
  iterate 35 go_step
  refine wpList_store_row rfl 272 (.tmp 0) (.tmp 8) rfl w.heap.size tabT rfl rfl 272 _ (heap_alloc_new w _) hi rfl h1 ?_
  rw [World.setRow_alloc_new]
  go_wp2
  refine bodyPost_ret (v := .agg tabT) (results_cell_row rfl _ _ w.heap.size 272 tabT (0, 0) _ rfl ?_ Tryz.underlying272 rfl hi) rfl ⟨rfl, ?_⟩
  · exact heap_alloc_new w _
  · (repeat' (first | (with_reducible exact Below.refl _ _) | (with_reducible assumption) | (with_reducible refine below_drewN ?_ _) | (with_reducible refine Below.drew ?_) | (with_reducible refine Below.setCell ?_ ?_ _) | (with_reducible refine Below.alloc ?_ ?_ _) | (with_reducible refine below_after ?_ ?_ (by assumption)) | (show _ ≤ _; first | omega | (simp; done) | (simp; omega))))

/-- The numbers of the settings. -/
def parT (k : Nat) : Int := if k = 0 then 80 else if k = 1 then 96 else if k = 2 then 130 else if k = 3 then 240 else if k = 4 then 1024 else if k = 5 then 4096 else 4097

theorem find_none (p : Int) (h : ∀ j, j < 7 → parT j ≠ p) : findT p = (rowA (0, .nilFunc, 0, .nilFunc), false) := by
  have h0 := h 0 (by omega); have h1 := h 1 (by omega); have h2 := h 2 (by omega); have h3 := h 3 (by omega); have h4 := h 4 (by omega); have h5 := h 5 (by omega); have h6 := h 6 (by omega)
  simp only [parT] at h0 h1 h2 h3 h4 h5 h6
  unfold findT
  rw [if_neg (fun e => h0 e.symm), if_neg (fun e => h1 e.symm), if_neg (fun e => h2 e.symm), if_neg (fun e => h3 e.symm), if_neg (fun e => h4 e.symm), if_neg (fun e => h5 e.symm), if_neg (fun e => h6 e.symm)]

theorem idx_0 (w : World) : (Instr.index 272 (.agg tabT) (.int .i64 0)).run Tryz.prog w = .ok (.agg #[.int .i64 80, .func (.func 191) #[] #[], .int .i64 (0), .nilFunc]) w := by kernel_rfl
theorem idx_1 (w : World) : (Instr.index 272 (.agg tabT) (.int .i64 1)).run Tryz.prog w = .ok (.agg #[.int .i64 96, .func (.func 192) #[] #[], .int .i64 (0), .nilFunc]) w := by kernel_rfl
theorem idx_2 (w : World) : (Instr.index 272 (.agg tabT) (.int .i64 2)).run Tryz.prog w = .ok (.agg #[.int .i64 130, .func (.func 193) #[] #[], .int .i64 (-1), .func (.func 194) #[] #[]]) w := by kernel_rfl
theorem idx_3 (w : World) : (Instr.index 272 (.agg tabT) (.int .i64 3)).run Tryz.prog w = .ok (.agg #[.int .i64 240, .func (.func 195) #[] #[], .int .i64 (2), .func (.func 196) #[] #[]]) w := by kernel_rfl
theorem idx_4 (w : World) : (Instr.index 272 (.agg tabT) (.int .i64 4)).run Tryz.prog w = .ok (.agg #[.int .i64 1024, .func (.func 197) #[] #[], .int .i64 (0), .nilFunc]) w := by kernel_rfl
theorem idx_5 (w : World) : (Instr.index 272 (.agg tabT) (.int .i64 5)).run Tryz.prog w = .ok (.agg #[.int .i64 4096, .func (.func 198) #[] #[], .int .i64 (1), .func (.func 200) #[] #[]]) w := by kernel_rfl
theorem idx_6 (w : World) : (Instr.index 272 (.agg tabT) (.int .i64 6)).run Tryz.prog w = .ok (.agg #[.int .i64 4097, .nilFunc, .int .i64 (1), .func (.func 201) #[] #[]]) w := by kernel_rfl

theorem no_more {p : Int} {k : Nat} (h : ∀ j, j < k → parT j ≠ p) (hk : parT k ≠ p) : ∀ j, j < k + 1 → parT j ≠ p := by
  intro j hj
  by_cases e : j = k
  · subst e; exact hk
  · exact h j (by omega)

set_option maxHeartbeats 1000000 in
set_option maxRecDepth 100000 in
theorem find_any (p : Int) (w : World) : Calls Tryz.prog 179 #[.int .i64 p] w fun e w' => e = .returned (.tuple #[.agg (findT p).1, .bool (findT p).2]) ∧ Below w.heap.size w w' := by
  go_enter Tryz.func179, Tryz.ntmps179
  go_wp2_with (go_at_call 190; refine (settings_any _).mono ?_; rintro e w1 ⟨rfl, hb⟩; obtain ⟨hc, hf, hT1, hT2, hT3, hT4, hz⟩ := bfacts (n := w.heap.size + 1) hb (by first | (simp; done) | (simp; omega) | omega))
  have hB : Below (w.heap.size + 1) (w.alloc (.cells (rowA (0, .nilFunc, 0, .nilFunc)) 258)) w1 := by
    refine hb.mono ?_
    simp
  clear hb hc hf hT1 hT2 hT3 hT4
  go_loopw [7] (fun i wr => ∃ k : Nat, k ≤ 7 ∧ i = .int .i64 k ∧ (∀ j, j < k → parT j ≠ p) ∧ Below (w.heap.size + 1) (w.alloc (.cells (rowA (0, .nilFunc, 0, .nilFunc)) 258)) wr) (fun i _ => 7 - (intOf i).toNat)
  case atStart => exact ⟨0, by omega, rfl, fun j hj => by omega, hB⟩
  case round =>
    obtain ⟨k, hk, rfl, hno, hb⟩ := hrel
    have HN := Lib.hid hno
    clear hno hB
    have hcase : k = 0 ∨ k = 1 ∨ k = 2 ∨ k = 3 ∨ k = 4 ∨ k = 5 ∨ k = 6 ∨ k = 7 := by omega
    obtain ⟨hc, hf, hT1, hT2, hT3, hT4, hz⟩ := bfactsB (n := w.heap.size + 1) hb (by first | (simp; done) | (simp; omega) | omega) (by first | (simp; done) | (simp; omega) | omega)
    rcases hcase with h | h | h | h | h | h | h | h
    · have hi : ∀ w, (Instr.index 272 (.agg tabT) (.int .i64 (k : Int))).run Tryz.prog w = .ok (.agg #[.int .i64 80, .func (.func 191) #[] #[], .int .i64 (0), .nilFunc]) w := fun w => by rw [h]; exact idx_0 w
      have hlt : (k : Int) < 7 := by omega
      have HK := Lib.hid h
      clear h
      obtain ⟨b, hbq⟩ : ∃ b, ((80 : Int) == p) = b := ⟨_, rfl⟩
      cases b
      · go_wp2
        go_roundw
        case rel => exact ⟨k + 1, by omega, by go_num, no_more HN.out (by rw [HK.out]; exact ne_of_beq hbq), by (repeat' (first | (with_reducible exact Below.refl _ _) | (with_reducible assumption) | (with_reducible refine below_drewN ?_ _) | (with_reducible refine Below.drew ?_) | (with_reducible refine Below.setCell ?_ ?_ _) | (with_reducible refine Below.alloc ?_ ?_ _) | (with_reducible refine below_after ?_ ?_ (by assumption)) | (show _ ≤ _; first | omega | (simp; done) | (simp; omega))))⟩
        case measure => simp [intOf]; omega
      · obtain rfl : p = 80 := (eq_of_beq hbq).symm
        go_wp2
        refine bodyPost_ret (v := .tuple #[.agg (findT 80).1, .bool true]) ?_ rfl ⟨rfl, ?_⟩
        · simp [results, Tryz.results179, go_sem, findT, rowA, *]
        · (repeat' (first | (with_reducible exact Below.refl _ _) | (with_reducible assumption) | (with_reducible refine below_drewN ?_ _) | (with_reducible refine Below.drew ?_) | (with_reducible refine Below.setCell ?_ ?_ _) | (with_reducible refine Below.alloc ?_ ?_ _) | (with_reducible refine below_after ?_ ?_ (by assumption)) | (show _ ≤ _; first | omega | (simp; done) | (simp; omega))))
    · have hi : ∀ w, (Instr.index 272 (.agg tabT) (.int .i64 (k : Int))).run Tryz.prog w = .ok (.agg #[.int .i64 96, .func (.func 192) #[] #[], .int .i64 (0), .nilFunc]) w := fun w => by rw [h]; exact idx_1 w
      have hlt : (k : Int) < 7 := by omega
      have HK := Lib.hid h
      clear h
      obtain ⟨b, hbq⟩ : ∃ b, ((96 : Int) == p) = b := ⟨_, rfl⟩
      cases b
      · go_wp2
        go_roundw
        case rel => exact ⟨k + 1, by omega, by go_num, no_more HN.out (by rw [HK.out]; exact ne_of_beq hbq), by (repeat' (first | (with_reducible exact Below.refl _ _) | (with_reducible assumption) | (with_reducible refine below_drewN ?_ _) | (with_reducible refine Below.drew ?_) | (with_reducible refine Below.setCell ?_ ?_ _) | (with_reducible refine Below.alloc ?_ ?_ _) | (with_reducible refine below_after ?_ ?_ (by assumption)) | (show _ ≤ _; first | omega | (simp; done) | (simp; omega))))⟩
        case measure => simp [intOf]; omega
      · obtain rfl : p = 96 := (eq_of_beq hbq).symm
        go_wp2
        refine bodyPost_ret (v := .tuple #[.agg (findT 96).1, .bool true]) ?_ rfl ⟨rfl, ?_⟩
        · simp [results, Tryz.results179, go_sem, findT, rowA, *]
        · (repeat' (first | (with_reducible exact Below.refl _ _) | (with_reducible assumption) | (with_reducible refine below_drewN ?_ _) | (with_reducible refine Below.drew ?_) | (with_reducible refine Below.setCell ?_ ?_ _) | (with_reducible refine Below.alloc ?_ ?_ _) | (with_reducible refine below_after ?_ ?_ (by assumption)) | (show _ ≤ _; first | omega | (simp; done) | (simp; omega))))
    · have hi : ∀ w, (Instr.index 272 (.agg tabT) (.int .i64 (k : Int))).run Tryz.prog w = .ok (.agg #[.int .i64 130, .func (.func 193) #[] #[], .int .i64 (-1), .func (.func 194) #[] #[]]) w := fun w => by rw [h]; exact idx_2 w
      have hlt : (k : Int) < 7 := by omega
      have HK := Lib.hid h
      clear h
      obtain ⟨b, hbq⟩ : ∃ b, ((130 : Int) == p) = b := ⟨_, rfl⟩
      cases b
      · go_wp2
        go_roundw
        case rel => exact ⟨k + 1, by omega, by go_num, no_more HN.out (by rw [HK.out]; exact ne_of_beq hbq), by (repeat' (first | (with_reducible exact Below.refl _ _) | (with_reducible assumption) | (with_reducible refine below_drewN ?_ _) | (with_reducible refine Below.drew ?_) | (with_reducible refine Below.setCell ?_ ?_ _) | (with_reducible refine Below.alloc ?_ ?_ _) | (with_reducible refine below_after ?_ ?_ (by assumption)) | (show _ ≤ _; first | omega | (simp; done) | (simp; omega))))⟩
        case measure => simp [intOf]; omega
      · obtain rfl : p = 130 := (eq_of_beq hbq).symm
        go_wp2
        refine bodyPost_ret (v := .tuple #[.agg (findT 130).1, .bool true]) ?_ rfl ⟨rfl, ?_⟩
        · simp [results, Tryz.results179, go_sem, findT, rowA, *]
        · (repeat' (first | (with_reducible exact Below.refl _ _) | (with_reducible assumption) | (with_reducible refine below_drewN ?_ _) | (with_reducible refine Below.drew ?_) | (with_reducible refine Below.setCell ?_ ?_ _) | (with_reducible refine Below.alloc ?_ ?_ _) | (with_reducible refine below_after ?_ ?_ (by assumption)) | (show _ ≤ _; first | omega | (simp; done) | (simp; omega))))
    · have hi : ∀ w, (Instr.index 272 (.agg tabT) (.int .i64 (k : Int))).run Tryz.prog w = .ok (.agg #[.int .i64 240, .func (.func 195) #[] #[], .int .i64 (2), .func (.func 196) #[] #[]]) w := fun w => by rw [h]; exact idx_3 w
      have hlt : (k : Int) < 7 := by omega
      have HK := Lib.hid h
      clear h
      obtain ⟨b, hbq⟩ : ∃ b, ((240 : Int) == p) = b := ⟨_, rfl⟩
      cases b
      · go_wp2
        go_roundw
        case rel => exact ⟨k + 1, by omega, by go_num, no_more HN.out (by rw [HK.out]; exact ne_of_beq hbq), by (repeat' (first | (with_reducible exact Below.refl _ _) | (with_reducible assumption) | (with_reducible refine below_drewN ?_ _) | (with_reducible refine Below.drew ?_) | (with_reducible refine Below.setCell ?_ ?_ _) | (with_reducible refine Below.alloc ?_ ?_ _) | (with_reducible refine below_after ?_ ?_ (by assumption)) | (show _ ≤ _; first | omega | (simp; done) | (simp; omega))))⟩
        case measure => simp [intOf]; omega
      · obtain rfl : p = 240 := (eq_of_beq hbq).symm
        go_wp2
        refine bodyPost_ret (v := .tuple #[.agg (findT 240).1, .bool true]) ?_ rfl ⟨rfl, ?_⟩
        · simp [results, Tryz.results179, go_sem, findT, rowA, *]
        · (repeat' (first | (with_reducible exact Below.refl _ _) | (with_reducible assumption) | (with_reducible refine below_drewN ?_ _) | (with_reducible refine Below.drew ?_) | (with_reducible refine Below.setCell ?_ ?_ _) | (with_reducible refine Below.alloc ?_ ?_ _) | (with_reducible refine below_after ?_ ?_ (by assumption)) | (show _ ≤ _; first | omega | (simp; done) | (simp; omega))))
    · have hi : ∀ w, (Instr.index 272 (.agg tabT) (.int .i64 (k : Int))).run Tryz.prog w = .ok (.agg #[.int .i64 1024, .func (.func 197) #[] #[], .int .i64 (0), .nilFunc]) w := fun w => by rw [h]; exact idx_4 w
      have hlt : (k : Int) < 7 := by omega
      have HK := Lib.hid h
      clear h
      obtain ⟨b, hbq⟩ : ∃ b, ((1024 : Int) == p) = b := ⟨_, rfl⟩
      cases b
      · go_wp2
        go_roundw
        case rel => exact ⟨k + 1, by omega, by go_num, no_more HN.out (by rw [HK.out]; exact ne_of_beq hbq), by (repeat' (first | (with_reducible exact Below.refl _ _) | (with_reducible assumption) | (with_reducible refine below_drewN ?_ _) | (with_reducible refine Below.drew ?_) | (with_reducible refine Below.setCell ?_ ?_ _) | (with_reducible refine Below.alloc ?_ ?_ _) | (with_reducible refine below_after ?_ ?_ (by assumption)) | (show _ ≤ _; first | omega | (simp; done) | (simp; omega))))⟩
        case measure => simp [intOf]; omega
      · obtain rfl : p = 1024 := (eq_of_beq hbq).symm
        go_wp2
        refine bodyPost_ret (v := .tuple #[.agg (findT 1024).1, .bool true]) ?_ rfl ⟨rfl, ?_⟩
        · simp [results, Tryz.results179, go_sem, findT, rowA, *]
        · (repeat' (first | (with_reducible exact Below.refl _ _) | (with_reducible assumption) | (with_reducible refine below_drewN ?_ _) | (with_reducible refine Below.drew ?_) | (with_reducible refine Below.setCell ?_ ?_ _) | (with_reducible refine Below.alloc ?_ ?_ _) | (with_reducible refine below_after ?_ ?_ (by assumption)) | (show _ ≤ _; first | omega | (simp; done) | (simp; omega))))
    · have hi : ∀ w, (Instr.index 272 (.agg tabT) (.int .i64 (k : Int))).run Tryz.prog w = .ok (.agg #[.int .i64 4096, .func (.func 198) #[] #[], .int .i64 (1), .func (.func 200) #[] #[]]) w := fun w => by rw [h]; exact idx_5 w
      have hlt : (k : Int) < 7 := by omega
      have HK := Lib.hid h
      clear h
      obtain ⟨b, hbq⟩ : ∃ b, ((4096 : Int) == p) = b := ⟨_, rfl⟩
      cases b
      · go_wp2
        go_roundw
        case rel => exact ⟨k + 1, by omega, by go_num, no_more HN.out (by rw [HK.out]; exact ne_of_beq hbq), by (repeat' (first | (with_reducible exact Below.refl _ _) | (with_reducible assumption) | (with_reducible refine below_drewN ?_ _) | (with_reducible refine Below.drew ?_) | (with_reducible refine Below.setCell ?_ ?_ _) | (with_reducible refine Below.alloc ?_ ?_ _) | (with_reducible refine below_after ?_ ?_ (by assumption)) | (show _ ≤ _; first | omega | (simp; done) | (simp; omega))))⟩
        case measure => simp [intOf]; omega
      · obtain rfl : p = 4096 := (eq_of_beq hbq).symm
        go_wp2
        refine bodyPost_ret (v := .tuple #[.agg (findT 4096).1, .bool true]) ?_ rfl ⟨rfl, ?_⟩
        · simp [results, Tryz.results179, go_sem, findT, rowA, *]
        · (repeat' (first | (with_reducible exact Below.refl _ _) | (with_reducible assumption) | (with_reducible refine below_drewN ?_ _) | (with_reducible refine Below.drew ?_) | (with_reducible refine Below.setCell ?_ ?_ _) | (with_reducible refine Below.alloc ?_ ?_ _) | (with_reducible refine below_after ?_ ?_ (by assumption)) | (show _ ≤ _; first | omega | (simp; done) | (simp; omega))))
    · have hi : ∀ w, (Instr.index 272 (.agg tabT) (.int .i64 (k : Int))).run Tryz.prog w = .ok (.agg #[.int .i64 4097, .nilFunc, .int .i64 (1), .func (.func 201) #[] #[]]) w := fun w => by rw [h]; exact idx_6 w
      have hlt : (k : Int) < 7 := by omega
      have HK := Lib.hid h
      clear h
      obtain ⟨b, hbq⟩ : ∃ b, ((4097 : Int) == p) = b := ⟨_, rfl⟩
      cases b
      · go_wp2
        go_roundw
        case rel => exact ⟨k + 1, by omega, by go_num, no_more HN.out (by rw [HK.out]; exact ne_of_beq hbq), by (repeat' (first | (with_reducible exact Below.refl _ _) | (with_reducible assumption) | (with_reducible refine below_drewN ?_ _) | (with_reducible refine Below.drew ?_) | (with_reducible refine Below.setCell ?_ ?_ _) | (with_reducible refine Below.alloc ?_ ?_ _) | (with_reducible refine below_after ?_ ?_ (by assumption)) | (show _ ≤ _; first | omega | (simp; done) | (simp; omega))))⟩
        case measure => simp [intOf]; omega
      · obtain rfl : p = 4097 := (eq_of_beq hbq).symm
        go_wp2
        refine bodyPost_ret (v := .tuple #[.agg (findT 4097).1, .bool true]) ?_ rfl ⟨rfl, ?_⟩
        · simp [results, Tryz.results179, go_sem, findT, rowA, *]
        · (repeat' (first | (with_reducible exact Below.refl _ _) | (with_reducible assumption) | (with_reducible refine below_drewN ?_ _) | (with_reducible refine Below.drew ?_) | (with_reducible refine Below.setCell ?_ ?_ _) | (with_reducible refine Below.alloc ?_ ?_ _) | (with_reducible refine below_after ?_ ?_ (by assumption)) | (show _ ≤ _; first | omega | (simp; done) | (simp; omega))))
    · have hn := find_none p (by rw [← h]; exact HN.out)
      have hge : (7 : Int) ≤ (k : Int) := by omega
      clear h
      have HF := Lib.hid hn
      clear hn
      go_wp2
      refine bodyPost_ret (v := .tuple #[.agg (rowA (0, .nilFunc, 0, .nilFunc)), .bool false]) ?_ rfl ⟨by rw [HF.out], ?_⟩
      · simp [results, Tryz.results179, go_sem, rowA, *]
      · (repeat' (first | (with_reducible exact Below.refl _ _) | (with_reducible assumption) | (with_reducible refine below_drewN ?_ _) | (with_reducible refine Below.drew ?_) | (with_reducible refine Below.setCell ?_ ?_ _) | (with_reducible refine Below.alloc ?_ ?_ _) | (with_reducible refine below_after ?_ ?_ (by assumption)) | (show _ ≤ _; first | omega | (simp; done) | (simp; omega))))

end Go.Proofs.YtpkhcehddfmhpaaGreat

namespace Go.Proofs.YtpkhcehddfmhpaaGreat
open Go.RowKit

/-- The cells of a device. -/
@[go_sem] def devA (d : Dev) : Array Value := #[.int .u64 d.id, .int .i64 d.ft, .int .i64 d.ad, .string d.lb, .int .i64 d.hr, .bool d.mu, .bool d.idf]

/-- A block is a device. -/
def DevAt (w : World) (b : Nat) (d : Dev) : Prop := w.heap[b]? = some (.cells (devA d) 91 (0, 0))

theorem dev_facts {w : World} {b : Nat} {d : Dev} (h : DevAt w b d) :
    w.cell? ⟨b, 0, none⟩ = some (.int .u64 d.id) ∧ w.cell? ⟨b, 1, none⟩ = some (.int .i64 d.ft) ∧ w.cell? ⟨b, 2, none⟩ = some (.int .i64 d.ad) ∧ w.cell? ⟨b, 3, none⟩ = some (.string d.lb) ∧
    w.cell? ⟨b, 4, none⟩ = some (.int .i64 d.hr) ∧ w.cell? ⟨b, 5, none⟩ = some (.bool d.mu) ∧ w.cell? ⟨b, 6, none⟩ = some (.bool d.idf) ∧ (∀ o, w.frozen? ⟨b, o, none⟩ = false) ∧
    b < w.heap.size ∧ b ≤ w.heap.size ∧ b < w.heap.size + 1 ∧ ¬ b = w.heap.size ∧ ¬ w.heap.size = b := by
  have hlt := lt_of_block h
  refine ⟨?_, ?_, ?_, ?_, ?_, ?_, ?_, fun o => frozen_of_row w b o _ _ h, hlt, by omega, by omega, by omega, by omega⟩ <;> (rw [cell_of_row w b _ _ _ _ h]; rfl)

theorem DevAt.below {w w' : World} {b B : Nat} {d : Dev} (h : DevAt w b d) (hb : Below B w w') (hB : b < B) : DevAt w' b d := (hb.block b hB).trans h
theorem DevAt.set {w : World} {b : Nat} {d d' : Dev} {i : Nat} {u : Value} (h : DevAt w b d) (he : (devA d).setIfInBounds i u = devA d') : DevAt (w.setCell ⟨b, i, none⟩ u) b d' := by
  unfold DevAt at *
  rw [heap_setCell_same w b i _ _ u h, he]
theorem DevAt.far {w : World} {b : Nat} {d : Dev} {p : Addr} {u : Value} (h : DevAt w b d) (hne : b ≠ p.block) : DevAt (w.setCell p u) b d := (heap_setCell_other w p b u hne).trans h
theorem DevAt.alloc {w : World} {b : Nat} {d : Dev} (h : DevAt w b d) (o : Obj) : DevAt (w.alloc o) b d := (Below.heap_alloc w o b (lt_of_block h)).trans h
theorem DevAt.new (w : World) (d : Dev) : DevAt (w.alloc (.cells (devA d) 91)) w.heap.size d := heap_alloc_new w _

/-- The numbers of all settings but the list. -/
def listB : ByteArray := str [0, 96, 0, 130, 0, 240, 4, 0, 16, 0, 16, 1]

def parL (k : Nat) : Int := if k = 0 then 96 else if k = 1 then 130 else if k = 2 then 240 else if k = 3 then 1024 else if k = 4 then 4096 else 4097

def listTo (k : Nat) : ByteArray := str (listB.data.toList.take (2 * k))

theorem listTo_succ (k : Nat) (hk : k < 6) : listTo k ++ bytesB (parL k) 2 = listTo (k + 1) := by
  have : k = 0 ∨ k = 1 ∨ k = 2 ∨ k = 3 ∨ k = 4 ∨ k = 5 := by omega
  rcases this with rfl | rfl | rfl | rfl | rfl | rfl <;> decide

theorem listTo_size (k : Nat) : (listTo k).size ≤ 12 := by
  rw [listTo, str_size]
  exact Nat.le_trans (List.length_take_le' _ _) (by decide)

theorem idx_list0 (w : World) : (Instr.index 275 (.agg #[.int .i64 96, .int .i64 130, .int .i64 240, .int .i64 1024, .int .i64 4096, .int .i64 4097]) (.int .i64 ((0 : Nat) : Int))).run Tryz.prog w = .ok (.int .i64 (parL 0)) w := by kernel_rfl
theorem idx_list1 (w : World) : (Instr.index 275 (.agg #[.int .i64 96, .int .i64 130, .int .i64 240, .int .i64 1024, .int .i64 4096, .int .i64 4097]) (.int .i64 ((1 : Nat) : Int))).run Tryz.prog w = .ok (.int .i64 (parL 1)) w := by kernel_rfl
theorem idx_list2 (w : World) : (Instr.index 275 (.agg #[.int .i64 96, .int .i64 130, .int .i64 240, .int .i64 1024, .int .i64 4096, .int .i64 4097]) (.int .i64 ((2 : Nat) : Int))).run Tryz.prog w = .ok (.int .i64 (parL 2)) w := by kernel_rfl
theorem idx_list3 (w : World) : (Instr.index 275 (.agg #[.int .i64 96, .int .i64 130, .int .i64 240, .int .i64 1024, .int .i64 4096, .int .i64 4097]) (.int .i64 ((3 : Nat) : Int))).run Tryz.prog w = .ok (.int .i64 (parL 3)) w := by kernel_rfl
theorem idx_list4 (w : World) : (Instr.index 275 (.agg #[.int .i64 96, .int .i64 130, .int .i64 240, .int .i64 1024, .int .i64 4096, .int .i64 4097]) (.int .i64 ((4 : Nat) : Int))).run Tryz.prog w = .ok (.int .i64 (parL 4)) w := by kernel_rfl
theorem idx_list5 (w : World) : (Instr.index 275 (.agg #[.int .i64 96, .int .i64 130, .int .i64 240, .int .i64 1024, .int .i64 4096, .int .i64 4097]) (.int .i64 ((5 : Nat) : Int))).run Tryz.prog w = .ok (.int .i64 (parL 5)) w := by kernel_rfl
theorem idx_list (k : Nat) (hk : k < 6) (w : World) : (Instr.index 275 (.agg #[.int .i64 96, .int .i64 130, .int .i64 240, .int .i64 1024, .int .i64 4096, .int .i64 4097]) (.int .i64 (k : Int))).run Tryz.prog w = .ok (.int .i64 (parL k)) w := by
  have : k = 0 ∨ k = 1 ∨ k = 2 ∨ k = 3 ∨ k = 4 ∨ k = 5 := by omega
  rcases this with h | h | h | h | h | h
  · subst h; exact idx_list0 w
  · subst h; exact idx_list1 w
  · subst h; exact idx_list2 w
  · subst h; exact idx_list3 w
  · subst h; exact idx_list4 w
  · subst h; exact idx_list5 w

theorem parL_le (k : Nat) : 0 ≤ parL k ∧ parL k ≤ 5000 := by
  unfold parL
  repeat' split
  all_goals omega

set_option maxHeartbeats 1000000 in
set_option maxRecDepth 100000 in
theorem list_any (v : Value) (w : World) : Calls Tryz.prog 191 #[v] w fun e w' => e = .returned (.string listB) ∧ Below w.heap.size w w' := by
  go_enter Tryz.func191, Tryz.ntmps191
  go_wp2
  go_loopw [3, 7] (fun s i wr => ∃ k : Nat, k ≤ 6 ∧ i = .int .i64 k ∧ s = .string (listTo k) ∧ Below w.heap.size w wr) (fun _ i _ => 6 - (intOf i).toNat)
  case atStart => exact ⟨0, by omega, rfl, rfl, Below.refl _ _⟩
  case round =>
    obtain ⟨k, hk, rfl, rfl, hb0⟩ := hrel
    by_cases hlt : k < 6
    · have hidx := idx_list k hlt
      have hp := parL_le k
      obtain ⟨p, hpp⟩ : ∃ p, parL k = p := ⟨_, rfl⟩
      rw [hpp] at hidx hp
      have hz := listTo_size k
      have hz0 := hb0.size
      have hz2 := bytesB_size p 2
      have HL : Hid (listTo k ++ bytesB p 2 = listTo (k + 1)) := by rw [← hpp]; exact listTo_succ k hlt
      clear hpp
      go_wp2_with (go_at_call 159; refine (rbytes_any _ _ _ (by omega) (by omega) (by omega) (by omega)).mono ?_; rintro e w1 ⟨rfl, hb⟩)
      go_roundw
      case rel => exact ⟨k + 1, by omega, by go_num, by rw [HL.out], by (repeat' (first | (with_reducible exact Below.refl _ _) | (with_reducible assumption) | (with_reducible refine below_drewN ?_ _) | (with_reducible refine Below.drew ?_) | (with_reducible refine Below.setCell ?_ ?_ _) | (with_reducible refine Below.alloc ?_ ?_ _) | (with_reducible refine below_after ?_ ?_ (by assumption)) | (show _ ≤ _; first | omega | (simp; done) | (simp; omega))))⟩
      case measure => simp [intOf]; omega
    · obtain rfl : k = 6 := by omega
      go_wp2
      go_ret
      exact ⟨ret_str (by decide), hb0⟩

/-- A truth as a byte. -/
def flagB (b : Bool) : ByteArray := bytesB (if b then 1 else 0) 1

/-- The data of a setting, or the reason for which it is refused. -/
def shownD (d : Dev) (p : Int) : ByteArray × Int :=
  if p = 80 then (listB, -1) else if p = 96 then (bytesB d.ft 2 ++ bytesB d.ad 2, -1) else if p = 130 then (d.lb, -1) else if p = 240 then (bytesB d.ad 2, -1)
  else if p = 1024 then (bytesB d.hr 4, -1) else if p = 4096 then (flagB d.idf, -1) else if p = 4097 then (⟨#[]⟩, 1) else (⟨#[]⟩, 0)

set_option maxHeartbeats 400000 in
theorem flag_any (b : Bool) (w : World) : Calls Tryz.prog 199 #[.bool b] w fun e w' => e = .returned (.string (flagB b)) ∧ w = w' := by
  cases b <;> go_enter Tryz.func199, Tryz.ntmps199 <;> go_wp2 <;> go_ret <;> exact ⟨ret_str (by decide), rfl⟩

/-- The numbers of a device that is right. -/
def Fine (d : Dev) : Prop := 0 ≤ d.id ∧ d.id < 281474976710655 ∧ 1 ≤ d.ft ∧ d.ft ≤ 512 ∧ 1 ≤ d.ad ∧ d.ad ≤ 512 ∧ 0 ≤ d.hr ∧ d.hr ≤ 4294967295

theorem fine_of_chk (d : Dev) (h : chkD d = 0) : Fine d := by
  unfold Fine
  grind [chkD, bodyBad, isId, fitsB]

set_option maxHeartbeats 1000000 in
set_option maxRecDepth 100000 in
theorem info_any (b : Nat) (d : Dev) (w : World) (hd : DevAt w b d) (hf : Fine d) :
    Calls Tryz.prog 192 #[.pointer (some ⟨b, 0, none⟩)] w fun e w' => e = .returned (.string (bytesB d.ft 2 ++ bytesB d.ad 2)) ∧ Below w.heap.size w w' := by
  obtain ⟨c0, c1, c2, c3, c4, c5, c6, cf, l1, l2, l3, l4, l5⟩ := dev_facts hd
  obtain ⟨f1, f2, f3, f4, f5, f6, f7, f8⟩ := hf
  have z1 := bytesB_size d.ft 2
  have z2 := bytesB_size d.ad 2
  have w1 : IntKind.u64.wrap d.ft = d.ft := IntWalk.u64_in _ (by omega)
  have w2 : IntKind.u64.wrap d.ad = d.ad := IntWalk.u64_in _ (by omega)
  clear hd
  go_enter Tryz.func192, Tryz.ntmps192
  go_wp2
  go_region_held3 (fun w' => w'.cell? ⟨b, 1, none⟩ = some (.int .i64 d.ft) ∧ w'.cell? ⟨b, 2, none⟩ = some (.int .i64 d.ad)) (go_keep)
    (first | (go_at_call 159; refine (rbytes_any _ _ _ (by omega) (by omega) (by omega) (by omega)).mono ?_; rintro e w3 ⟨rfl, hb⟩; obtain ⟨hc, hf, hT1, hT2, hT3, hT4, hz⟩ := bfacts (n := w.heap.size) hb (by first | (simp; done) | (simp; omega) | omega)))
  go_wp2
  go_ret
  exact ⟨rfl, by (repeat' (first | (with_reducible exact Below.refl _ _) | (with_reducible assumption) | (with_reducible refine below_drewN ?_ _) | (with_reducible refine Below.drew ?_) | (with_reducible refine Below.setCell ?_ ?_ _) | (with_reducible refine Below.alloc ?_ ?_ _) | (with_reducible refine below_after ?_ ?_ (by assumption)) | (show _ ≤ _; first | omega | (simp; done) | (simp; omega))))⟩

set_option maxHeartbeats 400000 in
theorem getlabel_any (b : Nat) (d : Dev) (w : World) (hd : DevAt w b d) : Calls Tryz.prog 193 #[.pointer (some ⟨b, 0, none⟩)] w fun e w' => e = .returned (.string d.lb) ∧ w = w' := by
  obtain ⟨c0, c1, c2, c3, c4, c5, c6, cf, l1, l2, l3, l4, l5⟩ := dev_facts hd
  clear hd
  go_enter Tryz.func193, Tryz.ntmps193
  go_wp2
  go_ret
  exact ⟨rfl, rfl⟩

set_option maxHeartbeats 1000000 in
set_option maxRecDepth 100000 in
theorem getad_any (b : Nat) (d : Dev) (w : World) (hd : DevAt w b d) (hf : Fine d) :
    Calls Tryz.prog 195 #[.pointer (some ⟨b, 0, none⟩)] w fun e w' => e = .returned (.string (bytesB d.ad 2)) ∧ Below w.heap.size w w' := by
  obtain ⟨c0, c1, c2, c3, c4, c5, c6, cf, l1, l2, l3, l4, l5⟩ := dev_facts hd
  obtain ⟨f1, f2, f3, f4, f5, f6, f7, f8⟩ := hf
  have w2 : IntKind.u64.wrap d.ad = d.ad := IntWalk.u64_in _ (by omega)
  clear hd
  go_enter Tryz.func195, Tryz.ntmps195
  go_wp2_with (go_at_call 159; refine (rbytes_any _ _ _ (by omega) (by omega) (by omega) (by omega)).mono ?_; rintro e w3 ⟨rfl, hb⟩)
  go_ret
  exact ⟨rfl, by (repeat' (first | (with_reducible exact Below.refl _ _) | (with_reducible assumption) | (with_reducible refine below_drewN ?_ _) | (with_reducible refine Below.drew ?_) | (with_reducible refine Below.setCell ?_ ?_ _) | (with_reducible refine Below.alloc ?_ ?_ _) | (with_reducible refine below_after ?_ ?_ (by assumption)) | (show _ ≤ _; first | omega | (simp; done) | (simp; omega))))⟩

set_option maxHeartbeats 1000000 in
set_option maxRecDepth 100000 in
theorem gethr_any (b : Nat) (d : Dev) (w : World) (hd : DevAt w b d) (hf : Fine d) :
    Calls Tryz.prog 197 #[.pointer (some ⟨b, 0, none⟩)] w fun e w' => e = .returned (.string (bytesB d.hr 4)) ∧ Below w.heap.size w w' := by
  obtain ⟨c0, c1, c2, c3, c4, c5, c6, cf, l1, l2, l3, l4, l5⟩ := dev_facts hd
  obtain ⟨f1, f2, f3, f4, f5, f6, f7, f8⟩ := hf
  have w2 : IntKind.u64.wrap d.hr = d.hr := IntWalk.u64_in _ (by omega)
  clear hd
  go_enter Tryz.func197, Tryz.ntmps197
  go_wp2_with (go_at_call 159; refine (rbytes_any _ _ _ (by omega) (by omega) (by omega) (by omega)).mono ?_; rintro e w3 ⟨rfl, hb⟩)
  go_ret
  exact ⟨rfl, by (repeat' (first | (with_reducible exact Below.refl _ _) | (with_reducible assumption) | (with_reducible refine below_drewN ?_ _) | (with_reducible refine Below.drew ?_) | (with_reducible refine Below.setCell ?_ ?_ _) | (with_reducible refine Below.alloc ?_ ?_ _) | (with_reducible refine below_after ?_ ?_ (by assumption)) | (show _ ≤ _; first | omega | (simp; done) | (simp; omega))))⟩

set_option maxHeartbeats 400000 in
theorem getflag_any (b : Nat) (d : Dev) (w : World) (hd : DevAt w b d) : Calls Tryz.prog 198 #[.pointer (some ⟨b, 0, none⟩)] w fun e w' => e = .returned (.string (flagB d.idf)) ∧ w = w' := by
  obtain ⟨c0, c1, c2, c3, c4, c5, c6, cf, l1, l2, l3, l4, l5⟩ := dev_facts hd
  clear hd
  go_enter Tryz.func198, Tryz.ntmps198
  go_wp2_with (go_at_call 199; refine (flag_any _ _).mono ?_; rintro e w' ⟨rfl, rfl⟩)
  go_ret
  exact ⟨rfl, rfl⟩

theorem some_get (f : FuncId) (w : World) : (binOp .eql 255 (.func (.func f) #[] #[]) .nilFunc).run Tryz.prog w = .ok (.bool false) w := by kernel_rfl
theorem none_get (w : World) : (binOp .eql 255 .nilFunc .nilFunc).run Tryz.prog w = .ok (.bool true) w := by kernel_rfl
theorem some_set (f : FuncId) (w : World) : (binOp .eql 256 (.func (.func f) #[] #[]) .nilFunc).run Tryz.prog w = .ok (.bool false) w := by kernel_rfl
theorem none_set (w : World) : (binOp .eql 256 .nilFunc .nilFunc).run Tryz.prog w = .ok (.bool true) w := by kernel_rfl

theorem findT_80 : findT 80 = (#[.int .i64 80, .func (.func 191) #[] #[], .int .i64 0, .nilFunc], true) := rfl
theorem findT_96 : findT 96 = (#[.int .i64 96, .func (.func 192) #[] #[], .int .i64 0, .nilFunc], true) := rfl
theorem findT_130 : findT 130 = (#[.int .i64 130, .func (.func 193) #[] #[], .int .i64 (-1), .func (.func 194) #[] #[]], true) := rfl
theorem findT_240 : findT 240 = (#[.int .i64 240, .func (.func 195) #[] #[], .int .i64 2, .func (.func 196) #[] #[]], true) := rfl
theorem findT_1024 : findT 1024 = (#[.int .i64 1024, .func (.func 197) #[] #[], .int .i64 0, .nilFunc], true) := rfl
theorem findT_4096 : findT 4096 = (#[.int .i64 4096, .func (.func 198) #[] #[], .int .i64 1, .func (.func 200) #[] #[]], true) := rfl
theorem findT_4097 : findT 4097 = (#[.int .i64 4097, .nilFunc, .int .i64 1, .func (.func 201) #[] #[]], true) := rfl
theorem findT_other (p : Int) (h1 : p ≠ 80) (h2 : p ≠ 96) (h3 : p ≠ 130) (h4 : p ≠ 240) (h5 : p ≠ 1024) (h6 : p ≠ 4096) (h7 : p ≠ 4097) : findT p = (#[.int .i64 0, .nilFunc, .int .i64 0, .nilFunc], false) := by
  unfold findT
  rw [if_neg h1, if_neg h2, if_neg h3, if_neg h4, if_neg h5, if_neg h6, if_neg h7]
  rfl

set_option maxHeartbeats 1000000 in
set_option maxRecDepth 100000 in
theorem read_any (b : Nat) (d : Dev) (p : Int) (w : World) (hd : DevAt w b d) (hfine : Fine d) :
    Calls Tryz.prog 160 #[.pointer (some ⟨b, 0, none⟩), .int .i64 p] w fun e w' => ∃ s n, e = .returned (.tuple #[.string s, .int .i64 n]) ∧ Hid (shownD d p = (s, n)) ∧ Below w.heap.size w w' := by
  obtain ⟨c0, c1, c2, c3, c4, c5, c6, cf, l1, l2, l3, l4, l5⟩ := dev_facts hd
  have q1 := some_get
  have q2 := none_get
  by_cases h1 : p = 80
  · subst h1
    have hft := findT_80
    go_enter Tryz.func160, Tryz.ntmps160
    go_wp2_with (first | (go_at_call 179; refine (find_any _ _).mono ?_; rintro e w1 ⟨rfl, hb⟩; obtain ⟨hc, hf, hT1, hT2, hT3, hT4, hz⟩ := bfacts (n := w.heap.size) hb (by first | (simp; done) | (simp; omega) | omega)) | (go_at_call 191; refine (list_any _ _).mono ?_; rintro e w3 ⟨rfl, hb'⟩))
    go_ret2
    exact ⟨_, _, rfl, rfl, by (repeat' (first | (with_reducible exact Below.refl _ _) | (with_reducible assumption) | (with_reducible refine below_drewN ?_ _) | (with_reducible refine Below.drew ?_) | (with_reducible refine Below.setCell ?_ ?_ _) | (with_reducible refine Below.alloc ?_ ?_ _) | (with_reducible refine below_after ?_ ?_ (by assumption)) | (show _ ≤ _; first | omega | (simp; done) | (simp; omega))))⟩
  by_cases h2 : p = 96
  · subst h2
    have hft := findT_96
    go_enter Tryz.func160, Tryz.ntmps160
    go_wp2_with (first | (go_at_call 179; refine (find_any _ _).mono ?_; rintro e w1 ⟨rfl, hb⟩; obtain ⟨hc, hf, hT1, hT2, hT3, hT4, hz⟩ := bfacts (n := w.heap.size) hb (by first | (simp; done) | (simp; omega) | omega)) | (go_at_call 192; refine (info_any _ d _ ((hd.below hb l1).alloc _) hfine).mono ?_; rintro e w3 ⟨rfl, hb'⟩))
    go_ret2
    exact ⟨_, _, rfl, rfl, by (repeat' (first | (with_reducible exact Below.refl _ _) | (with_reducible assumption) | (with_reducible refine below_drewN ?_ _) | (with_reducible refine Below.drew ?_) | (with_reducible refine Below.setCell ?_ ?_ _) | (with_reducible refine Below.alloc ?_ ?_ _) | (with_reducible refine below_after ?_ ?_ (by assumption)) | (show _ ≤ _; first | omega | (simp; done) | (simp; omega))))⟩
  by_cases h3 : p = 130
  · subst h3
    have hft := findT_130
    go_enter Tryz.func160, Tryz.ntmps160
    go_wp2_with (first | (go_at_call 179; refine (find_any _ _).mono ?_; rintro e w1 ⟨rfl, hb⟩; obtain ⟨hc, hf, hT1, hT2, hT3, hT4, hz⟩ := bfacts (n := w.heap.size) hb (by first | (simp; done) | (simp; omega) | omega)) | (go_at_call 193; refine (getlabel_any _ d _ ((hd.below hb l1).alloc _)).mono ?_; rintro e w3 ⟨rfl, rfl⟩))
    go_ret2
    exact ⟨_, _, rfl, rfl, by (repeat' (first | (with_reducible exact Below.refl _ _) | (with_reducible assumption) | (with_reducible refine below_drewN ?_ _) | (with_reducible refine Below.drew ?_) | (with_reducible refine Below.setCell ?_ ?_ _) | (with_reducible refine Below.alloc ?_ ?_ _) | (with_reducible refine below_after ?_ ?_ (by assumption)) | (show _ ≤ _; first | omega | (simp; done) | (simp; omega))))⟩
  by_cases h4 : p = 240
  · subst h4
    have hft := findT_240
    go_enter Tryz.func160, Tryz.ntmps160
    go_wp2_with (first | (go_at_call 179; refine (find_any _ _).mono ?_; rintro e w1 ⟨rfl, hb⟩; obtain ⟨hc, hf, hT1, hT2, hT3, hT4, hz⟩ := bfacts (n := w.heap.size) hb (by first | (simp; done) | (simp; omega) | omega)) | (go_at_call 195; refine (getad_any _ d _ ((hd.below hb l1).alloc _) hfine).mono ?_; rintro e w3 ⟨rfl, hb'⟩))
    go_ret2
    exact ⟨_, _, rfl, rfl, by (repeat' (first | (with_reducible exact Below.refl _ _) | (with_reducible assumption) | (with_reducible refine below_drewN ?_ _) | (with_reducible refine Below.drew ?_) | (with_reducible refine Below.setCell ?_ ?_ _) | (with_reducible refine Below.alloc ?_ ?_ _) | (with_reducible refine below_after ?_ ?_ (by assumption)) | (show _ ≤ _; first | omega | (simp; done) | (simp; omega))))⟩
  by_cases h5 : p = 1024
  · subst h5
    have hft := findT_1024
    go_enter Tryz.func160, Tryz.ntmps160
    go_wp2_with (first | (go_at_call 179; refine (find_any _ _).mono ?_; rintro e w1 ⟨rfl, hb⟩; obtain ⟨hc, hf, hT1, hT2, hT3, hT4, hz⟩ := bfacts (n := w.heap.size) hb (by first | (simp; done) | (simp; omega) | omega)) | (go_at_call 197; refine (gethr_any _ d _ ((hd.below hb l1).alloc _) hfine).mono ?_; rintro e w3 ⟨rfl, hb'⟩))
    go_ret2
    exact ⟨_, _, rfl, rfl, by (repeat' (first | (with_reducible exact Below.refl _ _) | (with_reducible assumption) | (with_reducible refine below_drewN ?_ _) | (with_reducible refine Below.drew ?_) | (with_reducible refine Below.setCell ?_ ?_ _) | (with_reducible refine Below.alloc ?_ ?_ _) | (with_reducible refine below_after ?_ ?_ (by assumption)) | (show _ ≤ _; first | omega | (simp; done) | (simp; omega))))⟩
  by_cases h6 : p = 4096
  · subst h6
    have hft := findT_4096
    go_enter Tryz.func160, Tryz.ntmps160
    go_wp2_with (first | (go_at_call 179; refine (find_any _ _).mono ?_; rintro e w1 ⟨rfl, hb⟩; obtain ⟨hc, hf, hT1, hT2, hT3, hT4, hz⟩ := bfacts (n := w.heap.size) hb (by first | (simp; done) | (simp; omega) | omega)) | (go_at_call 198; refine (getflag_any _ d _ ((hd.below hb l1).alloc _)).mono ?_; rintro e w3 ⟨rfl, rfl⟩))
    go_ret2
    exact ⟨_, _, rfl, rfl, by (repeat' (first | (with_reducible exact Below.refl _ _) | (with_reducible assumption) | (with_reducible refine below_drewN ?_ _) | (with_reducible refine Below.drew ?_) | (with_reducible refine Below.setCell ?_ ?_ _) | (with_reducible refine Below.alloc ?_ ?_ _) | (with_reducible refine below_after ?_ ?_ (by assumption)) | (show _ ≤ _; first | omega | (simp; done) | (simp; omega))))⟩
  by_cases h7 : p = 4097
  · subst h7
    have hft := findT_4097
    go_enter Tryz.func160, Tryz.ntmps160
    go_wp2_with (go_at_call 179; refine (find_any _ _).mono ?_; rintro e w1 ⟨rfl, hb⟩; obtain ⟨hc, hf, hT1, hT2, hT3, hT4, hz⟩ := bfacts (n := w.heap.size) hb (by first | (simp; done) | (simp; omega) | omega))
    go_ret2
    exact ⟨_, _, rfl, rfl, by (repeat' (first | (with_reducible exact Below.refl _ _) | (with_reducible assumption) | (with_reducible refine below_drewN ?_ _) | (with_reducible refine Below.drew ?_) | (with_reducible refine Below.setCell ?_ ?_ _) | (with_reducible refine Below.alloc ?_ ?_ _) | (with_reducible refine below_after ?_ ?_ (by assumption)) | (show _ ≤ _; first | omega | (simp; done) | (simp; omega))))⟩
  have hft := findT_other p h1 h2 h3 h4 h5 h6 h7
  have hsh : Hid (shownD d p = (⟨#[]⟩, 0)) := by
    show shownD d p = _
    unfold shownD
    rw [if_neg h1, if_neg h2, if_neg h3, if_neg h4, if_neg h5, if_neg h6, if_neg h7]
  clear h1 h2 h3 h4 h5 h6 h7
  go_enter Tryz.func160, Tryz.ntmps160
  go_wp2_with (go_at_call 179; refine (find_any _ _).mono ?_; rintro e w1 ⟨rfl, hb⟩; obtain ⟨hc, hf, hT1, hT2, hT3, hT4, hz⟩ := bfacts (n := w.heap.size) hb (by first | (simp; done) | (simp; omega) | omega))
  go_ret2
  exact ⟨_, _, rfl, hsh, by (repeat' (first | (with_reducible exact Below.refl _ _) | (with_reducible assumption) | (with_reducible refine below_drewN ?_ _) | (with_reducible refine Below.drew ?_) | (with_reducible refine Below.setCell ?_ ?_ _) | (with_reducible refine Below.alloc ?_ ?_ _) | (with_reducible refine below_after ?_ ?_ (by assumption)) | (show _ ≤ _; first | omega | (simp; done) | (simp; omega))))⟩

end Go.Proofs.YtpkhcehddfmhpaaGreat
