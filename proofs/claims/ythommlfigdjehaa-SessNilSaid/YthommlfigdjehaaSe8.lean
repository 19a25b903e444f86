/- The law's own helpers: light, start, known, ready. -/
import Derived.Test.YthommlfigdjehaaSe7
namespace Go.Proofs.Ythommlfigdjehaa
open Go Go.RowKit Go.Maps

def askK (k : Int) : AskT := ⟨k, ⟨#[]⟩, ⟨#[]⟩, ⟨#[]⟩, none, 0, 0, none, 0, 0, none, 0, 0, none, 0, 0, none, 0, 0, 0, 0, false, 0, 0, [], []⟩
theorem askK_good (w : World) {k : Int} (h : 0 ≤ k ∧ k ≤ 255) : GoodA w (askK k) := ⟨h, RowG.nil _, RowG.nil _, by simp [askK, maxLen]⟩
def uB : ByteArray := ⟨#[117]⟩
def startA (g1 g2 : Nat) : AskT := ⟨0, ⟨#[]⟩, ⟨#[]⟩, ⟨#[]⟩, some ⟨g1, 0, none⟩, 1, 1, some ⟨g2, 0, none⟩, 1, 1, none, 0, 0, none, 0, 0, none, 0, 0, 0, 0, false, 0, 0, [userB], [uB]⟩
theorem light_any {w : World} {a : AskT} (h : a.kn ≤ maxLen ∧ a.vn ≤ maxLen) :
    Calls Try.prog 8 #[.agg #[.int .u8 a.kind, .string a.name, .string a.portal, .string a.sql, .slice a.kA a.kn a.kc, .slice a.vA a.vn a.vc, .slice a.aA a.an a.ac, .slice a.nA a.nn a.nc, .slice a.fA a.fn a.fc, .int .i64 a.most, .int .u8 a.what, .bool a.cancel, .int .i64 a.pid, .int .i64 a.secret]] w fun e w' => e = .returned (.bool (decide (a.kn ≤ 30) && decide (a.vn ≤ 30))) ∧ Touch [] w w' := by
  obtain ⟨h1, h2⟩ := h
  unfold maxLen at h1 h2
  have t0 : Touch [] w (w.alloc (.cells #[.int .u8 a.kind, .string a.name, .string a.portal, .string a.sql, .slice a.kA a.kn a.kc, .slice a.vA a.vn a.vc, .slice a.aA a.an a.ac, .slice a.nA a.nn a.nc, .slice a.fA a.fn a.fc, .int .i64 a.most, .int .u8 a.what, .bool a.cancel, .int .i64 a.pid, .int .i64 a.secret] 30)) := (Touch.refl _ _).alloc _
  have b0 : (w.alloc (.cells #[.int .u8 a.kind, .string a.name, .string a.portal, .string a.sql, .slice a.kA a.kn a.kc, .slice a.vA a.vn a.vc, .slice a.aA a.an a.ac, .slice a.nA a.nn a.nc, .slice a.fA a.fn a.fc, .int .i64 a.most, .int .u8 a.what, .bool a.cancel, .int .i64 a.pid, .int .i64 a.secret] 30)).heap[w.heap.size]? = some (.cells #[.int .u8 a.kind, .string a.name, .string a.portal, .string a.sql, .slice a.kA a.kn a.kc, .slice a.vA a.vn a.vc, .slice a.aA a.an a.ac, .slice a.nA a.nn a.nc, .slice a.fA a.fn a.fc, .int .i64 a.most, .int .u8 a.what, .bool a.cancel, .int .i64 a.pid, .int .i64 a.secret] 30 (0, 0)) := heap_alloc_new w _
  obtain ⟨y0, y1, y2, y3, y4, y5, y6, y7, y8, y9, y10, y11, y12, y13⟩ := ask_cells b0
  have T := Lib.hid t0
  clear y0 y1 y2 y3 y6 y7 y8 y9 y10 y11 y12 y13 t0 b0
  by_cases hk : a.kn ≤ 30
  · have k1 : (a.kn : Int) ≤ 30 := by omega
    by_cases hv : a.vn ≤ 30
    · have e : (decide (a.kn ≤ 30) && decide (a.vn ≤ 30)) = true := by simp [hk, hv]
      have k2 : (a.vn : Int) ≤ 30 := by omega
      rw [e]
      clear e hk hv
      go_enter Try.func8, Try.ntmps8
      go_wp2
      go_ret
      exact ⟨rfl, T.out⟩
    · have e : (decide (a.kn ≤ 30) && decide (a.vn ≤ 30)) = false := by simp [hv]
      have k2 : ¬ (a.vn : Int) ≤ 30 := by omega
      rw [e]
      clear e hk hv
      go_enter Try.func8, Try.ntmps8
      go_wp2
      go_ret
      exact ⟨rfl, T.out⟩
  · have e : (decide (a.kn ≤ 30) && decide (a.vn ≤ 30)) = false := by simp [hk]
    have k1 : ¬ (a.kn : Int) ≤ 30 := by omega
    rw [e]
    clear e hk
    go_enter Try.func8, Try.ntmps8
    go_wp2
    go_ret
    exact ⟨rfl, T.out⟩
def StartP (w : World) (e : Ending) (w' : World) : Prop := ∃ g1 g2, e = .returned (.agg #[.int .u8 0, .string ⟨#[]⟩, .string ⟨#[]⟩, .string ⟨#[]⟩, .slice (some ⟨g1, 0, none⟩) 1 1, .slice (some ⟨g2, 0, none⟩) 1 1, .slice none 0 0, .slice none 0 0, .slice none 0 0, .int .i64 0, .int .u8 0, .bool false, .int .i64 0, .int .i64 0]) ∧ GoodA w' (startA g1 g2) ∧ Touch [] w w'
theorem row1 {w : World} {g : Nat} {s : ByteArray} {t : TypeId} {fr : Nat × Nat} (h : w.heap[g]? = some (.cells #[.string s] t fr)) : RowG strC 1 w (some ⟨g, 0, none⟩) 1 [s] :=
  ⟨rfl, .inr ⟨g, 0, rfl, heap_lt h, fun j x hj i v hv => by
    cases j with
    | zero =>
      cases i with
      | zero =>
        simp only [List.getElem?_cons_zero, Option.some.injEq] at hj
        subst hj
        simp [strC] at hv
        subst hv
        rw [cell_of h]; rfl
      | succ i => simp [strC] at hv
    | succ j => simp at hj⟩⟩
theorem start_any (w : World) : Calls Try.prog 23 #[] w (StartP w) := by
  go_enter Try.func23, Try.ntmps23
  go_wp2
  refine bodyPost_ret (v := .agg #[.int .u8 0, .string ⟨#[]⟩, .string ⟨#[]⟩, .string ⟨#[]⟩, .slice (some ⟨w.heap.size + 1, 0, none⟩) 1 1, .slice (some ⟨w.heap.size + 1 + 1, 0, none⟩) 1 1, .slice none 0 0, .slice none 0 0, .slice none 0 0, .int .i64 0, .int .u8 0, .bool false, .int .i64 0, .int .i64 0]) (by simp [results, Try.results23, go_sem]) rfl ⟨w.heap.size + 1, w.heap.size + 1 + 1, rfl, ?_, (((Touch.refl _ _).alloc _).alloc _).alloc _⟩
  refine ⟨by simp [startA], row1 (s := userB) (t := 9) (fr := (0, 0)) ?_, row1 (s := uB) (t := 9) (fr := (0, 0)) ?_, by simp [startA, maxLen]⟩
  · refine (RowKit.Below.heap_alloc _ _ _ (by simp)).trans ?_
    have := heap_alloc_new (w.alloc (.cells #[.int .u8 0, .string ⟨#[]⟩, .string ⟨#[]⟩, .string ⟨#[]⟩, .slice (some ⟨w.heap.size + 1, 0, none⟩) 1 1, .slice (some ⟨w.heap.size + 1 + 1, 0, none⟩) 1 1, .slice none 0 0, .slice none 0 0, .slice none 0 0, .int .i64 0, .int .u8 0, .bool false, .int .i64 0, .int .i64 0] 30)) (Obj.cells #[.string userB] 9)
    simpa [userB] using this
  · have := heap_alloc_new ((w.alloc (.cells #[.int .u8 0, .string ⟨#[]⟩, .string ⟨#[]⟩, .string ⟨#[]⟩, .slice (some ⟨w.heap.size + 1, 0, none⟩) 1 1, .slice (some ⟨w.heap.size + 1 + 1, 0, none⟩) 1 1, .slice none 0 0, .slice none 0 0, .slice none 0 0, .int .i64 0, .int .u8 0, .bool false, .int .i64 0, .int .i64 0] 30)).alloc (Obj.cells #[.string userB] 9)) (Obj.cells #[.string uB] 9)
    simpa [userB, uB] using this

/-- What comes of it is known. -/
theorem Step_k {w : World} {p : Nat} {ph : Int} {u d : ByteArray} (h : SS w p ph u d) (hp : 2 ≤ ph ∧ ph ≤ 7) (k : Int) (hk : 0 ≤ k ∧ k ≤ 255) {n er ph' : Int} (hf : stepK ph k = (n, er, ph')) :
    Calls Try.prog 9 #[.pointer (some ⟨p, 0, none⟩), .agg #[.int .u8 k, .string ⟨#[]⟩, .string ⟨#[]⟩, .string ⟨#[]⟩, .slice none 0 0, .slice none 0 0, .slice none 0 0, .slice none 0 0, .slice none 0 0, .int .i64 0, .int .u8 0, .bool false, .int .i64 0, .int .i64 0]] w fun e w' => e = .returned (.tuple #[.int .i64 n, .int .i64 er]) ∧ SS w' p ph' u d ∧ Touch [p] w w' :=
  Step_later (a := askK k) h hp (askK_good w hk) hf
theorem Step_start {w : World} {p : Nat} {g1 g2 : Nat} (h : SS w p 1 ⟨#[]⟩ ⟨#[]⟩) (g : GoodA w (startA g1 g2)) :
    Calls Try.prog 9 #[.pointer (some ⟨p, 0, none⟩), .agg #[.int .u8 0, .string ⟨#[]⟩, .string ⟨#[]⟩, .string ⟨#[]⟩, .slice (some ⟨g1, 0, none⟩) 1 1, .slice (some ⟨g2, 0, none⟩) 1 1, .slice none 0 0, .slice none 0 0, .slice none 0 0, .int .i64 0, .int .u8 0, .bool false, .int .i64 0, .int .i64 0]] w fun e w' => e = .returned (.tuple #[.int .i64 1, .int .i64 0]) ∧ SS w' p 2 uB uB ∧ Touch [p] w w' :=
  Step_first (a := startA g1 g2) h g (by simp [firstF, startA, valF, userB, dbB, uB])

set_option maxHeartbeats 2000000 in
theorem known_any (w : World) : Calls Try.prog 16 #[] w fun e w' => e = .returned (.bool true) ∧ Touch [] w w' := by
  go_enter Try.func16, Try.ntmps16
  go_wp2_with fail
  refine (New_any w).mono ?_
  rintro e w1 ⟨rfl, h1, t1⟩
  generalize hp : w.heap.size = p at *
  have HP := Lib.hid hp
  have S0 := Lib.hid (And.intro h1 t1)
  clear h1 t1 hp
  go_wp2_with fail
  refine (start_any w1).mono ?_
  rintro e w2 ⟨g1, g2, rfl, ga, t2⟩
  have S1 := Lib.hid (And.intro (S0.out.1.kept t2 (by simp)) (And.intro ga (S0.out.2.trans t2 (by simp))))
  clear ga t2 S0
  go_wp2_with fail
  refine (Step_start S1.out.1 S1.out.2.1).mono ?_
  rintro e w3 ⟨rfl, h3, t3⟩
  have A0 := Lib.hid (And.intro h3 (S1.out.2.2.trans t3 (by rw [HP.out]; simp)))
  clear h3 t3 S1
  go_wp2_with fail
  refine (Step_k A0.out.1 (by decide) 112 (by decide) (n := 2) (er := 0) (ph' := 2) (by decide)).mono ?_
  rintro e w4 ⟨rfl, h, t⟩
  have A1 := Lib.hid (And.intro h (A0.out.2.trans t (by rw [HP.out]; simp)))
  clear h t A0
  go_wp2_with fail
  have cv := Accept_any A1.out.1 (by decide) true
  rw [show acceptF 2 true = (0, 3) from rfl] at cv
  refine cv.mono ?_
  clear cv
  rintro e w5 ⟨rfl, h, t⟩
  have A2 := Lib.hid (And.intro h (A1.out.2.trans t (by rw [HP.out]; simp)))
  clear h t A1
  go_wp2_with fail
  refine (Step_k A2.out.1 (by decide) 80 (by decide) (n := 4) (er := 0) (ph' := 5) (by decide)).mono ?_
  rintro e w6 ⟨rfl, h, t⟩
  have A3 := Lib.hid (And.intro h (A2.out.2.trans t (by rw [HP.out]; simp)))
  clear h t A2
  go_wp2_with fail
  have cv := Fail_any A3.out.1 (by decide)
  rw [show failF 5 = (0, 6) from rfl] at cv
  refine cv.mono ?_
  clear cv
  rintro e w7 ⟨rfl, h, t⟩
  have A4 := Lib.hid (And.intro h (A3.out.2.trans t (by rw [HP.out]; simp)))
  clear h t A3
  go_wp2_with fail
  refine (Step_k A4.out.1 (by decide) 69 (by decide) (n := 7) (er := 0) (ph' := 6) (by decide)).mono ?_
  rintro e w8 ⟨rfl, h, t⟩
  have A5 := Lib.hid (And.intro h (A4.out.2.trans t (by rw [HP.out]; simp)))
  clear h t A4
  go_wp2_with fail
  refine (Step_k A5.out.1 (by decide) 83 (by decide) (n := 5) (er := 0) (ph' := 3) (by decide)).mono ?_
  rintro e w9 ⟨rfl, h, t⟩
  have A6 := Lib.hid (And.intro h (A5.out.2.trans t (by rw [HP.out]; simp)))
  clear h t A5
  go_wp2_with fail
  refine (Phase_any A6.out.1 (by decide)).mono ?_
  rintro e w10 ⟨rfl, rfl⟩
  go_wp2_with fail
  refine (Step_k A6.out.1 (by decide) 81 (by decide) (n := 3) (er := 0) (ph' := 4) (by decide)).mono ?_
  rintro e w11 ⟨rfl, h, t⟩
  have A7 := Lib.hid (And.intro h (A6.out.2.trans t (by rw [HP.out]; simp)))
  clear h t A6
  go_wp2_with fail
  refine (Step_k A7.out.1 (by decide) 81 (by decide) (n := 6) (er := 0) (ph' := 4) (by decide)).mono ?_
  rintro e w12 ⟨rfl, h, t⟩
  have A8 := Lib.hid (And.intro h (A7.out.2.trans t (by rw [HP.out]; simp)))
  clear h t A7
  go_wp2_with fail
  have cv := Done_any A8.out.1 (by decide)
  rw [show doneF 4 = (0, 3) from rfl] at cv
  refine cv.mono ?_
  clear cv
  rintro e w13 ⟨rfl, h, t⟩
  have A9 := Lib.hid (And.intro h (A8.out.2.trans t (by rw [HP.out]; simp)))
  clear h t A8
  go_wp2_with fail
  refine (Step_k A9.out.1 (by decide) 112 (by decide) (n := 9) (er := 10) (ph' := 7) (by decide)).mono ?_
  rintro e w14 ⟨rfl, h, t⟩
  have A10 := Lib.hid (And.intro h (A9.out.2.trans t (by rw [HP.out]; simp)))
  clear h t A9
  go_wp2_with fail
  refine (Phase_any A10.out.1 (by decide)).mono ?_
  rintro e w15 ⟨rfl, rfl⟩
  have hu1 : uB.toList = [117] := by rw [ByteArray.toList_eq]; rfl
  go_wp2_with fail
  refine (User_any A10.out.1 (by decide)).mono ?_
  rintro e w16 ⟨rfl, rfl⟩
  go_wp2_with fail
  refine (Db_any A10.out.1 (by decide)).mono ?_
  rintro e w17 ⟨rfl, rfl⟩
  go_wp2
  go_ret
  exact ⟨rfl, A10.out.2⟩

set_option maxHeartbeats 1000000 in
theorem ready_any (w : World) : Calls Try.prog 7 #[] w fun e w' => e = .returned (.pointer (some ⟨w.heap.size, 0, none⟩)) ∧ SS w' w.heap.size 3 uB uB ∧ Touch [] w w' := by
  go_enter Try.func7, Try.ntmps7
  go_wp2_with fail
  refine (New_any w).mono ?_
  rintro e w1 ⟨rfl, h1, t1⟩
  obtain ⟨p, hp⟩ : ∃ p, w.heap.size = p := ⟨_, rfl⟩
  have HPX : Hid (w.heap.size ≤ p) := Lib.hid (by omega)
  have HP2 := Lib.hid hp
  rw [hp] at h1 ⊢
  clear hp
  have S0 := Lib.hid (And.intro h1 t1)
  clear h1 t1
  go_wp2_with fail
  refine (start_any w1).mono ?_
  rintro e w2 ⟨g1, g2, rfl, ga, t2⟩
  have S1 := Lib.hid (And.intro (S0.out.1.kept t2 (by simp)) (And.intro ga (S0.out.2.trans t2 (by simp))))
  clear ga t2 S0
  go_wp2_with fail
  refine (Step_start S1.out.1 S1.out.2.1).mono ?_
  rintro e w3 ⟨rfl, h3, t3⟩
  have A0 := Lib.hid (And.intro h3 (S1.out.2.2.trans t3 (by simpa using HPX.out)))
  clear h3 t3 S1
  go_wp2_with fail
  refine (Step_k A0.out.1 (by decide) 112 (by decide) (n := 2) (er := 0) (ph' := 2) (by decide)).mono ?_
  rintro e w4 ⟨rfl, h, t⟩
  have A1 := Lib.hid (And.intro h (A0.out.2.trans t (by simpa using HPX.out)))
  clear h t A0
  go_wp2_with fail
  have cv := Accept_any A1.out.1 (by decide) true
  rw [show acceptF 2 true = (0, 3) from rfl] at cv
  refine cv.mono ?_
  clear cv
  rintro e w5 ⟨rfl, h, t⟩
  have A2 := Lib.hid (And.intro h (A1.out.2.trans t (by simpa using HPX.out)))
  clear h t A1
  go_wp2
  go_ret
  exact ⟨by rw [HP2.out]; rfl, by rw [HP2.out]; exact A2.out.1, A2.out.2⟩
end Go.Proofs.Ythommlfigdjehaa
