/- SessSkips, SessNil. -/
import Derived.Test.YthommlfigdjehaaSeOver
namespace Go.Proofs.Ythommlfigdjehaa
open Go Go.RowKit Go.Maps Go.WideShapes

abbrev kindsB : ByteArray := ⟨#[80, 66, 68, 69, 67, 72, 81]⟩
def byteC (n : Int) : List Value := [.int .u8 n]
theorem bytes_of_arg {w : World} {m base : Nat} {v : Value} (hv : Value.okWide Try.prog w .any base 42 v) (h : Rd Try.prog w m 42 v.cells.toList) :
    ∃ A n cp l, v = .slice A n cp ∧ RowG byteC 1 w A n l ∧ (∀ x ∈ l, 0 ≤ x ∧ x ≤ 255) ∧ n ≤ maxLen := by
  obtain ⟨A, n, cp, rfl⟩ := okWide_slice Try.underlying42 hv
  obtain ⟨A', n', cp', l, he, h1, h2, h3, h4, _⟩ := RowG.of_rd (enc := byteC) (k := 1) (G := fun x => 0 ≤ x ∧ x ≤ 255) Try.underlying42 (by kernel_rfl) (by decide) (fun m cs' h => by
    obtain ⟨x, rfl, hx⟩ := h.int Try.underlying5
    exact ⟨x, rfl, byte_wf hx⟩) h
  simp [Value.cells] at he
  obtain ⟨rfl, rfl, rfl⟩ := he
  exact ⟨A, n, cp, l, rfl, h1, h2, Nat.le_trans h3 h4⟩
/-- The kind at a place of the row. -/
def OneOf (k : Int) : Prop := k = 80 ∨ k = 66 ∨ k = 68 ∨ k = 69 ∨ k = 67 ∨ k = 72 ∨ k = 81
theorem kind_in (r : Nat) (h : r < kindsB.size) : OneOf ((kindsB[r]'h).toNat : Int) := by
  have h7 : kindsB.size = 7 := rfl
  have : r = 0 ∨ r = 1 ∨ r = 2 ∨ r = 3 ∨ r = 4 ∨ r = 5 ∨ r = 6 := by omega
  rcases this with rfl | rfl | rfl | rfl | rfl | rfl | rfl <;> first | exact .inl rfl | exact .inr (.inl rfl) | exact .inr (.inr (.inl rfl)) | exact .inr (.inr (.inr (.inl rfl))) | exact .inr (.inr (.inr (.inr (.inl rfl)))) | exact .inr (.inr (.inr (.inr (.inr (.inl rfl))))) | exact .inr (.inr (.inr (.inr (.inr (.inr (rfl))))))
theorem stepK_skip {k : Int} (h : OneOf k) : stepK 6 k = (7, 0, 6) ∧ stepK 4 k = (6, 0, 4) ∧ 0 ≤ k ∧ k ≤ 255 := by
  unfold OneOf at h
  rcases h with rfl | rfl | rfl | rfl | rfl | rfl | rfl <;> decide

set_option maxRecDepth 8000 in
set_option maxHeartbeats 8000000 in
theorem SessSkips_walk (w : World) (A : Option Addr) (n cp : Nat) (l : List Int) (hA : RowG byteC 1 w A n l) (hg : ∀ x ∈ l, 0 ≤ x ∧ x ≤ 255) (hnn : n ≤ maxLen) :
    Calls Try.prog 4 #[.slice A n cp] w fun e w' => e = .returned (.bool true) ∧ Below w.heap.size w w' := by
  have HA := Lib.hid hA; have HG := Lib.hid hg
  have hn := hnn
  unfold maxLen at hn
  clear hA hg hnn
  go_enter Try.func4, Try.ntmps4
  go_wp2_with fail
  refine (ready_any w).mono ?_
  rintro e w1 ⟨rfl, h1, t1⟩
  have O1 : Hid (One w w1 w.heap.size 3) := Lib.hid ⟨h1, by decide, Nat.le_refl _, t1.below0 (Nat.le_refl _)⟩
  clear h1 t1
  obtain ⟨ps, hps⟩ : ∃ p, w.heap.size = p := ⟨_, rfl⟩
  have O2 : Hid (One w w1 ps 3) := Lib.hid (by rw [← hps]; exact O1.out)
  rw [hps]
  have HPS := Lib.hid hps
  clear O1 hps
  by_cases h60 : n ≤ 60
  · have hi : ¬ (60 : Int) < (n : Int) := by omega
    go_wp2_with fail
    refine (Step_k O2.out.s O2.out.hp 80 (by decide) (n := 4) (er := 0) (ph' := 5) (by decide)).mono ?_
    rintro e w2 ⟨rfl, s2, t2⟩
    have B2 := Lib.hid (O2.out.step s2 t2 (by decide))
    clear s2 t2 O2
    go_wp2_with fail
    have cv := Fail_any B2.out.s (by decide)
    rw [show failF 5 = (0, 6) from rfl] at cv
    refine cv.mono ?_
    clear cv
    rintro e w3 ⟨rfl, s3, t3⟩
    have B3 := Lib.hid (B2.out.step s3 t3 (by decide))
    clear s3 t3 B2
    go_wp2_with fail
    go_loopw [6] (fun i wr => ∃ (j : Nat), j ≤ n ∧ i = .int .i64 j ∧ Hid (One w wr ps 6)) (fun i _ => n - (intOf i).toNat)
    case atStart => exact ⟨0, Nat.zero_le _, rfl, B3⟩
    clear B3
    case round =>
      obtain ⟨j, hj, rfl, hb⟩ := hrel
      by_cases hlt : j < n
      · obtain ⟨g, b, x, hAA, hgl, hoj, hom, _, hc⟩ := (HA.out.below hb.out.bel).at hlt
        subst hAA
        have y0 := hc 0 (.int .u8 x) rfl
        simp only [Nat.mul_one, Nat.add_zero] at y0
        obtain ⟨hx0, hx1⟩ := HG.out x hom
        clear hc hom hoj hgl
        have hi0 : (0 : Int) ≤ j := by omega
        have hi1 : (j : Int) < (n : Int) := by omega
        go_wp2_with fail
        have hsz : (x % 7).toNat < kindsB.size := by have : kindsB.size = 7 := rfl; omega
        have hk := kind_in (x % 7).toNat hsz
        have hs := stepK_skip hk
        refine (Step_k hb.out.s hb.out.hp ((kindsB[(x % 7).toNat]'hsz).toNat : Int) hs.2.2 hs.1).mono ?_
        rintro e w4 ⟨rfl, s4, t4⟩
        have B4 := Lib.hid (hb.out.step s4 t4 (by decide))
        clear s4 t4 hs hk
        go_wp2_with fail
        refine (Phase_any B4.out.s (by decide)).mono ?_
        rintro e w5 ⟨rfl, rfl⟩
        go_wp2_with fail
        go_roundw
        case rel => exact ⟨j + 1, by omega, by go_num, B4⟩
        case measure => simp [intOf]; omega
      · go_wp2_with fail
        refine (Step_k hb.out.s hb.out.hp 83 (by decide) (n := 5) (er := 0) (ph' := 3) (by decide)).mono ?_
        rintro e w4 ⟨rfl, s4, t4⟩
        have B4 := Lib.hid (hb.out.step s4 t4 (by decide))
        clear s4 t4 hb
        go_wp2_with fail
        refine (Phase_any B4.out.s (by decide)).mono ?_
        rintro e w5 ⟨rfl, rfl⟩
        go_wp2_with fail
        refine (Step_k B4.out.s B4.out.hp 81 (by decide) (n := 3) (er := 0) (ph' := 4) (by decide)).mono ?_
        rintro e w6 ⟨rfl, s6, t6⟩
        have B6 := Lib.hid (B4.out.step s6 t6 (by decide))
        clear s6 t6 B4
        go_wp2_with fail
        go_loopw [12] (fun i wr => ∃ (j : Nat), j ≤ n ∧ i = .int .i64 j ∧ Hid (One w wr ps 4)) (fun i _ => n - (intOf i).toNat)
        case atStart => exact ⟨0, Nat.zero_le _, rfl, B6⟩
        clear B6
        case round =>
          obtain ⟨j, hj, rfl, hb⟩ := hrel
          by_cases hlt : j < n
          · obtain ⟨g, b, x, hAA, hgl, hoj, hom, _, hc⟩ := (HA.out.below hb.out.bel).at hlt
            subst hAA
            have y0 := hc 0 (.int .u8 x) rfl
            simp only [Nat.mul_one, Nat.add_zero] at y0
            obtain ⟨hx0, hx1⟩ := HG.out x hom
            clear hc hom hoj hgl
            have hi0 : (0 : Int) ≤ j := by omega
            have hi1 : (j : Int) < (n : Int) := by omega
            go_wp2_with fail
            have hsz : (x % 7).toNat < kindsB.size := by have : kindsB.size = 7 := rfl; omega
            have hk := kind_in (x % 7).toNat hsz
            have hs := stepK_skip hk
            refine (Step_k hb.out.s hb.out.hp ((kindsB[(x % 7).toNat]'hsz).toNat : Int) hs.2.2 hs.2.1).mono ?_
            rintro e w4 ⟨rfl, s4, t4⟩
            have B4 := Lib.hid (hb.out.step s4 t4 (by decide))
            clear s4 t4 hs hk
            go_wp2_with fail
            refine (Phase_any B4.out.s (by decide)).mono ?_
            rintro e w5 ⟨rfl, rfl⟩
            go_wp2_with fail
            go_roundw
            case rel => exact ⟨j + 1, by omega, by go_num, B4⟩
            case measure => simp [intOf]; omega
          · go_wp2_with fail
            have cv := Done_any hb.out.s (by decide)
            rw [show doneF 4 = (0, 3) from rfl] at cv
            refine cv.mono ?_
            clear cv
            rintro e w4 ⟨rfl, s4, t4⟩
            have B4 := Lib.hid (hb.out.step s4 t4 (by decide))
            clear s4 t4 hb
            go_wp2_with fail
            refine (Phase_any B4.out.s (by decide)).mono ?_
            rintro e w5 ⟨rfl, rfl⟩
            go_wp2_with fail
            refine (known_any _).mono ?_
            rintro e w9 ⟨rfl, t9⟩
            have HF := Lib.hid (B4.out.bel.trans (t9.below0 B4.out.bel.size))
            clear t9
            go_wp2
            go_ret
            exact ⟨rfl, HF.out⟩
  · have hi : (60 : Int) < (n : Int) := by omega
    go_wp2_with fail
    refine (known_any _).mono ?_
    rintro e w9 ⟨rfl, t9⟩
    have HF := Lib.hid (O2.out.bel.trans (t9.below0 O2.out.bel.size))
    clear t9
    go_wp2
    go_ret
    exact ⟨rfl, HF.out⟩

/-! ### one that is not there -/
def Gone (w : World) (p : Option Addr) : Prop := p = none ∨ ∃ g, p = some ⟨g, 0, none⟩ ∧ SS w g 0 ⟨#[]⟩ ⟨#[]⟩
theorem Gone.kept {w w' : World} {p : Option Addr} (h : Gone w p) (t : Touch [] w w') : Gone w' p := by
  rcases h with h | ⟨g, h1, h2⟩
  · exact .inl h
  · exact .inr ⟨g, h1, h2.kept t (by simp)⟩
theorem there_gone {w : World} {p : Option Addr} (h : Gone w p) : Calls Try.prog 24 #[.pointer p] w fun e w' => e = .returned (.bool false) ∧ w = w' := by
  rcases h with rfl | ⟨g, rfl, h⟩
  · exact there_nil w
  · exact there_zero h
section
variable {w : World} {p : Option Addr}
theorem from_gone (h : Gone w p) (x y : Int) : Calls Try.prog 28 #[.pointer p, .int .i64 x, .int .i64 y] w fun e w' => e = .returned (.int .i64 12) ∧ w = w' := by
  go_enter Try.func28, Try.ntmps28
  go_wp2_with fail
  refine (there_gone h).mono ?_
  rintro e w1 ⟨rfl, rfl⟩
  go_wp2
  go_ret
  exact ⟨rfl, rfl⟩
theorem Accept_gone (h : Gone w p) : Calls Try.prog 13 #[.pointer p, .bool true] w fun e w' => e = .returned (.int .i64 12) ∧ w = w' := by
  go_enter Try.func13, Try.ntmps13
  go_wp2_with fail
  refine (from_gone h _ _).mono ?_
  rintro e w1 ⟨rfl, rfl⟩
  go_wp2
  go_ret
  exact ⟨rfl, rfl⟩
theorem Done_gone (h : Gone w p) : Calls Try.prog 12 #[.pointer p] w fun e w' => e = .returned (.int .i64 12) ∧ w = w' := by
  go_enter Try.func12, Try.ntmps12
  go_wp2_with fail
  refine (from_gone h _ _).mono ?_
  rintro e w1 ⟨rfl, rfl⟩
  go_wp2
  go_ret
  exact ⟨rfl, rfl⟩
theorem Fail_gone (h : Gone w p) : Calls Try.prog 14 #[.pointer p] w fun e w' => e = .returned (.int .i64 12) ∧ w = w' := by
  go_enter Try.func14, Try.ntmps14
  go_wp2_with fail
  refine (from_gone h _ _).mono ?_
  rintro e w1 ⟨rfl, rfl⟩
  go_wp2
  go_ret
  exact ⟨rfl, rfl⟩
theorem Phase_gone (h : Gone w p) : Calls Try.prog 15 #[.pointer p] w fun e w' => e = .returned (.int .i64 0) ∧ w = w' := by
  go_enter Try.func15, Try.ntmps15
  go_wp2_with fail
  refine (there_gone h).mono ?_
  rintro e w1 ⟨rfl, rfl⟩
  go_wp2
  go_ret
  exact ⟨rfl, rfl⟩
theorem User_gone (h : Gone w p) : Calls Try.prog 10 #[.pointer p] w fun e w' => e = .returned (.string ⟨#[]⟩) ∧ w = w' := by
  go_enter Try.func10, Try.ntmps10
  go_wp2_with fail
  refine (there_gone h).mono ?_
  rintro e w1 ⟨rfl, rfl⟩
  go_wp2
  go_ret
  exact ⟨rfl, rfl⟩
theorem Db_gone (h : Gone w p) : Calls Try.prog 11 #[.pointer p] w fun e w' => e = .returned (.string ⟨#[]⟩) ∧ w = w' := by
  go_enter Try.func11, Try.ntmps11
  go_wp2_with fail
  refine (there_gone h).mono ?_
  rintro e w1 ⟨rfl, rfl⟩
  go_wp2
  go_ret
  exact ⟨rfl, rfl⟩
theorem Copy_gone (h : Gone w p) : Calls Try.prog 22 #[.pointer p] w fun e w' => e = .returned (.pointer none) ∧ w = w' := by
  go_enter Try.func22, Try.ntmps22
  go_wp2_with fail
  refine (there_gone h).mono ?_
  rintro e w1 ⟨rfl, rfl⟩
  go_wp2
  go_ret
  exact ⟨rfl, rfl⟩
theorem Step_gone (h : Gone w p) (a : AskT) : Calls Try.prog 9 #[.pointer p, .agg #[.int .u8 a.kind, .string a.name, .string a.portal, .string a.sql, .slice a.kA a.kn a.kc, .slice a.vA a.vn a.vc, .slice a.aA a.an a.ac, .slice a.nA a.nn a.nc, .slice a.fA a.fn a.fc, .int .i64 a.most, .int .u8 a.what, .bool a.cancel, .int .i64 a.pid, .int .i64 a.secret]] w fun e w' => e = .returned (.tuple #[.int .i64 0, .int .i64 12]) ∧ Touch [] w w' := by
  have t0 : Touch [] w (w.alloc (.cells #[.int .u8 a.kind, .string a.name, .string a.portal, .string a.sql, .slice a.kA a.kn a.kc, .slice a.vA a.vn a.vc, .slice a.aA a.an a.ac, .slice a.nA a.nn a.nc, .slice a.fA a.fn a.fc, .int .i64 a.most, .int .u8 a.what, .bool a.cancel, .int .i64 a.pid, .int .i64 a.secret] 30)) := (Touch.refl _ _).alloc _
  have h0 := h.kept t0
  have T := Lib.hid t0
  clear t0 h
  go_enter Try.func9, Try.ntmps9
  go_wp2_with fail
  refine (there_gone h0).mono ?_
  rintro e w1 ⟨rfl, rfl⟩
  go_wp2
  go_ret2
  exact ⟨rfl, T.out⟩
end

set_option maxHeartbeats 8000000 in
theorem SessNil_walk (w : World) (a : AskT) (g : GoodA w a) : Calls Try.prog 6 #[.agg #[.int .u8 a.kind, .string a.name, .string a.portal, .string a.sql, .slice a.kA a.kn a.kc, .slice a.vA a.vn a.vc, .slice a.aA a.an a.ac, .slice a.nA a.nn a.nc, .slice a.fA a.fn a.fc, .int .i64 a.most, .int .u8 a.what, .bool a.cancel, .int .i64 a.pid, .int .i64 a.secret]] w fun e w' => e = .returned (.bool true) ∧ Below w.heap.size w w' := by
  have t0 : Touch [] w (w.alloc (.cells #[.int .u8 a.kind, .string a.name, .string a.portal, .string a.sql, .slice a.kA a.kn a.kc, .slice a.vA a.vn a.vc, .slice a.aA a.an a.ac, .slice a.nA a.nn a.nc, .slice a.fA a.fn a.fc, .int .i64 a.most, .int .u8 a.what, .bool a.cancel, .int .i64 a.pid, .int .i64 a.secret] 30)) := (Touch.refl _ _).alloc _
  have b0 : (w.alloc (.cells #[.int .u8 a.kind, .string a.name, .string a.portal, .string a.sql, .slice a.kA a.kn a.kc, .slice a.vA a.vn a.vc, .slice a.aA a.an a.ac, .slice a.nA a.nn a.nc, .slice a.fA a.fn a.fc, .int .i64 a.most, .int .u8 a.what, .bool a.cancel, .int .i64 a.pid, .int .i64 a.secret] 30)).heap[w.heap.size]? = some (.cells #[.int .u8 a.kind, .string a.name, .string a.portal, .string a.sql, .slice a.kA a.kn a.kc, .slice a.vA a.vn a.vc, .slice a.aA a.an a.ac, .slice a.nA a.nn a.nc, .slice a.fA a.fn a.fc, .int .i64 a.most, .int .u8 a.what, .bool a.cancel, .int .i64 a.pid, .int .i64 a.secret] 30 (0, 0)) := heap_alloc_new w _
  have t1 : Touch [] (w.alloc (.cells #[.int .u8 a.kind, .string a.name, .string a.portal, .string a.sql, .slice a.kA a.kn a.kc, .slice a.vA a.vn a.vc, .slice a.aA a.an a.ac, .slice a.nA a.nn a.nc, .slice a.fA a.fn a.fc, .int .i64 a.most, .int .u8 a.what, .bool a.cancel, .int .i64 a.pid, .int .i64 a.secret] 30)) ((w.alloc (.cells #[.int .u8 a.kind, .string a.name, .string a.portal, .string a.sql, .slice a.kA a.kn a.kc, .slice a.vA a.vn a.vc, .slice a.aA a.an a.ac, .slice a.nA a.nn a.nc, .slice a.fA a.fn a.fc, .int .i64 a.most, .int .u8 a.what, .bool a.cancel, .int .i64 a.pid, .int .i64 a.secret] 30)).alloc (.cells #[.int .i64 0, .string ⟨#[]⟩, .string ⟨#[]⟩] 49)) := (Touch.refl _ _).alloc _
  have gz : Gone ((w.alloc (.cells #[.int .u8 a.kind, .string a.name, .string a.portal, .string a.sql, .slice a.kA a.kn a.kc, .slice a.vA a.vn a.vc, .slice a.aA a.an a.ac, .slice a.nA a.nn a.nc, .slice a.fA a.fn a.fc, .int .i64 a.most, .int .u8 a.what, .bool a.cancel, .int .i64 a.pid, .int .i64 a.secret] 30)).alloc (.cells #[.int .i64 0, .string ⟨#[]⟩, .string ⟨#[]⟩] 49)) (some ⟨w.heap.size + 1, 0, none⟩) := .inr ⟨w.heap.size + 1, rfl, by
    have := heap_alloc_new (w.alloc (.cells #[.int .u8 a.kind, .string a.name, .string a.portal, .string a.sql, .slice a.kA a.kn a.kc, .slice a.vA a.vn a.vc, .slice a.aA a.an a.ac, .slice a.nA a.nn a.nc, .slice a.fA a.fn a.fc, .int .i64 a.most, .int .u8 a.what, .bool a.cancel, .int .i64 a.pid, .int .i64 a.secret] 30)) (Obj.cells #[.int .i64 0, .string ⟨#[]⟩, .string ⟨#[]⟩] 49)
    simpa [SS] using this⟩
  have b1 := (t1.block _ (heap_lt b0) (by simp)).trans b0
  have F := Lib.hid (And.intro (t0.trans t1 (by simp)) (And.intro gz b1))
  have gn : ∀ V : World, Gone V none := fun V => .inl rfl
  have GN := Lib.hid gn
  clear t0 b0 t1 gz b1 gn
  go_enter Try.func6, Try.ntmps6
  go_upto_region 3 with fail
  generalize ((w.alloc (.cells #[.int .u8 a.kind, .string a.name, .string a.portal, .string a.sql, .slice a.kA a.kn a.kc, .slice a.vA a.vn a.vc, .slice a.aA a.an a.ac, .slice a.nA a.nn a.nc, .slice a.fA a.fn a.fc, .int .i64 a.most, .int .u8 a.what, .bool a.cancel, .int .i64 a.pid, .int .i64 a.secret] 30)).alloc (.cells #[.int .i64 0, .string ⟨#[]⟩, .string ⟨#[]⟩] 49)) = W at *
  obtain ⟨z, hz⟩ : ∃ z, z = w.heap.size + 1 := ⟨_, rfl⟩
  obtain ⟨g0, hg0⟩ : ∃ z, z = w.heap.size := ⟨_, rfl⟩
  rw [← hz, ← hg0] at F
  rw [← hz, ← hg0]
  clear hz hg0
  have GA := Lib.hid (g.kept0 F.out.1)
  clear g
  obtain ⟨y0, y1, y2, y3, y4, y5, y6, y7, y8, y9, y10, y11, y12, y13⟩ := ask_cells F.out.2.2
  go_wp2_with fail
  refine (light_any GA.out.few).mono ?_
  rintro e w2 ⟨rfl, t2⟩
  have F2 := Lib.hid (And.intro (F.out.1.trans t2 (by simp)) (And.intro (F.out.2.1.kept t2) ((t2.block _ (heap_lt F.out.2.2) (by simp)).trans F.out.2.2)))
  clear t2 F y0 y1 y2 y3 y4 y5 y6 y7 y8 y9 y10 y11 y12 y13
  generalize (decide (a.kn ≤ 30) && decide (a.vn ≤ 30)) = lb at *
  cases lb with
  | false =>
    go_wp2_with fail
    refine (known_any _).mono ?_
    rintro e w9 ⟨rfl, t9⟩
    have HF := Lib.hid (F2.out.1.trans t9 (by simp))
    clear t9
    go_wp2
    go_ret
    exact ⟨rfl, HF.out.below0 (Nat.le_refl _)⟩
  | true =>
  obtain ⟨y0, y1, y2, y3, y4, y5, y6, y7, y8, y9, y10, y11, y12, y13⟩ := ask_cells F2.out.2.2
  go_wp2_with fail
  refine (Step_gone (GN.out w2) a).mono ?_
  rintro e w3 ⟨rfl, t3⟩
  have F3 := Lib.hid (And.intro (F2.out.1.trans t3 (by simp)) (And.intro (F2.out.2.1.kept t3) ((t3.block _ (heap_lt F2.out.2.2) (by simp)).trans F2.out.2.2)))
  clear t3 F2 y0 y1 y2 y3 y4 y5 y6 y7 y8 y9 y10 y11 y12 y13
  obtain ⟨y0, y1, y2, y3, y4, y5, y6, y7, y8, y9, y10, y11, y12, y13⟩ := ask_cells F3.out.2.2
  go_wp2_with fail
  refine (Step_gone F3.out.2.1 a).mono ?_
  rintro e w4 ⟨rfl, t4⟩
  have F4 := Lib.hid (And.intro (F3.out.1.trans t4 (by simp)) (F3.out.2.1.kept t4))
  clear t4 F3 y0 y1 y2 y3 y4 y5 y6 y7 y8 y9 y10 y11 y12 y13
  go_wp2_with fail
  refine (Accept_gone (GN.out w4)).mono ?_
  rintro e w5 ⟨rfl, rfl⟩
  go_wp2_with fail
  refine (Done_gone F4.out.2).mono ?_
  rintro e w5 ⟨rfl, rfl⟩
  go_wp2_with fail
  refine (Fail_gone F4.out.2).mono ?_
  rintro e w5 ⟨rfl, rfl⟩
  go_wp2_with fail
  refine (Phase_gone (GN.out w4)).mono ?_
  rintro e w5 ⟨rfl, rfl⟩
  go_wp2_with fail
  refine (User_gone (GN.out w4)).mono ?_
  rintro e w5 ⟨rfl, rfl⟩
  go_wp2_with fail
  refine (Db_gone F4.out.2).mono ?_
  rintro e w5 ⟨rfl, rfl⟩
  go_wp2_with fail
  refine (Copy_gone (GN.out w4)).mono ?_
  rintro e w5 ⟨rfl, rfl⟩
  go_wp2_with fail
  refine (Copy_gone F4.out.2).mono ?_
  rintro e w5 ⟨rfl, rfl⟩
  go_wp2_with fail
  refine (known_any _).mono ?_
  rintro e w9 ⟨rfl, t9⟩
  have HF := Lib.hid (F4.out.1.trans t9 (by simp))
  clear t9
  go_wp2
  go_ret
  exact ⟨rfl, HF.out.below0 (Nat.le_refl _)⟩
end Go.Proofs.Ythommlfigdjehaa
