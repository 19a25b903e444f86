/- The document's session: val, first, Step. -/
import Derived.Test.YthommlfigdjehaaSe6
namespace Go.Proofs.Ythommlfigdjehaa
open Go Go.RowKit Go.Maps

theorem rval_any {w : World} {a : AskT} (h : GoodA w a) (key : ByteArray) :
    Calls Try.prog 32 #[.agg #[.int .u8 a.kind, .string a.name, .string a.portal, .string a.sql, .slice a.kA a.kn a.kc, .slice a.vA a.vn a.vc, .slice a.aA a.an a.ac, .slice a.nA a.nn a.nc, .slice a.fA a.fn a.fc, .int .i64 a.most, .int .u8 a.what, .bool a.cancel, .int .i64 a.pid, .int .i64 a.secret], .string key] w fun e w' => e = .returned (.string (valF a.keys a.vals key)) ∧ Touch [] w w' := by
  obtain ⟨kind, name, portal, sql, kA, kn, kc, vA, vn, vc, aA, an, ac, nA, nn, nc, fA, fn, fc, most, what, cancel, pid, secret, keys, vals⟩ := a
  have hg : (w.alloc (.cells #[.int .u8 kind, .string name, .string portal, .string sql, .slice kA kn kc, .slice vA vn vc, .slice aA an ac, .slice nA nn nc, .slice fA fn fc, .int .i64 most, .int .u8 what, .bool cancel, .int .i64 pid, .int .i64 secret] 30)).heap[w.heap.size]? = some (.cells #[.int .u8 kind, .string name, .string portal, .string sql, .slice kA kn kc, .slice vA vn vc, .slice aA an ac, .slice nA nn nc, .slice fA fn fc, .int .i64 most, .int .u8 what, .bool cancel, .int .i64 pid, .int .i64 secret] 30 (0, 0)) := heap_alloc_new w _
  have ta : Touch [] w (w.alloc (.cells #[.int .u8 kind, .string name, .string portal, .string sql, .slice kA kn kc, .slice vA vn vc, .slice aA an ac, .slice nA nn nc, .slice fA fn fc, .int .i64 most, .int .u8 what, .bool cancel, .int .i64 pid, .int .i64 secret] 30)) := (Touch.refl _ _).alloc _
  have hk0 := h.few.1
  have hv0 := h.few.2
  unfold maxLen at hk0 hv0
  have c4 : (w.alloc (.cells #[.int .u8 kind, .string name, .string portal, .string sql, .slice kA kn kc, .slice vA vn vc, .slice aA an ac, .slice nA nn nc, .slice fA fn fc, .int .i64 most, .int .u8 what, .bool cancel, .int .i64 pid, .int .i64 secret] 30)).cell? ⟨w.heap.size, 4, none⟩ = some (.slice kA kn kc) := by rw [cell_of hg]; rfl
  have c5 : (w.alloc (.cells #[.int .u8 kind, .string name, .string portal, .string sql, .slice kA kn kc, .slice vA vn vc, .slice aA an ac, .slice nA nn nc, .slice fA fn fc, .int .i64 most, .int .u8 what, .bool cancel, .int .i64 pid, .int .i64 secret] 30)).cell? ⟨w.heap.size, 5, none⟩ = some (.slice vA vn vc) := by rw [cell_of hg]; rfl
  have K := Lib.hid (And.intro ta (h.kept0 ta))
  clear hg ta h
  dsimp only at *
  go_enter Try.func32, Try.ntmps32
  go_wp2_with fail
  generalize (w.alloc (.cells #[.int .u8 kind, .string name, .string portal, .string sql, .slice kA kn kc, .slice vA vn vc, .slice aA an ac, .slice nA nn nc, .slice fA fn fc, .int .i64 most, .int .u8 what, .bool cancel, .int .i64 pid, .int .i64 secret] 30)) = W at *
  generalize w.heap.size = g at *
  have V0 : Hid (valF keys vals key = valF (keys.drop 0) (vals.drop 0) key) := Lib.hid rfl
  go_loop [5] (fun i => ∃ k : Nat, k ≤ kn ∧ i = .int .i64 k ∧ Hid (valF keys vals key = valF (keys.drop k) (vals.drop k) key)) (fun i => kn - (intOf i).toNat)
  case atStart => exact ⟨0, Nat.zero_le _, rfl, V0⟩
  clear V0
  case round =>
    obtain ⟨k, hk, rfl, V⟩ := hrel
    have hlk := K.out.2.keys.len
    have hlv := K.out.2.vals.len
    dsimp only at hlk hlv
    by_cases hlt : k < kn
    · have hi0 : (0 : Int) ≤ k := by omega
      have hi1 : (k : Int) < (kn : Int) := by omega
      by_cases hv : k < vn
      · have hv1 : (k : Int) < (vn : Int) := by omega
        obtain ⟨g1, o1, s, hA, hg1, hs, _, _, hc⟩ := K.out.2.keys.at hlt
        have d0 := hc 0 (.string s) rfl
        subst hA
        simp only [Nat.mul_one, Nat.add_zero] at d0
        have Hs := Lib.hid hs
        clear hc hs hg1
        by_cases he : s = key
        · have e1 := beq_yes he
          obtain ⟨g2, o2, v, hB, hg2, hvv, _, _, hc2⟩ := K.out.2.vals.at hv
          have d1 := hc2 0 (.string v) rfl
          simp only [Nat.mul_one, Nat.add_zero] at d1
          subst hB
          have HR : Hid (valF keys vals key = v) := Lib.hid (V.out.trans (valF_hit Hs.out hvv he))
          clear hc2 hvv hg2 he hlk hlv
          go_wp2_with fail
          go_ret
          exact ⟨by rw [HR.out]; rfl, K.out.1⟩
        · have e1 := beq_no he
          have V' : Hid (valF keys vals key = valF (keys.drop (k + 1)) (vals.drop (k + 1)) key) := Lib.hid (V.out.trans (valF_miss Hs.out he))
          clear he hlk hlv
          go_wp2_with fail
          go_round
          case rel => exact ⟨k + 1, by omega, by go_num, V'⟩
          case measure => simp [intOf]; omega
      · have hv1 : ¬ (k : Int) < (vn : Int) := by omega
        have HR : Hid (valF keys vals key = ⟨#[]⟩) := Lib.hid (V.out.trans (valF_end (.inr (by omega))))
        clear hlk hlv
        go_wp2_with fail
        go_ret
        exact ⟨by rw [HR.out]; rfl, K.out.1⟩
    · have hi1 : ¬ (k : Int) < (kn : Int) := by omega
      have HR : Hid (valF keys vals key = ⟨#[]⟩) := Lib.hid (V.out.trans (valF_end (.inl (by omega))))
      go_wp2_with fail
      go_ret
      exact ⟨by rw [HR.out]; rfl, K.out.1⟩

theorem isNil {s : ByteArray} (h : s = ⟨#[]⟩) : s.toList = [] := by rw [h, ByteArray.toList_eq]
theorem notNil {s : ByteArray} (h : s ≠ ⟨#[]⟩) : ¬ s.toList = [] ∧ s.toList.isEmpty = false := by
  have : ¬ s.toList = [] := fun hh => h (by
    rw [ByteArray.toList_eq] at hh
    obtain ⟨⟨z⟩⟩ := s
    simpa using hh)
  exact ⟨this, by simpa using this⟩

/-- What is asked lies elsewhere. -/
def AskFar (p : Nat) (a : AskT) : Prop := (a.kn = 0 ∨ ∀ x, a.kA = some x → x.block ≠ p) ∧ (a.vn = 0 ∨ ∀ x, a.vA = some x → x.block ≠ p)
theorem GoodA.far {w : World} {a : AskT} (h : GoodA w a) {p : Nat} (hp : w.heap.size ≤ p) : AskFar p a := ⟨h.keys.far hp, h.vals.far hp⟩
theorem GoodA.keptF {w w' : World} {a : AskT} {p : Nat} (h : GoodA w a) (t : Touch [p] w w') (f : AskFar p a) : GoodA w' a :=
  ⟨h.kind, h.keys.keptX t (f.1.imp id fun h x hx => by simpa using h x hx), h.vals.keptX t (f.2.imp id fun h x hx => by simpa using h x hx), h.few⟩
set_option maxHeartbeats 2000000 in
theorem rfirst_any {w : World} {p : Nat} {u d : ByteArray} {a : AskT} (h : RS w p 0 u d) (g : GoodA w a) (far : AskFar p a) {n er ph' : Int} {u' d' : ByteArray} (hf : firstF u d a.kind a.cancel a.keys a.vals = (n, er, ph', u', d')) :
    Calls Try.prog 29 #[.pointer (some ⟨p, 0, none⟩), .agg #[.int .u8 a.kind, .string a.name, .string a.portal, .string a.sql, .slice a.kA a.kn a.kc, .slice a.vA a.vn a.vc, .slice a.aA a.an a.ac, .slice a.nA a.nn a.nc, .slice a.fA a.fn a.fc, .int .i64 a.most, .int .u8 a.what, .bool a.cancel, .int .i64 a.pid, .int .i64 a.secret]] w fun e w' => e = .returned (.tuple #[.int .i64 n, .int .i64 er]) ∧ RS w' p (ph' - 1) u' d' ∧ Touch [p] w w' := by
  obtain ⟨kind, name, portal, sql, kA, kn, kc, vA, vn, vc, aA, an, ac, nA, nn, nc, fA, fn, fc, most, what, cancel, pid, secret, keys, vals⟩ := a
  have t0 : Touch [] w (w.alloc (.cells #[.int .u8 kind, .string name, .string portal, .string sql, .slice kA kn kc, .slice vA vn vc, .slice aA an ac, .slice nA nn nc, .slice fA fn fc, .int .i64 most, .int .u8 what, .bool cancel, .int .i64 pid, .int .i64 secret] 30)) := (Touch.refl _ _).alloc _
  have b0 : (w.alloc (.cells #[.int .u8 kind, .string name, .string portal, .string sql, .slice kA kn kc, .slice vA vn vc, .slice aA an ac, .slice nA nn nc, .slice fA fn fc, .int .i64 most, .int .u8 what, .bool cancel, .int .i64 pid, .int .i64 secret] 30)).heap[w.heap.size]? = some (.cells #[.int .u8 kind, .string name, .string portal, .string sql, .slice kA kn kc, .slice vA vn vc, .slice aA an ac, .slice nA nn nc, .slice fA fn fc, .int .i64 most, .int .u8 what, .bool cancel, .int .i64 pid, .int .i64 secret] 30 (0, 0)) := heap_alloc_new w _
  have hlp := heap_lt h
  have FAR := Lib.hid far
  clear far
  have H := Lib.hid (And.intro (h.kept t0 (by simp)) (And.intro (g.kept0 t0) (And.intro t0 (And.intro b0 hlp))))
  obtain ⟨y0, y1, y2, y3, y4, y5, y6, y7, y8, y9, y10, y11, y12, y13⟩ := ask_cells (a := ⟨kind, name, portal, sql, kA, kn, kc, vA, vn, vc, aA, an, ac, nA, nn, nc, fA, fn, fc, most, what, cancel, pid, secret, keys, vals⟩) b0
  dsimp only at hf y0 y1 y2 y3 y4 y5 y6 y7 y8 y9 y10 y11 y12 y13
  clear h g t0 b0 hlp
  unfold firstF at hf
  have done0 : ∀ (W : World) {x y : Int}, RS W p 0 u d → Touch [] w W → ∀ w', RS w' p x u d → Touch [p] W w' → Touch [p] w w' := fun W _ _ _ t w' _ t' => (t.mono (by simp)).trans t' (by simp)
  have DN := Lib.hid done0
  clear done0
  by_cases hk : kind = 0
  · have hk2 : (kind != 0) = false := by simp [hk]
    cases cancel with
    | true =>
      rw [if_neg (by simp [hk]), if_pos rfl] at hf
      simp only [Prod.mk.injEq] at hf
      obtain ⟨rfl, rfl, rfl, rfl, rfl⟩ := hf
      clear hk
      go_enter Try.func29, Try.ntmps29
      go_wp2_with fail
      refine (to_any H.out.1 6 8 0).mono ?_
      rintro e w1 ⟨rfl, h1, t1⟩
      have R := Lib.hid (And.intro h1 ((H.out.2.2.1.mono (S' := [p]) (by simp)).trans t1 (by simp)))
      clear h1 t1
      go_wp2
      go_ret2
      exact ⟨rfl, R.out.1, R.out.2⟩
    | false =>
      by_cases hu : valF keys vals userB = ⟨#[]⟩
      · rw [if_pos (.inr ⟨rfl, hu⟩)] at hf
        simp only [Prod.mk.injEq] at hf
        obtain ⟨rfl, rfl, rfl, rfl, rfl⟩ := hf
        have hu1 := isNil hu
        have HU := Lib.hid hu1
        clear hk hu hu1
        go_enter Try.func29, Try.ntmps29
        go_wp2_with fail
        have cv := rval_any H.out.2.1 userB
        dsimp only at cv
        refine cv.mono ?_
        clear cv
        rintro e w1 ⟨rfl, t1⟩
        have hu1 := HU.out
        dsimp only
        generalize valF keys vals userB = us at *
        go_wp2_with fail
        refine (to_any (H.out.1.kept t1 (by simp)) 6 9 4).mono ?_
        rintro e w2 ⟨rfl, h2, t2⟩
        have R := Lib.hid (And.intro h2 (((H.out.2.2.1.trans t1 (by simp)).mono (S' := [p]) (by simp)).trans t2 (by simp)))
        clear h2 t2 t1
        go_wp2
        go_ret2
        exact ⟨rfl, R.out.1, R.out.2⟩
      · rw [if_neg (by simp [hk, hu]), if_neg (by simp)] at hf
        simp only [Prod.mk.injEq] at hf
        obtain ⟨rfl, rfl, rfl, hu', hd'⟩ := hf
        have HF := Lib.hid (And.intro hu' (And.intro hd' (notNil hu)))
        clear hk hu hu' hd'
        go_enter Try.func29, Try.ntmps29
        go_wp2_with fail
        have cv := rval_any H.out.2.1 userB
        dsimp only at cv
        refine cv.mono ?_
        clear cv
        rintro e w1 ⟨rfl, t1⟩
        dsimp only
        generalize hus : valF keys vals userB = us at *
        have HUS := Lib.hid hus
        obtain ⟨v1, v2⟩ := HF.out.2.2
        clear hus
        have b1 := (t1.block _ (heap_lt H.out.2.2.2.1) (by simp)).trans H.out.2.2.2.1
        have hne : p ≠ w.heap.size := Nat.ne_of_lt H.out.2.2.2.2
        generalize (w.alloc (.cells #[.int .u8 kind, .string name, .string portal, .string sql, .slice kA kn kc, .slice vA vn vc, .slice aA an ac, .slice nA nn nc, .slice fA fn fc, .int .i64 most, .int .u8 what, .bool false, .int .i64 pid, .int .i64 secret] 30)) = W at *
        generalize w.heap.size = g0 at *
        clear y0 y1 y2 y3 y4 y5 y6 y7 y8 y9 y10 y11 y12 y13
        obtain ⟨y0, y1, y2, y3, y4, y5, y6, y7, y8, y9, y10, y11, y12, y13⟩ := ask_cells (a := ⟨kind, name, portal, sql, kA, kn, kc, vA, vn, vc, aA, an, ac, nA, nn, nc, fA, fn, fc, most, what, false, pid, secret, keys, vals⟩) b1
        dsimp only at y0 y1 y2 y3 y4 y5 y6 y7 y8 y9 y10 y11 y12 y13
        go_wp2_with fail
        have cv := rval_any (H.out.2.1.kept0 t1) userB
        dsimp only at cv
        refine cv.mono ?_
        rintro e w2 ⟨rfl, t2⟩
        clear cv
        rw [HUS.out]
        have h2 := (H.out.1.kept t1 (by simp)).kept t2 (by simp)
        have f1 := frozen_of h2 1
        have q1 := h2.c1
        have s1 := h2.set1 us
        have b2 := (t2.block g0 (heap_lt b1) (by simp)).trans b1
        have b3 := (s1.2.block g0 (heap_lt b2) (by simpa using hne.symm)).trans b2
        have T := (((H.out.2.2.1.trans t1 (by simp)).trans t2 (by simp)).mono (S' := [p]) (by simp)).trans s1.2 (by simp)
        have R := Lib.hid (And.intro s1.1 (And.intro T (And.intro b3 (And.intro (((t1.trans t2 (by simp)).mono (S' := [p]) (by simp)).trans s1.2 (by simp)) s1.2))))
        have G2 := Lib.hid ((H.out.2.1.kept0 t1).kept0 t2)
        clear b1 b2 b3 h2 s1 T t2 y0 y1 y2 y3 y4 y5 y6 y7 y8 y9 y10 y11 y12 y13
        go_upto_region 6 with fail
        generalize w2.setCell ⟨p, 1, none⟩ (.string us) = W6 at *
        have g6 := Lib.hid (G2.out.keptF R.out.2.2.2.2 FAR.out)
        obtain ⟨y0, y1, y2, y3, y4, y5, y6, y7, y8, y9, y10, y11, y12, y13⟩ := ask_cells (a := ⟨kind, name, portal, sql, kA, kn, kc, vA, vn, vc, aA, an, ac, nA, nn, nc, fA, fn, fc, most, what, false, pid, secret, keys, vals⟩) R.out.2.2.1
        dsimp only at y0 y1 y2 y3 y4 y5 y6 y7 y8 y9 y10 y11 y12 y13
        go_wp2_with fail
        have cv := rval_any g6.out dbB
        dsimp only at cv
        refine cv.mono ?_
        rintro e w7 ⟨rfl, t7⟩
        clear cv y0 y1 y2 y3 y4 y5 y6 y7 y8 y9 y10 y11 y12 y13 f1 q1
        generalize hds : valF keys vals dbB = ds at *
        have HDS := Lib.hid hds
        clear hds
        have h7 := R.out.1.kept t7 (by simp)
        have f2 := frozen_of h7 2
        have q1 := h7.c1
        have q2 := h7.c2
        have s2 := h7.set2 ds
        have s3 := s2.1.set2 us
        have T := (R.out.2.1.trans t7 (by simp)).trans s2.2 (by simp)
        have R2 := Lib.hid (And.intro s2.1 (And.intro s3.1 (And.intro T (T.trans s3.2 (by simp)))))
        clear h7 s2 s3 T t7
        by_cases hd : ds = ⟨#[]⟩
        · have hd1 := isNil hd
          have HD2 : Hid (us = u' ∧ us = d') := Lib.hid ⟨HF.out.1, by have := HF.out.2.1; rw [if_pos hd] at this; exact this⟩
          clear hd
          go_wp2_with fail
          refine (to_any R2.out.2.1 1 1 0).mono ?_
          rintro e w9 ⟨rfl, h9, t9⟩
          have R3 := Lib.hid (And.intro h9 (R2.out.2.2.2.trans t9 (by simp)))
          clear h9 t9
          go_wp2
          go_ret2
          exact ⟨rfl, by rw [← HD2.out.1, ← HD2.out.2]; exact R3.out.1, R3.out.2⟩
        · obtain ⟨hd1, hd2⟩ := notNil hd
          have HD2 : Hid (us = u' ∧ ds = d') := Lib.hid ⟨HF.out.1, by have := HF.out.2.1; rw [if_neg hd] at this; exact this⟩
          clear hd
          go_wp2_with fail
          refine (to_any R2.out.1 1 1 0).mono ?_
          rintro e w9 ⟨rfl, h9, t9⟩
          have R3 := Lib.hid (And.intro h9 (R2.out.2.2.1.trans t9 (by simp)))
          clear h9 t9
          go_wp2
          go_ret2
          exact ⟨rfl, by rw [← HD2.out.1, ← HD2.out.2]; exact R3.out.1, R3.out.2⟩
  · rw [if_pos (.inl hk)] at hf
    simp only [Prod.mk.injEq] at hf
    obtain ⟨rfl, rfl, rfl, rfl, rfl⟩ := hf
    have hk2 : (kind != 0) = true := by simp [hk]
    clear hk
    go_enter Try.func29, Try.ntmps29
    go_wp2_with fail
    refine (to_any H.out.1 6 9 4).mono ?_
    rintro e w1 ⟨rfl, h1, t1⟩
    have R := Lib.hid (And.intro h1 ((H.out.2.2.1.mono (S' := [p]) (by simp)).trans t1 (by simp)))
    clear h1 t1
    go_wp2
    go_ret2
    exact ⟨rfl, R.out.1, R.out.2⟩

set_option maxHeartbeats 2000000 in
theorem rStep_any {w : World} {p : Nat} {ph : Int} {u d : ByteArray} {a : AskT} (h : RS w p (ph - 1) u d) (hp : 1 ≤ ph ∧ ph ≤ 7) (g : GoodA w a) (far : AskFar p a) {n er ph' : Int} {u' d' : ByteArray} (hf : stepF ph u d a.kind a.cancel a.keys a.vals = (n, er, ph', u', d')) :
    Calls Try.prog 18 #[.pointer (some ⟨p, 0, none⟩), .agg #[.int .u8 a.kind, .string a.name, .string a.portal, .string a.sql, .slice a.kA a.kn a.kc, .slice a.vA a.vn a.vc, .slice a.aA a.an a.ac, .slice a.nA a.nn a.nc, .slice a.fA a.fn a.fc, .int .i64 a.most, .int .u8 a.what, .bool a.cancel, .int .i64 a.pid, .int .i64 a.secret]] w fun e w' => e = .returned (.tuple #[.int .i64 n, .int .i64 er]) ∧ RS w' p (ph' - 1) u' d' ∧ Touch [p] w w' := by
  have t0 : Touch [] w (w.alloc (.cells #[.int .u8 a.kind, .string a.name, .string a.portal, .string a.sql, .slice a.kA a.kn a.kc, .slice a.vA a.vn a.vc, .slice a.aA a.an a.ac, .slice a.nA a.nn a.nc, .slice a.fA a.fn a.fc, .int .i64 a.most, .int .u8 a.what, .bool a.cancel, .int .i64 a.pid, .int .i64 a.secret] 30)) := (Touch.refl _ _).alloc _
  have b0 : (w.alloc (.cells #[.int .u8 a.kind, .string a.name, .string a.portal, .string a.sql, .slice a.kA a.kn a.kc, .slice a.vA a.vn a.vc, .slice a.aA a.an a.ac, .slice a.nA a.nn a.nc, .slice a.fA a.fn a.fc, .int .i64 a.most, .int .u8 a.what, .bool a.cancel, .int .i64 a.pid, .int .i64 a.secret] 30)).heap[w.heap.size]? = some (.cells #[.int .u8 a.kind, .string a.name, .string a.portal, .string a.sql, .slice a.kA a.kn a.kc, .slice a.vA a.vn a.vc, .slice a.aA a.an a.ac, .slice a.nA a.nn a.nc, .slice a.fA a.fn a.fc, .int .i64 a.most, .int .u8 a.what, .bool a.cancel, .int .i64 a.pid, .int .i64 a.secret] 30 (0, 0)) := heap_alloc_new w _
  have hlp := heap_lt h
  have FAR := Lib.hid far
  have H := Lib.hid (And.intro (h.kept t0 (by simp)) (And.intro (g.kept0 t0) (And.intro t0 (And.intro b0 hlp))))
  obtain ⟨y0, y1, y2, y3, y4, y5, y6, y7, y8, y9, y10, y11, y12, y13⟩ := ask_cells b0
  have c0 := H.out.1.c0
  clear h g t0 b0 hlp far
  unfold stepF at hf
  by_cases h1 : ph = 1
  · subst h1
    rw [if_pos rfl] at hf
    have F := Lib.hid hf
    clear hf
    go_enter Try.func18, Try.ntmps18
    go_wp2_with fail
    refine (rfirst_any H.out.1 H.out.2.1 FAR.out F.out).mono ?_
    rintro e w1 ⟨rfl, h1, t1⟩
    have R := Lib.hid (And.intro h1 ((H.out.2.2.1.mono (S' := [p]) (by simp)).trans t1 (by simp)))
    clear h1 t1
    go_wp2
    go_ret2
    exact ⟨rfl, R.out.1, R.out.2⟩
  rw [if_neg h1] at hf
  simp only [Prod.mk.injEq] at hf
  obtain ⟨e1, e2, e3, rfl, rfl⟩ := hf
  have p0 : (ph - 1 == 0) = false := by simp; omega
  clear y1 y2 y3 y4 y5 y6 y7 y8 y9 y10 y11 y12 y13
  obtain ⟨hp1, hp2⟩ := hp
  by_cases h2 : ph = 2
  · subst h2
    clear p0 h1
    by_cases hk : a.kind = 112
    · have e : stepK 2 a.kind = (2, 0, 2) := by simp [stepK, hk]
      rw [e] at e1 e2 e3
      subst e1 e2 e3
      have k1 : (a.kind == 112) = true := by simp [hk]
      clear hk e
      go_enter Try.func18, Try.ntmps18
      go_wp2
      go_ret2
      exact ⟨rfl, H.out.1, H.out.2.2.1.mono (by simp)⟩
    · have e : stepK 2 a.kind = (9, 10, 7) := by simp [stepK, hk]
      rw [e] at e1 e2 e3
      subst e1 e2 e3
      have k1 : (a.kind == 112) = false := by simp [hk]
      clear hk e
      go_enter Try.func18, Try.ntmps18
      go_wp2_with fail
      refine (to_any H.out.1 6 9 10).mono ?_
      rintro e w1 ⟨rfl, h1, t1⟩
      have R := Lib.hid (And.intro h1 ((H.out.2.2.1.mono (S' := [p]) (by simp)).trans t1 (by simp)))
      clear h1 t1
      go_wp2
      go_ret2
      exact ⟨rfl, R.out.1, R.out.2⟩
  have p1 : (ph - 1 == 1) = false := by simp; omega
  by_cases h7 : ph = 7
  · subst h7
    have e : stepK 7 a.kind = (0, 10, 7) := by simp [stepK]
    rw [e] at e1 e2 e3
    subst e1 e2 e3
    clear e
    go_enter Try.func18, Try.ntmps18
    go_wp2
    go_ret2
    exact ⟨rfl, H.out.1, H.out.2.2.1.mono (by simp)⟩
  have p7 : (ph - 1 == 6) = false := by simp; omega
  by_cases hX : a.kind = 88
  · have e : stepK ph a.kind = (9, 0, 7) := by simp [stepK, h2, h7, hX]
    rw [e] at e1 e2 e3
    subst e1 e2 e3
    have k1 : (a.kind == 88) = true := by simp [hX]
    clear hX e h1 h2 h7
    go_enter Try.func18, Try.ntmps18
    go_wp2_with fail
    refine (to_any H.out.1 6 9 0).mono ?_
    rintro e w1 ⟨rfl, h1, t1⟩
    have R := Lib.hid (And.intro h1 ((H.out.2.2.1.mono (S' := [p]) (by simp)).trans t1 (by simp)))
    clear h1 t1
    go_wp2
    go_ret2
    exact ⟨rfl, R.out.1, R.out.2⟩
  have kX : (a.kind == 88) = false := by simp [hX]
  by_cases h4 : ph = 4
  · subst h4
    have e : stepK 4 a.kind = (6, 0, 4) := by simp [stepK, hX]
    rw [e] at e1 e2 e3
    subst e1 e2 e3
    clear e hX h1 h2 h7
    go_enter Try.func18, Try.ntmps18
    go_wp2
    go_ret2
    exact ⟨rfl, H.out.1, H.out.2.2.1.mono (by simp)⟩
  have p4 : (ph - 1 == 3) = false := by simp; omega
  by_cases hS : a.kind = 83
  · have e : stepK ph a.kind = (5, 0, 3) := by simp [stepK, h2, h7, h4, hS]
    rw [e] at e1 e2 e3
    subst e1 e2 e3
    have k1 : (a.kind == 83) = true := by simp [hS]
    clear hS e h1 h2 h7 h4 hX
    go_enter Try.func18, Try.ntmps18
    go_wp2_with fail
    refine (to_any H.out.1 2 5 0).mono ?_
    rintro e w1 ⟨rfl, h1, t1⟩
    have R := Lib.hid (And.intro h1 ((H.out.2.2.1.mono (S' := [p]) (by simp)).trans t1 (by simp)))
    clear h1 t1
    go_wp2
    go_ret2
    exact ⟨rfl, R.out.1, R.out.2⟩
  have kS : (a.kind == 83) = false := by simp [hS]
  by_cases h6 : ph = 6
  · subst h6
    have e : stepK 6 a.kind = (7, 0, 6) := by simp [stepK, hX, hS]
    rw [e] at e1 e2 e3
    subst e1 e2 e3
    clear e hX hS h1 h2 h7 h4
    go_enter Try.func18, Try.ntmps18
    go_wp2
    go_ret2
    exact ⟨rfl, H.out.1, H.out.2.2.1.mono (by simp)⟩
  have p6 : (ph - 1 == 5) = false := by simp; omega
  by_cases hQ : a.kind = 81
  · have e : stepK ph a.kind = (3, 0, 4) := by simp [stepK, h2, h7, h4, h6, hQ]
    rw [e] at e1 e2 e3
    subst e1 e2 e3
    have k1 : (a.kind == 81) = true := by simp [hQ]
    clear hQ e h1 h2 h7 h4 hX hS h6
    go_enter Try.func18, Try.ntmps18
    go_wp2_with fail
    refine (to_any H.out.1 3 3 0).mono ?_
    rintro e w1 ⟨rfl, h1, t1⟩
    have R := Lib.hid (And.intro h1 ((H.out.2.2.1.mono (S' := [p]) (by simp)).trans t1 (by simp)))
    clear h1 t1
    go_wp2
    go_ret2
    exact ⟨rfl, R.out.1, R.out.2⟩
  have kQ : (a.kind == 81) = false := by simp [hQ]
  by_cases hG : a.kind = 80 ∨ a.kind = 66 ∨ a.kind = 68 ∨ a.kind = 69 ∨ a.kind = 67 ∨ a.kind = 72
  · have e : stepK ph a.kind = (4, 0, 5) := by simp [stepK, h2, h7, h4, h6, hQ, hX, hS, hG]
    rw [e] at e1 e2 e3
    subst e1 e2 e3
    clear e h1 h2 h7 h4 hX hS h6 hQ
    rcases hG with hG | hG | hG | hG | hG | hG
    · have kk : (a.kind == 80) = true := by simp [hG]
      clear hG
      go_enter Try.func18, Try.ntmps18
      go_wp2_with fail
      refine (to_any H.out.1 4 4 0).mono ?_
      rintro e w1 ⟨rfl, h1, t1⟩
      have R := Lib.hid (And.intro h1 ((H.out.2.2.1.mono (S' := [p]) (by simp)).trans t1 (by simp)))
      clear h1 t1
      go_wp2
      go_ret2
      exact ⟨rfl, R.out.1, R.out.2⟩
    · have kk : (a.kind == 66) = true := by simp [hG]
      have m0 : (a.kind == 80) = false := by simp [hG]
      clear hG
      go_enter Try.func18, Try.ntmps18
      go_wp2_with fail
      refine (to_any H.out.1 4 4 0).mono ?_
      rintro e w1 ⟨rfl, h1, t1⟩
      have R := Lib.hid (And.intro h1 ((H.out.2.2.1.mono (S' := [p]) (by simp)).trans t1 (by simp)))
      clear h1 t1
      go_wp2
      go_ret2
      exact ⟨rfl, R.out.1, R.out.2⟩
    · have kk : (a.kind == 68) = true := by simp [hG]
      have m0 : (a.kind == 80) = false := by simp [hG]
      have m1 : (a.kind == 66) = false := by simp [hG]
      clear hG
      go_enter Try.func18, Try.ntmps18
      go_wp2_with fail
      refine (to_any H.out.1 4 4 0).mono ?_
      rintro e w1 ⟨rfl, h1, t1⟩
      have R := Lib.hid (And.intro h1 ((H.out.2.2.1.mono (S' := [p]) (by simp)).trans t1 (by simp)))
      clear h1 t1
      go_wp2
      go_ret2
      exact ⟨rfl, R.out.1, R.out.2⟩
    · have kk : (a.kind == 69) = true := by simp [hG]
      have m0 : (a.kind == 80) = false := by simp [hG]
      have m1 : (a.kind == 66) = false := by simp [hG]
      have m2 : (a.kind == 68) = false := by simp [hG]
      clear hG
      go_enter Try.func18, Try.ntmps18
      go_wp2_with fail
      refine (to_any H.out.1 4 4 0).mono ?_
      rintro e w1 ⟨rfl, h1, t1⟩
      have R := Lib.hid (And.intro h1 ((H.out.2.2.1.mono (S' := [p]) (by simp)).trans t1 (by simp)))
      clear h1 t1
      go_wp2
      go_ret2
      exact ⟨rfl, R.out.1, R.out.2⟩
    · have kk : (a.kind == 67) = true := by simp [hG]
      have m0 : (a.kind == 80) = false := by simp [hG]
      have m1 : (a.kind == 66) = false := by simp [hG]
      have m2 : (a.kind == 68) = false := by simp [hG]
      have m3 : (a.kind == 69) = false := by simp [hG]
      clear hG
      go_enter Try.func18, Try.ntmps18
      go_wp2_with fail
      refine (to_any H.out.1 4 4 0).mono ?_
      rintro e w1 ⟨rfl, h1, t1⟩
      have R := Lib.hid (And.intro h1 ((H.out.2.2.1.mono (S' := [p]) (by simp)).trans t1 (by simp)))
      clear h1 t1
      go_wp2
      go_ret2
      exact ⟨rfl, R.out.1, R.out.2⟩
    · have kk : (a.kind == 72) = true := by simp [hG]
      have m0 : (a.kind == 80) = false := by simp [hG]
      have m1 : (a.kind == 66) = false := by simp [hG]
      have m2 : (a.kind == 68) = false := by simp [hG]
      have m3 : (a.kind == 69) = false := by simp [hG]
      have m4 : (a.kind == 67) = false := by simp [hG]
      clear hG
      go_enter Try.func18, Try.ntmps18
      go_wp2_with fail
      refine (to_any H.out.1 4 4 0).mono ?_
      rintro e w1 ⟨rfl, h1, t1⟩
      have R := Lib.hid (And.intro h1 ((H.out.2.2.1.mono (S' := [p]) (by simp)).trans t1 (by simp)))
      clear h1 t1
      go_wp2
      go_ret2
      exact ⟨rfl, R.out.1, R.out.2⟩
  · have e : stepK ph a.kind = (9, 10, 7) := by simp [stepK, h2, h7, h4, h6, hQ, hX, hS, hG]
    rw [e] at e1 e2 e3
    subst e1 e2 e3
    have m1 : (a.kind == 80) = false := by simp; omega
    have m2 : (a.kind == 66) = false := by simp; omega
    have m3 : (a.kind == 68) = false := by simp; omega
    have m4 : (a.kind == 69) = false := by simp; omega
    have m5 : (a.kind == 67) = false := by simp; omega
    have m6 : (a.kind == 72) = false := by simp; omega
    clear e h1 h2 h7 h4 hX hS h6 hQ hG
    go_enter Try.func18, Try.ntmps18
    go_wp2_with fail
    refine (to_any H.out.1 6 9 10).mono ?_
    rintro e w1 ⟨rfl, h1, t1⟩
    have R := Lib.hid (And.intro h1 ((H.out.2.2.1.mono (S' := [p]) (by simp)).trans t1 (by simp)))
    clear h1 t1
    go_wp2
    go_ret2
    exact ⟨rfl, R.out.1, R.out.2⟩
end Go.Proofs.Ythommlfigdjehaa
