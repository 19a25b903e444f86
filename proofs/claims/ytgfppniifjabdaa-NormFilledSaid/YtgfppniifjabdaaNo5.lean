/- norm: a parameter's number. -/
import Derived.Test.YtgfppniifjabdaaNo4
namespace Go.Proofs.Ytgfppniifjabdaa
open Go Go.RowKit Go.Lib Go.Proofs.YtgfppniifjabdaaW.PrintWords

theorem dg_step (s : ByteArray) (pos : Nat) (h : pos < s.size) : ((s[pos]'h).toNat < 128 → Utf8.decode s pos = ((s[pos]'h).toNat, 1)) ∧ (128 ≤ (s[pos]'h).toNat → 128 ≤ (Utf8.decode s pos).1 ∧ 1 ≤ (Utf8.decode s pos).2) := by
  rw [← decodeL_drop]
  have h' : pos < s.data.toList.length := by rw [Array.length_toList]; exact h
  have hd : s.data.toList.drop pos = s[pos]'h :: s.data.toList.drop (pos + 1) := List.drop_eq_getElem_cons h'
  rw [hd]
  generalize s[pos]'h = x
  generalize s.data.toList.drop (pos + 1) = r
  constructor
  · intro hx
    rw [decodeL_N]
    unfold decodeN
    rw [if_pos (by show x.toNat < 128; omega)]
    rfl
  · intro hx
    have hsh := decodeN_shape (x :: r).length ((x :: r).getD 0 0).toNat ((x :: r).getD 1 0).toNat ((x :: r).getD 2 0).toNat ((x :: r).getD 3 0).toNat
    rw [← decodeL_N] at hsh
    rcases hsh with ⟨h0, e⟩ | ⟨h0, hl, h1, hv, e⟩ | ⟨h0, hl, h1, h2, hv, _, e⟩ | ⟨h0, hl, h1, h2, h3, hv, _, e⟩ | e
    · have h0 : x.toNat < 128 := h0
      omega
    · rw [e]; exact ⟨hv, Nat.succ_le_succ (Nat.zero_le _)⟩
    · rw [e]; exact ⟨by show 128 ≤ _; omega, Nat.succ_le_succ (Nat.zero_le _)⟩
    · rw [e]; exact ⟨by show 128 ≤ _; omega, Nat.succ_le_succ (Nat.zero_le _)⟩
    · rw [e]; exact ⟨by decide, by decide⟩
/-- The digits of a parameter, from a place on. -/
def parD : List UInt8 → Nat → Int → Option Int
  | [], _, n => some n
  | c :: r, i, n => if c.toNat < 48 ∨ 57 < c.toNat then none else parD r (i + 1) (if i < 9 then 10 * n + ((c.toNat : Int) - 48) else n)
/-- A parameter's number. -/
def parL (kd : Int) (t : List UInt8) : Option Int := if kd ≠ 5 ∨ t.length < 2 ∨ t.head? ≠ some 36 then none else (parD (t.drop 1) 0 0).map (fun n => if 10 < t.length then 0 else n)
theorem bl_cons (s : ByteArray) (i : Nat) (h : i < s.size) : (bl s).drop i = s[i]'h :: (bl s).drop (i + 1) := by
  have h' : i < (bl s).length := by rw [bl_len]; exact h
  exact List.drop_eq_getElem_cons h'
set_option maxRecDepth 100000 in
set_option maxHeartbeats 4000000 in
theorem param_any (kd : Int) (t : ByteArray) (at_ : Int) (ht : t.size ≤ 140737488351232) (w : World) : Calls Try.prog 24 #[.agg #[.int .i64 kd, .string t, .int .i64 at_]] w fun e w' => e = .returned (.tuple #[.int .i64 ((parL kd (bl t)).getD 0), .bool (parL kd (bl t)).isSome]) ∧ Below w.heap.size w w' := by
  have hu := Try.underlying35
  have HT := Lib.hid ht
  obtain ⟨res, hres⟩ : ∃ r, r = parL kd (bl t) := ⟨_, rfl⟩
  rw [← hres]
  have HRES := Lib.hid hres
  clear hres ht
  go_enter Try.func24, Try.ntmps24
  by_cases hk : kd = 5
  · have hki : (kd != 5) = false := by rw [hk]; rfl
    by_cases h2 : t.size < 2
    · repeat (first | go_values | go_skip | go_guarded | go_step | go_upon)
      go_ret2
      have HN : res = none := by
        rw [HRES.out]
        unfold parL
        rw [if_pos (Or.inr (Or.inl (by rw [bl_len]; exact h2)))]
      exact ⟨by rw [HN]; rfl, below_alloc (Below.refl _ _) _⟩
    · have h0 : 0 < t.size := by omega
      by_cases hd : (t[0]'h0) = 36
      · have hdi : (((t[0]'h0).toNat : Int) != 36) = false := by rw [hd]; rfl
        have hh : (bl t).head? = some 36 := by
          have := bl_cons t 0 h0
          rw [List.drop_zero] at this
          rw [this, hd]
          rfl
        have hlt := bl_len t
        have HR2 : Hid (res = (parD ((bl t).drop 1) 0 0).map (fun n => if 10 < t.size then 0 else n)) := Lib.hid (by
          rw [HRES.out]
          unfold parL
          rw [if_neg (by rintro (h | h | h); exact h hk; rw [hlt] at h; omega; exact h hh), hlt])
        clear hh hlt
        repeat (first | go_values | go_skip | go_guarded | go_step | go_upon)
        obtain ⟨u, hu1⟩ : ∃ u, u = t.extract 1 t.size := ⟨_, rfl⟩
        rw [← hu1]
        have HU : Hid ((bl t).drop 1 = bl u ∧ u.size + 1 = t.size) := Lib.hid (by
          rw [hu1]
          refine ⟨(bl_tail t).symm, ?_⟩
          simp only [ByteArray.size_extract]
          omega)
        clear hu1
        obtain ⟨g, hg⟩ : ∃ g, g = w.heap.size := ⟨_, rfl⟩
        have BK : Hid ((w.alloc (.cells #[.int .i64 5, .string t, .int .i64 at_] 35)).heap[g]? = some (.cells #[.int .i64 5, .string t, .int .i64 at_] 35 (0, 0))) := Lib.hid (by rw [hg]; exact blk_new _ _)
        have HB : Hid (Below w.heap.size w (w.alloc (.cells #[.int .i64 5, .string t, .int .i64 at_] 35))) := Lib.hid (below_alloc (Below.refl _ _) _)
        have HZ : Hid ((w.alloc (.cells #[.int .i64 5, .string t, .int .i64 at_] 35)).heap.size = g + 1) := Lib.hid (by rw [hg]; exact Array.size_push ..)
        rw [← hg]
        clear hg
        generalize (w.alloc (.cells #[.int .i64 5, .string t, .int .i64 at_] 35)) = W0 at *
        clear h2 hd hdi hki hk
        go_loopw [4] (fun n wr => ∃ (k : Nat) (c : Int), n = .int .i64 c ∧ wr = W0.iter u k ∧ Hid (0 ≤ c ∧ c < 10 ^ (min k 9)) ∧ Hid (k ≤ u.size) ∧ Hid (parD (bl u) 0 0 = parD ((bl u).drop k) k c)) (fun _ wr => u.size - wr.iterPos W0.heap.size)
        case atStart => exact ⟨0, 0, rfl, rfl, Lib.hid ⟨Int.le_refl _, by decide⟩, Lib.hid (Nat.zero_le _), Lib.hid rfl⟩
        case round =>
          obtain ⟨k, c, rfl, rfl, HC, HK, HP⟩ := hrel
          by_cases hp : k < u.size
          · have hstep := dg_step u k hp
            have hdr := bl_cons u k hp
            have HD : Hid (parD (bl u) 0 0 = if (u[k]'hp).toNat < 48 ∨ 57 < (u[k]'hp).toNat then none else parD ((bl u).drop (k + 1)) (k + 1) (if k < 9 then 10 * c + (((u[k]'hp).toNat : Int) - 48) else c)) := Lib.hid (by
              rw [HP.out, hdr]
              rfl)
            have hnx : ∀ ty, (Instr.next (.pointer (some ⟨g + 1, 0, none⟩)) true ty).run Try.prog (W0.iter u k) = .ok (.tuple #[.bool true, .int .i64 k, .int .i32 (Utf8.decode u k).1]) (W0.iter u (k + (Utf8.decode u k).2)) := fun ty => by
              rw [← HZ.out]
              exact run_next_any W0 u k ty hp
            by_cases hr : (u[k]'hp).toNat < 48 ∨ 57 < (u[k]'hp).toNat
            · have HX : Hid (res = none) := Lib.hid (by
                rw [HR2.out, HU.out.1, HD.out, if_pos hr]
                rfl)
              have hbad : (Utf8.decode u k).1 < 48 ∨ 57 < (Utf8.decode u k).1 := by
                by_cases hl : (u[k]'hp).toNat < 128
                · rw [hstep.1 hl]; exact hr
                · have := (hstep.2 (by omega)).1
                  omega
              clear hstep hdr hr
              generalize (Utf8.decode u k).1 = r at *
              by_cases ha : r < 48
              · have hai : (r : Int) < 48 := by omega
                clear hbad ha
                repeat (first | go_values | go_skip | go_guarded | go_step | go_upon)
                go_ret2
                exact ⟨by rw [HX.out]; rfl, HB.out.alloc (by have := HB.out.size; omega) _⟩
              · have hai : ¬ (r : Int) < 48 := by omega
                have hbi : (57 : Int) < (r : Int) := by omega
                clear hbad ha
                repeat (first | go_values | go_skip | go_guarded | go_step | go_upon)
                go_ret2
                exact ⟨by rw [HX.out]; rfl, HB.out.alloc (by have := HB.out.size; omega) _⟩
            · have hlow : (u[k]'hp).toNat < 128 := by omega
              have hai : ¬ ((u[k]'hp).toNat : Int) < 48 := by omega
              have hbi : ¬ (57 : Int) < ((u[k]'hp).toNat : Int) := by omega
              have hdx : ((u[k]'hp).toNat : Int) - 48 ≤ 9 := by omega
              have hdy : (48 : Int) ≤ ((u[k]'hp).toNat : Int) := by omega
              have HE := Lib.hid (hstep.1 hlow)
              rw [hstep.1 hlow] at hnx
              rw [if_neg hr] at HD
              clear hstep hdr hr hlow
              generalize ((u[k]'hp).toNat) = r at *
              by_cases h9 : k < 9
              · have h9i : (k : Int) < 9 := by omega
                have hc0 : 0 ≤ c := HC.out.1
                have hc9 : c < 1000000000 := by
                  have := HC.out.2
                  have h2 := (by decide : ∀ j : Nat, j < 10 → (10 : Int) ^ j ≤ 1000000000) (min k 9) (by omega)
                  omega
                have HC2 : Hid (0 ≤ 10 * c + ((r : Int) - 48) ∧ 10 * c + ((r : Int) - 48) < 10 ^ (min (k + 1) 9)) := Lib.hid (by
                  refine ⟨by omega, ?_⟩
                  have := HC.out.2
                  rw [show min k 9 = k by omega] at this
                  rw [show min (k + 1) 9 = k + 1 by omega, Int.pow_succ]
                  omega)
                rw [if_pos h9] at HD
                clear h9
                repeat (first | go_values | go_skip | go_guarded | go_step | go_upon)
                go_roundw
                case rel => exact ⟨k + 1, 10 * c + ((r : Int) - 48), by go_num, rfl, HC2, Lib.hid hp, Lib.hid (by rw [← HD.out])⟩
                case measure => simp; omega
              · have h9i : ¬ (k : Int) < 9 := by omega
                have HC2 : Hid (0 ≤ c ∧ c < 10 ^ (min (k + 1) 9)) := Lib.hid (by
                  refine ⟨HC.out.1, ?_⟩
                  have := HC.out.2
                  rw [show min k 9 = 9 by omega] at this
                  rw [show min (k + 1) 9 = 9 by omega]
                  exact this)
                rw [if_neg h9] at HD
                clear h9
                repeat (first | go_values | go_skip | go_guarded | go_step | go_upon)
                go_roundw
                case rel => exact ⟨k + 1, c, rfl, rfl, HC2, Lib.hid hp, Lib.hid (by rw [← HD.out])⟩
                case measure => simp; omega
          · have hnx := fun ty => run_next_end (P := Try.prog) W0 u k ty hp
            simp only [HZ.out] at hnx
            have HX : Hid (res = some (if 10 < t.size then 0 else c)) := Lib.hid (by rw [HR2.out, HU.out.1, HP.out, List.drop_of_length_le (by rw [bl_len]; omega)]; rfl)
            have hc1 : (W0.iter u k).cell? ⟨g, 1, none⟩ = some (.string t) := (blk_cell (blk_below BK.out ((Below.refl _ _).alloc (Nat.le_refl _) _)) 1).trans rfl
            by_cases hL : 10 < t.size
            · have hLi : (10 : Int) < t.size := by omega
              rw [if_pos hL] at HX
              clear hL
              repeat (first | go_values | go_skip | go_guarded | go_step | go_upon)
              go_ret2
              exact ⟨by rw [HX.out]; rfl, HB.out.alloc (by have := HB.out.size; omega) _⟩
            · have hLi : ¬ (10 : Int) < t.size := by omega
              rw [if_neg hL] at HX
              clear hL
              repeat (first | go_values | go_skip | go_guarded | go_step | go_upon)
              go_ret2
              exact ⟨by rw [HX.out]; rfl, HB.out.alloc (by have := HB.out.size; omega) _⟩
      · have hdi : (((t[0]'h0).toNat : Int) != 36) = true := by
          rw [bne_iff_ne]
          intro e
          exact hd (UInt8.toNat_inj.1 (by show (t[0]'h0).toNat = 36; omega))
        have HN : Hid (res = none) := Lib.hid (by
          rw [HRES.out]
          unfold parL
          rw [if_pos (Or.inr (Or.inr (by
            have := bl_cons t 0 h0
            rw [List.drop_zero] at this
            rw [this]
            exact fun e => hd (Option.some.inj e))))])
        repeat (first | go_values | go_skip | go_guarded | go_step | go_upon)
        go_ret2
        exact ⟨by rw [HN.out]; rfl, below_alloc (Below.refl _ _) _⟩
  · have hki : (kd != 5) = true := by rw [bne_iff_ne]; exact hk
    repeat (first | go_values | go_skip | go_guarded | go_step | go_upon)
    go_ret2
    have HN : res = none := by
      rw [HRES.out]
      unfold parL
      rw [if_pos (Or.inl hk)]
    exact ⟨by rw [HN]; rfl, below_alloc (Below.refl _ _) _⟩
end Go.Proofs.Ytgfppniifjabdaa
