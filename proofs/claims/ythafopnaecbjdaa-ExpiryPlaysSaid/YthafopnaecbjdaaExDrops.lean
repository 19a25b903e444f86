/- ExpiryDrops: what was dropped is never due. -/
import Derived.Test.YthafopnaecbjdaaExSame
namespace Go.Proofs.Ythafopnaecbjdaa
open Go Go.RowKit Go.Maps Go.Proofs.Ythafopnaecbjdaa.Pa Go.Proofs.YthafopnaecbjdaaW.PrintWords Go.Proofs.YthafopnaecbjdaaW.PrintLast Go.Proofs.YthafopnaecbjdaaW.PrintMore

section
variable {w w1 : World} {p mb : Nat} {hv : Value} {L : List It} {sets : Int}
theorem QS.other {w2 : World} {S : List Nat} (h : QS w w1 p mb hv L sets) (t : Touch S w1 w2) (hs : ∀ i ∈ Foot p mb hv, i ∉ S) (b : Below w.heap.size w w2) : QS w w2 p mb hv L sets := ⟨h.q.kept t hs, h.f, b⟩
def CopyS (w w1 : World) (L : List It) (sets : Int) (e : Ending) (w' : World) : Prop := ∃ p2, e = .returned (.pointer (some ⟨p2, 0, none⟩)) ∧ ∃ mb2 hv2, QS w w' p2 mb2 hv2 L sets ∧ (∀ j ∈ Foot p2 mb2 hv2, w1.heap.size ≤ j) ∧ Below w1.heap.size w1 w'
theorem copy_qs (h : QS w w1 p mb hv L sets) : Calls Try.prog 16 #[.pointer (some ⟨p, 0, none⟩)] w1 (CopyS w w1 L sets) := by
  refine (ecopy_any h.q).mono ?_
  rintro e w' ⟨p2, rfl, mb2, hv2, q, f, b⟩
  exact ⟨p2, rfl, mb2, hv2, ⟨q, fun j hj => Nat.le_trans h.b.size (f j hj), h.b.trans (b.mono h.b.size)⟩, f, b⟩
end
theorem drop_no (L : List It) (k : ByteArray) : ∀ x ∈ dropL L k, x.key ≠ k := fun _ hx => of_decide_eq_true (List.mem_filter.1 hx).2
theorem mem_tw {f : It → Bool} {L : List It} {x : It} (hx : x ∈ L.takeWhile f) : f x = true := by
  induction L with
  | nil => cases hx
  | cons a r ih =>
    rw [List.takeWhile_cons] at hx
    split at hx
    · rename_i ha
      rcases List.mem_cons.1 hx with rfl | hx
      · exact ha
      · exact ih hx
    · cases hx
theorem put_split (L : List It) (k : ByteArray) (n s : Int) (hL : ∀ x ∈ L, x.key ≠ k) : ∃ T D, putL L k n s = T ++ ⟨k, n, s + 1⟩ :: D ∧ (∀ x ∈ T, x.at_ ≤ n) ∧ (∀ x ∈ D, x.key ≠ k) ∧ ∀ x ∈ T, x.key ≠ k := by
  have hd : dropL L k = L := (hasL_not hL).2
  refine ⟨(dropL L k).takeWhile (fun y => decide (y.at_ ≤ n)), (dropL L k).dropWhile (fun y => decide (y.at_ ≤ n)), rfl, fun x hx => ?_, fun x hx => ?_, fun x hx => ?_⟩
  · simpa using mem_tw hx
  · exact drop_no L k x ((List.dropWhile_sublist _).subset hx)
  · exact drop_no L k x ((List.takeWhile_sublist _).subset hx)
theorem mem_dw {f : It → Bool} {L : List It} {x : It} (hx : x ∈ L) (h : f x = false) : x ∈ L.dropWhile f := by
  induction L with
  | nil => cases hx
  | cons a r ih =>
    rw [List.dropWhile_cons]
    split
    · rename_i ha
      rcases List.mem_cons.1 hx with rfl | hx
      · rw [h] at ha; cases ha
      · exact ih hx
    · exact hx
theorem dw_app {f : It → Bool} {T D : List It} {x : It} (hT : ∀ y ∈ T, f y = true) (hx : f x = true) : (T ++ x :: D).dropWhile f = D.dropWhile f := by
  induction T with
  | nil => rw [List.nil_append, List.dropWhile_cons, if_pos hx]
  | cons a r ih => rw [List.cons_append, List.dropWhile_cons, if_pos (hT a List.mem_cons_self)]; exact ih fun y hy => hT y (List.mem_cons_of_mem _ hy)
structure DropI (w wr : World) (p mb : Nat) (hv : Value) (L : List It) (sets : Int) (k : Nat) : Prop where
  q : QS w wr p mb hv L sets
  s0 : 0 ≤ sets
  s1 : sets ≤ k
  len : L.length ≤ k
set_option maxRecDepth 4000 in
set_option maxHeartbeats 8000000 in
theorem ExpiryDrops_walk (w : World) (A : Option Addr) (n cp : Nat) (l : List OpE) (hA : RowG opEC 3 w A n l) (_hn : n ≤ maxLen) (key : ByteArray) (hkey : key.size ≤ 140737488351232) (a : Int) (ha : 0 ≤ a ∧ a ≤ 65535) : Calls Try.prog 7 #[.slice A n cp, .string key, .int .u16 a] w fun e w' => e = .returned (.bool true) ∧ Below w.heap.size w w' := by
  have HA := Lib.hid hA
  have HAA := Lib.hid ha
  have HNEW := Lib.hid (new_qs w)
  have hw1 : wrap64 a = a := by unfold wrap64; omega
  have ha0 := ha.1
  have ha1 := ha.2
  clear hA ha
  go_enter Try.func7, Try.ntmps7
  repeat (first | go_step3 | go_values | go_skip | go_guarded | go_step | go_upon)
  (go_at_call 8; refine HNEW.out.mono ?_; rintro e w1 ⟨p, rfl, mb, hv0, q0⟩; have Q0 := Lib.hid q0; clear q0; dsimp only)
  by_cases h100 : key.size ≤ 100
  case neg =>
    have hi : (100 : Int) < (key.size : Int) := by omega
    repeat (first | go_step3 | go_values | go_skip | go_guarded | go_step | go_upon)
    (go_at_call 23; refine (known_any _).mono ?_; rintro e w2 ⟨rfl, b2⟩; have HB2 := Lib.hid b2; clear b2; dsimp only)
    repeat (first | go_step3 | go_values | go_skip | go_guarded | go_step | go_upon)
    go_ret
    exact ⟨rfl, Q0.out.b.trans (HB2.out.mono Q0.out.b.size)⟩
  case pos =>
  have hi : ¬ (100 : Int) < (key.size : Int) := by omega
  have HKEY := Lib.hid (good100 h100)
  clear h100 hkey
  repeat (first | go_step3 | go_values | go_skip | go_guarded | go_step | go_upon)
  go_loopw [8] (fun i wr => ∃ (k : Nat) (hv : Value) (L : List It) (sets : Int), i = .int .i64 k ∧ k ≤ n ∧ k ≤ 40 ∧ Hid (DropI w wr p mb hv L sets k)) (fun i _ => n - (intOf i).toNat)
  case atStart => exact ⟨0, hv0, [], 0, rfl, Nat.zero_le _, by omega, Lib.hid ⟨Q0.out, by omega, by omega, by simp⟩⟩
  case round =>
    obtain ⟨k, hv, L, sets, rfl, hk, hk40, HS⟩ := hrel
    by_cases hlt : k < n ∧ k < 40
    case pos =>
      obtain ⟨hlt, hlt40⟩ := hlt
      have hki : (k : Int) < n := by omega
      have hk0 : (0 : Int) ≤ k := by omega
      have hki4 : (k : Int) < 40 := by omega
      obtain ⟨g, o, x, hAe, hgl, hxj, hxm, htk, hcell⟩ := (HA.out.below HS.out.q.b).at hlt
      have cx : wr.cell? ⟨g, o + k * 3 + 1, none⟩ = some (.string x.key) := hcell 1 _ rfl
      have cy : wr.cell? ⟨g, o + k * 3 + 2, none⟩ = some (.int .i64 x.at_) := hcell 2 _ rfl
      have HAe := Lib.hid hAe
      subst hAe
      have HLT := Lib.hid (And.intro hlt hlt40)
      obtain ⟨xk, xkey, xat⟩ := x
      dsimp only at cx cy
      clear hgl hxj hxm htk hcell hlt hlt40
      by_cases hbig : xkey.size ≤ 100
      case neg =>
        have hbi : ¬ (xkey.size : Int) ≤ 100 := by omega
        clear hbig
        repeat (first | go_step3 | go_values | go_skip | go_guarded | go_step | go_upon)
        try go_roundw
        case rel => exact ⟨k + 1, hv, L, sets, by go_num, HLT.out.1, HLT.out.2, Lib.hid ⟨HS.out.q, HS.out.s0, by have := HS.out.s1; omega, by have := HS.out.len; omega⟩⟩
        case measure => have := HLT.out; simp [intOf]; omega
      case pos =>
      have hbi : (xkey.size : Int) ≤ 100 := by omega
      have HSET := Lib.hid (set_gen (w1 := wr.drew) ⟨HS.out.q.q.kept ((Touch.refl [] wr).drew) (by simp), HS.out.q.f, HS.out.q.b.trans ((Touch.refl [] wr).drew.below HS.out.q.b.size (by simp))⟩ xkey (good100 hbig) xat HS.out.s0 (by have := HS.out.s1; omega) (by have := HS.out.len; omega))
      clear hbig
      repeat (first | go_step3 | go_values | go_skip | go_guarded | go_step | go_upon)
      go_still_tail 11, (by kernel_rfl)
      repeat (first | go_step3 | go_values | go_skip | go_guarded | go_step | go_upon)
      (go_at_call 9; refine HSET.out.mono ?_; rintro e w3 ⟨rfl, hv3, q3, t3, f3⟩; have Q3 := Lib.hid q3; clear q3 t3 f3; dsimp only)
      have HSL := Lib.hid (S1_len L sets xkey xat)
      repeat (first | go_step3 | go_values | go_skip | go_guarded | go_step | go_upon)
      try go_roundw
      case rel => exact ⟨k + 1, hv3, _, _, by go_num, HLT.out.1, HLT.out.2, Lib.hid ⟨Q3.out, by have := HSL.out; have := HS.out.s0; omega, by have := HSL.out; have := HS.out.s1; omega, by have := HSL.out; have := HS.out.len; omega⟩⟩
      case measure => have := HLT.out; simp [intOf]; omega
    case neg =>
      have HDR := Lib.hid (drop_qs HS.out.q key HKEY.out)
      have hor : ¬ (k : Int) < n ∨ ((k : Int) < n ∧ ¬ (k : Int) < 40) := by omega
      have HLE := Lib.hid HS.out.len
      have hL2 : Hid ((dropL L key).length ≤ 40) := Lib.hid (Nat.le_trans (List.length_filter_le _ _) (by have := HS.out.len; omega))
      clear hlt
      obtain ⟨M, hM⟩ : ∃ M, M = dropL L key := ⟨_, rfl⟩
      have HM := Lib.hid hM
      unfold DropS at HDR
      rw [← hM] at HDR hL2
      clear hM
      have HNO : Hid (∀ x ∈ M, x.key ≠ key) := Lib.hid (by rw [HM.out]; exact drop_no L key)
      rcases hor with hge | ⟨hge, hge2⟩
      all_goals
        repeat (first | go_step3 | go_values | go_skip | go_guarded | go_step | go_upon)
        (go_at_call 11; refine HDR.out.mono ?_; rintro e w2 ⟨rfl, hv2, q2, _, _⟩; have Q2 := Lib.hid q2; clear q2; dsimp only)
        have HAT := Lib.hid (at_miss Q2.out.q key HKEY.out HNO.out)
        repeat (first | go_step3 | go_values | go_skip | go_guarded | go_step | go_upon)
        (go_at_call 17; refine HAT.out.mono ?_; rintro e w3 ⟨rfl, rfl⟩; dsimp only)
        have HCP := Lib.hid (copy_qs Q2.out)
        repeat (first | go_step3 | go_values | go_skip | go_guarded | go_step | go_upon)
        (go_at_call 16; refine HCP.out.mono ?_; rintro e w4 ⟨p4, rfl, mb4, hv4, q4, f4, b4⟩; have Q4 := Lib.hid q4; have F4 := Lib.hid f4; have P4 := Lib.hid (Q2.out.below b4); clear q4 f4 b4; dsimp only)
        have HDU := Lib.hid (due_qs Q4.out 1099511627776)
        have hall : M.takeWhile (soon 1099511627776) = M := (soon_split (L1 := M) (L2 := []) (by simp) (fun x hx => (Q2.out.q.ats x hx).2) (.inl rfl)).1
        unfold DueS at HDU
        rw [hall] at HDU
        clear hall
        repeat (first | go_step3 | go_values | go_skip | go_guarded | go_step | go_upon)
        (go_at_call 14; refine HDU.out.mono ?_; rintro e w5 ⟨v5, rfl, hv5, q5, r5, n5, m5, f5, t5⟩; have R5 := Lib.hid r5; have Q5 := Lib.hid (P4.out.other t5 (fun i hi hm => by have h1 := Q2.out.q.foot_lt i hi; have h2 := F4.out i hm; omega) q5.b); clear q5 r5 n5 m5 f5 t5; dsimp only)
        obtain ⟨A5, c5, e5⟩ := R5.out.slice
        have HV5 := Lib.hid e5
        obtain ⟨d, hd⟩ : ∃ d, d = (keysL M).length := ⟨_, rfl⟩
        rw [← hd] at e5
        subst e5
        have HD := Lib.hid hd
        have hd40 : d ≤ 40 := by have := hL2.out; unfold keysL at hd; rw [List.length_map] at hd; omega
        clear hd
        repeat (first | go_step3 | go_values | go_skip | go_guarded | go_step | go_upon)
        go_loopw [13] (fun i wx => wx = w5 ∧ ∃ (m : Nat), i = .int .i64 m ∧ m ≤ d) (fun i _ => d - (intOf i).toNat)
        case atStart => exact ⟨rfl, 0, rfl, Nat.zero_le _⟩
        case round =>
          obtain ⟨rfl, m, rfl, hm⟩ := hrel
          by_cases hmd : m < d
          · have hmi : (m : Int) < d := by omega
            have hm0 : (0 : Int) ≤ m := by omega
            have hml : m < (keysL M).length := by have := HD.out; omega
            obtain ⟨y, hy⟩ : ∃ y, (keysL M)[m]? = some y := ⟨_, List.getElem?_eq_getElem hml⟩
            obtain ⟨g6, c6, e6, d6⟩ := R5.out.at m y hy
            obtain ⟨rfl, rfl⟩ : A5 = some ⟨g6, 0, none⟩ ∧ c5 = c6 := by
              injection e6 with q1 _ q3
              exact ⟨q1, q3⟩
            have hyk : y ≠ key := by
              obtain ⟨z, hz, rfl⟩ := List.mem_map.1 (List.mem_of_getElem? hy)
              exact HNO.out z hz
            have q0 : (y.toList == key.toList) = false := by rw [beq_eq_false_iff_ne]; exact fun h => hyk (ba_list.1 h)
            have HMD := Lib.hid hmd
            clear hy hml e6 hyk hmd
            repeat (first | go_step3 | go_values | go_skip | go_guarded | go_step | go_upon)
            try go_roundw
            case rel => exact ⟨trivial, m + 1, by go_num, HMD.out⟩
            case measure => have := HMD.out; simp [intOf]; omega
          · have hmi : ¬ (m : Int) < d := by omega
            clear hmd
            have HSET := Lib.hid (set_gen Q5.out key HKEY.out a HS.out.s0 (by have := HS.out.s1; omega) (by have := hL2.out; omega))
            unfold SetG errN S1 at HSET
            rw [if_pos (show okT a from ⟨by omega, by omega⟩), if_pos (show okT a from ⟨by omega, by omega⟩)] at HSET
            obtain ⟨T, D, hTD, hT, hDn, hTn⟩ := put_split M key a sets HNO.out
            have HTD := Lib.hid (And.intro hTD (And.intro hT (And.intro hDn hTn)))
            clear hTD hT hDn hTn
            repeat (first | go_step3 | go_values | go_skip | go_guarded | go_step | go_upon)
            (go_at_call 9; refine HSET.out.mono ?_; rintro e w7 ⟨rfl, hv7, q7, _, _⟩; have Q7 := Lib.hid q7; clear q7; dsimp only)
            have HCP2 := Lib.hid (copy_qs Q7.out)
            repeat (first | go_step3 | go_values | go_skip | go_guarded | go_step | go_upon)
            (go_at_call 16; refine HCP2.out.mono ?_; rintro e w8 ⟨p8, rfl, mb8, hv8, q8, f8, b8⟩; have Q8 := Lib.hid q8; have F8 := Lib.hid f8; have P8 := Lib.hid (Q7.out.below b8); clear q8 f8 b8; dsimp only)
            have HDU8 := Lib.hid (due_qs Q8.out (a - 1))
            repeat (first | go_step3 | go_values | go_skip | go_guarded | go_step | go_upon)
            (go_at_call 14; refine HDU8.out.mono ?_; rintro e w9 ⟨v9, rfl, hv9, q9, r9, n9, m9, f9, t9⟩; have Q9 := Lib.hid q9; have P9 := Lib.hid (P8.out.other t9 (fun i hi hm => by have h1 := Q7.out.q.foot_lt i hi; have h2 := F8.out i hm; omega) q9.b); clear q9 r9 n9 m9 f9 t9; dsimp only)
            have HAT9 := Lib.hid (at_hit Q9.out.q key HKEY.out ⟨key, a, sets + 1⟩ (mem_dw (by rw [HTD.out.1]; simp) (by unfold soon; simp; omega)) rfl)
            repeat (first | go_step3 | go_values | go_skip | go_guarded | go_step | go_upon)
            (go_at_call 17; refine HAT9.out.mono ?_; rintro e w10 ⟨rfl, rfl⟩; dsimp only)
            have HDU9 := Lib.hid (due_qs P9.out a)
            repeat (first | go_step3 | go_values | go_skip | go_guarded | go_step | go_upon)
            (go_at_call 14; refine HDU9.out.mono ?_; rintro e w11 ⟨v11, rfl, hv11, q11, r11, n11, m11, f11, t11⟩; have Q11 := Lib.hid q11; clear q11 r11 n11 m11 f11 t11; dsimp only)
            have HAT11 := Lib.hid (at_miss Q11.out.q key HKEY.out (fun x hx => by
              rw [HTD.out.1, dw_app (fun y hy => by unfold soon; simpa using HTD.out.2.1 y hy) (by unfold soon; simp)] at hx
              exact HTD.out.2.2.1 x ((List.dropWhile_sublist _).subset hx)))
            repeat (first | go_step3 | go_values | go_skip | go_guarded | go_step | go_upon)
            (go_at_call 17; refine HAT11.out.mono ?_; rintro e w12 ⟨rfl, rfl⟩; dsimp only)
            repeat (first | go_step3 | go_values | go_skip | go_guarded | go_step | go_upon)
            (go_at_call 23; refine (known_any _).mono ?_; rintro e w13 ⟨rfl, b13⟩; have Q13 := Lib.hid (Q11.out.below b13); clear b13; dsimp only)
            repeat (first | go_step3 | go_values | go_skip | go_guarded | go_step | go_upon)
            go_ret
            exact ⟨rfl, Q13.out.b⟩
theorem drops_row {w : World} {m base : Nat} {v : Value} (hv : Value.okWide Try.prog w .any base 22 v) (h : Rd Try.prog w m 22 v.cells.toList) (key : ByteArray) (hk : key.size ≤ 140737488351232) {a : Int} (ha : (Lit.int .u16 a).wf = true) : Calls Try.prog 7 #[v, .string key, .int .u16 a] w fun e w' => e = .returned (.bool true) ∧ Below w.heap.size w w' := by
  obtain ⟨A, n, cp, l, rfl, h1, h2⟩ := ops_arg hv h
  exact ExpiryDrops_walk w A n cp l h1 h2 key hk a (u16_of ha)
end Go.Proofs.Ythafopnaecbjdaa
