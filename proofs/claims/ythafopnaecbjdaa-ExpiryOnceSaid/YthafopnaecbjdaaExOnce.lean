/- ExpiryOnce: what is due goes once. -/
import Derived.Test.YthafopnaecbjdaaExDrops
namespace Go.Proofs.Ythafopnaecbjdaa
open Go Go.RowKit Go.Maps Go.Proofs.Ythafopnaecbjdaa.Pa Go.Proofs.YthafopnaecbjdaaW.PrintWords Go.Proofs.YthafopnaecbjdaaW.PrintLast Go.Proofs.YthafopnaecbjdaaW.PrintMore

theorem drop_len {L : List It} {k : ByteArray} (h : Keyed1 L) {x : It} (hx : x ∈ L) (hk : x.key = k) : (dropL L k).length + 1 = L.length := by
  induction L with
  | nil => cases hx
  | cons a r ih =>
    obtain ⟨h1, h2⟩ := List.pairwise_cons.1 h
    unfold dropL
    rw [List.filter_cons]
    rcases List.mem_cons.1 hx with rfl | hx
    · rw [if_neg (by simpa using hk)]
      have : r.filter (fun y => decide (y.key ≠ k)) = r := List.filter_eq_self.2 fun y hy => decide_eq_true (fun e => h1 y hy (by rw [hk, e]))
      rw [this, List.length_cons]
    · have hak : a.key ≠ k := by have := h1 x hx; rw [hk] at this; exact this
      rw [if_pos (decide_eq_true hak), List.length_cons, List.length_cons]
      have := ih h2 hx
      unfold dropL at this
      omega
theorem put_len (L : List It) (k : ByteArray) (n s : Int) : (putL L k n s).length = (dropL L k).length + 1 := by
  unfold putL
  rw [(ins_perm _ _).length_eq, List.length_cons]
structure OnceI (w wr : World) (p mb : Nat) (hv : Value) (L : List It) (sets : Int) (k : Nat) : Prop where
  q : QS w wr p mb hv L sets
  s0 : 0 ≤ sets
  s1 : sets ≤ k
  len : L.length ≤ k
theorem ord_le {a b : It} (h : ltI a b = true) : a.at_ ≤ b.at_ := by
  have := (ltI_iff a b).1 h
  omega
set_option maxRecDepth 4000 in
set_option maxHeartbeats 16000000 in
theorem ExpiryOnce_walk (w : World) (A : Option Addr) (n cp : Nat) (l : List OpE) (hA : RowG opEC 3 w A n l) (_hn : n ≤ maxLen) (now : Int) : Calls Try.prog 4 #[.slice A n cp, .int .i64 now] w fun e w' => e = .returned (.bool true) ∧ Below w.heap.size w w' := by
  have HA := Lib.hid hA
  have HNEW := Lib.hid (new_qs w)
  clear hA
  go_enter Try.func4, Try.ntmps4
  repeat (first | go_step3 | go_values | go_skip | go_guarded | go_step | go_upon)
  (go_at_call 8; refine HNEW.out.mono ?_; rintro e w1 ⟨p, rfl, mb, hv0, q0⟩; have Q0 := Lib.hid q0; clear q0; dsimp only)
  repeat (first | go_step3 | go_values | go_skip | go_guarded | go_step | go_upon)
  go_loopw [6, 7] (fun c i wr => ∃ (k d : Nat) (hv : Value) (L : List It) (sets : Int), c = .int .i64 d ∧ i = .int .i64 k ∧ k ≤ n ∧ k ≤ 60 ∧ d ≤ 60 ∧ Hid (L.length = d ∧ OnceI w wr p mb hv L sets k)) (fun _ i _ => n - (intOf i).toNat)
  case atStart => exact ⟨0, 0, hv0, [], 0, rfl, rfl, Nat.zero_le _, by omega, by omega, Lib.hid ⟨rfl, Q0.out, by omega, by omega, by simp⟩⟩
  case round =>
    obtain ⟨k, d, hv, L, sets, rfl, rfl, hk, hk60, hd60, HS2⟩ := hrel
    have HLD := Lib.hid HS2.out.1
    have HS := Lib.hid HS2.out.2
    clear HS2
    by_cases hlt : k < n ∧ k < 60
    case pos =>
      obtain ⟨hlt, hlt40⟩ := hlt
      have hki : (k : Int) < n := by omega
      have hk0 : (0 : Int) ≤ k := by omega
      have hki4 : (k : Int) < 60 := by omega
      obtain ⟨g, o, x, hAe, hgl, hxj, hxm, htk, hcell⟩ := (HA.out.below HS.out.q.b).at hlt
      have cx : wr.cell? ⟨g, o + k * 3 + 1, none⟩ = some (.string x.key) := hcell 1 _ rfl
      have cy : wr.cell? ⟨g, o + k * 3 + 2, none⟩ = some (.int .i64 x.at_) := hcell 2 _ rfl
      have HAe := Lib.hid hAe
      subst hAe
      have HLT := Lib.hid (And.intro hlt hlt40)
      obtain ⟨xk, xkey, xat⟩ := x
      dsimp only at cx cy
      clear hgl hxj hxm htk hcell hlt hlt40
      by_cases hbig : xkey.size ≤ 100
      case neg =>
        have hbi : (100 : Int) < (xkey.size : Int) := by omega
        clear hbig
        repeat (first | go_step3 | go_values | go_skip | go_guarded | go_step | go_upon)
        try go_roundw
        case rel => exact ⟨k + 1, d, hv, L, sets, rfl, by go_num, HLT.out.1, HLT.out.2, hd60, Lib.hid ⟨HLD.out, HS.out.q, HS.out.s0, by have := HS.out.s1; omega, by have := HS.out.len; omega⟩⟩
        case measure => have := HLT.out; simp [intOf]; omega
      case pos =>
      have hbi : ¬ (100 : Int) < (xkey.size : Int) := by omega
      have HGK := Lib.hid (good100 hbig)
      have HSET := Lib.hid (set_gen (w1 := wr.drew) ⟨HS.out.q.q.kept ((Touch.refl [] wr).drew) (by simp), HS.out.q.f, HS.out.q.b.trans ((Touch.refl [] wr).drew.below HS.out.q.b.size (by simp))⟩ xkey (good100 hbig) xat HS.out.s0 (by have := HS.out.s1; omega) (by have := HS.out.len; omega))
      clear hbig
      have HSL := Lib.hid (S1_len L sets xkey xat)
      by_cases hok : okT xat
      case neg =>
        have HE : Hid (S1 L sets xkey xat = (L, sets)) := Lib.hid (if_neg hok)
        unfold SetG errN at HSET
        rw [HE.out, if_neg hok] at HSET
        have HAT := Lib.hid (at_ql HS.out.q.q xkey HGK.out)
        generalize (atT L xkey).1 = z1 at HAT
        generalize (atT L xkey).2 = z2 at HAT
        clear hok
        repeat (first | go_step3 | go_values | go_skip | go_guarded | go_step | go_upon)
        (go_at_call 17; refine HAT.out.mono ?_; rintro e w3 ⟨rfl, rfl⟩; dsimp only)
        repeat (first | go_step3 | go_values | go_skip | go_guarded | go_step | go_upon)
        go_still_tail 11, (by kernel_rfl)
        repeat (first | go_step3 | go_values | go_skip | go_guarded | go_step | go_upon)
        (go_at_call 9; refine HSET.out.mono ?_; rintro e w3 ⟨rfl, hv3, q3, t3, f3⟩; have Q3 := Lib.hid q3; clear q3 t3 f3; dsimp only)
        repeat (first | go_step3 | go_values | go_skip | go_guarded | go_step | go_upon)
        try go_roundw
        case rel => exact ⟨k + 1, d, hv3, L, sets, rfl, by go_num, HLT.out.1, HLT.out.2, hd60, Lib.hid ⟨HLD.out, Q3.out, HS.out.s0, by have := HS.out.s1; omega, by have := HS.out.len; omega⟩⟩
        case measure => have := HLT.out; simp [intOf]; omega
      case pos =>
        have HE : Hid (S1 L sets xkey xat = (putL L xkey xat sets, sets + 1)) := Lib.hid (if_pos hok)
        unfold SetG errN at HSET
        rw [HE.out, if_pos hok] at HSET
        rw [HE.out] at HSL
        clear hok
        by_cases hhad : ∃ x ∈ L, x.key = xkey
        · obtain ⟨x, hx, hxk⟩ := hhad
          have HAT := Lib.hid (at_hit HS.out.q.q xkey HGK.out x hx hxk)
          have HLN : Hid ((putL L xkey xat sets).length = d) := Lib.hid (by rw [put_len, drop_len HS.out.q.q.keyed hx hxk]; exact HLD.out)
          clear hx hxk
          repeat (first | go_step3 | go_values | go_skip | go_guarded | go_step | go_upon)
          (go_at_call 17; refine HAT.out.mono ?_; rintro e w3 ⟨rfl, rfl⟩; dsimp only)
          repeat (first | go_step3 | go_values | go_skip | go_guarded | go_step | go_upon)
          go_still_tail 11, (by kernel_rfl)
          repeat (first | go_step3 | go_values | go_skip | go_guarded | go_step | go_upon)
          (go_at_call 9; refine HSET.out.mono ?_; rintro e w3 ⟨rfl, hv3, q3, t3, f3⟩; have Q3 := Lib.hid q3; clear q3 t3 f3; dsimp only)
          repeat (first | go_step3 | go_values | go_skip | go_guarded | go_step | go_upon)
          try go_roundw
          case rel => exact ⟨k + 1, d, hv3, _, _, rfl, by go_num, HLT.out.1, HLT.out.2, hd60, Lib.hid ⟨HLN.out, Q3.out, by have := HS.out.s0; show 0 ≤ sets + 1; omega, by have := HS.out.s1; show sets + 1 ≤ _; omega, by have := HS.out.len; have := HLN.out; have := HLD.out; show (putL L xkey xat sets).length ≤ _; omega⟩⟩
          case measure => have := HLT.out; simp [intOf]; omega
        · have HNO : Hid (∀ x ∈ L, x.key ≠ xkey) := Lib.hid (fun x hx e => hhad ⟨x, hx, e⟩)
          have HAT := Lib.hid (at_miss HS.out.q.q xkey HGK.out HNO.out)
          have HLN : Hid ((putL L xkey xat sets).length = d + 1) := Lib.hid (by rw [put_len, (hasL_not HNO.out).2]; have := HLD.out; omega)
          clear hhad
          repeat (first | go_step3 | go_values | go_skip | go_guarded | go_step | go_upon)
          (go_at_call 17; refine HAT.out.mono ?_; rintro e w3 ⟨rfl, rfl⟩; dsimp only)
          repeat (first | go_step3 | go_values | go_skip | go_guarded | go_step | go_upon)
          go_still_tail 11, (by kernel_rfl)
          repeat (first | go_step3 | go_values | go_skip | go_guarded | go_step | go_upon)
          (go_at_call 9; refine HSET.out.mono ?_; rintro e w3 ⟨rfl, hv3, q3, t3, f3⟩; have Q3 := Lib.hid q3; clear q3 t3 f3; dsimp only)
          repeat (first | go_step3 | go_values | go_skip | go_guarded | go_step | go_upon)
          try go_roundw
          case rel => exact ⟨k + 1, d + 1, hv3, _, _, by go_num, by go_num, HLT.out.1, HLT.out.2, by have := HS.out.len; have := HLD.out; have := HLT.out; omega, Lib.hid ⟨HLN.out, Q3.out, by have := HS.out.s0; show 0 ≤ sets + 1; omega, by have := HS.out.s1; show sets + 1 ≤ _; omega, by have := HS.out.len; have := HLN.out; have := HLD.out; show (putL L xkey xat sets).length ≤ _; omega⟩⟩
          case measure => have := HLT.out; simp [intOf]; omega
    case neg =>
      have HCP := Lib.hid (copy_qs HS.out.q)
      have hor : ¬ (k : Int) < n ∨ ((k : Int) < n ∧ ¬ (k : Int) < 60) := by omega
      obtain ⟨T, hT⟩ : ∃ T, T = L.takeWhile (soon now) := ⟨_, rfl⟩
      obtain ⟨D, hD⟩ : ∃ D, D = L.dropWhile (soon now) := ⟨_, rfl⟩
      have hTD : T ++ D = L := by rw [hT, hD]; exact List.takeWhile_append_dropWhile
      have HTD := Lib.hid hTD
      have HT := Lib.hid hT
      have HD := Lib.hid hD
      have HTS : Hid (∀ x ∈ T, x.at_ ≤ now) := Lib.hid (fun x hx => by rw [hT] at hx; have := mem_tw hx; unfold soon at this; exact of_decide_eq_true this)
      have HKY : Hid (Keyed1 (T ++ D)) := Lib.hid (by rw [hTD]; exact HS.out.q.q.keyed)
      have HOR : Hid (Ord (T ++ D)) := Lib.hid (by rw [hTD]; exact HS.out.q.q.ord)
      have HATS : Hid (∀ x ∈ T ++ D, 0 ≤ x.at_ ∧ x.at_ ≤ 1099511627776) := Lib.hid (by rw [hTD]; exact HS.out.q.q.ats)
      have HDN : Hid (D.takeWhile (soon now) = [] ∧ D.dropWhile (soon now) = D) := Lib.hid (soon_split (L1 := []) rfl (by simp) (by
        cases hDD : D with
        | nil => exact .inl rfl
        | cons y r =>
          refine .inr ⟨y, r, rfl, ?_⟩
          have h1 : L.dropWhile (soon now) = y :: r := by rw [← hD]; exact hDD
          have h2 := List.head_dropWhile_not (soon now) (l := L) (by rw [h1]; simp)
          simp only [h1, List.head_cons] at h2
          unfold soon at h2
          simpa using h2))
      have HDA : Hid (D.takeWhile (soon 1099511627776) = D ∧ D.dropWhile (soon 1099511627776) = []) := Lib.hid (soon_split (L2 := []) (by simp) (fun x hx => (HATS.out x (by simp [hx])).2) (.inl rfl))
      have HTL : Hid (T.length + D.length = d) := Lib.hid (by rw [← HLD.out, ← hTD, List.length_append])
      clear hlt hT hD hTD
      rcases hor with hge | ⟨hge, hge2⟩
      all_goals
        repeat (first | go_step3 | go_values | go_skip | go_guarded | go_step | go_upon)
        (go_at_call 16; refine HCP.out.mono ?_; rintro e w4 ⟨p4, rfl, mb4, hv4, q4, f4, b4⟩; have Q4 := Lib.hid q4; have F4 := Lib.hid f4; have P4 := Lib.hid (HS.out.q.below b4); clear q4 f4 b4; dsimp only)
        have HDU := Lib.hid (due_qs P4.out now)
        unfold DueS at HDU
        rw [← HT.out, ← HD.out] at HDU
        repeat (first | go_step3 | go_values | go_skip | go_guarded | go_step | go_upon)
        (go_at_call 14; refine HDU.out.mono ?_; rintro e w5 ⟨v5, rfl, hv5, q5, r5, n5, m5, f5, t5⟩; have R5 := Lib.hid (RowB.mk r5 m5 n5); have Q5 := Lib.hid (Q4.out.other t5 (fun i hi hm => by have h1 := F4.out i hi; have h2 := HS.out.q.q.foot_lt i hm; omega) q5.b); have P5 := Lib.hid q5; clear q5 r5 n5 m5 f5 t5; dsimp only)
        obtain ⟨A5, c5, e5⟩ := R5.out.r.slice
        obtain ⟨tn, htn⟩ : ∃ tn, tn = (keysL T).length := ⟨_, rfl⟩
        rw [← htn] at e5
        subst e5
        have HTN : Hid (tn = T.length) := Lib.hid (by rw [htn]; unfold keysL; rw [List.length_map])
        have HTN2 := Lib.hid htn
        have ht60 : tn ≤ 60 := by have := HTN.out; have := HTL.out; omega
        clear htn
        repeat (first | go_step3 | go_values | go_skip | go_guarded | go_step | go_upon)
        go_loopw [11, 13] (fun a i wx => wx = w5 ∧ ∃ (m : Nat) (last : Int), a = .int .i64 last ∧ i = .int .i64 m ∧ m ≤ tn ∧ Hid (∀ x ∈ T.drop m, last ≤ x.at_)) (fun _ i _ => tn - (intOf i).toNat)
        case atStart => exact ⟨rfl, 0, 0, rfl, rfl, Nat.zero_le _, Lib.hid (fun x hx => (HATS.out x (by simp at hx; simp [hx])).1)⟩
        case round =>
          obtain ⟨rfl, m, last, rfl, rfl, hm, HLA⟩ := hrel
          by_cases hmd : m < tn
          · have hmi : (m : Int) < tn := by omega
            have hm0 : (0 : Int) ≤ m := by omega
            have hml : m < T.length := by have := HTN.out; omega
            obtain ⟨y, hy⟩ : ∃ y, T[m]? = some y := ⟨_, List.getElem?_eq_getElem hml⟩
            obtain ⟨g6, c6, e6, d6⟩ := R5.out.r.at m y.key (by unfold keysL; rw [List.getElem?_map, hy]; rfl)
            obtain ⟨rfl, rfl⟩ : A5 = some ⟨g6, 0, none⟩ ∧ c5 = c6 := by
              injection e6 with q1 _ q3
              exact ⟨q1, q3⟩
            have hyT : y ∈ T := List.mem_of_getElem? hy
            have hgk : goodS y.key := by
              obtain ⟨H, ⟨P, a, b⟩, hh, hp⟩ := Q5.out.q.ex
              exact a.keys y (hp.symm.subset (by rw [← HTD.out]; simp [hyT]))
            have HA1 := Lib.hid (at_hit Q5.out.q y.key hgk y (by rw [← HTD.out]; simp [hyT]) rfl)
            have HA2 := Lib.hid (at_miss P5.out.q y.key hgk (fun x hx => by
              have := (List.pairwise_append.1 HKY.out).2.2 y hyT x hx
              exact Ne.symm this))
            have hyd : T.drop m = y :: T.drop (m + 1) := by
              have hy2 := (List.getElem?_eq_some_iff.1 hy).2
              rw [List.drop_eq_getElem_cons hml, hy2]
            have h1 : y.at_ ≤ now := HTS.out y hyT
            have h2 : last ≤ y.at_ := HLA.out y (by rw [hyd]; simp)
            have HNX : Hid (∀ x ∈ T.drop (m + 1), y.at_ ≤ x.at_) := Lib.hid (by
              have h3 : Ord (T.drop m) := (List.pairwise_append.1 HOR.out).1.sublist (List.drop_sublist _ _)
              rw [hyd] at h3
              exact fun x hx => ord_le ((List.pairwise_cons.1 h3).1 x hx))
            have h1n : ¬ y.at_ > now := by omega
            have h2n : ¬ y.at_ < last := by omega
            have HMD := Lib.hid hmd
            clear hy hml e6 hyT hgk hyd hmd
            repeat (first | go_step3 | go_values | go_skip | go_guarded | go_step | go_upon)
            (go_at_call 17; refine HA1.out.mono ?_; rintro e w6 ⟨rfl, rfl⟩; dsimp only)
            repeat (first | go_step3 | go_values | go_skip | go_guarded | go_step | go_upon)
            (go_at_call 17; refine HA2.out.mono ?_; rintro e w7 ⟨rfl, rfl⟩; dsimp only)
            repeat (first | go_step3 | go_values | go_skip | go_guarded | go_step | go_upon)
            try go_roundw
            case rel => exact ⟨trivial, m + 1, _, rfl, by go_num, HMD.out, HNX⟩
            case measure => have := HMD.out; simp [intOf]; omega
          · have hmi : ¬ (m : Int) < tn := by omega
            clear hmd
            have HN1 := Lib.hid (next_ql P5.out.q)
            have HK1 := Lib.hid (ekeys_any P5.out.q)
            obtain ⟨dn, hdn⟩ : ∃ dn, dn = D.length := ⟨_, rfl⟩
            have HDL := Lib.hid hdn
            have hdn60 : dn ≤ 60 := by have := HTL.out; omega
            have hsum : (tn : Int) + dn = d := by have := HTL.out; have := HTN.out; omega
            have hsumi : (((tn : Int) + dn) == (d : Int)) = true := by rw [beq_iff_eq]; exact hsum
            clear hdn hsum
            cases hDc : D with
            | nil =>
              obtain ⟨DD, hDD⟩ : ∃ DD, DD = D := ⟨_, rfl⟩
              obtain rfl : dn = 0 := by rw [HDL.out, hDc]; rfl
              have hsum0 : ((tn : Int) == (d : Int)) = true := by simpa using hsumi
              clear hsumi
              rw [hDc] at HN1
              rw [← hDD] at HK1 P5 HDN HDA HDL
              clear hDc hDD
              unfold nextT at HN1
              repeat (first | go_step3 | go_values | go_skip | go_guarded | go_step | go_upon)
              (go_at_call 19; refine HN1.out.mono ?_; rintro e w6 ⟨rfl, rfl⟩; dsimp only)
              repeat (first | go_step3 | go_values | go_skip | go_guarded | go_step | go_upon)
              (go_at_call 21; refine HK1.out.mono ?_; rintro e w7 ⟨v7, rfl, r7, b7, n7⟩; have R7 := Lib.hid (RowB.mk (p := p) (mb := mb) (hv := hv5) r7 (fun i hi hm => by have h1 := n7 i hi; have h2 := P5.out.q.foot_lt i hm; omega) (fun i hi => Nat.le_trans P5.out.b.size (n7 i hi))); have P7 := Lib.hid (P5.out.below b7); clear r7 b7 n7; dsimp only)
              obtain ⟨A7, c7, e7⟩ := R7.out.r.slice
              have hkl : (keysL DD).length = 0 := by unfold keysL; rw [List.length_map]; exact HDL.out.symm
              rw [hkl] at e7
              subst e7
              clear hkl
              have HDU7 := Lib.hid (due_qs P7.out now)
              unfold DueS at HDU7
              rw [HDN.out.1, HDN.out.2] at HDU7
              repeat (first | go_step3 | go_values | go_skip | go_guarded | go_step | go_upon)
              (go_at_call 14; refine HDU7.out.mono ?_; rintro e w8 ⟨v8, rfl, hv8, q8, r8, n8, m8, f8, t8⟩; obtain ⟨A8, c8, e8⟩ := r8.slice; subst e8; have P8 := Lib.hid q8; have R8 := Lib.hid (R7.out.keep (hv' := hv8) t8 (fun j hj => .inl (by rw [f8] at hj; exact hj))); clear q8 r8 n8 m8 f8 t8; dsimp only)
              have hk0 : (keysL []).length = 0 := rfl
              have HDU8 := Lib.hid (due_qs P8.out 1099511627776)
              unfold DueS at HDU8
              rw [HDA.out.1, HDA.out.2] at HDU8
              repeat (first | go_step3 | go_values | go_skip | go_guarded | go_step | go_upon)
              (go_at_call 14; refine HDU8.out.mono ?_; rintro e w9 ⟨v9, rfl, hv9, q9, r9, n9, m9, f9, t9⟩; have P9 := Lib.hid q9; have R9 := Lib.hid r9; have R8' := Lib.hid (R8.out.keep (hv' := hv9) t9 (fun j hj => .inl (by rw [f9] at hj; exact hj))); clear q9 r9 n9 m9 f9 t9; dsimp only)
              have HTX := Lib.hid (texts_any R9.out R8'.out.r (by unfold keysL; rw [List.length_map]; have := HDL.out; omega))
              rw [show (decide (keysL DD = keysL DD)) = true from by simp] at HTX
              repeat (first | go_step3 | go_values | go_skip | go_guarded | go_step | go_upon)
              (go_at_call 13; refine HTX.out.mono ?_; rintro e w10 ⟨rfl, b10⟩; have P10 := Lib.hid (P9.out.below b10); clear b10; dsimp only)
              have HK10 := Lib.hid (ekeys_any P10.out.q)
              repeat (first | go_step3 | go_values | go_skip | go_guarded | go_step | go_upon)
              (go_at_call 21; refine HK10.out.mono ?_; rintro e w11 ⟨v11, rfl, r11, b11, n11⟩; obtain ⟨A11, c11, e11⟩ := r11.slice; subst e11; have P11 := Lib.hid (P10.out.below b11); clear r11 b11 n11; dsimp only)
              repeat (first | go_step3 | go_values | go_skip | go_guarded | go_step | go_upon)
              (go_at_call 23; refine (known_any _).mono ?_; rintro e w12 ⟨rfl, b12⟩; have P12 := Lib.hid (P11.out.below b12); clear b12; dsimp only)
              repeat (first | go_step3 | go_values | go_skip | go_guarded | go_step | go_upon)
              go_ret
              exact ⟨rfl, P12.out.b⟩
            | cons y r =>
              obtain ⟨DD, hDD⟩ : ∃ DD, DD = D := ⟨_, rfl⟩
              have hdn0 : (0 : Int) < dn := by have := HDL.out; rw [hDc] at this; simp at this; omega
              have hyn : y.at_ > now := by
                have h1 := HDN.out.1
                rw [hDc, List.takeWhile_cons] at h1
                split at h1
                · cases h1
                · rename_i h2; unfold soon at h2; simp at h2; exact h2
              rw [hDc] at HN1
              rw [← hDD] at HK1 P5 HDN HDA HDL
              clear hDc hDD
              unfold nextT at HN1
              repeat (first | go_step3 | go_values | go_skip | go_guarded | go_step | go_upon)
              (go_at_call 19; refine HN1.out.mono ?_; rintro e w6 ⟨rfl, rfl⟩; dsimp only)
              repeat (first | go_step3 | go_values | go_skip | go_guarded | go_step | go_upon)
              (go_at_call 21; refine HK1.out.mono ?_; rintro e w7 ⟨v7, rfl, r7, b7, n7⟩; have R7 := Lib.hid (RowB.mk (p := p) (mb := mb) (hv := hv5) r7 (fun i hi hm => by have h1 := n7 i hi; have h2 := P5.out.q.foot_lt i hm; omega) (fun i hi => Nat.le_trans P5.out.b.size (n7 i hi))); have P7 := Lib.hid (P5.out.below b7); clear r7 b7 n7; dsimp only)
              obtain ⟨A7, c7, e7⟩ := R7.out.r.slice
              have hkl : (keysL DD).length = dn := by rw [HDL.out]; unfold keysL; rw [List.length_map]
              rw [hkl] at e7
              subst e7
              clear hkl
              have HDU7 := Lib.hid (due_qs P7.out now)
              unfold DueS at HDU7
              rw [HDN.out.1, HDN.out.2] at HDU7
              repeat (first | go_step3 | go_values | go_skip | go_guarded | go_step | go_upon)
              (go_at_call 14; refine HDU7.out.mono ?_; rintro e w8 ⟨v8, rfl, hv8, q8, r8, n8, m8, f8, t8⟩; obtain ⟨A8, c8, e8⟩ := r8.slice; subst e8; have P8 := Lib.hid q8; have R8 := Lib.hid (R7.out.keep (hv' := hv8) t8 (fun j hj => .inl (by rw [f8] at hj; exact hj))); clear q8 r8 n8 m8 f8 t8; dsimp only)
              have hk0 : (keysL []).length = 0 := rfl
              have HDU8 := Lib.hid (due_qs P8.out 1099511627776)
              unfold DueS at HDU8
              rw [HDA.out.1, HDA.out.2] at HDU8
              repeat (first | go_step3 | go_values | go_skip | go_guarded | go_step | go_upon)
              (go_at_call 14; refine HDU8.out.mono ?_; rintro e w9 ⟨v9, rfl, hv9, q9, r9, n9, m9, f9, t9⟩; have P9 := Lib.hid q9; have R9 := Lib.hid r9; have R8' := Lib.hid (R8.out.keep (hv' := hv9) t9 (fun j hj => .inl (by rw [f9] at hj; exact hj))); clear q9 r9 n9 m9 f9 t9; dsimp only)
              have HTX := Lib.hid (texts_any R9.out R8'.out.r (by unfold keysL; rw [List.length_map]; have := HDL.out; omega))
              rw [show (decide (keysL DD = keysL DD)) = true from by simp] at HTX
              repeat (first | go_step3 | go_values | go_skip | go_guarded | go_step | go_upon)
              (go_at_call 13; refine HTX.out.mono ?_; rintro e w10 ⟨rfl, b10⟩; have P10 := Lib.hid (P9.out.below b10); clear b10; dsimp only)
              have HK10 := Lib.hid (ekeys_any P10.out.q)
              repeat (first | go_step3 | go_values | go_skip | go_guarded | go_step | go_upon)
              (go_at_call 21; refine HK10.out.mono ?_; rintro e w11 ⟨v11, rfl, r11, b11, n11⟩; obtain ⟨A11, c11, e11⟩ := r11.slice; subst e11; have P11 := Lib.hid (P10.out.below b11); clear r11 b11 n11; dsimp only)
              repeat (first | go_step3 | go_values | go_skip | go_guarded | go_step | go_upon)
              (go_at_call 23; refine (known_any _).mono ?_; rintro e w12 ⟨rfl, b12⟩; have P12 := Lib.hid (P11.out.below b12); clear b12; dsimp only)
              repeat (first | go_step3 | go_values | go_skip | go_guarded | go_step | go_upon)
              go_ret
              exact ⟨rfl, P12.out.b⟩
theorem once_row {w : World} {m base : Nat} {v : Value} (hv : Value.okWide Try.prog w .any base 22 v) (h : Rd Try.prog w m 22 v.cells.toList) (now : Int) : Calls Try.prog 4 #[v, .int .i64 now] w fun e w' => e = .returned (.bool true) ∧ Below w.heap.size w w' := by
  obtain ⟨A, n, cp, l, rfl, h1, h2⟩ := ops_arg hv h
  exact ExpiryOnce_walk w A n cp l h1 h2 now
end Go.Proofs.Ythafopnaecbjdaa
