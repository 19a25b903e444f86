/- PrepNames. -/
import Derived.Test.YtjmgookpmngmaadPrNmF
namespace Go.Proofs.Ytjmgookpmngmaad
open Go Go.RowKit Go.Maps Go.WideShapes

def byteC (n : Int) : List Value := [.int .u8 n]
theorem byte_wf {x : Int} (h : (Lit.int .u8 x).wf = true) : 0 ≤ x ∧ x ≤ 255 := by
  simp [Lit.wf, IntKind.min, IntKind.max, IntKind.bits, IntKind.signed] at h
  omega
theorem bytes_of_arg {w : World} {m base : Nat} {v : Value} (hv : Value.okWide Try.prog w .any base 23 v) (h : Rd Try.prog w m 23 v.cells.toList) :
    ∃ A n cp l, v = .slice A n cp ∧ RowG byteC 1 w A n l ∧ (∀ x ∈ l, 0 ≤ x ∧ x ≤ 255) ∧ n ≤ maxLen := by
  obtain ⟨A, n, cp, rfl⟩ := okWide_slice Try.underlying23 hv
  obtain ⟨A', n', cp', l, he, h1, h2, h3, h4, _⟩ := RowG.of_rd (enc := byteC) (k := 1) (G := fun x => 0 ≤ x ∧ x ≤ 255) Try.underlying23 (by kernel_rfl) (by decide) (fun m cs' h => by
    obtain ⟨x, rfl, hx⟩ := h.int Try.underlying5
    exact ⟨x, rfl, byte_wf hx⟩) h
  simp [Value.cells] at he
  obtain ⟨rfl, rfl, rfl⟩ := he
  exact ⟨A, n, cp, l, rfl, h1, h2, Nat.le_trans h3 h4⟩
/-- A row of the call's own, that is not of the book. -/
structure NR (B : Nat) (w : World) (own : Own) (v : Value) (i : Nat) (xs : List ByteArray) : Prop where
  row : w.ownsRow B 9 1 v i (strsV xs)
  free : ∀ g, v.ownBlock = some g → own g = none
theorem NR.grow {B : Nat} {w w' : World} {own own' : Own} {v : Value} {i : Nat} {xs : List ByteArray} (h : NR B w own v i xs) (g : Grow own own' w w') : NR B w' own' v i xs := by
  have hf := h.free
  rcases h.row.2 with ⟨hv, h0⟩ | ⟨gg, cap, cur, hv, hb, hg, hr⟩
  · exact ⟨⟨h.row.1, .inl ⟨hv, h0⟩⟩, fun x hx => by rw [hv] at hx; cases hx⟩
  · rw [hv] at hf
    have hn := hf gg rfl
    have hlt := heap_lt hg
    refine ⟨⟨h.row.1, .inr ⟨gg, cap, cur, hv, hb, (g.blk gg hlt hn).trans hg, hr⟩⟩, fun x hx => ?_⟩
    rw [hv] at hx
    cases hx
    exact g.own gg hlt hn
theorem NR.rowg {B : Nat} {w : World} {own : Own} {A : Option Addr} {i c : Nat} {xs : List ByteArray} (h : NR B w own (.slice A i c) i xs) : RowG strC 1 w A i xs := strs_row h.row
/-- What is not of the book may be turned. -/
theorem KS.touchU {W w w' : World} {own : Own} {pb n : Nat} {M : BM} {S : List Nat} (h : KS W w own pb M n) (t : Touch S w w') (hS : ∀ i ∈ S, own i = none ∧ W.heap.size ≤ i) : KS W w' own pb M n := by
  have g : Grow (fun i => if i ∈ S then some (.book 0) else none) (fun i => if i ∈ S then some (.book 0) else none) w w' := Grow.of_touch t (fun i hi => .inl (by simp [hi])) fun _ _ h => h
  refine ⟨h.b.other g fun i tg hi => ?_, h.low, h.bel.trans (t.below h.bel.size fun i hi => (hS i hi).2)⟩
  by_cases hm : i ∈ S
  · rw [(hS i hm).1] at hi; cases hi
  · simp [hm]
theorem NR.append {W w w5 : World} {own : Own} {pb n i : Nat} {M : BM} {v v5 : Value} {xs : List ByteArray} {x : ByteArray} {o : Obj} (ks : KS W w own pb M n) (h : NR W.heap.size w own v i xs) (hown : w5.ownsRow W.heap.size 9 1 v5 (i + 1) (strsV xs ++ [.string x])) (hg : (w.alloc o).grownBy w5 v.ownBlock) (hl : v5.ownBlock = v.ownBlock ∨ v5.ownBlock = some (w.alloc o).heap.size) :
    KS W w5 own pb M n ∧ NR W.heap.size w5 own v5 (i + 1) (xs ++ [x]) := by
  have T : Touch v.ownBlock.toList w w5 := ((Touch.refl _ _).alloc o).grownBy hg (fun k hk => .inl (by simp [hk]))
  refine ⟨ks.touchU T fun k hk => ⟨h.free k (by simpa using hk), ?_⟩, ⟨by simpa [strsV, strV] using hown, fun g hgg => ?_⟩⟩
  · exact (h.row.lt k (by simpa using hk)).1
  · rcases hl with q | q
    · exact h.free g (by rw [← q]; exact hgg)
    · rw [hgg] at q
      have h2 := Option.some.inj q
      have h3 : (w.alloc o).heap.size = w.heap.size + 1 := by simp
      cases hc : own g with
      | none => rfl
      | some tg => have := ks.b.lt _ _ hc; omega

theorem name_same {M M' : BM} (h : M'.nm = M.nm) (t : ByteArray) : M'.name t = M.name t := by unfold BM.name; rw [h]
theorem named_same {M M' : BM} (h : M'.nm = M.nm) {t : ByteArray} (hn : Named M t) : Named M' t ∧ mput M'.nm t (M'.name t) = M'.nm := by
  have h1 : Named M' t := by unfold Named; rw [h]; exact hn
  exact ⟨h1, mput_self h1.get⟩
/-- Connection c is being made ready. -/
structure CI (W w : World) (own : Own) (pb : Nat) (M0 M : BM) (N : Nat) (v : Value) (n : Nat) (l : List ByteArray) (c : Int) (q : Nat) : Prop where
  ks : KS W w own pb M N
  nm : M.nm = M0.nm
  len : (M.order c).length ≤ q
  nr : NR W.heap.size w own v n (l.map M0.name)
set_option maxRecDepth 8000 in
set_option maxHeartbeats 16000000 in
theorem PrepNames_walk (w : World) (A : Option Addr) (n cp : Nat) (l : List ByteArray) (hA : RowG strC 1 w A n l) (hg : ∀ o ∈ l, TextSz o) (hnn : n ≤ maxLen) (A' : Option Addr) (n' cp' : Nat) (l' : List Int) (hA' : RowG byteC 1 w A' n' l') (hg' : ∀ x ∈ l', 0 ≤ x ∧ x ≤ 255) (hnn' : n' ≤ maxLen) :
    Calls Try.prog 3 #[.slice A n cp, .slice A' n' cp'] w fun e w' => e = .returned (.bool true) ∧ Below w.heap.size w w' := by
  have HA := Lib.hid hA; have HG := Lib.hid hg
  have HA' := Lib.hid hA'; have HG' := Lib.hid hg'
  have hn := hnn
  have hn' := hnn'
  unfold maxLen at hn hn'
  have i1 : goodI 1000 := goodI_of (by decide)
  have I := Lib.hid i1
  obtain ⟨j0, hj0, hjz, hj1, hj2⟩ := info_parts infoS
  have J := Lib.hid (And.intro hj0 (And.intro hjz (And.intro hj1 hj2)))
  clear hA hg hnn hA' hg' hnn' i1 hj0 hjz hj1 hj2
  go_enter Try.func3, Try.ntmps3
  go_wp2_with fail
  refine (New_any w).mono ?_
  rintro e w0 ⟨pb, rfl, own0, b0, low, t0⟩
  have S0 : Hid (KS w w0 own0 pb BM.zero (6 * 0) ∧ NI BM.zero l 0 ∧ NR w.heap.size w0 own0 (.slice none 0 0) 0 ((l.take 0).map BM.zero.name)) := Lib.hid ⟨⟨b0, low, t0.below (Nat.le_refl _) (by simp)⟩, ⟨NmOK.nil, by simp⟩, ⟨World.ownsRow_nil _ _ _ _, by simp [Value.ownBlock]⟩⟩
  clear b0 low t0
  by_cases h30 : n ≤ 30 ∧ n' ≤ 30
  · obtain ⟨h30, h31⟩ := h30
    have hi : ¬ (30 : Int) < (n : Int) := by omega
    have hi' : ¬ (30 : Int) < (n' : Int) := by omega
    go_wp2_with fail
    go_loopw [6, 7] (fun v i wr => ∃ (j : Nat) (own : Own) (M : BM), j ≤ n ∧ i = .int .i64 j ∧ Hid (KS w wr own pb M (6 * j) ∧ NI M l j ∧ NR w.heap.size wr own v j ((l.take j).map M.name))) (fun _ i _ => n - (intOf i).toNat)
    case atStart => exact ⟨0, own0, BM.zero, Nat.zero_le _, rfl, S0⟩
    clear S0
    case round =>
      obtain ⟨j, own, M, hj, rfl, hb⟩ := hrel
      obtain ⟨Bv, cv0, rfl⟩ := own_slice2 hb.out.2.2.row
      by_cases hlt : j < n
      · obtain ⟨g, b, s, hAA, hgl, hoj, hom, _, hc⟩ := (HA.out.below hb.out.1.bel).at hlt
        subst hAA
        have y0 := hc 0 (.string s) rfl
        simp only [Nat.mul_one, Nat.add_zero] at y0
        have GA := Lib.hid (HG.out s hom)
        have HOJ := Lib.hid hoj
        have hz := HG.out s hom
        unfold TextSz at hz
        have HY : Hid (∀ wq, Below w.heap.size w wq → wq.cell? ⟨g, b + j, none⟩ = some (.string s)) := Lib.hid fun wq hq => by
          obtain ⟨g', b', s', h1, _, h3, _, _, h6⟩ := (HA.out.below hq).at hlt
          cases h1
          rw [hoj] at h3; cases h3
          have := h6 0 (.string s) rfl
          simpa using this
        clear hc hom hoj hgl
        have hi0 : (0 : Int) ≤ j := by omega
        have hi1 : (j : Int) < (n : Int) := by omega
        by_cases h100 : 500 < s.size
        · have hk : (500 : Int) < (s.size : Int) := by omega
          go_wp2_with fail
          refine (known_any _).mono ?_
          rintro e w9 ⟨rfl, t9⟩
          have HF := Lib.hid (hb.out.1.bel.trans (t9.mono hb.out.1.bel.size))
          clear t9
          go_wp2
          go_ret
          exact ⟨rfl, HF.out⟩
        · have hk : ¬ (500 : Int) < (s.size : Int) := by omega
          go_wp2_with fail
          refine (Need_some hb.out.1.b (by omega) I.out (gT GA.out)).mono ?_
          rintro e w3 ⟨x1, own3, M3, rfl, b3, g3, hm3, hnm3, ho3⟩
          have hbO := Lib.hid (fun t (ht : t ∈ l.take j) => (hb.out.2.1.has t ht).2)
          have hst := hb.out.2.1.step HOJ.out hnm3 (fun x hx => by
            rcases ho3 with ⟨_, _, h⟩ | ⟨_, _, h⟩
            · rw [h]; simp only [upd, if_true]; exact List.mem_append.2 (.inl hx)
            · rw [h]; exact hx) (by
            rcases ho3 with ⟨_, _, h⟩ | ⟨_, h0, h⟩
            · rw [h]; simp [upd]
            · rw [h]; exact h0)
          have hx1 : x1 = true → M.name s ∉ M.order 1000 := fun hx => by
            rcases ho3 with ⟨_, h, _⟩ | ⟨h, _, _⟩
            · exact h
            · rw [hx] at h; cases h
          have hn3 := named_put hnm3
          have ho4 : M.name s ∈ M3.order 1000 := by
            rcases ho3 with ⟨_, _, h⟩ | ⟨_, h0, h⟩
            · rw [h]; simp [upd]
            · rw [h]; exact h0
          have S3 : Hid (KS w w3 own3 pb M3 (6 * j + 3) ∧ NI M3 l (j + 1) ∧ NR w.heap.size w3 own3 (.slice Bv j cv0) j ((l.take j).map M.name) ∧ (l.take (j + 1)).map M3.name = (l.take j).map M.name ++ [M.name s] ∧ (x1 = true → M.name s ∉ M.order 1000) ∧ M3.name s = M.name s ∧ Named M3 s ∧ M.name s ∈ M3.order 1000 ∧ M.name s ≠ ⟨#[]⟩) := Lib.hid
            ⟨hb.out.1.step b3 g3, hst.1, hb.out.2.2.grow g3, hst.2, hx1, hn3.2.1, hn3.1, ho4, hb.out.2.1.ok.ne s⟩
          have y0 := HY.out w3 S3.out.1.bel
          clear b3 g3 hm3 hnm3 ho3 hst hx1 hn3 ho4
          have e3 : M3.nmd s = M3 := by unfold BM.nmd; rw [mput_self S3.out.2.2.2.2.2.2.1.get]
          have cv := Need_any S3.out.1.b (by omega) I.out (gT GA.out) false (.inr ⟨rfl, by rw [S3.out.2.2.2.2.2.1]; exact S3.out.2.2.2.2.2.2.2.1⟩)
          rw [S3.out.2.2.2.2.2.1] at cv
          simp only [Bool.false_eq_true, if_false] at cv
          rw [e3] at cv
          have CV := Lib.hid cv
          clear cv e3
          go_wp2_with fail
          refine CV.out.mono ?_
          rintro e w4 ⟨rfl, own4, b4, g4⟩
          have S4 : Hid (KS w w4 own4 pb M3 (6 * (j + 1)) ∧ NI M3 l (j + 1) ∧ NR w.heap.size w4 own4 (.slice Bv j cv0) j ((l.take j).map M.name)) := Lib.hid ⟨(S3.out.1.step b4 g4).mono (by omega), S3.out.2.1, S3.out.2.2.1.grow g4⟩
          clear b4 g4 CV y0
          obtain ⟨nm, hnm⟩ : ∃ nm, nm = M.name s := ⟨_, rfl⟩
          have N3 : Hid (nm = M.name s ∧ (l.take (j + 1)).map M3.name = (l.take j).map M.name ++ [nm] ∧ (x1 = true → nm ∉ M.order 1000) ∧ M3.name s = nm) := Lib.hid ⟨hnm, by rw [hnm]; exact S3.out.2.2.2.1, by rw [hnm]; exact S3.out.2.2.2.2.1, by rw [hnm]; exact S3.out.2.2.2.2.2.1⟩
          obtain ⟨z1, z2⟩ := notNil (s := nm) (by rw [hnm]; exact S3.out.2.2.2.2.2.2.2.2)
          rw [← hnm]
          clear hnm S3
          have b2 := (str_eq (rfl : nm = nm)).2
          have hown2 := Lib.hid (S4.out.2.2.row.alloc (.cells #[.string nm] 9))
          have hsrc : Hid (Src (w4.alloc (.cells #[.string nm] 9)) (some ⟨w4.heap.size, 0, none⟩) 1 1 [.string nm]) := Lib.hid (.inr ⟨_, rfl, rfl, cell_one_new w4 _ _⟩)
          go_wp2_with (at_builtin; go_must (refine wpList_append_src _ rfl _ _ 22 rfl w.heap.size 9 j0 (.string ⟨#[]⟩) 1 16 Try.underlying22 J.out.1 J.out.2.1 J.out.2.2.1 J.out.2.2.2 rfl (by decide) (.slice Bv j cv0) j _ rfl hown2.out (some ⟨w4.heap.size, 0, none⟩) 1 1 [.string nm] rfl hsrc.out (by simp [Value.oneCell']) (by simp [maxLen]; omega) (by omega) (by have := S4.out.1.bel.size; simp; omega) ?_); go_must (intro v5 w5 hown5 hg5 hloc5; obtain ⟨B5, c5, rfl⟩ := own_slice2 hown5))
          have hap := NR.append S4.out.1 S4.out.2.2 hown5 hg5 hloc5
          have S5 : Hid (KS w w5 own4 pb M3 (6 * (j + 1)) ∧ NI M3 l (j + 1) ∧ NR w.heap.size w5 own4 (.slice B5 (j + 1) c5) (j + 1) ((l.take (j + 1)).map M3.name)) := Lib.hid ⟨hap.1, S4.out.2.1, by rw [N3.out.2.1]; exact hap.2⟩
          clear hown5 hg5 hloc5 hap hown2 hsrc S4 b2 z1 z2
          go_loopw [12] (fun i wr => ∃ (k : Nat), k ≤ j ∧ i = .int .i64 k ∧ Hid (Touch [] w5 wr)) (fun i _ => j - (intOf i).toNat)
          case atStart => exact ⟨0, Nat.zero_le _, rfl, Lib.hid (Touch.refl _ _)⟩
          case round =>
            obtain ⟨k, hk', rfl, hT⟩ := hrel
            by_cases hkj : k < j
            · obtain ⟨g2, o2, a2, hA2, _, hak, _, _, hca⟩ := (HA.out.below (S5.out.1.bel.trans (hT.out.below S5.out.1.bel.size (by simp)))).at (j := k) (by omega)
              cases hA2
              have yk := hca 0 (.string a2) rfl
              simp only [Nat.mul_one, Nat.add_zero] at yk
              have yj := HY.out wr (S5.out.1.bel.trans (hT.out.below S5.out.1.bel.size (by simp)))
              obtain ⟨g3, o3, x3, hB3, _, hxk, _, _, hcx⟩ := (S5.out.2.2.rowg.kept0 hT.out).at (j := k) (by omega)
              subst hB3
              have yx := hcx 0 (.string x3) rfl
              simp only [Nat.mul_one, Nat.add_zero] at yx
              have hx3 : x3 = M3.name a2 := by
                rw [List.getElem?_map, List.getElem?_take, if_pos (by omega), hak] at hxk
                exact (Option.some.inj hxk).symm
              have hcg := S5.out.2.1.congr hak HOJ.out (j := k) (k := j) (by omega) (by omega)
              have hmem : a2 ∈ l.take j := List.mem_iff_getElem?.2 ⟨k, by rw [List.getElem?_take, if_pos hkj]; exact hak⟩
              have HC := Lib.hid (And.intro hx3 (And.intro hcg hmem))
              have q0 : (0 : Int) ≤ k := by omega
              have q1 : (k : Int) < (n : Int) := by omega
              have q2 : (k : Int) < ((j + 1 : Nat) : Int) := by omega
              have q3 : (k : Int) < (j : Int) + 1 := by omega
              have q4 : (k : Int) < (j : Int) := by omega
              clear hca hcx hxk hak hx3 hcg hmem hb
              by_cases hae : a2 = s
              · have hxn : x3 = nm := by rw [HC.out.1, hae]; exact N3.out.2.2.2
                have hf : x1 = false := by
                  cases x1 with
                  | false => rfl
                  | true =>
                    exfalso
                    refine N3.out.2.2.1 rfl ?_
                    have h1 := (hbO.out a2 HC.out.2.2)
                    rw [hae] at h1
                    rw [N3.out.1]; exact h1
                subst hf
                have b1 := (str_eq hxn).1
                have b2 := (str_eq hae).1
                clear hae hxn
                go_wp2_with fail
                go_quiet (fail)
                go_wp2
                go_roundw
                case rel => exact ⟨k + 1, by omega, by go_num, Lib.hid (hT.out.drewN _)⟩
                case measure => simp [intOf]; omega
              · have hxn : x3 ≠ nm := fun h => hae (HC.out.2.1.1 (by rw [← HC.out.1, h]; exact N3.out.2.2.2.symm))
                have b1 := (str_ne hxn).1
                have b2 := (str_ne hae).1
                clear hae hxn
                go_wp2_with fail
                go_quiet (fail)
                go_wp2
                go_roundw
                case rel => exact ⟨k + 1, by omega, by go_num, Lib.hid (hT.out.drewN _)⟩
                case measure => simp [intOf]; omega
            · have S6 : Hid (KS w wr own4 pb M3 (6 * (j + 1)) ∧ NI M3 l (j + 1) ∧ NR w.heap.size wr own4 (.slice B5 (j + 1) c5) (j + 1) ((l.take (j + 1)).map M3.name)) := Lib.hid ⟨S5.out.1.t0 hT.out, S5.out.2.1, S5.out.2.2.grow (Grow.of_touch0 hT.out)⟩
              go_wp2_with fail
              go_roundw
              case rel => exact ⟨j + 1, own4, M3, by omega, by go_num, S6⟩
              case measure => simp [intOf]; omega
      · have hjn : j = n := by omega
        subst hjn
        go_wp2_with fail
        have hlen := HA.out.len
        have hall : ∀ t ∈ l, Named M t := fun t ht => (hb.out.2.1.has t (by rw [List.take_of_length_le (by omega)]; exact ht)).1
        have S1 : Hid (CI w wr own pb M M (200 + 200 * 0) (.slice Bv j cv0) j l 0 (M.order 0).length) := Lib.hid ⟨hb.out.1.mono (by omega), rfl, Nat.le_refl _, by have := hb.out.2.2; rw [List.take_of_length_le (by omega)] at this; exact this⟩
        have HALL := Lib.hid hall
        clear hall hb hlen
        go_loopw [13] (fun i wr => ∃ (k : Nat) (own : Own) (M' : BM) (c : Int) (q : Nat), k ≤ n' ∧ i = .int .i64 k ∧ Hid (CI w wr own pb M M' (200 + 200 * k) (.slice Bv j cv0) j l c q)) (fun i _ => n' - (intOf i).toNat)
        case atStart => exact ⟨0, own, M, 0, _, Nat.zero_le _, rfl, S1⟩
        clear S1
        case round =>
          obtain ⟨k, own2, M2, c0, q0, hk, rfl, hb⟩ := hrel
          by_cases hlk : k < n'
          · obtain ⟨g4, b4, c, hAc, _, hck, hcm, _, hcc⟩ := (HA'.out.below hb.out.ks.bel).at hlk
            subst hAc
            have yc := hcc 0 (.int .u8 c) rfl
            simp only [Nat.mul_one, Nat.add_zero] at yc
            have HYC : Hid (∀ wq, Below w.heap.size w wq → wq.cell? ⟨g4, b4 + k, none⟩ = some (.int .u8 c)) := Lib.hid fun wq hq => by
              obtain ⟨g', b', s', h1, _, h3, _, _, h6⟩ := (HA'.out.below hq).at hlk
              cases h1
              rw [hck] at h3; cases h3
              have := h6 0 (.int .u8 c) rfl
              simpa using this
            obtain ⟨hc0, hc1⟩ := HG'.out c hcm
            have gc : goodI c := goodI_of (by omega)
            have GC := Lib.hid gc
            clear hcc hck hcm gc
            have hi0 : (0 : Int) ≤ k := by omega
            have hi1 : (k : Int) < (n' : Int) := by omega
            have hwr : IntKind.i64.wrap c = c := IntWalk.i64_in _ (by omega)
            go_wp2_with fail
            refine (Forget_any hb.out.ks.b (by omega) GC.out).mono ?_
            rintro e w5 ⟨rfl, b5, g5⟩
            have S5 : Hid (CI w w5 own2 pb M (M2.forget c) (200 + 200 * k + 6 * 0) (.slice Bv j cv0) j l c 0) := Lib.hid ⟨(hb.out.ks.step b5 g5).mono (by omega), hb.out.nm, by simp [BM.forget, upd], hb.out.nr.grow g5⟩
            clear b5 g5 hb yc
            go_wp2_with fail
            go_loopw [14] (fun i wr => ∃ (q : Nat) (own : Own) (M' : BM), q ≤ j ∧ i = .int .i64 q ∧ Hid (CI w wr own pb M M' (200 + 200 * k + 6 * q) (.slice Bv j cv0) j l c q)) (fun i _ => j - (intOf i).toNat)
            case atStart => exact ⟨0, own2, _, Nat.zero_le _, rfl, S5⟩
            clear S5
            case round =>
              obtain ⟨q, own3, M3, hq, rfl, hb⟩ := hrel
              have yc := HYC.out wr hb.out.ks.bel
              by_cases hlq : q < j
              · obtain ⟨g6, b6, t, hA6, _, htk, htm, _, hct⟩ := (HA.out.below hb.out.ks.bel).at hlq
                subst hA6
                have yt := hct 0 (.string t) rfl
                simp only [Nat.mul_one, Nat.add_zero] at yt
                have HYT : Hid (∀ wq, Below w.heap.size w wq → wq.cell? ⟨g6, b6 + q, none⟩ = some (.string t)) := Lib.hid fun wq hq => by
                  obtain ⟨g', b', s', h1, _, h3, _, _, h6⟩ := (HA.out.below hq).at hlq
                  cases h1
                  rw [htk] at h3; cases h3
                  have := h6 0 (.string t) rfl
                  simpa using this
                have GT := Lib.hid (gT (HG.out t htm))
                have NT := Lib.hid (And.intro (HALL.out t htm) htk)
                clear hct htk htm
                have p0 : (0 : Int) ≤ q := by omega
                have p1 : (q : Int) < (j : Int) := by omega
                have Sd : Hid (CI w wr.drew own3 pb M M3 (200 + 200 * k + 6 * q) (.slice Bv j cv0) j l c q) := Lib.hid ⟨hb.out.ks.t0 (Touch.refl _ _).drew, hb.out.nm, hb.out.len, hb.out.nr.grow (Grow.of_touch0 (Touch.refl _ _).drew)⟩
                clear hb
                go_wp2_with fail
                go_region_held3 (fun W' => W'.cell? ⟨g4, b4 + k, none⟩ = some (.int .u8 c) ∧ W'.cell? ⟨g6, b6 + q, none⟩ = some (.string t)) (go_keep)
                  (first | (go_at_call 10; refine (Need_some Sd.out.ks.b (by omega) GC.out GT.out).mono ?_; rintro e w6 ⟨x6, own6, M6, rfl, b6', g6', hm6, hnm6, ho6⟩; have S6 := Sd.out.ks.step b6' g6'; have u0 := HYC.out w6 S6.bel; have u1 := HYT.out w6 S6.bel))
                all_goals
                  have hself := (named_same Sd.out.nm NT.out.1).2
                  have S7 : Hid (CI w w6 own6 pb M M6 (200 + 200 * k + 6 * q + 3) (.slice Bv j cv0) j l c (q + 1) ∧ M.name t ∈ M6.order c ∧ M3.name t = M.name t) := Lib.hid ⟨⟨S6, by rw [hnm6, hself]; exact Sd.out.nm, by
                    rcases ho6 with ⟨_, _, h⟩ | ⟨_, _, h⟩
                    · rw [h]; simp only [upd, if_true, List.length_append, List.length_cons, List.length_nil]; have := Sd.out.len; omega
                    · rw [h]; have := Sd.out.len; omega, Sd.out.nr.grow g6'⟩, by
                    rcases ho6 with ⟨_, _, h⟩ | ⟨_, h0, h⟩
                    · rw [h, name_same Sd.out.nm]; simp [upd]
                    · rw [h, ← name_same Sd.out.nm]; exact h0, name_same Sd.out.nm t⟩
                  clear b6' g6' hm6 hnm6 ho6 S6 hself Sd
                  have e7 : M6.nmd t = M6 := by unfold BM.nmd; rw [(named_same S7.out.1.nm NT.out.1).2]
                  have cv := Need_any (w := w6.drew) (S7.out.1.ks.b.kept0 (Touch.refl _ _).drew) (by omega) GC.out GT.out false (.inr ⟨rfl, by rw [name_same S7.out.1.nm]; exact S7.out.2.1⟩)
                  simp only [Bool.false_eq_true, if_false] at cv
                  rw [e7, name_same S7.out.1.nm] at cv
                  have CV := Lib.hid cv
                  clear cv e7
                  rw [S7.out.2.2]
                  go_wp2_with fail
                  go_region_held3 (fun W' => W'.cell? ⟨g4, b4 + k, none⟩ = some (.int .u8 c) ∧ W'.cell? ⟨g6, b6 + q, none⟩ = some (.string t)) (go_keep)
                    (first | (go_at_call 10; refine CV.out.mono ?_; rintro e w8 ⟨rfl, own8, b8, g8⟩; have S8 := (S7.out.1.ks.t0 (Touch.refl _ _).drew).step b8 g8; have v0 := HYC.out w8 S8.bel; have v1 := HYT.out w8 S8.bel))
                  all_goals
                    have S9 : Hid (CI w w8 own8 pb M M6 (200 + 200 * k + 6 * (q + 1)) (.slice Bv j cv0) j l c (q + 1)) := Lib.hid ⟨S8.mono (by omega), S7.out.1.nm, S7.out.1.len, (S7.out.1.nr.grow (Grow.of_touch0 (Touch.refl _ _).drew)).grow g8⟩
                    clear b8 g8 S8 CV S7 u0 u1
                    obtain ⟨g9, o9, x9, hB9, _, hx9, _, _, hc9⟩ := S9.out.nr.rowg.at (j := q) (by omega)
                    subst hB9
                    have yx := hc9 0 (.string x9) rfl
                    simp only [Nat.mul_one, Nat.add_zero] at yx
                    have hxe : M.name t = x9 := by
                      rw [List.getElem?_map, NT.out.2] at hx9
                      exact Option.some.inj hx9
                    subst hxe
                    have bne := (str_eq (rfl : M.name t = M.name t)).2
                    clear hc9 hx9
                    go_wp2_with fail
                    go_roundw
                    case rel => exact ⟨q + 1, own8, M6, by omega, by go_num, S9⟩
                    case measure => simp [intOf]; omega
              · go_wp2_with fail
                refine (Has_any hb.out.ks.b (by omega) GC.out).mono ?_
                rintro e w6 ⟨A6, c6, rfl, _, t6⟩
                have hle := hb.out.len
                have hcmp : ¬ (j : Int) < ((M3.order c).length : Int) := by omega
                have S6 : Hid (CI w w6 own3 pb M M3 (200 + 200 * (k + 1)) (.slice Bv j cv0) j l c q) := Lib.hid ⟨(hb.out.ks.t0 t6).mono (by omega), hb.out.nm, hb.out.len, hb.out.nr.grow (Grow.of_touch0 t6)⟩
                clear t6 hb hle yc
                go_wp2_with fail
                go_roundw
                case rel => exact ⟨k + 1, own3, M3, c, q, by omega, by go_num, S6⟩
                case measure => simp [intOf]; omega
          · go_wp2_with fail
            refine (known_any _).mono ?_
            rintro e w9 ⟨rfl, t9⟩
            have HF := Lib.hid (hb.out.ks.bel.trans (t9.mono hb.out.ks.bel.size))
            clear t9
            go_wp2
            go_ret
            exact ⟨rfl, HF.out⟩
  · by_cases e1 : n ≤ 30
    · have hi : ¬ (30 : Int) < (n : Int) := by omega
      have hi' : (30 : Int) < (n' : Int) := by omega
      go_wp2_with fail
      refine (known_any _).mono ?_
      rintro e w9 ⟨rfl, t9⟩
      have HF := Lib.hid (S0.out.1.bel.trans (t9.mono S0.out.1.bel.size))
      clear t9
      go_wp2
      go_ret
      exact ⟨rfl, HF.out⟩
    · have hi : (30 : Int) < (n : Int) := by omega
      go_wp2_with fail
      refine (known_any _).mono ?_
      rintro e w9 ⟨rfl, t9⟩
      have HF := Lib.hid (S0.out.1.bel.trans (t9.mono S0.out.1.bel.size))
      clear t9
      go_wp2
      go_ret
      exact ⟨rfl, HF.out⟩
end Go.Proofs.Ytjmgookpmngmaad
