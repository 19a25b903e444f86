/- vers: Dirty, All, Busy. -/
import Derived.Test.YtjmgookpmngmaacVe3
namespace Go.Proofs.Ytjmgookpmngmaac
open Go Go.RowKit Go.Maps

theorem mget_mapD (l : List (Int × Int)) (c : Int) : mget (mapD l) c = (mget l c).map intV := mget_map intV l c
theorem NamesI.cell {w wr : World} {A : Option Addr} {N : Nat} {l : List ByteArray} {S : List Nat} (h : NamesI w A N l) (t : Touch S w wr) (hA : N = 0 ∨ ∀ a, A = some a → a.block ∉ S) {k : Nat} (hk : k < N) :
    ∃ g o, A = some ⟨g, o, none⟩ ∧ (⟨g, o, none⟩ : Addr).add k = ⟨g, o + k, none⟩ ∧ wr.cell? ⟨g, o + k, none⟩ = some (.string (l.getD k ⟨#[]⟩)) ∧ l.take (k + 1) = l.take k ++ [l.getD k ⟨#[]⟩] ∧ l.getD k ⟨#[]⟩ ∈ l := by
  obtain ⟨h1, h2⟩ := h
  rcases h2 with h0 | ⟨g, o, rfl, hg, h2⟩
  · omega
  · refine ⟨g, o, rfl, by unfold Addr.add; split <;> simp_all, t.cell (h2 k hk) ((hA.resolve_left (by omega)) ⟨g, o, none⟩ rfl), take_succ' l k (by omega) _, ?_⟩
    rw [List.getD_eq_getElem?_getD, List.getElem?_eq_getElem (by omega)]; simp

structure DirtyK (w wr : World) (pv bm : Nat) (ep : Int) (rs0 : List (ByteArray × Tab)) (n : Nat) (c : Int) (l : List ByteArray) (k : Nat) (rs : List (ByteArray × Tab)) : Prop where
  ver : VerC wr pv bm ep rs
  num : ∀ s, numOf rs s = numOf rs0 s
  dirty : ∀ s c', dirtyOf rs s c' = (dirtyOf rs0 s c' || (decide (c = c') && hasB (l.take k) s))
  small : Small rs (n + k)
  new : ∀ i ∈ blocks pv bm rs, i ∈ blocks pv bm rs0 ∨ w.heap.size ≤ i
  touch : Touch (blocks pv bm rs0) w wr

theorem DirtyK.step {w wr w3 w4 : World} {pv bm : Nat} {ep c y : Int} {rs0 rs rs' : List (ByteArray × Tab)} {n k : Nat} {l : List ByteArray} {s : ByteArray} {t0 : Tab} (h : DirtyK w wr pv bm ep rs0 n c l k rs) (hs : l.take (k + 1) = l.take k ++ [s])
    (hv : VerC w3 pv bm ep rs') (hm : mget rs' s = some t0) (t3 : Touch [bm] wr w3) (hnew : ∀ i ∈ blocks pv bm rs', i ∈ blocks pv bm rs ∨ wr.heap.size ≤ i) (hS : SameT rs rs') (hsm : Small rs' (n + k + 1)) (hsd : t0.dirty.length ≤ n + k)
    (hM : MapT w4 t0.bd intV goodI (mput (mapD t0.dirty) c (intV y))) (t4 : Touch [t0.bd] w3 w4) :
    DirtyK w w4 pv bm ep rs0 n c l (k + 1) (mput rs' s { t0 with dirty := mput t0.dirty c y }) := by
  have hap := hv.apart hm
  have htab := hv.tabs _ (mget_mem hm)
  have hbp : blocks pv bm (mput rs' s { t0 with dirty := mput t0.dirty c y }) = blocks pv bm rs' := blocks_put hm rfl rfl
  have hbd : t0.bd ∈ blocks pv bm rs' := by simp only [blocks, List.mem_cons, mem_tabBlocks]; exact .inr (.inr ⟨_, mget_mem hm, .inr rfl⟩)
  have hwr := h.touch.size
  have hup : ∀ i ∈ blocks pv bm rs', i ∈ blocks pv bm rs0 ∨ w.heap.size ≤ i := fun i hi => by
    rcases hnew i hi with q | q
    · exact h.new i q
    · exact .inr (by omega)
  have hT : TabC w4 { t0 with dirty := mput t0.dirty c y } := ⟨(t4.block _ htab.lt.1 (by simpa using hap.2.2.2.2.2)).trans htab.cells, hM.of_eq (mput_map intV t0.dirty c y)⟩
  refine ⟨hv.turn hm rfl rfl (t4.mono (by simp)) hT, fun s' => ?_, fun s' c' => ?_, hsm.put hm hv.names (by have := hsm.num _ (mget_mem hm); exact this) (Nat.le_trans (mput_length _ _ _) (by omega)), fun i hi => ?_, ?_⟩
  · rw [numOf_put, ← h.num, ← hS.num]
    by_cases e : s = s'
    · subst e; rw [if_pos rfl]; simp [numOf, hm]
    · rw [if_neg e]
  · rw [dirtyOf_put, hs, hasB_append, hasB_one]
    by_cases e : s = s'
    · subst e
      have e1 : dirtyOf rs' s c' = (mget t0.dirty c').isSome := by simp [dirtyOf, hm]
      rw [if_pos rfl, mget_mput]
      rw [hS.dirty, h.dirty] at e1
      by_cases ec : c = c'
      · simp [ec]
      · simp [ec] at e1 ⊢; exact e1.symm
    · rw [if_neg e, hS.dirty, h.dirty]; simp [e]
  · rw [hbp] at hi; exact hup i hi
  · exact (h.touch.trans t3 (fun i hi => by simp at hi; subst hi; exact h.new i (by simp [blocks]))).trans t4 (fun i hi => by simp at hi; exact hup i (hi ▸ hbd))

theorem wrapI (x : Int) : goodI (IntKind.i64.wrap x) := by
  have e1 : IntKind.min .i64 = -9223372036854775808 := by decide
  have e2 : IntKind.max .i64 = 9223372036854775807 := by decide
  simp only [goodI, Lit.wf, e1, e2, Bool.and_eq_true, decide_eq_true_eq]
  have : IntKind.i64.wrap x = (x + 9223372036854775808) % 18446744073709551616 - 9223372036854775808 := by simp [IntKind.wrap_i64] <;> rfl
  omega

/-- A map of whole numbers, asked: what is there, or 0. -/
theorem look_int {w : World} {b : Nat} {l : List (Int × Int)} (h : MapT w b intV goodI (mapD l)) (c : Int) (hc : goodI c) :
    (Instr.lookup 61 (.map (some b)) (.int .i64 c) false).run Try.prog w = .ok (.int .i64 ((mget l c).getD 0)) w := by
  cases hm : mget l c with
  | some x =>
    have := h.look_hit encI Try.underlying61 hc (v := intV x) (by rw [mget_mapD, hm]; rfl) false
    simpa [intV] using this
  | none =>
    have := h.look_miss encI Try.underlying61 (zeroI w) hc (by rw [mget_mapD, hm]; rfl) false
    simpa [intV] using this

set_option maxHeartbeats 1600000 in
theorem Dirty_any {w : World} {pv bm : Nat} {ep : Int} {rs : List (ByteArray × Tab)} {n : Nat} (h : VerC w pv bm ep rs) (sm : Small rs n) (c : Int) (hc : goodI c) {A : Option Addr} {N cp : Nat} {l : List ByteArray} (hN : NamesI w A N l) (hA : N = 0 ∨ ∀ a, A = some a → a.block ∉ blocks pv bm rs) (hg : ∀ s ∈ l, goodS s) (hn : n + N < 1000000) :
    Calls Try.prog 15 #[.pointer (some ⟨pv, 0, none⟩), .int .i64 c, .slice A N cp] w fun e w' => e = .returned (.tuple #[]) ∧ ∃ rs', TMoved w w' pv bm ep rs rs' (n + N) ∧ (∀ s, numOf rs' s = numOf rs s) ∧ (∀ s c', dirtyOf rs' s c' = (dirtyOf rs s c' || (decide (c = c') && hasB l s))) := by
  have HN := Lib.hid hN
  have HA := Lib.hid hA; have HG := Lib.hid hg
  clear hA hg hN
  go_enter Try.func15, Try.ntmps15
  go_wp2_with fail
  refine (there_any h).mono ?_
  rintro e w1 ⟨rfl, rfl⟩
  go_wp2_with fail
  have K0 : DirtyK w w pv bm ep rs n c l 0 rs := ⟨h, fun _ => rfl, fun s c' => by simp [hasB], sm, fun i hi => .inl hi, Touch.refl _ _⟩
  go_loopw [13] (fun i wr => ∃ (k : Nat) (rs' : List (ByteArray × Tab)), k ≤ N ∧ i = .int .i64 k ∧ Hid (DirtyK w wr pv bm ep rs n c l k rs')) (fun i _ => N - (intOf i).toNat)
  case atStart => exact ⟨0, rs, Nat.zero_le _, rfl, Lib.hid K0⟩
  clear K0 h sm
  case round =>
    obtain ⟨k, rs1, hk, rfl, hK⟩ := hrel
    by_cases hlt : k < N
    · obtain ⟨g, o, rfl, hadd, c0, hs, hmem⟩ := HN.out.cell hK.out.touch HA.out hlt
      have hgs : goodS (l.getD k ⟨#[]⟩) := HG.out _ hmem
      generalize l.getD k ⟨#[]⟩ = s at *
      have Hs := Lib.hid hs
      clear hs hmem
      go_wp2_with fail
      refine (at_any hK.out.ver hK.out.small (by omega) s hgs).mono ?_
      rintro e w4 ⟨rs2, t0, rfl, hv4, hm4, t4, new4, same4, sm4, hsd⟩
      have hT := hv4.tabs _ (mget_mem hm4)
      have d1 := hT.c1
      simp only at d1
      have look := look_int hT.map c hc
      have hTm : MapT w4 t0.bd intV goodI (mapD t0.dirty) := hT.map
      have hml : (mapD t0.dirty).length < maxLen := by simp [mapD, maxLen]; omega
      clear hT
      generalize hx : (mget t0.dirty c).getD 0 = x at *
      clear hx
      go_wp2_with (at_mapUpdate; go_must (refine wpList_mt_store _ rfl _ _ _ 61 3 rfl encI Try.underlying61 hTm hml hc rfl rfl (.int .i64 (wrap64 (x + 1))) rfl ?_); intro w5 hM5 t5)
      have H5 := Lib.hid (hK.out.step Hs.out hv4 hm4 t4 new4 same4 sm4 hsd hM5 t5)
      clear hv4 hm4 t4 new4 same4 sm4 hM5 t5 look hTm hml
      go_wp2_with fail
      go_roundw
      case rel => exact ⟨k + 1, _, by omega, by go_num, H5⟩
      case measure => simp [intOf]; omega
    · have hkN : k = N := by omega
      subst hkN
      have hl' : l.take k = l := by rw [HN.out.1]; exact List.take_length
      go_wp2
      go_end0
      have K := hK.out
      exact ⟨rfl, rs1, ⟨K.ver, K.small, K.new, K.touch⟩, K.num, fun s c' => by have := K.dirty s c'; rw [hl'] at this; exact this⟩

theorem addAt {w : World} {a : Addr} {x : Int} (hc : w.cell? a = some (.int .i64 x)) (hz : w.frozen? a = false) (h0 : 0 ≤ x) (h1 : x < 1000000) :
    Calls Try.prog 32 #[.pointer (some a), .int .i64 1] w fun e w' => e = .returned (.int .i64 (x + 1)) ∧ w' = w.setCell a (.int .i64 (x + 1)) := by
  have hd := run_call_add (P := Try.prog) Try.func37 (by kernel_rfl) (by kernel_rfl) (by kernel_rfl) .i64 (by kernel_rfl) (y := 1) (s := x + 1) hc hz (by simp [go_sem, IntWalk.i64_in (x + 1) (by omega)])
  go_enter Try.func32, Try.ntmps32
  go_wp2
  go_ret
  exact ⟨rfl, rfl⟩
theorem loadAt {w : World} {a : Addr} {x : Int} (hc : w.cell? a = some (.int .i64 x)) :
    Calls Try.prog 33 #[.pointer (some a)] w fun e w' => e = .returned (.int .i64 x) ∧ w = w' := by
  have hd := run_call_load (P := Try.prog) Try.func38 (by kernel_rfl) (by kernel_rfl) (by kernel_rfl) .i64 (by kernel_rfl) hc
  go_enter Try.func33, Try.ntmps33
  go_wp2
  go_ret
  exact ⟨rfl, rfl⟩
theorem storeAt {w : World} {a : Addr} {u : Value} {x : Int} (hc : w.cell? a = some u) (hz : w.frozen? a = false) :
    Calls Try.prog 36 #[.pointer (some a), .int .i64 x] w fun e w' => e = .returned (.tuple #[]) ∧ w' = w.setCell a (.int .i64 x) := by
  have hd := run_call_store (P := Try.prog) Try.func39 (by kernel_rfl) (by kernel_rfl) (by kernel_rfl) (by kernel_rfl) (k := .i64) (y := x) hc hz
  go_enter Try.func36, Try.ntmps36
  go_wp2
  go_end0
  exact ⟨rfl, rfl⟩
theorem VerC.epoch {w : World} {pv bm : Nat} {ep : Int} {rs : List (ByteArray × Tab)} (h : VerC w pv bm ep rs) (x : Int) : VerC (w.setCell ⟨pv, 0, none⟩ (.int .i64 x)) pv bm x rs ∧ Touch [pv] w (w.setCell ⟨pv, 0, none⟩ (.int .i64 x)) := by
  have t : Touch [pv] w (w.setCell ⟨pv, 0, none⟩ (.int .i64 x)) := (Touch.refl _ _).setCell _ (by simp)
  have hn := h.nodup
  simp only [blocks, List.nodup_cons, List.mem_cons, not_or, mem_tabBlocks] at hn
  refine ⟨⟨block_set h.cells _, h.map.of_block (t.block bm h.map.lt (by simpa using Ne.symm hn.1.1)), fun r hr => (h.tabs r hr).kept t ?_ ?_, h.nodup⟩, t⟩
  · simp; exact fun e => hn.1.2 ⟨r, hr, .inl e.symm⟩
  · simp; exact fun e => hn.1.2 ⟨r, hr, .inr e.symm⟩
theorem All_any {w : World} {pv bm : Nat} {ep : Int} {rs : List (ByteArray × Tab)} (h : VerC w pv bm ep rs) (h0 : 0 ≤ ep) (h1 : ep < 1000000) :
    Calls Try.prog 12 #[.pointer (some ⟨pv, 0, none⟩)] w fun e w' => e = .returned (.tuple #[]) ∧ VerC w' pv bm (ep + 1) rs ∧ Touch [pv] w w' := by
  obtain ⟨v1, t1⟩ := h.epoch (ep + 1)
  have H := Lib.hid (And.intro v1 t1)
  have c0 := h.c0
  have f0 := frozen_of h.cells 0
  clear v1 t1
  go_enter Try.func12, Try.ntmps12
  go_wp2_with fail
  refine (there_any h).mono ?_
  rintro e w1 ⟨rfl, rfl⟩
  go_wp2_with fail
  refine (addAt c0 f0 h0 h1).mono ?_
  rintro e w1 ⟨rfl, rfl⟩
  go_wp2
  go_end0
  exact ⟨rfl, H.out⟩

/-! ### Busy -/
def busyOf (rs : List (ByteArray × Tab)) (l : List ByteArray) : Bool := l.any fun s => !((mget rs s).map (·.dirty)).getD [] matches []
theorem neqP (a : Addr) (W : World) : (binOp .neq 64 (.pointer (some a)) (.pointer none)).run Try.prog W = .ok (.bool true) W := by go_simp
set_option maxHeartbeats 1600000 in
theorem Busy_any {w : World} {pv bm : Nat} {ep : Int} {rs : List (ByteArray × Tab)} (h : VerC w pv bm ep rs) {A : Option Addr} {N cp : Nat} {l : List ByteArray} (hN : NamesI w A N l) (hg : ∀ s ∈ l, goodS s) (hn : N < 1000000) :
    Calls Try.prog 18 #[.pointer (some ⟨pv, 0, none⟩), .slice A N cp] w fun e w' => e = .returned (.bool (busyOf rs l)) ∧ w = w' := by
  have HN := Lib.hid hN
  have HG := Lib.hid hg
  have c1 := h.c1
  clear hg hN
  go_enter Try.func18, Try.ntmps18
  go_wp2_with fail
  refine (there_any h).mono ?_
  rintro e w1 ⟨rfl, rfl⟩
  go_wp2_with fail
  go_loop [13] (fun i => ∃ (k : Nat), k ≤ N ∧ i = .int .i64 k ∧ Hid (busyOf rs (l.take k) = false)) (fun i => N - (intOf i).toNat)
  case atStart => exact ⟨0, Nat.zero_le _, rfl, Lib.hid rfl⟩
  case round =>
    obtain ⟨k, hk, rfl, hK⟩ := hrel
    by_cases hlt : k < N
    · obtain ⟨g, o, rfl, hadd, c0, hs, hmem⟩ := HN.out.cell (Touch.refl [] w) (by simp) hlt
      have hgs : goodS (l.getD k ⟨#[]⟩) := HG.out _ hmem
      generalize l.getD k ⟨#[]⟩ = s at *
      have Hs := Lib.hid hs
      have Hm := Lib.hid hmem
      clear hs hmem
      cases hm : mget rs s with
      | none =>
        have hl := h.map.look_miss encS Try.underlying57 (zeroP w) hgs (by rw [mget_mapN, hm]; rfl) false
        simp only [Bool.false_eq_true, if_false, strV] at hl
        have Hmm := Lib.hid hm
        clear hm
        go_wp2_with fail
        go_round
        case rel => exact ⟨k + 1, by omega, by go_num, Lib.hid (by rw [Hs.out]; simp only [busyOf, List.any_append, Bool.or_eq_false_iff]; exact ⟨hK.out, by simp [Hmm.out]⟩)⟩
        case measure => simp [intOf]; omega
      | some t =>
        have hl := h.map.look_hit encS Try.underlying57 hgs (v := ptrV t) (by rw [mget_mapN, hm]; rfl) false
        simp only [Bool.false_eq_true, if_false, strV, ptrV] at hl
        have hT := h.tabs _ (mget_mem hm)
        have d1 := hT.c1
        have hlen := hT.map.len Try.underlying61 3
        simp only [mapD, List.length_map] at d1 hlen
        have Hmm := Lib.hid hm
        clear hm hT
        cases hd : t.dirty with
        | nil =>
          rw [hd] at hlen
          simp only [List.length_nil] at hlen
          have Hd := Lib.hid hd
          clear hd
          go_wp2_with fail
          go_round
          case rel => exact ⟨k + 1, by omega, by go_num, Lib.hid (by rw [Hs.out]; simp only [busyOf, List.any_append, Bool.or_eq_false_iff]; exact ⟨hK.out, by simp [Hmm.out, Hd.out]⟩)⟩
          case measure => simp [intOf]; omega
        | cons x xs =>
          rw [hd] at hlen
          have Hd := Lib.hid hd
          have hpos : (0 : Int) < ((x :: xs).length : Int) := by simp
          clear hd
          generalize hL : ((x :: xs).length : Int) = L at *
          go_wp2_with fail
          go_ret
          have : busyOf rs l = true := by
            unfold busyOf
            exact List.any_eq_true.2 ⟨s, Hm.out, by simp [Hmm.out, Hd.out]⟩
          exact ⟨by rw [this]; rfl, rfl⟩
    · have hkN : k = N := by omega
      subst hkN
      have hl' : l.take k = l := by rw [HN.out.1]; exact List.take_length
      have Hb : Hid (busyOf rs l = false) := Lib.hid (by have := hK.out; rwa [hl'] at this)
      clear hl'
      go_wp2
      go_ret
      exact ⟨by rw [Hb.out]; rfl, rfl⟩
end Go.Proofs.Ytjmgookpmngmaac
