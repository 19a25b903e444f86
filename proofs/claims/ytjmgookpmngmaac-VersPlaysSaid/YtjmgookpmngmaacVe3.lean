/- vers: Bump's walk. -/
import Derived.Test.YtjmgookpmngmaacVe2
namespace Go.Proofs.Ytjmgookpmngmaac
open Go Go.RowKit Go.Maps

/-- What a call has made of the tables. -/
structure TMoved (w w' : World) (pv bm : Nat) (ep : Int) (rs rs' : List (ByteArray × Tab)) (n : Nat) : Prop where
  ver : VerC w' pv bm ep rs'
  small : Small rs' n
  new : ∀ i ∈ blocks pv bm rs', i ∈ blocks pv bm rs ∨ w.heap.size ≤ i
  touch : Touch (blocks pv bm rs) w w'

theorem BumpK.skip {w wr w2 : World} {pv bm bh : Nat} {ep : Int} {rs0 rs : List (ByteArray × Tab)} {n k : Nat} {l : List ByteArray} {hl : List (ByteArray × Value)} {s : ByteArray} (h : BumpK w wr pv bm bh ep rs0 n l k rs hl) (hs : l.take (k + 1) = l.take k ++ [s]) (hin : hasB (l.take k) s = true)
    (hM : MapT w2 bh strV goodS (mput hl s (Value.int .i64 ((cntB (l.take k) s : Nat) + 1)))) (t : Touch [bh] wr w2) : BumpK w w2 pv bm bh ep rs0 n l (k + 1) rs (mput hl s (Value.int .i64 ((cntB (l.take k) s : Nat) + 1))) := by
  have hb := h.bh1
  refine ⟨h.ver.kept t (fun i hi e => h.bh2 (by simp at e; exact e ▸ hi)), hM, Nat.le_trans (mput_length _ _ _) (by have := h.hlen; omega), had_next hs h.hget, fun s' => ?_, h.dirty, h.small.mono (by omega), h.new, h.bh1, h.bh2, h.touch.trans t (fun i hi => by simp at hi; exact .inr (hi ▸ hb))⟩
  rw [h.num, hs, hasB_append, hasB_one]
  by_cases e : s = s'
  · subst e; simp [hin]
  · simp [e]
theorem BumpK.bump {w wr w2 w3 : World} {pv bm bh : Nat} {ep : Int} {rs0 rs rs' : List (ByteArray × Tab)} {n k : Nat} {l : List ByteArray} {hl : List (ByteArray × Value)} {s : ByteArray} {t0 : Tab} (h : BumpK w wr pv bm bh ep rs0 n l k rs hl) (hs : l.take (k + 1) = l.take k ++ [s]) (hin : hasB (l.take k) s = false)
    (hM : MapT w2 bh strV goodS (mput hl s (Value.int .i64 ((cntB (l.take k) s : Nat) + 1)))) (t : Touch [bh] wr w2) (hv : VerC w3 pv bm ep rs') (hm : mget rs' s = some t0) (t3 : Touch [bm] w2 w3) (hnew : ∀ i ∈ blocks pv bm rs', i ∈ blocks pv bm rs ∨ w2.heap.size ≤ i) (hS : SameT rs rs') (hsm : Small rs' (n + k + 1)) (hle : t0.num ≤ n + k) :
    BumpK w (w3.setCell ⟨t0.pt, 0, none⟩ (.int .i64 (t0.num + 1))) pv bm bh ep rs0 n l (k + 1) (mput rs' s { t0 with num := t0.num + 1 }) (mput hl s (Value.int .i64 ((cntB (l.take k) s : Nat) + 1))) := by
  have hb := h.bh1
  have hwr : w.heap.size ≤ wr.heap.size := h.touch.size
  have hw2 : wr.heap.size ≤ w2.heap.size := t.size
  have hbm : bm ∈ blocks pv bm rs := by simp [blocks]
  have hpt : t0.pt ∈ blocks pv bm rs' := by simp only [blocks, List.mem_cons, mem_tabBlocks]; exact .inr (.inr ⟨_, mget_mem hm, .inl rfl⟩)
  have hnb : bh ∉ blocks pv bm rs' := fun hm' => by
    rcases hnew bh hm' with q | q
    · exact h.bh2 q
    · have := h.had.lt; omega
  have tS : Touch [t0.pt] w3 (w3.setCell ⟨t0.pt, 0, none⟩ (.int .i64 (t0.num + 1))) := (Touch.refl _ _).setCell _ (by simp)
  have hnum : 0 ≤ t0.num := (hsm.num _ (mget_mem hm)).1
  have hbp : blocks pv bm (mput rs' s { t0 with num := t0.num + 1 }) = blocks pv bm rs' := blocks_put hm rfl rfl
  refine ⟨hv.store hm _, (hM.of_block (t3.block bh hM.lt ?_)).of_block (tS.block bh ?_ ?_), Nat.le_trans (mput_length _ _ _) (by have := h.hlen; omega), had_next hs h.hget, fun s' => ?_, fun s' c => ?_, hsm.put hm hv.names ⟨by simp only; omega, by simp only; omega⟩ (hsm.dirty _ (mget_mem hm)), fun i hi => ?_, h.bh1, ?_, ?_⟩
  · simp; exact fun e => h.bh2 (e ▸ hbm)
  · exact Nat.lt_of_lt_of_le hM.lt t3.size
  · simp; exact fun e => hnb (e ▸ hpt)
  · rw [numOf_put, hs, hasB_append, hasB_one]
    by_cases e : s = s'
    · subst e
      have e1 : numOf rs' s = t0.num := by simp [numOf, hm]
      rw [hS.num, h.num, hin] at e1
      simp at e1
      simp [e1]
    · rw [if_neg e, hS.num, h.num]
      simp [e]
  · rw [dirtyOf_put, ← h.dirty, ← hS.dirty]
    by_cases e : s = s'
    · subst e; rw [if_pos rfl]; simp [dirtyOf, hm]
    · rw [if_neg e]
  · rw [hbp] at hi
    rcases hnew i hi with q | q
    · exact h.new i q
    · exact .inr (by omega)
  · rw [hbp]; exact hnb
  · have hup : ∀ i ∈ blocks pv bm rs', i ∈ blocks pv bm rs0 ∨ w.heap.size ≤ i := fun i hi => by
      rcases hnew i hi with q | q
      · exact h.new i q
      · exact .inr (by omega)
    exact ((h.touch.trans t (fun i hi => by simp at hi; exact .inr (hi ▸ hb))).trans t3 (fun i hi => by simp at hi; exact h.new i (hi ▸ hbm))).trans tS (fun i hi => by simp at hi; exact hup i (hi ▸ hpt))

theorem Small.numOf {rs : List (ByteArray × Tab)} {n : Nat} (h : Small rs n) (s : ByteArray) : 0 ≤ numOf rs s ∧ numOf rs s ≤ n := by
  unfold Go.Proofs.Ytjmgookpmngmaac.numOf
  cases hm : mget rs s with
  | none => simp
  | some t => simpa using h.num _ (mget_mem hm)
theorem SameT.at {rs rs' : List (ByteArray × Tab)} (h : SameT rs rs') {s : ByteArray} {t : Tab} (hm : mget rs' s = some t) : t.num = numOf rs s := by
  rw [← h.num]; simp [numOf, hm]
theorem infoS : (Try.prog.info? 9).map (fun i => (i.zero, i.size, i.bytes)) = some (some (.string ⟨#[]⟩), 1, 16) := by kernel_rfl

set_option maxHeartbeats 1600000 in
theorem Bump_any {w : World} {pv bm : Nat} {ep : Int} {rs : List (ByteArray × Tab)} {n : Nat} (h : VerC w pv bm ep rs) (sm : Small rs n) {A : Option Addr} {N cp : Nat} {l : List ByteArray} (hN : NamesI w A N l) (hA : N = 0 ∨ ∀ a, A = some a → a.block ∉ blocks pv bm rs) (hg : ∀ s ∈ l, goodS s) (hn : n + N < 1000000) :
    Calls Try.prog 11 #[.pointer (some ⟨pv, 0, none⟩), .slice A N cp] w fun e w' => e = .returned (.tuple #[]) ∧ ∃ rs', TMoved w w' pv bm ep rs rs' (n + N) ∧ (∀ s, numOf rs' s = numOf rs s + if hasB l s then 1 else 0) ∧ (∀ s c, dirtyOf rs' s c = dirtyOf rs s c) := by
  have hmm := @run_makeMap Try.prog
  have HN := Lib.hid hN
  have HA := Lib.hid hA; have HG := Lib.hid hg
  clear hA hg hN
  go_enter Try.func11, Try.ntmps11
  go_wp2_with fail
  refine (there_any h).mono ?_
  rintro e w1 ⟨rfl, rfl⟩
  go_wp2_with fail
  have b1 := MapT.made (enc := strV) (good := goodS) w
  have K0 : BumpK w (w.alloc (Obj.map #[] 0)) pv bm w.heap.size ep rs n l 0 rs [] :=
    ⟨h.kept0 ((Touch.refl _ _).alloc _), b1, by simp, fun s => by simp [mget, hasB], fun s => by simp [hasB], fun _ _ => rfl, sm, fun i hi => .inl hi, Nat.le_refl _, fun hm => by have := h.lt _ hm; omega, ((Touch.refl _ _).alloc _)⟩
  generalize w.heap.size = bh at *
  generalize w.alloc (Obj.map #[] 0) = w2 at *
  go_loopw [13] (fun i wr => ∃ (k : Nat) (rs' : List (ByteArray × Tab)) (hl : List (ByteArray × Value)), k ≤ N ∧ i = .int .i64 k ∧ Hid (BumpK w wr pv bm bh ep rs n l k rs' hl)) (fun i _ => N - (intOf i).toNat)
  case atStart => exact ⟨0, rs, [], Nat.zero_le _, rfl, Lib.hid K0⟩
  clear K0 b1 h sm
  case round =>
    obtain ⟨k, rs1, hl, hk, rfl, hK⟩ := hrel
    by_cases hlt : k < N
    · have hkl : k < l.length := by have := HN.out.1; omega
      obtain ⟨g, o, rfl, hgw, hcell⟩ : ∃ g o, A = some ⟨g, o, none⟩ ∧ g < w.heap.size ∧ ∀ j, j < N → w.cell? ⟨g, o + j, none⟩ = some (.string (l.getD j ⟨#[]⟩)) := by
        rcases HN.out.2 with h0 | hx
        · omega
        · exact hx
      have hg0 : g ∉ blocks pv bm rs := (HA.out.resolve_left (by omega)) _ rfl
      have c0 := hK.out.touch.cell (hcell k hlt) hg0
      have hs := take_succ' l k hkl (⟨#[]⟩ : ByteArray)
      have hgs : goodS (l.getD k ⟨#[]⟩) := HG.out _ (by rw [List.getD_eq_getElem?_getD, List.getElem?_eq_getElem hkl]; simp)
      generalize l.getD k ⟨#[]⟩ = s at *
      have Hs := Lib.hid hs
      have hget := hK.out.hget s
      have hadd : (⟨g, o, none⟩ : Addr).add k = ⟨g, o + k, none⟩ := by unfold Addr.add; split <;> simp_all
      have hcnt := cntB_le (l.take k) s
      have htk : (l.take k).length ≤ k := List.length_take_le _ _
      have hll : hl.length < maxLen := by have := hK.out.hlen; simp [maxLen]; omega
      clear hcell hs
      cases hin : hasB (l.take k) s with
      | true =>
        have hp := cntB_pos hin
        rw [hin, if_pos rfl] at hget
        have Hin := Lib.hid hin
        generalize hc : cntB (l.take k) s = c at *
        have look1 := hK.out.had.look_hit encS Try.underlying60 hgs hget false
        simp only [Bool.false_eq_true, if_false, strV] at look1
        have hne : ((c : Int) + 1 == 1) = false := by simp; omega
        clear hin hget
        go_wp2_with (at_mapUpdate; go_must (refine wpList_mt_store _ rfl _ _ _ 60 3 rfl encS Try.underlying60 hK.out.had hll hgs rfl rfl (.int .i64 (c + 1)) rfl ?_); intro w3 hM3 t3; have look2 := hM3.look_hit encS Try.underlying60 hgs (v := .int .i64 (c + 1)) (by rw [mget_mput]; simp) false; simp only [Bool.false_eq_true, if_false, strV] at look2)
        go_wp2
        go_roundw
        case rel => exact ⟨k + 1, _, _, by omega, by go_num, Lib.hid (hK.out.skip Hs.out Hin.out (by rw [hc]; exact hM3) t3)⟩
        case measure => simp [intOf]; omega
      | false =>
        have hp := cntB_zero hin
        rw [hin, if_neg (by simp)] at hget
        have Hin := Lib.hid hin
        have Hp := Lib.hid hp
        have look1 := hK.out.had.look_miss encS Try.underlying60 (zeroI wr) hgs hget false
        simp only [Bool.false_eq_true, if_false, strV] at look1
        clear hin hget hcnt hp
        go_wp2_with (at_mapUpdate; go_must (refine wpList_mt_store _ rfl _ _ _ 60 3 rfl encS Try.underlying60 hK.out.had hll hgs rfl rfl (.int .i64 1) rfl ?_); intro w3 hM3 t3; have look2 := hM3.look_hit encS Try.underlying60 hgs (v := .int .i64 1) (by rw [mget_mput]; simp) false; simp only [Bool.false_eq_true, if_false, strV] at look2)
        have hv3 : VerC w3 pv bm ep rs1 := hK.out.ver.kept t3 (fun i hi e => hK.out.bh2 (by simp at e; exact e ▸ hi))
        refine (at_any hv3 hK.out.small (by omega) s hgs).mono ?_
        rintro e w4 ⟨rs2, t0, rfl, hv4, hm4, t4, new4, same4, sm4, _⟩
        have hle : t0.num ≤ n + k := by rw [same4.at hm4]; have := (hK.out.small.numOf s).2; omega
        have hge : 0 ≤ t0.num := by rw [same4.at hm4]; exact (hK.out.small.numOf s).1
        have d0 := (hv4.tabs _ (mget_mem hm4)).c0
        have f0 := frozen_of (hv4.tabs _ (mget_mem hm4)).cells 0
        simp only at d0 f0
        have H5 := Lib.hid (hK.out.bump Hs.out Hin.out (by rw [Hp.out]; exact hM3) t3 hv4 hm4 t4 new4 same4 sm4 hle)
        clear hv3 hv4 hm4 t4 new4 same4 sm4 look1 look2 hM3 t3
        go_wp2
        go_roundw
        case rel => exact ⟨k + 1, _, _, by omega, by go_num, H5⟩
        case measure => simp [intOf]; omega
    · have hkN : k = N := by omega
      subst hkN
      have hl' : l.take k = l := by rw [HN.out.1]; exact List.take_length
      go_wp2
      go_end0
      have K := hK.out
      exact ⟨rfl, rs1, ⟨K.ver, K.small, K.new, K.touch⟩, fun s => by have := K.num s; rw [hl'] at this; exact this, K.dirty⟩
end Go.Proofs.Ytjmgookpmngmaac
