/- A queue's Due, over its keys in order. -/
import Derived.Test.YthafopnaecbjdaaEx8
import Derived.Test.YthafopnaecbjdaaWMore
namespace Go.Proofs.Ythafopnaecbjdaa
open Go Go.RowKit Go.Maps Go.Proofs.YthafopnaecbjdaaW.PrintWords Go.Proofs.YthafopnaecbjdaaW.PrintLast Go.Proofs.YthafopnaecbjdaaW.PrintMore

section
variable {w w' : World} {p mb : Nat} {hv : Value} {H L : List It} {sets : Int}
theorem QP.at (h : QP w p mb hv H sets) (j : Nat) (hj : j < H.length) : ∃ hb cp, hv = .slice (some ⟨hb, 0, none⟩) H.length cp ∧ w.cell? ⟨p, 0, none⟩ = some (.slice (some ⟨hb, 0, none⟩) H.length cp) ∧ w.cell? ⟨hb, j * 3 + 1, none⟩ = some (.int .i64 (atI H j).at_) := by
  obtain ⟨P, a, _⟩ := h
  obtain ⟨hb, cp, e, _, h1, _⟩ := a.at j _ (of_at hj)
  exact ⟨hb, cp, e, by rw [← e]; exact a.cells.1, h1⟩
def keysL (L : List It) : List ByteArray := L.map (·.key)
def soon (now : Int) (x : It) : Bool := decide (x.at_ ≤ now)
def DueP (w : World) (p mb : Nat) (hv : Value) (L : List It) (sets now : Int) (e : Ending) (w' : World) : Prop :=
  ∃ v, e = .returned v ∧ ∃ hv', RowT w' v (keysL (L.takeWhile (soon now))) ∧ QL w' p mb hv' (L.dropWhile (soon now)) sets ∧ hv'.ownBlock = hv.ownBlock ∧ Touch (Foot p mb hv) w w' ∧ ∀ i, v.ownBlock = some i → w.heap.size ≤ i
theorem soon_split {now : Int} {L L1 L2 : List It} (h : L = L1 ++ L2) (h1 : ∀ x ∈ L1, x.at_ ≤ now) (h2 : L2 = [] ∨ ∃ y r, L2 = y :: r ∧ ¬ y.at_ ≤ now) : L.takeWhile (soon now) = L1 ∧ L.dropWhile (soon now) = L2 := by
  subst h
  induction L1 with
  | nil =>
    rcases h2 with rfl | ⟨y, r, rfl, hy⟩
    · exact ⟨rfl, rfl⟩
    · rw [List.nil_append, List.takeWhile_cons, List.dropWhile_cons, if_neg (by unfold soon; simpa using hy), if_neg (by unfold soon; simpa using hy)]
      exact ⟨rfl, rfl⟩
  | cons a r ih =>
    obtain ⟨e1, e2⟩ := ih (fun x hx => h1 x (List.mem_cons_of_mem _ hx))
    have ha := h1 a List.mem_cons_self
    rw [List.cons_append, List.takeWhile_cons, List.dropWhile_cons, if_pos (by unfold soon; simpa using ha), if_pos (by unfold soon; simpa using ha), e1, e2]
    exact ⟨rfl, rfl⟩
theorem QL.tail {H : List It} {y : It} {r : List It} {hv hv' : Value} {w w' : World} (h : QL w p mb hv (y :: r) sets) (hh : HpI H) (hp : H.Perm (y :: r)) (q : QP w' p mb hv' (remI H 0) sets) : QL w' p mb hv' r sets :=
  ⟨⟨_, q, (remI_ok hh (head_ok hh hp h.ord).1).1, perm_tail hh hp h.ord⟩, h.ord.tail, fun x hx => h.nums x (List.mem_cons_of_mem _ hx), fun x hx => h.ats x (List.mem_cons_of_mem _ hx), by have := h.len; simp at this; omega⟩
structure DueI (w : World) (p mb : Nat) (hv : Value) (L : List It) (sets now : Int) (v : Value) (wr : World) (L1 L2 : List It) (hv' : Value) : Prop where
  e : L = L1 ++ L2
  s : ∀ x ∈ L1, x.at_ ≤ now
  row : RowT wr v (keysL L1)
  q : QL wr p mb hv' L2 sets
  own : hv'.ownBlock = hv.ownBlock
  t : Touch (Foot p mb hv) w wr
  new : ∀ i, v.ownBlock = some i → w.heap.size ≤ i
theorem foot_own {p mb : Nat} {a b : Value} (h : a.ownBlock = b.ownBlock) : Foot p mb a = Foot p mb b := by unfold Foot; rw [h]
theorem DueI.fin {v : Value} {now : Int} {wr : World} {L1 L2 : List It} {hv' : Value} (h : DueI w p mb hv L sets now v wr L1 L2 hv') (h2 : L2 = [] ∨ ∃ y r, L2 = y :: r ∧ ¬ y.at_ ≤ now) : DueP w p mb hv L sets now (.returned v) wr := by
  obtain ⟨e1, e2⟩ := soon_split h.e h.s h2
  exact ⟨v, rfl, hv', by rw [e1]; exact h.row, by rw [e2]; exact h.q, h.own, h.t, h.new⟩
theorem DueI.step {v : Value} {now : Int} {wr w2 w6 : World} {L1 : List It} {y : It} {r : List It} {hv' hv2 v6 : Value} {o : Obj} (hw : QL w p mb hv L sets) (h : DueI w p mb hv L sets now v wr L1 (y :: r) hv') (hs : y.at_ ≤ now) {H : List It} (hh : HpI H) (hp : H.Perm (y :: r))
    (q2 : QP w2 p mb hv2 (remI H 0) sets) (t2 : Touch (Foot p mb hv') wr w2) (own2 : hv2.ownBlock = hv'.ownBlock) (ho : w6.ownsRow 0 9 1 v6 ((keysL L1).length + 1) (strs (keysL L1) ++ [.string y.key])) (hg : (w2.alloc o).grownBy w6 v.ownBlock) (hat : v6.ownBlock = v.ownBlock ∨ v6.ownBlock = some (w2.alloc o).heap.size) :
    DueI w p mb hv L sets now v6 w6 (L1 ++ [y]) r hv2 := by
  have hf : ∀ j ∈ Foot p mb hv, j < w.heap.size := hw.foot_lt
  have ef : Foot p mb hv' = Foot p mb hv := foot_own h.own
  have ef2 : Foot p mb hv2 = Foot p mb hv := foot_own (own2.trans h.own)
  have t26 : Touch v.ownBlock.toList w2 w6 := ((Touch.refl _ w2).alloc o).grownBy hg (fun k hk => .inl (by simp [hk]))
  have t2w : Touch (Foot p mb hv) w w2 := h.t.trans t2 (fun j hj => .inl (by rw [ef] at hj; exact hj))
  refine ⟨by rw [h.e, List.append_assoc]; rfl, fun x hx => ?_, ?_, ?_, own2.trans h.own, ?_, ?_⟩
  · rcases List.mem_append.1 hx with hx | hx
    · exact h.s x hx
    · rw [List.mem_singleton.1 hx]; exact hs
  · unfold RowT
    have e1 : keysL (L1 ++ [y]) = keysL L1 ++ [y.key] := by unfold keysL; rw [List.map_append]; rfl
    have e2 : strs (keysL L1 ++ [y.key]) = strs (keysL L1) ++ [.string y.key] := by unfold strs; rw [List.map_append]; rfl
    rw [e1, e2, List.length_append]
    exact ho
  · refine (QL.tail (w := wr) (hv := hv') h.q hh hp (QP.kept q2 t26 fun j hj hm => ?_))
    rw [ef2] at hj
    have h1 := hf j hj
    have h2 := h.new j (by simpa using hm)
    omega
  · exact t2w.trans t26 (fun j hj => .inr (by simp at hj; exact h.new j hj))
  · intro i hi
    rcases hat with e | e
    · exact h.new i (e ▸ hi)
    · rw [e] at hi
      cases hi
      have := t2w.size
      simp
      omega
def lenV : Value → Nat
  | .slice _ n _ => n
  | _ => 0
theorem DueI.len {v : Value} {now : Int} {wr : World} {L1 L2 : List It} {hv' : Value} (h : DueI w p mb hv L sets now v wr L1 L2 hv') : ∃ A c, v = .slice A L1.length c ∧ L1.length ≤ L.length := by
  obtain ⟨A, c, e⟩ := h.row.slice
  refine ⟨A, c, by rw [e]; unfold keysL; rw [List.length_map], by rw [h.e, List.length_append]; omega⟩
theorem field_key (s : ByteArray) (x y : Int) (w : World) : Sem.run Try.prog (Instr.field 52 (.agg #[.string s, .int .i64 x, .int .i64 y]) 0) w = .ok (.string s) w := by kernel_rfl
set_option maxHeartbeats 4000000 in
theorem due_any (h : QL w p mb hv L sets) (now : Int) : Calls Try.prog 14 #[.pointer (some ⟨p, 0, none⟩), .int .i64 now] w (DueP w p mb hv L sets now) := by
  have HL := Lib.hid h
  have HT : Hid (Calls Try.prog 24 #[.pointer (some ⟨p, 0, none⟩)] w fun e w' => e = .returned (.bool true) ∧ w' = w) := Lib.hid (by
    obtain ⟨H, ⟨P, a, b⟩, _⟩ := h.ex
    exact ethere_any a)
  have HLEN := Lib.hid h.len
  have hui := Try.underlying52
  have hfl := field_key
  obtain ⟨i0, hi0, hz0, hz1, hz2⟩ := info_t infoT
  have HI0 := Lib.hid (And.intro hi0 (And.intro hz0 (And.intro hz1 hz2)))
  clear hi0 hz0 hz1 hz2
  clear h
  go_enter Try.func14, Try.ntmps14
  repeat (first | go_step3 | go_values | go_skip | go_guarded | go_step | go_upon)
  (go_at_call 24; refine HT.out.mono ?_; rintro e w1 ⟨rfl, rfl⟩; dsimp only)
  repeat (first | go_step3 | go_values | go_skip | go_guarded | go_step | go_upon)
  go_loopw [5] (fun v wr => ∃ (L1 L2 : List It) (hv' : Value), Hid (DueI w1 p mb hv L sets now v wr L1 L2 hv')) (fun v _ => 101 - lenV v)
  case atStart => exact ⟨[], L, hv, Lib.hid ⟨rfl, fun x hx => (by cases hx), RowT.nil _, HL.out, rfl, Touch.refl _ _, fun i hi => (by cases hi)⟩⟩
  case round =>
    obtain ⟨L1, L2, hv', HD⟩ := hrel
    obtain ⟨H, hqp, hh, hp⟩ := HD.out.q.ex
    cases L2 with
    | nil =>
      have h0 : H.length = 0 := by rw [hp.length_eq]; rfl
      obtain ⟨A, cp, c0, _⟩ := hqp.cell0
      rw [h0] at c0
      clear hqp hh hp h0
      repeat (first | go_step3 | go_values | go_skip | go_guarded | go_step | go_upon)
      go_ret
      exact HD.out.fin (.inl rfl)
    | cons y r =>
      obtain ⟨h0, hy⟩ := head_ok hh hp HD.out.q.ord
      obtain ⟨hb, cp, e1, c0, c1⟩ := hqp.at 0 h0
      rw [hy] at c1
      have c1 : wr.cell? ⟨hb, 1, none⟩ = some (.int .i64 y.at_) := by simpa using c1
      have HH := Lib.hid (And.intro hqp (And.intro hh (And.intro hp (And.intro h0 (And.intro hy e1)))))
      obtain ⟨n, hn⟩ : ∃ n, n = H.length := ⟨_, rfl⟩
      have HN := Lib.hid hn
      rw [← hn] at c0
      have hn0 : (0 : Int) < n := by omega
      have hnn : ¬ n = 0 := by omega
      clear hqp hh hp h0 hy e1 hn
      by_cases hsoon : y.at_ ≤ now
      case neg =>
        have HS := Lib.hid hsoon
        repeat (first | go_step3 | go_values | go_skip | go_guarded | go_step | go_upon)
        go_ret
        exact HD.out.fin (.inr ⟨y, r, rfl, HS.out⟩)
      case pos =>
        have HR := Lib.hid (remove_any (i := 0) (n := n) (hb := hb) (cp := cp) (H := H) (w := wr) (p := p) (mb := mb) (sets := sets) (by have := HH.out.1; rw [HH.out.2.2.2.2.2, ← HN.out] at this; exact this) HN.out.symm (by rw [HN.out, HH.out.2.2.1.length_eq]; exact HD.out.q.len) (by rw [HN.out]; exact HH.out.2.2.2.1))
        rw [HH.out.2.2.2.2.1] at HR
        have HS := Lib.hid hsoon
        obtain ⟨A5, c5, e5, hle⟩ := HD.out.len
        subst e5
        have HLE := Lib.hid hle
        clear hle
        repeat (first | go_step3 | go_values | go_skip | go_guarded | go_step | go_upon)
        (go_at_call 26; refine HR.out.mono ?_; rintro e w2 ⟨rfl, q2, t2⟩; have HQ2 := Lib.hid q2; have HT2 := Lib.hid t2; clear q2 t2; dsimp only)
        repeat ((fail_if_success (with_reducible refine gate_builtin (b := .append) (xs := #[.tmp 26, .tmp 30]) rfl ?_)); first | go_step3 | go_values | go_skip | go_guarded | go_step | go_upon)
        have HROW : Hid (RowT (w2.alloc (Obj.cells #[.string y.key] 9)) (.slice A5 L1.length c5) (keysL L1)) := Lib.hid (HD.out.row.touch (HT2.out.alloc _) (fun i hi hh => by
          have h1 := HD.out.new i hi
          have h2 := HL.out.foot_lt i (by rw [foot_own HD.out.own.symm]; rw [HH.out.2.2.2.2.2]; exact hh)
          omega))
        ((with_reducible refine gate_builtin (b := .append) (xs := #[.tmp 26, .tmp 30]) rfl ?_); at_builtin; refine wpList_append_own_at _ rfl _ _ 35 rfl 0 9 i0 (.string (⟨#[]⟩ : ByteArray)) 1 16 Try.underlying35 HI0.out.1 HI0.out.2.1 HI0.out.2.2.1 HI0.out.2.2.2 rfl (by decide) (.slice A5 L1.length c5) (keysL L1).length (strs (keysL L1)) rfl HROW.out ⟨w2.heap.size, 0, none⟩ 1 1 [.string y.key] rfl rfl (news_of (cs := #[.string y.key]) (t := 9) (fr := (0, 0)) (heap_alloc_new w2 _)) (by simp [Value.oneCell']) ?_ ?_ (Nat.zero_le _) ?_)
        case refine_1 => unfold keysL maxLen; rw [List.length_map]; have := HLE.out; have := HLEN.out; omega
        case refine_2 => unfold keysL; rw [List.length_map]; have := HLE.out; have := HLEN.out; omega
        intro v6 w6 ho hg6 _ hat6
        have HD6 := Lib.hid (HD.out.step HL.out HS.out HH.out.2.1 HH.out.2.2.1 HQ2.out (by rw [HH.out.2.2.2.2.2, ← HN.out]; exact HT2.out) (by rw [HH.out.2.2.2.2.2]; rfl) ho hg6 hat6)
        obtain ⟨A6, c6, e6, hle6⟩ := HD6.out.len
        subst e6
        have HLE6 : Hid ((L1 ++ [y]).length = L1.length + 1 ∧ (L1 ++ [y]).length ≤ L.length) := Lib.hid ⟨by simp, hle6⟩
        generalize (L1 ++ [y]).length = n6 at HLE6 hle6 ho hg6 hat6 HD6 ⊢
        clear ho hg6 hat6 hle6
        dsimp only
        repeat (first | go_step3 | go_values | go_skip | go_guarded | go_step | go_upon)
        try go_roundw
        case rel => exact ⟨L1 ++ [y], r, _, HD6⟩
        case measure => have := HLE6.out; have := HLEN.out; simp [lenV]; omega
end
end Go.Proofs.Ythafopnaecbjdaa
