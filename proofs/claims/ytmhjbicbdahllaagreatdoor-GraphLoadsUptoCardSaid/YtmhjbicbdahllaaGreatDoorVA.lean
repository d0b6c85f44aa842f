/- The reference's decimals: what a text is read as, and whether it is a decimal. -/
import Derived.Test.YtmhjbicbdahllaaGreatDoorV9
namespace Go.Proofs.YtmhjbicbdahllaaGreatDoor
open Go Go.RowKit Go.Maps Go.WideMaps

theorem digs_nine {l : List UInt8} (h : ∀ c ∈ l, c = 46 ∨ digN c.toNat = true) : ∀ x ∈ digsD l, x ≤ 9 := by
  induction l with
  | nil => intro x hx; cases hx
  | cons c l ih =>
    intro x hx
    unfold digsD at hx
    rcases List.mem_append.1 hx with hx | hx
    · exact ih (fun d hd => h d (List.mem_cons_of_mem _ hd)) x hx
    · cases hc : c == 46 with
      | true => rw [hc] at hx; cases hx
      | false =>
        rw [hc] at hx
        have hx : x ∈ [c.toNat - 48] := hx
        rw [List.mem_singleton] at hx
        rcases h c List.mem_cons_self with e | e
        · rw [e] at hc; cases hc
        · unfold digN at e; have := of_decide_eq_true e; omega
theorem parse_some {s : ByteArray} {neg : Bool} {D : List Nat} {S : Nat} (h : parseT s = some (neg, D, S)) : (∀ i, atD D i ≤ 9) ∧ D.length ≤ s.size ∧ S ≤ s.size := by
  unfold parseT at h
  cases hp : pointF (sgnT s).data.toList 0 none with
  | none => rw [hp] at h; cases h
  | some p =>
    rw [hp] at h
    simp only at h
    cases hc : (decide ((sgnT s).size = 0) || p == some 0 || p == some ((sgnT s).size - 1)) with
    | true => rw [hc] at h; cases h
    | false =>
      rw [hc] at h
      have h : some (sgnB s, digsD (sgnT s).data.toList, scaleP (sgnT s).size p) = some (neg, D, S) := h
      injection h with h
      injection h with _ h
      injection h with hD hS
      have hl := sgn_size s
      refine ⟨fun i => ?_, ?_, ?_⟩
      · unfold atD
        cases hi : D[i]? with
        | none => simp
        | some x => exact digs_nine (pf_all hp) x (by rw [hD]; exact List.mem_of_getElem? hi)
      · have := digs_length (sgnT s).data.toList
        rw [hD, data_len] at this
        omega
      · rw [← hS]
        cases p with
        | none => exact Nat.zero_le _
        | some i => show (sgnT s).size - 1 - i ≤ s.size; omega

/-- What a text is read as, and the error's number. -/
def readT (s : ByteArray) : ByteArray × Int :=
  match parseT s with
  | none => (⟨#[]⟩, 6)
  | some (neg, D, S) => (cond (formOut D S) ⟨#[]⟩ (formT neg D S), cond (formOut D S) 2 0)
def decB (s : ByteArray) : Bool := decide ((readT s).2 = 0) && decide ((readT s).1 = s)
def ReadIs (s : ByteArray) (w : World) (e : Ending) (w' : World) : Prop := Below w.heap.size w w' ∧ e = .returned (.tuple #[.string (readT s).1, .int .i64 (readT s).2])

set_option maxRecDepth 100000 in
set_option maxHeartbeats 1000000 in
theorem refRead_any (s : ByteArray) (hs : s.size ≤ 4000000000000) (w : World) : Calls Tryz.prog 151 #[.string s] w (ReadIs s w) := by
  go_enter Tryz.func151, Tryz.ntmps151
  go_wp2_with fail
  refine (parsed_any s hs _).mono ?_
  rintro e w1 ⟨hb, he⟩
  cases hp : parseT s with
  | none =>
    rw [hp] at he
    have he : e = .returned (.tuple #[.agg #[.bool false, .slice none 0 0, .int .i64 0], .bool false]) := he
    subst he
    have hr := Lib.hid (show readT s = (⟨#[]⟩, 6) from by unfold readT; rw [hp])
    have hba := Lib.hid (hb.alloc hb.size (.cells #[.bool false, .slice none 0 0, .int .i64 0] 180))
    clear hp hb
    go_wp2_with fail
    exact bodyPost_ret (v := .tuple #[.string ⟨#[]⟩, .int .i64 6]) (by simp [results, Tryz.results151, go_sem]) rfl ⟨hba.out, by rw [hr.out]⟩
  | some r =>
    obtain ⟨neg, D, S⟩ := r
    rw [hp] at he
    obtain ⟨A, cap, he, hi⟩ := he
    subst he
    obtain ⟨h9, hl, hS⟩ := parse_some hp
    have hr := Lib.hid (show readT s = (cond (formOut D S) ⟨#[]⟩ (formT neg D S), cond (formOut D S) 2 0) from by unfold readT; rw [hp])
    have hba := Lib.hid (hb.alloc hb.size (.cells #[.bool neg, .slice A D.length cap, .int .i64 (S : Int)] 180))
    have hf := Lib.hid (form_any neg D S (by omega) (by omega) h9 A cap (w1.alloc (.cells #[.bool neg, .slice A D.length cap, .int .i64 (S : Int)] 180)) (hi.under ((Below.refl w1.heap.size w1).alloc (Nat.le_refl _) _)))
    have hsz := Lib.hid hb.size
    clear hp hb h9 hi
    go_wp2_with fail
    refine hf.out.mono ?_
    rintro e w2 ⟨hb2, rfl⟩
    have hb2 := Lib.hid hb2
    go_wp2_with fail
    exact bodyPost_ret (v := .tuple #[.string (readT s).1, .int .i64 (readT s).2]) (by rw [hr.out]; simp [results, Tryz.results151, go_sem]) rfl ⟨hba.out.trans (hb2.out.mono (by have := hsz.out; simp; omega)), rfl⟩

set_option maxRecDepth 100000 in
set_option maxHeartbeats 1000000 in
theorem refDec_any (s : ByteArray) (hs : s.size ≤ 4000000000000) (w : World) : Calls Tryz.prog 140 #[.string s] w (ToldB (decB s) w) := by
  go_enter Tryz.func140, Tryz.ntmps140
  go_wp2_with fail
  refine (refRead_any s hs _).mono ?_
  rintro e w1 ⟨hb, rfl⟩
  have HB := Lib.hid hb
  obtain ⟨r1, H1⟩ := name_itV (readT s).1
  obtain ⟨r2, H2⟩ := name_itV (readT s).2
  rw [H1.out, H2.out]
  have hd := Lib.hid (show decB s = (decide (r2 = 0) && decide (r1 = s)) from by unfold decB; rw [H1.out, H2.out])
  clear hb
  by_cases h2 : r2 = 0
  · have hf := Lib.hid (show (r1.toList == s.toList) = decB s from by
      rw [hd.out, decide_eq_true h2]
      by_cases h1 : r1 = s
      · rw [decide_eq_true h1, h1]; simp
      · rw [decide_eq_false h1, strV_ne h1]; rfl)
    clear H2
    subst h2
    go_wp2_with fail
    go_ret
    exact ⟨ret_b hf.out, HB.out⟩
  · have hf := Lib.hid (show false = decB s from by rw [hd.out, decide_eq_false h2]; rfl)
    go_wp2_with fail
    go_ret
    exact ⟨ret_b hf.out, HB.out⟩
end Go.Proofs.YtmhjbicbdahllaaGreatDoor
