/- What a value is, by its kind: part. -/
import Derived.Test.YtmhjbicbdahllaaGreatDoorVG
namespace Go.Proofs.YtmhjbicbdahllaaGreatDoor
open Go Go.RowKit

/-- What part makes of a value. -/
def partV (v : Val) (s : Value) : Value :=
  if v.kind = 0 then .iface 130 (.agg #[])
  else if v.kind = 1 then .iface 131 (.bool v.truth)
  else if v.kind = 2 then .iface 132 (.int .i64 v.num)
  else if v.kind = 3 then .iface 133 (.string v.text)
  else if v.kind = 4 then .iface 134 (.string v.text)
  else if v.kind = 8 then .iface 134 (.string v.text)
  else if v.kind = 9 then .iface 134 (.string v.text)
  else if v.kind = 5 then .iface 135 (s)
  else if v.kind = 6 then .iface 137 (.int .i64 v.num)
  else if v.kind = 7 then .iface 137 (.int .i64 v.num)
  else if v.kind = 10 then .iface 139 (.agg #[.string v.text, .string v.extra])
  else .iface 140 (.int .i64 v.kind)

def PartIs (v : Val) (s : Value) (w : World) (e : Ending) (w' : World) : Prop := e = .returned (partV v s) ∧ Below w.heap.size w w'

set_option maxRecDepth 100000 in
set_option maxHeartbeats 2000000 in
theorem part_any (v : Val) (s : Value) (w : World) : Calls Tryz.prog 97 #[.agg (cellsV v s)] w (PartIs v s w) := by
  obtain ⟨p, HP⟩ := name_itV (partV v s)
  unfold PartIs
  rw [HP.out]
  unfold partV at HP
  cases v with
  | mk k b n t x l =>
  simp only [cellsV, Val.kind, Val.truth, Val.num, Val.text, Val.extra] at HP ⊢
  by_cases h0 : k = 0
  · subst h0
    have hp := Lib.hid (show Ending.returned p = .returned (.iface 130 (.agg #[])) from by rw [← HP.out]; rfl)
    clear HP
    go_enter Tryz.func97, Tryz.ntmps97
    go_wp2_with fail
    go_ret
    exact ⟨hp.out.symm, (Below.refl _ _).alloc (Nat.le_refl _) _⟩
  · have e0 : ((k : Int) == 0) = false := beq_eq_false_iff_ne.2 h0
    by_cases h1 : k = 1
    · subst h1
      have hp := Lib.hid (show Ending.returned p = .returned (.iface 131 (.bool b)) from by rw [← HP.out]; rfl)
      clear HP
      go_enter Tryz.func97, Tryz.ntmps97
      go_wp2_with fail
      go_ret
      exact ⟨hp.out.symm, (Below.refl _ _).alloc (Nat.le_refl _) _⟩
    · have e1 : ((k : Int) == 1) = false := beq_eq_false_iff_ne.2 h1
      by_cases h2 : k = 2
      · subst h2
        have hp := Lib.hid (show Ending.returned p = .returned (.iface 132 (.int .i64 n)) from by rw [← HP.out]; rfl)
        clear HP
        go_enter Tryz.func97, Tryz.ntmps97
        go_wp2_with fail
        go_ret
        exact ⟨hp.out.symm, (Below.refl _ _).alloc (Nat.le_refl _) _⟩
      · have e2 : ((k : Int) == 2) = false := beq_eq_false_iff_ne.2 h2
        by_cases h3 : k = 3
        · subst h3
          have hp := Lib.hid (show Ending.returned p = .returned (.iface 133 (.string t)) from by rw [← HP.out]; rfl)
          clear HP
          go_enter Tryz.func97, Tryz.ntmps97
          go_wp2_with fail
          go_ret
          exact ⟨hp.out.symm, (Below.refl _ _).alloc (Nat.le_refl _) _⟩
        · have e3 : ((k : Int) == 3) = false := beq_eq_false_iff_ne.2 h3
          by_cases h4 : k = 4
          · subst h4
            have hp := Lib.hid (show Ending.returned p = .returned (.iface 134 (.string t)) from by rw [← HP.out]; rfl)
            clear HP
            go_enter Tryz.func97, Tryz.ntmps97
            go_wp2_with fail
            go_ret
            exact ⟨hp.out.symm, (Below.refl _ _).alloc (Nat.le_refl _) _⟩
          · have e4 : ((k : Int) == 4) = false := beq_eq_false_iff_ne.2 h4
            by_cases h8 : k = 8
            · subst h8
              have hp := Lib.hid (show Ending.returned p = .returned (.iface 134 (.string t)) from by rw [← HP.out]; rfl)
              clear HP
              go_enter Tryz.func97, Tryz.ntmps97
              go_wp2_with fail
              go_ret
              exact ⟨hp.out.symm, (Below.refl _ _).alloc (Nat.le_refl _) _⟩
            · have e8 : ((k : Int) == 8) = false := beq_eq_false_iff_ne.2 h8
              by_cases h9 : k = 9
              · subst h9
                have hp := Lib.hid (show Ending.returned p = .returned (.iface 134 (.string t)) from by rw [← HP.out]; rfl)
                clear HP
                go_enter Tryz.func97, Tryz.ntmps97
                go_wp2_with fail
                go_ret
                exact ⟨hp.out.symm, (Below.refl _ _).alloc (Nat.le_refl _) _⟩
              · have e9 : ((k : Int) == 9) = false := beq_eq_false_iff_ne.2 h9
                by_cases h5 : k = 5
                · subst h5
                  have hp := Lib.hid (show Ending.returned p = .returned (.iface 135 (s)) from by rw [← HP.out]; rfl)
                  clear HP
                  go_enter Tryz.func97, Tryz.ntmps97
                  go_wp2_with fail
                  go_ret
                  exact ⟨hp.out.symm, (Below.refl _ _).alloc (Nat.le_refl _) _⟩
                · have e5 : ((k : Int) == 5) = false := beq_eq_false_iff_ne.2 h5
                  by_cases h6 : k = 6
                  · subst h6
                    have hp := Lib.hid (show Ending.returned p = .returned (.iface 137 (.int .i64 n)) from by rw [← HP.out]; rfl)
                    clear HP
                    go_enter Tryz.func97, Tryz.ntmps97
                    go_wp2_with fail
                    go_ret
                    exact ⟨hp.out.symm, (Below.refl _ _).alloc (Nat.le_refl _) _⟩
                  · have e6 : ((k : Int) == 6) = false := beq_eq_false_iff_ne.2 h6
                    by_cases h7 : k = 7
                    · subst h7
                      have hp := Lib.hid (show Ending.returned p = .returned (.iface 137 (.int .i64 n)) from by rw [← HP.out]; rfl)
                      clear HP
                      go_enter Tryz.func97, Tryz.ntmps97
                      go_wp2_with fail
                      go_ret
                      exact ⟨hp.out.symm, (Below.refl _ _).alloc (Nat.le_refl _) _⟩
                    · have e7 : ((k : Int) == 7) = false := beq_eq_false_iff_ne.2 h7
                      by_cases h10 : k = 10
                      · subst h10
                        have hp := Lib.hid (show Ending.returned p = .returned (.iface 139 (.agg #[.string t, .string x])) from by rw [← HP.out]; rfl)
                        clear HP
                        go_enter Tryz.func97, Tryz.ntmps97
                        go_wp2_with fail
                        go_ret
                        exact ⟨hp.out.symm, (Below.refl _ _).alloc (Nat.le_refl _) _⟩
                      · have e10 : ((k : Int) == 10) = false := beq_eq_false_iff_ne.2 h10
                        have hp := Lib.hid (show Ending.returned p = .returned (.iface 140 (.int .i64 k)) from by rw [← HP.out]; simp only [h0, h1, h2, h3, h4, h8, h9, h5, h6, h7, h10, if_false])
                        clear HP
                        go_enter Tryz.func97, Tryz.ntmps97
                        go_wp2_with fail
                        go_ret
                        exact ⟨hp.out.symm, (Below.refl _ _).alloc (Nat.le_refl _) _⟩
end Go.Proofs.YtmhjbicbdahllaaGreatDoor
