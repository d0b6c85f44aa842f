/- The program's decimals: what is told of a sign, digits and a scale (the walk). -/
import Derived.Test.YtmhjbicbdahllaaGreatDoorVE
import Derived.Deep.RegionHeld3
namespace Go.Proofs.YtmhjbicbdahllaaGreatDoor
open Go Go.RowKit Go.Shelf Go.Lib

def bK (l : List UInt8) : ByteArray := ⟨l.toArray⟩
theorem bK_size (l : List UInt8) : (bK l).size = l.length := by simp [bK, ByteArray.size]
theorem bK_data (l : List UInt8) : (bK l).data.toList = l := rfl
theorem bK_toList (l : List UInt8) : (bK l).toList = l := Lib.toList_data (bK l)
theorem bK_app (a b : List UInt8) : bK a ++ bK b = bK (a ++ b) := by
  apply ByteArray.ext
  simp [bK, ByteArray.data_append]
theorem bK_take (a : List UInt8) {k : Nat} : (bK a).extract 0 k = bK (a.take k) := by
  apply ByteArray.ext
  simp [bK]
theorem bK_drop (a : List UInt8) {k n : Nat} (h : a.length = n) : (bK a).extract k n = bK (a.drop k) := by
  apply ByteArray.ext
  subst h
  simp [bK]
  exact List.take_of_length_le (by simp)
theorem bK_of (s : ByteArray) : bK s.data.toList = s := by apply ByteArray.ext; simp [bK]
theorem repeat_zero (n : Nat) : Lib.repeatL [48] n = List.replicate n 48 := by
  induction n with
  | zero => rfl
  | succ n ih => simp [Lib.repeatL, ih, List.replicate_succ]
theorem padT_length (d : List UInt8) (sc : Nat) : (padT d sc).length = max d.length (sc + 1) := by
  unfold padT
  split
  · simp; omega
  · omega
theorem wholeT_le (d : List UInt8) (sc : Nat) : (wholeT d sc).length ≤ d.length + 1 := by
  unfold wholeT Lib.trimLeftS
  have h := (List.dropWhile_sublist ([48].contains ·) (l := (padT d sc).take ((padT d sc).length - sc))).length_le
  have := padT_length d sc
  rw [List.length_take] at h
  omega
theorem partT_le (d : List UInt8) (sc : Nat) : (partT d sc).length ≤ sc := by
  unfold partT Lib.trimRightS
  rw [List.length_reverse]
  have h := (List.dropWhile_sublist ([48].contains ·) (l := ((padT d sc).drop ((padT d sc).length - sc)).reverse)).length_le
  have := padT_length d sc
  rw [List.length_reverse, List.length_drop] at h
  omega
/-- What told hands back. -/
def ToldIs (neg : Bool) (d : List UInt8) (sc : Nat) (w : World) (e : Ending) (w' : World) : Prop := Below w.heap.size w w' ∧ e = .returned (.tuple #[.string (bK (toldT neg d sc).1), .int .i64 (toldT neg d sc).2])
set_option maxRecDepth 100000 in
set_option maxHeartbeats 2000000 in
theorem told_any (neg : Bool) (d : List UInt8) (sc : Nat) (hd : d.length ≤ 1000000) (hsc : sc ≤ 1000000) (w : World) :
    Calls Tryz.prog 146 #[.bool neg, .string (bK d), .int .i64 (sc : Int)] w (ToldIs neg d sc w) := by
  obtain ⟨n, Hn⟩ := name_itV d.length
  have hn : (bK d).size = n := by rw [bK_size]; exact Hn.out
  have hnb : n ≤ 1000000 := by rw [← Hn.out]; exact hd
  obtain ⟨D, HD⟩ := name_itV (bK d)
  obtain ⟨P, HP⟩ := name_itV (padT d sc)
  obtain ⟨Wl, HW⟩ := name_itV (wholeT d sc)
  obtain ⟨Pl, HPl⟩ := name_itV (partT d sc)
  have hPl := padT_length d sc
  have hWle := wholeT_le d sc
  have hple := partT_le d sc
  rw [HP.out, Hn.out] at hPl
  rw [HW.out, Hn.out] at hWle
  rw [HPl.out] at hple
  obtain ⟨K, HK⟩ := name_itV (P.length - sc)
  have hKb : K ≤ 1000001 := by rw [← HK.out]; omega
  have hw := Lib.hid (show Lib.trimLeftS (P.take K) [48] = Wl from by rw [← HW.out, ← HK.out, ← HP.out]; rfl)
  have hp := Lib.hid (show Lib.trimRightS (P.drop K) [48] = Pl from by rw [← HPl.out, ← HK.out, ← HP.out]; rfl)
  have htold := Lib.hid (show toldT neg d sc = (if 40 < Wl.length ∨ 20 < Pl.length then ([], 2)
    else if Wl = [] ∧ Pl = [] then ([48, 46, 48], 0)
    else ((if neg = true then [45] else []) ++ (if Wl = [] then [48] else Wl) ++ [46] ++ (if Pl = [] then [48] else Pl), 0)) from by unfold toldT; rw [HW.out, HPl.out])
  rw [HD.out]
  have hDs : D.size = n := by rw [← HD.out]; exact hn
  have HDs := Lib.hid hDs
  clear hn hDs hd
  go_enter Tryz.func146, Tryz.ntmps146
  go_upto_if 13 with fail
  go_cut [1] (fun s1 wx => s1 = .string (bK P) ∧ Below w.heap.size w wx)
  case first =>
    by_cases hle : n ≤ sc
    · obtain ⟨c, hc⟩ : ∃ c : Nat, c = sc + 1 - n := ⟨_, rfl⟩
      have hrep := Lib.hid (repeat_any ⟨#[48]⟩ c w (by omega) (by rw [show (⟨#[48]⟩ : ByteArray).size = 1 from rfl, Nat.one_mul]; omega))
      have w1 : IntKind.i64.wrap ((sc : Int) + 1) = (sc : Int) + 1 := IntWalk.i64_in _ (by omega)
      have w2 : IntKind.i64.wrap ((sc : Int) + 1 - (D.size : Int)) = (c : Int) := by rw [HDs.out, IntWalk.i64_in _ (by omega)]; omega
      have e1 : D.size ≤ sc := by rw [HDs.out]; omega
      have e2 : (sc : Int) + 1 - (D.size : Int) = (c : Int) := by rw [HDs.out]; omega
      have hpd := Lib.hid (show bK (List.replicate c 48) ++ D = bK P from by
        rw [← HD.out, ← HP.out, bK_app]
        unfold padT
        rw [if_pos (by rw [Hn.out]; exact hle), Hn.out, hc])
      have hlist : (⟨#[48]⟩ : ByteArray).data.toList = [48] := rfl
      have hrep2 := hrep.out
      rw [hlist, repeat_zero] at hrep2
      have hrep3 := Lib.hid (show Calls Tryz.prog 155 #[.string ⟨#[48]⟩, .int .i64 (c : Int)] w fun e w' => e = .returned (.string (bK (List.replicate c 48))) ∧ Below w.heap.size w w' from hrep2)
      obtain ⟨Z, HZ⟩ := name_itV (bK (List.replicate c 48))
      have hZs : Z.size ≤ 1000001 := by rw [← HZ.out, bK_size, List.length_replicate]; omega
      rw [HZ.out] at hrep3 hpd
      have hadd : ∀ W : World, (Op.stringOp .add Z D).run Tryz.prog W = .ok (.string (Z ++ D)) W := fun W => run_string_add_sum W _ _ (by rw [HDs.out]; omega)
      clear hrep2 hrep hlist hc
      go_wp2_with fail; refine hrep3.out.mono ?_; rintro e w' ⟨rfl, hB⟩
      have HB := Lib.hid hB
      clear hB
      go_wp2_with fail
      go_meet
      exact ⟨by rw [hpd.out], HB.out⟩
    · have e1 : ¬ D.size ≤ sc := by rw [HDs.out]; omega
      have hpd := Lib.hid (show D = bK P from by
        rw [← HD.out, ← HP.out]
        unfold padT
        rw [if_neg (by rw [Hn.out]; exact hle)])
      go_wp2_with fail
      go_meet
      exact ⟨by rw [hpd.out], Below.refl _ _⟩
  case rest =>
    obtain ⟨rfl, hB1⟩ := hcut
    have HB1 := Lib.hid hB1
    clear hB1
    rename World => w1
    obtain ⟨Pb, HPb⟩ := name_itV (bK P)
    have hPs : Pb.size = K + sc := by rw [← HPb.out, bK_size, ← HK.out]; omega
    have HPs := Lib.hid hPs
    have hslice1 := Lib.hid (show Pb.extract 0 K = bK (P.take K) from by rw [← HPb.out]; exact bK_take P)
    have hslice2 := Lib.hid (show Pb.extract K Pb.size = bK (P.drop K) from by rw [← HPb.out, bK_size]; exact bK_drop P rfl)
    rw [HPb.out]
    have w3 : IntKind.i64.wrap ((Pb.size : Int) - (sc : Int)) = (K : Int) := by rw [HPs.out, IntWalk.i64_in _ (by omega)]; omega
    have w4 : (0 : Int) ≤ (K : Int) := by omega
    have w5 : (K : Int) ≤ (Pb.size : Int) := by rw [HPs.out]; omega
    have w6 : ((K : Int)).toNat = K := rfl
    have htr := Lib.hid (fun (W : World) => show Calls Tryz.prog 156 #[.string (Pb.extract K Pb.size), .string ⟨#[48]⟩] W fun e w' => e = .returned (.string (bK Pl)) ∧ Below W.heap.size W w' from by
      have := trimRZero (Pb.extract K Pb.size) W (by rw [hslice2.out, bK_size, List.length_drop]; omega)
      rw [hslice2.out, bK_data, hp.out] at this
      rw [hslice2.out]
      exact this)
    clear hPs
    have p1 := Lib.hid (show Below w.heap.size w w1.drew from ⟨HB1.out.os, HB1.out.tape, HB1.out.output, HB1.out.size, HB1.out.block⟩)
    go_upto_region 3 with fail
    go_cut [8, 9] (fun s8 s9 wx => s8 = .string (bK (P.take K)) ∧ s9 = .string (bK Pl) ∧ Below w.heap.size w wx)
    case first =>
      go_region_held3 (fun w' => Below w.heap.size w w') (first | exact p1.out | exact HB1.out | exact HB2.out | (trace_state; fail))
        (first | (go_at_call 156; refine (htr.out _).mono ?_; rintro e w2 ⟨rfl, hb2⟩; have HB2 := Lib.hid (p1.out.trans (hb2.mono p1.out.size)); clear hb2))
      go_wp2_with fail
      go_meet
      exact ⟨by rw [hslice1.out], rfl, HB2.out⟩
    case rest =>
      obtain ⟨h8, h9, hB2⟩ := hcut
      have HB2 := Lib.hid hB2
      clear hB2
      rename World => w2
      have htl := Lib.hid (fun (W : World) => show Calls Tryz.prog 157 #[.string (bK (P.take K)), .string ⟨#[48]⟩] W fun e w' => e = .returned (.string (bK Wl)) ∧ Below W.heap.size W w' from by
        have := trimLZero (bK (P.take K)) W
        rw [bK_data, hw.out] at this
        exact this)
      obtain ⟨Tk, HTk⟩ := name_itV (bK (P.take K))
      rw [HTk.out] at htl h8
      subst h8 h9
      obtain ⟨wb, Hwb⟩ := name_itV (bK Wl)
      obtain ⟨pb, Hpb⟩ := name_itV (bK Pl)
      have hws : wb.size = Wl.length := by rw [← Hwb.out, bK_size]
      have hps : pb.size = Pl.length := by rw [← Hpb.out, bK_size]
      have hwt : wb.toList = Wl := by rw [← Hwb.out, bK_toList]
      have hpt : pb.toList = Pl := by rw [← Hpb.out, bK_toList]
      have HWS := Lib.hid hws
      have HPS := Lib.hid hps
      have HWT := Lib.hid hwt
      have HPT := Lib.hid hpt
      rw [Hwb.out] at htl
      rw [Hpb.out]
      have hwb2 : wb.size ≤ 1000001 := by rw [hws]; omega
      have hpb2 : pb.size ≤ 1000001 := by rw [hps]; omega
      clear hws hps hwt hpt w3 w4 w5 w6
      go_wp2_with fail; refine (htl.out _).mono ?_; rintro e w3 ⟨rfl, hb3⟩
      have HB3 := Lib.hid (HB2.out.trans (hb3.mono HB2.out.size))
      clear hb3
      by_cases hov : 40 < Wl.length ∨ 20 < Pl.length
      · have ht := Lib.hid (show toldT neg d sc = ([], 2) from by rw [htold.out, if_pos hov])
        by_cases ho1 : 40 < wb.size
        · have o1 : (40 : Int) < (wb.size : Int) := by omega
          go_wp2_with fail
          exact bodyPost_ret (v := .tuple #[.string ⟨#[]⟩, .int .i64 2]) (by simp [results, Tryz.results146, go_sem]) rfl ⟨HB3.out, by rw [ht.out]; rfl⟩
        · have o1 : ¬ (40 : Int) < (wb.size : Int) := by omega
          have o2 : (20 : Int) < (pb.size : Int) := by rw [HPS.out]; rw [HWS.out] at ho1; omega
          go_wp2_with fail
          exact bodyPost_ret (v := .tuple #[.string ⟨#[]⟩, .int .i64 2]) (by simp [results, Tryz.results146, go_sem]) rfl ⟨HB3.out, by rw [ht.out]; rfl⟩
      · have o1 : ¬ (40 : Int) < (wb.size : Int) := by rw [HWS.out]; omega
        have o2 : ¬ (20 : Int) < (pb.size : Int) := by rw [HPS.out]; omega
        by_cases hw0 : Wl = []
        · have q1 : wb.toList = [] := by rw [HWT.out]; exact hw0
          by_cases hp0 : Pl = []
          · have q2 : pb.toList = [] := by rw [HPT.out]; exact hp0
            have ht := Lib.hid (show toldT neg d sc = ([48, 46, 48], 0) from by rw [htold.out, if_neg hov, if_pos ⟨hw0, hp0⟩])
            clear hov hw0 hp0
            go_wp2_with fail
            exact bodyPost_ret (v := .tuple #[.string ⟨#[48, 46, 48]⟩, .int .i64 0]) (by simp [results, Tryz.results146, go_sem]) rfl ⟨HB3.out, by rw [ht.out]; rfl⟩
          · have q2 : ¬ pb.toList = [] := by rw [HPT.out]; exact hp0
            have q2i : pb.toList.isEmpty = false := by rw [HPT.out]; simpa using hp0
            have ht := Lib.hid (show toldT neg d sc = ((if neg = true then [45] else []) ++ [48] ++ [46] ++ Pl, 0) from by rw [htold.out, if_neg hov, if_neg (fun h => hp0 h.2), if_pos hw0, if_neg hp0])
            clear hov hw0 hp0
            cases neg with
            | true =>
              have a1 : ∀ W : World, (Op.stringOp .add ⟨#[45]⟩ ⟨#[48]⟩).run Tryz.prog W = .ok (.string (⟨#[45]⟩ ++ ⟨#[48]⟩)) W := fun W => run_string_add_sum W _ _ (by decide)
              have a2 : ∀ W : World, (Op.stringOp .add (⟨#[45]⟩ ++ ⟨#[48]⟩) ⟨#[46]⟩).run Tryz.prog W = .ok (.string (⟨#[45]⟩ ++ ⟨#[48]⟩ ++ ⟨#[46]⟩)) W := fun W => run_string_add_sum W _ _ (by decide)
              have a3 : ∀ W : World, (Op.stringOp .add (⟨#[45]⟩ ++ ⟨#[48]⟩ ++ ⟨#[46]⟩) pb).run Tryz.prog W = .ok (.string (⟨#[45]⟩ ++ ⟨#[48]⟩ ++ ⟨#[46]⟩ ++ pb)) W := fun W => run_string_add_sum W _ _ (by rw [show ((⟨#[45]⟩ ++ ⟨#[48]⟩ ++ ⟨#[46]⟩ : ByteArray)).size = 3 from rfl]; omega)
              go_wp2_with fail
              exact bodyPost_ret (v := .tuple #[.string (⟨#[45]⟩ ++ ⟨#[48]⟩ ++ ⟨#[46]⟩ ++ pb), .int .i64 0]) (by simp [results, Tryz.results146, go_sem]) rfl ⟨HB3.out, by rw [ht.out, ← Hpb.out]; exact congrArg (fun z => Ending.returned (.tuple #[.string z, .int .i64 0])) (bK_app [45, 48, 46] Pl)⟩
            | false =>
              have a2 : ∀ W : World, (Op.stringOp .add ⟨#[48]⟩ ⟨#[46]⟩).run Tryz.prog W = .ok (.string (⟨#[48]⟩ ++ ⟨#[46]⟩)) W := fun W => run_string_add_sum W _ _ (by decide)
              have a3 : ∀ W : World, (Op.stringOp .add (⟨#[48]⟩ ++ ⟨#[46]⟩) pb).run Tryz.prog W = .ok (.string (⟨#[48]⟩ ++ ⟨#[46]⟩ ++ pb)) W := fun W => run_string_add_sum W _ _ (by rw [show ((⟨#[48]⟩ ++ ⟨#[46]⟩ : ByteArray)).size = 2 from rfl]; omega)
              go_wp2_with fail
              exact bodyPost_ret (v := .tuple #[.string (⟨#[48]⟩ ++ ⟨#[46]⟩ ++ pb), .int .i64 0]) (by simp [results, Tryz.results146, go_sem]) rfl ⟨HB3.out, by rw [ht.out, ← Hpb.out]; exact congrArg (fun z => Ending.returned (.tuple #[.string z, .int .i64 0])) (bK_app [48, 46] Pl)⟩
        · have q1 : ¬ wb.toList = [] := by rw [HWT.out]; exact hw0
          have q1i : wb.toList.isEmpty = false := by rw [HWT.out]; simpa using hw0
          by_cases hp0 : Pl = []
          · have q2 : pb.toList = [] := by rw [HPT.out]; exact hp0
            have ht := Lib.hid (show toldT neg d sc = ((if neg = true then [45] else []) ++ Wl ++ [46] ++ [48], 0) from by rw [htold.out, if_neg hov, if_neg (fun h => hw0 h.1), if_neg hw0, if_pos hp0])
            clear hov hw0 hp0
            cases neg with
            | true =>
              have a1 : ∀ W : World, (Op.stringOp .add ⟨#[45]⟩ wb).run Tryz.prog W = .ok (.string (⟨#[45]⟩ ++ wb)) W := fun W => run_string_add_sum W _ _ (by rw [show ((⟨#[45]⟩ : ByteArray)).size = 1 from rfl]; omega)
              have a2 : ∀ W : World, (Op.stringOp .add (⟨#[45]⟩ ++ wb) ⟨#[46]⟩).run Tryz.prog W = .ok (.string (⟨#[45]⟩ ++ wb ++ ⟨#[46]⟩)) W := fun W => run_string_add_sum W _ _ (by rw [ByteArray.size_append, show ((⟨#[45]⟩ : ByteArray)).size = 1 from rfl, show ((⟨#[46]⟩ : ByteArray)).size = 1 from rfl]; omega)
              have a3 : ∀ W : World, (Op.stringOp .add (⟨#[45]⟩ ++ wb ++ ⟨#[46]⟩) ⟨#[48]⟩).run Tryz.prog W = .ok (.string (⟨#[45]⟩ ++ wb ++ ⟨#[46]⟩ ++ ⟨#[48]⟩)) W := fun W => run_string_add_sum W _ _ (by rw [ByteArray.size_append, ByteArray.size_append, show ((⟨#[45]⟩ : ByteArray)).size = 1 from rfl, show ((⟨#[46]⟩ : ByteArray)).size = 1 from rfl, show ((⟨#[48]⟩ : ByteArray)).size = 1 from rfl]; omega)
              go_wp2_with fail
              exact bodyPost_ret (v := .tuple #[.string (⟨#[45]⟩ ++ wb ++ ⟨#[46]⟩ ++ ⟨#[48]⟩), .int .i64 0]) (by simp [results, Tryz.results146, go_sem]) rfl ⟨HB3.out, by rw [ht.out, ← Hwb.out]; exact congrArg (fun z => Ending.returned (.tuple #[.string z, .int .i64 0])) (by rw [← bK_app, ← bK_app, ← bK_app]; rfl)⟩
            | false =>
              have a2 : ∀ W : World, (Op.stringOp .add wb ⟨#[46]⟩).run Tryz.prog W = .ok (.string (wb ++ ⟨#[46]⟩)) W := fun W => run_string_add_sum W _ _ (by rw [show ((⟨#[46]⟩ : ByteArray)).size = 1 from rfl]; omega)
              have a3 : ∀ W : World, (Op.stringOp .add (wb ++ ⟨#[46]⟩) ⟨#[48]⟩).run Tryz.prog W = .ok (.string (wb ++ ⟨#[46]⟩ ++ ⟨#[48]⟩)) W := fun W => run_string_add_sum W _ _ (by rw [ByteArray.size_append, show ((⟨#[46]⟩ : ByteArray)).size = 1 from rfl, show ((⟨#[48]⟩ : ByteArray)).size = 1 from rfl]; omega)
              go_wp2_with fail
              exact bodyPost_ret (v := .tuple #[.string (wb ++ ⟨#[46]⟩ ++ ⟨#[48]⟩), .int .i64 0]) (by simp [results, Tryz.results146, go_sem]) rfl ⟨HB3.out, by rw [ht.out, ← Hwb.out]; exact congrArg (fun z => Ending.returned (.tuple #[.string z, .int .i64 0])) (by rw [if_neg (by decide), List.nil_append, ← bK_app, ← bK_app]; rfl)⟩
          · have q2 : ¬ pb.toList = [] := by rw [HPT.out]; exact hp0
            have q2i : pb.toList.isEmpty = false := by rw [HPT.out]; simpa using hp0
            have ht := Lib.hid (show toldT neg d sc = ((if neg = true then [45] else []) ++ Wl ++ [46] ++ Pl, 0) from by rw [htold.out, if_neg hov, if_neg (fun h => hp0 h.2), if_neg hw0, if_neg hp0])
            clear hov hw0 hp0
            cases neg with
            | true =>
              have a1 : ∀ W : World, (Op.stringOp .add ⟨#[45]⟩ wb).run Tryz.prog W = .ok (.string (⟨#[45]⟩ ++ wb)) W := fun W => run_string_add_sum W _ _ (by rw [show ((⟨#[45]⟩ : ByteArray)).size = 1 from rfl]; omega)
              have a2 : ∀ W : World, (Op.stringOp .add (⟨#[45]⟩ ++ wb) ⟨#[46]⟩).run Tryz.prog W = .ok (.string (⟨#[45]⟩ ++ wb ++ ⟨#[46]⟩)) W := fun W => run_string_add_sum W _ _ (by rw [ByteArray.size_append, show ((⟨#[45]⟩ : ByteArray)).size = 1 from rfl, show ((⟨#[46]⟩ : ByteArray)).size = 1 from rfl]; omega)
              have a3 : ∀ W : World, (Op.stringOp .add (⟨#[45]⟩ ++ wb ++ ⟨#[46]⟩) pb).run Tryz.prog W = .ok (.string (⟨#[45]⟩ ++ wb ++ ⟨#[46]⟩ ++ pb)) W := fun W => run_string_add_sum W _ _ (by rw [ByteArray.size_append, ByteArray.size_append, show ((⟨#[45]⟩ : ByteArray)).size = 1 from rfl, show ((⟨#[46]⟩ : ByteArray)).size = 1 from rfl]; omega)
              go_wp2_with fail
              exact bodyPost_ret (v := .tuple #[.string (⟨#[45]⟩ ++ wb ++ ⟨#[46]⟩ ++ pb), .int .i64 0]) (by simp [results, Tryz.results146, go_sem]) rfl ⟨HB3.out, by rw [ht.out, ← Hwb.out, ← Hpb.out]; exact congrArg (fun z => Ending.returned (.tuple #[.string z, .int .i64 0])) (by rw [← bK_app, ← bK_app, ← bK_app]; rfl)⟩
            | false =>
              have a2 : ∀ W : World, (Op.stringOp .add wb ⟨#[46]⟩).run Tryz.prog W = .ok (.string (wb ++ ⟨#[46]⟩)) W := fun W => run_string_add_sum W _ _ (by rw [show ((⟨#[46]⟩ : ByteArray)).size = 1 from rfl]; omega)
              have a3 : ∀ W : World, (Op.stringOp .add (wb ++ ⟨#[46]⟩) pb).run Tryz.prog W = .ok (.string (wb ++ ⟨#[46]⟩ ++ pb)) W := fun W => run_string_add_sum W _ _ (by rw [ByteArray.size_append, show ((⟨#[46]⟩ : ByteArray)).size = 1 from rfl]; omega)
              go_wp2_with fail
              exact bodyPost_ret (v := .tuple #[.string (wb ++ ⟨#[46]⟩ ++ pb), .int .i64 0]) (by simp [results, Tryz.results146, go_sem]) rfl ⟨HB3.out, by rw [ht.out, ← Hwb.out, ← Hpb.out]; exact congrArg (fun z => Ending.returned (.tuple #[.string z, .int .i64 0])) (by rw [if_neg (by decide), List.nil_append, ← bK_app, ← bK_app]; rfl)⟩
end Go.Proofs.YtmhjbicbdahllaaGreatDoor
