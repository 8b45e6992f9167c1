/-
  Sip: a round as the reference does it. No condition of its own.
-/
import Derived.Test.YthclmpbgehkgeaaSip2
import Derived.Deep.RegionLaw
set_option linter.unusedSimpArgs false
set_option linter.unusedVariables false
namespace Go.Proofs.Ythclmpbgehkgeaa
open Go.RowKit


set_option maxRecDepth 100000 in
set_option maxHeartbeats 8000000 in
theorem rround (v : W4) (w : World) (hv : v.good) :
    Calls Try.prog 19 #[.agg v.cells] w fun e w' => e = .returned (.agg (rnd v).cells) ∧ Below w.heap.size w w' := by
  obtain ⟨a, b, c, d⟩ := v
  obtain ⟨g1, g2, g3, g4⟩ := hv
  simp only at g1 g2 g3 g4
  have w1 := wd_ad a b
  have w2 := wd_xr (rotl 8192 2251799813685248 b) _ (wd_rotl_13 _ g2) w1
  have w3 := wd_ad c d
  have w4 := wd_xr (rotl 65536 281474976710656 d) _ (wd_rotl_16 _ g4) w3
  have w5 := wd_ad (ad c d) (xr (rotl 8192 2251799813685248 b) (ad a b))
  have G := Lib.hid (And.intro g2 (And.intro g4 (And.intro w1 (And.intro w2 (And.intro w4 w5)))))
  clear g1 g2 g3 g4 w1 w2 w3 w4 w5
  show Calls Try.prog 19 #[.agg #[.int .u64 a, .int .u64 b, .int .u64 c, .int .u64 d]] w _
  go_enter Try.func19, Try.ntmps19
  go_upto_region 2 with fail
  go_cut [] (fun wx => Below w.heap.size w wx ∧ Blk wx w.heap.size 41 #[.int .u64 (ad a b), .int .u64 (xr (rotl 8192 2251799813685248 b) (ad a b)), .int .u64 c, .int .u64 d] ∧ Blk wx (w.heap.size + 1) 41 #[.int .u64 0, .int .u64 0, .int .u64 0, .int .u64 0])
  case first =>
    go_region_law ((go_simp; go_at_call 24; refine (turn13 _ _ G.out.1).mono ?_; rintro e q ⟨rfl, rfl⟩))
    all_goals
      go_wp2_with fail
      go_meet
      exact ⟨by go_grown, Blk.drew (Blk.alloc (Blk.newAt (by simp)) _), Blk.drew (Blk.newAt (by simp))⟩
  case rest =>
    obtain ⟨hbw, hV, hR⟩ := hcut
    have cV := Blk.cell hV
    have fV := Blk.free hV
    have ltV := Blk.lt hV
    have HV := Lib.hid hV
    have cR := Blk.cell hR
    have fR := Blk.free hR
    have ltR := Blk.lt hR
    have HR := Lib.hid hR
    clear hV hR
    go_wp2_with fail
    refine (turn32 _ _ G.out.2.2.1).mono ?_
    rintro e q ⟨rfl, rfl⟩
    go_upto_region 5 with fail
    go_cut [] (fun wx => Below w.heap.size w wx ∧ Blk wx w.heap.size 41 #[.int .u64 (rotl 4294967296 4294967296 (ad a b)), .int .u64 (xr (rotl 8192 2251799813685248 b) (ad a b)), .int .u64 (ad c d), .int .u64 (xr (rotl 65536 281474976710656 d) (ad c d))] ∧ Blk wx (w.heap.size + 1) 41 #[.int .u64 0, .int .u64 0, .int .u64 0, .int .u64 0])
    case first =>
      go_region_law ((go_simp; go_at_call 24; refine (turn16 _ _ G.out.2.1).mono ?_; rintro e q ⟨rfl, rfl⟩))
      all_goals
        go_wp2_with fail
        go_meet
        exact ⟨Below.drew (Below.setCell (Below.setCell (Below.setCell (hbw) (p := ⟨w.heap.size, 0, none⟩) (Nat.le_refl _) (.int .u64 (rotl 4294967296 4294967296 (ad a b)))) (p := ⟨w.heap.size, 2, none⟩) (Nat.le_refl _) (.int .u64 (ad c d))) (p := ⟨w.heap.size, 3, none⟩) (Nat.le_refl _) (.int .u64 (xr (rotl 65536 281474976710656 d) (ad c d)))), Blk.drew (Blk.put (Blk.put (Blk.put (HV.out) 0 (.int .u64 (rotl 4294967296 4294967296 (ad a b)))) 2 (.int .u64 (ad c d))) 3 (.int .u64 (xr (rotl 65536 281474976710656 d) (ad c d)))), Blk.drew (Blk.far (p := ⟨w.heap.size, 3, none⟩) (Blk.far (p := ⟨w.heap.size, 2, none⟩) (Blk.far (p := ⟨w.heap.size, 0, none⟩) (HR.out) (by simp) (.int .u64 (rotl 4294967296 4294967296 (ad a b)))) (by simp) (.int .u64 (ad c d))) (by simp) (.int .u64 (xr (rotl 65536 281474976710656 d) (ad c d))))⟩
    case rest =>
      clear hbw HV HR cV fV ltV cR fR ltR
      obtain ⟨hbw, hV, hR⟩ := hcut
      have cV := Blk.cell hV
      have fV := Blk.free hV
      have ltV := Blk.lt hV
      have HV := Lib.hid hV
      have cR := Blk.cell hR
      have fR := Blk.free hR
      have ltR := Blk.lt hR
      have HR := Lib.hid hR
      clear hV hR
      go_upto_region 7 with fail
      go_cut [] (fun wx => Below w.heap.size w wx ∧ Blk wx w.heap.size 41 #[.int .u64 (ad (rotl 4294967296 4294967296 (ad a b)) (xr (rotl 65536 281474976710656 d) (ad c d))), .int .u64 (xr (rotl 8192 2251799813685248 b) (ad a b)), .int .u64 (ad c d), .int .u64 (xr (rotl 2097152 8796093022208 (xr (rotl 65536 281474976710656 d) (ad c d))) (ad (rotl 4294967296 4294967296 (ad a b)) (xr (rotl 65536 281474976710656 d) (ad c d))))] ∧ Blk wx (w.heap.size + 1) 41 #[.int .u64 0, .int .u64 0, .int .u64 0, .int .u64 0])
      case first =>
        go_region_law ((go_simp; go_at_call 24; refine (turn21 _ _ G.out.2.2.2.2.1).mono ?_; rintro e q ⟨rfl, rfl⟩))
        all_goals
          go_wp2_with fail
          go_meet
          exact ⟨Below.drew (Below.setCell (Below.setCell (hbw) (p := ⟨w.heap.size, 0, none⟩) (Nat.le_refl _) (.int .u64 (ad (rotl 4294967296 4294967296 (ad a b)) (xr (rotl 65536 281474976710656 d) (ad c d))))) (p := ⟨w.heap.size, 3, none⟩) (Nat.le_refl _) (.int .u64 (xr (rotl 2097152 8796093022208 (xr (rotl 65536 281474976710656 d) (ad c d))) (ad (rotl 4294967296 4294967296 (ad a b)) (xr (rotl 65536 281474976710656 d) (ad c d)))))), Blk.drew (Blk.put (Blk.put (HV.out) 0 (.int .u64 (ad (rotl 4294967296 4294967296 (ad a b)) (xr (rotl 65536 281474976710656 d) (ad c d))))) 3 (.int .u64 (xr (rotl 2097152 8796093022208 (xr (rotl 65536 281474976710656 d) (ad c d))) (ad (rotl 4294967296 4294967296 (ad a b)) (xr (rotl 65536 281474976710656 d) (ad c d)))))), Blk.drew (Blk.far (p := ⟨w.heap.size, 3, none⟩) (Blk.far (p := ⟨w.heap.size, 0, none⟩) (HR.out) (by simp) (.int .u64 (ad (rotl 4294967296 4294967296 (ad a b)) (xr (rotl 65536 281474976710656 d) (ad c d))))) (by simp) (.int .u64 (xr (rotl 2097152 8796093022208 (xr (rotl 65536 281474976710656 d) (ad c d))) (ad (rotl 4294967296 4294967296 (ad a b)) (xr (rotl 65536 281474976710656 d) (ad c d))))))⟩
      case rest =>
        clear hbw HV HR cV fV ltV cR fR ltR
        obtain ⟨hbw, hV, hR⟩ := hcut
        have cV := Blk.cell hV
        have fV := Blk.free hV
        have ltV := Blk.lt hV
        have HV := Lib.hid hV
        have cR := Blk.cell hR
        have fR := Blk.free hR
        have ltR := Blk.lt hR
        have HR := Lib.hid hR
        clear hV hR
        go_upto_region 9 with fail
        go_cut [] (fun wx => Below w.heap.size w wx ∧ Blk wx w.heap.size 41 #[.int .u64 (ad (rotl 4294967296 4294967296 (ad a b)) (xr (rotl 65536 281474976710656 d) (ad c d))), .int .u64 (xr (rotl 131072 140737488355328 (xr (rotl 8192 2251799813685248 b) (ad a b))) (ad (ad c d) (xr (rotl 8192 2251799813685248 b) (ad a b)))), .int .u64 (ad (ad c d) (xr (rotl 8192 2251799813685248 b) (ad a b))), .int .u64 (xr (rotl 2097152 8796093022208 (xr (rotl 65536 281474976710656 d) (ad c d))) (ad (rotl 4294967296 4294967296 (ad a b)) (xr (rotl 65536 281474976710656 d) (ad c d))))] ∧ Blk wx (w.heap.size + 1) 41 #[.int .u64 0, .int .u64 0, .int .u64 0, .int .u64 0])
        case first =>
          go_region_law ((go_simp; go_at_call 24; refine (turn17 _ _ G.out.2.2.2.1).mono ?_; rintro e q ⟨rfl, rfl⟩))
          all_goals
            go_wp2_with fail
            go_meet
            exact ⟨Below.drew (Below.setCell (Below.setCell (hbw) (p := ⟨w.heap.size, 2, none⟩) (Nat.le_refl _) (.int .u64 (ad (ad c d) (xr (rotl 8192 2251799813685248 b) (ad a b))))) (p := ⟨w.heap.size, 1, none⟩) (Nat.le_refl _) (.int .u64 (xr (rotl 131072 140737488355328 (xr (rotl 8192 2251799813685248 b) (ad a b))) (ad (ad c d) (xr (rotl 8192 2251799813685248 b) (ad a b)))))), Blk.drew (Blk.put (Blk.put (HV.out) 2 (.int .u64 (ad (ad c d) (xr (rotl 8192 2251799813685248 b) (ad a b))))) 1 (.int .u64 (xr (rotl 131072 140737488355328 (xr (rotl 8192 2251799813685248 b) (ad a b))) (ad (ad c d) (xr (rotl 8192 2251799813685248 b) (ad a b)))))), Blk.drew (Blk.far (p := ⟨w.heap.size, 1, none⟩) (Blk.far (p := ⟨w.heap.size, 2, none⟩) (HR.out) (by simp) (.int .u64 (ad (ad c d) (xr (rotl 8192 2251799813685248 b) (ad a b))))) (by simp) (.int .u64 (xr (rotl 131072 140737488355328 (xr (rotl 8192 2251799813685248 b) (ad a b))) (ad (ad c d) (xr (rotl 8192 2251799813685248 b) (ad a b))))))⟩
        case rest =>
          clear hbw HV HR cV fV ltV cR fR ltR
          obtain ⟨hbw, hV, hR⟩ := hcut
          have cV := Blk.cell hV
          have fV := Blk.free hV
          have ltV := Blk.lt hV
          have HV := Lib.hid hV
          have cR := Blk.cell hR
          have fR := Blk.free hR
          have ltR := Blk.lt hR
          have HR := Lib.hid hR
          clear hV hR
          go_wp2_with fail
          refine (turn32 _ _ G.out.2.2.2.2.2).mono ?_
          rintro e q ⟨rfl, rfl⟩
          go_wp2_with fail
          refine bodyPost_ret (v := .agg #[.int .u64 (ad (rotl 4294967296 4294967296 (ad a b)) (xr (rotl 65536 281474976710656 d) (ad c d))), .int .u64 (xr (rotl 131072 140737488355328 (xr (rotl 8192 2251799813685248 b) (ad a b))) (ad (ad c d) (xr (rotl 8192 2251799813685248 b) (ad a b)))), .int .u64 (rotl 4294967296 4294967296 (ad (ad c d) (xr (rotl 8192 2251799813685248 b) (ad a b)))), .int .u64 (xr (rotl 2097152 8796093022208 (xr (rotl 65536 281474976710656 d) (ad c d))) (ad (rotl 4294967296 4294967296 (ad a b)) (xr (rotl 65536 281474976710656 d) (ad c d))))]) (by simp [results, Try.results19, go_sem, cR, fR, ltR]) rfl ⟨rfl, ?_⟩
          go_grown
end Go.Proofs.Ythclmpbgehkgeaa