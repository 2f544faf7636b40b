/- math/bits' Div64. -/
import Derived.Test.YtndockjflnicjaaDivA
namespace Go.Proofs.Ytndockjflnicjaa
open Go.RowKit
set_option linter.unusedVariables false
set_option maxRecDepth 100000 in
set_option maxHeartbeats 8000000 in
theorem Div64_core (hi lo y s Y y1 y0 u x hs lh d1 d0 Q1 R1 Q0 R0 Q R E1 : Nat) (hy : y < W64) (hls : bl y + s = 64) (h0 : ((y : Int) == 0) = false) (h1 : decide (y ≤ hi) = false) (h2 : ((hi : Int) == 0) = false)
    (A1 : IntKind.u64.wrap ((y : Int) * 2 ^ s) = (Y : Int)) (A2 : (Y : Int) / 4294967296 = (y1 : Int)) (A3 : bits .and .u64 (Y : Int) 4294967295 = (y0 : Int)) (A4 : IntKind.u64.wrap ((hi : Int) * 2 ^ s) = (hs : Int)) (A5 : (lo : Int) / 2 ^ (64 - s) = (lh : Int)) (A6 : bits .or .u64 (hs : Int) (lh : Int) = (u : Int))
    (A7 : IntKind.u64.wrap ((lo : Int) * 2 ^ s) = (x : Int)) (A8 : (x : Int) / 4294967296 = (d1 : Int)) (A9 : bits .and .u64 (x : Int) 4294967295 = (d0 : Int)) (hy1 : ¬ y1 = 0)
    (HD1 : Hid (DigIs Y y1 y0 u d1 Q1 R1)) (HD0 : Hid (DigIs Y y1 y0 R1 d0 Q0 R0)) (HY : Hid (Y < 18446744073709551616))
    (E2 : IntKind.u64.wrap ((Q1 : Int) * 4294967296) = (E1 : Int)) (E3 : IntKind.u64.wrap ((E1 : Int) + (Q0 : Int)) = (Q : Int)) (E4 : (R0 : Int) / 2 ^ s = (R : Int)) (w : World) :
    Calls Try.prog 45 #[.int .u64 hi, .int .u64 lo, .int .u64 y] w fun e w' => e = .returned (.tuple #[.int .u64 Q, .int .u64 R]) ∧ Below w.heap.size w w' := by
  have hc := fun w => Lead_any y s w hy hls
  have hs64 : s ≤ 64 := by omega
  clear hy hls
  go_enter Try.func45, Try.ntmps45
  go_wp2_with fail
  refine (hc _).mono ?_
  rintro e w1 ⟨rfl, rfl⟩
  clear hc
  obtain ⟨a, p, r, a1, a2, a3, a4, b1, b2, b3, b4⟩ := dig_open HD1.out
  have HB := Lib.hid (And.intro b1 (And.intro b2 (And.intro b3 b4))); clear b1 b2 b3 b4
  go_wp2
  go_loopw [15, 16] (fun v15 v16 wr => ∃ q r : Nat, v15 = .int .u64 q ∧ v16 = .int .u64 r ∧ Q1 ≤ q ∧ q * y1 + r = u ∧ r < 4294967296 ∧ q ≤ 4294967297 ∧ w1 = wr) (fun v15 _ _ => (intOf v15).toNat)
  case atStart => exact ⟨a, r, rfl, rfl, HB.out.1, HB.out.2.1, HB.out.2.2.1, HB.out.2.2.2, rfl⟩
  case round =>
    clear a1 a2 a3 a4 HB
    obtain ⟨q, r, rfl, rfl, r1, r2, r3, r4, rfl⟩ := hrel
    have HR := Lib.hid (And.intro r1 (And.intro r2 (And.intro r3 r4))); clear r1 r2 r3 r4
    by_cases hb : 4294967296 ≤ q
    · have hb' : decide ((4294967296 : Int) ≤ (q : Int)) = true := decide_eq_true (by omega)
      have hcc : 4294967296 ≤ q ∨ 4294967296 * r + d1 < q * y0 := .inl hb
      clear hb
      obtain ⟨k, s', f1, f2, f3, f4, f5, f6, f7⟩ := dig_less HD1.out q r HR.out.1 HR.out.2.1 HR.out.2.2.1 HR.out.2.2.2 hcc
      by_cases hs' : 4294967296 ≤ s'
      · have g1 : decide ((4294967296 : Int) ≤ (s' : Int)) = true := decide_eq_true (by omega)
        obtain rfl : k = Q1 := f7 hs'
        clear f3 f4 f5 f6 f7 hs' hcc HR
        obtain ⟨z1, z2, z3, x1, x2, x3, x4, x5, x6⟩ := dig_rest HD1.out HY.out
        clear x5 x6
        obtain ⟨a, p, r, a1, a2, a3, a4, b1, b2, b3, b4⟩ := dig_open HD0.out
        have HB := Lib.hid (And.intro b1 (And.intro b2 (And.intro b3 b4))); clear b1 b2 b3 b4
        go_wp2
        go_loopw [18, 16] (fun v15 v16 wr => ∃ q r : Nat, v15 = .int .u64 q ∧ v16 = .int .u64 r ∧ Q0 ≤ q ∧ q * y1 + r = R1 ∧ r < 4294967296 ∧ q ≤ 4294967297 ∧ w1 = wr) (fun v15 _ _ => (intOf v15).toNat)
        case atStart => exact ⟨a, r, rfl, rfl, HB.out.1, HB.out.2.1, HB.out.2.2.1, HB.out.2.2.2, rfl⟩
        case round =>
          clear a1 a2 a3 a4 HB
          obtain ⟨q, r, rfl, rfl, r1, r2, r3, r4, rfl⟩ := hrel
          have HR := Lib.hid (And.intro r1 (And.intro r2 (And.intro r3 r4))); clear r1 r2 r3 r4
          by_cases hb : 4294967296 ≤ q
          · have hb' : decide ((4294967296 : Int) ≤ (q : Int)) = true := decide_eq_true (by omega)
            have hcc : 4294967296 ≤ q ∨ 4294967296 * r + d0 < q * y0 := .inl hb
            clear hb
            obtain ⟨k, s', f1, f2, f3, f4, f5, f6, f7⟩ := dig_less HD0.out q r HR.out.1 HR.out.2.1 HR.out.2.2.1 HR.out.2.2.2 hcc
            by_cases hs' : 4294967296 ≤ s'
            · have g1 : decide ((4294967296 : Int) ≤ (s' : Int)) = true := decide_eq_true (by omega)
              obtain rfl : k = Q0 := f7 hs'
              clear f3 f4 f5 f6 f7 hs' hcc HR
              obtain ⟨y5, y6, y7, x5, x6, x7, x8, x9, x10⟩ := dig_rest HD0.out HY.out
              clear x9 x10
              go_wp2
              refine bodyPost_ret (v := .tuple #[.int .u64 Q, .int .u64 R]) ?_ rfl ⟨rfl, Below.refl _ _⟩
              simp [results, Try.results45, go_sem]
            · have g1 : decide ((4294967296 : Int) ≤ (s' : Int)) = false := decide_eq_false (by omega)
              have HS := Lib.hid (And.intro f3 (And.intro f4 (And.intro f5 (And.intro f6 hs')))); clear f3 f4 f5 f6 f7 hs' hcc HR
              go_wp2
              go_roundw
              case rel => exact ⟨k, s', rfl, rfl, HS.out.1, HS.out.2.1, Nat.lt_of_not_le HS.out.2.2.2.2, HS.out.2.2.1, by trivial⟩
              case measure => have := HS.out.2.2.2.1; simp [intOf]; omega
          · have hb' : decide ((4294967296 : Int) ≤ (q : Int)) = false := decide_eq_false (by omega)
            obtain ⟨m, n, c, t1, t2, t3, t4, t5⟩ := dig_test HD0.out q r HR.out.1 HR.out.2.1 HR.out.2.2.1 (Nat.lt_of_not_le hb)
            clear hb
            by_cases hn : n < m
            · have hn' : decide (n < m) = true := decide_eq_true hn
              have hcc : 4294967296 ≤ q ∨ 4294967296 * r + d0 < q * y0 := .inr (t4 hn)
              clear hn t4 t5
              obtain ⟨k, s', f1, f2, f3, f4, f5, f6, f7⟩ := dig_less HD0.out q r HR.out.1 HR.out.2.1 HR.out.2.2.1 HR.out.2.2.2 hcc
              by_cases hs' : 4294967296 ≤ s'
              · have g1 : decide ((4294967296 : Int) ≤ (s' : Int)) = true := decide_eq_true (by omega)
                obtain rfl : k = Q0 := f7 hs'
                clear f3 f4 f5 f6 f7 hs' hcc HR
                obtain ⟨y5, y6, y7, x5, x6, x7, x8, x9, x10⟩ := dig_rest HD0.out HY.out
                clear x9 x10
                go_wp2
                refine bodyPost_ret (v := .tuple #[.int .u64 Q, .int .u64 R]) ?_ rfl ⟨rfl, Below.refl _ _⟩
                simp [results, Try.results45, go_sem]
              · have g1 : decide ((4294967296 : Int) ≤ (s' : Int)) = false := decide_eq_false (by omega)
                have HS := Lib.hid (And.intro f3 (And.intro f4 (And.intro f5 (And.intro f6 hs')))); clear f3 f4 f5 f6 f7 hs' hcc HR
                go_wp2
                go_roundw
                case rel => exact ⟨k, s', rfl, rfl, HS.out.1, HS.out.2.1, Nat.lt_of_not_le HS.out.2.2.2.2, HS.out.2.2.1, by trivial⟩
                case measure => have := HS.out.2.2.2.1; simp [intOf]; omega
            · have hn' : decide (n < m) = false := decide_eq_false hn
              obtain rfl : q = Q0 := t5 hn
              clear hn t4 t5 HR
              obtain ⟨y5, y6, y7, x5, x6, x7, x8, x9, x10⟩ := dig_rest HD0.out HY.out
              clear x9 x10
              go_wp2
              refine bodyPost_ret (v := .tuple #[.int .u64 Q, .int .u64 R]) ?_ rfl ⟨rfl, Below.refl _ _⟩
              simp [results, Try.results45, go_sem]
      · have g1 : decide ((4294967296 : Int) ≤ (s' : Int)) = false := decide_eq_false (by omega)
        have HS := Lib.hid (And.intro f3 (And.intro f4 (And.intro f5 (And.intro f6 hs')))); clear f3 f4 f5 f6 f7 hs' hcc HR
        go_wp2
        go_roundw
        case rel => exact ⟨k, s', rfl, rfl, HS.out.1, HS.out.2.1, Nat.lt_of_not_le HS.out.2.2.2.2, HS.out.2.2.1, by trivial⟩
        case measure => have := HS.out.2.2.2.1; simp [intOf]; omega
    · have hb' : decide ((4294967296 : Int) ≤ (q : Int)) = false := decide_eq_false (by omega)
      obtain ⟨m, n, c, t1, t2, t3, t4, t5⟩ := dig_test HD1.out q r HR.out.1 HR.out.2.1 HR.out.2.2.1 (Nat.lt_of_not_le hb)
      clear hb
      by_cases hn : n < m
      · have hn' : decide (n < m) = true := decide_eq_true hn
        have hcc : 4294967296 ≤ q ∨ 4294967296 * r + d1 < q * y0 := .inr (t4 hn)
        clear hn t4 t5
        obtain ⟨k, s', f1, f2, f3, f4, f5, f6, f7⟩ := dig_less HD1.out q r HR.out.1 HR.out.2.1 HR.out.2.2.1 HR.out.2.2.2 hcc
        by_cases hs' : 4294967296 ≤ s'
        · have g1 : decide ((4294967296 : Int) ≤ (s' : Int)) = true := decide_eq_true (by omega)
          obtain rfl : k = Q1 := f7 hs'
          clear f3 f4 f5 f6 f7 hs' hcc HR
          obtain ⟨z1, z2, z3, x1, x2, x3, x4, x5, x6⟩ := dig_rest HD1.out HY.out
          clear x5 x6
          obtain ⟨a, p, r, a1, a2, a3, a4, b1, b2, b3, b4⟩ := dig_open HD0.out
          have HB := Lib.hid (And.intro b1 (And.intro b2 (And.intro b3 b4))); clear b1 b2 b3 b4
          go_wp2
          go_loopw [18, 16] (fun v15 v16 wr => ∃ q r : Nat, v15 = .int .u64 q ∧ v16 = .int .u64 r ∧ Q0 ≤ q ∧ q * y1 + r = R1 ∧ r < 4294967296 ∧ q ≤ 4294967297 ∧ w1 = wr) (fun v15 _ _ => (intOf v15).toNat)
          case atStart => exact ⟨a, r, rfl, rfl, HB.out.1, HB.out.2.1, HB.out.2.2.1, HB.out.2.2.2, rfl⟩
          case round =>
            clear a1 a2 a3 a4 HB
            obtain ⟨q, r, rfl, rfl, r1, r2, r3, r4, rfl⟩ := hrel
            have HR := Lib.hid (And.intro r1 (And.intro r2 (And.intro r3 r4))); clear r1 r2 r3 r4
            by_cases hb : 4294967296 ≤ q
            · have hb' : decide ((4294967296 : Int) ≤ (q : Int)) = true := decide_eq_true (by omega)
              have hcc : 4294967296 ≤ q ∨ 4294967296 * r + d0 < q * y0 := .inl hb
              clear hb
              obtain ⟨k, s', f1, f2, f3, f4, f5, f6, f7⟩ := dig_less HD0.out q r HR.out.1 HR.out.2.1 HR.out.2.2.1 HR.out.2.2.2 hcc
              by_cases hs' : 4294967296 ≤ s'
              · have g1 : decide ((4294967296 : Int) ≤ (s' : Int)) = true := decide_eq_true (by omega)
                obtain rfl : k = Q0 := f7 hs'
                clear f3 f4 f5 f6 f7 hs' hcc HR
                obtain ⟨y5, y6, y7, x5, x6, x7, x8, x9, x10⟩ := dig_rest HD0.out HY.out
                clear x9 x10
                go_wp2
                refine bodyPost_ret (v := .tuple #[.int .u64 Q, .int .u64 R]) ?_ rfl ⟨rfl, Below.refl _ _⟩
                simp [results, Try.results45, go_sem]
              · have g1 : decide ((4294967296 : Int) ≤ (s' : Int)) = false := decide_eq_false (by omega)
                have HS := Lib.hid (And.intro f3 (And.intro f4 (And.intro f5 (And.intro f6 hs')))); clear f3 f4 f5 f6 f7 hs' hcc HR
                go_wp2
                go_roundw
                case rel => exact ⟨k, s', rfl, rfl, HS.out.1, HS.out.2.1, Nat.lt_of_not_le HS.out.2.2.2.2, HS.out.2.2.1, by trivial⟩
                case measure => have := HS.out.2.2.2.1; simp [intOf]; omega
            · have hb' : decide ((4294967296 : Int) ≤ (q : Int)) = false := decide_eq_false (by omega)
              obtain ⟨m, n, c, t1, t2, t3, t4, t5⟩ := dig_test HD0.out q r HR.out.1 HR.out.2.1 HR.out.2.2.1 (Nat.lt_of_not_le hb)
              clear hb
              by_cases hn : n < m
              · have hn' : decide (n < m) = true := decide_eq_true hn
                have hcc : 4294967296 ≤ q ∨ 4294967296 * r + d0 < q * y0 := .inr (t4 hn)
                clear hn t4 t5
                obtain ⟨k, s', f1, f2, f3, f4, f5, f6, f7⟩ := dig_less HD0.out q r HR.out.1 HR.out.2.1 HR.out.2.2.1 HR.out.2.2.2 hcc
                by_cases hs' : 4294967296 ≤ s'
                · have g1 : decide ((4294967296 : Int) ≤ (s' : Int)) = true := decide_eq_true (by omega)
                  obtain rfl : k = Q0 := f7 hs'
                  clear f3 f4 f5 f6 f7 hs' hcc HR
                  obtain ⟨y5, y6, y7, x5, x6, x7, x8, x9, x10⟩ := dig_rest HD0.out HY.out
                  clear x9 x10
                  go_wp2
                  refine bodyPost_ret (v := .tuple #[.int .u64 Q, .int .u64 R]) ?_ rfl ⟨rfl, Below.refl _ _⟩
                  simp [results, Try.results45, go_sem]
                · have g1 : decide ((4294967296 : Int) ≤ (s' : Int)) = false := decide_eq_false (by omega)
                  have HS := Lib.hid (And.intro f3 (And.intro f4 (And.intro f5 (And.intro f6 hs')))); clear f3 f4 f5 f6 f7 hs' hcc HR
                  go_wp2
                  go_roundw
                  case rel => exact ⟨k, s', rfl, rfl, HS.out.1, HS.out.2.1, Nat.lt_of_not_le HS.out.2.2.2.2, HS.out.2.2.1, by trivial⟩
                  case measure => have := HS.out.2.2.2.1; simp [intOf]; omega
              · have hn' : decide (n < m) = false := decide_eq_false hn
                obtain rfl : q = Q0 := t5 hn
                clear hn t4 t5 HR
                obtain ⟨y5, y6, y7, x5, x6, x7, x8, x9, x10⟩ := dig_rest HD0.out HY.out
                clear x9 x10
                go_wp2
                refine bodyPost_ret (v := .tuple #[.int .u64 Q, .int .u64 R]) ?_ rfl ⟨rfl, Below.refl _ _⟩
                simp [results, Try.results45, go_sem]
        · have g1 : decide ((4294967296 : Int) ≤ (s' : Int)) = false := decide_eq_false (by omega)
          have HS := Lib.hid (And.intro f3 (And.intro f4 (And.intro f5 (And.intro f6 hs')))); clear f3 f4 f5 f6 f7 hs' hcc HR
          go_wp2
          go_roundw
          case rel => exact ⟨k, s', rfl, rfl, HS.out.1, HS.out.2.1, Nat.lt_of_not_le HS.out.2.2.2.2, HS.out.2.2.1, by trivial⟩
          case measure => have := HS.out.2.2.2.1; simp [intOf]; omega
      · have hn' : decide (n < m) = false := decide_eq_false hn
        obtain rfl : q = Q1 := t5 hn
        clear hn t4 t5 HR
        obtain ⟨z1, z2, z3, x1, x2, x3, x4, x5, x6⟩ := dig_rest HD1.out HY.out
        clear x5 x6
        obtain ⟨a, p, r, a1, a2, a3, a4, b1, b2, b3, b4⟩ := dig_open HD0.out
        have HB := Lib.hid (And.intro b1 (And.intro b2 (And.intro b3 b4))); clear b1 b2 b3 b4
        go_wp2
        go_loopw [18, 16] (fun v15 v16 wr => ∃ q r : Nat, v15 = .int .u64 q ∧ v16 = .int .u64 r ∧ Q0 ≤ q ∧ q * y1 + r = R1 ∧ r < 4294967296 ∧ q ≤ 4294967297 ∧ w1 = wr) (fun v15 _ _ => (intOf v15).toNat)
        case atStart => exact ⟨a, r, rfl, rfl, HB.out.1, HB.out.2.1, HB.out.2.2.1, HB.out.2.2.2, rfl⟩
        case round =>
          clear a1 a2 a3 a4 HB
          obtain ⟨q, r, rfl, rfl, r1, r2, r3, r4, rfl⟩ := hrel
          have HR := Lib.hid (And.intro r1 (And.intro r2 (And.intro r3 r4))); clear r1 r2 r3 r4
          by_cases hb : 4294967296 ≤ q
          · have hb' : decide ((4294967296 : Int) ≤ (q : Int)) = true := decide_eq_true (by omega)
            have hcc : 4294967296 ≤ q ∨ 4294967296 * r + d0 < q * y0 := .inl hb
            clear hb
            obtain ⟨k, s', f1, f2, f3, f4, f5, f6, f7⟩ := dig_less HD0.out q r HR.out.1 HR.out.2.1 HR.out.2.2.1 HR.out.2.2.2 hcc
            by_cases hs' : 4294967296 ≤ s'
            · have g1 : decide ((4294967296 : Int) ≤ (s' : Int)) = true := decide_eq_true (by omega)
              obtain rfl : k = Q0 := f7 hs'
              clear f3 f4 f5 f6 f7 hs' hcc HR
              obtain ⟨y5, y6, y7, x5, x6, x7, x8, x9, x10⟩ := dig_rest HD0.out HY.out
              clear x9 x10
              go_wp2
              refine bodyPost_ret (v := .tuple #[.int .u64 Q, .int .u64 R]) ?_ rfl ⟨rfl, Below.refl _ _⟩
              simp [results, Try.results45, go_sem]
            · have g1 : decide ((4294967296 : Int) ≤ (s' : Int)) = false := decide_eq_false (by omega)
              have HS := Lib.hid (And.intro f3 (And.intro f4 (And.intro f5 (And.intro f6 hs')))); clear f3 f4 f5 f6 f7 hs' hcc HR
              go_wp2
              go_roundw
              case rel => exact ⟨k, s', rfl, rfl, HS.out.1, HS.out.2.1, Nat.lt_of_not_le HS.out.2.2.2.2, HS.out.2.2.1, by trivial⟩
              case measure => have := HS.out.2.2.2.1; simp [intOf]; omega
          · have hb' : decide ((4294967296 : Int) ≤ (q : Int)) = false := decide_eq_false (by omega)
            obtain ⟨m, n, c, t1, t2, t3, t4, t5⟩ := dig_test HD0.out q r HR.out.1 HR.out.2.1 HR.out.2.2.1 (Nat.lt_of_not_le hb)
            clear hb
            by_cases hn : n < m
            · have hn' : decide (n < m) = true := decide_eq_true hn
              have hcc : 4294967296 ≤ q ∨ 4294967296 * r + d0 < q * y0 := .inr (t4 hn)
              clear hn t4 t5
              obtain ⟨k, s', f1, f2, f3, f4, f5, f6, f7⟩ := dig_less HD0.out q r HR.out.1 HR.out.2.1 HR.out.2.2.1 HR.out.2.2.2 hcc
              by_cases hs' : 4294967296 ≤ s'
              · have g1 : decide ((4294967296 : Int) ≤ (s' : Int)) = true := decide_eq_true (by omega)
                obtain rfl : k = Q0 := f7 hs'
                clear f3 f4 f5 f6 f7 hs' hcc HR
                obtain ⟨y5, y6, y7, x5, x6, x7, x8, x9, x10⟩ := dig_rest HD0.out HY.out
                clear x9 x10
                go_wp2
                refine bodyPost_ret (v := .tuple #[.int .u64 Q, .int .u64 R]) ?_ rfl ⟨rfl, Below.refl _ _⟩
                simp [results, Try.results45, go_sem]
              · have g1 : decide ((4294967296 : Int) ≤ (s' : Int)) = false := decide_eq_false (by omega)
                have HS := Lib.hid (And.intro f3 (And.intro f4 (And.intro f5 (And.intro f6 hs')))); clear f3 f4 f5 f6 f7 hs' hcc HR
                go_wp2
                go_roundw
                case rel => exact ⟨k, s', rfl, rfl, HS.out.1, HS.out.2.1, Nat.lt_of_not_le HS.out.2.2.2.2, HS.out.2.2.1, by trivial⟩
                case measure => have := HS.out.2.2.2.1; simp [intOf]; omega
            · have hn' : decide (n < m) = false := decide_eq_false hn
              obtain rfl : q = Q0 := t5 hn
              clear hn t4 t5 HR
              obtain ⟨y5, y6, y7, x5, x6, x7, x8, x9, x10⟩ := dig_rest HD0.out HY.out
              clear x9 x10
              go_wp2
              refine bodyPost_ret (v := .tuple #[.int .u64 Q, .int .u64 R]) ?_ rfl ⟨rfl, Below.refl _ _⟩
              simp [results, Try.results45, go_sem]
end Go.Proofs.Ytndockjflnicjaa
