/-
TopActive returns true for every input. Conditions: none.
-/
import Derived.Test.YtpglaekodahcoaaGreatDoorM6
import Derived.Test.YtpglaekodahcoaaGreatDoorTie
import Derived.Test.YtpglaekodahcoaaGreatDoorCards
import Derived.SevenTiedAt
namespace Go.Proofs.YtpglaekodahcoaaGreatDoor
set_option linter.unusedVariables false
set_option linter.unusedSimpArgs false
set_option maxRecDepth 100000
open Go.RowKit Go.WideShapes Go.ChangeShapes Go.ChangeAt
theorem opH23 : Opens Tryz.prog 23 (Cd.ty (.p (.i .i64) (.i .i64))) (inC (.p (.i .i64) (.i .i64))) := by
  intro H enc w base spare held fuel cs d pl h hw
  obtain ⟨hlen, hf⟩ := struct_fields Tryz.underlying23 h hw
  rw [show Tryz.prog.cellsOf 23 = 2 by kernel_rfl] at hlen
  match cs, hlen with
  | [c0, c1], _ =>
    obtain ⟨n0, d0, p0, h0, w0⟩ := hf 0 _ rfl
    simp [show Tryz.prog.cellsOf 2 = 1 by kernel_rfl] at h0
    obtain ⟨x0, r0, j0⟩ := (opI7 Tryz.underlying2) h0 w0
    obtain ⟨n1, d1, p1, h1, w1⟩ := hf 1 _ rfl
    simp [show Tryz.prog.cellsOf 2 = 1 by kernel_rfl] at h1
    obtain ⟨x1, r1, j1⟩ := (opI7 Tryz.underlying2) h1 w1
    exact ⟨(x0, x1), ⟨[c0], [c1], rfl, r0, r1⟩, ⟨j0, j1⟩⟩
theorem opH25 : Opens Tryz.prog 25 (Cd.ty (.p .s (.p (.i .i64) (.p (.i .i64) (.p (.i .i64) (.p (.i .i64) (.i .i64))))))) (inC (.p .s (.p (.i .i64) (.p (.i .i64) (.p (.i .i64) (.p (.i .i64) (.i .i64))))))) := by
  intro H enc w base spare held fuel cs d pl h hw
  obtain ⟨hlen, hf⟩ := struct_fields Tryz.underlying25 h hw
  rw [show Tryz.prog.cellsOf 25 = 6 by kernel_rfl] at hlen
  match cs, hlen with
  | [c0, c1, c2, c3, c4, c5], _ =>
    obtain ⟨n0, d0, p0, h0, w0⟩ := hf 0 _ rfl
    simp [show Tryz.prog.cellsOf 9 = 1 by kernel_rfl] at h0
    obtain ⟨x0, r0, j0⟩ := (opS7 Tryz.underlying9) h0 w0
    obtain ⟨n1, d1, p1, h1, w1⟩ := hf 1 _ rfl
    simp [show Tryz.prog.cellsOf 2 = 1 by kernel_rfl] at h1
    obtain ⟨x1, r1, j1⟩ := (opI7 Tryz.underlying2) h1 w1
    obtain ⟨n2, d2, p2, h2, w2⟩ := hf 2 _ rfl
    simp [show Tryz.prog.cellsOf 2 = 1 by kernel_rfl] at h2
    obtain ⟨x2, r2, j2⟩ := (opI7 Tryz.underlying2) h2 w2
    obtain ⟨n3, d3, p3, h3, w3⟩ := hf 3 _ rfl
    simp [show Tryz.prog.cellsOf 2 = 1 by kernel_rfl] at h3
    obtain ⟨x3, r3, j3⟩ := (opI7 Tryz.underlying2) h3 w3
    obtain ⟨n4, d4, p4, h4, w4⟩ := hf 4 _ rfl
    simp [show Tryz.prog.cellsOf 23 = 2 by kernel_rfl] at h4
    obtain ⟨x4, r4, j4⟩ := opH23 h4 w4
    exact ⟨(x0, x1, x2, x3, x4), ⟨[c0], [c1] ++ [c2] ++ [c3] ++ [c4, c5], rfl, r0, ⟨[c1], [c2] ++ [c3] ++ [c4, c5], rfl, r1, ⟨[c2], [c3] ++ [c4, c5], rfl, r2, ⟨[c3], [c4, c5], rfl, r3, r4⟩⟩⟩⟩, ⟨j0, j1, j2, j3, j4⟩⟩
theorem opH77 : Opens Tryz.prog 77 (Cd.ty (.p .s (.p .s (.p (.i .u8) (.p (.p (.i .i64) (.i .i64)) (.p (.i .i64) (.i .i64))))))) (inC (.p .s (.p .s (.p (.i .u8) (.p (.p (.i .i64) (.i .i64)) (.p (.i .i64) (.i .i64))))))) := by
  intro H enc w base spare held fuel cs d pl h hw
  obtain ⟨hlen, hf⟩ := struct_fields Tryz.underlying77 h hw
  rw [show Tryz.prog.cellsOf 77 = 7 by kernel_rfl] at hlen
  match cs, hlen with
  | [c0, c1, c2, c3, c4, c5, c6], _ =>
    obtain ⟨n0, d0, p0, h0, w0⟩ := hf 0 _ rfl
    simp [show Tryz.prog.cellsOf 9 = 1 by kernel_rfl] at h0
    obtain ⟨x0, r0, j0⟩ := (opS7 Tryz.underlying9) h0 w0
    obtain ⟨n1, d1, p1, h1, w1⟩ := hf 1 _ rfl
    simp [show Tryz.prog.cellsOf 9 = 1 by kernel_rfl] at h1
    obtain ⟨x1, r1, j1⟩ := (opS7 Tryz.underlying9) h1 w1
    obtain ⟨n2, d2, p2, h2, w2⟩ := hf 2 _ rfl
    simp [show Tryz.prog.cellsOf 75 = 1 by kernel_rfl] at h2
    obtain ⟨x2, r2, j2⟩ := (opI7 Tryz.underlying75) h2 w2
    obtain ⟨n3, d3, p3, h3, w3⟩ := hf 3 _ rfl
    simp [show Tryz.prog.cellsOf 23 = 2 by kernel_rfl] at h3
    obtain ⟨x3, r3, j3⟩ := opH23 h3 w3
    obtain ⟨n4, d4, p4, h4, w4⟩ := hf 4 _ rfl
    simp [show Tryz.prog.cellsOf 2 = 1 by kernel_rfl] at h4
    obtain ⟨x4, r4, j4⟩ := (opI7 Tryz.underlying2) h4 w4
    obtain ⟨n5, d5, p5, h5, w5⟩ := hf 5 _ rfl
    simp [show Tryz.prog.cellsOf 2 = 1 by kernel_rfl] at h5
    obtain ⟨x5, r5, j5⟩ := (opI7 Tryz.underlying2) h5 w5
    exact ⟨(x0, x1, x2, x3, x4, x5), ⟨[c0], [c1] ++ [c2] ++ [c3, c4] ++ [c5] ++ [c6], rfl, r0, ⟨[c1], [c2] ++ [c3, c4] ++ [c5] ++ [c6], rfl, r1, ⟨[c2], [c3, c4] ++ [c5] ++ [c6], rfl, r2, ⟨[c3, c4], [c5] ++ [c6], rfl, r3, ⟨[c5], [c6], rfl, r4, r5⟩⟩⟩⟩⟩, ⟨j0, j1, j2, j3, j4, j5⟩⟩
theorem opH83 : Opens Tryz.prog 83 (Cd.ty (.p (.i .i64) (.i .i64))) (inC (.p (.i .i64) (.i .i64))) := by
  intro H enc w base spare held fuel cs d pl h hw
  obtain ⟨hlen, hf⟩ := struct_fields Tryz.underlying83 h hw
  rw [show Tryz.prog.cellsOf 83 = 2 by kernel_rfl] at hlen
  match cs, hlen with
  | [c0, c1], _ =>
    obtain ⟨n0, d0, p0, h0, w0⟩ := hf 0 _ rfl
    simp [show Tryz.prog.cellsOf 2 = 1 by kernel_rfl] at h0
    obtain ⟨x0, r0, j0⟩ := (opI7 Tryz.underlying2) h0 w0
    obtain ⟨n1, d1, p1, h1, w1⟩ := hf 1 _ rfl
    simp [show Tryz.prog.cellsOf 2 = 1 by kernel_rfl] at h1
    obtain ⟨x1, r1, j1⟩ := (opI7 Tryz.underlying2) h1 w1
    exact ⟨(x0, x1), ⟨[c0], [c1], rfl, r0, r1⟩, ⟨j0, j1⟩⟩
theorem opH85 : Opens Tryz.prog 85 (Cd.ty (.p .s (.p (.p (.i .i64) (.i .i64)) (.i .u8)))) (inC (.p .s (.p (.p (.i .i64) (.i .i64)) (.i .u8)))) := by
  intro H enc w base spare held fuel cs d pl h hw
  obtain ⟨hlen, hf⟩ := struct_fields Tryz.underlying85 h hw
  rw [show Tryz.prog.cellsOf 85 = 4 by kernel_rfl] at hlen
  match cs, hlen with
  | [c0, c1, c2, c3], _ =>
    obtain ⟨n0, d0, p0, h0, w0⟩ := hf 0 _ rfl
    simp [show Tryz.prog.cellsOf 9 = 1 by kernel_rfl] at h0
    obtain ⟨x0, r0, j0⟩ := (opS7 Tryz.underlying9) h0 w0
    obtain ⟨n1, d1, p1, h1, w1⟩ := hf 1 _ rfl
    simp [show Tryz.prog.cellsOf 83 = 2 by kernel_rfl] at h1
    obtain ⟨x1, r1, j1⟩ := opH83 h1 w1
    obtain ⟨n2, d2, p2, h2, w2⟩ := hf 2 _ rfl
    simp [show Tryz.prog.cellsOf 5 = 1 by kernel_rfl] at h2
    obtain ⟨x2, r2, j2⟩ := (opI7 Tryz.underlying5) h2 w2
    exact ⟨(x0, x1, x2), ⟨[c0], [c1, c2] ++ [c3], rfl, r0, ⟨[c1, c2], [c3], rfl, r1, r2⟩⟩, ⟨j0, j1, j2⟩⟩
theorem opH81 : Opens Tryz.prog 81 (Cd.ty (.p .s (.a (.p .s (.p (.p (.i .i64) (.i .i64)) (.i .u8)))))) (inC (.p .s (.a (.p .s (.p (.p (.i .i64) (.i .i64)) (.i .u8)))))) := by
  intro H enc w base spare held fuel cs d pl h hw
  obtain ⟨hlen, hf⟩ := struct_fields Tryz.underlying81 h hw
  rw [show Tryz.prog.cellsOf 81 = 2 by kernel_rfl] at hlen
  match cs, hlen with
  | [c0, c1], _ =>
    obtain ⟨n0, d0, p0, h0, w0⟩ := hf 0 _ rfl
    simp [show Tryz.prog.cellsOf 9 = 1 by kernel_rfl] at h0
    obtain ⟨x0, r0, j0⟩ := (opS7 Tryz.underlying9) h0 w0
    obtain ⟨n1, d1, p1, h1, w1⟩ := hf 1 _ rfl
    simp [show Tryz.prog.cellsOf 79 = 1 by kernel_rfl] at h1
    obtain ⟨x1, r1, j1⟩ := (opA7 (c := (.p .s (.p (.p (.i .i64) (.i .i64)) (.i .u8)))) 40 (by kernel_rfl) (by kernel_rfl) opH85 Tryz.underlying79 (by kernel_rfl) (by kernel_rfl)) h1 w1
    exact ⟨(x0, x1), ⟨[c0], [c1], rfl, r0, r1⟩, ⟨j0, j1⟩⟩
theorem opH96 : Opens Tryz.prog 96 (Cd.ty (.p (.i .u8) (.p .s (.p .s (.p (.i .u8) (.p .b (.p (.i .i64) (.p (.i .i64) (.p (.i .i64) (.p (.i .i64) (.p (.p (.i .i64) (.i .i64)) (.p (.i .i64) (.i .i64))))))))))))) (inC (.p (.i .u8) (.p .s (.p .s (.p (.i .u8) (.p .b (.p (.i .i64) (.p (.i .i64) (.p (.i .i64) (.p (.i .i64) (.p (.p (.i .i64) (.i .i64)) (.p (.i .i64) (.i .i64))))))))))))) := by
  intro H enc w base spare held fuel cs d pl h hw
  obtain ⟨hlen, hf⟩ := struct_fields Tryz.underlying96 h hw
  rw [show Tryz.prog.cellsOf 96 = 13 by kernel_rfl] at hlen
  match cs, hlen with
  | [c0, c1, c2, c3, c4, c5, c6, c7, c8, c9, c10, c11, c12], _ =>
    obtain ⟨n0, d0, p0, h0, w0⟩ := hf 0 _ rfl
    simp [show Tryz.prog.cellsOf 94 = 1 by kernel_rfl] at h0
    obtain ⟨x0, r0, j0⟩ := (opI7 Tryz.underlying94) h0 w0
    obtain ⟨n1, d1, p1, h1, w1⟩ := hf 1 _ rfl
    simp [show Tryz.prog.cellsOf 9 = 1 by kernel_rfl] at h1
    obtain ⟨x1, r1, j1⟩ := (opS7 Tryz.underlying9) h1 w1
    obtain ⟨n2, d2, p2, h2, w2⟩ := hf 2 _ rfl
    simp [show Tryz.prog.cellsOf 9 = 1 by kernel_rfl] at h2
    obtain ⟨x2, r2, j2⟩ := (opS7 Tryz.underlying9) h2 w2
    obtain ⟨n3, d3, p3, h3, w3⟩ := hf 3 _ rfl
    simp [show Tryz.prog.cellsOf 5 = 1 by kernel_rfl] at h3
    obtain ⟨x3, r3, j3⟩ := (opI7 Tryz.underlying5) h3 w3
    obtain ⟨n4, d4, p4, h4, w4⟩ := hf 4 _ rfl
    simp [show Tryz.prog.cellsOf 4 = 1 by kernel_rfl] at h4
    obtain ⟨x4, r4, j4⟩ := (opB7 Tryz.underlying4) h4 w4
    obtain ⟨n5, d5, p5, h5, w5⟩ := hf 5 _ rfl
    simp [show Tryz.prog.cellsOf 2 = 1 by kernel_rfl] at h5
    obtain ⟨x5, r5, j5⟩ := (opI7 Tryz.underlying2) h5 w5
    obtain ⟨n6, d6, p6, h6, w6⟩ := hf 6 _ rfl
    simp [show Tryz.prog.cellsOf 2 = 1 by kernel_rfl] at h6
    obtain ⟨x6, r6, j6⟩ := (opI7 Tryz.underlying2) h6 w6
    obtain ⟨n7, d7, p7, h7, w7⟩ := hf 7 _ rfl
    simp [show Tryz.prog.cellsOf 2 = 1 by kernel_rfl] at h7
    obtain ⟨x7, r7, j7⟩ := (opI7 Tryz.underlying2) h7 w7
    obtain ⟨n8, d8, p8, h8, w8⟩ := hf 8 _ rfl
    simp [show Tryz.prog.cellsOf 2 = 1 by kernel_rfl] at h8
    obtain ⟨x8, r8, j8⟩ := (opI7 Tryz.underlying2) h8 w8
    obtain ⟨n9, d9, p9, h9, w9⟩ := hf 9 _ rfl
    simp [show Tryz.prog.cellsOf 83 = 2 by kernel_rfl] at h9
    obtain ⟨x9, r9, j9⟩ := opH83 h9 w9
    obtain ⟨n10, d10, p10, h10, w10⟩ := hf 10 _ rfl
    simp [show Tryz.prog.cellsOf 2 = 1 by kernel_rfl] at h10
    obtain ⟨x10, r10, j10⟩ := (opI7 Tryz.underlying2) h10 w10
    obtain ⟨n11, d11, p11, h11, w11⟩ := hf 11 _ rfl
    simp [show Tryz.prog.cellsOf 2 = 1 by kernel_rfl] at h11
    obtain ⟨x11, r11, j11⟩ := (opI7 Tryz.underlying2) h11 w11
    exact ⟨(x0, x1, x2, x3, x4, x5, x6, x7, x8, x9, x10, x11), ⟨[c0], [c1] ++ [c2] ++ [c3] ++ [c4] ++ [c5] ++ [c6] ++ [c7] ++ [c8] ++ [c9, c10] ++ [c11] ++ [c12], rfl, r0, ⟨[c1], [c2] ++ [c3] ++ [c4] ++ [c5] ++ [c6] ++ [c7] ++ [c8] ++ [c9, c10] ++ [c11] ++ [c12], rfl, r1, ⟨[c2], [c3] ++ [c4] ++ [c5] ++ [c6] ++ [c7] ++ [c8] ++ [c9, c10] ++ [c11] ++ [c12], rfl, r2, ⟨[c3], [c4] ++ [c5] ++ [c6] ++ [c7] ++ [c8] ++ [c9, c10] ++ [c11] ++ [c12], rfl, r3, ⟨[c4], [c5] ++ [c6] ++ [c7] ++ [c8] ++ [c9, c10] ++ [c11] ++ [c12], rfl, r4, ⟨[c5], [c6] ++ [c7] ++ [c8] ++ [c9, c10] ++ [c11] ++ [c12], rfl, r5, ⟨[c6], [c7] ++ [c8] ++ [c9, c10] ++ [c11] ++ [c12], rfl, r6, ⟨[c7], [c8] ++ [c9, c10] ++ [c11] ++ [c12], rfl, r7, ⟨[c8], [c9, c10] ++ [c11] ++ [c12], rfl, r8, ⟨[c9, c10], [c11] ++ [c12], rfl, r9, ⟨[c11], [c12], rfl, r10, r11⟩⟩⟩⟩⟩⟩⟩⟩⟩⟩⟩, ⟨j0, j1, j2, j3, j4, j5, j6, j7, j8, j9, j10, j11⟩⟩
theorem opH93 : Opens Tryz.prog 93 (Cd.ty (.p (.i .u8) (.p .s (.a (.p (.i .u8) (.p .s (.p .s (.p (.i .u8) (.p .b (.p (.i .i64) (.p (.i .i64) (.p (.i .i64) (.p (.i .i64) (.p (.p (.i .i64) (.i .i64)) (.p (.i .i64) (.i .i64)))))))))))))))) (inC (.p (.i .u8) (.p .s (.a (.p (.i .u8) (.p .s (.p .s (.p (.i .u8) (.p .b (.p (.i .i64) (.p (.i .i64) (.p (.i .i64) (.p (.i .i64) (.p (.p (.i .i64) (.i .i64)) (.p (.i .i64) (.i .i64)))))))))))))))) := by
  intro H enc w base spare held fuel cs d pl h hw
  obtain ⟨hlen, hf⟩ := struct_fields Tryz.underlying93 h hw
  rw [show Tryz.prog.cellsOf 93 = 3 by kernel_rfl] at hlen
  match cs, hlen with
  | [c0, c1, c2], _ =>
    obtain ⟨n0, d0, p0, h0, w0⟩ := hf 0 _ rfl
    simp [show Tryz.prog.cellsOf 90 = 1 by kernel_rfl] at h0
    obtain ⟨x0, r0, j0⟩ := (opI7 Tryz.underlying90) h0 w0
    obtain ⟨n1, d1, p1, h1, w1⟩ := hf 1 _ rfl
    simp [show Tryz.prog.cellsOf 9 = 1 by kernel_rfl] at h1
    obtain ⟨x1, r1, j1⟩ := (opS7 Tryz.underlying9) h1 w1
    obtain ⟨n2, d2, p2, h2, w2⟩ := hf 2 _ rfl
    simp [show Tryz.prog.cellsOf 91 = 1 by kernel_rfl] at h2
    obtain ⟨x2, r2, j2⟩ := (opA7 (c := (.p (.i .u8) (.p .s (.p .s (.p (.i .u8) (.p .b (.p (.i .i64) (.p (.i .i64) (.p (.i .i64) (.p (.i .i64) (.p (.p (.i .i64) (.i .i64)) (.p (.i .i64) (.i .i64))))))))))))) 112 (by kernel_rfl) (by kernel_rfl) opH96 Tryz.underlying91 (by kernel_rfl) (by kernel_rfl)) h2 w2
    exact ⟨(x0, x1, x2), ⟨[c0], [c1] ++ [c2], rfl, r0, ⟨[c1], [c2], rfl, r1, r2⟩⟩, ⟨j0, j1, j2⟩⟩
theorem opH89 : Opens Tryz.prog 89 (Cd.ty (.p .s (.p .s (.p (.i .u8) (.a (.p (.i .u8) (.p .s (.a (.p (.i .u8) (.p .s (.p .s (.p (.i .u8) (.p .b (.p (.i .i64) (.p (.i .i64) (.p (.i .i64) (.p (.i .i64) (.p (.p (.i .i64) (.i .i64)) (.p (.i .i64) (.i .i64)))))))))))))))))))) (inC (.p .s (.p .s (.p (.i .u8) (.a (.p (.i .u8) (.p .s (.a (.p (.i .u8) (.p .s (.p .s (.p (.i .u8) (.p .b (.p (.i .i64) (.p (.i .i64) (.p (.i .i64) (.p (.i .i64) (.p (.p (.i .i64) (.i .i64)) (.p (.i .i64) (.i .i64)))))))))))))))))))) := by
  intro H enc w base spare held fuel cs d pl h hw
  obtain ⟨hlen, hf⟩ := struct_fields Tryz.underlying89 h hw
  rw [show Tryz.prog.cellsOf 89 = 4 by kernel_rfl] at hlen
  match cs, hlen with
  | [c0, c1, c2, c3], _ =>
    obtain ⟨n0, d0, p0, h0, w0⟩ := hf 0 _ rfl
    simp [show Tryz.prog.cellsOf 9 = 1 by kernel_rfl] at h0
    obtain ⟨x0, r0, j0⟩ := (opS7 Tryz.underlying9) h0 w0
    obtain ⟨n1, d1, p1, h1, w1⟩ := hf 1 _ rfl
    simp [show Tryz.prog.cellsOf 9 = 1 by kernel_rfl] at h1
    obtain ⟨x1, r1, j1⟩ := (opS7 Tryz.underlying9) h1 w1
    obtain ⟨n2, d2, p2, h2, w2⟩ := hf 2 _ rfl
    simp [show Tryz.prog.cellsOf 86 = 1 by kernel_rfl] at h2
    obtain ⟨x2, r2, j2⟩ := (opI7 Tryz.underlying86) h2 w2
    obtain ⟨n3, d3, p3, h3, w3⟩ := hf 3 _ rfl
    simp [show Tryz.prog.cellsOf 87 = 1 by kernel_rfl] at h3
    obtain ⟨x3, r3, j3⟩ := (opA7 (c := (.p (.i .u8) (.p .s (.a (.p (.i .u8) (.p .s (.p .s (.p (.i .u8) (.p .b (.p (.i .i64) (.p (.i .i64) (.p (.i .i64) (.p (.i .i64) (.p (.p (.i .i64) (.i .i64)) (.p (.i .i64) (.i .i64)))))))))))))))) 48 (by kernel_rfl) (by kernel_rfl) opH93 Tryz.underlying87 (by kernel_rfl) (by kernel_rfl)) h3 w3
    exact ⟨(x0, x1, x2, x3), ⟨[c0], [c1] ++ [c2] ++ [c3], rfl, r0, ⟨[c1], [c2] ++ [c3], rfl, r1, ⟨[c2], [c3], rfl, r2, r3⟩⟩⟩, ⟨j0, j1, j2, j3⟩⟩
theorem opH30 : Opens Tryz.prog 30 (Cd.ty (.p (.p .s (.p (.i .i64) (.p (.i .i64) (.p (.i .i64) (.p (.i .i64) (.i .i64)))))) (.p (.a (.p .s (.p .s (.p (.i .u8) (.p (.p (.i .i64) (.i .i64)) (.p (.i .i64) (.i .i64))))))) (.p (.a (.p .s (.a (.p .s (.p (.p (.i .i64) (.i .i64)) (.i .u8)))))) (.a (.p .s (.p .s (.p (.i .u8) (.a (.p (.i .u8) (.p .s (.a (.p (.i .u8) (.p .s (.p .s (.p (.i .u8) (.p .b (.p (.i .i64) (.p (.i .i64) (.p (.i .i64) (.p (.i .i64) (.p (.p (.i .i64) (.i .i64)) (.p (.i .i64) (.i .i64)))))))))))))))))))))))) (inC (.p (.p .s (.p (.i .i64) (.p (.i .i64) (.p (.i .i64) (.p (.i .i64) (.i .i64)))))) (.p (.a (.p .s (.p .s (.p (.i .u8) (.p (.p (.i .i64) (.i .i64)) (.p (.i .i64) (.i .i64))))))) (.p (.a (.p .s (.a (.p .s (.p (.p (.i .i64) (.i .i64)) (.i .u8)))))) (.a (.p .s (.p .s (.p (.i .u8) (.a (.p (.i .u8) (.p .s (.a (.p (.i .u8) (.p .s (.p .s (.p (.i .u8) (.p .b (.p (.i .i64) (.p (.i .i64) (.p (.i .i64) (.p (.i .i64) (.p (.p (.i .i64) (.i .i64)) (.p (.i .i64) (.i .i64)))))))))))))))))))))))) := by
  intro H enc w base spare held fuel cs d pl h hw
  obtain ⟨hlen, hf⟩ := struct_fields Tryz.underlying30 h hw
  rw [show Tryz.prog.cellsOf 30 = 9 by kernel_rfl] at hlen
  match cs, hlen with
  | [c0, c1, c2, c3, c4, c5, c6, c7, c8], _ =>
    obtain ⟨n0, d0, p0, h0, w0⟩ := hf 0 _ rfl
    simp [show Tryz.prog.cellsOf 25 = 6 by kernel_rfl] at h0
    obtain ⟨x0, r0, j0⟩ := opH25 h0 w0
    obtain ⟨n1, d1, p1, h1, w1⟩ := hf 1 _ rfl
    simp [show Tryz.prog.cellsOf 26 = 1 by kernel_rfl] at h1
    obtain ⟨x1, r1, j1⟩ := (opA7 (c := (.p .s (.p .s (.p (.i .u8) (.p (.p (.i .i64) (.i .i64)) (.p (.i .i64) (.i .i64))))))) 72 (by kernel_rfl) (by kernel_rfl) opH77 Tryz.underlying26 (by kernel_rfl) (by kernel_rfl)) h1 w1
    obtain ⟨n2, d2, p2, h2, w2⟩ := hf 2 _ rfl
    simp [show Tryz.prog.cellsOf 27 = 1 by kernel_rfl] at h2
    obtain ⟨x2, r2, j2⟩ := (opA7 (c := (.p .s (.a (.p .s (.p (.p (.i .i64) (.i .i64)) (.i .u8)))))) 40 (by kernel_rfl) (by kernel_rfl) opH81 Tryz.underlying27 (by kernel_rfl) (by kernel_rfl)) h2 w2
    obtain ⟨n3, d3, p3, h3, w3⟩ := hf 3 _ rfl
    simp [show Tryz.prog.cellsOf 28 = 1 by kernel_rfl] at h3
    obtain ⟨x3, r3, j3⟩ := (opA7 (c := (.p .s (.p .s (.p (.i .u8) (.a (.p (.i .u8) (.p .s (.a (.p (.i .u8) (.p .s (.p .s (.p (.i .u8) (.p .b (.p (.i .i64) (.p (.i .i64) (.p (.i .i64) (.p (.i .i64) (.p (.p (.i .i64) (.i .i64)) (.p (.i .i64) (.i .i64)))))))))))))))))))) 64 (by kernel_rfl) (by kernel_rfl) opH89 Tryz.underlying28 (by kernel_rfl) (by kernel_rfl)) h3 w3
    exact ⟨(x0, x1, x2, x3), ⟨[c0, c1, c2, c3, c4, c5], [c6] ++ [c7] ++ [c8], rfl, r0, ⟨[c6], [c7] ++ [c8], rfl, r1, ⟨[c7], [c8], rfl, r2, r3⟩⟩⟩, ⟨j0, j1, j2, j3⟩⟩
theorem topActive_lifted (os : Os) (started : os.Started) (H : Type) (enc : TypeId × Value → H) :
    ReturnsInHanded {} Tryz.checked os 3 .any (fun w args => (Rows.topActiveSpec.pre enc Tryz.prog Tryz.f3 [] false w args ∧ laidMetH Tryz.prog laidU w) ∧ sizedMet enc Tryz.prog Tryz.f3 (OpenSpec.ofChange Rows.topActiveSpec) false w args) (Rows.topActiveSpec.post enc Tryz.prog Tryz.f3 false true false false) := by
  refine returnsInHanded_of_change_and (C := Tryz.checked) (X := fun w _ => laidMetH Tryz.prog laidU w) (fun _ _ _ hh h => h.of_heap hh) Tryz.own started (by kernel_rfl) Tryz.func3
    (ChangeSpec.witness_shaped (enc := enc) (C := Tryz.checked) (os := os) (X := fun w _ => laidMetH Tryz.prog laidU w) false (World.laidAll Tryz.prog os laidU) #[.agg #[.string ⟨#[]⟩, .int .i64 0, .int .i64 0, .int .i64 0, .int .i64 0, .int .i64 0, .slice none 0 0, .slice none 0 0, .slice none 0 0], .agg #[.string ⟨#[]⟩, .int .i64 0, .int .i64 0, .int .i64 0, .int .i64 0, .int .i64 0, .slice none 0 0, .slice none 0 0, .slice none 0 0], .slice none 0 0] 8 (World.laidAll_os _ _ _) (World.shaped_of_ZipB (by kernel_rfl) (by kernel_rfl)) (by kernel_rfl) (by kernel_rfl) (by kernel_rfl) (door_met os _)) ?_
  intro W base args ds gs before hval0 hW hcnd hsz0 hL _
  have hval : ∀ (j : Nat) t v, Tryz.f3.params[j]? = some t → args[j]? = some v → Value.okWide Tryz.prog W .any base t v := hval0
  have hW' := hW
  obtain ⟨p, q, hA0, hV, rfl, hfz, hnd⟩ := hW
  have hA : DataW.TrodAll enc Tryz.prog W 0 (fun _ => true) true Tryz.f3.params.toList args.toList ds p := hA0
  have hA1 := hA
  rw [Tryz.params3] at hA hval
  obtain ⟨v0, vs0, d0, ds0, p0, q0, hargs, rfl, rfl, h0, r0⟩ := trodAll_cons hA
  obtain ⟨v1, vs1, d1, ds1, p1, q1, rfl, rfl, rfl, h1, r1⟩ := trodAll_cons r0
  obtain ⟨v2, vs2, d2, ds2, p2, q2, rfl, rfl, rfl, h2, r2⟩ := trodAll_cons r1
  obtain ⟨rfl, rfl, rfl⟩ := trodAll_nil r2
  obtain rfl : args = #[v0, v1, v2] := by cases args; simp_all
  obtain ⟨rfl, rfl⟩ := trodVars_none hV
  have hsz : ∀ m ∈ DataW.weightsEach Tryz.prog [30, 30, 31] [d0, d1, d2], m ≤ reachBytes := fun m hm => by
    have h9 : (DataW.weightsEach Tryz.prog (Tryz.f3.params.toList ++ []) ([d0, d1, d2] ++ [])).all (· ≤ reachBytes) = true := hsz0
    rw [Tryz.params3, List.append_nil, List.append_nil] at h9
    have := List.all_eq_true.1 h9 m hm
    simpa using this
  obtain ⟨u0, rfl, _⟩ := okWide_struct Tryz.underlying30 (hval 0 30 v0 rfl rfl)
  obtain ⟨f0, g0⟩ := h0
  obtain ⟨x0, z0, k0⟩ := opH30 g0 (fun m hm => hsz m (DataW.weights_mem_each (j := 0) rfl rfl m hm))
  obtain ⟨u1, rfl, _⟩ := okWide_struct Tryz.underlying30 (hval 1 30 v1 rfl rfl)
  obtain ⟨f1, g1⟩ := h1
  obtain ⟨x1, z1, k1⟩ := opH30 g1 (fun m hm => hsz m (DataW.weights_mem_each (j := 1) rfl rfl m hm))
  obtain ⟨B2, n2, e2, rfl⟩ := okWide_slice Tryz.underlying31 (hval 2 31 v2 rfl rfl)
  obtain ⟨f2, g2⟩ := h2
  obtain ⟨x2, ⟨A2, c2, z2, fl2⟩, k2⟩ := (opA7 (c := (.i .i64)) 8 (by kernel_rfl) (by kernel_rfl) (opI7 Tryz.underlying2) Tryz.underlying31 (by kernel_rfl) (by kernel_rfl)) g2 (fun m hm => hsz m (DataW.weights_mem_each (j := 2) rfl rfl m hm))
  obtain ⟨rfl, rfl, rfl⟩ : B2 = A2 ∧ n2 = x2.length ∧ e2 = c2 := by simpa [Value.cells] using z2
  simp only [List.append_nil] at hW' hA1
  have hrun := law_of_fok fo3 (t := ((((x0.1.1, x0.1.2.1), (x0.1.2.2.1, x0.1.2.2.2.1)), ((x0.1.2.2.2.2.1, x0.1.2.2.2.2.2), (x0.2.1, (x0.2.2.1, x0.2.2.2)))), ((((x1.1.1, x1.1.2.1), (x1.1.2.2.1, x1.1.2.2.2.1)), ((x1.1.2.2.2.2.1, x1.1.2.2.2.2.2), (x1.2.1, (x1.2.2.1, x1.2.2.2)))), x2))) ((active_law k0 k1 k2)) [.v (.agg (Cd.cv (.p (.p .s (.p (.i .i64) (.p (.i .i64) (.p (.i .i64) (.p (.i .i64) (.i .i64)))))) (.p (.a (.p .s (.p .s (.p (.i .u8) (.p (.p (.i .i64) (.i .i64)) (.p (.i .i64) (.i .i64))))))) (.p (.a (.p .s (.a (.p .s (.p (.p (.i .i64) (.i .i64)) (.i .u8)))))) (.a (.p .s (.p .s (.p (.i .u8) (.a (.p (.i .u8) (.p .s (.a (.p (.i .u8) (.p .s (.p .s (.p (.i .u8) (.p .b (.p (.i .i64) (.p (.i .i64) (.p (.i .i64) (.p (.i .i64) (.p (.p (.i .i64) (.i .i64)) (.p (.i .i64) (.i .i64))))))))))))))))))))))) x0)), .v (.agg (Cd.cv (.p (.p .s (.p (.i .i64) (.p (.i .i64) (.p (.i .i64) (.p (.i .i64) (.i .i64)))))) (.p (.a (.p .s (.p .s (.p (.i .u8) (.p (.p (.i .i64) (.i .i64)) (.p (.i .i64) (.i .i64))))))) (.p (.a (.p .s (.a (.p .s (.p (.p (.i .i64) (.i .i64)) (.i .u8)))))) (.a (.p .s (.p .s (.p (.i .u8) (.a (.p (.i .u8) (.p .s (.a (.p (.i .u8) (.p .s (.p .s (.p (.i .u8) (.p .b (.p (.i .i64) (.p (.i .i64) (.p (.i .i64) (.p (.i .i64) (.p (.p (.i .i64) (.i .i64)) (.p (.i .i64) (.i .i64))))))))))))))))))))))) x1)), vC (.ro (.i .i64) x2 false)] rfl (W := W) (gi_of hL) (vs := [.agg u0, .agg u1, _]) (⟨⟨u0.toList, by simp, Cd.cv_real (.p (.p .s (.p (.i .i64) (.p (.i .i64) (.p (.i .i64) (.p (.i .i64) (.i .i64)))))) (.p (.a (.p .s (.p .s (.p (.i .u8) (.p (.p (.i .i64) (.i .i64)) (.p (.i .i64) (.i .i64))))))) (.p (.a (.p .s (.a (.p .s (.p (.p (.i .i64) (.i .i64)) (.i .u8)))))) (.a (.p .s (.p .s (.p (.i .u8) (.a (.p (.i .u8) (.p .s (.a (.p (.i .u8) (.p .s (.p .s (.p (.i .u8) (.p .b (.p (.i .i64) (.p (.i .i64) (.p (.i .i64) (.p (.i .i64) (.p (.p (.i .i64) (.i .i64)) (.p (.i .i64) (.i .i64))))))))))))))))))))))) z0⟩, ⟨u1.toList, by simp, Cd.cv_real (.p (.p .s (.p (.i .i64) (.p (.i .i64) (.p (.i .i64) (.p (.i .i64) (.i .i64)))))) (.p (.a (.p .s (.p .s (.p (.i .u8) (.p (.p (.i .i64) (.i .i64)) (.p (.i .i64) (.i .i64))))))) (.p (.a (.p .s (.a (.p .s (.p (.p (.i .i64) (.i .i64)) (.i .u8)))))) (.a (.p .s (.p .s (.p (.i .u8) (.a (.p (.i .u8) (.p .s (.a (.p (.i .u8) (.p .s (.p .s (.p (.i .u8) (.p .b (.p (.i .i64) (.p (.i .i64) (.p (.i .i64) (.p (.i .i64) (.p (.p (.i .i64) (.i .i64)) (.p (.i .i64) (.i .i64))))))))))))))))))))))) z1⟩, ⟨B2, e2, rfl, Arr.toM fl2 (.refl _)⟩, trivial⟩) rfl
  refine hrun.mono fun e W' ⟨he, hg⟩ => ?_
  subst he
  exact ⟨_, rfl, law_post Tryz.laidOut (by intro t ht; simp only [Tryz.params3] at ht; revert t; decide +kernel) rfl rfl Tryz.underlying4 rfl hW' hA1 hg⟩
end Go.Proofs.YtpglaekodahcoaaGreatDoor
