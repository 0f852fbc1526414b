/- functions of the program and of the references, as models -/
import Derived.Test.YtdllaekpkcanbaaMx5
import Derived.Test.YtdllaekpkcanbaaSeAw0
import Derived.Test.YtdllaekpkcanbaaSeAw29
import Derived.Test.YtdllaekpkcanbaaSeSq
import Derived.Test.YtdllaekpkcanbaaSeAw25
set_option linter.unusedSimpArgs false
set_option linter.unusedVariables false
set_option maxRecDepth 100000
noncomputable section
namespace Go.Bm
open Go.Proofs
abbrev g_cnclaw29_TrackBegin_1 (Qgk : Fn) (o23 o24 o25 o27 o28 : List AC) (Qb8 : Fn) (x6 : Int) (Qb9 Qd4 : Fn) (h1_0 : AC) : Option (List AC) :=
 (Qgk [jA o23 0, jA o23 1, jA o23 2, .view kSgm (wA o23 3), .view kPt (wA o23 4), jA o24 0, jA o24 1, jA o24 2, jA o24 3, jA o24 4, jA o24 5, jA o24 6, jA o24 7, jA o24 8, .view Qac (wA o24 9), jA o24 10, jA o24 11, jA o24 12, jA o24 13, jA o24 14, jA o24 15, jA o24 16, jA o24 17, jA o24 18, .view Qac (wA o24 19), jA o24 20, jA o24 21, jA o24 22, jA o24 23, jA o24 24, jA o24 25, jA o24 26, jA o24 27, jA o24 28, .view Qac (wA o24 29), jA o25 0, jA o25 1, jA o25 2, jA o27 0, h1_0]).bind fun o30 =>
 (Qgk [jA o23 0, jA o23 1, jA o23 2, .view kSgm (wA o23 3), .view kPt (wA o23 4), jA o24 0, jA o24 1, jA o24 2, jA o24 3, jA o24 4, jA o24 5, jA o24 6, jA o24 7, jA o24 8, .view Qac (wA o24 9), jA o24 10, jA o24 11, jA o24 12, jA o24 13, jA o24 14, jA o24 15, jA o24 16, jA o24 17, jA o24 18, .view Qac (wA o24 19), jA o24 20, jA o24 21, jA o24 22, jA o24 23, jA o24 24, jA o24 25, jA o24 26, jA o24 27, jA o24 28, .view Qac (wA o24 29), jA o25 0, jA o25 1, jA o25 2, jA o27 0, jA o28 0]).bind fun o31 =>
 (Qb8 [I x6, I (IntKind.i64.wrap (gA o30 1 + 1))]).bind fun o32 =>
 bif decide (gA o30 1 <= gA o31 1) then
 (Qb9 [.view kPce (wA o30 0), jA o30 1, jA o30 2, jA o30 3, jA o30 4, jA o30 5, jA o32 0]).bind fun o33 =>
 (Qb9 [.view kPce (wA o31 0), jA o31 1, jA o31 2, jA o31 3, jA o31 4, jA o31 5, jA o32 0]).bind fun o34 =>
 bif gA o33 0 == gA o34 0 then
 (Qd4 [jA o23 0, jA o23 1, jA o23 2, .view kSgm (wA o23 3), .view kPt (wA o23 4), jA o24 0, jA o24 1, jA o24 2, jA o24 3, jA o24 4, jA o24 5, jA o24 6, jA o24 7, jA o24 8, .view Qac (wA o24 9), jA o24 10, jA o24 11, jA o24 12, jA o24 13, jA o24 14, jA o24 15, jA o24 16, jA o24 17, jA o24 18, .view Qac (wA o24 19), jA o24 20, jA o24 21, jA o24 22, jA o24 23, jA o24 24, jA o24 25, jA o24 26, jA o24 27, jA o24 28, .view Qac (wA o24 29), .view kPce (wA o30 0), jA o30 1, jA o30 2, jA o30 3, jA o30 4, jA o30 5, jA o32 0]).bind fun o35 =>
 (Qd4 [jA o23 0, jA o23 1, jA o23 2, .view kSgm (wA o23 3), .view kPt (wA o23 4), jA o24 0, jA o24 1, jA o24 2, jA o24 3, jA o24 4, jA o24 5, jA o24 6, jA o24 7, jA o24 8, .view Qac (wA o24 9), jA o24 10, jA o24 11, jA o24 12, jA o24 13, jA o24 14, jA o24 15, jA o24 16, jA o24 17, jA o24 18, .view Qac (wA o24 19), jA o24 20, jA o24 21, jA o24 22, jA o24 23, jA o24 24, jA o24 25, jA o24 26, jA o24 27, jA o24 28, .view Qac (wA o24 29), .view kPce (wA o31 0), jA o31 1, jA o31 2, jA o31 3, jA o31 4, jA o31 5, jA o32 0]).bind fun o36 =>
 some [B (gA o35 0 == gA o36 0 && (gA o35 1 == gA o36 1 && (gA o35 2 == gA o36 2 && true)))]
 else
 some [B false]
 else
 some [B false]
attribute [go_sem] g_cnclaw29_TrackBegin_1
abbrev Qfq (v3 : Int) (v0 v1 : Rw) (v2 v4 v5 v6 : Int) (v7 v8 : Rw) : Option (Nat × List AC) :=
 bif decide (0 <= v3) && decide (v3 < (v0.length : Int)) then
 bif gA (nth [] v0 v3.toNat) 0 == 14 then
 bif gA (nth [] v1 v3.toNat) 1 != 3 then
 some (1, [B false])
 else
 some (0, [.view kItm v0, .view kPt v1, I v2, I (IntKind.i64.wrap (v3 + 1)), I v4, I v5, I v6, .view kSgm v7, .view kPt v8])
 else
 some (0, [.view kItm v0, .view kPt v1, I v2, I (IntKind.i64.wrap (v3 + 1)), I v4, I v5, I v6, .view kSgm v7, .view kPt v8])
 else
 none
attribute [go_sem] Qfq
abbrev Qek (v3 : Int) (v0 v1 : Rw) (v2 v4 v5 v6 : Int) (v7 v8 : Rw) : Option (Nat × List AC) :=
 bif decide (0 <= v3) && decide (v3 < (v0.length : Int)) then
 bif gA (nth [] v0 v3.toNat) 0 == 10 then
 bif gA (nth [] v1 v3.toNat) 1 != 5 then
 some (1, [B false])
 else
 Qfq v3 v0 v1 v2 v4 v5 v6 v7 v8
 else
 Qfq v3 v0 v1 v2 v4 v5 v6 v7 v8
 else
 none
attribute [go_sem] Qek
abbrev g_s_cnclaw25_PathMarks_8_2 (v3 : Int) (v0 : Rw) (M_cncref23_Motion Qd7 Qes : Fn) (v4 v5 v6 : Int) (v7 v8 v1 : Rw) (M_cncref23_Fine : Fn) (v2 : Int) : Option (Nat × List AC) :=
 bif decide (0 <= v3) && decide (v3 < (v0.length : Int)) then
 (M_cncref23_Motion [jA (nth [] v0 v3.toNat) 0]).bind fun o19 =>
 bif bA o19 0 then
 (Qd7 [.view kItm v0, I v3]).bind fun o20 =>
 bif decide (gA o20 0 < 0) then
 (Qes [I v4, I v5, I v6, .view kSgm v7, .view kPt v8, jA (nth [] v1 v3.toNat) 0]).bind fun o21 =>
 bif decide (0 <= v3) && decide (v3 < (v0.length : Int)) then
 (M_cncref23_Fine [jA (nth [] v0 v3.toNat) 5, jA (nth [] v0 v3.toNat) 6, jA (nth [] v0 v3.toNat) 7]).bind fun o22 =>
 bif !(gA o21 0 == gA o22 0 && (gA o21 1 == gA o22 1 && (gA o21 2 == gA o22 2 && true))) then
 some (1, [B false])
 else
 bif gA (nth [] v1 v3.toNat) 1 == 3 then
 some (1, [B false])
 else
 bif gA (nth [] v1 v3.toNat) 1 == 5 then
 some (1, [B false])
 else
 Qek v3 v0 v1 v2 v4 v5 v6 v7 v8
 else
 none
 else
 Qek v3 v0 v1 v2 v4 v5 v6 v7 v8
 else
 Qek v3 v0 v1 v2 v4 v5 v6 v7 v8
 else
 none
attribute [go_sem] g_s_cnclaw25_PathMarks_8_2
abbrev Qd2 (N19 : Lp) (v0 : Int) (v1 : Rw) (v2 : Int) (o83 o81 o82 : List AC) : Option (Nat × List AC) :=
 (N19 [I v0, .view kItm v1, I v2, jA o83 0, .view kPt (wA o81 4), I (↑(wA o81 4).length : Int), I 0, jA o82 0, jA o82 1, jA o82 2, .view kSgm (wA o82 3), .view kPt (wA o82 4)]).bind fun o93 =>
 bif o93.1.beq 1 then
 some (1, [B (bA o93.2 0)])
 else
 bif o93.1.beq 2 then
 some (0, [jA o93.2 0, .view kItm (wA o93.2 1), I (IntKind.i64.wrap (gA o93.2 2 + 1))])
 else
 none
attribute [go_sem] Qd2
abbrev Qd1 (v2 : Int) (o81 : List AC) (Qes : Fn) (o83 o82 : List AC) (N19 : Lp) (v0 : Int) (v1 : Rw) : Option (Nat × List AC) :=
 bif decide (v2 > 0) then
 bif decide ((↑(wA o81 3).length : Int) > 0) then
 (Qes [jA o81 0, jA o81 1, jA o81 2, .view kSgm (wA o81 3), .view kPt (wA o81 4), I (mx (IntKind.i64.wrap (gA o83 0 - 1)) 0)]).bind fun o91 =>
 (Qes [jA o82 0, jA o82 1, jA o82 2, .view kSgm (wA o82 3), .view kPt (wA o82 4), I (mx (IntKind.i64.wrap (gA o83 0 - 1)) 0)]).bind fun o92 =>
 bif !(gA o91 0 == gA o92 0 && (gA o91 1 == gA o92 1 && (gA o91 2 == gA o92 2 && true))) then
 some (1, [B false])
 else
 Qd2 N19 v0 v1 v2 o83 o81 o82
 else
 Qd2 N19 v0 v1 v2 o83 o81 o82
 else
 Qd2 N19 v0 v1 v2 o83 o81 o82
attribute [go_sem] Qd1
abbrev g_s_cnclaw25_PathSettled_5_2 (v2 : Int) (o81 : List AC) (Qes : Fn) (o86 o82 o83 : List AC) (N19 : Lp) (v0 : Int) (v1 : Rw) : Option (Nat × List AC) :=
 bif decide (v2 > 0) then
 bif decide ((↑(wA o81 3).length : Int) > 0) then
 (Qes [jA o81 0, jA o81 1, jA o81 2, .view kSgm (wA o81 3), .view kPt (wA o81 4), jA o86 0]).bind fun o89 =>
 (Qes [jA o82 0, jA o82 1, jA o82 2, .view kSgm (wA o82 3), .view kPt (wA o82 4), jA o86 0]).bind fun o90 =>
 bif !(gA o89 0 == gA o90 0 && (gA o89 1 == gA o90 1 && (gA o89 2 == gA o90 2 && true))) then
 some (1, [B false])
 else
 Qd1 v2 o81 Qes o83 o82 N19 v0 v1
 else
 Qd1 v2 o81 Qes o83 o82 N19 v0 v1
 else
 Qd1 v2 o81 Qes o83 o82 N19 v0 v1
attribute [go_sem] g_s_cnclaw25_PathSettled_5_2
def Qka : Sk := { tmps := [tf [CS.sl Qac], tf [CS.sl Qac], tf [ci], tf [ci], tf [ci]], boxes := [], rows := [] }
def Qjn : Sk := { tmps := [tf [CS.bool]], boxes := [], rows := [] }
def Qfr (Qd4 Qb9 Qdc Qgk Qif Qjl Qid Qg6 Qb8 Qfu : Fn) : Cfg := { spec := Qbq [(38, spOf sig_track_Motors osig_track_Motors Qd4), (37, spOf Qnm Qk9 Qb9), (46, spOf Qng Qlb Qdc), (36, spOf sig_track_Leg osig_track_Leg Qgk), (52, spOf sig_path_Settled osig_path_Settled Qif), (43, spOf sig_path_Build osig_path_Build Qjl), (33, spOf sig_cncmill_Axes osig_cncmill_Axes Qid), (47, spOf sig_cncmill_Items Qmm Qg6), (23, spOf sig_cncmill_Mod Qlk Qb8), (31, spOf Qml Qlr Qfu)], eqOk := Qbu, ownOff := ownOff }
def Qgi (Qd4 Qb9 Qdc Qgk Qif Qjl Qid Qg6 Qb8 Qfu : Fn) : Fn := Qau Try.prog (Qfr Qd4 Qb9 Qdc Qgk Qif Qjl Qid Qg6 Qb8 Qfu) 64 15 Qka Qjn
theorem mf_cnclaw29_TrackExtended_eq (Qd4 Qb9 Qdc Qgk Qif Qjl Qid Qg6 Qb8 Qfu : Fn) (x0 x1 : Rw) (x2 x3 x4 : Int) : Qgi Qd4 Qb9 Qdc Qgk Qif Qjl Qid Qg6 Qb8 Qfu [.view Qac x0, .view Qac x1, I x2, I x3, I x4] =
 (Qfu []).bind fun o16 =>
 bif !bA o16 0 then
 some [B false]
 else
 (Qb8 [I x2, I 7]).bind fun o17 =>
 (Qg6 [.view Qac x0, I (IntKind.i64.wrap (1 + gA o17 0)), B false]).bind fun o18 =>
 (Qid [.view Qac x1]).bind fun o19 =>
 (Qb8 [I x3, I (IntKind.i64.wrap ((↑(wA o18 0).length : Int) + 1))]).bind fun o20 =>
 bif decide (0 <= gA o20 0) && decide (gA o20 0 <= (↑(wA o18 0).length : Int)) then
 (Qjl [.view kItm (List.take (gA o20 0).toNat (wA o18 0))]).bind fun o21 =>
 (Qjl [.view kItm (wA o18 0)]).bind fun o22 =>
 bif gA o21 5 != 0 then
 some [B false]
 else
 bif gA o22 5 != 0 then
 some [B false]
 else
 (Qif [.view kItm (List.take (gA o20 0).toNat (wA o18 0))]).bind fun o23 =>
 bif (↑(wA o21 3).length : Int) == 0 then
 some [B (gA o23 0 == 0)]
 else
 (Qgk [jA o21 0, jA o21 1, jA o21 2, .view kSgm (wA o21 3), .view kPt (wA o21 4), jA o19 0, jA o19 1, jA o19 2, jA o19 3, jA o19 4, jA o19 5, jA o19 6, jA o19 7, jA o19 8, .view Qac (wA o19 9), jA o19 10, jA o19 11, jA o19 12, jA o19 13, jA o19 14, jA o19 15, jA o19 16, jA o19 17, jA o19 18, .view Qac (wA o19 19), jA o19 20, jA o19 21, jA o19 22, jA o19 23, jA o19 24, jA o19 25, jA o19 26, jA o19 27, jA o19 28, .view Qac (wA o19 29), I 1, I 1, I 1, I 0, jA o23 0]).bind fun o24 =>
 (Qdc [jA o22 0, jA o22 1, jA o22 2, .view kSgm (wA o22 3), .view kPt (wA o22 4)]).bind fun o25 =>
 (Qgk [jA o22 0, jA o22 1, jA o22 2, .view kSgm (wA o22 3), .view kPt (wA o22 4), jA o19 0, jA o19 1, jA o19 2, jA o19 3, jA o19 4, jA o19 5, jA o19 6, jA o19 7, jA o19 8, .view Qac (wA o19 9), jA o19 10, jA o19 11, jA o19 12, jA o19 13, jA o19 14, jA o19 15, jA o19 16, jA o19 17, jA o19 18, .view Qac (wA o19 19), jA o19 20, jA o19 21, jA o19 22, jA o19 23, jA o19 24, jA o19 25, jA o19 26, jA o19 27, jA o19 28, .view Qac (wA o19 29), I 1, I 1, I 1, I 0, jA o25 0]).bind fun o26 =>
 (Qb8 [I x4, I (IntKind.i64.wrap (gA o24 1 + 1))]).bind fun o27 =>
 bif decide (gA o24 1 <= gA o26 1) then
 (Qb9 [.view kPce (wA o24 0), jA o24 1, jA o24 2, jA o24 3, jA o24 4, jA o24 5, jA o27 0]).bind fun o28 =>
 (Qb9 [.view kPce (wA o26 0), jA o26 1, jA o26 2, jA o26 3, jA o26 4, jA o26 5, jA o27 0]).bind fun o29 =>
 bif gA o28 0 == gA o29 0 then
 (Qd4 [jA o21 0, jA o21 1, jA o21 2, .view kSgm (wA o21 3), .view kPt (wA o21 4), jA o19 0, jA o19 1, jA o19 2, jA o19 3, jA o19 4, jA o19 5, jA o19 6, jA o19 7, jA o19 8, .view Qac (wA o19 9), jA o19 10, jA o19 11, jA o19 12, jA o19 13, jA o19 14, jA o19 15, jA o19 16, jA o19 17, jA o19 18, .view Qac (wA o19 19), jA o19 20, jA o19 21, jA o19 22, jA o19 23, jA o19 24, jA o19 25, jA o19 26, jA o19 27, jA o19 28, .view Qac (wA o19 29), .view kPce (wA o24 0), jA o24 1, jA o24 2, jA o24 3, jA o24 4, jA o24 5, jA o27 0]).bind fun o30 =>
 (Qd4 [jA o22 0, jA o22 1, jA o22 2, .view kSgm (wA o22 3), .view kPt (wA o22 4), jA o19 0, jA o19 1, jA o19 2, jA o19 3, jA o19 4, jA o19 5, jA o19 6, jA o19 7, jA o19 8, .view Qac (wA o19 9), jA o19 10, jA o19 11, jA o19 12, jA o19 13, jA o19 14, jA o19 15, jA o19 16, jA o19 17, jA o19 18, .view Qac (wA o19 19), jA o19 20, jA o19 21, jA o19 22, jA o19 23, jA o19 24, jA o19 25, jA o19 26, jA o19 27, jA o19 28, .view Qac (wA o19 29), .view kPce (wA o26 0), jA o26 1, jA o26 2, jA o26 3, jA o26 4, jA o26 5, jA o27 0]).bind fun o31 =>
 some [B (gA o30 0 == gA o31 0 && (gA o30 1 == gA o31 1 && (gA o30 2 == gA o31 2 && true)))]
 else
 some [B false]
 else
 some [B false]
 else
 none := by kernel_rfl
def Qmb := Qgi Qkm Qf6 Qe5 m_track_Leg Qkq m_path_Build Qic Qi4 Qe6 Qhy 
theorem sp_cnclaw29_TrackExtended : Qar Try.prog (Qfr Qkm Qf6 Qe5 m_track_Leg Qkq m_path_Build Qic Qi4 Qe6 Qhy) := Qae rfl ⟨r_track_Motors, r_track_Place, r_path_Length, r_track_Leg, r_path_Settled, r_path_Build, r_cncmill_Axes, r_cncmill_Items, r_cncmill_Mod, r_cnclaw29_awake, trivial⟩
theorem c_cnclaw29_TrackExtended : ∀ (args : List TV) (v : TV) (mem : Mem), (spOf Qka Qjn Qmb (TV × Mem) args ⟨[], []⟩ fun v m => some (v, m)) = some (v, mem) -> PCallM Try.prog 15 args ⟨[], []⟩ v mem := fun args v mem h => callM_of (f := 15) (C := (Qfr Qkm Qf6 Qe5 m_track_Leg Qkq m_path_Build Qic Qi4 Qe6 Qhy)) (L := 64) (by kernel_rfl) (FnOK.bare rfl rfl rfl) sp_cnclaw29_TrackExtended eqOk Qbj (by kernel_rfl) (by kernel_rfl) args v mem h
end Go.Bm
