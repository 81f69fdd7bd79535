/- An Errno's word is the same at every call. -/
import Derived.Test.YtdgokebablhoiaaDoorWReader
namespace Go.Proofs.YtdgokebablhoiaaDoor
open Go.RowKit

def wordB (e : Int) : ByteArray := if e = 1 then ⟨#[97, 114, 103]⟩ else if e = 2 then ⟨#[109, 97, 110, 121]⟩ else if e = 3 then ⟨#[119, 111, 114, 100]⟩ else if e = 4 then ⟨#[108, 111, 110, 103]⟩ else if e = 11 then ⟨#[99, 117, 116]⟩ else if e = 12 then ⟨#[102, 111, 114, 109]⟩ else if e = 13 then ⟨#[116, 97, 105, 108]⟩ else if e = 14 then ⟨#[102, 114, 97, 109, 101]⟩ else if e = 15 then ⟨#[107, 105, 110, 100]⟩ else if e = 16 then ⟨#[102, 105, 101, 108, 100]⟩ else ⟨#[101, 114, 114, 111, 114]⟩
def wordS (e : Int) : ByteArray := if e = 21 then ⟨#[107, 101, 121]⟩ else if e = 22 then ⟨#[116, 105, 109, 101]⟩ else if e = 23 then ⟨#[118, 105, 101, 119]⟩ else if e = 24 then ⟨#[99, 111, 110, 102, 105, 103]⟩ else if e = 25 then ⟨#[111, 118, 101, 114, 102, 108, 111, 119]⟩ else if e = 26 then ⟨#[108, 97, 116, 101]⟩ else if e = 31 then ⟨#[102, 117, 108, 108]⟩ else if e = 32 then ⟨#[111, 108, 100]⟩ else if e = 33 then ⟨#[101, 112, 111, 99, 104]⟩ else if e = 34 then ⟨#[112, 105, 110, 115]⟩ else if e = 35 then ⟨#[98, 117, 115, 121]⟩ else if e = 36 then ⟨#[100, 111, 119, 110]⟩ else ⟨#[101, 114, 114, 111, 114]⟩
def wordT (e : Int) : ByteArray := if e = 41 then ⟨#[104, 101, 108, 100]⟩ else if e = 42 then ⟨#[116, 97, 115, 107]⟩ else if e = 43 then ⟨#[116, 119, 105, 99, 101]⟩ else if e = 44 then ⟨#[103, 111, 110, 101]⟩ else if e = 45 then ⟨#[119, 97, 105, 116]⟩ else if e = 51 then ⟨#[112, 111, 105, 110, 116]⟩ else if e = 52 then ⟨#[97, 110, 115, 119, 101, 114]⟩ else if e = 53 then ⟨#[111, 114, 100, 101, 114]⟩ else ⟨#[101, 114, 114, 111, 114]⟩
def wordE (e : Int) : ByteArray := if e = 0 then ⟨#[111, 107]⟩ else if e < 21 then wordB e else if e < 41 then wordS e else wordT e
set_option maxHeartbeats 1000000 in
set_option maxRecDepth 100000 in
theorem wordB_any (e : Int) (W : World) : Calls Tryd.prog 67 #[.int .i64 e] W fun ev w' => ev = .returned (.string (wordB e)) ∧ W = w' := by
  by_cases h1 : e = 1
  · subst h1
    go_enter Tryd.func67, Tryd.ntmps67
    go_wp2
    go_ret
    exact ⟨rfl, rfl⟩
  · have g1 : (e == 1) = false := by simpa using h1
    by_cases h2 : e = 2
    · subst h2
      go_enter Tryd.func67, Tryd.ntmps67
      go_wp2
      go_ret
      exact ⟨rfl, rfl⟩
    · have g2 : (e == 2) = false := by simpa using h2
      by_cases h3 : e = 3
      · subst h3
        go_enter Tryd.func67, Tryd.ntmps67
        go_wp2
        go_ret
        exact ⟨rfl, rfl⟩
      · have g3 : (e == 3) = false := by simpa using h3
        by_cases h4 : e = 4
        · subst h4
          go_enter Tryd.func67, Tryd.ntmps67
          go_wp2
          go_ret
          exact ⟨rfl, rfl⟩
        · have g4 : (e == 4) = false := by simpa using h4
          by_cases h11 : e = 11
          · subst h11
            go_enter Tryd.func67, Tryd.ntmps67
            go_wp2
            go_ret
            exact ⟨rfl, rfl⟩
          · have g11 : (e == 11) = false := by simpa using h11
            by_cases h12 : e = 12
            · subst h12
              go_enter Tryd.func67, Tryd.ntmps67
              go_wp2
              go_ret
              exact ⟨rfl, rfl⟩
            · have g12 : (e == 12) = false := by simpa using h12
              by_cases h13 : e = 13
              · subst h13
                go_enter Tryd.func67, Tryd.ntmps67
                go_wp2
                go_ret
                exact ⟨rfl, rfl⟩
              · have g13 : (e == 13) = false := by simpa using h13
                by_cases h14 : e = 14
                · subst h14
                  go_enter Tryd.func67, Tryd.ntmps67
                  go_wp2
                  go_ret
                  exact ⟨rfl, rfl⟩
                · have g14 : (e == 14) = false := by simpa using h14
                  by_cases h15 : e = 15
                  · subst h15
                    go_enter Tryd.func67, Tryd.ntmps67
                    go_wp2
                    go_ret
                    exact ⟨rfl, rfl⟩
                  · have g15 : (e == 15) = false := by simpa using h15
                    by_cases h16 : e = 16
                    · subst h16
                      go_enter Tryd.func67, Tryd.ntmps67
                      go_wp2
                      go_ret
                      exact ⟨rfl, rfl⟩
                    · have g16 : (e == 16) = false := by simpa using h16
                      have HS := Lib.hid (show wordB e = ⟨#[101, 114, 114, 111, 114]⟩ by unfold wordB; simp only [h1, h2, h3, h4, h11, h12, h13, h14, h15, h16, if_false])
                      clear h1 h2 h3 h4 h11 h12 h13 h14 h15 h16
                      go_enter Tryd.func67, Tryd.ntmps67
                      go_wp2
                      go_ret
                      rw [HS.out]
                      exact ⟨rfl, rfl⟩
set_option maxHeartbeats 1000000 in
set_option maxRecDepth 100000 in
theorem wordS_any (e : Int) (W : World) : Calls Tryd.prog 68 #[.int .i64 e] W fun ev w' => ev = .returned (.string (wordS e)) ∧ W = w' := by
  by_cases h21 : e = 21
  · subst h21
    go_enter Tryd.func68, Tryd.ntmps68
    go_wp2
    go_ret
    exact ⟨rfl, rfl⟩
  · have g21 : (e == 21) = false := by simpa using h21
    by_cases h22 : e = 22
    · subst h22
      go_enter Tryd.func68, Tryd.ntmps68
      go_wp2
      go_ret
      exact ⟨rfl, rfl⟩
    · have g22 : (e == 22) = false := by simpa using h22
      by_cases h23 : e = 23
      · subst h23
        go_enter Tryd.func68, Tryd.ntmps68
        go_wp2
        go_ret
        exact ⟨rfl, rfl⟩
      · have g23 : (e == 23) = false := by simpa using h23
        by_cases h24 : e = 24
        · subst h24
          go_enter Tryd.func68, Tryd.ntmps68
          go_wp2
          go_ret
          exact ⟨rfl, rfl⟩
        · have g24 : (e == 24) = false := by simpa using h24
          by_cases h25 : e = 25
          · subst h25
            go_enter Tryd.func68, Tryd.ntmps68
            go_wp2
            go_ret
            exact ⟨rfl, rfl⟩
          · have g25 : (e == 25) = false := by simpa using h25
            by_cases h26 : e = 26
            · subst h26
              go_enter Tryd.func68, Tryd.ntmps68
              go_wp2
              go_ret
              exact ⟨rfl, rfl⟩
            · have g26 : (e == 26) = false := by simpa using h26
              by_cases h31 : e = 31
              · subst h31
                go_enter Tryd.func68, Tryd.ntmps68
                go_wp2
                go_ret
                exact ⟨rfl, rfl⟩
              · have g31 : (e == 31) = false := by simpa using h31
                by_cases h32 : e = 32
                · subst h32
                  go_enter Tryd.func68, Tryd.ntmps68
                  go_wp2
                  go_ret
                  exact ⟨rfl, rfl⟩
                · have g32 : (e == 32) = false := by simpa using h32
                  by_cases h33 : e = 33
                  · subst h33
                    go_enter Tryd.func68, Tryd.ntmps68
                    go_wp2
                    go_ret
                    exact ⟨rfl, rfl⟩
                  · have g33 : (e == 33) = false := by simpa using h33
                    by_cases h34 : e = 34
                    · subst h34
                      go_enter Tryd.func68, Tryd.ntmps68
                      go_wp2
                      go_ret
                      exact ⟨rfl, rfl⟩
                    · have g34 : (e == 34) = false := by simpa using h34
                      by_cases h35 : e = 35
                      · subst h35
                        go_enter Tryd.func68, Tryd.ntmps68
                        go_wp2
                        go_ret
                        exact ⟨rfl, rfl⟩
                      · have g35 : (e == 35) = false := by simpa using h35
                        by_cases h36 : e = 36
                        · subst h36
                          go_enter Tryd.func68, Tryd.ntmps68
                          go_wp2
                          go_ret
                          exact ⟨rfl, rfl⟩
                        · have g36 : (e == 36) = false := by simpa using h36
                          have HS := Lib.hid (show wordS e = ⟨#[101, 114, 114, 111, 114]⟩ by unfold wordS; simp only [h21, h22, h23, h24, h25, h26, h31, h32, h33, h34, h35, h36, if_false])
                          clear h21 h22 h23 h24 h25 h26 h31 h32 h33 h34 h35 h36
                          go_enter Tryd.func68, Tryd.ntmps68
                          go_wp2
                          go_ret
                          rw [HS.out]
                          exact ⟨rfl, rfl⟩
set_option maxHeartbeats 1000000 in
set_option maxRecDepth 100000 in
theorem wordT_any (e : Int) (W : World) : Calls Tryd.prog 69 #[.int .i64 e] W fun ev w' => ev = .returned (.string (wordT e)) ∧ W = w' := by
  by_cases h41 : e = 41
  · subst h41
    go_enter Tryd.func69, Tryd.ntmps69
    go_wp2
    go_ret
    exact ⟨rfl, rfl⟩
  · have g41 : (e == 41) = false := by simpa using h41
    by_cases h42 : e = 42
    · subst h42
      go_enter Tryd.func69, Tryd.ntmps69
      go_wp2
      go_ret
      exact ⟨rfl, rfl⟩
    · have g42 : (e == 42) = false := by simpa using h42
      by_cases h43 : e = 43
      · subst h43
        go_enter Tryd.func69, Tryd.ntmps69
        go_wp2
        go_ret
        exact ⟨rfl, rfl⟩
      · have g43 : (e == 43) = false := by simpa using h43
        by_cases h44 : e = 44
        · subst h44
          go_enter Tryd.func69, Tryd.ntmps69
          go_wp2
          go_ret
          exact ⟨rfl, rfl⟩
        · have g44 : (e == 44) = false := by simpa using h44
          by_cases h45 : e = 45
          · subst h45
            go_enter Tryd.func69, Tryd.ntmps69
            go_wp2
            go_ret
            exact ⟨rfl, rfl⟩
          · have g45 : (e == 45) = false := by simpa using h45
            by_cases h51 : e = 51
            · subst h51
              go_enter Tryd.func69, Tryd.ntmps69
              go_wp2
              go_ret
              exact ⟨rfl, rfl⟩
            · have g51 : (e == 51) = false := by simpa using h51
              by_cases h52 : e = 52
              · subst h52
                go_enter Tryd.func69, Tryd.ntmps69
                go_wp2
                go_ret
                exact ⟨rfl, rfl⟩
              · have g52 : (e == 52) = false := by simpa using h52
                by_cases h53 : e = 53
                · subst h53
                  go_enter Tryd.func69, Tryd.ntmps69
                  go_wp2
                  go_ret
                  exact ⟨rfl, rfl⟩
                · have g53 : (e == 53) = false := by simpa using h53
                  have HS := Lib.hid (show wordT e = ⟨#[101, 114, 114, 111, 114]⟩ by unfold wordT; simp only [h41, h42, h43, h44, h45, h51, h52, h53, if_false])
                  clear h41 h42 h43 h44 h45 h51 h52 h53
                  go_enter Tryd.func69, Tryd.ntmps69
                  go_wp2
                  go_ret
                  rw [HS.out]
                  exact ⟨rfl, rfl⟩
set_option maxRecDepth 100000 in
theorem word_any (e : Int) (W : World) : Calls Tryd.prog 44 #[.int .i64 e] W fun ev w' => ev = .returned (.string (wordE e)) ∧ W = w' := by
  by_cases h0 : e = 0
  · subst h0
    go_enter Tryd.func44, Tryd.ntmps44
    go_wp2
    go_ret
    exact ⟨rfl, rfl⟩
  · have g0 : (e == 0) = false := by simpa using h0
    by_cases h1 : e < 21
    · have HS := Lib.hid (show wordE e = wordB e by unfold wordE; rw [if_neg h0, if_pos h1])
      have hd : decide (e < 21) = true := by simpa using h1
      clear h0 h1
      go_enter Tryd.func44, Tryd.ntmps44
      go_wp2_with fail
      go_at_call 67; (with_reducible refine (wordB_any e W).mono ?_); rintro ev w1 ⟨rfl, rfl⟩
      go_wp2
      go_ret
      rw [HS.out]
      exact ⟨rfl, rfl⟩
    · have hd : decide (e < 21) = false := by simpa using h1
      by_cases h2 : e < 41
      · have HS := Lib.hid (show wordE e = wordS e by unfold wordE; rw [if_neg h0, if_neg h1, if_pos h2])
        have hd2 : decide (e < 41) = true := by simpa using h2
        clear h0 h1 h2
        go_enter Tryd.func44, Tryd.ntmps44
        go_wp2_with fail
        go_at_call 68; (with_reducible refine (wordS_any e W).mono ?_); rintro ev w1 ⟨rfl, rfl⟩
        go_wp2
        go_ret
        rw [HS.out]
        exact ⟨rfl, rfl⟩
      · have HS := Lib.hid (show wordE e = wordT e by unfold wordE; rw [if_neg h0, if_neg h1, if_neg h2])
        have hd2 : decide (e < 41) = false := by simpa using h2
        clear h0 h1 h2
        go_enter Tryd.func44, Tryd.ntmps44
        go_wp2_with fail
        go_at_call 69; (with_reducible refine (wordT_any e W).mono ?_); rintro ev w1 ⟨rfl, rfl⟩
        go_wp2
        go_ret
        rw [HS.out]
        exact ⟨rfl, rfl⟩
end Go.Proofs.YtdgokebablhoiaaDoor
