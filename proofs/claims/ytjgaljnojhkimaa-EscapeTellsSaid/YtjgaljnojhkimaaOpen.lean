/- A parser that came in by value reads as one. No condition. -/
import Derived.Test.YtjgaljnojhkimaaStruct
import Derived.Test.YtjgaljnojhkimaaBig
namespace Go.Proofs.Ytjgaljnojhkimaa
open Go.ChangeShapes Go.WideShapes Go.ChangeAt Go.RowKit Go.Deep

section
variable {H : Type} {enc : TypeId × Value → H} {w : World} {base : Nat} {spare : Nat → Bool} {held : Bool}
theorem open_par {fuel : Nat} {cs : List Value} {x : DataW H × List MemPlace} (h : DataW.trod enc Try.prog w base spare held fuel 23 cs = some x) :
    ∃ p0 p1 p2 p3 p4 p5 p6 p7 : Int, cs = [iv p0, iv p1, iv p2, iv p3, iv p4, iv p5, iv p6, iv p7] := by
  obtain ⟨xs, m, _, _, hl, hx, hat⟩ := DataW.trod_array Try.underlying23 h
  have c23 : Try.prog.cellsOf 23 = 8 := by kernel_rfl
  have c3 : Try.prog.cellsOf 3 = 1 := by kernel_rfl
  rw [c23] at hl
  rw [c3] at hat
  match cs, hl with
  | [a0, a1, a2, a3, a4, a5, a6, a7], _ =>
    match xs, hx with
    | [y0, y1, y2, y3, y4, y5, y6, y7], _ =>
      obtain ⟨p0, e0, _, _⟩ := DataW.trod_int Try.underlying3 (hat 0 (by omega))
      obtain ⟨p1, e1, _, _⟩ := DataW.trod_int Try.underlying3 (hat 1 (by omega))
      obtain ⟨p2, e2, _, _⟩ := DataW.trod_int Try.underlying3 (hat 2 (by omega))
      obtain ⟨p3, e3, _, _⟩ := DataW.trod_int Try.underlying3 (hat 3 (by omega))
      obtain ⟨p4, e4, _, _⟩ := DataW.trod_int Try.underlying3 (hat 4 (by omega))
      obtain ⟨p5, e5, _, _⟩ := DataW.trod_int Try.underlying3 (hat 5 (by omega))
      obtain ⟨p6, e6, _, _⟩ := DataW.trod_int Try.underlying3 (hat 6 (by omega))
      obtain ⟨p7, e7, _, _⟩ := DataW.trod_int Try.underlying3 (hat 7 (by omega))
      simp at e0 e1 e2 e3 e4 e5 e6 e7
      exact ⟨p0, p1, p2, p3, p4, p5, p6, p7, by rw [e0, e1, e2, e3, e4, e5, e6, e7]⟩
theorem open_act {fuel : Nat} {cs : List Value} {x : DataW H × List MemPlace} (h : DataW.trod enc Try.prog w base spare held fuel 25 cs = some x) : ∃ a : Ac, cs = al a := by
  obtain ⟨xs, m, _, _, hl, hx, hat⟩ := DataW.trod_struct Try.underlying25 h
  have c25 : Try.prog.cellsOf 25 = 12 := by kernel_rfl
  have c23 : Try.prog.cellsOf 23 = 8 := by kernel_rfl
  have c3 : Try.prog.cellsOf 3 = 1 := by kernel_rfl
  have c4 : Try.prog.cellsOf 4 = 1 := by kernel_rfl
  rw [c25] at hl
  match cs, hl with
  | [b0, b1, b2, b3, a0, a1, a2, a3, a4, a5, a6, a7], _ =>
    match xs, hx with
    | [y0, y1, y2, y3, y4], _ =>
      have h0 : DataW.trod enc Try.prog w base spare held m 3 (([b0, b1, b2, b3, a0, a1, a2, a3, a4, a5, a6, a7].drop 0).take (Try.prog.cellsOf 3)) = some y0 := hat 0 _ rfl
      have h1 : DataW.trod enc Try.prog w base spare held m 3 (([b0, b1, b2, b3, a0, a1, a2, a3, a4, a5, a6, a7].drop 1).take (Try.prog.cellsOf 3)) = some y1 := hat 1 _ rfl
      have h2 : DataW.trod enc Try.prog w base spare held m 4 (([b0, b1, b2, b3, a0, a1, a2, a3, a4, a5, a6, a7].drop 2).take (Try.prog.cellsOf 4)) = some y2 := hat 2 _ rfl
      have h3 : DataW.trod enc Try.prog w base spare held m 3 (([b0, b1, b2, b3, a0, a1, a2, a3, a4, a5, a6, a7].drop 3).take (Try.prog.cellsOf 3)) = some y3 := hat 3 _ rfl
      have h4 : DataW.trod enc Try.prog w base spare held m 23 (([b0, b1, b2, b3, a0, a1, a2, a3, a4, a5, a6, a7].drop 4).take (Try.prog.cellsOf 23)) = some y4 := hat 4 _ rfl
      rw [c3] at h0 h1 h3
      rw [c4] at h2
      rw [c23] at h4
      obtain ⟨k, e0, _, _⟩ := DataW.trod_int Try.underlying3 h0
      obtain ⟨r, e1, _, _⟩ := DataW.trod_int Try.underlying3 h1
      obtain ⟨b, e2, _⟩ := DataW.trod_bool Try.underlying4 h2
      obtain ⟨n, e3, _, _⟩ := DataW.trod_int Try.underlying3 h3
      obtain ⟨p0, p1, p2, p3, p4, p5, p6, p7, e4⟩ := open_par h4
      simp at e0 e1 e2 e3 e4
      obtain ⟨f0, f1, f2, f3, f4, f5, f6, f7⟩ := e4
      exact ⟨⟨k, r, b, n, p0, p1, p2, p3, p4, p5, p6, p7⟩, by rw [e0, e1, e2, e3, f0, f1, f2, f3, f4, f5, f6, f7]⟩
theorem open_parser {fuel : Nat} {cs : List Value} {x : DataW H × List MemPlace} (h : DataW.trod enc Try.prog w base spare held fuel 27 cs = some x) : ∃ p : Pa, cs = pl p := by
  obtain ⟨xs, m, _, _, hl, hx, hat⟩ := DataW.trod_struct Try.underlying27 h
  have c27 : Try.prog.cellsOf 27 = 13 := by kernel_rfl
  have c25 : Try.prog.cellsOf 25 = 12 := by kernel_rfl
  have c3 : Try.prog.cellsOf 3 = 1 := by kernel_rfl
  rw [c27] at hl
  match cs, hl with
  | [s, b0, b1, b2, b3, a0, a1, a2, a3, a4, a5, a6, a7], _ =>
    match xs, hx with
    | [y0, y1], _ =>
      have h0 : DataW.trod enc Try.prog w base spare held m 3 (([s, b0, b1, b2, b3, a0, a1, a2, a3, a4, a5, a6, a7].drop 0).take (Try.prog.cellsOf 3)) = some y0 := hat 0 _ rfl
      have h1 : DataW.trod enc Try.prog w base spare held m 25 (([s, b0, b1, b2, b3, a0, a1, a2, a3, a4, a5, a6, a7].drop 1).take (Try.prog.cellsOf 25)) = some y1 := hat 1 _ rfl
      rw [c3] at h0
      rw [c25] at h1
      obtain ⟨k, e0, _, _⟩ := DataW.trod_int Try.underlying3 h0
      obtain ⟨a, e1⟩ := open_act h1
      simp at e0 e1
      obtain ⟨g0, g1, g2, g3, f0, f1, f2, f3, f4, f5, f6, f7⟩ := e1
      exact ⟨⟨k, a⟩, by rw [e0, g0, g1, g2, g3, f0, f1, f2, f3, f4, f5, f6, f7]⟩
theorem parser_of {r : Reach} {b0 : Nat} {v : Value} {d : DataW H} {p : List MemPlace} (hv : Value.okWide Try.prog w r b0 27 v) (h : DataW.Trod enc Try.prog w base spare held 27 v d p) : ∃ q : Pa, v = pv q := by
  obtain ⟨cs, n, y, rfl, hf⟩ := agg_of Try.underlying27 hv h
  obtain ⟨q, rfl⟩ := open_parser hf
  exact ⟨q, rfl⟩
end
end Go.Proofs.Ytjgaljnojhkimaa
