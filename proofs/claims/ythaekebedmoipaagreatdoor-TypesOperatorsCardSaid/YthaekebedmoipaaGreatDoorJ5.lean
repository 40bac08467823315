/- Part 5 of the proof: D1. -/
import Derived.Test.YthaekebedmoipaaGreatDoorJ4
/- The data of package api, and how they lie in cells. -/
set_option linter.unusedVariables false
set_option linter.unusedSimpArgs false
namespace Go.Proofs.YthaekebedmoipaaGreatDoor.AM
open Go Go.RowKit

abbrev Str := List UInt8
inductive Ex where
  | mk (kind op typ : Int) (name : Str) (v : Int) (a : List Ex)
inductive Sm where
  | mk (kind op typ bound : Int) (name : Str) (x y : Ex) (body els : List Sm)
structure Ar where
  name : Str
  space : Int
  typ : Int
  len : Int
structure Pa where
  name : Str
  typ : Int
structure Fu where
  name : Str
  params : List Pa
  typ : Int
  body : List Sm
  ret : Ex
structure Ke where
  name : Str
  group : Int
  sub : Int
  arrays : List Ar
  params : List Pa
  funcs : List Fu
  body : List Sm

@[reducible] def vi (n : Int) : AV := .int .i64 n
@[reducible] def Ex.kind : Ex → Int | .mk k _ _ _ _ _ => k
@[reducible] def Ex.op : Ex → Int | .mk _ o _ _ _ _ => o
@[reducible] def Ex.typ : Ex → Int | .mk _ _ t _ _ _ => t
@[reducible] def Ex.name : Ex → Str | .mk _ _ _ n _ _ => n
@[reducible] def Ex.v : Ex → Int | .mk _ _ _ _ v _ => v
@[reducible] def Ex.a : Ex → List Ex | .mk _ _ _ _ _ a => a
@[reducible] def Sm.kind : Sm → Int | .mk k _ _ _ _ _ _ _ _ => k
@[reducible] def Sm.op : Sm → Int | .mk _ o _ _ _ _ _ _ _ => o
@[reducible] def Sm.typ : Sm → Int | .mk _ _ t _ _ _ _ _ _ => t
@[reducible] def Sm.bound : Sm → Int | .mk _ _ _ b _ _ _ _ _ => b
@[reducible] def Sm.name : Sm → Str | .mk _ _ _ _ n _ _ _ _ => n
@[reducible] def Sm.x : Sm → Ex | .mk _ _ _ _ _ x _ _ _ => x
@[reducible] def Sm.y : Sm → Ex | .mk _ _ _ _ _ _ y _ _ => y
@[reducible] def Sm.body : Sm → List Sm | .mk _ _ _ _ _ _ _ b _ => b
@[reducible] def Sm.els : Sm → List Sm | .mk _ _ _ _ _ _ _ _ e => e

/-- Elements one behind the other. -/
def rowOf {α : Type} (f : α → List AV) : List α → List AV
  | [] => []
  | x :: l => f x ++ rowOf f l

mutual
def Ex.cells : Ex → List AV
  | .mk k o t n v a => [.int .i64 k, .int .i64 o, .int .i64 t, .str n, .int .i32 v, .sl (Ex.cellsL a) a.length .no]
def Ex.cellsL : List Ex → List AV
  | [] => []
  | e :: l => e.cells ++ Ex.cellsL l
end
mutual
def Sm.cells : Sm → List AV
  | .mk k o t b n x y body els => [.int .i64 k, .int .i64 o, .int .i64 t, .int .i64 b, .str n] ++ x.cells ++ y.cells ++ [.sl (Sm.cellsL body) body.length .no, .sl (Sm.cellsL els) els.length .no]
def Sm.cellsL : List Sm → List AV
  | [] => []
  | s :: l => s.cells ++ Sm.cellsL l
end
def Ar.cells (x : Ar) : List AV := [.str x.name, .int .i64 x.space, .int .i64 x.typ, .int .i64 x.len]
def Pa.cells (x : Pa) : List AV := [.str x.name, .int .i64 x.typ]
def Fu.cells (x : Fu) : List AV := [.str x.name, .sl (rowOf Pa.cells x.params) x.params.length .no, .int .i64 x.typ, .sl (Sm.cellsL x.body) x.body.length .no] ++ x.ret.cells
def Ke.cells (x : Ke) : List AV := [.str x.name, .int .i64 x.group, .int .i64 x.sub, .sl (rowOf Ar.cells x.arrays) x.arrays.length .no, .sl (rowOf Pa.cells x.params) x.params.length .no,
  .sl (rowOf Fu.cells x.funcs) x.funcs.length .no, .sl (Sm.cellsL x.body) x.body.length .no]

theorem Ex.cells_eq : ∀ e : Ex, e.cells = [.int .i64 e.kind, .int .i64 e.op, .int .i64 e.typ, .str e.name, .int .i32 e.v, .sl (Ex.cellsL e.a) e.a.length .no]
  | .mk _ _ _ _ _ _ => by simp only [Ex.cells]
theorem Sm.cells_eq : ∀ s : Sm, s.cells = [.int .i64 s.kind, .int .i64 s.op, .int .i64 s.typ, .int .i64 s.bound, .str s.name] ++ s.x.cells ++ s.y.cells ++ [.sl (Sm.cellsL s.body) s.body.length .no, .sl (Sm.cellsL s.els) s.els.length .no]
  | .mk _ _ _ _ _ _ _ _ _ => by simp only [Sm.cells]
mutual
/-- What holds of an expression whose operands have it holds of all. -/
theorem Ex.ind {p : Ex → Prop} (h : ∀ k op t n v a, (∀ x ∈ a, p x) → p (.mk k op t n v a)) : ∀ e, p e
  | .mk k op t n v a => h k op t n v a (Ex.indL h a)
theorem Ex.indL {p : Ex → Prop} (h : ∀ k op t n v a, (∀ x ∈ a, p x) → p (.mk k op t n v a)) : ∀ l : List Ex, ∀ x ∈ l, p x
  | [] => fun x hx => absurd hx (by simp)
  | e :: l => fun x hx => (List.mem_cons.1 hx).elim (fun e' => e' ▸ Ex.ind h e) (fun hx => Ex.indL h l x hx)
end
mutual
theorem Sm.ind {p : Sm → Prop} (h : ∀ k op t b n x y body els, (∀ s ∈ body, p s) → (∀ s ∈ els, p s) → p (.mk k op t b n x y body els)) : ∀ s, p s
  | .mk k op t b n x y body els => h k op t b n x y body els (Sm.indL h body) (Sm.indL h els)
theorem Sm.indL {p : Sm → Prop} (h : ∀ k op t b n x y body els, (∀ s ∈ body, p s) → (∀ s ∈ els, p s) → p (.mk k op t b n x y body els)) : ∀ l : List Sm, ∀ s ∈ l, p s
  | [] => fun x hx => absurd hx (by simp)
  | e :: l => fun x hx => (List.mem_cons.1 hx).elim (fun e' => e' ▸ Sm.ind h e) (fun hx => Sm.indL h l x hx)
end
@[simp] theorem Ex.cells_len (e : Ex) : e.cells.length = 6 := by rw [Ex.cells_eq]; rfl
@[simp] theorem Sm.cells_len (s : Sm) : s.cells.length = 19 := by rw [Sm.cells_eq]; simp
@[simp] theorem Ar.cells_len (x : Ar) : x.cells.length = 4 := rfl
@[simp] theorem Pa.cells_len (x : Pa) : x.cells.length = 2 := rfl
@[simp] theorem Fu.cells_len (x : Fu) : x.cells.length = 10 := by simp [Fu.cells]
@[simp] theorem Ke.cells_len (x : Ke) : x.cells.length = 7 := rfl
theorem Ex.cellsL_row (l : List Ex) : Ex.cellsL l = rowOf Ex.cells l := by
  induction l with
  | nil => simp [Ex.cellsL, rowOf]
  | cons e l ih => simp only [Ex.cellsL, rowOf, ih]
theorem Sm.cellsL_row (l : List Sm) : Sm.cellsL l = rowOf Sm.cells l := by
  induction l with
  | nil => simp [Sm.cellsL, rowOf]
  | cons e l ih => simp only [Sm.cellsL, rowOf, ih]

section
variable {α : Type} {f : α → List AV} {n : Nat}
@[simp] theorem rowOf_nil : rowOf f [] = [] := rfl
theorem rowOf_cons (x : α) (l : List α) : rowOf f (x :: l) = f x ++ rowOf f l := rfl
theorem rowOf_append (a b : List α) : rowOf f (a ++ b) = rowOf f a ++ rowOf f b := by
  induction a with
  | nil => rfl
  | cons x a ih => simp [rowOf_cons, ih]
theorem rowOf_length (h : ∀ x, (f x).length = n) (l : List α) : (rowOf f l).length = l.length * n := by
  induction l with
  | nil => simp
  | cons x l ih => rw [rowOf_cons, List.length_append, ih, h, List.length_cons, Nat.succ_mul, Nat.add_comm]
theorem rowOf_drop (h : ∀ x, (f x).length = n) : ∀ (l : List α) (j : Nat), (rowOf f l).drop (j * n) = rowOf f (l.drop j)
  | [], j => by simp
  | x :: l, 0 => by simp
  | x :: l, j + 1 => by
    rw [rowOf_cons, List.drop_succ_cons, ← rowOf_drop h l j, Nat.succ_mul, Nat.add_comm (j * n) n, ← List.drop_drop]
    congr 1
    rw [List.drop_append, h x, Nat.sub_self, List.drop_zero, List.drop_of_length_le (by rw [h x]; exact Nat.le_refl _), List.nil_append]
theorem rowOf_take (h : ∀ x, (f x).length = n) : ∀ (l : List α) (j : Nat), (rowOf f l).take (j * n) = rowOf f (l.take j)
  | [], j => by simp
  | x :: l, 0 => by simp
  | x :: l, j + 1 => by
    rw [List.take_succ_cons, rowOf_cons, rowOf_cons, ← rowOf_take h l j, Nat.succ_mul, Nat.add_comm (j * n) n, List.take_append, h x, Nat.add_sub_cancel_left, List.take_of_length_le (by rw [h x]; omega)]
/-- The cells of an element. -/
theorem rowOf_at (h : ∀ x, (f x).length = n) {l : List α} {j : Nat} {x : α} (hj : l[j]? = some x) : ((rowOf f l).drop (j * n)).take n = f x := by
  rw [rowOf_drop h]
  obtain ⟨hlt, e⟩ := List.getElem?_eq_some_iff.1 hj
  rw [List.drop_eq_getElem_cons hlt, e, rowOf_cons, List.take_append, h x, Nat.sub_self, List.take_zero, List.append_nil, List.take_of_length_le (by rw [h x]; exact Nat.le_refl _)]
/-- A field of an element. -/
theorem rowOf_get (h : ∀ x, (f x).length = n) {l : List α} {j k : Nat} {x : α} (hj : l[j]? = some x) (hk : k < n) : (rowOf f l)[j * n + k]? = (f x)[k]? := by
  have := rowOf_at h hj
  rw [← this, List.getElem?_take, if_pos hk, List.getElem?_drop]
theorem rowOf_le (h : ∀ x, (f x).length = n) {l : List α} {j : Nat} {x : α} (hj : l[j]? = some x) : j * n + n ≤ (rowOf f l).length := by
  rw [rowOf_length h]
  obtain ⟨hlt, _⟩ := List.getElem?_eq_some_iff.1 hj
  have : (j + 1) * n ≤ l.length * n := Nat.mul_le_mul_right n hlt
  rwa [Nat.succ_mul] at this
end
end Go.Proofs.YthaekebedmoipaaGreatDoor.AM
