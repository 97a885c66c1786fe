/- The types of the state, by parts. -/
import Derived.Test.YtekikfdlnkcenaaTyA
import Derived.Test.YtekikfdlnkcenaaMmS
namespace Go.Proofs.Ytekikfdlnkcenaa
open Go.RowKit
/-- a wide number -/
structure Wd where
  l : List Int
  len : l.length = 4
  rg : ∀ x ∈ l, 0 ≤ x ∧ x < 18446744073709551616
theorem Wd.ext' {x y : Wd} (h : x.l = y.l) : x = y := by cases x; cases y; cases h; rfl
instance : DecidableEq Wd := fun x y => if h : x.l = y.l then .isTrue (Wd.ext' h) else .isFalse (fun e => h (e ▸ rfl))
def wc (w : Wd) : List Value := ints .u64 w.l
theorem wc_len (w : Wd) : (wc w).length = 4 := by simp [wc, ints, w.len]
theorem wc_one (w : Wd) : One (wc w) := one_ints _ _
theorem wc_inj {a b : Wd} : wc a = wc b ↔ a = b := ⟨fun h => Wd.ext' (ints_inj.1 h), fun h => h ▸ rfl⟩
def w0 : Wd := ⟨[0, 0, 0, 0], rfl, fun x hx => by simp at hx; omega⟩
theorem U.v_inj {a b : U} : U.v a = U.v b ↔ a = b := ⟨fun h => U.ext' (by unfold U.v at h; injection h with _ h; exact Int.ofNat.inj h), fun h => h ▸ rfl⟩
/-- a block -/
structure Blk where
  pj : Cp
  pf : Cp
  slot : U
  root : Rt
  parent : Rt
  payload : Rt
  diff : Wd
  pdiff : Wd
  just : Cp
  fin : Cp
  timely : Bool
deriving DecidableEq
def blP (b : Blk) : List (List Value) := [[.int .u64 (b.pj.e.n : Int)], rc b.pj.r, [.int .u64 (b.pf.e.n : Int)], rc b.pf.r, [.int .u64 (b.slot.n : Int)], rc b.root, rc b.parent, rc b.payload, wc b.diff, wc b.pdiff,
  [.int .u64 (b.just.e.n : Int)], rc b.just.r, [.int .u64 (b.fin.e.n : Int)], rc b.fin.r, [.bool b.timely]]
abbrev blL : List Nat := [1, 32, 1, 32, 1, 32, 32, 32, 4, 4, 1, 32, 1, 32, 1]
theorem blP_len (b : Blk) : (blP b).map List.length = blL := by simp [blP, rc_len, wc_len]
theorem bl_len (b : Blk) : (fl (blP b)).length = 238 := fl_len (blP_len b)
theorem one_i (k : IntKind) (n : Int) : One [Value.int k n] := One.v rfl
theorem one_b (b : Bool) : One [Value.bool b] := One.v rfl
theorem one_s (A : Option Addr) (n c : Nat) : One [Value.slice A n c] := One.v rfl
theorem bl_one (b : Blk) : One (fl (blP b)) := by
  unfold blP
  repeat (first | exact one_b _ | exact One.nil | refine One.cons (one_i _ _) ?_ | refine One.cons (rc_one _) ?_ | refine One.cons (wc_one _) ?_)
/-- a node -/
structure Nod where
  b : Blk
  up : Int
  st : Int
deriving DecidableEq
def noP (n : Nod) : List (List Value) := [[.int .u64 (n.b.pj.e.n : Int)], rc n.b.pj.r, [.int .u64 (n.b.pf.e.n : Int)], rc n.b.pf.r, [.int .u64 (n.b.slot.n : Int)], rc n.b.root, rc n.b.parent, rc n.b.payload, wc n.b.diff, wc n.b.pdiff,
  [.int .u64 (n.b.just.e.n : Int)], rc n.b.just.r, [.int .u64 (n.b.fin.e.n : Int)], rc n.b.fin.r, [.bool n.b.timely], [.int .i64 n.up], [.int .i64 n.st]]
abbrev noL : List Nat := [1, 32, 1, 32, 1, 32, 32, 32, 4, 4, 1, 32, 1, 32, 1, 1, 1]
theorem noP_len (n : Nod) : (noP n).map List.length = noL := by simp [noP, rc_len, wc_len]
theorem no_len (n : Nod) : (fl (noP n)).length = 240 := fl_len (noP_len n)
theorem noP_bl (n : Nod) : noP n = blP n.b ++ [[.int .i64 n.up], [.int .i64 n.st]] := rfl
theorem no_one (n : Nod) : One (fl (noP n)) := by
  unfold noP
  repeat (first | exact one_i _ _ | exact One.nil | refine One.cons (one_i _ _) ?_ | refine One.cons (rc_one _) ?_ | refine One.cons (wc_one _) ?_ | refine One.cons (one_b _) ?_)
/-- a vote -/
structure Vo where
  has : Bool
  e : U
  r : Rt
deriving DecidableEq
def voP (v : Vo) : List (List Value) := [[.bool v.has], [.int .u64 (v.e.n : Int)], rc v.r]
theorem voP_len (v : Vo) : (voP v).map List.length = [1, 1, 32] := by simp [voP, rc_len]
theorem vo_len (v : Vo) : (fl (voP v)).length = 34 := fl_len (voP_len v)
theorem vo_one (v : Vo) : One (fl (voP v)) := One.cons (one_b _) (One.cons (one_i _ _) (rc_one _))
/-- a slice -/
structure Sl where
  A : Option Addr
  n : Nat
  c : Nat
abbrev Sl.v (s : Sl) : Value := .slice s.A s.n s.c
/-- an attestation; its list lies as a slice -/
structure Att where
  slot : U
  r : Rt
  t : Cp
  l : List Int
deriving DecidableEq
def atP (a : Att) (s : Sl) : List (List Value) := [[.int .u64 (a.slot.n : Int)], rc a.r, [.int .u64 (a.t.e.n : Int)], rc a.t.r, [s.v]]
theorem atP_len (a : Att) (s : Sl) : (atP a s).map List.length = [1, 32, 1, 32, 1] := by simp [atP, rc_len]
theorem at_len (a : Att) (s : Sl) : (fl (atP a s)).length = 67 := fl_len (atP_len a s)
theorem at_one (a : Att) (s : Sl) : One (fl (atP a s)) := One.cons (one_i _ _) (One.cons (rc_one _) (One.cons (one_i _ _) (One.cons (rc_one _) (one_s _ _ _))))
/-- a request -/
structure Rq where
  tag : U
  block : Rt
  tries : Int
  due : U
deriving DecidableEq
def rqP (r : Rq) : List (List Value) := [[.int .u64 (r.tag.n : Int)], rc r.block, [.int .i64 r.tries], [.int .u64 (r.due.n : Int)]]
theorem rqP_len (r : Rq) : (rqP r).map List.length = [1, 32, 1, 1] := by simp [rqP, rc_len]
theorem rq_len (r : Rq) : (fl (rqP r)).length = 35 := fl_len (rqP_len r)
theorem rq_one (r : Rq) : One (fl (rqP r)) := One.cons (one_i _ _) (One.cons (rc_one _) (One.cons (one_i _ _) (one_i _ _)))
/-- a command -/
structure Cm where
  head : Rt
  safe : Rt
  fin : Rt
deriving DecidableEq
def cmP (c : Cm) : List (List Value) := [rc c.head, rc c.safe, rc c.fin]
theorem cmP_len (c : Cm) : (cmP c).map List.length = [32, 32, 32] := by simp [cmP, rc_len]
theorem cm_len (c : Cm) : (fl (cmP c)).length = 96 := fl_len (cmP_len c)
theorem cm_one (c : Cm) : One (fl (cmP c)) := One.cons (rc_one _) (One.cons (rc_one _) (rc_one _))
/-- a configuration; its balances as a slice -/
structure Cf where
  nl : Int
  ol : Int
  el : Int
  tl : Int
  rl : Int
  bo : U
  spe : U
  bp : U
  ttd : Wd
  gen : Rt
def cfP (c : Cf) (bal : Sl) : List (List Value) := [[.int .i64 c.nl], [.int .i64 c.ol], [.int .i64 c.el], [.int .i64 c.tl], [.int .i64 c.rl], [.int .u64 (c.bo.n : Int)], [.int .u64 (c.spe.n : Int)], [.int .u64 (c.bp.n : Int)], wc c.ttd, rc c.gen, [bal.v]]
abbrev cfL : List Nat := [1, 1, 1, 1, 1, 1, 1, 1, 4, 32, 1]
theorem cfP_len (c : Cf) (s : Sl) : (cfP c s).map List.length = cfL := by simp [cfP, rc_len, wc_len]
theorem cf_one (c : Cf) (s : Sl) : One (fl (cfP c s)) := by
  unfold cfP
  repeat (first | exact one_s _ _ _ | refine One.cons (one_i _ _) ?_ | refine One.cons (rc_one _) ?_ | refine One.cons (wc_one _) ?_)
/-- a store -/
structure Sto where
  c : Cf
  bal : List U
  lat : List Vo
  eqv : List Int
  just : Cp
  fin : Cp
  early : List Att
  orph : List Blk
  nodes : List Nod
  now : U
  boost : Rt
  tabs : List Tbl
/-- its slices -/
structure Sls where
  bal : Sl
  lat : Sl
  eqv : Sl
  early : Sl
  orph : Sl
  nodes : Sl
  tabs : Sl
def stP (s : Sto) (x : Sls) : List (List Value) := [[.int .i64 s.c.nl], [.int .i64 s.c.ol], [.int .i64 s.c.el], [.int .i64 s.c.tl], [.int .i64 s.c.rl], [.int .u64 (s.c.bo.n : Int)], [.int .u64 (s.c.spe.n : Int)], [.int .u64 (s.c.bp.n : Int)], wc s.c.ttd, rc s.c.gen, [x.bal.v],
  [x.lat.v], [x.eqv.v], [.int .u64 (s.just.e.n : Int)], rc s.just.r, [.int .u64 (s.fin.e.n : Int)], rc s.fin.r, [x.early.v], [x.orph.v], [x.nodes.v], [.int .u64 (s.now.n : Int)], rc s.boost, [x.tabs.v]]
abbrev stL : List Nat := [1, 1, 1, 1, 1, 1, 1, 1, 4, 32, 1, 1, 1, 1, 32, 1, 32, 1, 1, 1, 1, 32, 1]
theorem stP_len (s : Sto) (x : Sls) : (stP s x).map List.length = stL := by simp [stP, rc_len, wc_len]
theorem st_len (s : Sto) (x : Sls) : (fl (stP s x)).length = 150 := fl_len (stP_len s x)
theorem st_one (s : Sto) (x : Sls) : One (fl (stP s x)) := by
  unfold stP
  repeat (first | exact one_s _ _ _ | refine One.cons (one_i _ _) ?_ | refine One.cons (rc_one _) ?_ | refine One.cons (wc_one _) ?_ | refine One.cons (one_s _ _ _) ?_)
/-- a state -/
structure Zst where
  s : Sto
  reqs : List Rq
  rets : List Rq
  ntag : U
  sent : Bool
  last : Cm
  over : Bool
  halt : Bool
structure Zls where
  s : Sls
  reqs : Sl
  rets : Sl
def zsP (z : Zst) (x : Zls) : List (List Value) := stP z.s x.s ++ [[x.reqs.v], [x.rets.v], [.int .u64 (z.ntag.n : Int)], [.bool z.sent], rc z.last.head, rc z.last.safe, rc z.last.fin, [.bool z.over], [.bool z.halt]]
abbrev zsL : List Nat := [1, 1, 1, 1, 1, 1, 1, 1, 4, 32, 1, 1, 1, 1, 32, 1, 32, 1, 1, 1, 1, 32, 1, 1, 1, 1, 1, 32, 32, 32, 1, 1]
theorem zsP_len (z : Zst) (x : Zls) : (zsP z x).map List.length = zsL := by rw [zsP, List.map_append, stP_len]; simp [rc_len]
theorem zs_len (z : Zst) (x : Zls) : (fl (zsP z x)).length = 252 := fl_len (zsP_len z x)
theorem zs_one (z : Zst) (x : Zls) : One (fl (zsP z x)) := by
  unfold zsP stP
  simp only [List.cons_append, List.nil_append]
  repeat (first | exact one_b _ | exact one_s _ _ _ | refine One.cons (one_i _ _) ?_ | refine One.cons (rc_one _) ?_ | refine One.cons (wc_one _) ?_ | refine One.cons (one_s _ _ _) ?_ | refine One.cons (one_b _) ?_)
/-- parts that are themselves values -/
theorem cut_bl (b : Blk) : List.take 15 (blP b) = blP b := rfl
theorem cut_bl_pj (b : Blk) : List.take 2 (blP b) = cpP b.pj := rfl
theorem cut_bl_pf (b : Blk) : List.take 2 (List.drop 2 (blP b)) = cpP b.pf := rfl
theorem cut_bl_j (b : Blk) : List.take 2 (List.drop 10 (blP b)) = cpP b.just := rfl
theorem cut_bl_f (b : Blk) : List.take 2 (List.drop 12 (blP b)) = cpP b.fin := rfl
theorem cut_no (n : Nod) : List.take 17 (noP n) = noP n := rfl
theorem cut_no_b (n : Nod) : List.take 15 (noP n) = blP n.b := rfl
theorem cut_no_pj (n : Nod) : List.take 2 (noP n) = cpP n.b.pj := rfl
theorem cut_no_pf (n : Nod) : List.take 2 (List.drop 2 (noP n)) = cpP n.b.pf := rfl
theorem cut_no_j (n : Nod) : List.take 2 (List.drop 10 (noP n)) = cpP n.b.just := rfl
theorem cut_no_f (n : Nod) : List.take 2 (List.drop 12 (noP n)) = cpP n.b.fin := rfl
theorem cut_vo (v : Vo) : List.take 3 (voP v) = voP v := rfl
theorem cut_at (a : Att) (s : Sl) : List.take 5 (atP a s) = atP a s := rfl
theorem cut_at_t (a : Att) (s : Sl) : List.take 2 (List.drop 2 (atP a s)) = cpP a.t := rfl
theorem cut_rq (r : Rq) : List.take 4 (rqP r) = rqP r := rfl
theorem cut_cm (c : Cm) : List.take 3 (cmP c) = cmP c := rfl
theorem cut_cf (c : Cf) (s : Sl) : List.take 11 (cfP c s) = cfP c s := rfl
theorem cut_st (s : Sto) (x : Sls) : List.take 23 (stP s x) = stP s x := rfl
theorem cut_st_c (s : Sto) (x : Sls) : List.take 11 (stP s x) = cfP s.c x.bal := rfl
theorem cut_st_v (s : Sto) (x : Sls) : List.take 2 (List.drop 11 (stP s x)) = [[x.lat.v], [x.eqv.v]] := rfl
theorem cut_st_j (s : Sto) (x : Sls) : List.take 2 (List.drop 13 (stP s x)) = cpP s.just := rfl
theorem cut_st_f (s : Sto) (x : Sls) : List.take 2 (List.drop 15 (stP s x)) = cpP s.fin := rfl
theorem cut_zs (z : Zst) (x : Zls) : List.take 32 (zsP z x) = zsP z x := rfl
theorem cut_zs_s (z : Zst) (x : Zls) : List.take 23 (zsP z x) = stP z.s x.s := rfl
theorem cut_zs_c (z : Zst) (x : Zls) : List.take 11 (zsP z x) = cfP z.s.c x.s.bal := rfl
theorem cut_zs_j (z : Zst) (x : Zls) : List.take 2 (List.drop 13 (zsP z x)) = cpP z.s.just := rfl
theorem cut_zs_f (z : Zst) (x : Zls) : List.take 2 (List.drop 15 (zsP z x)) = cpP z.s.fin := rfl
theorem cut_zs_l (z : Zst) (x : Zls) : List.take 3 (List.drop 27 (zsP z x)) = cmP z.last := rfl
theorem rtBl : RowT Try.prog 125 238 := ⟨⟨_, Try.underlying125, rfl⟩, by kernel_rfl⟩
theorem rtNo : RowT Try.prog 127 240 := ⟨⟨_, Try.underlying127, rfl⟩, by kernel_rfl⟩
theorem rtTree : RowT Try.prog 72 1 := ⟨⟨_, Try.underlying72, rfl⟩, by kernel_rfl⟩
theorem rtVo : RowT Try.prog 170 34 := ⟨⟨_, Try.underlying170, rfl⟩, by kernel_rfl⟩
theorem rtVotes : RowT Try.prog 68 2 := ⟨⟨_, Try.underlying68, rfl⟩, by kernel_rfl⟩
theorem rtAt : RowT Try.prog 265 67 := ⟨⟨_, Try.underlying265, rfl⟩, by kernel_rfl⟩
theorem rtCf : RowT Try.prog 59 45 := ⟨⟨_, Try.underlying59, rfl⟩, by kernel_rfl⟩
theorem rtSt : RowT Try.prog 139 150 := ⟨⟨_, Try.underlying139, rfl⟩, by kernel_rfl⟩
theorem rtWd : RowT Try.prog 57 4 := ⟨⟨_, Try.underlying57, rfl⟩, by kernel_rfl⟩
theorem otBool : OneT Try.prog 4 := ⟨⟨_, Try.underlying4, rfl⟩, by kernel_rfl⟩
theorem otInts : OneT Try.prog 22 := ⟨⟨_, Try.underlying22, rfl⟩, by kernel_rfl⟩
theorem otNodes : OneT Try.prog 70 := ⟨⟨_, Try.underlying70, rfl⟩, by kernel_rfl⟩
theorem otTbs : OneT Try.prog 27 := ⟨⟨_, Try.underlying27, rfl⟩, by kernel_rfl⟩
theorem otVos : OneT Try.prog 66 := ⟨⟨_, Try.underlying66, rfl⟩, by kernel_rfl⟩
theorem otAts : OneT Try.prog 134 := ⟨⟨_, Try.underlying134, rfl⟩, by kernel_rfl⟩
theorem otBls : OneT Try.prog 135 := ⟨⟨_, Try.underlying135, rfl⟩, by kernel_rfl⟩
def b0 : Blk := ⟨cp0, cp0, u0, r0, r0, r0, w0, w0, cp0, cp0, false⟩
def sl0 : Sl := ⟨none, 0, 0⟩
def cf0 : Cf := ⟨0, 0, 0, 0, 0, u0, u0, u0, w0, r0⟩
def st0 : Sto := ⟨cf0, [], [], [], cp0, cp0, [], [], [], u0, r0, []⟩
def x0 : Sls := ⟨sl0, sl0, sl0, sl0, sl0, sl0, sl0⟩
def cm0 : Cm := ⟨r0, r0, r0⟩
def zs0 : Zst := ⟨st0, [], [], u0, false, cm0, false, false⟩
def zx0 : Zls := ⟨x0, sl0, sl0⟩
theorem ztBl : ZeroT Try.prog 125 (blP b0) blL := ⟨fun w => by kernel_rfl, blP_len _⟩
theorem ztNo : ZeroT Try.prog 127 (noP ⟨b0, 0, 0⟩) noL := ⟨fun w => by kernel_rfl, noP_len _⟩
theorem ztTree : ZeroT Try.prog 72 [[.slice none 0 0]] [1] := ⟨fun w => by kernel_rfl, rfl⟩
theorem ztSt : ZeroT Try.prog 139 (stP st0 x0) stL := ⟨fun w => by kernel_rfl, stP_len _ _⟩
end Go.Proofs.Ytekikfdlnkcenaa
