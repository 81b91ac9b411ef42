/- Parts Base, Mem, Sx, Sxd, Sxe, Bits, Div64, Div64b, Radix, Nat, NatB, Mulnat, MulnatB, MulnatC, MulnatD, Divnat, DivnatB, Shr, Long, joined. -/
import Derived.WalkKit
import Derived.WalkSpells
import Derived.Deep.Draws
import Derived.Lib.Hide
import Derived.Laws.CopyOwn
import Derived.Deep.QuietTactic
import Derived.BigQuiet
import Derived.Deep.RegionHeld3
import Derived.Deep.RegionWith
import Derived.Deep.DeepCutAuto
import Derived.Deep.DeepMust
import Derived.Deep.DeepFit
import Derived.Handy
import Derived.OwnWalk
import Derived.Maps.AppendAt
import Derived.Test.YtnpbbknemflpnaaGreatDoorShelf
import Derived.Shelf.Spec.BitsCarry
import Derived.Lib.ItoaNum
import Derived.Deep.CutBlock
import Derived.Test.YtnpbbknemflpnaaGreatDoorProg
import Derived.WalkMore

open Go.Act renaming put → k8
open Go renaming Addr → a8, BinOp → fW, Calls → aU, Ending → dL, Exit → cQ, IntKind → fV, Next → eC, Oper → aX, Operand → bW, Program → bT, ResultVar → nZ, TypeId → aQ, Value → aC, World → a6, bodyPost_ret → lM, run_underlying → gM
open Go.Addr renaming add → iS
open Array renaming getD_eq_getD_getElem? → lU, getElem?_eq_some_iff → lT, getElem?_replicate → wT, getElem?_setIfInBounds_ne → wS, replicate → mT
open Go.RowKit.Below renaming heap_setCell → E1
open BitVec renaming ofInt → mS
open Bool renaming and_eq_true → dI, or_eq_true → jZ
open Go.Builtin renaming append_ → lS, firstCells → E0, lenOf → sS
open Classical renaming choose → wR, choose_spec → DZ
open Go.Exit renaming inBlock → mR
open Go.Instr renaming loadAt → sR, storeAt → sQ
open Int renaming natCast_mul → gD, tdiv_eq_ediv_of_nonneg → sP, toNat_natCast → gC
open Go.IntKind renaming bits → oE, signed → oD, wrap → qC
open Go.Lib renaming hid → bD
open List renaming all_eq_true → dZ, any_eq_true → sO, cons_append → oC, contains_iff_mem → jB, countP_cons → sN, countP_le_length → wQ, drop_eq_getElem_cons → mP, drop_zero → iR, eq_nil_iff_forall_not_mem → sM, eq_nil_of_length_eq_zero → wP, filter_append → DY, getD_eq_getElem?_getD → bE, getElem?_drop → lR, getElem?_eq_getElem → bS, getElem?_eq_none → kV, getElem?_eq_some_iff → eJ, getElem?_map → gR, getElem?_take → iC, getElem_mem → jA, getElem_of_mem → sL, getLast_eq_getElem → DX, length_cons → cS, length_drop → fN, length_eq_zero_iff → kU, length_take → cV, map_drop → mO, map_take → j9, mem_append → eQ, mem_cons → i6, mem_of_mem_take → oB, mem_range → fU, range → eV, replicate → cB, replicate_succ → sJ, take_append_drop → kT
open Nat renaming add_assoc → lQ, add_mul → dM, add_mul_div_left → wO, add_mul_mod_self_left → wN, add_sub_cancel → oA, add_zero → dF, beq → kS, div_add_mod → kR, div_eq_of_lt → gB, div_le_self → f5, div_lt_iff_lt_mul → wM, div_lt_of_lt_mul → qB, div_lt_self → iB, eq_of_beq_eq_true → mN, eq_zero_or_pos → gQ, le_of_not_lt → o9, le_refl → aZ, le_trans → aN, lt_mul_div_succ → qA, lt_of_le_of_lt → jY, lt_of_lt_of_le → cU, lt_of_not_le → o8, lt_or_ge → fS, lt_trans → kQ, min_eq_left → fK, mod_add_div → kP, mod_eq_of_lt → eZ, mod_lt → fM, mul_add → cY, mul_add_div → mM, mul_add_mod → wL, mul_assoc → cI, mul_comm → cM, mul_div_mul_right → wK, mul_le_mul → i2, mul_le_mul_left → gP, mul_le_mul_right → eG, mul_lt_mul'' → q7, mul_lt_mul_of_pos_right → o6, mul_mod_mul_right → sH, mul_one → eI, mul_pos → gO, mul_right_comm → pZ, mul_succ → pY, mul_zero → fR, or_lt_two_pow → lP, pow_add → dQ, pow_le_pow_right → fJ, pow_lt_pow_iff_right → wJ, pow_pos → eT, pow_succ → dK, strongRecOn → o5, sub_add_cancel → iP, succ_le_of_lt → lO, succ_mul → gN, two_pow_pos → jX, zero_add → dY, zero_le → cE, zero_mul → mL
open Ne renaming symm → lN
open Go.Next renaming value → eP
open Go.Op renaming intArith → wI, intDiv → pX
open Go.Oper renaming upon → kO, wp → jW
open Option renaming getD_some → pW, map_some → sG
open Option.some renaming inj → i1, injEq → dR
open Or renaming inl → bY, inr → cA
open Go.Region renaming binds → fQ, ready → mK, wanted → o3
open Go.Result renaming andThen_ok → dE
open Go.Sem renaming run_bind → bQ, run_pure → eO
open Go.Proofs.Tryz renaming prog → aG
open Go.Value renaming int → bP, pointer → wH
open Go.World renaming setCell → pU
namespace Go.Proofs.YtnpbbknemflpnaaGreatDoor
set_option maxHeartbeats 4000000
set_option maxRecDepth 20000
abbrev a1(g:Nat)(o:Nat):Value:=.pointer (some ⟨g,o,none⟩)
abbrev a4(k:Int):Value:=.int .i64 k
abbrev a5(k:Int):Value:=.int .u64 k
abbrev a9(A:Option Addr)(n c:Nat):Value:=.slice A n c
abbrev gx:Value:=.bool true
abbrev ik:Value:=.bool false
theorem i3:True:=trivial
theorem E.{z}{α:Sort z}{a:α}:a=a:=rfl
abbrev G(s:Bool)(A:Option Addr)(n c:Nat):Value:=.agg #[.bool s,.slice A n c]
abbrev a0(s:Bool)(A:Option Addr)(n c:Nat)(t:Bool)(B:Option Addr)(m d:Nat):Value:=.agg #[.bool s,.slice A n c,.bool t,.slice B m d]
abbrev J(s:Bool)(A:Option Addr)(n c:Nat):List Value:=[.bool s,.slice A n c]
variable {A B dp sp:Option a8}{D K L N U0 V Y b base cap cap' cc d g hi i id j k lo2 m n n' q r r0 s u u0 u1 u2 un un0 un1 un10 v0 v1 x y yn0 yn1 yy z:Nat}{P:bT}{T:Type}{a:Act}{after:Array Edge}{args cs us vs:List aC}{c:Code}{ds fl js l l2 ql st xs ys zs:List Nat}{dss:List (List Nat)}{dst e:Option Tmp}{er:Int}{f:FuncId}{fn:Func}{gd guard:Option (Nat×Bool)}{listed:Array Bool}{lk:List (Nat × Nat × Nat)}{o:aX}{ol rest:List aX}{op:fW}{ops:Array aX}{p:a8}{ps:List (Nat×Nat)}{rl:List nZ}{t' ty:aQ}{ts:Array aQ}{v vx vy:aC}{w w' w0 w1 wt:a6}
section
def WB:Nat:=18446744073709551616
theorem eN:0<WB:=by decide
theorem cH:WB=18446744073709551616:=rfl
theorem DH:2≤WB:=by decide
def nv:List Nat→Nat
 | []=>0
 | x::r=>x+WB*nv r
def Wf (xs:List Nat):Prop:=∀x∈xs,x<WB
theorem l7 (x:Nat)(r:List Nat):nv (x::r)=x+WB*nv r:=rfl
theorem uH (xs ys:List Nat):nv (xs++ys)=nv xs+WB^xs.length*nv ys:=by
 induction xs with
 | nil=>simp [nv]
 | cons x r ih=>
  simp only [oC,nv,ih,cS,dK]
  rw [cY,←cI,cM WB (WB^r.length),lQ]
theorem gX (h:Wf xs):nv xs<WB^xs.length:=by
 induction xs with
 | nil=>simp [nv]
 | cons x r ih=>
  have hx:x<WB:=h x (by simp)
  have hr:=ih (fun y hy=>h y (by simp [hy]))
  simp only [nv,cS,dK]
  have:WB*nv r+WB≤WB*WB^r.length:=by
   have:=gP WB (lO hr)
   rw [pY] at this;exact this
  rw [cM (WB^r.length)]
  omega
theorem uF (n:Nat):nv (cB n 0)=0:=by
 induction n with
 | zero=>rfl
 | succ n ih=>simp [sJ,nv,ih]
theorem IR (xs:List Nat)(x:Nat):nv (xs++ [x])=nv xs+WB^xs.length*x:=by
 rw [uH];simp [nv]
def l3:Nat→Nat→List Nat
 | 0,_=> []
 | f+1,n=>if n=0 then [] else n%WB::l3 f (n/WB)
def wd (n:Nat):List Nat:=l3 n n
theorem xJ (f:Nat):∀(g n:Nat),n≤f→n≤g→l3 f n=l3 g n:=by
 induction f with
 | zero=>
  intro g n h _
  have:n=0:=by omega
  subst this
  cases g <;> simp [l3]
 | succ f ih=>
  intro g n h hg
  by_cases h0:n=0
  ·subst h0;cases g <;> simp [l3]
  ·cases g with
   | zero=>omega
   | succ g=>
    have hlt:n/WB<n:=iB (by omega) (by decide)
    simp only [l3,h0,if_false]
    rw [ih g (n/WB) (by omega) (by omega)]
theorem kY:wd 0= []:=rfl
theorem kZ (h:n≠0):wd n=n%WB::wd (n/WB):=by
 have e:n/WB<n:=iB (by omega) (by decide)
 unfold wd
 conv=>lhs;rw [xJ n (n+1) n (aZ _) (by omega)]
 simp only [l3,h,if_false]
 rw [xJ n (n/WB) (n/WB) (by omega) (aZ _)]
theorem tB {p:Nat→Prop}(h0:p 0)(hs:∀n,n≠0→p (n/WB)→p n)(n:Nat):p n:=by
 induction n using o5 with
 | ind n ih=>
  by_cases h:n=0
  ·subst h;exact h0
  ·exact hs n h (ih _ (iB (by omega) (by decide)))
theorem dS (n:Nat):nv (wd n)=n:=by
 induction n using tB with
 | h0=>rfl
 | hs n h ih=>rw [kZ h,l7,ih];exact kP n WB
theorem mE (n:Nat):Wf (wd n):=by
 induction n using tB with
 | h0=>intro x hx;cases hx
 | hs n h ih=>
  rw [kZ h]
  intro x hx
  cases i6.1 hx with
  | inl e=>subst e;exact fM _ eN
  | inr e=>exact ih x e
theorem EQ:wd n= []↔n=0:=by
 constructor
 ·intro h;rw [←dS n,h];rfl
 ·rintro rfl;rfl
theorem kE:(wd n).length=0↔n=0:=by
 rw [kU];exact EQ
theorem xI:∀{xs:List Nat},Wf xs→(∀h:xs≠ [],xs.getLast h≠0)→wd (nv xs)=xs
 | [],_,_=>rfl
 | [x],hw,ht=>by
  have hx:x<WB:=hw x (by simp)
  have h0:x≠0:=ht (by simp)
  simp only [nv,fR,dF]
  rw [kZ h0,eZ hx,gB hx,kY]
 | x::y::r,hw,ht=>by
  have hx:x<WB:=hw x (by simp)
  have ih:=xI (xs:=y::r) (fun z j=>hw z (by simp [j])) (fun h=>by have:=ht (by simp);simpa [List.getLast_cons] using this)
  have f:nv (y::r)≠0:=by
   intro e
   rw [e,kY] at ih
   cases ih
  have hn:nv (x::y::r)≠0:=by
   rw [l7]
   have:0<WB*nv (y::r):=gO eN (by omega)
   omega
  rw [kZ hn,l7,wN,eZ hx,wO _ _ eN,gB hx,dY,ih]
theorem EO (hw:Wf xs)(ht:xs.length=0∨xs.getD (xs.length-1) 0≠0):wd (nv xs)=xs:=by
 refine xI hw (fun h=>?_)
 have hl:xs.length≠0:=by simpa using h
 rcases ht with h' | h'
 ·exact absurd h' hl
 ·rw [DX]
  have:xs.length-1<xs.length:=by omega
  rwa [bE,bS this,pW] at h'
theorem mF (h:Wf xs)(k:Nat):Wf (xs.take k):=fun x e=>h x (oB e)
theorem wA (h:Wf xs)(k:Nat):Wf (xs.drop k):=fun x e=>h x (List.mem_of_mem_drop e)
theorem DG (h:Wf xs)(k:Wf ys):Wf (xs++ys):=fun x f=>by
 rcases eQ.1 f with e | e
 ·exact h x e
 ·exact k x e
theorem s7 (h:Wf xs)(i:Nat):xs.getD i 0<WB:=by
 by_cases hi:i<xs.length
 ·rw [bE,bS hi];exact h _ (jA hi)
 ·rw [bE,kV (by omega)];exact eN
theorem OY:Wf []:=fun x e=>by cases e
theorem lL (n:Nat):Wf (cB n 0):=fun x e=>by rw [(List.mem_replicate.1 e).2];exact eN
theorem DF (h:x<WB):Wf [x]:=fun y e=>by rw [List.mem_singleton.1 e];exact h
theorem fI (h:Wf xs)(i:Nat)(hx:x<WB):Wf (xs.set i x):=fun y f=>by
 rcases List.mem_or_eq_of_mem_set f with e | e
 ·exact h y e
 ·rw [e];exact hx
theorem xW {α:Type}(xs:List α)(k:Nat)(h:k<xs.length)(d:α):xs.take (k+1)=xs.take k++ [xs.getD k d]:=by
 rw [List.take_succ_eq_append_getElem h,bE,bS h];rfl
theorem dW (xs:List Nat)(k:Nat)(h:k<xs.length):nv (xs.take (k+1))=nv (xs.take k)+WB^k*xs.getD k 0:=by
 rw [xW xs k h 0,IR,cV,fK (by omega)]
theorem kC (xs:List Nat)(k:Nat)(h:k≤xs.length):nv xs=nv (xs.take k)+WB^k*nv (xs.drop k):=by
 have:=uH (xs.take k) (xs.drop k)
 rw [kT,cV,fK h] at this
 exact this
theorem nG (xs:List Nat)(k:Nat)(h:k<xs.length)(h0:xs.getD k 0=0):nv (xs.take (k+1))=nv (xs.take k):=by
 rw [dW xs k h,h0];simp
theorem iH (h:Wf xs)(k:Nat):nv (xs.take k)<WB^k:=by
 have h1:=gX (mF h k)
 have h2:WB^(xs.take k).length≤WB^k:=fJ eN (by rw [cV];omega)
 omega
theorem qJ (hw:Wf xs)(hk:k≤xs.length)(hv:nv (xs.take k)=nv xs)(ht:k=0∨xs.getD (k-1) 0≠0):wd (nv xs)=xs.take k:=by
 have hl:(xs.take k).length=k:=by rw [cV];omega
 rw [←hv]
 refine EO (mF hw k) ?_
 rw [hl]
 rcases ht with h | h
 ·exact bY h
 ·by_cases h0:k=0
  ·exact bY h0
  ·refine cA ?_
   rw [bE,iC,if_pos (by omega),←bE]
   exact h
theorem gI (h : n < WB ^ k): (wd n).length ≤ k := by
  induction k generalizing n with
  | zero => have : n = 0 := by simp at h; omega
            subst this; simp [kY]
  | succ k ih =>
    by_cases h0 : n = 0
    · subst h0; simp [kY]
    · rw [kZ h0, cS]
      have : n / WB < WB ^ k := by rw [wM eN]; rwa [← dK]
      have := ih this
      omega
theorem m9 (n:Nat):n<WB^(wd n).length:=by
 have:=gX (mE n)
 rwa [dS] at this
theorem yW (h:n≠0):WB^((wd n).length-1)≤n:=by
 refine o9 (fun f=>?_)
 have h1:=gI f
 have h2:(wd n).length≠0:=fun e=>h (kE.1 e)
 omega
theorem f7 (h:Wf xs):(wd (nv xs)).length≤xs.length:=gI (gX h)
theorem lB {a:Nat}(h:a≤b):(wd a).length≤(wd b).length:=gI (jY h (m9 b))
theorem JP (a b:Nat):(wd (a*b)).length≤(wd a).length+(wd b).length:=by
 refine gI ?_
 rw [dQ]
 by_cases e:a=0
 ·subst e;simp only [mL];exact gO (eT eN) (eT eN)
 ·exact q7 (m9 a) (m9 b)
theorem xG (h:x<WB)(h0:x≠0):wd x= [x]:=by
 rw [kZ h0,eZ h,gB h,kY]
theorem lV:∀{xs:List Nat}{m:Nat},Wf xs→m=(wd (nv xs)).length→wd (nv xs)=xs.take m
 | [],m,_,h=>by simp [nv,kY]
 | x::r,m,hw,h=>by
  have hx:x<WB:=hw x (by simp)
  by_cases h0:nv (x::r)=0
  ·rw [h0,kY] at h⊢
   subst h;rfl
  ·have e:nv (x::r)/WB=nv r:=by rw [l7,wO _ _ eN,gB hx,dY]
   have f:nv (x::r)%WB=x:=by rw [l7,wN,eZ hx]
   rw [kZ h0,e,f] at h⊢
   obtain⟨k,rfl⟩:∃k,m=k+1:=⟨m-1,by rw [h,cS];rfl⟩
   rw [cS] at h
   rw [List.take_succ_cons,←lV (fun y j=>hw y (by simp [j])) (by omega)]
def eF (a b:Nat):Int:=if a<b then-1 else if a=b then 0 else 1
theorem CR {a:Nat}(h:a<b):eF a b= -1:=by simp [eF,h]
theorem O5 (a:Nat):eF a a=0:=by simp [eF]
theorem CS {a:Nat}(h:b<a):eF a b=1:=by
 unfold eF;rw [if_neg (by omega),if_neg (by omega)]
theorem CT (a b:Nat): -1≤eF a b∧eF a b≤1:=by
 unfold eF;split
 ·omega
 ·split <;> omega
theorem rT {a:Nat}:eF a b<0↔a<b:=by
 unfold eF;split
 ·simp_all
 ·split <;> simp_all
theorem vL {a:Nat}:0<eF a b↔b<a:=by
 unfold eF;split
 ·simp_all;omega
 ·split <;> simp_all;omega
theorem AD {a:Nat}(h:(wd a).length<(wd b).length):a<b:=by
 refine o8 (fun e=>?_)
 have:=lB e
 omega
theorem zF (hx:Wf xs)(hkx:k<xs.length)(hky:k<ys.length)(h:xs.getD k 0<ys.getD k 0):nv (xs.take (k+1))<nv (ys.take (k+1)):=by
 rw [dW xs k hkx,dW ys k hky]
 have h1:=iH hx k
 have h2:WB^k*xs.getD k 0+WB^k≤WB^k*ys.getD k 0:=by
  have:=gP (WB^k) (lO h)
  rwa [pY] at this
 omega
theorem NY (hkx:k<xs.length)(hky:k<ys.length)(h:xs.getD k 0=ys.getD k 0):eF (nv (xs.take (k+1))) (nv (ys.take (k+1)))=eF (nv (xs.take k)) (nv (ys.take k)):=by
 rw [dW xs k hkx,dW ys k hky,h]
 unfold eF
 simp only [Nat.add_lt_add_iff_right,Nat.add_right_cancel_iff]
theorem nH (hw:Wf xs)(h:m=(wd (nv xs)).length):nv (xs.take m)=nv xs:=by
 rw [←lV hw h,dS]
theorem oV (x:Nat):nv [x]=x:=by simp [nv]
end
section
open Go.RowKit
abbrev bG (x:Nat):aC:= a5 (x:Int)
theorem HU {k:fV}{a b:Int}(h:a=b):Ending.returned (.int k a)= .returned (.int k b):=by rw [h]
theorem fC {k:fV}{a b:Int}(h:a=b:=by omega):bP k a=bP k b:=by rw [h]
theorem pI (a:a8)(n:Nat):(a.add n).block=a.block:=by unfold iS;split <;> rfl
theorem pL (a:a8)(i j:Nat):(a.add i).add j=a.add (i+j):=by
 unfold iS
 by_cases hi:i=0 <;> by_cases e:j=0 <;> simp [hi,e,lQ]
theorem g7 (g o i:Nat):(⟨g,o,none⟩:a8).add i=⟨g,o+i,none⟩:=by
 unfold iS;split <;> simp_all
structure Ext (w w':a6):Prop where
 below:Below w.heap.size w w'
theorem Ext.refl (w:a6):Ext w w:=⟨Below.refl _ _⟩
theorem Ext.trans {a b c:a6}(h:Ext a b)(k:Ext b c):Ext a c:=⟨h.below.trans (k.below.mono h.below.size)⟩
theorem Ext.t {a b c:a6}(h : Ext a b)(k : Ext b c): Ext a c := h.trans k
theorem aF {a:a6}: Ext a a := Ext.refl a
theorem Ext.size {a b:a6}(h:Ext a b):a.heap.size≤b.heap.size:=h.below.size
theorem Ext.alloc {a:a6}(h:Ext a w)(o:Obj):Ext a (w.alloc o):=⟨h.below.alloc h.below.size o⟩
theorem Ext.drew {a:a6}(h:Ext a w):Ext a w.drew:=⟨h.below.drew⟩
theorem Ext.drewN {a:a6}(h:Ext a w)(n:Nat):Ext a (w.drewN n):=⟨⟨h.below.os,h.below.tape,h.below.output,h.below.size,h.below.block⟩⟩
theorem Ext.setCell {a:a6}(h:Ext a w)(hp:a.heap.size≤p.block)(u:aC):Ext a (w.setCell p u):=⟨h.below.setCell hp u⟩
theorem Ext.grown {a:a6}{row:Option Nat}(h:Ext a w)(hg:w.grownBy w' row)(hr:∀k,row=some k→a.heap.size≤k):Ext a w':=⟨h.below.grown hg h.below.size hr⟩
theorem Ext.cell (h:Ext w w')(hc:w.cell? p=some v):w'.cell? p=some v:=
 (h.below.cell (World.block_lt_of_cell? w p hc)).trans hc
theorem Ext.heap (h:Ext w w'){o:Obj}(hc:w.heap[g]?=some o):w'.heap[g]?=some o:=
 (h.below.block g (lT.1 hc).1).trans hc
structure Upd (g:Nat)(w w':a6):Prop where
 by_:w.grownBy w' (some g)
theorem Upd.ext {a:a6}(h:Upd g w w')(e:Ext a w)(hg:a.heap.size≤g):Ext a w':=e.grown h.by_ (fun k f=>by cases f;exact hg)
theorem Upd.refl (g:Nat)(w:a6):Upd g w w:=⟨World.grownBy.refl _ _⟩
theorem Upd.trans {a b c:a6}(h:Upd g a b)(k:Upd g b c):Upd g a c:=
 ⟨⟨k.by_.os.trans h.by_.os,k.by_.tape.trans h.by_.tape,k.by_.output.trans h.by_.output,aN h.by_.size k.by_.size,
  fun i hi e=>(k.by_.block i (cU hi h.by_.size) e).trans (h.by_.block i hi e)⟩⟩
theorem Upd.setCell {a:a6}(h:Upd g a w)(i:Nat)(u:aC):Upd g a (w.setCell ⟨g,i,none⟩ u):=
 h.trans ⟨⟨rfl,rfl,rfl,by simp [pU],fun k _ f=>E1 _ _ _ _ (fun e=>f (by rw [e]))⟩⟩
theorem Upd.drew {a:a6}(h:Upd g a w):Upd g a w.drew:=⟨⟨h.by_.os,h.by_.tape,h.by_.output,h.by_.size,h.by_.block⟩⟩
theorem Upd.then_ext {a:a6}(h:Upd g a w)(e:Ext w w'):Upd g a w':=
 h.trans ⟨⟨e.below.os,e.below.tape,e.below.output,e.below.size,fun k f _=>e.below.block k f⟩⟩
theorem Upd.of_ext (e:Ext w w'):Upd g w w':=(Upd.refl g w).then_ext e
theorem Upd.heap (h:Upd g w w'){o:Obj}(hc:w.heap[k]?=some o)(hne:k≠g):w'.heap[k]?=some o:=
 (h.by_.block k (lT.1 hc).1 (fun e=>hne (i1 e))).trans hc
theorem Upd.size (h:Upd g w w'):w.heap.size≤w'.heap.size:=h.by_.size
theorem Upd.cell (h:Upd g w w')(hc:w.cell? p=some v)(hne:p.block≠g):w'.cell? p=some v:=
 h.by_.cell hc (fun e=>hne (i1 e))
structure Rv (w:a6)(s:Nat)(A:Option a8)(n cap:Nat)(vs:List aC):Prop where
 len:vs.length=n*s
 le:n≤cap
 max:cap≤maxLen
 get:∀i,i<n*s→∃a,A=some a∧w.cell? (a.add i)=some (vs.getD i undef)
 blk:∀a,A=some a→0<cap→a.block<w.heap.size
theorem Rv.ext (h:Rv w s A n cap vs)(e:Ext w w'):Rv w' s A n cap vs:=
 ⟨h.len,h.le,h.max,fun i hi=>by obtain⟨a,j,f⟩:=h.get i hi;exact⟨a,j,e.cell f⟩,fun a j f=>cU (h.blk a j f) e.size⟩
theorem Rv.upd (h:Rv w s A n cap vs)(e:Upd g w w')(hne:∀a,A=some a→a.block≠g):Rv w' s A n cap vs:=
 ⟨h.len,h.le,h.max,fun i hi=>by obtain⟨a,f,j⟩:=h.get i hi;exact⟨a,f,e.cell j (by rw [pI];exact hne a f)⟩,fun a f j=>cU (h.blk a f j) e.size⟩
theorem Rv.nil (w:a6)(s:Nat):Rv w s none 0 0 []:=⟨by simp,aZ _,by decide,fun i hi=>by omega,fun a e=>by cases e⟩
theorem Rv.cut (h:Rv w s A n cap vs){l:Nat}(hl:l≤k)(hk:k≤n)(hm:k≤m)(hc:m≤cap):Rv w s (if m=l then A else A.map (·.add (l*s))) (k-l) (m-l) ((vs.take (k*s)).drop (l*s)):=by
 have p:k*s≤n*s:=eG s hk
 have q:l*s≤k*s:=eG s hl
 refine⟨?_,by omega,aN (by omega) h.max,fun i hi=>?_,fun a f _=>?_⟩
 ·rw [fN,cV,h.len,Nat.sub_mul,fK p]
 ·rw [Nat.sub_mul] at hi
  obtain⟨a,f,j⟩:=h.get (l*s+i) (by omega)
  have o:¬m=l:=fun e=>by
   have:k=l:=by omega
   subst this;omega
  rw [if_neg o,f]
  refine⟨a.add (l*s),rfl,?_⟩
  rw [pL,j]
  congr 1
  simp only [bE,lR]
  rw [iC,if_pos (by omega)]
 ·split at f
  ·exact h.blk a f (by omega)
  ·cases A with
   | none=>cases f
   | some b=>simp only [sG,dR] at f;subst f;rw [pI];exact h.blk b rfl (by omega)
structure Rd (w:a6)(A:Option a8)(n cap:Nat)(xs:List Nat):Prop where
 rv:Rv w 1 A n cap (xs.map bG)
 wf:Wf xs
theorem Rd.ext (h:Rd w A n cap xs)(e:Ext w w'):Rd w' A n cap xs:=⟨h.rv.ext e,h.wf⟩
theorem Rd.upd (h:Rd w A n cap xs)(e:Upd g w w')(hne:∀a,A=some a→a.block≠g):Rd w' A n cap xs:=⟨h.rv.upd e hne,h.wf⟩
theorem Rd.len (h:Rd w A n cap xs):xs.length=n:=by simpa using h.rv.len
theorem Rd.nil (w:a6):Rd w none 0 0 []:=⟨Rv.nil w 1,OY⟩
theorem Rd.get (h:Rd w A n cap xs)(hi:i<n):∃a x,A=some a∧Hid (xs.getD i 0=x)∧x≤18446744073709551615∧w.cell? (a.add i)=some (a5 (x:Int)):=by
 obtain⟨a,j,f⟩:=h.rv.get i (by omega)
 have hl:i<xs.length:=by rw [h.len];exact hi
 have e:=s7 h.wf i
 refine⟨a,_,j,rfl,by rw [cH] at e;omega,?_⟩
 rw [f]
 simp [bE,gR,bS hl]
theorem Rd.cut (h:Rd w A n cap xs){l:Nat}(hl:l≤k)(hk:k≤n)(hm:k≤m)(hc:m≤cap):Rd w (if m=l then A else A.map (·.add l)) (k-l) (m-l) ((xs.take k).drop l):=by
 have:=h.rv.cut hl hk hm hc
 simp only [eI] at this
 refine⟨?_,wA (mF h.wf _) _⟩
 rw [mO,j9]
 exact this
theorem Rd.take (h:Rd w A n cap xs)(hk:k≤n)(hm:k≤m)(hc:m≤cap):Rd w A k m (xs.take k):=by
 have:=h.cut (l:=0) (cE _) hk hm hc
 simp only [Nat.sub_zero,iR] at this
 have e:(if m=0 then A else A.map (·.add 0))=A:=by
  have h0:∀a:a8,a.add 0=a:=fun a=>by simp [iS]
  split
  ·rfl
  ·cases A <;> simp [h0]
 rwa [e] at this
def Bk (w:a6)(g:Nat)(t:aQ)(vs:List aC):Prop:=w.heap[g]?=some (.cells vs.toArray t (0,0))
section
variable {w w':a6}{g:Nat}{t:aQ}{vs:List aC}
theorem Bk.lt (h:Bk w g t vs):g<w.heap.size:=(lT.1 h).1
theorem Bk.ext (h:Bk w g t vs)(e:Ext w w'):Bk w' g t vs:=e.heap h
theorem Bk.upd (h:Bk w g t vs)(e:Upd k w w')(hne:g≠k):Bk w' g t vs:=e.heap h hne
theorem Bk.cell (h:Bk w g t vs)(hi:i<vs.length):w.cell? ⟨g,i,none⟩=some (vs.getD i undef):=by
 rw [cell_of_row w g i _ t (0,0) h]
 simp [bE,bS hi]
theorem Bk.frozen (h:Bk w g t vs)(i:Nat):w.frozen? ⟨g,i,none⟩=false:=by
 unfold Bk at h
 simp [World.frozen?,h]
theorem Bk.new (w:a6)(t:aQ)(vs:List aC):Bk (w.alloc (.cells vs.toArray t)) w.heap.size t vs:=heap_alloc_new w _
theorem Bk.new' (w:a6)(t:aQ)(cs:Array aC):Bk (w.alloc (.cells cs t)) w.heap.size t cs.toList:=heap_alloc_new w _
theorem Bk.set (h:Bk w g t vs)(i:Nat)(u:aC):Bk (w.setCell ⟨g,i,none⟩ u) g t (vs.set i u):=by
 unfold Bk at h⊢
 simp [pU,Array.getElem?_modify,h]
theorem Bk.far (h:Bk w g t vs)(hp:g≠p.block)(u:aC):Bk (w.setCell p u) g t vs:=(E1 w p u g hp).trans h
theorem Bk.alloc (h:Bk w g t vs)(o:Obj):Bk (w.alloc o) g t vs:=h.ext ((Ext.refl w).alloc o)
theorem Bk.drew (h:Bk w g t vs):Bk w.drew g t vs:=h
theorem Bk.drewN (h:Bk w g t vs)(n:Nat):Bk (w.drewN n) g t vs:=h
theorem Bk.rv (h:Bk w g t vs){o:Nat}(hn:n≤cap)(hc:o+cap≤vs.length)(hm:cap≤maxLen):Rv w 1 (some ⟨g,o,none⟩) n cap ((vs.drop o).take n):=by
 refine⟨by rw [cV,fN];omega,hn,hm,fun i hi=>⟨_,rfl,?_⟩,fun a e _=>by cases e;exact h.lt⟩
 rw [g7,h.cell (by omega)]
 congr 1
 simp only [bE,iC,lR]
 rw [if_pos (by omega)]
theorem Bk.rd (h:Bk w g t (xs.map bG))(hw:Wf xs){o:Nat}(hn:n≤cap)(hc:o+cap≤xs.length)(hm:cap≤maxLen):Rd w (some ⟨g,o,none⟩) n cap ((xs.drop o).take n):=by
 refine⟨?_,mF (wA hw _) _⟩
 rw [j9,mO]
 exact h.rv hn (by simpa using hc) hm
end
theorem Bk.word {t:aQ}(h:Bk w g t (xs.map bG))(hw:Wf xs)(hi:i<xs.length):∃x,Hid (xs.getD i 0=x)∧x≤18446744073709551615∧w.cell? ⟨g,i,none⟩=some (a5 (x:Int)):=by
 have e:=s7 hw i
 refine⟨_,rfl,by rw [cH] at e;omega,?_⟩
 rw [h.cell (by simpa using hi)]
 simp [bE,gR,bS hi]
def Own (w:a6)(base:Nat)(t:aQ)(s:Nat)(A:Option a8)(n cap:Nat)(vs:List aC):Prop:=
 (A=none∧n=0∧cap=0∧vs= [])∨∃g cs,A=some ⟨g,0,none⟩∧base≤g∧Bk w g t cs∧n≤cap∧cap≤maxLen∧cs.length=cap*s∧cs.take (n*s)=vs
section
variable {w w':a6}{base:Nat}{t:aQ}{s:Nat}{A:Option a8}{n cap:Nat}{vs:List aC}
theorem Own.nil (w:a6)(base:Nat)(t:aQ)(s:Nat):Own w base t s none 0 0 []:=bY ⟨rfl,rfl,rfl,rfl⟩
theorem Own.mk_ (hb:base≤g)(h:Bk w g t cs)(hn:n≤cap)(hm:cap≤maxLen)(hl:cs.length=cap*s)(hv:cs.take (n*s)=vs):Own w base t s (some ⟨g,0,none⟩) n cap vs:=
 cA ⟨g,cs,rfl,hb,h,hn,hm,hl,hv⟩
theorem Own.ext (h:Own w base t s A n cap vs)(e:Ext w w'):Own w' base t s A n cap vs:=by
 rcases h with h | ⟨g,cs,j,hb,f,r⟩
 ·exact bY h
 ·exact cA ⟨g,cs,j,hb,f.ext e,r⟩
theorem Own.upd (h:Own w base t s A n cap vs)(e:Upd k w w')(hne:∀a,A=some a→a.block≠k):Own w' base t s A n cap vs:=by
 rcases h with h | ⟨g,cs,f,hb,j,r⟩
 ·exact bY h
 ·exact cA ⟨g,cs,f,hb,j.upd e (hne _ f),r⟩
theorem Own.mono {base':Nat}(h:Own w base t s A n cap vs)(hb:base'≤base):Own w base' t s A n cap vs:=by
 rcases h with h | ⟨g,cs,e,_,r⟩
 ·exact bY h
 ·exact cA ⟨g,cs,e,by omega,r⟩
theorem Own.rv (h:Own w base t s A n cap vs):Rv w s A n cap vs:=by
 rcases h with⟨rfl,rfl,rfl,rfl⟩ | ⟨g,cs,rfl,hb,e,hn,f,hl,rfl⟩
 ·exact Rv.nil w s
 ·have o:n*s≤cap*s:=eG s hn
  refine⟨by rw [cV];omega,hn,f,fun i hi=>⟨_,rfl,?_⟩,fun a j _=>by cases j;exact e.lt⟩
  rw [g7,dY,e.cell (by omega)]
  congr 1
  simp only [bE,iC]
  rw [if_pos hi]
theorem Own.rd (h:Own w base t 1 A n cap (xs.map bG))(hw:Wf xs):Rd w A n cap xs:=⟨h.rv,hw⟩
theorem Own.block (h:Own w base t s A n cap vs):∀a,A=some a→base≤a.block∧a.block<w.heap.size:=by
 intro a e
 rcases h with h | ⟨g,cs,j,hb,f,_⟩
 ·rw [h.1] at e;cases e
 ·rw [j] at e;cases e;exact⟨hb,f.lt⟩
end
theorem eX:maxLen=9223372036854775807:=rfl
theorem eS (xs:List Nat)(i x:Nat):(xs.map bG).set i (a5 (x:Int))=(xs.set i x).map bG:=by rw [List.map_set]
def zc (z:aC)(n:Nat):Array aC:=(cB n z).toArray
theorem sX (z:aC)(n:Nat):(zc z n).toList=cB n z:=rfl
theorem m5 {t e:aQ}{z:aC}{bytes:Nat}(ht:P.underlying t=some (.slice e))(hinfo:(P.info? e).map (fun i=>(i.zero,i.size,i.bytes))=some (some z,1,bytes))(hz:z.cells= #[z])(hby:bytes≤64)(l:Int)(h0:0≤l)(h1:l≤1099511627776)(w:a6):(Instr.makeSlice t (a4 l) (a4 l)).run P w= .ok (a9 (some ⟨w.heap.size,0,none⟩) l.toNat l.toNat) (w.alloc (.cells (zc z l.toNat) e)):=by
 obtain⟨i,hi,j,o,f⟩:=info_parts hinfo
 have h:=run_make (P:=P) w t e i z ht hi j .i64 .i64 l l h0 (Int.le_refl _) (by rw [f];have:(bytes:Int)*l≤64*1099511627776:=Int.mul_le_mul (by omega) h1 h0 (by omega);omega) (by omega)
 rw [h,o,eI,hz]
 congr 3
 apply Array.ext'
 rw [toList_madeCells_one,sX]
theorem Upd.setRow {a:a6}(h:Upd g a w)(cs:Array aC):Upd g a (w.setRow g cs):=
 h.trans ⟨⟨rfl,rfl,rfl,by simp [World.setRow],fun k _ f=>setRow_other w g k cs (fun e=>f (by rw [e]))⟩⟩
theorem cP {Q:cQ→Act→a6→Prop}(d:Option Tmp){op:Op}{type:aQ}{pos:String}(h:wpList P ops Q (⟨d,op,type,pos,after,guard⟩::rest) a w):wpList P ops Q (⟨d,op,type,pos,after,guard⟩::rest) a w:=h
theorem sY {Q:cQ→Act→a6→Prop}(hgd:o.guard=none)(d s:bW)(dT sT:aQ)(ho:o.op= .call {callee:= .builtin .copy,args:= #[d,s],argTypes:= #[dT,sT]}){dLen dCap sLen sCap:Nat}(hd:a.eval d= a9 dp dLen dCap)(hs:a.eval s= a9 sp sLen sCap){elem:aQ}(hu:P.underlying dT=some (.slice elem))(hsz:(P.info? elem).map (·.size)=some 1){off:Nat}{t:aQ}(hg:Bk w g t vs)(hsrc:Rv w 1 sp sLen sCap us)(hpos:0<dLen→dp=some ⟨g,off,none⟩)(hfit:off+dLen≤vs.length)(h1:∀v∈us,v.oneCell'=true)(h:∀w',Bk w' g t (splice vs off (us.take dLen))→Upd g w w'→wpList P ops Q rest (a.put o.dst (goInt (min sLen dLen:Nat))) w'):wpList P ops Q (o::rest) a w:=by
 have f:us.length=sLen:=by simpa using hsrc.len
 have hl:(us.take dLen).length=Nat.min sLen dLen:=by rw [cV,f,Nat.min_comm]
 by_cases h0:Nat.min sLen dLen=0
 ·refine wpList_copy_nothing hgd d s dT sT ho elem hu hsz dp sp dLen dCap sLen sCap hd hs h0 ?_
  have e:us.take dLen= []:=wP (by omega)
  have:=h w (by rw [e];simpa [splice] using hg) (Upd.refl g w)
  rwa [show (min sLen dLen:Nat)=0 from h0] at this
 ·have h0':¬min sLen dLen=0:=h0
  have q:0<dLen:=by omega
  obtain⟨ad,rfl,_⟩:=hsrc.get 0 (by omega)
  obtain rfl:=hpos q
  refine wpList_copy_own hgd d s dT sT ho elem hu hsz g off dLen dCap ad sLen sCap hd hs vs.toArray t hg (us.take dLen) hl ?_ ?_ (fun v p=>h1 v (oB p)) ?_
  ·intro j v p
   have r:j<(us.take dLen).length:=(eJ.1 p).1
   have hj':j<min sLen dLen:=by rw [hl] at r;exact r
   obtain⟨a',ha',D⟩:=hsrc.get j (by omega)
   cases ha'
   rw [D,←p,iC,if_pos (by omega),bE,bS (by omega)]
   rfl
  ·simp only [List.size_toArray]
   have:(us.take dLen).length≤dLen:=by rw [cV];omega
   omega
  ·have h':=h
   rw [show min sLen dLen=(us.take dLen).length from hl.symm] at h'
   refine h' _ ?_ ((Upd.refl g w).setRow _)
   show _=_
   simpa [splice] using setRow_heap w g _ _ t _ hg
structure UpdO (A:Option a8)(w w':a6):Prop where
 by_:w.grownBy w' (A.map (·.block))
theorem UpdO.ext {a:a6}(h:UpdO A w w')(e:Ext a w)(hA:∀p,A=some p→a.heap.size≤p.block):Ext a w':=
 e.grown h.by_ (fun k f=>by cases A with | none=>cases f | some p=>cases f;exact hA p E)
theorem UpdO.heap (h:UpdO A w w'){o:Obj}(hc:w.heap[k]?=some o)(hne:∀p,A=some p→p.block≠k):w'.heap[k]?=some o:=
 (h.by_.block k (lT.1 hc).1 (fun e=>by cases A with | none=>cases e | some p=>cases e;exact hne p E E)).trans hc
theorem UpdO.size (h:UpdO A w w'):w.heap.size≤w'.heap.size:=h.by_.size
theorem Bk.updO {t:aQ}(h:Bk w g t vs)(e:UpdO A w w')(hne:∀p,A=some p→p.block≠g):Bk w' g t vs:=e.heap h hne
theorem Own.updO {t:aQ}(h:Own w base t s B n cap vs)(e:UpdO A w w')(hne:∀p q,A=some p→B=some q→p.block≠q.block):Own w' base t s B n cap vs:=by
 rcases h with h | ⟨g,cs,f,hb,o,r⟩
 ·exact bY h
 ·exact cA ⟨g,cs,f,hb,o.updO e (fun p j=>hne p _ j f),r⟩
theorem Rv.updO (h:Rv w s B n cap vs)(e:UpdO A w w')(hne:∀p q,A=some p→B=some q→p.block≠q.block):Rv w' s B n cap vs:=
 ⟨h.len,h.le,h.max,fun i hi=>by
  obtain⟨a,f,j⟩:=h.get i hi
  refine⟨a,f,e.by_.cell j (fun e'=>?_)⟩
  rw [pI] at e'
  cases A with
  | none=>cases e'
  | some p=>exact hne p a rfl f (i1 e').symm,fun a f j=>cU (h.blk a f j) e.size⟩
theorem Own.row {t:aQ}(h:Own w base t s A n cap vs):w.ownsRow base t s (a9 A n cap) n vs:=by
 rcases h with⟨rfl,rfl,rfl,rfl⟩ | ⟨g,cs,rfl,hb,f,hn,e,hl,rfl⟩
 ·exact⟨by simp,bY ⟨rfl,rfl⟩⟩
 ·have j:n*s≤cap*s:=eG s hn
  exact⟨by rw [cV];omega,cA ⟨g,cap,cs.toArray,rfl,hb,f,hn,e,by simpa using hl,by simp⟩⟩
theorem Own.of_row {t:aQ}(h:w.ownsRow base t s v n vs):∃A cap,v= a9 A n cap∧Own w base t s A n cap vs:=by
 obtain⟨hl,h⟩:=h
 rcases h with⟨rfl,rfl⟩ | ⟨g,cap,cur,rfl,hb,f,hn,e,j,ht⟩
 ·exact⟨none,0,rfl,bY ⟨rfl,rfl,rfl,wP (by simpa using hl)⟩⟩
 ·exact⟨_,_,rfl,cA ⟨g,cur.toList,rfl,hb,by unfold Bk;simpa using f,hn,e,by simpa using j,ht⟩⟩
theorem zA (A:Option a8)(n cap:Nat):(Value.slice A n cap).ownBlock=A.map (·.block):=by cases A <;> rfl
theorem H9 (w:a6)(base:Nat)(t ty e:aQ)(i:TypeInfo)(size:Nat)(ht:P.underlying t=some (.slice e))(hi:P.info? e=some i)(v:aC)(n:Nat)(xs:List aC)(hown:w.ownsRow base e size v n xs)(c:Nat):(lS #[t,t] ty #[v,a9 none 0 c]).run P w= .ok v w:=by
 rcases hown.2 with⟨rfl,rfl⟩ | ⟨g,cap,cur,rfl,_,_,f,_⟩
 ·simp [lS,gM ht,sizeOf,typeInfo,hi,sS,E0]
 ·simp [lS,gM ht,sizeOf,typeInfo,hi,sS,E0,f,storeCells]
theorem Rv.one (w:a6)(t:aQ)(v:aC):Rv (w.alloc (.cells #[v] t)) 1 (some ⟨w.heap.size,0,none⟩) 1 1 [v]:=by
 have h:=Bk.new w t [v]
 exact h.rv (o:=0) (n:=1) (cap:=1) (aZ _) (by simp) (by rw [eX];omega)
theorem s8 (xs:List Nat):∀v∈xs.map bG,v.oneCell'=true:=by
 intro v e
 obtain⟨x,_,rfl⟩:=List.mem_map.1 e
 rfl
theorem tM (xs ys:List Nat)(o:Nat):splice (xs.map bG) o (ys.map bG)=(splice xs o ys).map bG:=by
 simp [splice,j9,mO]
theorem FT {α:Type}(xs ys:List α)(h:ys.length=xs.length):splice xs 0 ys=ys:=by
 simp [splice,h]
theorem m7 (n:Nat):cB n (bP .u64 0)=(cB n 0).map bG:=by rw [List.map_replicate];rfl
abbrev Fr:=List (Nat×aC)
def look:Fr→Nat→Option aC
 | [],_=>none
 | (j,v)::l,i=>bif kS j i then some v else look l i
structure Rp (n:Nat)(l:Fr)(a:Act):Prop where
 size:a.tmps.size=n
 nod:a.defers= []
 val:∀i v,look l i=some v→a.tmps.getD i undef=v
def bK (l:Fr):bW→Option aC
 | .tmp i=>look l i
 | .const v=>some v
 | .global g=>some (.pointer (some ⟨g,0,none⟩))
 | .func f=>some (.func (.func f) #[] #[])
def rho (l:Fr)(x:bW):aC:=(bK l x).getD undef
theorem Rp.ev {l:Fr}(h:Rp n l a){x:bW}(hx:bK l x=some v):a.eval x=v:=by
 cases x with
 | tmp i=>exact h.val i v hx
 | const u=>exact i1 hx
 | global g=>exact i1 hx
 | func f=>exact i1 hx
theorem Rp.rho {l:Fr}(h:Rp n l a){x:bW}(hx:(bK l x).isSome=true):a.eval x=rho l x:=by
 obtain⟨v,e⟩:=Option.isSome_iff_exists.1 hx
 rw [h.ev e,Go.Proofs.YtnpbbknemflpnaaGreatDoor.rho,e];rfl
theorem Rp.put {l:Fr}(h:Rp n l a)(hd:d<n)(v:aC):Rp n ((d,v)::l) (a.put (some d) v):=by
 refine⟨by simp [k8,h.size],by simp [k8,h.nod],fun i u hi=>?_⟩
 simp only [look] at hi
 have f:d<a.tmps.size:=by rw [h.size];exact hd
 by_cases e:d=i
 ·subst e
  rw [Nat.beq_refl] at hi
  cases hi
  simp [k8,f]
 ·have hb:kS d i=false:=by
   cases hh:kS d i with
   | false=>rfl
   | true=>exact absurd (mN hh) e
  rw [hb] at hi
  have:=h.val i u hi
  simp only [k8,lU] at this⊢
  rwa [wS e]
def Keeps (l:Fr):Fr→Prop
 | []=>True
 | (i,v)::r=>look l i=some v∧Keeps l r
theorem Keeps.look {l:Fr}:∀{l':Fr},Keeps l l'→∀i v,look l' i=some v→look l i=some v
 | [],_,i,v,h=>by cases h
 | (j,u)::r,hk,i,v,h=>by
  simp only [Go.Proofs.YtnpbbknemflpnaaGreatDoor.look] at h
  cases hb:kS j i with
  | true=>
   rw [hb] at h
   have e:=mN hb
   subst e
   cases h
   exact hk.1
  | false=>
   rw [hb] at h
   exact hk.2.look i v h
theorem Rp.keep {l l':Fr}(h:Rp n l a)(hk:Keeps l l'):Rp n l' a:=⟨h.size,h.nod,fun i v hi=>h.val i v (hk.look i v hi)⟩
section
variable {P:bT}{Q:cQ→Act→a6→Prop}{n:Nat}{l:Fr}{w:a6}
def cw (P:bT)(Q:cQ→Act→a6→Prop)(n:Nat)(c:Code)(l:Fr)(w:a6):Prop:=∀a,Rp n l a→c.wp P Q a w
def wl (P:bT)(ops:Array aX)(Q:cQ→Act→a6→Prop)(n:Nat)(rest:List aX)(l:Fr)(w:a6):Prop:=∀a,Rp n l a→wpList P ops Q rest a w
def eo (Q:cQ→Act→a6→Prop)(e:cQ)(n:Nat)(l:Fr)(w:a6):Prop:=∀a,Rp n l a→Q e a w
theorem bH (l':Fr)(hk:Keeps l l')(h:cw P Q n c l' w):cw P Q n c l w:=fun a e=>h a (e.keep hk)
theorem rO {e:cQ}(l':Fr)(hk:Keeps l l')(h:eo Q e n l' w):eo Q e n l w:=fun a f=>h a (f.keep hk)
theorem aD {x y:Code}(h:cw P (Exit.then (fun a w=>y.wp P Q a w) Q) n x l w):cw P Q n (.seq x y) l w:=fun a e=>wp_seq (h a e)
theorem aE (h:wl P ol.toArray Q n ol l w):cw P Q n (.region id ol.toArray false) l w:=fun a e=>wp_region_lit (h a e)
theorem bA (h:eo Q .normal n l w):wl P ops Q n [] l w:=fun a e=>wpList_nil (h a e)
theorem aJ {y:Code}(h:cw P Q n y l w):eo (Exit.then (fun a w=>y.wp P Q a w) Q) .normal n l w:=h
theorem aY (h:eo Q .normal n l w):cw P Q n .skip l w:=fun a e=>wp_skip (h a e)
theorem dA (h:eo Q (.exit i) n l w):cw P Q n (.exit i) l w:=fun a e=>wp_exit (h a e)
theorem aW (h:eo Q .ret n l w):cw P Q n .ret l w:=fun a e=>wp_ret (h a e)
theorem bI (h:cw P (mR i Q) n c l w):cw P Q n (.block i c) l w:=fun a e=>wp_block (h a e)
theorem b8 {c:bW}{x y:Code}(hc:bK l c=some (gx))(h:cw P Q n x l w):cw P Q n (.cond c x y) l w:=fun a e=>wp_cond_true (e.ev hc) (h a e)
theorem aI {c:bW}{x y:Code}(hc:bK l c=some (ik))(h:cw P Q n y l w):cw P Q n (.cond c x y) l w:=fun a e=>wp_cond_false (e.ev hc) (h a e)
theorem d8 (h:eo Q .normal n l w):eo (mR i Q) (.exit i) n l w:=fun a e=>by simp only [mR,if_true];exact h a e
theorem vA (h:eo Q (.exit j) n l w)(hne:j≠i:=by decide):eo (mR i Q) (.exit j) n l w:=fun a e=>by simp only [mR,if_neg hne];exact h a e
theorem bZ (h:eo Q .ret n l w):eo (mR i Q) .ret n l w:=h
theorem bU (h:eo Q .normal n l w):eo (mR i Q) .normal n l w:=h
def sA {T:Type}(n:Nat)(F:T→Fr)(W:T→a6)(H:T→Prop)(m:T→Nat)(k:Nat)(Q:cQ→Act→a6→Prop):cQ→Act→a6→Prop
 | .normal,a,w=>∃t,H t∧m t<k∧W t=w∧Rp n (F t) a
 | e,a,w=>Q e a w
theorem cW {F:T→Fr}{W:T→a6}{H:T→Prop}{m:T→Nat}(t:T)(hH:H t)(hm:m t<k)(hW:W t=w)(hk:Keeps l (F t)):eo (sA n F W H m k Q) .normal n l w:=fun _ e=>⟨t,hH,hm,hW,e.keep hk⟩
theorem dJ (F:T→Fr)(W:T→a6)(H:T→Prop)(m:T→Nat)(t0:T)(h0:H t0)(hW:W t0=w)(hk:Keeps l (F t0))(round:∀t,H t→cw P (sA n F W H m (m t) Q) n c (F t) (W t)):cw P Q n (.loop c) l w:=by
 classical
 intro a ha
 let S:Act→a6→Nat→Prop:=fun a w k=>∃t,H t∧m t=k∧W t=w∧Rp n (F t) a
 let I:Act→a6→Prop:=fun a w=>∃k,S a w k
 have hmin:∀a w,I a w→∃k,S a w k∧∀j,S a w j→k≤j:=by
  intro a w ⟨k,hk⟩
  induction k using o5 with
  | ind k ih=>
   by_cases hs:∃j,S a w j∧j<k
   ·obtain⟨j,hj,hlt⟩:=hs
    exact ih j hlt hj
   ·exact⟨k,hk,fun j hj=>o9 fun hlt=>hs ⟨j,hj,hlt⟩⟩
 let μ:Act→a6→Nat:=fun a w=>if h:I a w then wR (hmin a w h) else 0
 refine wp_loop I μ ⟨m t0,t0,h0,rfl,hW,ha.keep hk⟩ ?_
 intro a w hI
 have hμ:μ a w=wR (hmin a w hI):=dif_pos hI
 obtain⟨hS,hle⟩:=DZ (hmin a w hI)
 rw [←hμ] at hS hle
 obtain⟨t,hH,hm,rfl,hr⟩:=hS
 refine Code.wp_mono ?_ (round t hH a hr)
 intro e a' w' h
 cases e with
 | normal=>
  obtain⟨t',hH',hm',hW',hr'⟩:=h
  have hI':I a' w':=⟨m t',t',hH',rfl,hW',hr'⟩
  refine⟨hI',?_⟩
  have hμ':μ a' w'=wR (hmin a' w' hI'):=dif_pos hI'
  have:=(DZ (hmin a' w' hI')).2 (m t') ⟨t',hH',rfl,hW',hr'⟩
  omega
 | _=>exact h
theorem bO {K:Act→a6→Prop}(h:eo Q .ret n l w):eo (Exit.then K Q) .ret n l w:=h
theorem d7 {K:Act→a6→Prop}(h:eo Q (.exit i) n l w):eo (Exit.then K Q) (.exit i) n l w:=h
theorem pE {F:T→Fr}{W:T→a6}{H:T→Prop}{m:T→Nat}(h:eo Q .ret n l w):eo (sA n F W H m k Q) .ret n l w:=h
theorem dG {F:T→Fr}{W:T→a6}{H:T→Prop}{m:T→Nat}(h:eo Q (.exit i) n l w):eo (sA n F W H m k Q) (.exit i) n l w:=h
theorem d9 (l':Fr)(w':a6)(hw:w=w')(hk:Keeps l l')(h:cw P Q n c l' w'):cw P Q n c l w:=by subst hw;exact bH l' hk h
def rX:List aC→Nat→Fr
 | [],_=> []
 | v::r,i=>(i,v)::rX r (i+1)
theorem AG:∀(args:List aC) (k i:Nat) (v:aC),look (rX args k) i=some v→k≤i∧args[i-k]?=some v
 | [],k,i,v,h=>by cases h
 | u::r,k,i,v,h=>by
  simp only [rX,look] at h
  cases hb:kS k i with
  | true=>
   rw [hb] at h
   have e:=mN hb
   subst e
   cases h
   simp
  | false=>
   rw [hb] at h
   obtain⟨h1,h2⟩:=AG r (k+1) i v h
   refine⟨by omega,?_⟩
   have:i-k=(i-(k+1))+1:=by omega
   rw [this];simpa using h2
theorem bJ {R:dL→a6→Prop}(hf:P.funcs[f]?=some fn)(hb:fn.body=some c)(hn:fn.ntmps=n)(hle:args.length≤n)(h:cw P (bodyPost P fn R) n c (rX args 0) w):aU P f args.toArray w R:=by
 refine calls_of_wp hf hb (h _ ⟨?_,rfl,fun i v hi=>?_⟩)
 ·simp [hn];omega
 ·obtain⟨_,h2⟩:=AG args 0 i v hi
  rw [Nat.sub_zero] at h2
  have e:i<args.length:=(eJ.1 h2).1
  simp only [lU]
  rw [Array.getElem?_append_left (by simpa using e)]
  simp [h2]
def nC (P:bT)(w:a6)(l:Fr):List nZ→List aC→Prop
 | [],[]=>True
 | .tmp t::r,v::vs=>look l t=some v∧nC P w l r vs
 | .cell s t::r,v::vs=>(∃a,look l s=some (.pointer (some a))∧(loadVar t a).run P w= .ok v w)∧nC P w l r vs
 | _,_=>False
def m6 (tmps:Array aC):nZ→Sem aC
 | .tmp t=>pure (tmps.getD t undef)
 | .cell s t=>do loadVar t (←asAddr (tmps.getD s undef))
theorem tS {a:Act}(ha:Rp n l a):∀(rl:List nZ) (vs:List aC),nC P w l rl vs→(rl.mapM (m6 a.tmps)).run P w= .ok vs w
 | [],[],_=>rfl
 | [],_::_,h=>by cases h
 | .tmp _::_,[],h=>by cases h
 | .cell _ _::_,[],h=>by cases h
 | .tmp t::rl,v::vs,h=>by
  obtain⟨h1,h2⟩:=h
  have f:(m6 a.tmps (.tmp t)).run P w= .ok v w:=by
   show (Sem.pure (a.tmps.getD t undef)).run P w=_
   rw [ha.val t v h1];rfl
  rw [List.mapM_cons]
  simp only [bQ,f,dE,tS ha rl vs h2,eO]
 | .cell s t::rl,v::vs,h=>by
  obtain⟨⟨p,h1,j⟩,h2⟩:=h
  have f:(m6 a.tmps (.cell s t)).run P w= .ok v w:=by
   have e:(do loadVar t (←asAddr (a.tmps.getD s undef)):Sem aC).run P w= .ok v w:=by
    rw [ha.val s _ h1];simpa [asAddr] using j
   exact e
  rw [List.mapM_cons]
  simp only [bQ,f,dE,tS ha rl vs h2,eO]
def u6:List aC→aC
 | [v]=>v
 | vs=> .tuple vs.toArray
theorem yI (hr:fn.results=rl.toArray)(ha:Rp n l a)(h:nC P w l rl vs):(results fn a.tmps).run P w= .ok (u6 vs) w:=by
 have h1:=tS ha rl vs h
 have e:results fn a.tmps=(do let vs←fn.results.mapM (m6 a.tmps);pure (if h:vs.size=1 then vs[0] else .tuple vs)):=rfl
 have j:(fn.results.mapM (m6 a.tmps)).run P w= .ok vs.toArray w:=by
  rw [hr,List.mapM_toArray]
  have f:(List.toArray<$>rl.mapM (m6 a.tmps):Sem (Array aC))=(rl.mapM (m6 a.tmps)>>=fun x=>pure x.toArray):=by rw [bind_pure_comp]
  rw [f]
  simp only [bQ,h1,dE,eO]
 rw [e]
 simp only [bQ,j,dE,eO]
 match vs with
 | []=>rfl
 | [v]=>rfl
 | u::v::r=>rfl
theorem aV {R:dL→a6→Prop}(vs:List aC)(hr:fn.results=rl.toArray)(h:nC P w l rl vs)(hR:R (.returned (u6 vs)) w):eo (bodyPost P fn R) .ret n l w:=
 fun _ e=>lM (yI hr e h) e.nod hR
theorem jN {R:dL→a6→Prop}(vs:List aC)(hr:fn.results=rl.toArray)(h:nC P w l rl vs)(hR:R (.returned (u6 vs)) w):eo (bodyPost P fn R) .normal n l w:=
 fun _ e=>bodyPost_end (yI hr e h) e.nod hR
section ops
variable {ops:Array aX}{rest:List aX}{d:Nat}{op:Op}{ty:aQ}{pos:String}{af:Array Edge}
def cF (ops:Array aX)(l:Fr):Option (Nat×Bool)→Option Bool
 | none=>some true
 | some (g,b)=>
  match (ops[g]?).bind (·.dst) with
  | some c=>
   match look l c with
   | some (.bool x)=>some (x==b)
   | some (.tuple _)=>some false
   | _=>none
  | none=>none
theorem tC {r:Bool}(h:cF ops l gd=some r)(ha:Rp n l a):o3 ⟨dst,op,ty,pos,af,gd⟩ (yielded ops a.tmps)=r:=by
 cases gd with
 | none=>exact i1 h
 | some p=>
  obtain⟨g,b⟩:=p
  simp only [cF] at h
  simp only [o3]
  cases hc:(ops[g]?).bind (·.dst) with
  | none=>rw [hc] at h;cases h
  | some c=>
   rw [hc] at h
   simp only at h
   have f:yielded ops a.tmps g=match a.tmps[c]? with | some (.bool b)=>some b | _=>none:=by
    unfold yielded;rw [hc];rfl
   cases hl:look l c with
   | none=>rw [hl] at h;cases h
   | some u=>
    rw [hl] at h
    have e:=ha.val c u hl
    rw [lU] at e
    cases u with
    | bool x=>
     simp only [dR] at h
     cases hx:a.tmps[c]? with
     | none=>rw [hx] at e;cases e
     | some v=>
      rw [hx] at e
      simp only [pW] at e
      subst e
      rw [f,hx,←h]
      cases x <;> cases b <;> rfl
    | tuple vs=>
     simp only [dR] at h
     cases hx:a.tmps[c]? with
     | none=>rw [f,hx,←h];rfl
     | some v=>
      rw [hx] at e
      simp only [pW] at e
      subst e
      rw [f,hx,←h];rfl
    | _=>cases h
variable {gd:Option (Nat×Bool)}
theorem qG (hw:cF ops l gd=some true)(ha:Rp n l a)(h:∀K:Act→a6→Prop,(∀a w,wpList P ops Q rest a w→K a w)→jW P ⟨dst,op,ty,pos,af,gd⟩ a w K Q):wpList P ops Q (⟨dst,op,ty,pos,af,gd⟩::rest) a w:=
 wpList_step fun K e=>by rw [tC hw ha];exact h K e
theorem EE (hw:cF ops l gd=some false)(hn:d<n)(h:wl P ops Q n rest ((d,undef)::l) w):wl P ops Q n (⟨some d,op,ty,pos,af,gd⟩::rest) l w:=fun a e=>
 wpList_step fun K f=>by
  rw [tC hw e]
  exact f _ _ (h _ (e.put hn undef))
theorem dU (hw:cF ops l gd=some true)(hn:d<n)(hr:∀a,Rp n l a→(execOp a.eval ⟨some d,op,ty,pos,af,gd⟩).run P w= .ok (.value v) w')(h:wl P ops Q n rest ((d,v)::l) w'):wl P ops Q n (⟨some d,op,ty,pos,af,gd⟩::rest) l w:=fun a e=>by
 refine qG hw e fun K f=>?_
 unfold jW
 rw [hr a e]
 exact f _ _ (h _ (e.put hn v))
theorem EA (hw:cF ops l gd=some true)(hr:∀a,Rp n l a→(execOp a.eval ⟨none,op,ty,pos,af,gd⟩).run P w= .ok .skip w')(h:wl P ops Q n rest l w'):wl P ops Q n (⟨none,op,ty,pos,af,gd⟩::rest) l w:=fun a e=>by
 refine qG hw e fun K f=>?_
 unfold jW
 rw [hr a e]
 exact f _ _ (h _ e)
def qY:Op→Bool
 | .select .. =>false
 | _=>true
def iJ (l:Fr)(op:Op):Bool:=qY op&&op.operands.toList.all fun x=>(bK l x).isSome
theorem nO {g:Option (Nat×Bool)}(hk:iJ l op=true)(ha:Rp n l a):execOp a.eval ⟨dst,op,ty,pos,af,g⟩=execOp (rho l) ⟨dst,op,ty,pos,af,g⟩:=by
 simp only [iJ,dI,dZ] at hk
 refine execOp_congr _ (fun cs b e=>?_) (fun x f=>ha.rho (hk.2 x (by simpa using f)))
 simp only at e
 rw [e] at hk
 exact absurd hk.1 (by simp [qY])
theorem xA (hw:cF ops l gd=some true)(hk:iJ l op=true)(hn:d<n)(hr:(execOp (rho l) ⟨some d,op,ty,pos,af,gd⟩).run P w= .ok (.value v) w)(h:wl P ops Q n rest ((d,v)::l) w):wl P ops Q n (⟨some d,op,ty,pos,af,gd⟩::rest) l w:=
 dU hw hn (fun a e=>by rw [nO hk e];exact hr) h
theorem EH {x:bW}(hw:cF ops l gd=some true)(hx:bK l x=some v)(hn:d<n)(h:wl P ops Q n rest ((d,v)::l) w):wl P ops Q n (⟨some d,.move x,ty,pos,af,gd⟩::rest) l w:=
 dU hw hn (fun a e=>by simp only [execOp,e.ev hx];rfl) h
theorem EJ {x:bW}(hw:cF ops l gd=some true)(hx:bK l x=some v)(hn:d<n)(h:wl P ops Q n rest ((d,v)::l) w):wl P ops Q n (⟨some d,.assign x,ty,pos,af,gd⟩::rest) l w:=
 dU hw hn (fun a e=>by simp only [execOp,e.ev hx];rfl) h
theorem aH {x:bW}{t:aQ}(hw:cF ops l gd=some true)(hx:bK l x=some (.pointer (some p)))(hl:(loadVar t p).run P w= .ok v w)(h:wl P ops Q n rest ((d,v)::l) w)(hn:d<n:=by decide):wl P ops Q n (⟨some d,.load t x,ty,pos,af,gd⟩::rest) l w:=
 dU hw hn (fun a f=>by
  have e:(sR t (a.eval x)).run P w= .ok v w:=by rw [f.ev hx];exact hl
  show ((sR t (a.eval x)>>=fun r=>pure (eP r):Sem eC)).run P w=_
  rw [bQ,e];rfl) h
theorem x8 {x y:bW}{t:aQ}(hw:cF ops l gd=some true)(hx:bK l x=some (.pointer (some p)))(hy:bK l y=some v)(hs:(storeVar t p v).run P w= .ok () w')(h:wl P ops Q n rest l w'):wl P ops Q n (⟨none,.store t x y,ty,pos,af,gd⟩::rest) l w:=
 EA hw (fun a f=>by
  have e:(sQ t (a.eval x) (a.eval y)).run P w= .ok () w':=by rw [f.ev hx,f.ev hy];exact hs
  show ((sQ t (a.eval x) (a.eval y)>>=fun _=>pure Next.skip:Sem eC)).run P w=_
  rw [bQ,e];rfl) h
def c8:fW→Int→Int→Option Bool
 | .eql,a,b=>some (a==b)
 | .neq,a,b=>some (a != b)
 | .lss,a,b=>some (decide (a<b))
 | .leq,a,b=>some (decide (a≤b))
 | .gtr,a,b=>some (decide (a>b))
 | .geq,a,b=>some (decide (a≥b))
 | _,_,_=>none
theorem yM {o:fW}{t:aQ}{k:fV}{a b:Int}{c:Bool}(hc:c8 o a b=some c){x y:bW}:((do eqGuard o t x y (.int k a) (.int k b);binOp o t (.int k a) (.int k b)):Sem aC).run P w= .ok (.bool c) w:=by
 cases o <;> simp only [c8,dR,reduceCtorEq] at hc <;> subst hc <;> simp [eqGuard,binOp,Op.intCmp]
theorem aA (hw:cF ops l gd=some true){o:fW}{t:aQ}{x y:bW}{k:fV}{a b:Int}(hx:bK l x=some (.int k a))(hy:bK l y=some (.int k b))(c:Bool)(hc:c8 o a b=some c)(h:wl P ops Q n rest ((d,.bool c)::l) w)(hn:d<n:=by decide):wl P ops Q n (⟨some d,.binOp o t x y t',ty,pos,af,gd⟩::rest) l w:=
 dU hw hn (fun a' f=>by
  have e:((do eqGuard o t x y (a'.eval x) (a'.eval y);binOp o t (a'.eval x) (a'.eval y)):Sem aC).run P w= .ok (.bool c) w:=by
   rw [f.ev hx,f.ev hy];exact yM hc
  show ((((do eqGuard o t x y (a'.eval x) (a'.eval y);binOp o t (a'.eval x) (a'.eval y)):Sem aC)>>=fun r=>pure (eP r)):Sem eC).run P w=_
  rw [bQ,e];rfl) h
def dD:fW→fV→Int→Int→Option Int
 | .add,k,a,b=>some (k.wrap (a+b))
 | .sub,k,a,b=>some (k.wrap (a-b))
 | .mul,k,a,b=>some (k.wrap (a*b))
 | .quo,k,a,b=>if b=0 then none else some (k.wrap (a.tdiv b))
 | .rem,_,a,b=>if b=0 then none else some (a.tmod b)
 | _,_,_,_=>none
theorem H8 {o:fW}{t:aQ}{k:fV}{a b c:Int}(hc:dD o k a b=some c){x y:bW}:((do eqGuard o t x y (.int k a) (.int k b);binOp o t (.int k a) (.int k b)):Sem aC).run P w= .ok (.int k c) w:=by
 cases o <;> simp only [dD,dR,reduceCtorEq] at hc
 case add=>subst hc;simp [eqGuard,binOp,wI]
 case sub=>subst hc;simp [eqGuard,binOp,wI]
 case mul=>subst hc;simp [eqGuard,binOp,wI]
 case quo=>
  by_cases hb:b=0
  ·rw [if_pos hb] at hc;cases hc
  ·rw [if_neg hb] at hc;cases hc;simp [eqGuard,binOp,pX,hb]
 case rem=>
  by_cases hb:b=0
  ·rw [if_pos hb] at hc;cases hc
  ·rw [if_neg hb] at hc;cases hc;simp [eqGuard,binOp,pX,hb]
theorem bF (hw:cF ops l gd=some true){o:fW}{t:aQ}{x y:bW}{k:fV}{a b:Int}(hx:bK l x=some (.int k a))(hy:bK l y=some (.int k b))(c:Int)(hc:dD o k a b=some c)(h:wl P ops Q n rest ((d,.int k c)::l) w)(hn:d<n:=by decide):wl P ops Q n (⟨some d,.binOp o t x y t',ty,pos,af,gd⟩::rest) l w:=
 dU hw hn (fun a' f=>by
  have e:((do eqGuard o t x y (a'.eval x) (a'.eval y);binOp o t (a'.eval x) (a'.eval y)):Sem aC).run P w= .ok (.int k c) w:=by
   rw [f.ev hx,f.ev hy];exact H8 hc
  show ((((do eqGuard o t x y (a'.eval x) (a'.eval y);binOp o t (a'.eval x) (a'.eval y)):Sem aC)>>=fun r=>pure (eP r)):Sem eC).run P w=_
  rw [bQ,e];rfl) h
structure NewBk (w w':a6)(g:Nat)(t:aQ)(vs:List aC):Prop where
 at_:w.heap.size=g
 size:w'.heap.size=g+1
 bk:Bk w' g t vs
 ext:Ext w w'
theorem NewBk.mk' (w:a6)(t:aQ)(vs:List aC):NewBk w (w.alloc (.cells vs.toArray t)) w.heap.size t vs:=⟨rfl,by simp,Bk.new w t vs,(Ext.refl w).alloc _⟩
theorem yJ {t:aQ}(hv:v.cells=vs.toArray):(newVar t v).run P w= .ok ⟨w.heap.size,0,none⟩ (w.alloc (.cells vs.toArray t)):=by
 unfold newVar newRow newObj
 rw [hv]
 rfl
theorem iE {x:bW}{t:aQ}(hw:cF ops l gd=some true)(hx:bK l x=some v)(hv:v.cells=vs.toArray)(h:∀g w',NewBk w w' g t vs→wl P ops Q n rest ((d,a1 g 0)::l) w')(hn:d<n:=by decide):wl P ops Q n (⟨some d,.box t x,ty,pos,af,gd⟩::rest) l w:=
 dU hw hn (fun a f=>by
  have e:(Instr.box t (a.eval x)).run P w= .ok (a1 w.heap.size 0) (w.alloc (.cells vs.toArray t)):=by
   rw [f.ev hx]
   show ((newVar t v>>=fun r=>pure (wH (some r)):Sem aC)).run P w=_
   rw [bQ,yJ hv];rfl
  show ((Instr.box t (a.eval x)>>=fun r=>pure (eP r):Sem eC)).run P w=_
  rw [bQ,e];rfl) (h _ _ (NewBk.mk' w t vs))
theorem eK {t:aQ}{z:aC}(hw:cF ops l gd=some true)(hz:∀w,(zeroValue t).run P w= .ok z w)(hv:z.cells=vs.toArray)(h:∀g w',NewBk w w' g t vs→wl P ops Q n rest ((d,a1 g 0)::l) w')(hn:d<n:=by decide):wl P ops Q n (⟨some d,.alloc t,ty,pos,af,gd⟩::rest) l w:=
 dU hw hn (fun a _=>by
  have e:(Instr.alloc t true (.tuple #[])).run P w= .ok (a1 w.heap.size 0) (w.alloc (.cells vs.toArray t)):=by
   show ((zeroValue t>>=fun z=>(newVar t z>>=fun r=>pure (wH (some r))):Sem aC)).run P w=_
   rw [bQ,hz w]
   show ((newVar t z>>=fun r=>pure (wH (some r)):Sem aC)).run P w=_
   rw [bQ,yJ hv];rfl
  show ((Instr.alloc t true (.tuple #[])>>=fun r=>pure (eP r):Sem eC)).run P w=_
  rw [bQ,e];rfl) (h _ _ (NewBk.mk' w t vs))
def wC (p:aC→Prop):dL→Prop
 | .returned v=>p v
 | _=>False
theorem bB {p:aC→Prop}(h:p v):wC p (.returned v):=h
theorem bC {xs:Array bW}{R:dL→a6→Prop}(hw:cF ops l gd=some true)(hk:iJ l (.call {callee:= .value (.func f),args:=xs,argTypes:=ts})=true)(hr:(execOp (rho l) ⟨some d,.call {callee:= .value (.func f),args:=xs,argTypes:=ts},ty,pos,af,gd⟩).run P w= .ok (.enter f vs.toArray) w)(hn:d<n)(hc:aU P f vs.toArray w R)(h:∀e w',R e w'→wC (fun v=>wl P ops Q n rest ((d,v)::l) w') e):wl P ops Q n (⟨some d,.call {callee:= .value (.func f),args:=xs,argTypes:=ts},ty,pos,af,gd⟩::rest) l w:=fun a j=>by
 refine qG hw j fun K p=>?_
 unfold jW
 rw [nO hk j,hr]
 refine hc.mono fun e w' o=>?_
 have:=h e w' o
 cases e with
 | returned v=>exact p _ _ (this _ (j.put hn v))
 | panicked c=>exact this.elim
 | outgrown=>exact this.elim
end ops
end
def NP (Q:cQ→Act→a6→Prop):cQ→Act→a6→Prop
 | .panic _,_,_=>False
 | e,a,w=>Q e a w
theorem NP.imp {Q:cQ→Act→a6→Prop}:∀e a w,NP Q e a w→Q e a w:=fun e a w h=>by
 cases e <;> first | exact h | exact h.elim
theorem fF {Q:cQ→Act→a6→Prop}{l:Fr}(h:eo Q .normal n l w):eo (NP Q) .normal n l w:=h
def gA (Rs:List (aC→a6→Prop))(i:Nat):aC→a6→Prop:=(Rs[i]?).getD fun _ _=>True
def fD (a:Act):Option Tmp→aC
 | some d=>a.tmps.getD d undef
 | none=>undef
def uA (d:Option Tmp)(v:aC)(l:Fr):Fr:=
 match d with
 | some d=>(d,v)::l
 | none=>l
def cL (ol:List aX)(j:Nat):Option Tmp:=(ol[j]?).bind (·.dst)
def rJ (o:aX)(j:Nat):Bool:=o.after.toList.any fun e=>fQ .any e&&e.on==j
theorem K6 (h:rJ o j=true):∃e∈o.after,fQ .any e=true∧e.on=j:=by
 simp only [rJ,sO,dI,beq_iff_eq] at h
 obtain⟨e,f,h1,h2⟩:=h
 exact⟨e,by simpa using f,h1,h2⟩
def Deps (ol:List aX)(Rs:List (aC→a6→Prop))(w0 w1:a6)(k:Fr→Prop):List Nat→Fr→Prop
 | [],acc=>k acc
 | j::ds,acc=>∀v wj,gA Rs j v wj→Ext w0 wj→Ext wj w1→Deps ol Rs w0 w1 k ds (uA (cL ol j) v acc)
theorem aL {Rs:List (aC→a6→Prop)}{k:Fr→Prop}{acc:Fr}(h:k acc):Deps ol Rs w0 w1 k [] acc:=h
theorem eE {Rs:List (aC→a6→Prop)}{k:Fr→Prop}{acc:Fr}{R:aC→a6→Prop}(hR:Rs[j]?=some R)(hd:cL ol j=some d)(h:∀v wj,R v wj→Ext w0 wj→Ext wj w1→Deps ol Rs w0 w1 k ds ((d,v)::acc)):Deps ol Rs w0 w1 k (j::ds) acc:=by
 intro v wj hr e e'
 have f:gA Rs j=R:=by unfold gA;rw [hR];rfl
 have o:uA (cL ol j) v acc=(d,v)::acc:=by rw [hd];rfl
 rw [f] at hr
 rw [o]
 exact h v wj hr e e'
def mG (w1:a6)(d:Option Tmp)(R:aC→a6→Prop):cQ→Act→a6→Prop
 | .normal,a,w=>Ext w1 w∧R (fD a d) w∧a.defers= []
 | _,_,_=>False
theorem aO {l:Fr}{R:aC→a6→Prop}(hv:look l d=some v)(hx:Ext w1 w)(hR:R v w):wl P ops (mG w1 (some d) R) n [] l w:=
 bA fun a e=>⟨hx,by show R (a.tmps.getD d undef) w;rw [e.val d v hv];exact hR,e.nod⟩
def iK (v:aC)(g:Nat):Prop:=v= a1 g 0∨∃s p n c,v= .agg #[.bool s,a9 (some p) n c]∧p.block=g
def pQ (w:a6)(v:aC):Prop:=∀g,iK v g→w.heap.size≤g
def DP (w:a6)(v:aC):Prop:=∀g,iK v g→g<w.heap.size
def pP (Rs:List (aC→a6→Prop)):List Nat→Prop
 | []=>True
 | i::r=>(∀v w,gA Rs i v w→DP w v)∧pP Rs r
theorem zC {Rs:List (aC→a6→Prop)}:∀{al:List Nat},pP Rs al→∀i∈al,∀v w,gA Rs i v w→DP w v
 | [],_,i,h=>by cases h
 | j::r,h,i,hi=>by
  rcases i6.1 hi with e | e
  ·subst e;exact h.1
  ·exact zC h.2 i e
def pS (ol:List aX)(al:List Nat)(acc:Fr):Prop:=∀i∈al,∀j∈al,i≠j→∀di dj,cL ol i=some di→cL ol j=some dj→∀u v,look acc di=some u→look acc dj=some v→∀g,iK u g→iK v g→False
def pH (k:Nat):aC→aC
 | .tuple vs=>(vs[k]?).getD undef
 | _=>undef
def wE (ol:List aX)(m:Nat)(fl:List Nat)(dss:List (List Nat))(lk:List (Nat×Nat×Nat)):Prop:=
 ∀e∈lk,e.1<m∧e.1∈fl∧e.2.1<m∧e.2.1∈(dss[e.1]?).getD []∧∃o t,ol[e.1]?=some o∧o.op= .extract (.tmp t) e.2.2∧cL ol e.2.1=some t
def wF (ol:List aX)(lk:List (Nat×Nat×Nat))(acc:Fr):Prop:=∀e∈lk,∀di dj,cL ol e.1=some di→cL ol e.2.1=some dj→∀u v,look acc di=some u→look acc dj=some v→u=pH e.2.2 v
theorem MO {t:Tmp}(ho:o.op= .extract (.tmp t) k)(h:(execOp a.eval o).run P w= .ok (.value v) w):v=pH k (a.tmps.getD t undef):=by
 have e:a.eval (.tmp t)=a.tmps.getD t undef:=rfl
 unfold execOp at h
 rw [ho] at h
 simp only [e] at h
 generalize a.tmps.getD t undef=x at h
 cases x with
 | tuple vs=>
  simp only [Instr.extract] at h
  cases hv:vs[k]? with
  | none=>rw [hv] at h;cases h
  | some u=>
   rw [hv] at h
   simp only [pH,hv,pW]
   cases h
   rfl
 | _=>cases h
section
variable (P:bT) (n:Nat) (ol:List aX) (m:Nat) (fl al:List Nat) (Rs:List (aC→a6→Prop)) (l:Fr) (w0:a6)
def sC (i:Nat)(o:aX)(ds:List Nat):Prop:=
 ∀w1,Ext w0 w1→Deps ol Rs w0 w1 (fun acc=>wl P ol.toArray (mG w1 o.dst (fun v w=>gA Rs i v w∧(al.contains i=true→pQ w1 v))) n [o] acc w1) ds l
def sD (i:Nat)(o:aX)(ds:List Nat):Prop:=
 ∀w1,Ext w0 w1→Deps ol Rs w0 w1 (fun acc=>∃v,iJ acc o.op=true∧cF ol.toArray acc o.guard=some true∧(∀w,(execOp (rho acc) o).run P w= .ok (.value v) w)∧gA Rs i v w1) ds l
def j7:List (List Nat)→Nat→Prop
 | [],_=>True
 | ds::dss,i=>(match ol[i]? with | some o=>if fl.contains i then sD P ol Rs l w0 i o ds else sC P n ol al Rs l w0 i o ds | none=>True)∧j7 dss (i+1)
end
def bX (rl:List (List Nat))(i:Nat):List Nat:=(rl[i]?).getD []
def pG (n : Nat)(ol : List aX)(m : Nat)(fl : List Nat)(l : Fr)(dss rl : List (List Nat)): Bool :=
  decide (m ≤ ol.length) && dss.length == m && fl.all (fun i => decide (i < m)) &&
  (ol.zipIdx.all fun (o, i) => qY o.op && (o.after.toList.all fun e => !Region.binds .any e || decide (e.on < i)) && ((bX rl i).all fun j => o.after.toList.any fun e => fQ .any e && (e.on == j || (bX rl e.on).contains j)) &&
    (if i < m then
      (match o.dst with
       | some d => decide (d < n) && l.all (fun p => p.1 != d) && ol.zipIdx.all (fun (o', j) => j == i || decide (m ≤ j) || o'.dst != some d)
       | none => false) &&
      ((dss[i]?).getD []).all (fun j => (bX rl i).contains j) &&
      (!fl.contains i || ol.zipIdx.all (fun (o', j) => j == i || (bX rl i).contains j || rJ o' i || o.apart ol.toArray o'))
     else (eV i).all (fun j => fl.contains j || (bX rl i).contains j)))
structure DrawOk (n:Nat)(ol:List aX)(m:Nat)(fl:List Nat)(l:Fr)(dss rl:List (List Nat)):Prop where
 mle:m≤ol.length
 dlen:dss.length=m
 flt:∀i∈fl,i<m
 sel:∀(i:Nat) (o:aX),ol[i]?=some o→qY o.op=true
 back:∀(i:Nat) (o:aX),ol[i]?=some o→∀e∈o.after,fQ .any e=true→e.on<i
 dst:∀(i:Nat) (o:aX),ol[i]?=some o→i<m→∃d,o.dst=some d∧d<n∧(∀p∈l,p.1≠d)∧∀(j:Nat) (o':aX),ol[j]?=some o'→j≠i→j<m→o'.dst≠some d
 reach:∀(i:Nat) (o:aX),ol[i]?=some o→∀j∈bX rl i,∃e∈o.after,fQ .any e=true∧(e.on=j∨j∈bX rl e.on)
 deps:∀(i:Nat) (o:aX),ol[i]?=some o→i<m→∀j∈(dss[i]?).getD [],j∈bX rl i
 free:∀(i:Nat) (o:aX),ol[i]?=some o→i∈fl→∀(j:Nat) (o':aX),ol[j]?=some o'→j≠i→j ∉ bX rl i→rJ o' i=true∨o.apart ol.toArray o'=true
 tail:∀(i:Nat) (o:aX),ol[i]?=some o→m≤i→∀j,j<i→j∈fl∨j∈bX rl i
theorem mC {α:Type}{l:List α}{p:α×Nat→Bool}(h:l.zipIdx.all p=true)(i:Nat)(x:α)(hx:l[i]?=some x):p (x,i)=true:=by
 rw [dZ] at h
 exact h (x,i) (by rw [List.mem_zipIdx_iff_getElem?];simpa using hx)
theorem MX {l:Fr}{rl:List (List Nat)}(h:pG n ol m fl l dss rl=true):DrawOk n ol m fl l dss rl:=by
 simp only [pG,dI,decide_eq_true_eq,beq_iff_eq] at h
 obtain⟨⟨⟨h1,h2⟩,H⟩,U⟩:=h
 have key:=fun (i:Nat) (o:aX) (q:ol[i]?=some o)=>mC U i o q
 simp only [dI] at key
 refine⟨h1,h2,fun i hi=>by rw [dZ] at H;simpa using H i hi,fun i o q=>(key i o q).1.1.1,fun i o q e M hb=>?_,fun i o q hi=>?_,fun i o q j F=>?_,fun i o q hi j F=>?_,fun i o q hi j o' ho' r I=>?_,fun i o q hi j F=>?_⟩
 ·have:=(key i o q).1.1.2
  rw [dZ] at this
  have:=this e (by simpa using M)
  simpa [hb] using this
 ·have:=(key i o q).2
  rw [if_pos hi] at this
  simp only [dI] at this
  obtain⟨⟨f,_⟩,_⟩:=this
  cases hd:o.dst with
  | none=>rw [hd] at f;cases f
  | some d=>
   rw [hd] at f
   simp only [dI,decide_eq_true_eq] at f
   obtain⟨⟨D,O⟩,W⟩:=f
   refine⟨d,rfl,D,fun p V=>?_,fun j o' ho' r _ e=>?_⟩
   ·rw [dZ] at O
    simpa using O p V
   ·have:=mC W j o' ho'
    simp only [jZ,beq_iff_eq,decide_eq_true_eq,bne_iff_ne] at this
    rcases this with (h | h) | h
    ·exact r h
    ·omega
    ·exact h e
 ·have f:=(key i o q).1.2
  rw [dZ] at f
  have:=f j F
  rw [sO] at this
  obtain⟨e,M,D⟩:=this
  simp only [dI,jZ,beq_iff_eq,jB] at D
  exact⟨e,by simpa using M,D.1,D.2⟩
 ·have:=(key i o q).2
  rw [if_pos hi] at this
  simp only [dI] at this
  have f:=this.1.2
  rw [dZ] at f
  simpa using f j F
 ·have L:i<m:=by rw [dZ] at H;simpa using H i hi
  have:=(key i o q).2
  rw [if_pos L] at this
  simp only [dI,jZ,Bool.not_eq_true'] at this
  rcases this.2 with f | f
  ·simp [hi] at f
  ·have:=mC f j o' ho'
   simp only [jZ,beq_iff_eq,jB] at this
   rcases this with ((h | h) | h) | h
   ·exact absurd h r
   ·exact absurd h I
   ·exact bY h
   ·exact cA h
 ·have:=(key i o q).2
  rw [if_neg (by omega),dZ] at this
  have:=this j (by simpa using F)
  simpa using this
section
variable {P:bT}{Q:cQ→Act→a6→Prop}{n:Nat}{ol:List aX}{m:Nat}{fl al:List Nat}{Rs:List (aC→a6→Prop)}{l:Fr}{w0:a6}{dss rl:List (List Nat)}
def pR (ol:List aX)(Rs:List (aC→a6→Prop))(w0:a6)(i:Nat)(a:Act)(w:a6):Prop:=∃w1,Ext w0 w1∧Ext w1 w∧gA Rs i (fD a (cL ol i)) w1
theorem Deps.weak {w1:a6}{k k':Fr→Prop}(hi:∀acc,k acc→k' acc):∀(ds:List Nat) (acc:Fr),Deps ol Rs w0 w1 k ds acc→Deps ol Rs w0 w1 k' ds acc
 | [],acc,h=>hi acc h
 | _::ds,_,h=>fun v wj h1 h2 h3=>Deps.weak hi ds _ (h v wj h1 h2 h3)
theorem Rp.cons {acc:Fr}(h:Rp n acc a)(hv:a.tmps.getD d undef=v):Rp n ((d,v)::acc) a:=
 ⟨h.size,h.nod,fun i u hi=>by
  simp only [look] at hi
  cases hb:kS d i with
  | true=>
   rw [hb] at hi
   have e:=mN hb
   subst e
   cases hi
   exact hv
  | false=>rw [hb] at hi;exact h.val i u hi⟩
theorem Deps.apply {w1:a6}{k:Fr→Prop}{a:Act}:∀(ds:List Nat) (acc:Fr),(∀j∈ds,pR ol Rs w0 j a w1)→Deps ol Rs w0 w1 k ds acc→Rp n acc a→∃acc',Rp n acc' a∧k acc'
 | [],acc,_,h,hr=>⟨acc,hr,h⟩
 | j::ds,acc,hf,h,hr=>by
  obtain⟨wj,e1,e2,hR⟩:=hf j (by simp)
  refine Deps.apply ds _ (fun i hi=>hf i (by simp [hi])) (h _ wj hR e1 e2) ?_
  cases hd:cL ol j with
  | none=>exact hr
  | some d=>exact hr.cons rfl
theorem uE:∀{dss:List (List Nat)}{k:Nat},j7 P n ol fl al Rs l w0 dss k→∀(i:Nat) (o:aX),ol[k+i]?=some o→i<dss.length→
  (if fl.contains (k+i) then sD P ol Rs l w0 (k+i) o ((dss[i]?).getD []) else sC P n ol al Rs l w0 (k+i) o ((dss[i]?).getD []))
 | [],_,_,i,_,_,hi=>by simp at hi
 | ds::dss,k,h,0,o,ho,_=>by
  have:=h.1
  rw [show ol[k]?=some o from ho] at this
  simpa using this
 | ds::dss,k,h,i+1,o,ho,hi=>by
  have e:k+(i+1)=k+1+i:=by omega
  have:=uE h.2 i o (by rw [←e];exact ho) (by simpa using hi)
  rw [e]
  simpa using this
theorem x7 {K K2:Act→a6→Prop}{Q1 Q2:cQ→Act→a6→Prop}(h:o.wp P a w K Q1)(hp:∀c a w,¬Q1 (.panic c) a w)(hl:¬LetsOut Q1)(hd:∀a w,K a w→a.defers= [])(hk:∀v w',K (a.put o.dst v) w'→K2 (a.put o.dst v) w'):o.wp P a w K2 Q2:=by
 unfold jW at*
 generalize (execOp a.eval o).run P w=r at*
 cases r with
 | ok x w'=>
  cases x <;> simp only [kO] at h⊢ <;> first | exact h.elim | skip
  case value v=>exact hk _ _ h
  case skip=>exact hk _ _ h
  case defer d=>
   have:=hd _ _ h
   exfalso
   revert this
   cases o.dst <;> simp [k8]
  case enter f args=>
   refine h.mono fun e w'' j=>?_
   cases e with
   | returned v=>exact hk _ _ j
   | panicked c=>exact (hp _ _ _ j).elim
   | outgrown=>exact (hl j).elim
  case row row args=>exact h.mono fun v w'' j=>hk _ _ j
 | _ x w'=>
  cases x <;> simp only [kO] at h⊢ <;> first | exact h.elim | exact (hp _ _ _ h).elim
theorem kJ (ol:List aX)(i:Nat):ol.toArray[i]?=ol[i]?:=by simp
theorem gW:j∈mK .any ol.toArray listed↔
  listed.getD j true=false∧∃o,ol[j]?=some o∧∀e∈o.after,fQ .any e=true→listed.getD e.on false=true:=by
 rw [mem_ready,kJ]
theorem gZ (h:j<listed.size:=by omega):listed.getD j true=listed.getD j false:=by simp [h]
theorem IU (h:DrawOk n ol m fl l dss rl)(j:Nat)(o:aX)(cs:Array SelectCase)(b:Bool)(ho:ol.toArray[j]?=some o):o.op≠ .select cs b:=by
 intro e
 have:=h.sel j o (by rw [←kJ];exact ho)
 rw [e] at this
 cases this
def mV (N:Nat)(listed:Array Bool):Nat:=(eV N).countP fun i=> !listed.getD i false
theorem CP {p q:Nat→Bool}{i:Nat}:∀{L:List Nat},i∈L→(∀j,q j=true→p j=true)→p i=true→q i=false→L.countP q<L.countP p
 | [],h,_,_,_=>by cases h
 | j::L,h,hpq,hp,hq=>by
  have hle:L.countP q≤L.countP p:=List.countP_mono_left fun j _=>hpq j
  by_cases e:i=j
  ·subst e
   rw [sN,sN,hp,hq]
   simp;omega
  ·have hi:i∈L:=by
    rcases i6.1 h with h | h
    ·exact absurd h e
    ·exact h
   have:=CP hi hpq hp hq
   rw [sN,sN]
   cases hqj:q j with
   | true=>rw [hpq j hqj];simp;omega
   | false=>simp only [Bool.false_eq_true,if_false];omega
theorem iF (hi:i<N)(hs:listed.size=N)(h:listed.getD i false=false):mV N (listed.setIfInBounds i true)<mV N listed:=by
 refine CP (i:=i) (fU.2 hi) (fun j f=>?_) (by simp only [h];rfl) ?_
 ·by_cases e:i=j
  ·subst e;simp [hs,hi] at f
  ·rw [getD_set_ne false e] at f;exact f
 ·simp [hs,hi]
def Closed (ol:List aX)(listed:Array Bool):Prop:=∀(i:Nat) (o:aX),ol[i]?=some o→listed.getD i false=true→∀e∈o.after,fQ .any e=true→listed.getD e.on false=true
theorem Closed.set (h:Closed ol listed)(ho:ol[i]?=some o)(hall:∀e∈o.after,fQ .any e=true→listed.getD e.on false=true):Closed ol (listed.setIfInBounds i true):=by
 intro k ok f hl e p hb
 refine getD_set_true ?_
 by_cases j:i=k
 ·subst j
  rw [ho] at f
  cases f
  exact hall e p hb
 ·rw [getD_set_ne false j] at hl
  exact h k ok f hl e p hb
theorem Closed.reach (h:Closed ol listed)(hk:DrawOk n ol m fl l dss rl):∀(i:Nat) (o:aX),ol[i]?=some o→(∀e∈o.after,fQ .any e=true→listed.getD e.on false=true)→∀j∈bX rl i,listed.getD j false=true:=by
 intro i
 induction i using o5 with
 | ind i ih=>
  intro o ho hall j hj
  obtain⟨e,he,hb,h1⟩:=hk.reach i o ho j hj
  have hlt:=hk.back i o ho e he hb
  rcases h1 with h1 | h1
  ·rw [←h1];exact hall e he hb
  ·have hN:e.on<ol.length:=kQ hlt (eJ.1 ho).1
   exact ih e.on hlt _ (bS hN) (h e.on _ (bS hN) (hall e he hb)) j h1
theorem xY (hk:DrawOk n ol m fl l dss rl):∀(fuel k:Nat) (listed:Array Bool) (a:Act) (w:a6),m≤k→k≤ol.length→mV ol.length listed≤fuel→listed.size=ol.length→Closed ol listed→(∀i,i<ol.length→listed.getD i false=decide (i<k))→
  wpList P ol.toArray Q (ol.drop k) a w→wpAny P .any ol.toArray Q fuel listed a w:=by
 intro fuel
 induction fuel with
 | zero=>
  intro k listed a w hm hkl hf hs _ hl h
  have e:k=ol.length:=by
   rcases fS k ol.length with h1 | h1
   ·have h2:listed.getD k false=false:=by rw [hl k h1];simp
    have:=iF h1 hs h2;omega
   ·omega
  subst e
  rw [List.drop_length] at h
  refine wpAny_done ?_ h 0
  refine sM.2 fun j hj=>?_
  obtain⟨h1,o,ho,_⟩:=gW.1 hj
  have hjl:j<ol.length:=(eJ.1 ho).1
  rw [gZ,hl j hjl] at h1
  simp [hjl] at h1
 | succ fuel ih=>
  intro k listed a w hm hkl hf hs hcl hl h
  rcases fS k ol.length with hlt | hge
  ·obtain⟨o,ho⟩:∃o,ol[k]?=some o:=⟨_,bS hlt⟩
   have hrdy:k∈mK .any ol.toArray listed:=by
    refine gW.2 ⟨?_,o,ho,fun e he hb=>?_⟩
    ·rw [gZ,hl k hlt];simp
    ·have:=hk.back k o ho e he hb
     rw [hl e.on (by omega)];simpa using this
   refine⟨fun h0=>(by rw [h0] at hrdy;cases hrdy),fun i hi=>?_⟩
   obtain⟨h1,o',ho',hall⟩:=gW.1 hi
   have hil:i<ol.length:=(eJ.1 ho').1
   rw [gZ,hl i hil] at h1
   have hik:k≤i:=by simpa using h1
   have hie:i=k:=by
    rcases fS k i with h2 | h2
    ·rcases hk.tail i o' ho' (by omega) k h2 with h3 | h3
     ·have:=hk.flt k h3;omega
     ·have:=hcl.reach hk i o' ho' hall k h3
      rw [hl k hlt] at this
      simp at this
    ·omega
   subst hie
   have hd:ol.drop i=o::ol.drop (i+1):=by
    rw [mP hlt]
    congr 1
    rw [bS hlt] at ho
    exact i1 ho
   rw [hd] at h
   have hw:wpOp P ol.toArray Q i (wpList P ol.toArray Q (ol.drop (i+1))) a w:=by
    unfold wpOp
    rw [kJ,ho]
    unfold wpList at h
    exact h
   refine wpOp_mono (fun a' w' h'=>?_) hw
   refine ih (i+1) _ a' w' (by omega) (by omega) (by have:=iF hil hs (by rw [hl i hil];simp);omega) (by simpa using hs) (hcl.set ho (by rw [ho] at ho';cases ho';exact hall)) (fun j hj=>?_) h'
   by_cases hij:i=j
   ·subst hij
    simp [hs,hil]
   ·rw [getD_set_ne false hij,hl j hj]
    congr 1
    simp only [eq_iff_iff]
    omega
  ·have e:k=ol.length:=by omega
   subst e
   rw [List.drop_length] at h
   refine wpAny_done ?_ h _
   refine sM.2 fun j hj=>?_
   obtain⟨h1,o,ho,_⟩:=gW.1 hj
   have hjl:j<ol.length:=(eJ.1 ho).1
   rw [gZ,hl j hjl] at h1
   simp [hjl] at h1
theorem Rp.put_far (h:Rp n l a)(hd:∀p∈l,p.1≠d)(v:aC):Rp n l (a.put (some d) v):=by
 refine⟨by simp [k8,h.size],by simp [k8,h.nod],fun i u hi=>?_⟩
 have hne:d≠i:=fun e=>by
  have key:∀(l:Fr),look l i=some u→∃p∈l,p.1=i:=by
   intro l
   induction l with
   | nil=>intro h;cases h
   | cons p r ih=>
    intro h
    obtain⟨j,x⟩:=p
    simp only [look] at h
    cases hb:kS j i with
    | true=>exact⟨(j,x),by simp,mN hb⟩
    | false=>
     rw [hb] at h
     obtain⟨p,hp,he⟩:=ih h
     exact⟨p,by simp [hp],he⟩
  obtain⟨p,hp,he⟩:=key l hi
  exact hd p hp (he.trans e.symm)
 have:=h.val i u hi
 simp only [k8,lU] at this⊢
 rwa [wS hne]
theorem mZ (hs:a.tmps.size=n)(hd:d<n)(v:aC):fD (a.put (some d) v) (some d)=v:=by
 simp [fD,k8,hs,hd]
theorem qR (h:e≠some d)(v:aC):fD (a.put (some d) v) e=fD a e:=by
 cases e with
 | none=>rfl
 | some e=>
  have f:d≠e:=fun j=>h (by rw [j])
  simp only [fD,k8,lU]
  rw [wS f]
theorem y5 (hk:DrawOk n ol m fl l dss rl)(ho:ol[i]?=some o)(him:i<m)(hm:∀i,m≤i→i<ol.length→listed.getD i false=false)(hr:Rp n l a)(hfact:∀i,i<ol.length→listed.getD i false=true→pR ol Rs w0 i a w)(hx:Ext w0 w)(e:Ext w w')(hR:gA Rs i v w'):Rp n l (a.put o.dst v)∧∀j,j<ol.length→(listed.setIfInBounds i true).getD j false=true→pR ol Rs w0 j (a.put o.dst v) w':=by
 obtain⟨d,M,H,r,f⟩:=hk.dst i o ho him
 rw [M]
 refine⟨hr.put_far r v,fun j L p=>?_⟩
 by_cases q:i=j
 ·subst q
  refine⟨w',hx.trans e,Ext.refl _,?_⟩
  have I:cL ol i=some d:=by unfold cL;rw [ho];exact M
  rw [I,mZ hr.size H]
  exact hR
 ·rw [getD_set_ne false q] at p
  have F:j<m:=by
   rcases fS j m with h | h
   ·exact h
   ·rw [hm j h L] at p;cases p
  obtain⟨O,I,U,h1⟩:=hfact j L p
  refine⟨O,I,U.t e,?_⟩
  rw [qR]
  ·exact h1
  ·obtain⟨oj,D⟩:∃oj,ol[j]?=some oj:=⟨_,bS L⟩
   unfold cL
   rw [D]
   exact f j oj D (lN q) F
theorem iX (hk:DrawOk n ol m fl l dss rl)(hoi:ol[i]?=some o)(him:i<m)(v:aC)(hne:i≠j)(hjm:j<m):fD (a.put o.dst v) (cL ol j)=fD a (cL ol j):=by
 obtain⟨d,h,_,_,f⟩:=hk.dst i o hoi him
 rw [h]
 refine qR ?_ v
 unfold cL
 obtain⟨oj,e⟩:∃oj,ol[j]?=some oj:=⟨_,bS (by have:=hk.mle;omega)⟩
 rw [e]
 exact f j oj e (lN hne) hjm
theorem CJ {acc:Fr}(_hal:∀i∈al,i<m∧i ∉ fl)(hacc:Rp n acc a)(hdi:∀i∈al,∀j∈al,i≠j→listed.getD i false=true→listed.getD j false=true→∀g,iK (fD a (cL ol i)) g→iK (fD a (cL ol j)) g→False)(hl:∀i∈al,listed.getD i false=true):pS ol al acc:=by
 intro i hi j f e di dj hdi' hdj' u v h1 h2
 have h:=hdi i hi j f e (hl i hi) (hl j f)
 rw [hdi',hdj'] at h
 rw [←hacc.val di u h1,←hacc.val dj v h2]
 exact h
theorem AK {lk:List (Nat×Nat×Nat)}{acc:Fr}(hacc:Rp n acc a)(hli:∀e∈lk,fD a (cL ol e.1)=pH e.2.2 (fD a (cL ol e.2.1))):wF ol lk acc:=by
 intro e f di dj hi j u v p o
 have h:=hli e f
 rw [hi,j] at h
 rw [←hacc.val di u p,←hacc.val dj v o]
 exact h
theorem K5 (hlk : wE ol m fl dss lk)(hk : DrawOk n ol m fl l dss rl)(hal : ∀ i ∈ al, i < m ∧ i ∉ fl)(hold : pP Rs al)(ho : j7 P n ol fl al Rs l w0 dss 0)(hfin : ∀ w1, Ext w0 w1 → Deps ol Rs w0 w1 (fun acc => pS ol al acc → wF ol lk acc → wl P ol.toArray (NP Q) n (ol.drop m) acc w1) (eV m) l):∀ (fuel : Nat) (listed : Array Bool) (a : Act) (w : a6), mV ol.length listed ≤ fuel → listed.size = ol.length → Closed ol listed → (∀ i, m ≤ i → i < ol.length → listed.getD i false = false) → Rp n l a → Ext w0 w →
      (∀ i, i < ol.length → listed.getD i false = true → pR ol Rs w0 i a w) → (∀ i ∈ al, ∀ j ∈ al, i ≠ j → listed.getD i false = true → listed.getD j false = true → ∀ g, iK (fD a (cL ol i)) g → iK (fD a (cL ol j)) g → False) → (∀ e ∈ lk, listed.getD e.1 false = true → fD a (cL ol e.1) = pH e.2.2 (fD a (cL ol e.2.1))) → wpAny P .any ol.toArray (NP Q) fuel listed a w := by
  intro fuel
  induction fuel with
  | zero =>
    intro listed a w hf hs hcl hm hr hx hfact hdi hli
    have hall : ∀ i, i < ol.length → listed.getD i false = true := by
      intro i hi
      cases h : listed.getD i false with
      | true => rfl
      | false => have := iF hi hs h; omega
    have hml : m = ol.length := by
      rcases fS m ol.length with h | h
      · have h1 := hm m (aZ _) h
        rw [hall m h] at h1; cases h1
      · have := hk.mle; omega
    obtain ⟨acc, hacc, hwl⟩ := Deps.apply (n := n) (eV m) l (fun j hj => hfact j (by have := fU.1 hj; omega) (hall j (by have := fU.1 hj; omega))) (hfin w hx) hr
    exact xY hk 0 m listed a w (aZ _) (by omega) hf hs hcl (fun i hi => by rw [hall i hi]; simp; omega) (hwl (CJ hal hacc hdi (fun i hi => hall i (by have := (hal i hi).1; omega))) (AK hacc fun e he => hli e he (hall e.1 (by have := (hlk e he).1; omega))) a hacc)
  | succ fuel ih =>
    intro listed a w hf hs hcl hm hr hx hfact hdi hli
    by_cases hdone : ∀ i, i < m → listed.getD i false = true
    · obtain ⟨acc, hacc, hwl⟩ := Deps.apply (n := n) (eV m) l (fun j hj => hfact j (by have := fU.1 hj; have := hk.mle; omega) (hdone j (fU.1 hj))) (hfin w hx) hr
      exact xY hk (fuel + 1) m listed a w (aZ _) hk.mle hf hs hcl (fun i hi => by
        rcases fS i m with h | h
        · rw [hdone i h]; simpa using h
        · rw [hm i h hi]; simp; omega) (hwl (CJ hal hacc hdi (fun i hi => hdone i (hal i hi).1)) (AK hacc fun e he => hli e he (hdone e.1 (hlk e he).1)) a hacc)
    · -- the least that is not listed
      obtain ⟨j, hjm, hjl, hleast⟩ : ∃ j, j < m ∧ listed.getD j false = false ∧ ∀ i, i < j → listed.getD i false = true := by
        have key : ∀ k, (∃ j, j < m ∧ j < k ∧ listed.getD j false = false) → ∃ j, j < m ∧ listed.getD j false = false ∧ ∀ i, i < j → listed.getD i false = true := by
          intro k
          induction k with
          | zero => rintro ⟨j, _, h, _⟩; omega
          | succ k ihk =>
            rintro ⟨j, h1, h2, h3⟩
            by_cases hs' : ∃ j, j < m ∧ j < k ∧ listed.getD j false = false
            · exact ihk hs'
            · refine ⟨j, h1, h3, fun i hi => ?_⟩
              cases hb : listed.getD i false with
              | true => rfl
              | false => exact absurd ⟨i, by omega, by omega, hb⟩ hs'
        refine key m (Classical.byContradiction fun hno => hdone fun i hi => ?_)
        cases hb : listed.getD i false with
        | true => rfl
        | false => exact absurd ⟨i, hi, hi, hb⟩ hno
      have hml := hk.mle
      obtain ⟨oj, hoj⟩ : ∃ oj, ol[j]? = some oj := ⟨_, bS (by omega)⟩
      have hjr : j ∈ mK .any ol.toArray listed := gW.2 ⟨by rw [gZ]; exact hjl, oj, hoj, fun e he hb => hleast _ (hk.back j oj hoj e he hb)⟩
      have facts_of : ∀ (i : Nat) (o : aX), ol[i]? = some o → i < m → i ∈ mK .any ol.toArray listed → ∀ k ∈ (dss[i]?).getD [], pR ol Rs w0 k a w := by
        intro i o hoi him hir k hkd
        have h1 := hk.deps i o hoi him k hkd
        obtain ⟨_, o', ho', hall⟩ := gW.1 hir
        rw [hoi] at ho'
        cases ho'
        have h2 := hcl.reach hk i o hoi hall k h1
        have h3 : k < listed.size := by
          rcases fS k listed.size with h' | h'
          · exact h'
          · simp [Array.getElem?_eq_none h'] at h2
        exact hfact k (by omega) h2
      by_cases hfl : ∃ i ∈ fl, i ∈ mK .any ol.toArray listed
      · obtain ⟨i, hif, hir⟩ := hfl
        have him := hk.flt i hif
        obtain ⟨hun, o, hoi, hall⟩ := gW.1 hir
        have aK := uE (k := 0) ho i o (by simpa using hoi) (by rw [hk.dlen]; exact him)
        rw [dY, if_pos (by simpa using hif)] at aK
        obtain ⟨acc, hacc, v, hkn, hgd, hrun, hR⟩ := Deps.apply (n := n) _ l (facts_of i o hoi him hir) (aK w hx) hr
        have hy : Yields P ol.toArray o v a := bY ⟨by obtain ⟨d, op, ty, pos, af, gd⟩ := o; exact tC hgd hacc, fun w => by
          obtain ⟨d, op, ty, pos, af, gd⟩ := o
          rw [nO hkn hacc]; exact hrun w⟩
        have hex : (execOp a.eval o).run P w = .ok (.value v) w := by
          obtain ⟨d, op, ty, pos, af, gd⟩ := o
          rw [nO hkn hacc]; exact hrun w
        have hun' : listed.getD i false = false := by rw [← gZ]; exact hun
        obtain ⟨h1, h2⟩ := y5 hk hoi him hm hr hfact hx aF hR
        refine wpAny_first (by rw [kJ]; exact hoi) (IU hk) (fun c a w h => h.elim) fuel listed a w (fun k ok hok hki hkun hno => ?_) hir hy ?_
        · have hnr : k ∉ bX rl i := fun hm => by
            have h1 := hcl.reach hk i o hoi hall k hm
            have h2 : k < ol.length := (eJ.1 (show ol[k]? = some ok by rw [← kJ]; exact hok)).1
            rw [gZ, h1] at hkun; cases hkun
          rcases hk.free i o hoi hif k ok (by rw [← kJ]; exact hok) hki hnr with h | h
          · obtain ⟨e, he, hb, heq⟩ := K6 h
            exact absurd heq (hno e he hb)
          · exact h
        · refine ih _ _ w (by have := iF (by omega) hs hun'; omega) (by simpa using hs) (hcl.set hoi hall) (fun k hmk hk' => ?_) h1 hx h2 (fun i' hi' j' hj' hne hli hlj => ?_) (fun e he hl => ?_)
          · rw [getD_set_ne false (by omega)]; exact hm k hmk hk'
          · have e1 : i ≠ i' := fun e => (hal i' hi').2 (e ▸ hif)
            have e2 : i ≠ j' := fun e => (hal j' hj').2 (e ▸ hif)
            rw [getD_set_ne false e1] at hli
            rw [getD_set_ne false e2] at hlj
            rw [iX hk hoi him v e1 (hal i' hi').1, iX hk hoi him v e2 (hal j' hj').1]
            exact hdi i' hi' j' hj' hne hli hlj
          · obtain ⟨k1, k2, k3, k4, o', t, k5, k6, k7⟩ := hlk e he
            have dep_ne : listed.getD e.2.1 false = true → i ≠ e.2.1 := fun h e' => by rw [← e', hun'] at h; cases h
            by_cases hie : i = e.1
            · have hdl : listed.getD e.2.1 false = true := hcl.reach hk i o hoi hall _ (by have := hk.deps i o hoi him e.2.1 (by rw [hie]; exact k4); exact this)
              rw [iX hk hoi him v (dep_ne hdl) k3]
              obtain ⟨d, hd, hdn, _⟩ := hk.dst i o hoi him
              have e1 : cL ol e.1 = some d := by rw [← hie]; unfold cL; rw [hoi]; exact hd
              rw [e1, hd, mZ hr.size hdn, k7]
              have e2 : o' = o := by rw [← hie, hoi] at k5; exact (i1 k5).symm
              exact MO (o := o) (by rw [← e2]; exact k6) hex
            · rw [getD_set_ne false hie] at hl
              have hdl : listed.getD e.2.1 false = true := hcl.reach hk e.1 o' k5 (fun x hx hb => hcl e.1 o' k5 hl x hx hb) _ (hk.deps e.1 o' k5 k1 e.2.1 k4)
              rw [iX hk hoi him v hie k1, iX hk hoi him v (dep_ne hdl) k3]
              exact hli e he hl
      · have hjf : j ∉ fl := fun h => hfl ⟨j, h, hjr⟩
        refine ⟨fun h0 => (by rw [h0] at hjr; cases hjr), fun i hir => ?_⟩
        obtain ⟨hun, o, hoi, hall⟩ := gW.1 hir
        have hil : i < ol.length := (eJ.1 hoi).1
        have him : i < m := by
          rcases fS i m with h | h
          · exact h
          · rcases hk.tail i o hoi h j (by omega) with h1 | h1
            · exact absurd h1 hjf
            · have := hcl.reach hk i o hoi hall j h1
              rw [hjl] at this; cases this
        have hif : i ∉ fl := fun h => hfl ⟨i, h, hir⟩
        have hun' : listed.getD i false = false := by rw [← gZ]; exact hun
        have aK := uE (k := 0) ho i o (by simpa using hoi) (by rw [hk.dlen]; exact him)
        rw [dY, if_neg (by simpa using hif)] at aK
        obtain ⟨acc, hacc, hwl⟩ := Deps.apply (n := n) _ l (facts_of i o hoi him hir) (aK w hx) hr
        have hl := hwl a hacc
        have next : ∀ v w', mG w o.dst (fun v w' => gA Rs i v w' ∧ (al.contains i = true → pQ w v)) .normal (a.put o.dst v) w' → wpAny P .any ol.toArray (NP Q) fuel (listed.setIfInBounds i true) (a.put o.dst v) w' := by
          intro v w' hpi
          obtain ⟨e, hR, _⟩ := hpi
          have hv : gA Rs i v w' ∧ (al.contains i = true → pQ w v) := by
            obtain ⟨d, hd, hdn, _⟩ := hk.dst i o hoi him
            rw [hd, mZ hr.size hdn] at hR
            exact hR
          obtain ⟨h1, h2⟩ := y5 hk hoi him hm hr hfact hx e hv.1
          have hself : fD (a.put o.dst v) (cL ol i) = v := by
            obtain ⟨d, hd, hdn, _⟩ := hk.dst i o hoi him
            have e1 : cL ol i = some d := by unfold cL; rw [hoi]; exact hd
            rw [e1, hd, mZ hr.size hdn]
          have fresh : ∀ j ∈ al, j ≠ i → listed.getD j false = true → al.contains i = true → ∀ g, iK (fD a (cL ol j)) g → iK v g → False := by
            intro j hj hji hlj hci g hg hg'
            obtain ⟨wj, _, f2, hRj⟩ := hfact j (by have := (hal j hj).1; omega) hlj
            have hlt := zC hold j hj _ _ hRj g hg
            have hge := hv.2 hci g hg'
            have := f2.size
            omega
          refine ih _ _ w' (by have := iF hil hs hun'; omega) (by simpa using hs) (hcl.set hoi hall) (fun k hmk hk' => ?_) h1 (hx.trans e) h2 (fun i' hi' j' hj' hne hli hlj => ?_) (fun e he hl => ?_)
          · rw [getD_set_ne false (by omega)]; exact hm k hmk hk'
          · by_cases e1 : i = i'
            · subst e1
              rw [getD_set_ne false hne] at hlj
              rw [hself, iX hk hoi him v hne (hal j' hj').1]
              exact fun g h h' => fresh j' hj' (lN hne) hlj (by simpa using hi') g h' h
            · rw [getD_set_ne false e1] at hli
              by_cases e2 : i = j'
              · subst e2
                rw [hself, iX hk hoi him v e1 (hal i' hi').1]
                exact fresh i' hi' (lN e1) hli (by simpa using hj')
              · rw [getD_set_ne false e2] at hlj
                rw [iX hk hoi him v e1 (hal i' hi').1, iX hk hoi him v e2 (hal j' hj').1]
                exact hdi i' hi' j' hj' hne hli hlj
          · obtain ⟨k1, k2, k3, k4, o', t, k5, k6, k7⟩ := hlk e he
            have hie : i ≠ e.1 := fun e' => hif (e' ▸ k2)
            rw [getD_set_ne false hie] at hl
            have hdl : listed.getD e.2.1 false = true := hcl.reach hk e.1 o' k5 (fun x hx hb => hcl e.1 o' k5 hl x hx hb) _ (hk.deps e.1 o' k5 k1 e.2.1 k4)
            rw [iX hk hoi him v hie k1, iX hk hoi him v (fun e' => by rw [← e', hun'] at hdl; cases hdl) k3]
            exact hli e he hl
        have nolets : ¬ LetsOut (mG w o.dst (fun v w' => gA Rs i v w' ∧ (al.contains i = true → pQ w v))) := fun ⟨_, _, h⟩ => h
        unfold wpOp
        rw [kJ, hoi]
        unfold wpList at hl
        simp only at hl ⊢
        split at hl
        · rename_i hw
          rw [if_pos hw]
          rcases hl with hl | hl
          · exact bY (x7 hl (fun _ _ _ h => h) nolets (fun a w h => h.2.2) (fun v w' h => next v w' h))
          · exact absurd hl.2 nolets
        · rename_i hw
          rw [if_neg hw]
          exact next _ _ hl
theorem NT (hmix:P.follows .mixedOrders=true)(m:Nat)(fl al:List Nat)(lk:List (Nat×Nat×Nat))(Rs:List (aC→a6→Prop))(dss:List (List Nat))(rl:List (List Nat))(hk:pG n ol m fl l dss rl=true)(hal:al.all (fun i=>decide (i<m)&& !fl.contains i)=true)(hold:pP Rs al)(hlk:wE ol m fl dss lk)(ho:j7 P n ol fl al Rs l w dss 0)(hfin:∀w1,Ext w w1→Deps ol Rs w w1 (fun acc=>pS ol al acc→wF ol lk acc→wl P ol.toArray (NP Q) n (ol.drop m) acc w1) (eV m) l):cw P Q n (.region id ol.toArray true) l w:=fun a q=>by
 refine Code.wp_mono NP.imp (wp_region_any hmix ?_)
 have p:(mT ol.toArray.size false).size=ol.length:=by simp
 have f:∀i,(mT ol.toArray.size false).getD i false=false:=by
  intro i
  simp only [lU,wT]
  split <;> rfl
 have hal':∀i∈al,i<m∧i ∉ fl:=by
  intro i hi
  rw [dZ] at hal
  simpa using hal i hi
 refine K5 hlk (MX hk) hal' hold ho hfin ol.toArray.size _ a _ ?_ p (fun i o ho h=>by rw [f i] at h;cases h) (fun i _ hi=>f i) q (Ext.refl w).drew (fun i hi h=>by rw [f i] at h;cases h) (fun i _ j _ _ h=>by rw [f i] at h;cases h) (fun e _ h=>by rw [f e.1] at h;cases h)
 refine aN wQ ?_
 simp
theorem JJ:wE ol m fl dss []:=fun e f=>by cases f
theorem NU (hmix:P.follows .mixedOrders=true)(m:Nat)(fl al:List Nat)(Rs:List (aC→a6→Prop))(dss:List (List Nat))(rl:List (List Nat))(hk:pG n ol m fl l dss rl=true)(hal:al.all (fun i=>decide (i<m)&& !fl.contains i)=true)(hold:pP Rs al)(ho:j7 P n ol fl al Rs l w dss 0)(hfin:∀w1,Ext w w1→Deps ol Rs w w1 (fun acc=>pS ol al acc→wl P ol.toArray (NP Q) n (ol.drop m) acc w1) (eV m) l):cw P Q n (.region id ol.toArray true) l w:=
 NT hmix m fl al [] Rs dss rl hk hal hold JJ ho (fun w1 h=>Deps.weak (fun _ h1 h2 _=>h1 h2) _ _ (hfin w1 h))
theorem fG (hmix:P.follows .mixedOrders=true)(m:Nat)(fl:List Nat)(Rs:List (aC→a6→Prop))(dss:List (List Nat))(rl:List (List Nat))(hk:pG n ol m fl l dss rl=true)(ho:j7 P n ol fl [] Rs l w dss 0)(hfin:∀w1,Ext w w1→Deps ol Rs w w1 (fun acc=>wl P ol.toArray (NP Q) n (ol.drop m) acc w1) (eV m) l):cw P Q n (.region id ol.toArray true) l w:=
 NU hmix m fl [] Rs dss rl hk E i3 ho (fun w1 h=>Deps.weak (k:=fun acc=>wl P ol.toArray (NP Q) n (ol.drop m) acc w1) (k':=fun acc=>pS ol [] acc→wl P ol.toArray (NP Q) n (ol.drop m) acc w1) (fun _ h1 _=>h1) _ _ (hfin w1 h))
theorem fE:j7 P n ol fl al Rs l w [] k:=trivial
theorem aP (ho:ol[k]?=some o)(hf:fl.contains k=false)(h:sC P n ol al Rs l w k o ds)(h':j7 P n ol fl al Rs l w dss (k+1)):j7 P n ol fl al Rs l w (ds::dss) k:=
 ⟨by rw [ho];simp only;rw [hf];exact h,h'⟩
theorem zE (ho:ol[k]?=some o)(hf:fl.contains k=true)(h:sD P ol Rs l w k o ds)(h':j7 P n ol fl al Rs l w dss (k+1)):j7 P n ol fl al Rs l w (ds::dss) k:=
 ⟨by rw [ho];simp only;rw [hf];exact h,h'⟩
theorem aK {R:aC→a6→Prop}(hR:Rs[k]?=some R)(hn:al.contains k=false)(h:∀w1,Ext w w1→Deps ol Rs w w1 (fun acc=>wl P ol.toArray (mG w1 o.dst R) n [o] acc w1) ds l):sC P n ol al Rs l w k o ds:=by
 have e:gA Rs k=R:=by unfold gA;rw [hR];rfl
 intro w1 q
 rw [e]
 refine Deps.weak (fun acc h1 a r=>?_) _ _ (h w1 q)
 have h2:=h1 a r
 unfold wpList at h2⊢
 have imp:∀a' w',mG w1 o.dst R .normal a' w'→mG w1 o.dst (fun v w=>R v w∧(al.contains k=true→pQ w1 v)) .normal a' w':=fun a' w' j=>⟨j.1,⟨j.2.1,fun p=>by rw [hn] at p;cases p⟩,j.2.2⟩
 split at h2
 ·rename_i f
  rw [if_pos f]
  rcases h2 with h2 | h2
  ·exact bY (x7 h2 (fun _ _ _ h=>h) (fun⟨_,_,h⟩=>h) (fun a w h=>h.2.2) (fun v w' h=>imp _ _ h))
  ·exact absurd h2.2 (fun⟨_,_,h⟩=>h)
 ·rename_i f
  rw [if_neg f]
  exact imp _ _ h2
theorem C3 {R:aC→a6→Prop}(hR:Rs[k]?=some R)(h:∀w1,Ext w w1→Deps ol Rs w w1 (fun acc=>∃v,iJ acc o.op=true∧cF ol.toArray acc o.guard=some true∧(∀w,(execOp (rho acc) o).run P w= .ok (.value v) w)∧R v w1) ds l):sD P ol Rs l w k o ds:=by
 have e:gA Rs k=R:=by unfold gA;rw [hR];rfl
 intro w1 f
 rw [e]
 exact h w1 f
end
def fP (P:bT)(n:Nat)(l:Fr)(o:aX)(w:a6)(x:eC)(w':a6):Prop:=∀a,Rp n l a→(execOp a.eval o).run P w= .ok x w'
section
variable {P:bT}{n:Nat}{l:Fr}{w:a6}{d:Nat}{op:Op}{ty:aQ}{pos:String}{af:Array Edge}{gd:Option (Nat×Bool)}
theorem fX (hk:iJ l op=true)(hr:(execOp (rho l) ⟨dst,op,ty,pos,af,gd⟩).run P w= .ok (.value v) w:=by kernel_rfl):fP P n l ⟨dst,op,ty,pos,af,gd⟩ w (.value v) w:=fun a e=>by rw [nO hk e];exact hr
theorem iY {x:bW}{t:aQ}(hx:bK l x=some (.pointer (some p)))(hl:(loadVar t p).run P w= .ok v w):fP P n l ⟨dst,.load t x,ty,pos,af,gd⟩ w (.value v) w:=fun a f=>by
 have e:(sR t (a.eval x)).run P w= .ok v w:=by rw [f.ev hx];exact hl
 show ((sR t (a.eval x)>>=fun r=>pure (eP r):Sem eC)).run P w=_
 rw [bQ,e];rfl
theorem HX {x y:bW}{t:aQ}(hx:bK l x=some (.pointer (some p)))(hy:bK l y=some v)(hs:(storeVar t p v).run P w= .ok () w'):fP P n l ⟨dst,.store t x y,ty,pos,af,gd⟩ w .skip w':=fun a f=>by
 have e:(sQ t (a.eval x) (a.eval y)).run P w= .ok () w':=by rw [f.ev hx,f.ev hy];exact hs
 show ((sQ t (a.eval x) (a.eval y)>>=fun _=>pure Next.skip:Sem eC)).run P w=_
 rw [bQ,e];rfl
theorem yR {x:bW}(hx:bK l x=some v):fP P n l ⟨dst,.assign x,ty,pos,af,gd⟩ w (.value v) w:=fun a e=>by simp only [execOp,e.ev hx];rfl
theorem jF {x:bW}(hx:bK l x=some v):fP P n l ⟨dst,.move x,ty,pos,af,gd⟩ w (.value v) w:=fun a e=>by simp only [execOp,e.ev hx];rfl
end
def dfr (ol:List aX)(vs:List aC)(l:Fr):List Nat→Fr
 | []=>l
 | j::ds=>uA (cL ol j) ((vs[j]?).getD undef) (dfr ol vs l ds)
def wv (ws:List a6)(w:a6)(t:Nat):a6:=(ws[t]?).getD w
section
variable (P:bT) (n:Nat) (ol:List aX) (vs:List aC) (ws:List a6) (w:a6) (dss:List (List Nat)) (l:Fr) (st:List Nat)
def sF (i t:Nat):Prop:=
 match ol[i]? with
 | some o=>if st.contains i then fP P n (dfr ol vs l (bX dss i)) o (wv ws w t) .skip (wv ws w (t+1)) else fP P n (dfr ol vs l (bX dss i)) o (wv ws w t) (.value ((vs[i]?).getD undef)) (wv ws w t)
 | none=>True
def mI:List (Nat×Nat)→Prop
 | []=>True
 | (i,t)::r=>sF P n ol vs ws w dss l st i t∧mI r
def rY (ol:List aX)(vs:List aC)(l:Fr):Fr:=dfr ol vs l (eV ol.length)
end
def fZ (st js:List Nat):Nat:=(st.filter fun s=>js.contains s).length
def vG (n : Nat)(ol : List aX)(st : List Nat)(l : Fr)(dss rl : List (List Nat))(ps : List (Nat × Nat)): Bool :=
  (ol.zipIdx.all fun (o, i) => (match o.guard with | none => true | some _ => false) && (o.after.toList.all fun e => !Region.binds .any e || decide (e.on < i)) &&
    ((bX rl i).all fun j => decide (j < i) && o.after.toList.any fun e => fQ .any e && (e.on == j || (bX rl e.on).contains j)) &&
    ((bX dss i).all fun j => (bX rl i).contains j) &&
    (match o.dst with
     | some d => !st.contains i && decide (d < n) && l.all (fun p => p.1 != d) && ol.zipIdx.all (fun (o', j) => j == i || o'.dst != some d)
     | none => st.contains i) &&
    (eV (st.length + 1)).all (fun t => decide (t < fZ st (bX rl i)) || (t != 0 && (bX rl (st.getD (t - 1) 0)).contains i) || (st.contains i && t != fZ st (bX rl i)) || ps.contains (i, t))) &&
  (eV st.length).all (fun t => decide (st.getD t 0 < ol.length) && (eV t).all fun u => (bX rl (st.getD t 0)).contains (st.getD u 0))
structure DetOk (n:Nat)(ol:List aX)(st:List Nat)(l:Fr)(dss rl:List (List Nat))(ps:List (Nat×Nat)):Prop where
 guard:∀(i:Nat) (o:aX),ol[i]?=some o→o.guard=none
 back:∀(i:Nat) (o:aX),ol[i]?=some o→∀e∈o.after,fQ .any e=true→e.on<i
 reach:∀(i:Nat) (o:aX),ol[i]?=some o→∀j∈bX rl i,j<i∧∃e∈o.after,fQ .any e=true∧(e.on=j∨j∈bX rl e.on)
 deps:∀(i:Nat) (o:aX),ol[i]?=some o→∀j∈bX dss i,j∈bX rl i
 val:∀(i:Nat) (o:aX),ol[i]?=some o→∀d,o.dst=some d→i ∉ st∧d<n∧(∀p∈l,p.1≠d)∧∀(j:Nat) (o':aX),ol[j]?=some o'→j≠i→o'.dst≠some d
 sto:∀(i:Nat) (o:aX),ol[i]?=some o→o.dst=none→i∈st
 pair:∀(i:Nat) (o:aX),ol[i]?=some o→∀t,t≤st.length→fZ st (bX rl i)≤t→(t=0∨i ∉ bX rl (st.getD (t-1) 0))→(i∈st→t=fZ st (bX rl i))→(i,t)∈ps
 inN:∀t,t<st.length→st.getD t 0<ol.length
 ord:∀t,t<st.length→∀u,u<t→st.getD u 0∈bX rl (st.getD t 0)
theorem NQ {l:Fr}{rl:List (List Nat)}(h:vG n ol st l dss rl ps=true):DetOk n ol st l dss rl ps:=by
 simp only [vG,dI] at h
 obtain⟨h1,h2⟩:=h
 have key:=fun (i:Nat) (o:aX) (f:ol[i]?=some o)=>mC h1 i o f
 simp only [dI] at key
 have q:∀t,t<st.length→st.getD t 0<ol.length∧∀u,u<t→st.getD u 0∈bX rl (st.getD t 0):=by
  intro t ht
  rw [dZ] at h2
  have:=h2 t (fU.2 ht)
  simp only [dI,decide_eq_true_eq,dZ,fU,jB] at this
  exact this
 refine⟨fun i o f=>?_,fun i o f e I hb=>?_,fun i o f j L=>?_,fun i o f j L=>?_,fun i o f d D=>?_,fun i o f D=>?_,fun i o f t ht _ O V=>?_,fun t ht=>(q t ht).1,fun t ht=>(q t ht).2⟩
 ·have:=(key i o f).1.1.1.1.1
  cases hg:o.guard with
  | none=>rfl
  | some g=>rw [hg] at this;cases this
 ·have:=(key i o f).1.1.1.1.2
  rw [dZ] at this
  have:=this e (by simpa using I)
  simpa [hb] using this
 ·have:=(key i o f).1.1.1.2
  rw [dZ] at this
  have:=this j L
  simp only [dI,decide_eq_true_eq,sO,jZ,beq_iff_eq,jB] at this
  obtain⟨r,e,I,hb,H⟩:=this
  exact⟨r,e,by simpa using I,hb,H⟩
 ·have:=(key i o f).1.1.2
  rw [dZ] at this
  simpa using this j L
 ·have:=(key i o f).1.2
  rw [D] at this
  simp only [dI,Bool.not_eq_true',decide_eq_true_eq] at this
  obtain⟨⟨⟨r,H⟩,M⟩,X⟩:=this
  refine⟨fun W=>?_,H,fun p U=>?_,fun j o' ho' F e=>?_⟩
  ·rw [jB.2 W] at r;cases r
  ·rw [dZ] at M
   simpa using M p U
  ·have:=mC X j o' ho'
   simp only [jZ,beq_iff_eq,bne_iff_ne] at this
   rcases this with h | h
   ·exact F h
   ·exact h e
 ·have:=(key i o f).1.2
  rw [D] at this
  exact jB.1 this
 ·have:=(key i o f).2
  rw [dZ] at this
  have:=this t (fU.2 (by omega))
  simp only [jZ,dI,decide_eq_true_eq,bne_iff_ne,ne_eq,jB] at this
  rcases this with ((h | h) | h) | h
  ·omega
  ·rcases O with h0 | h0
   ·exact absurd h0 h.1
   ·exact absurd h.2 h0
  ·exact absurd (V h.1) h.2
  ·exact h
section
variable {P:bT}{Q:cQ→Act→a6→Prop}{n:Nat}{ol:List aX}{vs:List aC}{ws:List a6}{w:a6}{dss rl:List (List Nat)}{l:Fr}{st:List Nat}{ps:List (Nat×Nat)}
theorem CG:∀{ps:List (Nat×Nat)},mI P n ol vs ws w dss l st ps→∀i t,(i,t)∈ps→sF P n ol vs ws w dss l st i t
 | [],_,i,t,h=>by cases h
 | (j,u)::r,h,i,t,hm=>by
  rcases i6.1 hm with e | e
  ·cases e;exact h.1
  ·exact CG h.2 i t e
theorem Rp.dfr {a:Act}(hr:Rp n l a):∀(ds:List Nat),(∀j∈ds,∀d,cL ol j=some d→a.tmps.getD d undef=(vs[j]?).getD undef)→Rp n (Go.Proofs.YtnpbbknemflpnaaGreatDoor.dfr ol vs l ds) a
 | [],_=>hr
 | j::ds,h=>by
  have ih:=Rp.dfr hr ds (fun i hi=>h i (by simp [hi]))
  simp only [Go.Proofs.YtnpbbknemflpnaaGreatDoor.dfr]
  cases hd:cL ol j with
  | none=>exact ih
  | some d=>exact ih.cons (h j (by simp) d hd)
theorem CV (hk:DetOk n ol st l dss rl ps)(h:Closed ol listed):∀(i:Nat) (o:aX),ol[i]?=some o→(∀e∈o.after,fQ .any e=true→listed.getD e.on false=true)→∀j∈bX rl i,listed.getD j false=true:=by
 intro i
 induction i using o5 with
 | ind i ih=>
  intro o ho hall j hj
  obtain⟨_,e,he,hb,h1⟩:=hk.reach i o ho j hj
  have hlt:=hk.back i o ho e he hb
  rcases h1 with h1 | h1
  ·rw [←h1];exact hall e he hb
  ·have hN:e.on<ol.length:=kQ hlt (eJ.1 ho).1
   exact ih e.on hlt _ (bS hN) (h e.on _ (bS hN) (hall e he hb)) j h1
theorem CQ {t:Nat}(h:∀u,t≤u→u<st.length→st.getD u 0 ∉ js):fZ st js≤t:=by
 unfold fZ
 have e:st.filter (fun s=>js.contains s)=(st.take t).filter (fun s=>js.contains s)++(st.drop t).filter (fun s=>js.contains s):=by rw [←DY,kT]
 have o:(st.drop t).filter (fun s=>js.contains s)= []:=by
  refine List.filter_eq_nil_iff.2 fun s j=>?_
  obtain⟨u,f,rfl⟩:=sL j
  rw [fN] at f
  have:=h (t+u) (by omega) (by omega)
  rw [List.getElem_drop]
  rw [bE,bS (by omega)] at this
  simpa using this
 rw [e,o,List.append_nil]
 refine aN (List.length_filter_le _ _) ?_
 rw [cV];omega
theorem AP {t:Nat}(ht:t≤st.length)(h:∀u,u<t→st.getD u 0∈js):t≤fZ st js:=by
 unfold fZ
 have e:st.filter (fun s=>js.contains s)=(st.take t).filter (fun s=>js.contains s)++(st.drop t).filter (fun s=>js.contains s):=by rw [←DY,kT]
 have o:(st.take t).filter (fun s=>js.contains s)=st.take t:=by
  refine List.filter_eq_self.2 fun s j=>?_
  obtain⟨u,f,rfl⟩:=sL j
  rw [cV] at f
  have:=h u (by omega)
  rw [List.getElem_take]
  rw [bE,bS (by omega)] at this
  simpa using this
 rw [e,o,List.length_append,cV];omega
theorem NM (hk:DetOk n ol st l dss rl ps)(ho:mI P n ol vs ws w dss l st ps)(hfin:eo Q .normal n (rY ol vs l) (wv ws w st.length)):∀(fuel:Nat) (listed:Array Bool) (a:Act) (t:Nat),mV ol.length listed≤fuel→listed.size=ol.length→Closed ol listed→t≤st.length→(∀u,u<st.length→listed.getD (st.getD u 0) false=decide (u<t))→Rp n l a→
   (∀i,i<ol.length→listed.getD i false=true→∀d,cL ol i=some d→a.tmps.getD d undef=(vs[i]?).getD undef)→wpAny P .any ol.toArray Q fuel listed a (wv ws w t):=by
 have fin:∀(listed:Array Bool) (a:Act) (t:Nat),(∀i,i<ol.length→listed.getD i false=true)→t≤st.length→(∀u,u<st.length→listed.getD (st.getD u 0) false=decide (u<t))→Rp n l a→
   (∀i,i<ol.length→listed.getD i false=true→∀d,cL ol i=some d→a.tmps.getD d undef=(vs[i]?).getD undef)→Q .normal a (wv ws w t):=by
  intro listed a t hall ht hst hr hv
  have e:t=st.length:=by
   rcases fS t st.length with h | h
   ·have h1:=hst t h
    rw [hall _ (hk.inN t h)] at h1
    simp at h1
   ·omega
  subst e
  exact hfin a (hr.dfr _ fun j hj d hd=>hv j (fU.1 hj) (hall j (fU.1 hj)) d hd)
 intro fuel
 induction fuel with
 | zero=>
  intro listed a t hf hs hcl ht hst hr hv
  have hall:∀i,i<ol.length→listed.getD i false=true:=by
   intro i hi
   cases h:listed.getD i false with
   | true=>rfl
   | false=>have:=iF hi hs h;omega
  refine⟨?_,fin listed a t hall ht hst hr hv⟩
  refine sM.2 fun j hj=>?_
  obtain⟨h1,o,hoj,_⟩:=gW.1 hj
  have hjl:j<ol.length:=(eJ.1 hoj).1
  rw [gZ,hall j hjl] at h1
  cases h1
 | succ fuel ih=>
  intro listed a t hf hs hcl ht hst hr hv
  refine⟨fun h0=>?_,fun i hir=>?_⟩
  ·refine fin listed a t (fun i hi=>?_) ht hst hr hv
   have key:∀k,k≤ol.length→∀i,i<k→listed.getD i false=true:=by
    intro k
    induction k with
    | zero=>intro _ i hi;omega
    | succ k ihk=>
     intro hk' i hi
     have ih':=ihk (by omega)
     rcases fS i k with h | h
     ·exact ih' i h
     ·have e:i=k:=by omega
      subst e
      cases hb:listed.getD i false with
      | true=>rfl
      | false=>
       have hrdy:i∈mK .any ol.toArray listed:=gW.2 ⟨by rw [gZ];exact hb,_,bS (by omega),fun e he hbb=>ih' _ (hk.back i _ (bS (by omega)) e he hbb)⟩
       rw [h0] at hrdy;cases hrdy
   exact key ol.length (aZ _) i hi
  ·obtain⟨hun,o,hoi,hall⟩:=gW.1 hir
   have hil:i<ol.length:=(eJ.1 hoi).1
   have hun':listed.getD i false=false:=by rw [←gZ];exact hun
   have hrch:=CV hk hcl i o hoi hall
   have hcnt:fZ st (bX rl i)≤t:=CQ fun u hu1 hu2 hm=>by
    have h1:=hrch _ hm
    rw [hst u hu2] at h1
    simp at h1;omega
   have hzero:t=0∨i ∉ bX rl (st.getD (t-1) 0):=by
    rcases gQ t with h | h
    ·exact bY h
    ·refine cA fun hm=>?_
     have h1:=hst (t-1) (by omega)
     rw [decide_eq_true (by omega)] at h1
     have hN:=hk.inN (t-1) (by omega)
     have h2:=CV hk hcl _ _ (bS hN) (fun e he hb=>hcl _ _ (bS hN) h1 e he hb) i hm
     rw [hun'] at h2;cases h2
   have hstore:i∈st→t<st.length∧st.getD t 0=i∧t=fZ st (bX rl i):=by
    intro hm
    obtain⟨u,hu,heq⟩:=sL hm
    have hg:st.getD u 0=i:=by rw [bE,bS hu];exact heq
    have h1:=hst u hu
    rw [hg,hun'] at h1
    have h2:¬u<t:=by intro h;rw [decide_eq_true h] at h1;cases h1
    have h3:u=t:=by
     rcases fS t u with h | h
     ·have h4:=hk.ord u hu t h
      rw [hg] at h4
      have h5:=hrch _ h4
      rw [hst t (by omega)] at h5
      simp at h5
     ·omega
    subst h3
    refine⟨hu,hg,?_⟩
    have h4:=AP (st:=st) (js:=bX rl i) (t:=u) (by omega) (fun v hv'=>by rw [←hg];exact hk.ord u hu v hv')
    omega
   have aK:=CG ho i t (hk.pair i o hoi t ht hcnt hzero (fun hm=>(hstore hm).2.2))
   unfold sF at aK
   rw [hoi] at aK
   simp only at aK
   have hacc:Rp n (dfr ol vs l (bX dss i)) a:=hr.dfr _ fun j hj d hd=>by
    have h1:=hrch j (hk.deps i o hoi j hj)
    have h2:=(hk.reach i o hoi j (hk.deps i o hoi j hj)).1
    exact hv j (by omega) h1 d hd
   have hwant:o3 o (yielded ol.toArray a.tmps)=true:=by simp [o3,hk.guard i o hoi]
   unfold wpOp
   rw [kJ,hoi]
   simp only
   rw [if_pos hwant]
   refine bY ?_
   unfold jW
   cases hd:o.dst with
   | some d=>
    obtain⟨hnst,hdn,hfar,hoth⟩:=hk.val i o hoi d hd
    rw [if_neg (by simpa using hnst)] at aK
    rw [aK a hacc]
    simp only [kO,hd]
    refine ih _ _ t (by have:=iF hil hs hun';omega) (by simpa using hs) (hcl.set hoi hall) ht (fun u hu=>?_) (hr.put_far hfar _) (fun j hj hlj e he=>?_)
    ·rw [getD_set_ne false (fun e=>hnst (by rw [e,bE,bS hu];exact jA hu))]
     exact hst u hu
    ·by_cases hij:i=j
     ·subst hij
      have e1:cL ol i=some d:=by unfold cL;rw [hoi];exact hd
      rw [e1] at he
      cases he
      exact mZ hr.size hdn _
     ·rw [getD_set_ne false hij] at hlj
      have hne:e≠d:=by
       intro hed
       subst hed
       obtain⟨oj,hoj⟩:∃oj,ol[j]?=some oj:=⟨_,bS hj⟩
       refine hoth j oj hoj (lN hij) ?_
       unfold cL at he
       rw [hoj] at he
       exact he
      have:=qR (a:=a) (d:=d) (e:=some e) (fun h=>hne (i1 h)) ((vs[i]?).getD undef)
      exact this.trans (hv j hj hlj e he)
   | none=>
    have hm:=hk.sto i o hoi hd
    obtain⟨htl,hgt,_⟩:=hstore hm
    rw [if_pos (by simpa using hm)] at aK
    rw [aK a hacc]
    simp only [kO,hd]
    refine ih _ _ (t+1) (by have:=iF hil hs hun';omega) (by simpa using hs) (hcl.set hoi hall) (by omega) (fun u hu=>?_) hr (fun j hj hlj e he=>?_)
    ·by_cases hut:u=t
     ·subst hut
      rw [hgt]
      simp [hs,hil]
     ·have hne:i≠st.getD u 0:=by
       intro e
       rcases fS u t with h | h
       ·have h1:=hst u hu
        rw [←e,hun',decide_eq_true h] at h1;cases h1
       ·have h4:=hk.ord u hu t (by omega)
        rw [hgt,←e] at h4
        have:=(hk.reach i o hoi i h4).1
        omega
      rw [getD_set_ne false hne,hst u hu]
      congr 1
      simp only [eq_iff_iff]
      omega
    ·by_cases hij:i=j
     ·subst hij
      have e1:cL ol i=none:=by unfold cL;rw [hoi];exact hd
      rw [e1] at he;cases he
     ·rw [getD_set_ne false hij] at hlj
      exact hv j hj hlj e he
theorem vJ (hmix:P.follows .mixedOrders=true)(vs:List aC)(ws:List a6)(st:List Nat)(dss rl:List (List Nat))(ps:List (Nat×Nat))(hk:vG n ol st l dss rl ps=true)(hw:wv ws w 0=w0.drew)(ho:mI P n ol vs ws w dss l st ps)(hfin:eo Q .normal n (rY ol vs l) (wv ws w st.length)):cw P Q n (.region id ol.toArray true) l w0:=fun a j=>by
 refine wp_region_any hmix ?_
 have f:(mT ol.toArray.size false).size=ol.length:=by simp
 have e:∀i,(mT ol.toArray.size false).getD i false=false:=by
  intro i
  simp only [lU,wT]
  split <;> rfl
 have:=NM (NQ hk) ho hfin ol.toArray.size _ a 0 (by
  refine aN wQ ?_
  simp) f (fun i o _ h=>by rw [e] at h;cases h) (cE _) (fun u _=>by rw [e];simp) j (fun i _ h=>by rw [e] at h;cases h)
 rw [hw] at this
 exact this
theorem dH {t:Nat}(acc:Fr)(ho:ol[i]?=some o)(hs:st.contains i=false)(hv:(vs[i]?).getD undef=v)(hw:wv ws w t=wt)(hacc:dfr ol vs l (bX dss i)=acc)(h:fP P n acc o wt (.value v) wt)(h':mI P n ol vs ws w dss l st ps):mI P n ol vs ws w dss l st ((i,t)::ps):=⟨by unfold sF;rw [ho];simp only;rw [hs,if_neg (by simp),hv,hw,hacc];exact h,h'⟩
theorem vD:mI P n ol vs ws w dss l st []:=trivial
end
def cX (n:Nat):Nat:=if n=0 then 0 else Nat.log2 n+1
theorem vP:cX 0=0:=rfl
theorem rE (n:Nat):n<2^cX n:=by
 unfold cX
 split
 ·omega
 ·exact Nat.lt_log2_self
theorem vQ (h:n≠0):2^(cX n-1)≤n:=by
 unfold cX
 rw [if_neg h,oA]
 exact Nat.log2_self_le h
theorem nR:cX n=0↔n=0:=by
 unfold cX;split <;> simp_all
theorem vR (h:n<2^k):cX n≤k:=by
 by_cases h0:n=0
 ·subst h0;rw [vP];omega
 ·have h1:=vQ h0
  have h2:2^(cX n-1)<2^k:=jY h1 h
  have:=(wJ (by omega:1<2)).1 h2
  have f:cX n≠0:=fun e=>h0 (nR.1 e)
  omega
theorem D2 (h1:n<2^k)(h2:k=0∨2^(k-1)≤n):cX n=k:=by
 have f:=vR h1
 rcases h2 with h | h
 ·omega
 ·by_cases h0:k=0
  ·omega
  ·have e:2^(k-1)<2^cX n:=jY h (rE n)
   have:=(wJ (by omega:1<2)).1 e
   omega
theorem D4 (x:Nat)(h:x<18446744073709551616):Lib.bitLen x=cX x:=by
 by_cases h0:x=0
 ·subst h0;simp [Lib.bitLen,Lib.bitLenAux_zero,vP]
 ·obtain⟨a,b,c⟩:=Lib.bitLenAux_bounds 64 x h h0
  exact (D2 c (cA b)).symm
theorem kM:WB=2^64:=by decide
theorem D0 (x y c:Nat)(hc:c≤1)(w:a6):(callFunc 148 #[a5 (x:Int),a5 (y:Int),a5 (c:Int)]).run aG w=
   .ok (.value (.tuple #[a5 (((x+y+c)%18446744073709551616:Nat):Int),a5 (((x+y+c)/18446744073709551616:Nat):Int)])) w:=by
 rw [run_callFunc_extern Tryz.func148 (by kernel_rfl) (by kernel_rfl) (by kernel_rfl) (e:=add64Entry) (by kernel_rfl),run_add64 x y c (by omega) (by omega) (by omega) (by omega)]
 simp only [Result.andThen]
 congr 5 <;> omega
theorem rZ {c:Nat}(hc:c≤1)(hx:x≤18446744073709551615)(hy:y≤18446744073709551615):∃s d:Nat,Hid (s+WB*d=x+y+c)∧s≤18446744073709551615∧d≤1∧
  ∀w,(callFunc 148 #[a5 (x:Int),a5 (y:Int),a5 (c:Int)]).run aG w= .ok (.value (.tuple #[a5 (s:Int),a5 (d:Int)])) w:=
 ⟨(x+y+c)%18446744073709551616,(x+y+c)/18446744073709551616,(show _=_ by rw [cH];exact kP _ _),by omega,by omega,fun w=>D0 x y c hc w⟩
theorem pM (hx:x≤18446744073709551615)(hy:y≤18446744073709551615):∃s d:Nat,Hid (s+WB*d=x+y)∧s≤18446744073709551615∧d≤1∧
  ∀w,(callFunc 148 #[a5 (x:Int),a5 (y:Int),a5 0]).run aG w= .ok (.value (.tuple #[a5 (s:Int),a5 (d:Int)])) w:=
 rZ (c:=0) (by omega) hx hy
theorem OX (hx:x≤18446744073709551615):∃s d:Nat,Hid (s+WB*d=x+1)∧s≤18446744073709551615∧d≤1∧
  ∀w,(callFunc 148 #[a5 (x:Int),a5 0,a5 1]).run aG w= .ok (.value (.tuple #[a5 (s:Int),a5 (d:Int)])) w:=
 rZ (y:=0) (c:=1) (by omega) hx (by omega)
theorem x0 {Q:cQ→Act→a6→Prop}(hgd:o.guard=none)(x y c:bW)(ho:o.op= .call {callee:= .value (.func 148),args:= #[x,y,c],argTypes:=ts})(X Y C:Nat)(hx:a.eval x= a5 (X:Int))(hy:a.eval y= a5 (Y:Int))(hz:a.eval c= a5 (C:Int))(hC:C≤1)(hX:X≤18446744073709551615)(hY:Y≤18446744073709551615)(h:∀s d:Nat,Hid (s+WB*d=X+Y+C)→s≤18446744073709551615→d≤1→wpList aG ops Q rest (a.put o.dst (.tuple #[a5 (s:Int),a5 (d:Int)])) w):wpList aG ops Q (o::rest) a w:=by
 refine wpList_plain hgd fun K f=>?_
 have e:=D0 X Y C hC w
 unfold jW
 have hf:a.eval (.func 148)= .func (.func 148) #[] #[]:=rfl
 simp [execOp,ho,resolve,invoke,hf,hx,hy,hz,e,Deferred.ofValue,kO]
 have:=f _ _ (h ((X+Y+C)%18446744073709551616) ((X+Y+C)/18446744073709551616) (show _=_ by rw [cH];exact kP _ _) (by omega) (by omega))
 simpa using this
theorem OJ (x y b:Nat)(hb:b≤1)(w:a6):(callFunc 151 #[a5 (x:Int),a5 (y:Int),a5 (b:Int)]).run aG w=
   .ok (.value (.tuple #[a5 (((x+18446744073709551616-y-b)%18446744073709551616:Nat):Int),a5 ((if x<y+b then 1 else 0:Nat):Int)])) w:=by
 rw [run_callFunc_extern Tryz.func151 (by kernel_rfl) (by kernel_rfl) (by kernel_rfl) (e:=sub64Entry) (by kernel_rfl),run_sub64 x y b hb]
 rfl
theorem qP {c:Nat}(hc:c≤1)(hx:x≤18446744073709551615)(hy:y≤18446744073709551615):∃s d:Nat,Hid (s+y+c=x+WB*d)∧s≤18446744073709551615∧d≤1∧
  ∀w,(callFunc 151 #[a5 (x:Int),a5 (y:Int),a5 (c:Int)]).run aG w= .ok (.value (.tuple #[a5 (s:Int),a5 (d:Int)])) w:=by
 have e:=fun w=>OJ x y c hc w
 have h:(x+18446744073709551616-y-c)%18446744073709551616+y+c=x+WB*(if x<y+c then 1 else 0):=by rw [cH];split <;> omega
 have f:(x+18446744073709551616-y-c)%18446744073709551616≤18446744073709551615:=by omega
 have j:(if x<y+c then 1 else 0)≤1:=by split <;> omega
 exact⟨_,_,h,f,j,e⟩
theorem FJ (hx:x≤18446744073709551615):∃s d:Nat,Hid (s+0+1=x+WB*d)∧s≤18446744073709551615∧d≤1∧
  ∀w,(callFunc 151 #[a5 (x:Int),a5 0,a5 1]).run aG w= .ok (.value (.tuple #[a5 (s:Int),a5 (d:Int)])) w:=
 qP (y:=0) (c:=1) (by omega) hx (by omega)
theorem bits_Mul64 (x y:Nat)(hx:x≤18446744073709551615)(hy:y≤18446744073709551615)(w:a6):aU aG 147 #[a5 (x:Int),a5 (y:Int)] w fun e w'=>∃hi lo:Nat,Hid (lo+WB*hi=x*y)∧hi≤18446744073709551615∧lo≤18446744073709551615∧
   e= .returned (.tuple #[a5 (hi:Int),a5 (lo:Int)])∧w=w':=by
 refine (Tryz.bits_Mul64 x y (by omega) (by omega) w).mono ?_
 rintro e w' ⟨rfl,rfl⟩
 refine⟨x*y/18446744073709551616,x*y%18446744073709551616,show _=_ by rw [cH];exact kP _ _,?_,by omega,rfl,rfl⟩
 have h1:x*y≤18446744073709551615*18446744073709551615:=i2 hx hy
 omega
theorem bits_Len64 (x:Nat)(hx:x≤18446744073709551615)(w:a6):aU aG 88 #[a5 (x:Int)] w fun e w'=>∃n:Nat,Hid (n=cX x)∧n≤64∧e= .returned (a4 (n:Int))∧w=w':=by
 refine (Tryz.bits_Len64 x w (by omega) (by omega)).mono ?_
 rintro e w' ⟨rfl,rfl⟩
 refine⟨cX x,rfl,vR (by omega),?_,rfl⟩
 rw [gC,D4 x (by omega)]
theorem bits_LeadingZeros64 (x:Nat)(hx:x≤18446744073709551615)(w:a6):aU aG 129 #[a5 (x:Int)] w fun e w'=>∃n:Nat,Hid (n+cX x=64)∧n≤64∧e= .returned (a4 (n:Int))∧w=w':=by
 refine (Tryz.bits_LeadingZeros64 x w (by omega) (by omega)).mono ?_
 rintro e w' ⟨rfl,rfl⟩
 have h1:cX x≤64:=vR (by omega)
 refine⟨64-cX x,show _=_ by omega,by omega,?_,rfl⟩
 rw [gC,D4 x (by omega)]
 congr 2;omega
def uS:fW→Bool
 | .eql=>true
 | .neq=>true
 | _=>false
theorem wZ {Q:cQ→Act→a6→Prop}(hgd:o.guard=none){t:aQ}{x y:bW}(ho:o.op= .binOp op t x y ty)(hx:a.eval x=vx)(hy:a.eval y=vy)(hne:uS op=false)(hr:∀w,(binOp op t vx vy).run P w= .ok v w)(h:wpList P ops Q rest (a.put o.dst v) w):wpList P ops Q (o::rest) a w:=by
 refine wpList_plain hgd fun K e=>?_
 unfold jW
 have f:(eqGuard op t x y vx vy).run P w= .ok () w:=by
  unfold eqGuard
  cases op <;> first | rfl | exact absurd hne (by decide)
 simp only [execOp,ho,hx,hy,bQ,f,dE,hr,eO,kO]
 exact e _ _ h
theorem cZ {Q:cQ→Act→a6→Prop}(hgd:o.guard=none){t:aQ}{x y:bW}(ho:o.op= .binOp op t x y ty){f:Nat}(hx:a.eval x=vx)(hy:a.eval y=vy)(hne:uS op=false)(hr:∀(P:bT) (t:aQ) (w:a6),(binOp op t vx vy).run P w= .ok (a5 (f:Int)) w)(h:∀r:Nat,Hid (r=f)→r≤18446744073709551615→wpList P ops Q rest (a.put o.dst (a5 (r:Int))) w)(hf:f≤18446744073709551615:=by omega):wpList P ops Q (o::rest) a w:=
 wZ hgd ho hx hy hne (fun w=>hr P t w) (h f E hf)
theorem kW (n:Nat):IntKind.u64.wrap (n:Int)=((n%18446744073709551616:Nat):Int):=by
 simp [qC,oE,oD]
theorem lY (hs:s≤64)(P:bT)(t:aQ)(w:a6):(binOp .shl t (a5 (x:Int)) (a5 (s:Int))).run P w= .ok (a5 ((x*2^s%18446744073709551616:Nat):Int)) w:=by
 have e:((x:Int)*2^min (s:Int).toNat IntKind.u64.bits)=((x*2^s:Nat):Int):=by
  rw [gC,show min s IntKind.u64.bits=s from fK hs];simp
 simp only [binOp]
 rw [shift_shl_any _ _ _ _ (by omega),e,kW];rfl
theorem l5 (hs:s≤64)(P:bT)(t:aQ)(w:a6):(binOp .shr t (a5 (x:Int)) (a5 (s:Int))).run P w= .ok (a5 ((x/2^s:Nat):Int)) w:=by
 have e:((x:Int)/2^min (s:Int).toNat IntKind.u64.bits)=((x/2^s:Nat):Int):=by
  rw [gC,show min s IntKind.u64.bits=s from fK hs];simp
 simp only [binOp]
 rw [shift_shr_any _ _ _ _ (by omega),e];rfl
theorem mW (P:bT)(t:aQ)(w:a6):(binOp .mul t (a5 (x:Int)) (a5 (y:Int))).run P w= .ok (a5 ((x*y%18446744073709551616:Nat):Int)) w:=by
 rw [←kW,gD];rfl
theorem tH (P:bT)(t:aQ)(w:a6):(binOp .add t (a5 (x:Int)) (a5 (y:Int))).run P w= .ok (a5 (((x+y)%18446744073709551616:Nat):Int)) w:=by
 rw [←kW,Int.natCast_add];rfl
theorem lX (hy:y≤18446744073709551616)(P:bT)(t:aQ)(w:a6):(binOp .sub t (a5 (x:Int)) (a5 (y:Int))).run P w= .ok (a5 (((x+(18446744073709551616-y))%18446744073709551616:Nat):Int)) w:=by
 have e:IntKind.u64.wrap ((x:Int)-(y:Int))=(((x+(18446744073709551616-y))%18446744073709551616:Nat):Int):=by
  simp only [qC,oE,oD]
  simp
  omega
 rw [←e];rfl
theorem xP (hy:y≠0)(hx:x≤18446744073709551615)(P:bT)(t:aQ)(w:a6):(binOp .quo t (a5 (x:Int)) (a5 (y:Int))).run P w= .ok (a5 ((x/y:Nat):Int)) w:=by
 have h1:=f5 x y
 have e:IntKind.u64.wrap ((x:Int).tdiv (y:Int))=((x/y:Nat):Int):=by
  have:(x:Int).tdiv (y:Int)=((x/y:Nat):Int):=by rw [sP (by omega)];simp
  rw [this,kW,eZ (by omega)]
 simp only [binOp,pX]
 simp [hy]
 rw [show (↑x/ ↑y:Int)=((x/y:Nat):Int) from by simp] at*
 simpa [sP] using e
theorem nF (hx:x≤18446744073709551615):(mS 64 (x:Int)).toNat=x:=ofInt_u64 x (by omega)
theorem oF (hx:x≤18446744073709551615)(hy:y≤18446744073709551615)(P:bT)(t:aQ)(w:a6):(binOp .or t (a5 (x:Int)) (a5 (y:Int))).run P w= .ok (a5 ((x||| y:Nat):Int)) w:=by
 have e:IntKind.u64.wrap ((mS 64 (x:Int)||| mS 64 (y:Int)).toNat:Int)=((x||| y:Nat):Int):=by
  rw [BitVec.toNat_or,nF hx,nF hy,kW,eZ (lP (n:=64) (by omega) (by omega))]
 rw [←e];rfl
theorem xQ (hx:x≤18446744073709551615)(hy:y≤18446744073709551615)(P:bT)(t:aQ)(w:a6):(binOp .and t (a5 (x:Int)) (a5 (y:Int))).run P w= .ok (a5 ((x&&& y:Nat):Int)) w:=by
 have e:IntKind.u64.wrap ((mS 64 (x:Int)&&& mS 64 (y:Int)).toNat:Int)=((x&&& y:Nat):Int):=by
  rw [BitVec.toNat_and,nF hx,nF hy,kW,eZ (Nat.and_lt_two_pow (n:=64) _ (by omega))]
 rw [←e];rfl
theorem uC (hy:y<2^k):(x*2^k)||| y=x*2^k+y:=nat_join k _ _ (by simp) hy
structure Guess (B yn1 yn0 u un q r:Nat):Prop where
 eq:q*yn1+r=u
 top:u*B+un<(q+1)*(yn1*B+yn0)
 qb:q≤B+1
theorem Guess.start {B:Nat}(_hB:0<B)(h1:B≤2*yn1)(hun:un<B)(hu:u<yn1*B+yn0)(h0:yn0<B):Guess B yn1 yn0 u un (u/yn1) (u%yn1):=by
 have e:0<yn1:=by omega
 refine⟨by rw [cM];exact kR u yn1,?_,?_⟩
 ·have h2:u<(u/yn1+1)*yn1:=by
   rw [cM];exact qA u e
  have f:u*B+B≤((u/yn1+1)*yn1)*B:=by
   have:=eG B (lO h2)
   rwa [gN] at this
  rw [cY,←cI]
  omega
 ·have h2:u<(B+2)*yn1:=by
   rw [dM,cM B]
   omega
  have:=(wM e).2 h2
  omega
theorem Guess.pos {B:Nat}(hB:0<B)(ht:B≤q∨B*r+un<q*yn0):0<q:=by
 rcases ht with h | h
 ·omega
 ·rcases gQ q with e | e
  ·subst e;simp at h
  ·exact e
theorem Guess.step {B:Nat}(h:Guess B yn1 yn0 u un q r)(hun:un<B)(hu:u<yn1*B+yn0)(ht:B≤q∨B*r+un<q*yn0)(hq:0<q):Guess B yn1 yn0 u un (q-1) (r+yn1):=by
 obtain⟨e,ht',qb⟩:=h
 refine⟨?_,?_,by omega⟩
 ·have:q*yn1=(q-1)*yn1+yn1:=by
   conv=>lhs;rw [show q=(q-1)+1 from by omega]
   rw [gN]
  omega
 ·rw [iP hq,cY,←cI]
  rcases ht with h | h
  ·have h1:B*(yn1*B+yn0)≤q*(yn1*B+yn0):=eG _ h
   have h2:B*(u+1)≤B*(yn1*B+yn0):=gP _ hu
   rw [cY,←cI] at h1
   rw [pY,cM B u] at h2
   have j:q*(yn1*B+yn0)=q*yn1*B+q*yn0:=by rw [cY,cI]
   have f:B*(yn1*B+yn0)=B*yn1*B+B*yn0:=by rw [cY,cI]
   omega
  ·have h1:(q*yn1+r)*B=u*B:=by rw [e]
   rw [dM,cM r B] at h1
   omega
theorem Guess.done {B:Nat}(h:Guess B yn1 yn0 u un q r)(h0:yn0<B)(hd:(q<B∧q*yn0≤B*r+un)∨(q≤B∧B≤r)):q=(u*B+un)/(yn1*B+yn0)∧q*(yn1*B+yn0)≤u*B+un:=by
 obtain⟨e,ht,_⟩:=h
 have key:q*yn0≤B*r+un:=by
  rcases hd with⟨_,h⟩ | ⟨h1,h2⟩
  ·exact h
  ·have p:q*yn0≤B*B:=i2 h1 (by omega)
   have o:B*B≤B*r:=gP _ h2
   omega
 have f:q*(yn1*B+yn0)≤u*B+un:=by
  have h1:(q*yn1+r)*B=u*B:=by rw [e]
  rw [dM,cM r B] at h1
  rw [cY,←cI]
  omega
 refine⟨?_,f⟩
 have j:0<yn1*B+yn0:=by
  rcases gQ (yn1*B+yn0) with h | h
  ·rw [h] at ht;simp at ht
  ·exact h
 exact (Nat.div_eq_of_lt_le (by rw [cM] at f;rwa [cM]) ht).symm
theorem wW {a c r1 r2 r3 r4:Nat}(h1:r1=a%18446744073709551616)(h2:r2=(r1+b)%18446744073709551616)(h3:r3=c%18446744073709551616)(h4:r4=(r2+(18446744073709551616-r3))%18446744073709551616)(h:a+b=c+d)(hd:d≤18446744073709551615):r4=d:=by
 omega
theorem zJ (hy:y≠0)(hs:s+cX y=64):y*2^s<18446744073709551616∧9223372036854775808≤y*2^s:=by
 have h1:=rE y
 have h2:=vQ hy
 have hb:cX y≠0:=fun h=>hy (nR.1 h)
 have e:y*2^s<2^cX y*2^s:=o6 h1 (jX s)
 have f:2^(cX y-1)*2^s≤y*2^s:=eG _ h2
 rw [←dQ,show cX y+s=64 from by omega] at e
 rw [←dQ,show cX y-1+s=63 from by omega] at f
 exact⟨e,f⟩
theorem vE (hs:s+cX y=64)(hyy:yy=y*2^s%18446744073709551616)(h1:yn1=yy/2^32)(hy:y≠0:=by omega):yy=y*2^s∧2147483648≤yn1:=by
 obtain⟨a,b⟩:=zJ hy hs
 rw [eZ a] at hyy
 refine⟨hyy,?_⟩
 rw [h1,hyy];omega
theorem OV (x:Nat):x&&& 4294967295=x%4294967296:=Nat.and_two_pow_sub_one_eq_mod x 32
theorem G5 {lo:Nat}(hs:s≤64):lo*2^s=lo/2^(64-s)*18446744073709551616+lo*2^s%18446744073709551616:=by
 have e:lo*2^s/18446744073709551616=lo/2^(64-s):=by
  have h:(18446744073709551616:Nat)=2^(64-s)*2^s:=by rw [←dQ,show 64-s+s=64 from by omega]
  conv=>lhs;rw [h]
  exact wK _ _ (jX s)
 rw [←e,cM (lo*2^s/18446744073709551616)]
 exact (kR _ _).symm
theorem NI {lo r46 r49 r50:Nat}(hlt:hi<y)(hlo:lo≤18446744073709551615)(hs:s+cX y=64)(hs64:s≤64)(hyy:yy=y*2^s%18446744073709551616)(h1:yn1=yy/2^32)(h0:yn0=yy&&& 4294967295)(h46:r46=hi*2^s%18446744073709551616)(h49:r49=(64+(18446744073709551616-s))%18446744073709551616)(h50:r50=lo/2^r49)(hu:u=r46||| r50)(h10:un10=lo*2^s%18446744073709551616)(hu1:un1=un10/2^32)(hu0:un0=un10&&& 4294967295):yy=y*2^s∧yy=yn1*4294967296+yn0∧yn0<4294967296∧yn1<4294967296∧u<yy∧un1<4294967296∧un0<4294967296∧un10=un1*4294967296+un0∧(hi*WB+lo)*2^s=u*18446744073709551616+un10:=by
 obtain⟨p,_⟩:=vE hs hyy h1
 have q:=(zJ (y:=y) (by omega) hs).1
 have j:r49=64-s:=by omega
 have r:hi*2^s<y*2^s:=o6 hlt (jX s)
 have o:r46=hi*2^s:=by rw [h46,eZ (by omega)]
 have h:=G5 (lo:=lo) hs64
 rw [j] at h50
 have e:r50<2^s:=by
  rw [h50]
  refine qB ?_
  rw [←dQ,show 64-s+s=64 from by omega]
  omega
 have eu:u=hi*2^s+r50:=by rw [hu,o,uC e]
 rw [OV] at h0 hu0
 have eU:(hi*WB+lo)*2^s=u*18446744073709551616+un10:=by
  rw [dM,cH,h,eu,←h50,←h10,dM,pZ]
  omega
 have f:u<yy:=by
  have h2:(hi+1)*2^s≤y*2^s:=eG _ hlt
  rw [gN] at h2
  omega
 refine⟨p,by omega,by omega,by omega,f,by omega,by omega,by omega,eU⟩
theorem NJ {lo q1 v q0:Nat}(hy:0<y)(e1:yy=y*2^s)(e10:un10=un1*4294967296+un0)(eU:(hi*WB+lo)*2^s=u*18446744073709551616+un10)(hq1:u*4294967296+un1=q1*yy+v)(hq0:v*4294967296+un0=q0*yy+r)(hr:r<yy):(hi*WB+lo)/y=q1*4294967296+q0∧(hi*WB+lo)%y=r/2^s:=by
 have e:=jX s
 have j:(hi*WB+lo)*2^s=(q1*4294967296+q0)*yy+r:=by
  have o:(q1*4294967296+q0)*yy=(q1*yy)*4294967296+q0*yy:=by rw [dM,pZ]
  have p:u*18446744073709551616+un1*4294967296=(u*4294967296+un1)*4294967296:=by rw [dM,cI]
  rw [eU,e10,o,←lQ,p,hq1,dM,lQ,hq0,lQ]
 have f:0<yy:=by rw [e1];exact gO hy e
 constructor
 ·rw [←wK _ _ e,←e1,j,cM _ yy,mM f,gB hr,dF]
 ·have h:=sH (2^s) (hi*WB+lo) y
  rw [←e1,j,cM _ yy,wL,eZ hr] at h
  rw [h,Nat.mul_div_cancel _ e]
def wG (hi lo y:Nat)(w:a6)(e:dL)(w':a6):Prop:=
 ∃q r:Nat,Hid (q=(hi*WB+lo)/y)∧Hid (r=(hi*WB+lo)%y)∧q≤18446744073709551615∧r<y∧e= .returned (.tuple #[a5 (q:Int),a5 (r:Int)])∧∃m,w'=w.drewN m
theorem NG {lo:Nat}(hlo:lo≤18446744073709551615)(hy:1≤y)(hyb:y≤18446744073709551615)(w:a6):aU aG 128 #[a5 0,a5 (lo:Int),a5 (y:Int)] w (wG 0 lo y w):=by
 have h1:((y:Int)==0)=false:=by simp;omega
 have h2:¬(y:Int)≤0:=by omega
 have h3:(lo:Int)/(y:Int)≤(lo:Int):=Int.ediv_le_self _ (by omega)
 have h4:0≤(lo:Int)/(y:Int):=Int.ediv_nonneg (by omega) (by omega)
 have h5:=Int.emod_nonneg (lo:Int) (b:=(y:Int)) (by omega)
 have h6:=Int.emod_lt_of_pos (lo:Int) (b:=(y:Int)) (by omega)
 go_enter Tryz.func128,Tryz.ntmps128
 go_wp2_with fail
 go_quiet (fail)
 go_wp2_with fail
 go_ret2
 refine⟨lo/y,lo%y,by simp [Hid],by simp [Hid],?_,fM _ hy,by simp,_,rfl⟩
 have:=f5 lo y
 omega
theorem Guess.fin (e:yy=yn1*4294967296+yn0)(h0:yn0<4294967296)(hyy:0<yy)(hu:u<yy)(hun:un<4294967296)(hG:Guess 4294967296 yn1 yn0 u un q r)(hd:(q<4294967296∧q*yn0≤4294967296*r+un)∨(q≤4294967296∧4294967296≤r)):q≤4294967295∧∃v,Hid (u*4294967296+un=q*yy+v)∧v<yy:=by
 obtain⟨a,b⟩:=hG.done h0 hd
 rw [←e] at a b
 refine⟨?_,u*4294967296+un-q*yy,?_,?_⟩
 ·have:q<4294967296:=by
   rw [a]
   refine qB ?_
   have:=eG 4294967296 (lO hu)
   rw [gN] at this
   omega
  omega
 ·show _=_
  omega
 ·have:=qA (u*4294967296+un) hyy
  rw [←a,cY,eI,cM yy q] at this
  omega
theorem yS {r65 rh:Nat}(hy:0<y)(hu:u≤18446744073709551615)(e1:q=u/y)(e2:r65=q*y%18446744073709551616)(e3:rh=(u+(18446744073709551616-r65))%18446744073709551616):rh=u%y:=by
 have f:=kR u y
 rw [e1,cM] at e2
 have e:=fM u hy
 generalize y*(u/y)=a at*
 generalize u%y=b at*
 omega
theorem NH {lo:Nat}(hhi:1≤hi)(hlt:hi<y)(hlo:lo≤18446744073709551615)(hyb:y≤18446744073709551615)(w:a6):aU aG 128 #[a5 (hi:Int),a5 (lo:Int),a5 (y:Int)] w (wG hi lo y w):=by
 have h1:((y:Int)==0)=false:=by simp;omega
 have h2:¬(y:Int)≤(hi:Int):=by omega
 have h3:((hi:Int)==0)=false:=by simp;omega
 go_enter Tryz.func128,Tryz.ntmps128
 go_wp2_with fail
 refine (bits_LeadingZeros64 y hyb _).mono ?_
 rintro e w' ⟨s,hs,hs64,rfl,rfl⟩
 go_upto_block 0 with (first
  | ((with_reducible refine cP (some 39) ?_);refine cZ rfl rfl rfl rfl rfl (lY hs64) ?_;intro yy hyy hyyb)
  | ((with_reducible refine cP (some 41) ?_);refine cZ rfl rfl rfl rfl rfl (l5 (s:=32) (by omega)) ?_;intro yn1 hyn1 hyn1b)
  | ((with_reducible refine cP (some 43) ?_);refine cZ rfl rfl rfl rfl rfl (xQ (y:=4294967295) hyyb (by omega)) ?_ (hf:=(by have:=Nat.and_le_left (n:=yy) (m:=4294967295);omega));intro yn0 hyn0 hyn0b)
  | ((with_reducible refine cP (some 46) ?_);refine cZ rfl rfl rfl rfl rfl (lY hs64) ?_;intro r46 h46 hb46)
  | ((with_reducible refine cP (some 49) ?_);refine cZ rfl rfl rfl rfl rfl (lX (x:=64) (y:=s) (by omega)) ?_;intro r49 h49 hb49)
  | ((with_reducible refine cP (some 50) ?_);refine cZ rfl rfl rfl rfl rfl (l5 (s:=r49) (by rw [h49.out];omega)) ?_ (hf:=(by have:=f5 lo (2^r49);omega));intro r50 h50 hb50)
  | ((with_reducible refine cP (some 51) ?_);refine cZ rfl rfl rfl rfl rfl (oF hb46 hb50) ?_ (hf:=(by have:=lP (n:=64) (x:=r46) (y:=r50) (by omega) (by omega);omega));intro u hu hub)
  | ((with_reducible refine cP (some 54) ?_);refine cZ rfl rfl rfl rfl rfl (lY hs64) ?_;intro un10 h10 hb10)
  | ((with_reducible refine cP (some 56) ?_);refine cZ rfl rfl rfl rfl rfl (l5 (s:=32) (by omega)) ?_;intro un1 hun1 hun1b)
  | ((with_reducible refine cP (some 58) ?_);refine cZ rfl rfl rfl rfl rfl (xQ (y:=4294967295) hb10 (by omega)) ?_ (hf:=(by have:=Nat.and_le_left (n:=un10) (m:=4294967295);omega));intro un0 hun0 hun0b)
  | ((with_reducible refine cP (some 61) ?_);refine cZ rfl rfl rfl rfl rfl (xP (by have:=(vE hs.out hyy.out hyn1.out).2;omega) hub) ?_ (hf:=(by have:=f5 u yn1;omega));intro q1 hq1 hq1b)
  | ((with_reducible refine cP (some 65) ?_);refine cZ rfl rfl rfl rfl rfl mW ?_;intro r65 h65 hb65)
  | ((with_reducible refine cP (some 66) ?_);refine cZ rfl rfl rfl rfl rfl (lX (by omega)) ?_;intro rh hrh hrhb))
 have hN:=NI hlt hlo hs.out hs64 hyy.out hyn1.out hyn0.out h46.out h49.out h50.out hu.out h10.out hun1.out hun0.out
 have hyn1lo:=(vE hs.out hyy.out hyn1.out).2
 obtain⟨n1,n2,n3,n4,n5,n6,n7,n8,n9⟩:=hN
 have N1:=bD n1
 have N2:=bD n2
 have N3:=bD n3
 have N5:=bD n5
 have N6:=bD n6
 have NL:=bD hyn1lo
 have hyylo:0<yy:=by omega
 have hyn1hi:(yn1:Int)≤4294967295:=by omega
 have hyn1pos:0<yn1:=by omega
 have hun1hi:(un1:Int)≤4294967295:=by omega
 have hyn0hi:(yn0:Int)≤4294967295:=by omega
 have hun0hi:(un0:Int)≤4294967295:=by omega
 have N8:=bD n8
 have N9:=bD n9
 have hq1':Hid (q1=u/yn1):=hq1
 have hrh':Hid (rh=u%yn1):=yS (by omega) hub hq1.out h65.out hrh.out
 clear n1 n2 n3 n4 n5 n6 n7 n8 n9 hyn1lo hyy hyn1 hyn0 h46 h49 h50 hu h10 hun1 hun0 h65 hrh hq1
 clear hb46 hb49 hb50 hb65 hrhb hq1b h1 h2 h3
 go_cut [15,16] (fun a b wc=>∃q r v:Nat,a= a5 (q:Int)∧b= a5 (r:Int)∧q≤4294967295∧Hid (u*4294967296+un1=q*yy+v)∧v<yy∧w=wc)
 case first=>
  have HG0:=bD (Guess.start (B:=4294967296) (yn1:=yn1) (yn0:=yn0) (u:=u) (un:=un1) (by omega) (by have:=NL.out;omega) N6.out (by rw [←N2.out];exact N5.out) N3.out)
  refine wp_block ?_
  go_wp2_with fail
  go_loop [15,16] (fun a b=>∃q r:Nat,a= a5 (q:Int)∧b= a5 (r:Int)∧q≤4294967297∧r≤4294967295∧Hid (Guess 4294967296 yn1 yn0 u un1 q r)) (fun a b=>(intOf a).toNat)
  case atStart=>exact⟨q1,rh,rfl,rfl,by have:=HG0.out.qb;rw [hq1'.out];omega,by rw [hrh'.out];have:=fM u (show 0<yn1 by omega);omega,by rw [hq1'.out,hrh'.out];exact HG0⟩
  case round=>
   obtain⟨q,r,rfl,rfl,hq,hr,hG⟩:=hrel
   by_cases hqB:(4294967296:Int)≤(q:Int)
   ·have HS:=bD (hG.out.step N6.out (by rw [←N2.out];exact N5.out) (bY (by omega)) (by omega))
    have HQ:=bD hq
    by_cases hrB:(4294967296:Int)≤(r:Int)+(yn1:Int)
    ·go_upto_region 20 with (fail)
     have HQB:=bD hqB
     clear hqB
     go_wp2_with fail
     go_meet
     case rel=>
      obtain⟨a,v,b,c⟩:=Guess.fin N2.out N3.out hyylo N5.out N6.out HS.out (cA ⟨by have:=HQB.out;omega,by omega⟩)
      exact⟨q-1,r+yn1,v,fC (h:=(by have:=HQB.out;omega)),fC,a,b,c,rfl⟩
    ·go_upto_region 20 with (fail)
     have HQB:=bD hqB
     clear hqB
     go_wp2_with fail
     go_round
     case rel=>exact⟨q-1,r+yn1,fC (h:=(by have:=HQB.out;omega)),fC,by omega,by omega,HS⟩
     case measure=>have:=HQB.out;simp [intOf];omega
   ·have hp1:(q:Int)*(yn0:Int)≤18446744065119617025:=by
     have h:q*yn0≤4294967295*4294967295:=i2 (by omega) (by omega)
     rw [←gD];omega
    have hp0:0≤(q:Int)*(yn0:Int):=Int.mul_nonneg (by omega) (by omega)
    by_cases hT:4294967296*r+un1<q*yn0
    ·have hTi:4294967296*(r:Int)+(un1:Int)<(q:Int)*(yn0:Int):=by rw [←gD];omega
     have hqp:=Guess.pos (B:=4294967296) (r:=r) (un:=un1) (by omega) (cA hT)
     have HS:=bD (hG.out.step N6.out (by rw [←N2.out];exact N5.out) (cA hT) hqp)
     clear hT
     by_cases hrB:(4294967296:Int)≤(r:Int)+(yn1:Int)
     ·go_wp2_with fail
      go_meet
      case rel=>
       obtain⟨a,v,b,c⟩:=Guess.fin N2.out N3.out hyylo N5.out N6.out HS.out (cA ⟨by omega,by omega⟩)
       exact⟨q-1,r+yn1,v,fC,fC,a,b,c,rfl⟩
     ·go_wp2_with fail
      go_round
      case rel=>exact⟨q-1,r+yn1,fC,fC,by omega,by omega,HS⟩
      case measure=>simp [intOf];omega
    ·have hTi:¬4294967296*(r:Int)+(un1:Int)<(q:Int)*(yn0:Int):=by rw [←gD];omega
     have HT:=bD (show q*yn0≤4294967296*r+un1 by omega)
     clear hT
     go_wp2_with fail
     go_meet
     case rel=>
      obtain⟨a,v,b,c⟩:=Guess.fin N2.out N3.out hyylo N5.out N6.out hG.out (bY ⟨by omega,HT.out⟩)
      exact⟨q,r,v,rfl,rfl,a,b,c,rfl⟩
 case rest=>
  obtain⟨qa,ra,v,rfl,rfl,hqa,hv,hvy,rfl⟩:=hcut
  clear hq1' hrh'
  go_upto_block 2 with (first
   | ((with_reducible refine cP (some 87) ?_);refine cZ rfl rfl rfl rfl rfl mW ?_;intro r87 h87 hb87)
   | ((with_reducible refine cP (some 89) ?_);refine cZ rfl rfl rfl rfl rfl tH ?_;intro r89 h89 hb89)
   | ((with_reducible refine cP (some 92) ?_);refine cZ rfl rfl rfl rfl rfl mW ?_;intro r92 h92 hb92)
   | ((with_reducible refine cP (some 93) ?_);refine cZ rfl rfl rfl rfl rfl (lX (by omega)) ?_;intro v' hv' hbv';obtain rfl:v'=v:=wW h87.out h89.out h92.out hv'.out hv.out (by omega))
   | ((with_reducible refine cP (some 96) ?_);refine cZ rfl rfl rfl rfl rfl (xP (by omega) (by omega)) ?_ (hf:=(by have:=f5 v' yn1;omega));intro q2 hq2 hq2b)
   | ((with_reducible refine cP (some 100) ?_);refine cZ rfl rfl rfl rfl rfl mW ?_;intro r100 h100 hb100)
   | ((with_reducible refine cP (some 101) ?_);refine cZ rfl rfl rfl rfl rfl (lX (by omega)) ?_;intro rh2 hrh2 hrhb2))
  have hq2':Hid (q2=v'/yn1):=hq2
  have hrh2':Hid (rh2=v'%yn1):=yS (by omega) (by omega) hq2.out h100.out hrh2.out
  have NV:=bD hvy
  have N7:=bD (show un0<4294967296 by omega)
  clear hvy hrh2 hq2 h100 h87 h89 h92 hv' hb87 hb89 hb92 hbv' hb100 hrhb2 hq2b
  go_cut [18,16] (fun a b wc=>∃q r v:Nat,a= a5 (q:Int)∧b= a5 (r:Int)∧q≤4294967295∧Hid (v'*4294967296+un0=q*yy+v)∧v<yy∧w=wc)
  case first=>
   have HG0:=bD (Guess.start (B:=4294967296) (yn1:=yn1) (yn0:=yn0) (u:=v') (un:=un0) (by omega) (by have:=NL.out;omega) N7.out (by rw [←N2.out];exact NV.out) N3.out)
   refine wp_block ?_
   go_wp2_with fail
   go_loop [18,16] (fun a b=>∃q r:Nat,a= a5 (q:Int)∧b= a5 (r:Int)∧q≤4294967297∧r≤4294967295∧Hid (Guess 4294967296 yn1 yn0 v' un0 q r)) (fun a b=>(intOf a).toNat)
   case atStart=>exact⟨q2,rh2,rfl,rfl,by have:=HG0.out.qb;rw [hq2'.out];omega,by rw [hrh2'.out];have:=fM v' (show 0<yn1 by omega);omega,by rw [hq2'.out,hrh2'.out];exact HG0⟩
   case round=>
    obtain⟨q,r,rfl,rfl,hq,hr,hG⟩:=hrel
    by_cases hqB:(4294967296:Int)≤(q:Int)
    ·have HS:=bD (hG.out.step N7.out (by rw [←N2.out];exact NV.out) (bY (by omega)) (by omega))
     have HQ:=bD hq
     by_cases hrB:(4294967296:Int)≤(r:Int)+(yn1:Int)
     ·go_upto_region 27 with (fail)
      have HQB:=bD hqB
      clear hqB
      go_wp2_with fail
      go_meet
      case rel=>
       obtain⟨a,v,b,c⟩:=Guess.fin N2.out N3.out hyylo NV.out N7.out HS.out (cA ⟨by have:=HQB.out;omega,by omega⟩)
       exact⟨q-1,r+yn1,v,fC (h:=(by have:=HQB.out;omega)),fC,a,b,c,rfl⟩
     ·go_upto_region 27 with (fail)
      have HQB:=bD hqB
      clear hqB
      go_wp2_with fail
      go_round
      case rel=>exact⟨q-1,r+yn1,fC (h:=(by have:=HQB.out;omega)),fC,by omega,by omega,HS⟩
      case measure=>have:=HQB.out;simp [intOf];omega
    ·have hp1:(q:Int)*(yn0:Int)≤18446744065119617025:=by
      have h:q*yn0≤4294967295*4294967295:=i2 (by omega) (by omega)
      rw [←gD];omega
     have hp0:0≤(q:Int)*(yn0:Int):=Int.mul_nonneg (by omega) (by omega)
     by_cases hT:4294967296*r+un0<q*yn0
     ·have hTi:4294967296*(r:Int)+(un0:Int)<(q:Int)*(yn0:Int):=by rw [←gD];omega
      have hqp:=Guess.pos (B:=4294967296) (r:=r) (un:=un0) (by omega) (cA hT)
      have HS:=bD (hG.out.step N7.out (by rw [←N2.out];exact NV.out) (cA hT) hqp)
      clear hT
      by_cases hrB:(4294967296:Int)≤(r:Int)+(yn1:Int)
      ·go_wp2_with fail
       go_meet
       case rel=>
        obtain⟨a,v,b,c⟩:=Guess.fin N2.out N3.out hyylo NV.out N7.out HS.out (cA ⟨by omega,by omega⟩)
        exact⟨q-1,r+yn1,v,fC,fC,a,b,c,rfl⟩
      ·go_wp2_with fail
       go_round
       case rel=>exact⟨q-1,r+yn1,fC,fC,by omega,by omega,HS⟩
       case measure=>simp [intOf];omega
     ·have hTi:¬4294967296*(r:Int)+(un0:Int)<(q:Int)*(yn0:Int):=by rw [←gD];omega
      have HT:=bD (show q*yn0≤4294967296*r+un0 by omega)
      clear hT
      go_wp2_with fail
      go_meet
      case rel=>
       obtain⟨a,v,b,c⟩:=Guess.fin N2.out N3.out hyylo NV.out N7.out hG.out (bY ⟨by omega,HT.out⟩)
       exact⟨q,r,v,rfl,rfl,a,b,c,rfl⟩
  case rest=>
   obtain⟨qb,rb,r,rfl,rfl,hqb,hr,hry,rfl⟩:=hcut
   clear hq2' hrh2'
   have HR:=bD hry
   clear hry
   go_wp2_with (first
    | ((with_reducible refine cP (some 126) ?_);refine cZ rfl rfl rfl rfl rfl mW ?_;intro r126 h126 hb126)
    | ((with_reducible refine cP (some 128) ?_);refine cZ rfl rfl rfl rfl rfl tH ?_;intro r128 h128 hb128)
    | ((with_reducible refine cP (some 131) ?_);refine cZ rfl rfl rfl rfl rfl mW ?_;intro r131 h131 hb131)
    | ((with_reducible refine cP (some 132) ?_);refine cZ rfl rfl rfl rfl rfl (lX (by omega)) ?_;intro r' hr' hbr';obtain rfl:r'=r:=wW h126.out h128.out h131.out hr'.out hr.out (by have:=HR.out;omega))
    | ((with_reducible refine cP (some 134) ?_);refine cZ rfl rfl rfl rfl rfl (l5 hs64) ?_ (hf:=(by have:=f5 r' (2^s);omega));intro rr hrr hrrb))
   go_ret2
   obtain⟨e1,e2⟩:=NJ (by omega) N1.out N8.out N9.out hv.out hr.out HR.out
   have hy0:0<y:=by omega
   refine⟨_,_,e1.symm,e2.symm,by omega,?_,?_,0,rfl⟩
   ·rw [←e2];exact fM _ hy0
   ·rw [←hrr.out];simp
theorem D3 {lo:Nat}(hlt:hi<y)(hlo:lo≤18446744073709551615)(hyb:y≤18446744073709551615)(w:a6):aU aG 128 #[a5 (hi:Int),a5 (lo:Int),a5 (y:Int)] w (wG hi lo y w):=by
 rcases gQ hi with e | e
 ·subst e;exact NG hlo (by omega) hyb w
 ·exact NH e hlt hlo hyb w
end
section
def nb (b:Nat):List Nat→Nat
 | []=>0
 | x::r=>x+b*nb b r
def kL (b:Nat)(xs:List Nat):Prop:=∀x∈xs,x<b
theorem nK (b x:Nat)(r:List Nat):nb b (x::r)=x+b*nb b r:=rfl
theorem zH (xs:List Nat):nv xs=nb WB xs:=by
 induction xs with
 | nil=>rfl
 | cons x r ih=>rw [l7,nK,ih]
theorem zN (b:Nat)(xs ys:List Nat):nb b (xs++ys)=nb b xs+b^xs.length*nb b ys:=by
 induction xs with
 | nil=>simp [nb]
 | cons x r ih=>
  simp only [oC,nb,ih,cS,dK]
  rw [cY,←cI,cM b (b^r.length),lQ]
theorem IY (h:kL b xs):nb b xs<b^xs.length:=by
 induction xs with
 | nil=>simp [nb]
 | cons x r ih=>
  have hx:x<b:=h x (by simp)
  have hr:=ih (fun y hy=>h y (by simp [hy]))
  simp only [nb,cS,dK]
  have:b*nb b r+b≤b*b^r.length:=by
   have:=gP b (lO hr)
   rw [pY] at this;exact this
  rw [cM (b^r.length)]
  omega
theorem IX (b n:Nat):nb b (cB n 0)=0:=by
 induction n with
 | zero=>rfl
 | succ n ih=>simp [sJ,nb,ih]
def lE (b:Nat):Nat→Nat→List Nat
 | 0,_=> []
 | f+1,n=>if n=0 then [] else n%b::lE b f (n/b)
def db (b n:Nat):List Nat:=lE b n n
theorem CO (hb:2≤b)(f:Nat):∀(g n:Nat),n≤f→n≤g→lE b f n=lE b g n:=by
 induction f with
 | zero=>
  intro g n h _
  have:n=0:=by omega
  subst this
  cases g <;> simp [lE]
 | succ f ih=>
  intro g n h hg
  by_cases h0:n=0
  ·subst h0;cases g <;> simp [lE]
  ·cases g with
   | zero=>omega
   | succ g=>
    have hlt:n/b<n:=iB (by omega) (by omega)
    simp only [lE,h0,if_false]
    rw [ih g (n/b) (by omega) (by omega)]
theorem kH (b:Nat):db b 0= []:=rfl
theorem jQ (hb:2≤b)(h:n≠0):db b n=n%b::db b (n/b):=by
 have e:n/b<n:=iB (by omega) (by omega)
 unfold db
 conv=>lhs;rw [CO hb n (n+1) n (aZ _) (by omega)]
 simp only [lE,h,if_false]
 rw [CO hb n (n/b) (n/b) (by omega) (aZ _)]
theorem vH (hb:2≤b){p:Nat→Prop}(h0:p 0)(hs:∀n,n≠0→p (n/b)→p n)(n:Nat):p n:=by
 induction n using o5 with
 | ind n ih=>
  by_cases h:n=0
  ·subst h;exact h0
  ·exact hs n h (ih _ (iB (by omega) (by omega)))
theorem oW (hb:2≤b)(n:Nat):nb b (db b n)=n:=by
 induction n using vH hb with
 | h0=>rfl
 | hs n h ih=>rw [jQ hb h,nK,ih];exact kP n b
theorem nT (hb:2≤b)(n:Nat):kL b (db b n):=by
 induction n using vH hb with
 | h0=>intro x hx;cases hx
 | hs n h ih=>
  rw [jQ hb h]
  intro x hx
  cases i6.1 hx with
  | inl e=>subst e;exact fM _ (by omega)
  | inr e=>exact ih x e
theorem vI (hb:2≤b):db b n= []↔n=0:=by
 constructor
 ·intro h;rw [←oW hb n,h];rfl
 ·rintro rfl;rfl
theorem rH (hb:2≤b):(db b n).length=0↔n=0:=by
 rw [kU];exact vI hb
theorem ER (n:Nat):wd n=db WB n:=by
 induction n using tB with
 | h0=>rfl
 | hs n h ih=>rw [kZ h,jQ DH h,ih]
theorem CN {b:Nat}(hb:2≤b):∀{xs:List Nat},kL b xs→(∀h:xs≠ [],xs.getLast h≠0)→db b (nb b xs)=xs
 | [],_,_=>rfl
 | [x],hw,ht=>by
  have hx:x<b:=hw x (by simp)
  have h0:x≠0:=ht (by simp)
  simp only [nb,fR,dF]
  rw [jQ hb h0,eZ hx,gB hx,kH]
 | x::y::r,hw,ht=>by
  have f:0<b:=by omega
  have hx:x<b:=hw x (by simp)
  have ih:=CN hb (xs:=y::r) (fun z o=>hw z (by simp [o])) (fun h=>by have:=ht (by simp);simpa [List.getLast_cons] using this)
  have j:nb b (y::r)≠0:=by
   intro e
   rw [e,kH] at ih
   cases ih
  have hn:nb b (x::y::r)≠0:=by
   rw [nK]
   have:0<b*nb b (y::r):=gO f (by omega)
   omega
  rw [jQ hb hn,nK,wN,eZ hx,wO _ _ f,gB hx,dY,ih]
theorem NS (hb:2≤b)(hw:kL b xs)(ht:xs.length=0∨xs.getD (xs.length-1) 0≠0):db b (nb b xs)=xs:=by
 refine CN hb hw (fun h=>?_)
 have hl:xs.length≠0:=by simpa using h
 rcases ht with h' | h'
 ·exact absurd h' hl
 ·rw [DX]
  have:xs.length-1<xs.length:=by omega
  rwa [bE,bS this,pW] at h'
theorem CM (hb:2≤b)(n:Nat):(db b n).length=0∨(db b n).getD ((db b n).length-1) 0≠0:=by
 induction n using vH hb with
 | h0=>exact bY rfl
 | hs n h ih=>
  right
  rw [jQ hb h]
  rcases ih with h' | h'
  ·have h2:n/b=0:=(rH hb).1 h'
   have h3:n<b:=(Nat.div_eq_zero_iff.1 h2).resolve_left (by omega)
   rw [h2,kH]
   simp only [List.length_singleton,Nat.sub_self]
   show n%b≠0
   rw [eZ h3];exact h
  ·have hl:(db b (n/b)).length≠0:=fun e=>by
    rw [kU.1 e] at h';simp at h'
   obtain⟨k,hk⟩:∃k,(db b (n/b)).length=k+1:=⟨_,(Nat.succ_pred_eq_of_ne_zero hl).symm⟩
   have e:(db b (n/b)).length-1=k:=by omega
   rw [e] at h'
   rw [cS,hk,oA]
   simpa using h'
theorem DD (h:kL b xs)(k:kL b ys):kL b (xs++ys):=fun x f=>by
 rcases eQ.1 f with e | e
 ·exact h x e
 ·exact k x e
theorem j2 (hb : 2 ≤ b)(h : n < b ^ k): (db b n).length ≤ k := by
  induction k generalizing n with
  | zero => have : n = 0 := by simp at h; omega
            subst this; simp [kH]
  | succ k ih =>
    by_cases h0 : n = 0
    · subst h0; simp [kH]
    · rw [jQ hb h0, cS]
      have : n / b < b ^ k := by rw [wM (by omega)]; rwa [← dK]
      have := ih this
      omega
theorem AC (hb:2≤b)(n:Nat):n<b^(db b n).length:=by
 have:=IY (nT hb n)
 rwa [oW hb] at this
theorem IA (hb:2≤b)(h:n≠0):b^((db b n).length-1)≤n:=by
 refine o9 (fun f=>?_)
 have h1:=j2 hb f
 have h2:(db b n).length≠0:=fun e=>h ((rH hb).1 e)
 omega
theorem IZ (b:Nat)(xs:List Nat)(n:Nat):nb b (xs++cB n 0)=nb b xs:=by
 rw [zN,IX,fR,dF]
theorem KK (h:i<k):(xs.take k).getD i 0=xs.getD i 0:=by
 simp only [bE,iC,if_pos h]
theorem KL (h:i<l.length)(x:Nat):(l.set i x).getD i 0=x:=by simp [bE,h]
theorem getD_set_ne (h:i≠j)(x:Nat):(l.set i x).getD j 0=l.getD j 0:=by simp [bE,List.getElem?_set_ne h]
theorem zM (b:Nat):∀{l:List Nat}{k:Nat},k<l.length→∀x,nb b (l.set k x)+b^k*l.getD k 0=nb b l+b^k*x
 | y::r,0,_,x=>by simp [nb];omega
 | y::r,k+1,h,x=>by
  have ih:=zM b (l:=r) (k:=k) (by simpa using h) x
  simp only [List.set_cons_succ,nK,List.getD_cons_succ,dK]
  have e:b*(nb b (r.set k x)+b^k*r.getD k 0)=b*(nb b r+b^k*x):=by rw [ih]
  simp only [cY,←cI,cM b (b^k)] at e
  omega
theorem nI (h:k<l.length)(x:Nat):nv (l.set k x)+WB^k*l.getD k 0=nv l+WB^k*x:=by
 rw [zH,zH];exact zM WB h x
theorem uG (h:i<l.length)(x:Nat):nv ((l.set i x).take (i+1))=nv (l.take i)+WB^i*x:=by
 rw [dW _ i (by rw [List.length_set];exact h),KL h,List.take_set_of_le (aZ i)]
end
section
open Go.RowKit
theorem kF:(Tryz.prog.info? 50).map (fun i=>(i.zero,i.size,i.bytes))=some (some (a5 0),1,8):=by kernel_rfl
theorem tN:(Tryz.prog.info? 50).map (·.size)=some 1:=by kernel_rfl
def j5 (w:a6)(m:Nat)(e:dL)(w':a6):Prop:=
 ∃A n cap,e= .returned (a9 A n cap)∧Hid (n=(wd m).length)∧Rd w' A n cap (wd m)∧Own w' w.heap.size 50 1 A n cap ((wd m).map bG)∧Ext w w'
theorem wB (hg:w.heap.size≤g)(hb:Bk w' g 50 (ys.map bG))(hl:ys.length=cap)(hn:n≤cap)(hc:cap≤maxLen)(hy:ys.take n=wd m)(hx:Ext w w'):j5 w m (.returned (a9 (some ⟨g,0,none⟩) n cap)) w':=by
 have e:n=(wd m).length:=by rw [←hy,cV];omega
 have f:Own w' w.heap.size 50 1 (some ⟨g,0,none⟩) n cap ((wd m).map bG):=
  Own.mk_ hg hb hn hc (by simpa using hl) (by rw [eI,←j9,hy])
 exact⟨_,_,_,rfl,e,f.rd (mE m),f,hx⟩
theorem P4 (hm:m=0)(hx:Ext w w'):j5 w m (.returned (a9 none 0 0)) w':=by
 subst hm
 exact⟨none,0,0,rfl,rfl,Rd.nil w',Own.nil w' _ _ _,hx⟩
def P2 (xs:List Nat)(n:Nat)(w:a6)(e:dL)(w':a6):Prop:=
 ∃m:Nat,Hid (m=(wd (nv xs)).length)∧m≤n∧e= .returned (a4 (m:Int))∧w=w'
theorem iZ (hx:Rd w A n cap xs)(hl:n≤1099511627776:=by omega):aU aG 87 #[a9 A n cap] w (P2 xs n w):=by
 have hlen:=bD hx.len
 go_enter Tryz.func87,Tryz.ntmps87
 go_wp2_with fail
 go_loop [3] (fun u=>∃k:Nat,k≤n∧u= a4 (k:Int)∧nv (xs.take k)=nv xs) (fun u=>(intOf u).toNat)
 case atStart=>exact⟨n,aZ _,rfl,by rw [←hlen.out,List.take_length]⟩
 case round=>
  obtain⟨k,hk,rfl,hv⟩:=hrel
  have HV:=bD hv
  clear hv
  by_cases h0:0<k
  ·obtain⟨a,x,rfl,hxk,hxb,hc⟩:=hx.get (i:=k-1) (by omega)
   by_cases hz:x=0
   ·subst hz
    go_wp2_with fail
    go_round
    case rel=>
     refine⟨k-1,by omega,by congr 1;omega,?_⟩
     rw [←HV.out,←nG xs (k-1) (by rw [hlen.out];omega) hxk.out,iP h0]
    case measure=>simp [intOf];omega
   ·have hzb:((x:Int)==0)=false:=by simp;omega
    go_wp2_with fail
    go_ret
    refine⟨k,?_,hk,rfl,rfl⟩
    have:=qJ (k:=k) hx.wf (by rw [hlen.out];exact hk) HV.out (cA (by rw [hxk.out];exact hz))
    show k=_
    rw [this,cV,hlen.out];omega
  ·go_wp2_with fail
   go_ret
   refine⟨k,?_,hk,rfl,rfl⟩
   have:=qJ (k:=k) hx.wf (by rw [hlen.out];exact hk) HV.out (bY (by omega))
   show k=_
   rw [this,cV,hlen.out];omega
theorem J0 (hx:Rd w A n cap xs)(hl:n≤1099511627776):aU aG 74 #[a9 A n cap] w (j5 w (nv xs)):=by
 have hlen:=bD hx.len
 go_enter Tryz.func74,Tryz.ntmps74
 go_wp2_with fail
 refine (iZ hx (hl:=hl)).mono ?_
 rintro e w' ⟨m,hm,hmn,rfl,rfl⟩
 have hmk:=m5 (P:=aG) Tryz.underlying44 kF E (by decide) (m:Int) (by omega) (by omega)
 simp only [gC] at hmk
 go_wp2_with ((with_reducible refine cP (some 11) ?_);refine sY E (.tmp 9) (.tmp 10) 44 44 E E E Tryz.underlying44 tN (Bk.new' _ _ _) (hx.rv.ext ((Ext.refl _).alloc _)) (fun _=>rfl) ?fit (s8 xs) ?_;rotate_left;intro w1 hb1 hu1)
 case fit=>simp [sX]
 go_ret
 have e:wd (nv xs)=xs.take m:=by
  have h1:=hx.wf
  have h2:m≤xs.length:=by rw [hlen.out];exact hmn
  exact lV h1 hm.out
 refine wB (g:=w.heap.size) (ys:=xs.take m) (aZ _) ?_ ?_ (aZ _) (by rw [eX];omega) ?_ (hu1.ext ((Ext.refl w).alloc _) (aZ _))
 ·have h:=hb1
  rw [sX,m7,←j9,tM,FT _ _ (by rw [List.length_replicate,cV,hlen.out];omega)] at h
  exact h
 ·rw [cV,hlen.out];omega
 ·rw [List.take_take,Nat.min_self,e]
theorem j0 (hx:Rd w A n cap xs)(hl:n≤1099511627776:=by omega):aU aG 47 #[a9 A n cap] w (j5 w (nv xs)):=by
 go_enter Tryz.func47,Tryz.ntmps47
 go_wp2_with fail
 refine (J0 hx hl).mono ?_
 rintro e w' ⟨A1,n1,c1,rfl,h⟩
 go_wp2_with fail
 go_ret
 exact⟨A1,n1,c1,rfl,h⟩
def DW (a b:Nat)(w:a6)(e:dL)(w':a6):Prop:=
 ∃c:Int,Hid (c=eF a b)∧ -1≤c∧c≤1∧e= .returned (a4 c)∧Ext w w'
theorem pT {a:Nat}{c:Int}(h:eF a b=c)(hx:Ext w w'):DW a b w (.returned (a4 c)) w':=by
 subst h
 exact⟨_,rfl,(CT a b).1,(CT a b).2,rfl,hx⟩
theorem zO (hx:Rd w A n cap xs)(hl:n≤1099511627776)(hy:Rd w B n' cap' ys)(hl':n'≤1099511627776):aU aG 71 #[a9 A n cap,a9 B n' cap'] w (DW (nv xs) (nv ys) w):=by
 have hlx:=bD hx.len
 have hly:=bD hy.len
 go_enter Tryz.func71,Tryz.ntmps71
 go_wp2_with fail
 refine (iZ hx (hl:=hl)).mono ?_
 rintro e w' ⟨m,hm,hmn,rfl,rfl⟩
 go_wp2_with fail
 refine (iZ hy (hl:=hl')).mono ?_
 rintro e w' ⟨k,hk,hkn,rfl,rfl⟩
 rcases Nat.lt_trichotomy m k with hlt | rfl | hgt
 ·have h1:((m:Int) != (k:Int))=true:=by simp;omega
  go_wp2_with fail
  go_ret
  exact pT (CR (AD (by rw [←hm.out,←hk.out];exact hlt))) aF
 ·have h1:((m:Int) != (m:Int))=false:=by simp
  go_wp2_with fail
  go_loopw [7] (fun u wr=>∃i:Nat,i≤m∧u= a4 ((i:Int)-1)∧Hid (eF (nv (xs.take i)) (nv (ys.take i))=eF (nv xs) (nv ys))∧Ext w wr) (fun u wr=>(intOf u+1).toNat)
  case atStart=>exact⟨m,aZ _,rfl,(show _=_ by rw [nH hx.wf hm.out,nH hy.wf hk.out]),Ext.refl w⟩
  case round=>
   obtain⟨i,hi,rfl,hv,hext⟩:=hrel
   by_cases h0:0<i
   ·obtain⟨a,x,rfl,hxk,hxb,hc⟩:=(hx.ext hext).get (i:=i-1) (by omega)
    obtain⟨b,y,rfl,hyk,hyb,hd⟩:=(hy.ext hext).get (i:=i-1) (by omega)
    have hi':i-1+1=i:=by omega
    have hcast:((i-1:Nat):Int)=(i:Int)-1:=by omega
    have b1:(0:Int)≤(i:Int)-1:=by omega
    rcases Nat.lt_trichotomy x y with hlt | rfl | hgt
    ·go_wp2_with fail
     go_quiet (fail)
     go_wp2_with fail
     go_ret
     refine pT ?_ (by repeat (first | exact Ext.refl _ | assumption | apply Ext.drewN | apply Ext.drew | apply Ext.alloc))
     rw [←hv.out,←hi']
     exact CR (zF hx.wf (by rw [hlx.out];omega) (by rw [hly.out];omega) (by rw [hxk.out,hyk.out];exact hlt))
    ·go_wp2_with fail
     go_quiet (fail)
     go_wp2_with fail
     go_quiet (fail)
     go_wp2_with fail
     go_roundw
     case rel=>
      refine⟨i-1,by omega,by congr 1;omega,?_,(by repeat (first | exact Ext.refl _ | assumption | apply Ext.drewN | apply Ext.drew | apply Ext.alloc))⟩
      show _=_
      rw [←hv.out,←NY (k:=i-1) (by rw [hlx.out];omega) (by rw [hly.out];omega) (by rw [hxk.out,hyk.out]),hi']
     case measure=>simp [intOf];omega
    ·go_wp2_with fail
     go_quiet (fail)
     go_wp2_with fail
     go_quiet (fail)
     go_wp2_with fail
     go_ret
     refine pT ?_ (by repeat (first | exact Ext.refl _ | assumption | apply Ext.drewN | apply Ext.drew | apply Ext.alloc))
     rw [←hv.out,←hi']
     exact CS (zF hy.wf (by rw [hly.out];omega) (by rw [hlx.out];omega) (by rw [hxk.out,hyk.out];exact hgt))
   ·go_wp2_with fail
    go_ret
    refine pT ?_ hext
    rw [←hv.out,show i=0 from by omega]
    simp [O5]
 ·have h1:((m:Int) != (k:Int))=true:=by simp;omega
  go_wp2_with fail
  go_ret
  exact pT (CS (AD (by rw [←hm.out,←hk.out];exact hgt))) aF
theorem DB {c:Nat}(hli:i<l.length)(hxi:i<xs.length)(hmy:m≤ys.length)(h:nv (l.take i)+WB^i*c=nv (xs.take i)+nv (ys.take (min i m)))(hx:xs.getD i 0=x)(hy:(if i<m then ys.getD i 0 else 0)=y)(hs:s+WB*d=x+y+c):nv ((l.set i s).take (i+1))+WB^(i+1)*d=nv (xs.take (i+1))+nv (ys.take (min (i+1) m)):=by
 have f:(l.set i s).getD i 0=s:=by simp [bE,hli]
 have o:(l.set i s).take i=l.take i:=by rw [List.take_set_of_le (aZ i)]
 rw [dW _ i (by rw [List.length_set];exact hli),f,o,dW xs i hxi,hx]
 have j:nv (ys.take (min (i+1) m))=nv (ys.take (min i m))+WB^i*y:=by
  by_cases e:i<m
  ·rw [if_pos e] at hy
   rw [fK (by omega),fK (by omega),dW ys i (by omega),hy]
  ·rw [if_neg e] at hy
   rw [Nat.min_eq_right (by omega),Nat.min_eq_right (by omega),←hy,fR,dF]
 rw [j,dK,cI]
 have p:WB^i*(s+WB*d)=WB^i*(x+y+c):=by rw [hs]
 simp only [cY] at p
 omega
def PD (w:a6)(S:Nat)(u v:aC)(wc:a6):Prop:=
 ∃A n cap xs B n' cap' ys,u= a9 A n cap∧v= a9 B n' cap'∧Rd wc A n cap xs∧Rd wc B n' cap' ys∧n≤1099511627775∧n'≤1099511627775∧Hid (nv xs+nv ys=S)∧(wd (nv ys)).length≤(wd (nv xs)).length∧Ext w wc
theorem zQ (hx:Rd w A n cap xs)(hl:n≤1099511627775)(hy:Rd w B n' cap' ys)(hl':n'≤1099511627775):aU aG 143 #[a9 A n cap,a9 B n' cap'] w (j5 w (nv xs+nv ys)):=by
 go_enter Tryz.func143,Tryz.ntmps143
 go_upto_if 15 with (fail)
 refine (iZ hx).mono ?_
 rintro e w' ⟨m,hm,hmn,rfl,rfl⟩
 go_upto_if 15 with (fail)
 refine (iZ hy).mono ?_
 rintro e w' ⟨k,hk,hkn,rfl,rfl⟩
 go_upto_if 15 with (fail)
 go_cut [0,1] (fun u v wc=>PD w (nv xs+nv ys) u v wc)
 case first=>
  by_cases hlt:m<k
  ·go_wp2_with fail
   go_meet
   case rel=>exact⟨B,n',cap',ys,A,n,cap,xs,rfl,rfl,hy,hx,hl',hl,Nat.add_comm _ _,by rw [←hm.out,←hk.out];omega,Ext.refl w⟩
  ·go_wp2_with fail
   go_meet
   case rel=>exact⟨A,n,cap,xs,B,n',cap',ys,rfl,rfl,hx,hy,hl,hl',rfl,by rw [←hm.out,←hk.out];omega,Ext.refl w⟩
 case rest=>
  clear hm hk hmn hkn hx hy hl hl'
  obtain⟨A,n,cap,xs,B,n',cap',ys,rfl,rfl,hx,hy,hl,hl',hS,hle,hext⟩:=hcut
  go_wp2_with fail
  refine (iZ hx).mono ?_
  rintro e w' ⟨m,hm,hmn,rfl,rfl⟩
  go_wp2_with fail
  refine (iZ hy).mono ?_
  rintro e w' ⟨k,hk,hkn,rfl,rfl⟩
  have hkm:k≤m:=by rw [hm.out,hk.out];exact hle
  have hlx:=bD hx.len
  have hly:=bD hy.len
  have hmk:=m5 (P:=aG) Tryz.underlying44 kF E (by decide) ((m:Int)+1) (by omega) (by omega)
  have et:((m:Int)+1).toNat=m+1:=by omega
  rw [et] at hmk
  clear et
  go_wp2_with fail
  clear hmk
  obtain⟨g,hg⟩:∃g,wc.heap.size=g:=⟨_,rfl⟩
  rw [hg]
  obtain⟨wa,hwa⟩:∃wa,wc.alloc (.cells (zc (.int .u64 0) (m+1)) 50)=wa:=⟨_,rfl⟩
  rw [hwa]
  have hbk:Bk wa g 50 ((cB (m+1) 0).map bG):=by
   rw [←hwa,←hg,←m7];exact Bk.new' _ _ _
  have hea:Ext wc wa:=by rw [←hwa];exact (Ext.refl wc).alloc _
  have hgs:w.heap.size≤g:=by rw [←hg];exact hext.size
  have hgc:wc.heap.size≤g:=by rw [hg];exact aZ _
  clear hg hwa
  go_loopw [26,8] (fun u v wr=>∃(i c:Nat) (l:List Nat),i≤m∧c≤1∧u= a4 (i:Int)∧v= a5 (c:Int)∧Hid (l.length=m+1)∧Wf l∧Bk wr g 50 (l.map bG)∧
   Hid (nv (l.take i)+WB^i*c=nv (xs.take i)+nv (ys.take (min i k)))∧Ext wc wr) (fun u v wr=>m-(intOf u).toNat)
  case atStart=>exact⟨0,0,_,cE _,cE _,rfl,rfl,List.length_replicate,lL _,hbk,by simp [Hid,nv],hea⟩
  case round=>
   obtain⟨i,c,l,hi,hc,rfl,rfl,hll,hwl,hb,hv,hr⟩:=hrel
   clear hbk hea
   by_cases him:i<m
   ·obtain⟨a,x,rfl,hxk,hxb,hcx⟩:=(hx.ext hr).get (i:=i) (by omega)
    obtain⟨o,ho,_,hco⟩:=hb.word hwl (i:=i) (by rw [hll.out];omega)
    have hfr:=hb.frozen i
    by_cases hik:i<k
    ·obtain⟨b,y,rfl,hyk,hyb,hcy⟩:=(hy.ext hr).get (i:=i) (by omega)
     go_wp2_with ((with_reducible refine cP (some 45) ?_);refine x0 E (.tmp 42) (.tmp 43) (.tmp 44) E x y c E E E hc hxb hyb ?_;intro s d hs hsb hd)
     go_roundw
     case rel=>exact⟨i+1,d,_,by omega,hd,by go_num,rfl,by show _=_;rw [List.length_set];exact hll.out,fI hwl i (by rw [cH];omega),by rw [←eS];exact hb.set i _,
      DB (by rw [hll.out];omega) (by rw [hlx.out];omega) (by rw [hly.out];omega) hv.out hxk.out (by rw [if_pos hik];exact hyk.out) hs.out,hr.setCell hgc _⟩
     case measure=>simp [intOf];omega
    ·go_wp2_with ((with_reducible refine cP (some 45) ?_);refine x0 E (.tmp 42) (.tmp 43) (.tmp 44) E x 0 c E E E hc hxb (by omega) ?_;intro s d hs hsb hd)
     go_roundw
     case rel=>exact⟨i+1,d,_,by omega,hd,by go_num,rfl,by show _=_;rw [List.length_set];exact hll.out,fI hwl i (by rw [cH];omega),by rw [←eS];exact hb.set i _,
      DB (by rw [hll.out];omega) (by rw [hlx.out];omega) (by rw [hly.out];omega) hv.out hxk.out (by rw [if_neg hik]) hs.out,hr.setCell hgc _⟩
     case measure=>simp [intOf];omega
   ·obtain rfl:i=m:=by omega
    obtain⟨o,ho,_,hco⟩:=hb.word hwl (i:=i) (by rw [hll.out];omega)
    have hfr:=hb.frozen i
    have hb2:=hb.set i (a5 (c:Int))
    rw [eS] at hb2
    have hll2:Hid ((l.set i c).length=i+1):=by show _=_;rw [List.length_set];exact hll.out
    have hwl2:Wf (l.set i c):=fI hwl i (by rw [cH];omega)
    have hr2:Rd (wr.setCell ⟨g,i,none⟩ (a5 (c:Int))) (some ⟨g,0,none⟩) (i+1) (i+1) (l.set i c):=by
     have:=hb2.rd hwl2 (o:=0) (n:=i+1) (cap:=i+1) (aZ _) (by rw [hll2.out];omega) (by rw [eX];omega)
     rwa [iR,List.take_of_length_le (by rw [hll2.out];omega)] at this
    have hval:Hid (nv (l.set i c)=nv xs+nv ys):=by
     show _=_
     have e1:(l.set i c).getD i 0=c:=by
      have:=hll.out
      simp [bE,this]
     have e2:(l.set i c).take i=l.take i:=by rw [List.take_set_of_le (aZ i)]
     have e3:=dW (l.set i c) i (by rw [hll2.out];omega)
     rw [e1,e2,List.take_of_length_le (by rw [hll2.out];omega),hv.out,Nat.min_eq_right hkm] at e3
     rw [e3,nH hx.wf hm.out,nH hy.wf hk.out]
    go_wp2_with fail
    refine (iZ hr2).mono ?_
    rintro e w' ⟨q,hq,hqn,rfl,rfl⟩
    go_wp2_with fail
    go_ret
    rw [←hS.out,←hval.out]
    exact wB (ys:=l.set i c) hgs hb2 hll2.out hqn (by rw [eX];omega) (lV hwl2 hq.out).symm ((hext.trans hr).setCell hgs _)
def DM (w:a6)(m:Nat)(er:Int)(e:dL)(w':a6):Prop:=
 ∃A n cap,e= .returned (.tuple #[a9 A n cap,a4 er])∧Hid (n=(wd m).length)∧Rd w' A n cap (wd m)∧Own w' w.heap.size 50 1 A n cap ((wd m).map bG)∧Ext w w'
theorem DL (h:j5 w m (.returned (a9 A n cap)) w'):DM w m er (.returned (.tuple #[a9 A n cap,a4 er])) w':=by
 obtain⟨A',n',c',e,r⟩:=h
 cases e
 exact⟨_,_,_,rfl,r⟩
theorem OQ (hw:Wf xs)(hm:m=(wd (nv xs)).length)(h0:0<m)(hx:xs.getD (m-1) 0=x):x≠0∧64*(m-1)+cX x=cX (nv xs):=by
 have e:=lV hw hm
 have j:nv xs≠0:=fun h=>by rw [h,kY] at hm;simp at hm;omega
 have p:m≤xs.length:=by rw [hm];exact f7 hw
 have q:nv xs=nv (xs.take (m-1))+WB^(m-1)*x:=by
  rw [←nH hw hm,←hx,←dW xs (m-1) (by omega),iP h0]
 have o:=iH hw (m-1)
 have f:x≠0:=by
  rintro rfl
  have h1:=yW j
  rw [←hm] at h1
  rw [fR] at q
  omega
 refine⟨f,(D2 ?_ (cA ?_)).symm⟩
 ·have h1:=rE x
  rw [dQ,Nat.pow_mul,←kM]
  have h2:WB^(m-1)*x+WB^(m-1)≤WB^(m-1)*2^cX x:=by
   have:=gP (WB^(m-1)) (lO h1)
   rwa [pY] at this
  omega
 ·have h1:=vQ f
  have hb:cX x≠0:=fun h=>f (nR.1 h)
  rw [Nat.add_sub_assoc (by omega),dQ,Nat.pow_mul,←kM]
  have:=gP (WB^(m-1)) h1
  omega
def P6 (k:Nat)(w:a6)(e:dL)(w':a6):Prop:=∃n:Nat,Hid (n=k)∧e= .returned (a4 (n:Int))∧Ext w w'
theorem zP (hx:Rd w A n cap xs)(hl:n≤1099511627775):aU aG 64 #[a9 A n cap] w (P6 (cX (nv xs)) w):=by
 go_enter Tryz.func64,Tryz.ntmps64
 go_wp2_with fail
 refine (iZ hx).mono ?_
 rintro e w' ⟨m,hm,hmn,rfl,rfl⟩
 by_cases h0:0<m
 ·obtain⟨a,x,rfl,hxk,hxb,hcx⟩:=hx.get (i:=m-1) (by omega)
  have hb:=bD (OQ hx.wf hm.out h0 hxk.out)
  have b0:((m:Int)==0)=false:=by simp;omega
  go_wp2_with fail
  refine (bits_Len64 x hxb _).mono ?_
  rintro e w' ⟨q,hq,hq64,rfl,rfl⟩
  go_wp2_with fail
  go_ret
  refine⟨64*(m-1)+q,?_,?_,Ext.refl w⟩
  ·show _=_
   rw [hq.out];exact hb.out.2
  ·exact HU (by omega)
 ·obtain rfl:m=0:=by omega
  go_wp2_with fail
  go_ret
  refine⟨0,?_,rfl,Ext.refl w⟩
  show _=_
  rw [(kE.1 hm.out.symm),vP]
def DI (A:Option a8)(xs:List Nat)(w:a6)(e:dL)(w':a6):Prop:=
 ∃k:Nat,Hid (k=(wd (nv xs)).length)∧e= .returned (a9 A k k)∧Rd w A k k (wd (nv xs))∧w=w'
theorem nL (hx:Rd w A n cap xs)(hl:n≤1099511627776:=by omega):aU aG 124 #[a9 A n cap] w (DI A xs w):=by
 have hlen:=bD hx.len
 have hcap:=hx.rv.le
 have hmax:=hx.rv.max
 rw [eX] at hmax
 have fin:∀k,k≤n→k=(wd (nv xs)).length→DI A xs w (.returned (a9 A k k)) w:=by
  intro k hk h
  have h2:=hx.take hk (aZ _) (by omega)
  rw [←lV hx.wf h] at h2
  exact⟨k,h,rfl,h2,rfl⟩
 have FIN:=bD fin
 clear fin
 go_enter Tryz.func124,Tryz.ntmps124
 go_wp2_with fail
 go_loop [3] (fun u=>∃k:Nat,k≤n∧u= a4 (k:Int)∧Hid (nv (xs.take k)=nv xs)) (fun u=>(intOf u).toNat)
 case atStart=>exact⟨n,aZ _,rfl,(show _=_ by rw [←hlen.out,List.take_length])⟩
 case round=>
  obtain⟨k,hk,rfl,HV⟩:=hrel
  by_cases h0:0<k
  ·obtain⟨a,x,rfl,hxk,hxb,hc⟩:=hx.get (i:=k-1) (by omega)
   by_cases hz:x=0
   ·subst hz
    go_wp2_with fail
    go_round
    case rel=>
     refine⟨k-1,by omega,fC,?_⟩
     show _=_
     rw [←HV.out,←nG xs (k-1) (by rw [hlen.out];omega) hxk.out,iP h0]
    case measure=>simp [intOf];omega
   ·have hzb:((x:Int)==0)=false:=by simp;omega
    have hk0:¬k=0:=by omega
    go_wp2_with fail
    go_ret
    have:=qJ (k:=k) hx.wf (by rw [hlen.out];exact hk) HV.out (cA (by rw [hxk.out];exact hz))
    exact FIN.out k hk (by rw [this,cV,hlen.out];omega)
  ·obtain rfl:k=0:=by omega
   go_wp2_with fail
   go_ret
   have:=qJ (k:=0) hx.wf (cE _) HV.out (bY E)
   exact FIN.out 0 hk (by rw [this,cV,hlen.out];omega)
def nY (g:Nat)(zs:List Nat)(v:Nat)(w:a6)(e:dL)(w':a6):Prop:=
 ∃zs',e= .returned (.tuple #[])∧Bk w' g 50 (zs'.map bG)∧Wf zs'∧Hid (zs'.length=zs.length)∧Hid (nv zs'=v)∧Upd g w w'
theorem D9 {o c:Nat}(hi:o+i<l.length)(h:nv l+WB^(o+i)*c=V+WB^o*nv (ys.take i))(hz:l.getD (o+i) 0=z)(hy:i<ys.length)(hyk:ys.getD i 0=y)(hs:s+WB*d=z+y+c):nv (l.set (o+i) s)+WB^(o+i+1)*d=V+WB^o*nv (ys.take (i+1)):=by
 have f:=nI hi s
 rw [hz] at f
 rw [dW ys i hy,hyk,cY,←cI (WB^o),←dQ,dK,cI]
 have e:WB^(o+i)*(s+WB*d)=WB^(o+i)*(z+y+c):=by rw [hs]
 simp only [cY] at e
 omega
theorem D8 {c:Nat}(hi:k<l.length)(h:nv l+WB^k*c=V)(hz:l.getD k 0=z)(hs:s+WB*d=z+c):nv (l.set k s)+WB^(k+1)*d=V:=by
 have f:=nI hi s
 rw [hz] at f
 rw [dK,cI]
 have e:WB^k*(s+WB*d)=WB^k*(z+c):=by rw [hs]
 simp only [cY] at e
 omega
theorem rA {o:Nat}(hz:Bk w g 50 (zs.map bG))(hwz:Wf zs)(hzl:zs.length=o+n)(hy:Rd w B m cap' ys)(hne:∀a,B=some a→0<m→a.block≠g)(hmn:m≤n)(hn:n≤1099511627776)(_ho:o≤1099511627776)(hv:nv zs+WB^o*nv ys<WB^(o+n)):aU aG 126 #[a9 (some ⟨g,o,none⟩) n cap,a9 B m cap'] w (nY g zs (nv zs+WB^o*nv ys) w):=by
 have hly:=bD hy.len
 have hlz:=bD hzl
 have HV:=bD hv
 clear hzl hv
 go_enter Tryz.func126,Tryz.ntmps126
 go_wp2_with fail
 go_loopw [9,4] (fun u v wr=>∃(i c:Nat) (l:List Nat),i≤m∧c≤1∧u= a4 (i:Int)∧v= a5 (c:Int)∧Hid (l.length=o+n)∧Wf l∧Bk wr g 50 (l.map bG)∧
  Hid (nv l+WB^(o+i)*c=nv zs+WB^o*nv (ys.take i))∧Upd g w wr) (fun u v wr=>m-(intOf u).toNat)
 case atStart=>exact⟨0,0,zs,cE _,cE _,rfl,rfl,hlz.out,hwz,hz,by simp [Hid,nv],Upd.refl _ _⟩
 case round=>
  obtain⟨i,c,l,hi,hc,rfl,rfl,hll,hwl,hb,hv,hr⟩:=hrel
  by_cases him:i<m
  ·obtain⟨a,y,rfl,hyk,hyb,hcy⟩:=(hy.upd hr (fun a ha=>hne a ha (by omega))).get (i:=i) (by omega)
   obtain⟨z,hzk,hzb,hcz⟩:=hb.word hwl (i:=o+i) (by rw [hll.out];omega)
   have hfr:=hb.frozen (o+i)
   obtain⟨s,d,hs,hsb,hd,hadd⟩:=rZ hc hzb hyb
   go_wp2_with fail
   go_region
   go_wp2_with fail
   go_roundw
   case rel=>exact⟨i+1,d,l.set (o+i) s,by omega,hd,by go_num,rfl,by show _=_;rw [List.length_set];exact hll.out,fI hwl _ (by rw [cH];omega),by rw [←eS];exact (hb.set _ _).drew,
    D9 (by rw [hll.out];omega) hv.out hzk.out (by rw [hly.out];omega) hyk.out hs.out,(hr.setCell _ _).drew⟩
   case measure=>simp [intOf];omega
  ·obtain rfl:i=m:=by omega
   have hv1:Hid (nv l+WB^(o+i)*c=nv zs+WB^o*nv ys):=by
    show _=_
    rw [hv.out,List.take_of_length_le (by rw [hly.out];omega)]
   clear hv
   go_wp2_with fail
   obtain⟨wo,rfl⟩:∃wo:a6,wo=wr:=⟨_,rfl⟩
   go_loopw [6,4] (fun u v wr=>∃(j c:Nat) (l:List Nat),i≤j∧j≤n∧c≤1∧u= a4 (j:Int)∧v= a5 (c:Int)∧Hid (l.length=o+n)∧Wf l∧Bk wr g 50 (l.map bG)∧
    Hid (nv l+WB^(o+j)*c=nv zs+WB^o*nv ys)∧Upd g w wr) (fun u v wr=>n-(intOf u).toNat)
   case atStart=>exact⟨i,c,l,aZ _,hmn,hc,rfl,rfl,hll.out,hwl,hb,hv1.out,hr⟩
   case round=>
    obtain⟨j,c2,l2,hij,hjn,hc2,rfl,rfl,hl2,hw2,hb2,hv2,hr2⟩:=hrel
    clear hll hwl hb hv1 hr
    by_cases hc0:c2=0
    ·subst hc0
     have b0:((0:Int) != 0)=false:=rfl
     go_wp2_with fail
     go_end0
     have h:=hv2.out
     rw [fR,dF] at h
     exact⟨l2,rfl,hb2,hw2,(show _=_ by rw [hl2.out,hlz.out]),h,hr2⟩
    ·obtain rfl:c2=1:=by omega
     have hjn':j<n:=by
      refine o8 (fun hle=>?_)
      obtain rfl:j=n:=by omega
      have h:=hv2.out
      have:=HV.out
      rw [eI] at h
      omega
     obtain⟨z,hzk,hzb,hcz⟩:=hb2.word hw2 (i:=o+j) (by rw [hl2.out];omega)
     have hfr:=hb2.frozen (o+j)
     obtain⟨s,d,hs,hsb,hd,hadd⟩:=OX hzb
     have b1:((1:Int) != 0)=true:=rfl
     go_wp2_with fail
     go_roundw
     case rel=>exact⟨j+1,d,l2.set (o+j) s,by omega,by omega,hd,by go_num,rfl,by show _=_;rw [List.length_set];exact hl2.out,fI hw2 _ (by rw [cH];omega),by rw [←eS];exact (hb2.set _ _),
      D8 (by rw [hl2.out];omega) hv2.out hzk.out hs.out,(hr2.setCell _ _)⟩
     case measure=>simp [intOf];omega
theorem xZ {c Y':Nat}(hi:i<l.length)(h:nv l+Y=V+WB^i*c)(hz:l.getD i 0=z)(hY:Y'=Y+WB^i*y)(hs:s+y+c=z+WB*d):nv (l.set i s)+Y'=V+WB^(i+1)*d:=by
 have f:=nI hi s
 rw [hz] at f
 rw [dK,cI,hY]
 have e:WB^i*(s+y+c)=WB^i*(z+WB*d):=by rw [hs]
 simp only [cY] at e
 omega
theorem zS (hz:Bk w g 50 (zs.map bG))(hwz:Wf zs)(hzl:zs.length=n)(hy:Rd w B m cap' ys)(hne:∀a,B=some a→0<m→a.block≠g)(hmn:m≤n)(hn:n≤1099511627776)(hv:nv ys≤nv zs):aU aG 150 #[a9 (some ⟨g,0,none⟩) n cap,a9 B m cap'] w (nY g zs (nv zs-nv ys) w):=by
 have hly:=bD hy.len
 have hlz:=bD hzl
 have HV:=bD hv
 clear hzl hv
 go_enter Tryz.func150,Tryz.ntmps150
 go_wp2_with fail
 go_loopw [9,4] (fun u v wr=>∃(i c:Nat) (l:List Nat),i≤n∧c≤1∧u= a4 (i:Int)∧v= a5 (c:Int)∧Hid (l.length=n)∧Wf l∧Bk wr g 50 (l.map bG)∧
  Hid (nv l+nv (ys.take i)=nv zs+WB^i*c)∧Upd g w wr) (fun u v wr=>n-(intOf u).toNat)
 case atStart=>exact⟨0,0,zs,cE _,cE _,rfl,rfl,hlz.out,hwz,hz,by simp [Hid,nv],Upd.refl _ _⟩
 case round=>
  obtain⟨i,c,l,hi,hc,rfl,rfl,hll,hwl,hb,hv,hr⟩:=hrel
  have fin:i=n∨(m≤i∧c=0)→nY g zs (nv zs-nv ys) w (.returned (.tuple #[])) wr:=by
   intro h
   have e:=hv.out
   rw [List.take_of_length_le (by rw [hly.out];omega)] at e
   have hlt:nv l<WB^n:=by have:=gX hwl;rwa [hll.out] at this
   refine⟨l,rfl,hb,hwl,(show _=_ by rw [hll.out,hlz.out]),?_,hr⟩
   show _=_
   have h2:=HV.out
   by_cases h0:c=0
   ·rw [h0,fR] at e;omega
   ·have hc1:c=1:=by omega
    have hin:i=n:=by omega
    rw [hc1,eI,hin] at e;omega
  have FIN:=bD fin
  clear fin
  by_cases him:i<n
  ·obtain⟨z,hzk,hzb,hcz⟩:=hb.word hwl (i:=i) (by rw [hll.out];omega)
   have hfr:=hb.frozen i
   by_cases hiy:i<m
   ·obtain⟨a,y,rfl,hyk,hyb,hcy⟩:=(hy.upd hr (fun a ha=>hne a ha (by omega))).get (i:=i) (by omega)
    obtain⟨s,d,hs,hsb,hd,hsub⟩:=qP hc hzb hyb
    go_wp2_with fail
    go_roundw
    case rel=>exact⟨i+1,d,l.set i s,by omega,hd,by go_num,rfl,by show _=_;rw [List.length_set];exact hll.out,fI hwl _ (by rw [cH];omega),by rw [←eS];exact (hb.set _ _),
     xZ (by rw [hll.out];omega) hv.out hzk.out (by rw [dW ys i (by rw [hly.out];omega),hyk.out]) hs.out,hr.setCell _ _⟩
    case measure=>simp [intOf];omega
   ·by_cases hc0:c=0
    ·subst hc0
     go_wp2_with fail
     refine lM (results_none E _ _ _) E ?_
     exact FIN.out (cA ⟨by omega,by simp⟩)
    ·obtain rfl:c=1:=by omega
     obtain⟨s,d,hs,hsb,hd,hsub⟩:=FJ hzb
     go_wp2_with fail
     go_roundw
     case rel=>exact⟨i+1,d,l.set i s,by omega,hd,by go_num,rfl,by show _=_;rw [List.length_set];exact hll.out,fI hwl _ (by rw [cH];omega),by rw [←eS];exact (hb.set _ _),
      xZ (y:=0) (c:=1) (by rw [hll.out];omega) hv.out hzk.out (by rw [List.take_of_length_le (by rw [hly.out];omega),List.take_of_length_le (by rw [hly.out];omega),fR,dF]) hs.out,hr.setCell _ _⟩
     case measure=>simp [intOf];omega
  ·go_wp2_with fail
   go_end0
   exact FIN.out (bY (by omega))
def NewP (w:a6)(v n:Nat)(e:dL)(w':a6):Prop:=
 ∃g zs,e= .returned (a9 (some ⟨g,0,none⟩) n n)∧w.heap.size≤g∧Bk w' g 50 (zs.map bG)∧Wf zs∧Hid (zs.length=n)∧Hid (nv zs=v)∧Ext w w'
theorem zG (h:xs.length≤n):nv (splice (cB n 0) 0 xs)=nv xs∧(splice (cB n 0) 0 xs).length=n:=by
 unfold splice
 constructor
 ·rw [List.take_zero,List.nil_append,List.drop_replicate,uH,uF,fR,dF]
 ·simp;omega
theorem DE (hx:Wf xs)(hy:Wf ys)(o:Nat):Wf (splice xs o ys):=DG (mF hx _) (DG hy (wA hx _))
theorem zR (hx:Rd w A n cap xs)(hl:n≤549755813888)(hy:Rd w B m cap' ys)(hl':m≤549755813888):aU aG 149 #[a9 A n cap,a9 B m cap'] w (NewP w (nv xs+nv ys) (max n m+1)):=by
 have hlx:=bD hx.len
 have hly:=bD hy.len
 obtain⟨k,hk⟩:∃k,max n m=k:=⟨_,rfl⟩
 rw [hk]
 have hnk:n≤k:=by omega
 have hmk':m≤k:=by omega
 have hkb:k≤549755813888:=by omega
 have hmax:max (n:Int) (m:Int)=(k:Int):=by omega
 have hmk:=m5 (P:=aG) Tryz.underlying44 kF E (by decide) ((k:Int)+1) (by omega) (by omega)
 have et:((k:Int)+1).toNat=k+1:=by omega
 rw [et] at hmk
 clear et hk
 go_enter Tryz.func149,Tryz.ntmps149
 go_upto_region 2 with (fail)
 clear hmk
 obtain⟨g,hg⟩:∃g,w.heap.size=g:=⟨_,rfl⟩
 rw [hg]
 obtain⟨wa,hwa⟩:∃wa,w.alloc (.cells (zc (.int .u64 0) (k+1)) 50)=wa:=⟨_,rfl⟩
 rw [hwa]
 have hbk:Bk wa g 50 ((cB (k+1) 0).map bG):=by
  rw [←hwa,←hg,←m7];exact Bk.new' _ _ _
 have hea:Ext w wa:=by rw [←hwa];exact (Ext.refl w).alloc _
 have hgs:w.heap.size≤g:=by rw [hg];exact aZ _
 clear hg hwa
 have hr1:n≤k+1:=by omega
 go_wp2_with ((with_reducible refine cP (some 15) ?_);refine sY E (.tmp 13) (.tmp 14) 44 44 E E E Tryz.underlying44 tN hbk (hx.rv.ext hea) (fun _=>rfl) (by rw [List.length_map,List.length_replicate];omega) (s8 xs) ?_;intro w1 hb1 hu1)
 rw [←j9,tM,List.take_of_length_le (l:=xs) (by rw [hlx.out];omega)] at hb1
 obtain⟨zs,hzs⟩:∃zs,zs=splice (cB (k+1) 0) 0 xs:=⟨_,rfl⟩
 have hz2:=zG (xs:=xs) (n:=k+1) (by rw [hlx.out];omega)
 have hwz:Wf zs:=by rw [hzs];exact DE (lL _) hx.wf _
 rw [←hzs] at hb1 hz2
 clear hzs
 obtain⟨hzv,hzl⟩:=hz2
 have HZV:=bD hzv
 have HZL:=bD hzl
 clear hzv hzl
 have he1:Ext w w1:=hu1.ext hea hgs
 refine (rA (o:=0) (n:=k+1) hb1 hwz (by rw [HZL.out];omega) (hy.ext he1) (fun a ha hp=>by have:=hy.rv.blk a ha (by have:=hy.rv.le;omega);omega) (by omega) (by omega) (by omega) ?_).mono ?_
 ·have h1:=gX hx.wf
  have h2:=gX hy.wf
  rw [hlx.out] at h1
  rw [hly.out] at h2
  have h3:WB^n≤WB^k:=fJ eN hnk
  have h4:WB^m≤WB^k:=fJ eN hmk'
  have h5:WB^k*2≤WB^k*WB:=gP _ DH
  rw [HZV.out,Nat.pow_zero,Nat.one_mul,dY,dK]
  omega
 rintro e w2 ⟨zs',rfl,hb2,hw2,hl2,hv2,hu2⟩
 go_wp2_with fail
 go_ret
 refine⟨g,zs',rfl,hgs,hb2,hw2,(show _=_ by rw [hl2.out,HZL.out]),?_,hu2.ext he1 hgs⟩
 show _=_
 rw [hv2.out,HZV.out,Nat.pow_zero,Nat.one_mul]
theorem J2 {c o P:Nat}(hk:k=i+j)(hkm:k<m)(hml:m≤l.length)(h:nv (l.take m)+WB^k*c=P+x*(WB^i*nv (ys.take j)))(ho:l.getD k 0=o)(hj:j<ys.length)(hy:ys.getD j 0=y)(hs:s+WB*d=o+x*y+c):nv ((l.set k s).take m)+WB^(k+1)*d=P+x*(WB^i*nv (ys.take (j+1))):=by
 have p:=nI (l:=l.take m) (k:=k) (by rw [cV];omega) s
 rw [KK hkm,ho] at p
 rw [List.take_set,dW ys j hj,hy,cY (WB^i),cY x,←lQ,←h,←cI (WB^i),←dQ,←hk,dK,cI (WB^k)]
 have e:WB^k*(s+WB*d)=WB^k*(o+x*y+c):=by rw [hs]
 simp only [cY] at e
 have f:WB^k*(x*y)=x*(WB^k*y):=by rw [←cI,cM (WB^k) x,cI]
 rw [f] at e
 omega
theorem J6 {capa capb:Nat}(hz:Bk w g 50 (zs.map bG))(hzz:zs=cB N 0)(hN:N=n+m)(hx:Rd w A n capa xs)(hy:Rd w B m capb ys)(hna:∀a,A=some a→0<n→a.block≠g)(hnb:∀a,B=some a→0<m→a.block≠g)(hn:n≤549755813888)(hm:m≤549755813888):aU aG 125 #[a9 (some ⟨g,0,none⟩) N cap,a9 A n capa,a9 B m capb] w (nY g zs (nv xs*nv ys) w):=by
 have hlx:=bD hx.len
 have hly:=bD hy.len
 have hlz:=bD (show zs.length=n+m by rw [hzz,List.length_replicate,hN])
 have hwz:Wf zs:=by rw [hzz];exact lL _
 have hz0:=bD (show∀t,zs.getD t 0=0 by intro t;rw [hzz];simp [bE,List.getElem?_replicate];split <;> rfl)
 have hzv:=bD (show nv (zs.take m)=0 by rw [hzz,List.take_replicate,uF])
 subst hN
 clear hzz
 go_enter Tryz.func125,Tryz.ntmps125
 go_wp2_with fail
 go_loopw [16] (fun u wr=>∃(i:Nat) (l:List Nat),i≤n∧u= a4 (i:Int)∧Hid (l.length=n+m)∧Wf l∧Bk wr g 50 (l.map bG)∧
  Hid (nv (l.take (i+m))=nv (xs.take i)*nv ys)∧Hid (∀t,i+m≤t→l.getD t 0=0)∧Upd g w wr) (fun u wr=>n-(intOf u).toNat)
 case atStart=>exact⟨0,zs,cE _,rfl,hlz.out,hwz,hz,by simp [Hid,nv];exact hzv.out,fun t _=>hz0.out t,Upd.refl _ _⟩
 case round=>
  obtain⟨i,l,hi,rfl,hll,hwl,hb,hv,h0,hr⟩:=hrel
  by_cases hip:i<n
  ·obtain⟨a,x,rfl,hxk,hxb,hcx⟩:=(hx.upd hr (fun a ha=>hna a ha (by omega))).get (i:=i) (by omega)
   by_cases hx0:x=0
   ·subst hx0
    have hstay:Hid (nv (l.take (i+1+m))=nv (xs.take (i+1))*nv ys):=by
     show _=_
     rw [show i+1+m=i+m+1 from by omega,nG l (i+m) (by rw [hll.out];omega) (h0.out _ (by omega)),hv.out,nG xs i (by rw [hlx.out];omega) hxk.out]
    go_wp2_with fail
    go_roundw
    case rel=>exact⟨i+1,l,by omega,by go_num,hll.out,hwl,hb,hstay.out,fun t ht=>h0.out t (by omega),hr⟩
    case measure=>simp [intOf];omega
   ·have hxz:((x:Int)==0)=false:=by simp;omega
    go_wp2_with fail
    obtain⟨wo,rfl⟩:∃wo:a6,wo=wr:=⟨_,rfl⟩
    go_loopw [25,8] (fun u v wr=>∃(j c:Nat) (l:List Nat),j≤m∧c≤18446744073709551615∧u= a4 (j:Int)∧v= a5 (c:Int)∧Hid (l.length=n+m)∧Wf l∧Bk wr g 50 (l.map bG)∧
     Hid (nv (l.take (i+m))+WB^(i+j)*c=nv (xs.take i)*nv ys+x*(WB^i*nv (ys.take j)))∧Hid (∀t,i+m≤t→l.getD t 0=0)∧Upd g w wr) (fun u v wr=>m-(intOf u).toNat)
    case atStart=>exact⟨0,0,l,cE _,by omega,rfl,rfl,hll.out,hwl,hb,(show _=_ by rw [hv.out];simp [nv]),h0.out,hr⟩
    case round=>
     obtain⟨j,c,l2,hj,hc,rfl,rfl,hl2,hw2,hb2,hv2,h02,hr2⟩:=hrel
     clear hll hwl hb hv h0 hr hcx
     by_cases hjq:j<m
     ·obtain⟨b,y,rfl,hyk,hyb,hcy⟩:=(hy.upd hr2 (fun a ha=>hnb a ha (by omega))).get (i:=j) (by omega)
      obtain⟨o,hok,aK,hco⟩:=hb2.word hw2 (i:=i+j) (by rw [hl2.out];omega)
      have hfr:=hb2.frozen (i+j)
      go_wp2_with fail
      refine (bits_Mul64 x y hxb hyb _).mono ?_
      rintro e w' ⟨hi',lo,hp,hhb,hlb,rfl,rfl⟩
      obtain⟨s1,d1,hs1,hsb1,hd1,hadd1⟩:=pM hlb hc
      obtain⟨s2,d2,hs2,hsb2,hd2,hadd2⟩:=pM aK hsb1
      have hP:x*y≤340282366920938463426481119284349108225:=i2 hxb hyb
      have hk1:hi'+d1+d2≤18446744073709551615∧hi'+d1≤18446744073709551615:=by
       have e1:=hp.out
       have e2:=hs1.out
       have e3:=hs2.out
       rw [cH] at e1 e2 e3
       omega
      obtain⟨hk1,hk2⟩:=hk1
      clear hP
      go_wp2_with fail
      go_roundw
      case rel=>
       refine⟨j+1,hi'+d1+d2,l2.set (i+j) s2,by omega,by omega,by go_num,fC,by show _=_;rw [List.length_set];exact hl2.out,fI hw2 _ (by rw [cH];omega),by rw [←eS];exact hb2.set _ _,
        J2 (k:=i+j) (m:=i+m) E (by omega) (by rw [hl2.out];omega) hv2.out hok.out (by rw [hly.out];omega) hyk.out ?_,fun t ht=>?_,hr2.setCell _ _⟩
       ·have e1:=hp.out
        have e2:=hs1.out
        have e3:=hs2.out
        rw [cY,cY,←e1];omega
       ·rw [getD_set_ne (by omega)];exact h02.out t ht
      case measure=>simp [intOf];omega
     ·obtain rfl:j=m:=by omega
      obtain⟨o,hok,aK,hco⟩:=hb2.word hw2 (i:=i+j) (by rw [hl2.out];omega)
      have hfr:=hb2.frozen (i+j)
      go_wp2_with fail
      go_roundw
      case rel=>
       refine⟨i+1,l2.set (i+j) c,by omega,by go_num,by show _=_;rw [List.length_set];exact hl2.out,fI hw2 _ (by rw [cH];omega),by rw [←eS];exact hb2.set _ _,?_,fun t ht=>?_,hr2.setCell _ _⟩
       ·show _=_
        rw [show i+1+j=i+j+1 from by omega,uG (by rw [hl2.out];omega),hv2.out,List.take_of_length_le (l:=ys) (i:=j) (by rw [hly.out];omega),dW xs i (by rw [hlx.out];omega),hxk.out,dM,←cI,cM x]
       ·rw [getD_set_ne (by omega)];exact h02.out t (by omega)
      case measure=>simp [intOf];omega
  ·obtain rfl:i=n:=by omega
   go_wp2_with fail
   go_end0
   have h:=hv.out
   rw [List.take_of_length_le (by rw [hll.out];omega),List.take_of_length_le (by rw [hlx.out];omega)] at h
   exact⟨l,rfl,hb,hwl,(show _=_ by rw [hll.out,hlz.out]),h,hr⟩
def wD (w:a6)(x y:Nat)(e:dL)(w':a6):Prop:=∃k,Hid (k=(wd x).length+(wd y).length)∧NewP w (x*y) k e w'
def DO (N:Nat):Prop:=∀(w:a6) (A B:Option a8) (n cap m cap':Nat) (xs ys:List Nat),Rd w A n cap xs→Rd w B m cap' ys→n+m<N→n+m≤274877906944→
 aU aG 116 #[a9 A n cap,a9 B m cap'] w (wD w (nv xs) (nv ys))
theorem NewP.rd (hb:Bk w' g 50 (zs.map bG))(hw:Wf zs)(hl:zs.length=n)(hn:n≤1099511627776):Rd w' (some ⟨g,0,none⟩) n n zs:=by
 have:=hb.rd hw (o:=0) (n:=n) (cap:=n) (aZ _) (by omega) (by rw [eX];omega)
 rwa [iR,List.take_of_length_le (by omega)] at this
theorem Upd.then_new {a b:a6}(h:Upd g w a)(e:Upd k a b)(hk:w.heap.size≤k):Upd g w b:=
 ⟨⟨e.by_.os.trans h.by_.os,e.by_.tape.trans h.by_.tape,e.by_.output.trans h.by_.output,aN h.by_.size e.by_.size,
  fun i hi f=>(e.by_.block i (cU hi h.by_.size) (fun e'=>by have:=i1 e';omega)).trans (h.by_.block i hi f)⟩⟩
theorem Rd.drop_some {a:a8}(h:Rd w (some a) n cap xs){l:Nat}(hl:l<n):Rd w (some (a.add l)) (n-l) (cap-l) (xs.drop l):=by
 have e:=h.rv.le
 have:=h.cut (l:=l) (k:=n) (m:=cap) (by omega) (aZ _) e (aZ _)
 rw [if_neg (by omega),sG,List.take_of_length_le (by rw [h.len];omega)] at this
 exact this
theorem Rd.empty (h:Rd w A n cap xs):Rd w A 0 0 []:=by
 have:=h.take (k:=0) (m:=0) (cE _) (aZ _) (cE _)
 simpa using this
def DT (w:a6)(h r:Nat)(xs:List Nat)(u v:aC)(wc:a6):Prop:=
 ∃A0 A1 c0 c1,u= a9 A0 h c0∧v= a9 A1 r c1∧Rd wc A0 h c0 (xs.take h)∧Rd wc A1 r c1 (xs.drop h)∧Ext w wc
theorem J7 (IH:DO N)(hz:Bk w g 50 (zs.map bG))(hzz:zs=cB (n+m) 0)(hx:Rd w A n n xs)(hy:Rd w B m m ys)(hna:∀a,A=some a→a.block≠g)(hnb:∀a,B=some a→a.block≠g)(hN:n+m=N)(hN2:N≤274877906944)(hm:24≤m)(hmn:m≤n)(hnm:n<2*m):aU aG 127 #[a9 (some ⟨g,0,none⟩) N N,a9 A n n,a9 B m m] w (nY g zs (nv xs*nv ys) w):=by
 have HI:=bD IH
 have HZZ:=bD hzz
 clear IH hzz
 have hlx:=bD hx.len
 have hly:=bD hy.len
 obtain⟨hf,hh⟩:∃hf,hf=(n+1)/2:=⟨_,rfl⟩
 have hh1:n≤2*hf:=by omega
 have hh2:2*hf≤n+1:=by omega
 have hh3:((n:Int)+1)/2=(hf:Int):=by omega
 have hNi:N≤n+m:=by omega
 have hNj:n+m≤N:=by omega
 have HN:=bD hN
 clear hh hN
 obtain⟨a,_,rfl,_,_,_⟩:=hx.get (i:=0) (by omega)
 obtain⟨b,_,rfl,_,_,_⟩:=hy.get (i:=0) (by omega)
 go_enter Tryz.func127,Tryz.ntmps127
 go_upto_region 1 with (fail)
 go_cut [7,8] (fun u v wc=>DT w hf (n-hf) xs u v wc)
 case first=>
  go_wp2_with fail
  go_quiet (fail)
  go_wp2_with fail
  go_meet
  case rel=>exact⟨_,_,_,_,rfl,rfl,(hx.take (k:=hf) (m:=hf) (by omega) (aZ _) (by omega)).ext (by repeat (first | exact Ext.refl _ | assumption | apply Ext.drewN | apply Ext.drew | apply Ext.alloc)),(hx.drop_some (l:=hf) (by omega)).ext (by repeat (first | exact Ext.refl _ | assumption | apply Ext.drewN | apply Ext.drew | apply Ext.alloc)),(by repeat (first | exact Ext.refl _ | assumption | apply Ext.drewN | apply Ext.drew | apply Ext.alloc))⟩
 case rest=>
  obtain⟨A0,A1,c0,c1,rfl,rfl,hx0,hx1,hext1⟩:=hcut
  obtain⟨wx,rfl⟩:∃wx:a6,wx=wc:=⟨_,rfl⟩
  go_upto_region 2 with (fail)
  go_cut [9,10] (fun u v wc=>DT wx hf (m-hf) ys u v wc)
  case first=>
   by_cases hhm:hf=m
   ·subst hhm
    have e0:hf-hf=0:=by omega
    go_wp2_with fail
    go_quiet (fail)
    go_wp2_with fail
    go_meet
    case rel=>
     have hy2:=(hy.ext hext1)
     refine⟨_,some b,_,0,rfl,by rw [e0],(hy2.take (k:=hf) (m:=hf) (by omega) (aZ _) (by omega)).ext (by repeat (first | exact Ext.refl _ | assumption | apply Ext.drewN | apply Ext.drew | apply Ext.alloc)),?_,(by repeat (first | exact Ext.refl _ | assumption | apply Ext.drewN | apply Ext.drew | apply Ext.alloc))⟩
     rw [e0,List.drop_eq_nil_of_le (by rw [hly.out];omega)]
     exact hy2.empty.ext (by repeat (first | exact Ext.refl _ | assumption | apply Ext.drewN | apply Ext.drew | apply Ext.alloc))
   ·have hhm2:hf<m:=by omega
    go_wp2_with fail
    go_quiet (fail)
    go_wp2_with fail
    go_meet
    case rel=>
     have hy2:=(hy.ext hext1)
     exact⟨_,_,_,_,rfl,rfl,(hy2.take (k:=hf) (m:=hf) (by omega) (aZ _) (by omega)).ext (by repeat (first | exact Ext.refl _ | assumption | apply Ext.drewN | apply Ext.drew | apply Ext.alloc)),(hy2.drop_some (l:=hf) (by omega)).ext (by repeat (first | exact Ext.refl _ | assumption | apply Ext.drewN | apply Ext.drew | apply Ext.alloc)),(by repeat (first | exact Ext.refl _ | assumption | apply Ext.drewN | apply Ext.drew | apply Ext.alloc))⟩
  case rest=>
   obtain⟨B0,B1,d0,d1,rfl,rfl,hy0,hy1,hext2⟩:=hcut
   have hx0':=hx0.ext hext2
   have hx1':=hx1.ext hext2
   have hz':=hz.ext (hext1.trans hext2)
   have hE:=hext1.trans hext2
   clear hx0 hx1 hext1 hext2
   go_wp2_with fail
   refine (HI.out _ _ _ _ _ _ _ _ _ hx0' hy0 (by omega) (by omega)).mono ?_
   rintro e w1 ⟨kl,hkl,gl,zl,rfl,hgl,hbl,hwl,hll,hvl,he1⟩
   have hlb:kl≤2*hf:=by
    rw [hkl.out]
    have h1:=f7 hx0'.wf
    have h2:=f7 hy0.wf
    rw [hx0'.len] at h1
    rw [hy0.len] at h2
    omega
   go_wp2_with fail
   refine (nL (NewP.rd hbl hwl hll.out (by omega))).mono ?_
   rintro e w' ⟨tl,htl,rfl,hrl,rfl⟩
   rw [hvl.out] at htl hrl
   go_wp2_with fail
   refine (HI.out _ _ _ _ _ _ _ _ _ (hx1'.ext he1) (hy1.ext he1) (by omega) (by omega)).mono ?_
   rintro e w2 ⟨kh,hkh,gh,zh,rfl,hgh,hbh,hwh,hlh,hvh,he2⟩
   have hhb:kh≤(n-hf)+(m-hf):=by
    rw [hkh.out]
    have h1:=f7 hx1'.wf
    have h2:=f7 hy1.wf
    rw [hx1'.len] at h1
    rw [hy1.len] at h2
    omega
   go_wp2_with fail
   refine (nL (NewP.rd hbh hwh hlh.out (by omega))).mono ?_
   rintro e w' ⟨th,hth,rfl,hrh,rfl⟩
   rw [hvh.out] at hth hrh
   have he12:=he1.trans he2
   go_wp2_with fail
   refine (zR (hx0'.ext he12) (by omega) (hx1'.ext he12) (by omega)).mono ?_
   rintro e w3 ⟨g3,z3,rfl,hg3,hb3,hw3,hl3,hv3,he3⟩
   go_wp2_with fail
   refine (zR (hy0.ext (he12.trans he3)) (by omega) (hy1.ext (he12.trans he3)) (by omega)).mono ?_
   rintro e w4 ⟨g4,z4,rfl,hg4,hb4,hw4,hl4,hv4,he4⟩
   have q3:max hf (n-hf)+1=hf+1:=by omega
   have q4:max hf (m-hf)+1=hf+1:=by omega
   rw [q3] at hl3
   rw [q4] at hl4
   rw [q3,q4]
   clear q3 q4
   go_wp2_with fail
   refine (HI.out _ _ _ _ _ _ _ _ _ (NewP.rd (hb3.ext he4) hw3 hl3.out (by omega)) (NewP.rd hb4 hw4 hl4.out (by omega)) (by omega) (by omega)).mono ?_
   rintro e w5 ⟨km,hkm,gm,zm,rfl,hgm,hbm,hwm,hlm,hvm,he5⟩
   have vx:Hid (nv xs=nv (xs.take hf)+WB^hf*nv (xs.drop hf)):=kC xs hf (by rw [hlx.out];omega)
   have vy:Hid (nv ys=nv (ys.take hf)+WB^hf*nv (ys.drop hf)):=kC ys hf (by rw [hly.out];omega)
   have bx:Hid (nv xs*nv ys<WB^N):=by
    show _<_
    have h1:=gX hx.wf
    have h2:=gX hy.wf
    rw [hlx.out] at h1
    rw [hly.out] at h2
    rw [←HN.out,dQ]
    exact q7 h1 h2
   have bl:Hid (nv (xs.take hf)*nv (ys.take hf)<WB^(2*hf)):=by
    show _<_
    have h1:=iH hx.wf hf
    have h2:=iH hy.wf hf
    rw [Nat.two_mul,dQ]
    exact q7 h1 h2
   rw [hv3.out,hv4.out] at hvm hkm
   generalize nv (xs.take hf)=X0 at*
   generalize nv (xs.drop hf)=X1 at*
   generalize nv (ys.take hf)=Y0 at*
   generalize nv (ys.drop hf)=Y1 at*
   have emid:Hid ((X0+X1)*(Y0+Y1)=X0*Y0+X1*Y1+(X0*Y1+X1*Y0)):=by
    show _=_
    simp only [dM,cY];omega
   have eall:Hid (nv xs*nv ys=X0*Y0+WB^(2*hf)*(X1*Y1)+WB^hf*(X0*Y1+X1*Y0)):=by
    show _=_
    rw [vx.out,vy.out,Nat.two_mul,dQ]
    simp only [dM,cY,cI]
    rw [Nat.mul_left_comm X0 (WB^hf) Y1,Nat.mul_left_comm X1 (WB^hf) Y1]
    omega
   have he25:=(he3.trans he4).trans he5
   have sl:tl≤km:=by
    have h1:=gX hwm
    rw [hlm.out,hvm.out,emid.out] at h1
    rw [htl.out]
    exact gI (by omega)
   have sh:th≤km:=by
    have h1:=gX hwm
    rw [hlm.out,hvm.out,emid.out] at h1
    rw [hth.out]
    exact gI (by omega)
   have hgl':gl<w1.heap.size:=hbl.lt
   have hgh':gh<w2.heap.size:=hbh.lt
   have s12:=he12.size
   have s2:=he2.size
   have s25:=he25.size
   have s5:=(he3.trans he4).size
   have n1:gl≠gm:=by omega
   have n2:gh≠gm:=by omega
   have hgz:g<w.heap.size:=hz.lt
   have sE:=hE.size
   have n3:g≠gm:=by have:=he12.size;omega
   have n4:g≠gl:=by omega
   have n5:g≠gh:=by have:=he1.size;omega
   have hkmb:km≤549755813888:=by
    rw [hkm.out]
    have h1:=f7 hw3
    have h2:=f7 hw4
    rw [hl3.out,hv3.out] at h1
    rw [hl4.out,hv4.out] at h2
    omega
   go_wp2_with fail
   refine (zS hbm hwm hlm.out (hrl.ext (he2.trans he25)) (fun a ha _=>by cases ha;exact n1) sl (by omega) (by rw [dS,hvm.out,emid.out];omega)).mono ?_
   rintro e w6 ⟨z6,rfl,hb6,hw6,hl6,hv6,hu6⟩
   rw [dS,hvm.out,emid.out] at hv6
   go_wp2_with fail
   refine (zS hb6 hw6 (by rw [hl6.out,hlm.out]) ((hrh.ext he25).upd hu6 (fun a ha=>by cases ha;exact n2)) (fun a ha _=>by cases ha;exact n2) sh (by omega) (by rw [dS,hv6.out];omega)).mono ?_
   rintro e w7 ⟨z7,rfl,hb7,hw7,hl7,hv7,hu7⟩
   rw [dS,hv6.out] at hv7
   have hu67:=hu6.trans hu7
   have hz7:Bk w7 g 50 (zs.map bG):=(hz'.ext (he12.trans he25)).upd hu67 n3
   have hrl7:Rd w7 (some ⟨gl,0,none⟩) tl tl (wd (X0*Y0)):=(hrl.ext (he2.trans he25)).upd hu67 (fun a ha=>by cases ha;exact n1)
   have hrh7:Rd w7 (some ⟨gh,0,none⟩) th th (wd (X1*Y1)):=(hrh.ext he25).upd hu67 (fun a ha=>by cases ha;exact n2)
   have hv7':Hid (nv z7=X0*Y1+X1*Y0):=by show _=_;rw [hv7.out];omega
   go_wp2_with ((with_reducible refine cP (some 55) ?_);refine sY E (.tmp 53) (.tmp 54) 44 44 E E E Tryz.underlying44 tN hz7 hrl7.rv (fun _=>rfl) ?fit (s8 _) ?_;rotate_left;intro w8 hb8 hu8)
   case fit=>rw [List.length_map,HZZ.out,List.length_replicate];omega
   have hwt:Wf (wd (X0*Y0)):=mE _
   have tlN:tl≤N:=by rw [htl.out];exact gI (jY (by rw [eall.out];omega) bx.out)
   rw [←j9,List.take_of_length_le (l:=wd (X0*Y0)) (by rw [←htl.out];exact tlN),HZZ.out,tM] at hb8
   obtain⟨hv8,hl8⟩:=zG (xs:=wd (X0*Y0)) (n:=n+m) (by rw [←htl.out];omega)
   rw [dS] at hv8
   have hw8:Wf (splice (cB (n+m) 0) 0 (wd (X0*Y0))):=DE (lL _) hwt _
   generalize splice (cB (n+m) 0) 0 (wd (X0*Y0))=z8 at*
   have HV8:=bD hv8
   have HL8:=bD hl8
   clear hv8 hl8
   have hrh8:=hrh7.upd hu8 (fun a ha=>by cases ha;exact fun e=>n5 e.symm)
   have tot2:Hid (X0*Y0+WB^(2*hf)*(X1*Y1)<WB^N):=jY (by rw [eall.out];omega) bx.out
   have thN:th≤N-2*hf:=by
    rw [hth.out]
    refine gI ?_
    have h1:=tot2.out
    refine Nat.lt_of_mul_lt_mul_left (a:=WB^(2*hf)) ?_
    rw [←dQ,show 2*hf+(N-2*hf)=N from by omega]
    omega
   have e2h:2*hf+(N-2*hf)=N:=by omega
   have hadd:=rA (o:=2*hf) (n:=N-2*hf) (cap:=N-2*hf) hb8 hw8 (by rw [HL8.out,HN.out,e2h]) hrh8 (fun a ha _=>by cases ha;exact fun e=>n5 e.symm) thN (by omega) (by omega) (by rw [HV8.out,dS,e2h];exact tot2.out)
   refine hadd.mono ?_
   clear hadd
   clear e2h
   rintro e w9 ⟨z9,rfl,hb9,hw9,hl9,hv9,hu9⟩
   rw [HV8.out,dS] at hv9
   have hz79:Bk w9 gm 50 (z7.map bG):=(hb7.upd hu8 (fun e=>n3 e.symm)).upd hu9 (fun e=>n3 e.symm)
   have hrm:Rd w9 (some ⟨gm,0,none⟩) km km z7:=NewP.rd hz79 hw7 (by rw [hl7.out,hl6.out,hlm.out]) (by omega)
   go_wp2_with fail
   have tot3:Hid (nv z9+WB^hf*nv z7<WB^(hf+(N-hf))):=by
    show _<_
    rw [hv9.out,hv7'.out,show hf+(N-hf)=N from by omega,←eall.out];exact bx.out
   have tmN:(wd (nv z7)).length≤N-hf:=by
    refine gI ?_
    have h1:=tot3.out
    refine Nat.lt_of_mul_lt_mul_left (a:=WB^hf) ?_
    rw [←dQ]
    omega
   have hl9':Hid (z9.length=hf+(N-hf)):=by show _=_;rw [hl9.out,HL8.out,HN.out];omega
   have b9:hf≤1099511627776:=by omega
   have b10:N-hf≤1099511627776:=by omega
   have fin:∀z10 w10,Wf z10→Bk w10 g 50 (z10.map bG)→z10.length=z9.length→nv z10=nv z9+WB^hf*nv (wd (nv z7))→Upd g w9 w10→nY g zs (nv xs*nv ys) w (.returned (.tuple #[])) w10:=by
    intro z10 w10 h1 h2 h3 h4 h5
    refine⟨z10,rfl,h2,h1,(show _=_ by rw [h3,hl9.out,HL8.out,HZZ.out,List.length_replicate]),?_,?_⟩
    ·show _=_
     rw [h4,dS,hv9.out,hv7'.out,←eall.out]
    ·have u5:Upd g w w5:=Upd.of_ext (hE.trans (he12.trans he25))
     have u7:Upd g w w7:=u5.then_new hu67 (by omega)
     exact ((u7.trans hu8).trans hu9).trans h5
   have FIN:=bD fin
   clear fin
   go_region_with (first
    | (go_at_call 124;refine (nL (hrm.ext (by repeat (first | exact Ext.refl _ | assumption | apply Ext.drewN | apply Ext.drew | apply Ext.alloc)))).mono ?_;rintro e w' ⟨tm,htm,rfl,hrm2,rfl⟩)
    | (go_at_call 126;refine (rA (o:=hf) (n:=N-hf) (hb9.ext (by repeat (first | exact Ext.refl _ | assumption | apply Ext.drewN | apply Ext.drew | apply Ext.alloc))) hw9 hl9'.out hrm2 (fun a ha _=>by cases ha;exact fun e=>n3 e.symm) (by rw [htm.out];exact tmN) b10 b9 (by rw [dS];exact tot3.out)).mono ?_;rintro e w10 ⟨z10,rfl,hb10,hw10,hl10,hv10,hu10⟩))
   all_goals
    go_end0
    exact FIN.out z10 _ hw10 (by first | exact hb10 | exact hb10.drew | exact hb10.drewN _) hl10.out hv10.out (by first | exact (Upd.of_ext (by repeat (first | exact Ext.refl _ | assumption | apply Ext.drewN | apply Ext.drew | apply Ext.alloc))).trans hu10 | exact ((Upd.of_ext (by repeat (first | exact Ext.refl _ | assumption | apply Ext.drewN | apply Ext.drew | apply Ext.alloc))).trans hu10).drew)
theorem I8 (N:Nat):DO N:=by
 induction N with
 | zero=>intro w A B n cap m cap' xs ys _ _ h;omega
 | succ N IH=>
  intro w A B n cap m cap' xs ys hx hy hN hN2
  have HI:=bD IH
  clear IH
  go_enter Tryz.func116,Tryz.ntmps116
  go_wp2_with fail
  refine (nL hx).mono ?_
  rintro e w' ⟨p,hp,rfl,hx1,rfl⟩
  go_wp2_with fail
  refine (nL hy).mono ?_
  rintro e w' ⟨q,hq,rfl,hy1,rfl⟩
  have hpn:p≤n:=by rw [hp.out];have:=f7 hx.wf;rw [hx.len] at this;exact this
  have hqm:q≤m:=by rw [hq.out];have:=f7 hy.wf;rw [hy.len] at this;exact this
  go_upto_if 16 with (fail)
  go_cut [0,1] (fun u v wc=>∃A B p q xs' ys',u= a9 A p p∧v= a9 B q q∧Rd w A p p xs'∧Rd w B q q ys'∧Hid (nv xs'*nv ys'=nv xs*nv ys)∧q≤p∧p+q≤n+m∧Hid (p+q=(wd (nv xs)).length+(wd (nv ys)).length)∧w=wc)
  case first=>
   by_cases hpq:p<q
   ·go_wp2_with fail
    go_meet
    case rel=>exact⟨B,A,q,p,_,_,rfl,rfl,hy1,hx1,(show _=_ by rw [dS,dS,cM]),by omega,by omega,(show _=_ by rw [←hp.out,←hq.out];omega),rfl⟩
   ·go_wp2_with fail
    go_meet
    case rel=>exact⟨A,B,p,q,_,_,rfl,rfl,hx1,hy1,(show _=_ by rw [dS,dS]),by omega,by omega,(show _=_ by rw [←hp.out,←hq.out]),rfl⟩
  case rest=>
   clear hx1 hy1 hp hq hpn hqm hx hy
   obtain⟨A,B,p,q,xs',ys',rfl,rfl,hx,hy,hXY,hqp,hpq,hK,rfl⟩:=hcut
   have hlx:=bD hx.len
   have hly:=bD hy.len
   have hmk:=m5 (P:=aG) Tryz.underlying44 kF E (by decide) ((p:Int)+(q:Int)) (by omega) (by omega)
   have et:((p:Int)+(q:Int)).toNat=p+q:=by omega
   rw [et] at hmk
   clear et
   obtain⟨g,hg⟩:∃g,w.heap.size=g:=⟨_,rfl⟩
   obtain⟨wa,hwa⟩:∃wa,w.alloc (.cells (zc (.int .u64 0) (p+q)) 50)=wa:=⟨_,rfl⟩
   have hbk:Bk wa g 50 ((cB (p+q) 0).map bG):=by
    rw [←hwa,←hg,←m7];exact Bk.new' _ _ _
   have hea:Ext w wa:=by rw [←hwa];exact (Ext.refl w).alloc _
   have hgs:w.heap.size≤g:=by rw [hg];exact aZ _
   have hna:∀a,A=some a→0<p→a.block≠g:=fun a ha hp=>by have:=hx.rv.blk a ha (by have:=hx.rv.le;omega);omega
   have hnb:∀a,B=some a→0<q→a.block≠g:=fun a ha hp=>by have:=hy.rv.blk a ha (by have:=hy.rv.le;omega);omega
   have HNA:=bD hna
   have HNB:=bD hnb
   have HG:=bD hg
   have HWA:=bD hwa
   clear hna hnb hg hwa
   go_upto_region 6 with (fail)
   rw [HG.out,HWA.out]
   clear hmk HG HWA
   have fin:∀zs' w',Bk w' g 50 (zs'.map bG)→Wf zs'→zs'.length=p+q→nv zs'=nv xs'*nv ys'→Upd g wa w'→wD w (nv xs) (nv ys) (.returned (a9 (some ⟨g,0,none⟩) (p+q) (p+q))) w':=by
    intro zs' w' h1 h2 h3 h4 h5
    exact⟨_,hK.out,g,zs',rfl,hgs,h1,h2,h3,by show _=_;rw [h4,hXY.out],h5.ext hea hgs⟩
   have FIN:=bD fin
   clear fin
   by_cases h24:q<24
   ·go_wp2_with fail
    refine (J6 hbk E E (hx.ext hea) (hy.ext hea) HNA.out HNB.out (by omega) (by omega)).mono ?_
    rintro e w1 ⟨z1,rfl,hb1,hw1,hl1,hv1,hu1⟩
    go_wp2_with fail
    go_ret
    exact FIN.out z1 w1 hb1 hw1 (by rw [hl1.out,List.length_replicate]) hv1.out hu1
   ·have hb24:decide ((q:Int)<24)=false:=by simp;omega
    by_cases h2q:p<2*q
    ·go_wp2_with fail
     refine (J7 (N:=p+q) (fun w A B n cap m cap' xs ys h1 h2 h3 h4=>HI.out w A B n cap m cap' xs ys h1 h2 (by omega) h4) hbk E (hx.ext hea) (hy.ext hea) (fun a ha=>HNA.out a ha (by omega)) (fun a ha=>HNB.out a ha (by omega)) E (by omega) (by omega) hqp h2q).mono ?_
     rintro e w1 ⟨z1,rfl,hb1,hw1,hl1,hv1,hu1⟩
     go_wp2_with fail
     go_ret
     exact FIN.out z1 w1 hb1 hw1 (by rw [hl1.out,List.length_replicate]) hv1.out hu1
    ·have hb2q:decide (2*(q:Int)≤(p:Int))=true:=by simp;omega
     obtain⟨a,_,rfl,_,_,_⟩:=hx.get (i:=0) (by omega)
     go_wp2_with fail
     go_loopw [6] (fun u wr=>∃(i:Nat) (l:List Nat),i≤p+q∧u= a4 (i:Int)∧Hid (l.length=p+q)∧Wf l∧Bk wr g 50 (l.map bG)∧Hid (nv l=nv (xs'.take i)*nv ys')∧Upd g wa wr) (fun u wr=>p+q-(intOf u).toNat)
     case atStart=>exact⟨0,_,cE _,rfl,List.length_replicate,lL _,hbk,(show _=_ by rw [uF];simp [nv]),Upd.refl _ _⟩
     case round=>
      obtain⟨i,l,hi,rfl,hll,hwl,hb,hv,hr⟩:=hrel
      clear hbk
      by_cases hip:i<p
      ·obtain⟨e,he⟩:∃e,e=min (i+q) p:=⟨_,rfl⟩
       have he1:i<e:=by omega
       have he2:e≤p:=by omega
       have he3:e≤i+q:=by omega
       have hmin:min ((i:Int)+(q:Int)) (p:Int)=(e:Int):=by omega
       have HE:=bD he
       clear he
       have hxr:=(hx.ext hea).upd hr (fun a ha=>HNA.out a ha (by omega))
       have hyr:=(hy.ext hea).upd hr (fun a ha=>HNB.out a ha (by omega))
       have hcut:=hxr.cut (l:=i) (k:=e) (m:=e) (by omega) he2 (aZ _) he2
       rw [if_neg (by omega),sG] at hcut
       have hnext:Hid (nv (xs'.take (i+q))*nv ys'=nv l+WB^i*(nv ((xs'.take e).drop i)*nv ys')):=by
        show _=_
        have e1:xs'.take (i+q)=xs'.take e:=by
         rw [HE.out]
         rcases Nat.le_total (i+q) p with h | h
         ·rw [fK h]
         ·rw [Nat.min_eq_right h,List.take_of_length_le (by rw [hlx.out];omega),List.take_of_length_le (by rw [hlx.out];omega)]
        have e2:=kC (xs'.take e) i (by rw [cV,hlx.out];omega)
        rw [List.take_take,fK (by omega)] at e2
        rw [e1,e2,dM,hv.out,cI]
       have hbnd:Hid (nv l+WB^i*(nv ((xs'.take e).drop i)*nv ys')<WB^(i+(p+q-i))):=by
        show _<_
        rw [←hnext.out,show i+(p+q-i)=p+q from by omega,dQ]
        have h1:=gX (mF hx.wf (i+q))
        have h2:=gX hy.wf
        rw [hly.out] at h2
        have h3:WB^(xs'.take (i+q)).length≤WB^p:=fJ eN (by rw [cV,hlx.out];omega)
        exact q7 (cU h1 h3) h2
       have htm:(wd (nv ((xs'.take e).drop i)*nv ys')).length≤p+q-i:=by
        refine gI ?_
        have h1:=hbnd.out
        refine Nat.lt_of_mul_lt_mul_left (a:=WB^i) ?_
        rw [←dQ]
        omega
       have hprod:nv ((xs'.take e).drop i)*nv ys'<WB^(p+q):=by
        have:=hbnd.out
        have h1:0<WB^i:=eT eN
        have h2:=Nat.le_mul_of_pos_left (nv ((xs'.take e).drop i)*nv ys') h1
        rw [show i+(p+q-i)=p+q from by omega] at this
        omega
       have HP:=bD hprod
       clear hprod
       have b1:i≤1099511627776:=by omega
       have b2:p+q-i≤1099511627776:=by omega
       have b3:e-i+q<N:=by omega
       have b4:e-i+q≤274877906944:=by omega
       have hgr:g<wr.heap.size:=hb.lt
       go_wp2_with fail
       have hk1b:(wd (nv ((xs'.take e).drop i))).length+(wd (nv ys')).length≤e-i+q:=by
        have h1:=f7 hcut.wf
        have h2:=f7 hy.wf
        rw [hcut.len] at h1
        rw [hy.len] at h2
        omega
       have htm':(wd (nv (wd (nv ((xs'.take e).drop i)*nv ys')))).length≤p+q-i:=by rw [dS];exact htm
       have hbnd':Hid (nv l+WB^i*nv (wd (nv ((xs'.take e).drop i)*nv ys'))<WB^(i+(p+q-i))):=by show _<_;rw [dS];exact hbnd.out
       have hll':Hid (l.length=i+(p+q-i)):=by show _=_;rw [hll.out];omega
       have hgwr:g<wr.heap.size:=hb.lt
       go_region_with (first
        | (go_at_call 116;refine (HI.out _ _ _ _ _ _ _ _ _ (hcut.ext (by repeat (first | exact Ext.refl _ | assumption | apply Ext.drewN | apply Ext.drew | apply Ext.alloc))) (hyr.ext (by repeat (first | exact Ext.refl _ | assumption | apply Ext.drewN | apply Ext.drew | apply Ext.alloc))) b3 b4).mono ?_;rintro er w1 ⟨k1,hk1,g1,z1,rfl,hg1,hb1,hw1,hl1,hv1,hx1⟩;have hr1:=NewP.rd hb1 hw1 hl1.out (by rw [hk1.out];omega);have hne1:g1≠g:=(by have h:wr.heap.size≤g1:=hg1;omega);have hx1':Ext wr w1:=Ext.trans (by repeat (first | exact Ext.refl _ | assumption | apply Ext.drewN | apply Ext.drew | apply Ext.alloc)) hx1)
        | (go_at_call 124;refine (nL (hr1.ext (by repeat (first | exact Ext.refl _ | assumption | apply Ext.drewN | apply Ext.drew | apply Ext.alloc))) (hl:=(by rw [hk1.out];omega))).mono ?_;rintro er w' ⟨tm,htm2,rfl,hrm2,rfl⟩;rw [hv1.out] at htm2 hrm2)
        | (go_at_call 126;refine (rA (o:=i) (n:=p+q-i) (hb.ext hx1') hwl hll'.out hrm2 (fun a ha _=>by cases ha;exact hne1) (by rw [htm2.out];exact htm) b2 b1 hbnd'.out).mono ?_;rintro er w10 ⟨z10,rfl,hb10,hw10,hl10,hv10,hu10⟩))
       all_goals
        go_wp2_with fail
        go_roundw
        case rel=>
         refine⟨i+q,z10,by omega,by go_num,(show _=_ by rw [hl10.out,hll.out]),hw10,by first | exact hb10 | exact hb10.drew | exact hb10.drewN _,?_,?_⟩
         ·show _=_
          rw [hv10.out,dS];exact hnext.out.symm
         ·have u1:Upd g wa w10:=(hr.then_ext hx1').trans (Upd.trans (Upd.of_ext (by repeat (first | exact Ext.refl _ | assumption | apply Ext.drewN | apply Ext.drew | apply Ext.alloc))) hu10)
          first | exact u1 | exact u1.drew | exact u1.drewN _
        case measure=>simp [intOf];omega
      ·have hfull:Hid (nv l=nv xs'*nv ys'):=by
        show _=_
        rw [hv.out,List.take_of_length_le (by rw [hlx.out];omega)]
       go_wp2_with fail
       go_ret
       exact FIN.out l _ hb hwl hll.out hfull.out hr
theorem zT (hx:Rd w A n cap xs)(hy:Rd w B m cap' ys)(hN:n+m≤274877906944):aU aG 116 #[a9 A n cap,a9 B m cap'] w (wD w (nv xs) (nv ys)):=I8 (n+m+1) w A B n cap m cap' xs ys hx hy (by omega) hN
theorem uJ (hx:Rd w A n cap xs)(hy:Rd w B m cap' ys)(hN:n+m≤274877906944):aU aG 106 #[a9 A n cap,a9 B m cap'] w (j5 w (nv xs*nv ys)):=by
 go_enter Tryz.func106,Tryz.ntmps106
 go_wp2_with fail
 refine (zT hx hy hN).mono ?_
 rintro e w1 ⟨k1,hk1,g1,z1,rfl,hg1,hb1,hw1,hl1,hv1,hx1⟩
 have hk1b:k1≤n+m:=by
  rw [hk1.out]
  have h1:=f7 hx.wf
  have h2:=f7 hy.wf
  rw [hx.len] at h1
  rw [hy.len] at h2
  omega
 go_wp2_with fail
 refine (j0 (NewP.rd hb1 hw1 hl1.out (by omega))).mono ?_
 rintro e w2 ⟨A2,n2,c2,rfl,hn2,hr2,ho2,hx2⟩
 go_wp2_with fail
 go_ret
 rw [hv1.out] at hn2 hr2 ho2
 exact⟨A2,n2,c2,rfl,hn2,hr2,ho2.mono hx1.size,hx1.trans hx2⟩
theorem J4 (hx:Rd w A n cap xs)(hN:n≤137438953472):aU aG 85 #[a9 A n cap] w (j5 w (nv xs*nv xs)):=by
 go_enter Tryz.func85,Tryz.ntmps85
 go_wp2_with fail
 refine (uJ hx hx (by omega)).mono ?_
 rintro e w1 ⟨A2,n2,c2,rfl,h⟩
 go_wp2_with fail
 go_ret
 exact⟨A2,n2,c2,rfl,h⟩
theorem Rd.one (w:a6)(hx:x≤18446744073709551615):Rd (w.alloc (.cells #[a5 (x:Int)] 50)) (some ⟨w.heap.size,0,none⟩) 1 1 [x]:=
 ⟨Rv.one w 50 _,DF (by rw [cH];omega)⟩
theorem J3 (hx:Rd w A n cap xs)(hN:n≤137438953472)(hxb:x≤18446744073709551615):aU aG 144 #[a9 A n cap,a5 (x:Int)] w (j5 w (nv xs*x)):=by
 go_enter Tryz.func144,Tryz.ntmps144
 go_wp2_with fail
 refine (uJ (hx.ext (by repeat (first | exact Ext.refl _ | assumption | apply Ext.drewN | apply Ext.drew | apply Ext.alloc))) (Rd.one w hxb) (by omega)).mono ?_
 rintro e w1 ⟨A2,n2,c2,rfl,hn2,hr2,ho2,hx2⟩
 go_wp2_with fail
 go_ret
 rw [oV] at hn2 hr2 ho2
 exact⟨A2,n2,c2,rfl,hn2,hr2,ho2.mono (by simp),((Ext.refl w).alloc _).trans hx2⟩
theorem Own.word (h:Own w base 50 1 A n cap (xs.map bG))(hw:Wf xs)(hi:i<n):∃g x,A=some ⟨g,0,none⟩∧base≤g∧Hid (xs.getD i 0=x)∧x≤18446744073709551615∧w.cell? ⟨g,i,none⟩=some (a5 (x:Int))∧w.frozen? ⟨g,i,none⟩=false∧
   ∀u:Nat,Own (w.setCell ⟨g,i,none⟩ (a5 (u:Int))) base 50 1 (some ⟨g,0,none⟩) n cap ((xs.set i u).map bG):=by
 have p:xs.length=n:=by simpa using h.rv.len
 rcases h with⟨rfl,rfl,rfl,_⟩ | ⟨g,cs,rfl,hb,e,hn,q,hl,o⟩
 ·omega
 ·have f:=s7 hw i
  have j:i<cs.length:=by omega
  refine⟨g,_,rfl,hb,rfl,by rw [cH] at f;omega,?_,e.frozen i,fun u=>?_⟩
  ·rw [e.cell j]
   have:cs.getD i undef=(cs.take (n*1)).getD i undef:=by
    simp only [bE,iC]
    rw [if_pos (by omega)]
   rw [this,o]
   simp [bE,gR,bS (show i<xs.length by omega)]
  ·refine Own.mk_ hb (e.set i _) hn q (by rw [List.length_set];exact hl) ?_
   rw [←eS,←o,List.take_set]
def P3 (w:a6)(q r:Nat)(e:dL)(w':a6):Prop:=
 ∃A n cap r',e= .returned (.tuple #[a9 A n cap,a5 (r':Nat),a4 0])∧Hid (r'=r)∧r'≤18446744073709551615∧Hid (n=(wd q).length)∧Rd w' A n cap (wd q)∧Own w' w.heap.size 50 1 A n cap ((wd q).map bG)∧Ext w w'
theorem E8 {rest r' v:Nat}(hk:k<l.length)(h:WB^(k+1)*nv (l.drop (k+1))*v+WB^(k+1)*rest+nv (l.take (k+1))=V)(hx:l.getD k 0=x)(hs:rest*WB+x=d*v+r'):WB^k*nv ((l.set k d).drop k)*v+WB^k*r'+nv ((l.set k d).take k)=V:=by
 have f:(l.set k d).take k=l.take k:=by rw [List.take_set_of_le (aZ k)]
 have o:(l.set k d).drop k=d::l.drop (k+1):=by
  rw [mP (by rw [List.length_set];exact hk)]
  congr 1
  ·simp
  ·rw [List.drop_set_of_lt (by omega)]
 rw [f,o,l7,←h,dW l k hk,hx,dK]
 have j:WB^k*(rest*WB+x)=WB^k*(d*v+r'):=by rw [hs]
 have p:WB^k*(d+WB*nv (l.drop (k+1)))*v=WB^k*WB*nv (l.drop (k+1))*v+WB^k*(d*v):=by
  rw [cY,dM,Nat.add_comm,←cI (WB^k) WB,cI (WB^k) d]
 have e:WB^k*WB*rest=WB^k*(rest*WB):=by rw [cI,cM WB rest]
 rw [p,e]
 simp only [cY] at j
 omega
theorem CI (hx:Rd w A n cap xs)(hl:n≤1099511627775){v:Nat}(hv0:v≠0)(hvb:v≤18446744073709551615):aU aG 117 #[a9 A n cap,a5 (v:Int)] w (P3 w (nv xs/v) (nv xs%v)):=by
 have h0:((v:Int)==0)=false:=by simp;omega
 go_enter Tryz.func117,Tryz.ntmps117
 go_wp2_with fail
 refine (j0 hx).mono ?_
 rintro e w1 ⟨A1,n1,c1,rfl,hn1,hr1,ho1,hx1⟩
 have hn1b:n1≤n:=by
  have:=f7 hx.wf
  rw [hn1.out,←hx.len];exact this
 clear h0
 have h0:((v:Int)==0)=false:=by simp;omega
 go_wp2_with fail
 obtain⟨l0,hl0⟩:∃l0,wd (nv xs)=l0:=⟨_,rfl⟩
 have hnl0:Hid (nv l0=nv xs):=(show _=_ by rw [←hl0,dS])
 rw [hl0] at hr1 ho1
 have hll0:Hid (l0.length=n1):=hr1.len
 have hwl0:=hr1.wf
 clear hr1 hl0
 go_loopw [9,8] (fun a b wr=>∃(k r:Nat) (l:List Nat),k≤n1∧r<v∧a= a4 ((k:Int)-1)∧b= a5 (r:Int)∧Hid (l.length=n1)∧Wf l∧Own wr w.heap.size 50 1 A1 n1 c1 (l.map bG)∧
  Hid (WB^k*nv (l.drop k)*v+WB^k*r+nv (l.take k)=nv xs)∧Ext w wr) (fun a b wr=>(intOf a+1).toNat)
 case atStart=>exact⟨n1,0,l0,aZ _,by omega,by go_num,rfl,hll0,hwl0,ho1,(show _=_ by rw [List.drop_of_length_le (by rw [hll0.out];exact aZ _),List.take_of_length_le (by rw [hll0.out];exact aZ _),hnl0.out];simp [nv]),hx1⟩
 case round=>
  obtain⟨k,r,l,hk,hr,rfl,rfl,hll,hwl,ho,hV,hxr⟩:=hrel
  clear hll0 hwl0 ho1 hnl0
  by_cases hk0:0<k
  ·obtain⟨k,rfl⟩:∃j,k=j+1:=⟨k-1,by omega⟩
   obtain⟨g,x,rfl,hg,hxk,hxb,hc,hfr,hset⟩:=ho.word hwl (i:=k) (by omega)
   have ek:((k+1:Nat):Int)-1=(k:Int):=by omega
   rw [ek]
   go_wp2_with fail
   refine (D3 hr hxb hvb _).mono ?_
   rintro e w2 ⟨d,r',hd,hr',hdb,hrv,rfl,m2,hm2⟩
   have hx2:Ext wr w2:=by rw [hm2];exact (Ext.refl wr).drewN m2
   clear hm2
   have ho2:=ho.ext hx2
   obtain⟨g',x',hg',_,_,_,hc2,hfr2,hset2⟩:=ho2.word hwl (i:=k) (by omega)
   cases hg'
   go_wp2_with fail
   go_roundw
   case rel=>
    refine⟨k,r',l.set k d,by omega,hrv,rfl,rfl,(show _=_ by rw [List.length_set];exact hll.out),fI hwl k (by rw [cH];omega),hset2 d,?_,(hxr.trans hx2).setCell hg _⟩
    refine E8 (by rw [hll.out];omega) hV.out hxk.out ?_
    rw [hd.out,hr'.out,cM _ v];exact (kR _ _).symm
   case measure=>simp [intOf]
  ·obtain rfl:k=0:=by omega
   have hVl:nv l*v+r=nv xs:=by simpa [nv] using hV.out
   have hq:nv l=nv xs/v:=by rw [←hVl,cM,mM (by omega),gB hr];rfl
   have hrr:Hid (r=nv xs%v):=(show _=_ by rw [←hVl,cM,wL,eZ hr])
   have HQ:=bD hq
   clear hq hVl
   have ek:((0:Nat):Int)-1= -1:=rfl
   rw [ek]
   go_wp2_with fail
   refine (j0 (ho.rd hwl)).mono ?_
   rintro e w2 ⟨A2,n2,c2,rfl,hn2,hr2,ho2,hx2⟩
   rw [HQ.out] at hn2 hr2 ho2
   go_wp2_with fail
   go_ret3
   exact⟨A2,n2,c2,r,rfl,hrr,by omega,hn2,hr2,ho2.mono hxr.size,hxr.trans hx2⟩
def P8 (w:a6)(v n:Nat)(e:dL)(w':a6):Prop:=
 ∃g zs,e= .returned (a9 (some ⟨g,0,none⟩) n n)∧w.heap.size≤g∧Bk w' g 50 (zs.map bG)∧Wf zs∧Hid (zs.length=n)∧Hid (nv zs=v)∧Ext w w'
theorem G4 (hs:s<64):x*2^s%18446744073709551616=(x%2^(64-s))*2^s∧x*2^s=x*2^s%18446744073709551616+WB*(x/2^(64-s)):=by
 have e:18446744073709551616=2^(64-s)*2^s:=by rw [←dQ,iP (by omega)]
 have h1:x*2^s%18446744073709551616=(x%2^(64-s))*2^s:=by rw [e,sH]
 refine⟨h1,?_⟩
 rw [h1,cH,e]
 have h2:=kP x (2^(64-s))
 conv=>lhs;rw [←h2]
 rw [dM,cI,cM (x/2^(64-s)),←cI]
theorem G6 {c r30 r32:Nat}(hs:s<64)(hx:xs.getD i 0=x)(hi:i<l.length)(hc:c<2^s)(h30:r30=x*2^s%18446744073709551616)(h32:r32=r30||| c)(hd:d=x/2^(64-s))(h:nv (l.take i)+WB^i*c=nv (xs.take i)*2^s):nv ((l.set i r32).take (i+1))+WB^(i+1)*d=nv (xs.take (i+1))*2^s:=by
 obtain⟨f,o⟩:=G4 (x:=x) hs
 have j:r32=r30+c:=by rw [h32,h30,f,uC hc]
 have p:nv (xs.take (i+1))=nv (xs.take i)+WB^i*x:=by
  by_cases e:i<xs.length
  ·rw [dW xs i e,hx]
  ·have:x=0:=by rw [←hx];simp [bE,kV (show xs.length≤i by omega)]
   rw [this,List.take_of_length_le (by omega),List.take_of_length_le (by omega)];simp
 rw [uG hi,p,dM,←h,j,hd,dK,cI (WB^i) WB,cI (WB^i) x,o,←h30]
 simp only [cY]
 omega
theorem G7 (hx:x≤18446744073709551615)(hs:s<64):x/2^(64-s)<2^s:=by
 refine qB ?_
 rw [←dQ,iP (by omega)]
 omega
theorem CH (hx:Rd w A m cap xs)(_hl:m≤1099511627775)(hs:s<64)(hn:n≤1099511627776)(hmn:m≤n)(hfit:nv xs*2^s<WB^n):aU aG 130 #[a9 A m cap,a5 (s:Int),a4 (n:Int)] w (P8 w (nv xs*2^s) n):=by
 have hlx:=bD hx.len
 have HF:=bD hfit
 clear hfit
 have hsi:(s:Int)≤63:=by omega
 have hmk:=m5 (P:=aG) Tryz.underlying44 kF E (by decide) (n:Int) (by omega) (by omega)
 rw [gC] at hmk
 go_enter Tryz.func130,Tryz.ntmps130
 go_wp2_with fail
 clear hmk
 obtain⟨g,hg⟩:∃g,w.heap.size=g:=⟨_,rfl⟩
 rw [hg]
 obtain⟨wa,hwa⟩:∃wa,w.alloc (.cells (zc (.int .u64 0) n) 50)=wa:=⟨_,rfl⟩
 rw [hwa]
 have hbk:Bk wa g 50 ((cB n 0).map bG):=by
  rw [←hwa,←hg,←m7];exact Bk.new' _ _ _
 have hea:Ext w wa:=by rw [←hwa];exact (Ext.refl w).alloc _
 have hgs:w.heap.size≤g:=by rw [hg];exact aZ _
 clear hg hwa
 go_loopw [15,8] (fun u v wr=>∃(i c:Nat) (l:List Nat),i≤n∧c≤18446744073709551615∧Hid (c<2^s)∧u= a4 (i:Int)∧v= a5 (c:Int)∧Hid (l.length=n)∧Wf l∧Bk wr g 50 (l.map bG)∧
  Hid (nv (l.take i)+WB^i*c=nv (xs.take i)*2^s)∧Ext w wr) (fun u v wr=>n-(intOf u).toNat)
 case atStart=>exact⟨0,0,_,cE _,cE _,jX s,rfl,rfl,List.length_replicate,lL _,hbk,by simp [Hid,nv],hea⟩
 case round=>
  obtain⟨i,c,l,hi,hcb,hc,rfl,rfl,hll,hwl,hb,hv,hr⟩:=hrel
  clear hbk hea
  by_cases hin:i<n
  ·obtain⟨o,ho,_,hco⟩:=hb.word hwl (i:=i) (by rw [hll.out];omega)
   have hfr:=hb.frozen i
   have key:∀x r32 d r30:Nat,xs.getD i 0=x→r30=x*2^s%18446744073709551616→r32=r30||| c→d=x/2^(64-s)→r32≤18446744073709551615→x≤18446744073709551615→∀w2,Upd g wr w2→Bk w2 g 50 ((l.set i r32).map bG)→Ext w w2→
     ∃(j c:Nat) (l:List Nat),j≤n∧c≤18446744073709551615∧Hid (c<2^s)∧bP .i64 ((i:Int)+1)= a4 (j:Int)∧bP .u64 (d:Int)= a5 (c:Int)∧Hid (l.length=n)∧Wf l∧Bk w2 g 50 (l.map bG)∧
      Hid (nv (l.take j)+WB^j*c=nv (xs.take j)*2^s)∧Ext w w2:=by
    intro x r32 d r30 h1 h2 h3 h4 h5 h6 w2 hu hb2 he
    have h7:=G7 h6 hs
    rw [←h4] at h7
    have h8:2^s≤2^63:=fJ (by omega) (by omega)
    exact⟨i+1,d,l.set i r32,by omega,by omega,h7,rfl,rfl,(show _=_ by rw [List.length_set];exact hll.out),fI hwl i (by rw [cH];omega),hb2,G6 hs h1 (by rw [hll.out];omega) hc.out h2 h3 h4 hv.out,he⟩
   have KEY:=bD key
   clear key
   have hs64:s≤64:=by omega
   by_cases him:i<m
   ·obtain⟨a,x,rfl,hxk,hxb,hcx⟩:=(hx.ext hr).get (i:=i) (by omega)
    by_cases hs0:0<s
    ·go_wp2_with (first
      | ((with_reducible refine cP (some 30) ?_);refine cZ rfl rfl rfl rfl rfl (lY hs64) ?_;intro r30 h30 hb30)
      | ((with_reducible refine cP (some 32) ?_);refine cZ rfl rfl rfl rfl rfl (oF hb30 hcb) ?_ (hf:=(by have:=lP (n:=64) (x:=r30) (y:=c) (by omega) (by omega);omega));intro r32 h32 hb32)
      | ((with_reducible refine cP (some 38) ?_);refine cZ rfl rfl rfl rfl rfl (lX (x:=64) (y:=s) (by omega)) ?_;intro r38 h38 hb38;obtain rfl:r38=64-s:=(by have:=h38.out;omega))
      | ((with_reducible refine cP (some 39) ?_);refine cZ rfl rfl rfl rfl rfl (l5 (s:=64-s) (by omega)) ?_ (hf:=(by have:=f5 x (2^(64-s));omega));intro d hd hdb))
     go_roundw
     case rel=>exact KEY.out x r32 d r30 hxk.out h30.out h32.out hd.out hb32 hxb _ ((Upd.refl _ _).setCell _ _) (by rw [←eS];exact hb.set _ _) (hr.setCell hgs _)
     case measure=>simp [intOf];omega
    ·go_wp2_with (first
      | ((with_reducible refine cP (some 30) ?_);refine cZ rfl rfl rfl rfl rfl (lY hs64) ?_;intro r30 h30 hb30)
      | ((with_reducible refine cP (some 32) ?_);refine cZ rfl rfl rfl rfl rfl (oF hb30 hcb) ?_ (hf:=(by have:=lP (n:=64) (x:=r30) (y:=c) (by omega) (by omega);omega));intro r32 h32 hb32))
     go_roundw
     case rel=>exact KEY.out x r32 0 r30 hxk.out h30.out h32.out (by rw [show s=0 from by omega,gB (by omega)]) hb32 hxb _ ((Upd.refl _ _).setCell _ _) (by rw [←eS];exact hb.set _ _) (hr.setCell hgs _)
     case measure=>simp [intOf];omega
   ·have hx0:Hid (xs.getD i 0=0):=by
     show _=_
     rw [bE,kV (by rw [hlx.out];omega)];rfl
    by_cases hs0:0<s
    ·go_wp2_with (first
      | ((with_reducible refine cP (some 30) ?_);refine cZ rfl rfl rfl rfl rfl (lY (x:=0) hs64) ?_;intro r30 h30 hb30)
      | ((with_reducible refine cP (some 32) ?_);refine cZ rfl rfl rfl rfl rfl (oF hb30 hcb) ?_ (hf:=(by have:=lP (n:=64) (x:=r30) (y:=c) (by omega) (by omega);omega));intro r32 h32 hb32)
      | ((with_reducible refine cP (some 38) ?_);refine cZ rfl rfl rfl rfl rfl (lX (x:=64) (y:=s) (by omega)) ?_;intro r38 h38 hb38;obtain rfl:r38=64-s:=(by have:=h38.out;omega))
      | ((with_reducible refine cP (some 39) ?_);refine cZ rfl rfl rfl rfl rfl (l5 (x:=0) (s:=64-s) (by omega)) ?_ (hf:=(by have:=f5 0 (2^(64-s));omega));intro d hd hdb))
     go_roundw
     case rel=>exact KEY.out 0 r32 d r30 hx0.out h30.out h32.out hd.out hb32 (by omega) _ ((Upd.refl _ _).setCell _ _) (by rw [←eS];exact hb.set _ _) (hr.setCell hgs _)
     case measure=>simp [intOf];omega
    ·go_wp2_with (first
      | ((with_reducible refine cP (some 30) ?_);refine cZ rfl rfl rfl rfl rfl (lY (x:=0) hs64) ?_;intro r30 h30 hb30)
      | ((with_reducible refine cP (some 32) ?_);refine cZ rfl rfl rfl rfl rfl (oF hb30 hcb) ?_ (hf:=(by have:=lP (n:=64) (x:=r30) (y:=c) (by omega) (by omega);omega));intro r32 h32 hb32))
     go_roundw
     case rel=>exact KEY.out 0 r32 0 r30 hx0.out h30.out h32.out (by simp) hb32 (by omega) _ ((Upd.refl _ _).setCell _ _) (by rw [←eS];exact hb.set _ _) (hr.setCell hgs _)
     case measure=>simp [intOf];omega
  ·obtain rfl:i=n:=by omega
   go_wp2_with fail
   go_ret
   refine⟨g,l,rfl,hgs,hb,hwl,hll,?_,hr⟩
   have h1:=hv.out
   rw [List.take_of_length_le (by rw [hll.out];exact aZ _),List.take_of_length_le (by rw [hlx.out];exact hmn)] at h1
   have h2:=HF.out
   show _=_
   rcases gQ c with h0 | h0
   ·rw [h0,fR] at h1;exact h1
   ·have:=Nat.le_mul_of_pos_right (WB^i) h0
    omega
def DV (g:Nat)(zs:List Nat)(K:Nat)(P:Nat→Nat→Prop)(w w':a6):Prop:=
 ∃zs' c,Bk w' g 50 (zs'.map bG)∧Wf zs'∧Hid (zs'.length=zs.length)∧Hid (zs'.drop K=zs.drop K)∧c≤1∧Hid (P (nv zs') c)∧Upd g w w'
theorem rQ (h:i<K)(x:Nat):(l.set i x).drop K=l.drop K:=by rw [List.drop_set_of_lt h]
theorem ND {o:Nat}(hz:Bk w g 50 (zs.map bG))(hwz:Wf zs)(hy:Rd w B m cap' ys)(hne:∀a,B=some a→a.block≠g)(hK:o+m+1≤zs.length)(hm:m≤1099511627776)(_ho:o≤1099511627776):aU aG 133 #[a9 (some ⟨g,o,none⟩) (m+1) cap,a9 B m cap'] w (fun e w'=>e= .returned (.tuple #[])∧DV g zs (o+m+1) (fun v c=>v+WB^(o+m+1)*c=nv zs+WB^o*nv ys) w w'):=by
 have hly:=bD hy.len
 have HK:=bD hK
 clear hK
 go_enter Tryz.func133,Tryz.ntmps133
 go_wp2_with fail
 go_loopw [8,4] (fun u v wr=>∃(i c:Nat) (l:List Nat),i≤m∧c≤1∧u= a4 (i:Int)∧v= a5 (c:Int)∧Hid (l.length=zs.length)∧Wf l∧Bk wr g 50 (l.map bG)∧Hid (l.drop (o+m+1)=zs.drop (o+m+1))∧
  Hid (nv l+WB^(o+i)*c=nv zs+WB^o*nv (ys.take i))∧Upd g w wr) (fun u v wr=>m-(intOf u).toNat)
 case atStart=>exact⟨0,0,zs,cE _,cE _,rfl,rfl,rfl,hwz,hz,rfl,by simp [Hid,nv],Upd.refl _ _⟩
 case round=>
  obtain⟨i,c,l,hi,hc,rfl,rfl,hll,hwl,hb,hdr,hv,hr⟩:=hrel
  by_cases him:i<m
  ·obtain⟨a,y,rfl,hyk,hyb,hcy⟩:=(hy.upd hr hne).get (i:=i) (by omega)
   obtain⟨z,hzk,hzb,hcz⟩:=hb.word hwl (i:=o+i) (by rw [hll.out];have:=HK.out;omega)
   have hfr:=hb.frozen (o+i)
   obtain⟨s,d,hs,hsb,hd,hadd⟩:=rZ hc hzb hyb
   go_wp2_with fail
   go_region
   go_wp2_with fail
   go_roundw
   case rel=>exact⟨i+1,d,l.set (o+i) s,by omega,hd,by go_num,rfl,by show _=_;rw [List.length_set];exact hll.out,fI hwl _ (by rw [cH];omega),by rw [←eS];exact (hb.set _ _).drew,
    (show _=_ by rw [rQ (by omega)];exact hdr.out),D9 (by rw [hll.out];have:=HK.out;omega) hv.out hzk.out (by rw [hly.out];omega) hyk.out hs.out,(hr.setCell _ _).drew⟩
   case measure=>simp [intOf];omega
  ·obtain rfl:i=m:=by omega
   obtain⟨z,hzk,hzb,hcz⟩:=hb.word hwl (i:=o+i) (by rw [hll.out];have:=HK.out;omega)
   have hfr:=hb.frozen (o+i)
   go_wp2_with ((with_reducible refine cP (some 34) ?_);refine cZ E E E E E tH ?_;intro s hs hsb)
   go_end0
   refine⟨rfl,l.set (o+i) s,(z+c)/18446744073709551616,by rw [←eS];exact hb.set _ _,fI hwl _ (by rw [cH];omega),(show _=_ by rw [List.length_set];exact hll.out),(show _=_ by rw [rQ (by omega)];exact hdr.out),by omega,?_,hr.setCell _ _⟩
   have h:=D8 (k:=o+i) (c:=c) (s:=s) (d:=(z+c)/18446744073709551616) (by rw [hll.out];have:=HK.out;omega) hv.out hzk.out (by rw [hs.out,cH];exact kP _ _)
   rwa [List.take_of_length_le (by rw [hly.out];exact aZ _)] at h
theorem FD {o c t lo:Nat}(hi2:o+i<l.length)(h:nv l+WB^o*(d*nv (ys.take i))=V+WB^(o+i)*(c+t))(hz:l.getD (o+i) 0=z)(hy:i<ys.length)(hyk:ys.getD i 0=y)(hp:lo+WB*hi=d*y)(ha:lo2+WB*cc=lo+c)(hs:s+lo2+t=z+WB*u):nv (l.set (o+i) s)+WB^o*(d*nv (ys.take (i+1)))=V+WB^(o+i+1)*((hi+cc)+u):=by
 have j:=nI hi2 s
 rw [hz] at j
 rw [dW ys i hy,hyk,cY d,cY (WB^o),show WB^o*(d*(WB^i*y))=WB^(o+i)*(d*y) from by rw [dQ,Nat.mul_left_comm d,←cI (WB^o)],dK,cI (WB^(o+i)),←hp]
 have f:WB^(o+i)*(s+lo2+t)=WB^(o+i)*(z+WB*u):=by rw [hs]
 have e:WB^(o+i)*(lo2+WB*cc)=WB^(o+i)*(lo+c):=by rw [ha]
 simp only [cY] at f e h⊢
 omega
theorem FC {c t A:Nat}(hi2:k<l.length)(h:nv l+A=V+WB^k*(c+t))(hz:l.getD k 0=z)(hs:s+c+t=z+WB*u):nv (l.set k s)+A=V+WB^(k+1)*u:=by
 have f:=nI hi2 s
 rw [hz] at f
 rw [dK,cI]
 have e:WB^k*(s+c+t)=WB^k*(z+WB*u):=by rw [hs]
 simp only [cY] at e h⊢
 omega
theorem FG {lo c:Nat}(hd:d≤18446744073709551615)(hy:y≤18446744073709551615)(hc:c≤18446744073709551615)(hp:lo+WB*hi=d*y)(ha:lo2+WB*cc=lo+c):hi+cc≤18446744073709551615:=by
 have h1:d*y≤18446744073709551615*18446744073709551615:=i2 hd hy
 rw [cH] at hp ha
 omega
theorem N4 {o:Nat}(hz:Bk w g 50 (zs.map bG))(hwz:Wf zs)(hy:Rd w B m cap' ys)(hne:∀a,B=some a→a.block≠g)(hK:o+m+1≤zs.length)(hm:m≤1099511627776)(_ho:o≤1099511627776)(hd:d≤18446744073709551615):aU aG 132 #[a9 (some ⟨g,o,none⟩) (m+1) cap,a9 B m cap',a5 (d:Int)] w (fun e w'=>∃b:Bool,e= .returned (.bool b)∧DV g zs (o+m+1) (fun v c=>(b=true↔c=1)∧v+WB^o*(d*nv ys)=nv zs+WB^(o+m+1)*c) w w'):=by
 have hly:=bD hy.len
 have HK:=bD hK
 clear hK
 go_enter Tryz.func132,Tryz.ntmps132
 go_wp2_with fail
 go_loopw [16,7,8] (fun u v x wr=>∃(i c t:Nat) (l:List Nat),i≤m∧c≤18446744073709551615∧t≤1∧u= a4 (i:Int)∧v= a5 (c:Int)∧x= a5 (t:Int)∧Hid (l.length=zs.length)∧Wf l∧Bk wr g 50 (l.map bG)∧Hid (l.drop (o+m+1)=zs.drop (o+m+1))∧
  Hid (nv l+WB^o*(d*nv (ys.take i))=nv zs+WB^(o+i)*(c+t))∧Upd g w wr) (fun u v x wr=>m-(intOf u).toNat)
 case atStart=>exact⟨0,0,0,zs,cE _,cE _,cE _,rfl,rfl,rfl,rfl,hwz,hz,rfl,by simp [Hid,nv],Upd.refl _ _⟩
 case round=>
  obtain⟨i,c,t,l,hi,hc,ht,rfl,rfl,rfl,hll,hwl,hb,hdr,hv,hr⟩:=hrel
  by_cases him:i<m
  ·obtain⟨a,y,rfl,hyk,hyb,hcy⟩:=(hy.upd hr hne).get (i:=i) (by omega)
   obtain⟨z,hzk,hzb,hcz⟩:=hb.word hwl (i:=o+i) (by rw [hll.out];have:=HK.out;omega)
   have hfr:=hb.frozen (o+i)
   go_wp2_with fail
   refine (bits_Mul64 d y hd hyb _).mono ?_
   rintro e w1 ⟨hi',lo,hp,hhb,hlb,rfl,rfl⟩
   obtain⟨lo2,cc,hlo2,hlo2b,hccb,hadd⟩:=pM hlb hc
   obtain⟨s,u,hs,hsb,hu,hsub⟩:=qP ht hzb hlo2b
   have hcar:(hi':Int)+(cc:Int)≤18446744073709551615:=by have:=FG hd hyb hc hp.out hlo2.out;omega
   go_wp2_with fail
   go_roundw
   case rel=>exact⟨i+1,hi'+cc,u,l.set (o+i) s,by omega,by omega,hu,by go_num,by go_num,rfl,by show _=_;rw [List.length_set];exact hll.out,fI hwl _ (by rw [cH];omega),by rw [←eS];exact (hb.set _ _),
    (show _=_ by rw [rQ (by omega)];exact hdr.out),FD (by rw [hll.out];have:=HK.out;omega) hv.out hzk.out (by rw [hly.out];omega) hyk.out hp.out hlo2.out hs.out,(hr.setCell _ _)⟩
   case measure=>simp [intOf];omega
  ·obtain rfl:i=m:=by omega
   obtain⟨z,hzk,hzb,hcz⟩:=hb.word hwl (i:=o+i) (by rw [hll.out];have:=HK.out;omega)
   have hfr:=hb.frozen (o+i)
   obtain⟨s,u,hs,hsb,hu,hsub⟩:=qP ht hzb hc
   have hfin:=FC (k:=o+i) (by rw [hll.out];have:=HK.out;omega) hv.out hzk.out hs.out
   rw [List.take_of_length_le (by rw [hly.out];exact aZ _)] at hfin
   have HFIN:=bD hfin
   clear hfin
   go_wp2_with fail
   go_ret
   refine⟨_,rfl,l.set (o+i) s,u,by rw [←eS];exact hb.set _ _,fI hwl _ (by rw [cH];omega),(show _=_ by rw [List.length_set];exact hll.out),(show _=_ by rw [rQ (by omega)];exact hdr.out),hu,⟨?_,HFIN.out⟩,hr.setCell _ _⟩
   simp
   omega
def DU (u2 u1 u0 v1 v0:Nat)(w:a6)(e:dL)(w':a6):Prop:=
 ∃d:Nat,e= .returned (a5 (d:Int))∧d≤18446744073709551615∧Hid (d*(v1*WB+v0)≤(u2*WB+u1)*WB+u0)∧Hid (d=18446744073709551615∨(u2*WB+u1)*WB+u0<(d+1)*(v1*WB+v0))∧∃m,w'=w.drewN m
theorem KB {T:Nat}(h1:d≤18446744073709551615)(h2:d*V≤T)(h3:d=18446744073709551615∨T<(d+1)*V)(k1:D≤18446744073709551615)(k2:D*V≤T)(k3:D=18446744073709551615∨T<(D+1)*V):d=D:=by
 have key:∀a b:Nat,a≤18446744073709551615→a*V≤T→(b=18446744073709551615∨T<(b+1)*V)→a≤b:=by
  intro a b _ h k
  rcases k with k | k
  ·omega
  ·refine o9 (fun e=>?_)
   have:=eG V (lO e)
   rw [Nat.succ_eq_add_one] at this
   omega
 exact Nat.le_antisymm (key _ _ h1 h2 k3) (key _ _ k1 k2 h3)
theorem KD (T V:Nat)(hV:0<V):∃D:Nat,D≤18446744073709551615∧D*V≤T∧(D=18446744073709551615∨T<(D+1)*V):=by
 by_cases h:T/V≤18446744073709551615
 ·exact⟨T/V,h,Nat.div_mul_le_self _ _,cA (by rw [cM];exact qA T hV)⟩
 ·refine⟨18446744073709551615,aZ _,?_,bY rfl⟩
  have h1:=Nat.div_mul_le_self T V
  have h2:=eG V (Nat.le_of_lt (o8 h))
  omega
structure Gs (u2 u1 u0 v1 v0 d rest:Nat):Prop where
 eq:d*v1+rest=u2*WB+u1
 top:d=18446744073709551615∨(u2*WB+u1)*WB+u0<(d+1)*(v1*WB+v0)
theorem Gs.done {rest:Nat}(h:Gs u2 u1 u0 v1 v0 d rest)(hd:d*v0≤rest*WB+u0):d*(v1*WB+v0)≤(u2*WB+u1)*WB+u0:=by
 rw [←h.eq,dM,cY,←cI]
 omega
theorem Gs.step {rest:Nat}(h:Gs u2 u1 u0 v1 v0 (d+1) rest)(hd:rest*WB+u0<(d+1)*v0):Gs u2 u1 u0 v1 v0 d (rest+v1):=by
 refine⟨?_,cA ?_⟩
 ·rw [←h.eq,gN];omega
 ·rw [←h.eq,cY,dM,←cI]
  omega
theorem Gs.cmp {lo p rest:Nat}(hp:lo+WB*hi=p)(hlo:lo≤18446744073709551615)(hu:u0≤18446744073709551615):(hi<rest∨hi=rest∧lo≤u0)↔p≤rest*WB+u0:=by
 rw [←hp,cH]
 omega
theorem Gs.over {rest:Nat}(hd:d≤18446744073709551615)(hv:v0≤18446744073709551615)(hr:18446744073709551616≤rest):d*v0≤rest*WB+u0:=by
 have h1:d*v0≤18446744073709551615*18446744073709551615:=i2 hd hv
 rw [cH]
 omega
theorem NC (h2:u2≤v1)(h1:u1≤18446744073709551615)(h0:u0≤18446744073709551615)(hv1:v1≤18446744073709551615)(hv0:v0≤18446744073709551615)(hpos:0<v1)(w:a6):aU aG 131 #[a5 (u2:Int),a5 (u1:Int),a5 (u0:Int),a5 (v1:Int),a5 (v0:Int)] w (DU u2 u1 u0 v1 v0 w):=by
 go_enter Tryz.func131,Tryz.ntmps131
 go_wp2_with fail
 go_step3
 go_upto_if 21 with (fail)
 go_cut [11,12] (fun a b wc=>∃d r:Nat,a= a5 (d:Int)∧b= a5 (r:Int)∧d≤18446744073709551615∧r≤18446744073709551615∧Hid (Gs u2 u1 u0 v1 v0 d r)∧∃m,wc=w.drewN m)
 case first=>
  by_cases hlt:v1≤u2
  ·obtain⟨s,c,hs,hsb,hc,hadd⟩:=pM h1 hv1
   have hG:Hid (Gs u2 u1 u0 v1 v0 18446744073709551615 (u1+v1)):=by
    refine⟨?_,bY rfl⟩
    obtain rfl:u2=v1:=by omega
    rw [cH];omega
   by_cases hc0:c=0
   ·subst hc0
    have b0:((0:Int) != 0)=false:=rfl
    go_wp2_with fail
    go_meet
    case rel=>
     have e:s=u1+v1:=by have:=hs.out;omega
     exact⟨18446744073709551615,s,rfl,rfl,by omega,hsb,by rw [e];exact hG,0,rfl⟩
   ·obtain rfl:c=1:=by omega
    have b1:((1:Int) != 0)=true:=rfl
    go_wp2_with fail
    simp only [Exit.noGoto_ret]
    go_ret
    exact⟨18446744073709551615,rfl,by omega,hG.out.done (Gs.over (by omega) hv0 (by have:=hs.out;rw [cH] at this;omega)),bY rfl,0,rfl⟩
  ·go_wp2_with fail
   refine (D3 (show u2<v1 by omega) h1 hv1 _).mono ?_
   rintro e w1 ⟨d,r,hd,hr,hdb,hrb,rfl,m1,rfl⟩
   go_wp2_with fail
   go_meet
   case rel=>
    have e1:d*v1+r=u2*WB+u1:=by rw [hd.out,hr.out,cM];exact kR _ _
    refine⟨d,r,rfl,rfl,hdb,by omega,⟨e1,cA ?_⟩,m1,rfl⟩
    rw [←e1,dM,dM,Nat.one_mul,cY,←cI]
    have h3:r*WB+WB≤v1*WB:=by
     have:=eG WB (lO hrb)
     rwa [gN] at this
    have h4:u0<WB:=by rw [cH];omega
    omega
 case rest=>
  obtain⟨d0,r0,rfl,rfl,hd0,hr0,hG0,hx0⟩:=hcut
  go_wp2_with fail
  go_step3
  go_wp2_with fail
  go_loopw [11,12] (fun a b wr=>∃d r:Nat,a= a5 (d:Int)∧b= a5 (r:Int)∧d≤18446744073709551615∧r≤18446744073709551615∧Hid (Gs u2 u1 u0 v1 v0 d r)∧wc=wr) (fun a b wr=>(intOf a).toNat)
  case atStart=>exact⟨d0,r0,rfl,rfl,hd0,hr0,hG0,rfl⟩
  case round=>
   obtain⟨d,r,rfl,rfl,hd,hr,hG,rfl⟩:=hrel
   clear hG0 hd0 hr0
   go_wp2_with fail
   refine (bits_Mul64 d v0 hd hv0 _).mono ?_
   rintro e w1 ⟨hi,lo,hp,hhb,hlb,rfl,rfl⟩
   have hcmp:=bD (Gs.cmp (rest:=r) hp.out hlb h0)
   have fin:∀d:Nat,d≤18446744073709551615→d*(v1*WB+v0)≤(u2*WB+u1)*WB+u0→(d=18446744073709551615∨(u2*WB+u1)*WB+u0<(d+1)*(v1*WB+v0))→DU u2 u1 u0 v1 v0 w (.returned (a5 (d:Int))) wc:=fun d a b c=>⟨d,rfl,a,b,c,hx0⟩
   have FIN:=bD fin
   clear fin
   have bad:¬d*v0≤r*WB+u0→∃d',d=d'+1∧Gs u2 u1 u0 v1 v0 d' (r+v1):=by
    intro h
    cases d with
    | zero=>simp at h
    | succ d'=>exact⟨d',rfl,hG.out.step (by omega)⟩
   have BAD:=bD bad
   clear bad
   obtain⟨s,c,hs,hsb,hc,hadd⟩:=pM hr hv1
   by_cases hA:hi<r
   ·go_wp2_with fail
    go_ret
    exact FIN.out d hd (hG.out.done (hcmp.out.1 (bY hA))) hG.out.top
   ·by_cases hB:hi=r
    ·have b1:((hi:Int)==(r:Int))=true:=by simp [hB]
     have HB:=bD hB
     clear hB
     by_cases hC:lo≤u0
     ·go_wp2_with fail
      go_ret
      exact FIN.out d hd (hG.out.done (hcmp.out.1 (cA ⟨HB.out,hC⟩))) hG.out.top
     ·obtain⟨d',rfl,hG'⟩:=BAD.out (fun h=>by have:=hcmp.out.2 h;have:=HB.out;omega)
      have HG':=bD hG'
      clear hG'
      have ed:((d'+1:Nat):Int)-1=(d':Int):=by omega
      by_cases hc0:c=0
      ·subst hc0
       have b0:((0:Int) != 0)=false:=rfl
       go_wp2_with fail
       go_roundw
       case rel=>exact⟨d',s,rfl,rfl,by omega,hsb,by rw [show s=r+v1 from by have:=hs.out;omega];exact HG',i3⟩
       case measure=>simp [intOf]
      ·obtain rfl:c=1:=by omega
       have b0:((1:Int) != 0)=true:=rfl
       go_wp2_with fail
       go_ret
       exact FIN.out d' (by omega) (HG'.out.done (Gs.over (by omega) hv0 (by have:=hs.out;rw [cH] at this;omega))) HG'.out.top
    ·have b1:((hi:Int)==(r:Int))=false:=by simp;omega
     obtain⟨d',rfl,hG'⟩:=BAD.out (fun h=>by have:=hcmp.out.2 h;omega)
     have HG':=bD hG'
     clear hG'
     have ed:((d'+1:Nat):Int)-1=(d':Int):=by omega
     by_cases hc0:c=0
     ·subst hc0
      have b0:((0:Int) != 0)=false:=rfl
      go_wp2_with fail
      go_roundw
      case rel=>exact⟨d',s,rfl,rfl,by omega,hsb,by rw [show s=r+v1 from by have:=hs.out;omega];exact HG',i3⟩
      case measure=>simp [intOf]
     ·obtain rfl:c=1:=by omega
      have b0:((1:Int) != 0)=true:=rfl
      go_wp2_with fail
      go_ret
      exact FIN.out d' (by omega) (HG'.out.done (Gs.over (by omega) hv0 (by have:=hs.out;rw [cH] at this;omega))) HG'.out.top
theorem wX (h:n≤9223372036854775807):IntKind.i64.wrap (n:Int)=(n:Int):=by
 simp only [qC,oE,oD]
 simp
 omega
theorem K4 (hy:y≠0)(hx:x≤9223372036854775807)(P:bT)(t:aQ)(w:a6):(binOp .quo t (a4 (x:Int)) (a4 (y:Int))).run P w= .ok (a4 ((x/y:Nat):Int)) w:=by
 have h1:=f5 x y
 have e:IntKind.i64.wrap ((x:Int).tdiv (y:Int))=((x/y:Nat):Int):=by
  have:(x:Int).tdiv (y:Int)=((x/y:Nat):Int):=by rw [sP (by omega)];simp
  rw [this,wX (by omega)]
 simp only [binOp,pX]
 simp [hy]
 rw [show (↑x/ ↑y:Int)=((x/y:Nat):Int) from by simp] at*
 simpa [sP] using e
theorem K3 (hy:y≠0)(hx:x≤9223372036854775807)(P:bT)(t:aQ)(w:a6):(binOp .rem t (a4 (x:Int)) (a4 (y:Int))).run P w= .ok (a4 ((x%y:Nat):Int)) w:=by
 have h1:=Nat.mod_le x y
 have e:IntKind.i64.wrap ((x:Int).tmod (y:Int))=((x%y:Nat):Int):=by
  have:(x:Int).tmod (y:Int)=((x%y:Nat):Int):=by rw [Int.tmod_eq_emod_of_nonneg (by omega)];simp
  rw [this,wX (by omega)]
 simp only [binOp,pX]
 simp [hy]
 rw [show (↑x% ↑y:Int)=((x%y:Nat):Int) from by simp] at*
 simp [Int.tmod_eq_emod_of_nonneg]
theorem wY {Q:cQ→Act→a6→Prop}(hgd:o.guard=none){t:aQ}{x y:bW}(ho:o.op= .binOp op t x y ty){f:Nat}(hx:a.eval x=vx)(hy:a.eval y=vy)(hne:uS op=false)(hr:∀(P:bT) (t:aQ) (w:a6),(binOp op t vx vy).run P w= .ok (a4 (f:Int)) w)(h:∀r:Nat,Hid (r=f)→wpList P ops Q rest (a.put o.dst (a4 (r:Int))) w):wpList P ops Q (o::rest) a w:=
 wZ hgd ho hx hy hne (fun w=>hr P t w) (h f E)
theorem OR (hx:x≤18446744073709551615)(hy:y≤18446744073709551615):bits BinOp.or IntKind.u64 (x:Int) (y:Int)=((x||| y:Nat):Int):=by
 have e:IntKind.u64.wrap ((mS 64 (x:Int)||| mS 64 (y:Int)).toNat:Int)=((x||| y:Nat):Int):=by
  rw [BitVec.toNat_or,nF hx,nF hy,kW,eZ (lP (n:=64) (by omega) (by omega))]
 exact e
theorem E7 (x k:Nat):IntKind.u64.wrap ((x:Int)*2^k)=((x*2^k%18446744073709551616:Nat):Int):=by
 rw [←kW];simp
theorem G3 (hs:s<64):x/2^s||| (y*2^(64-s)%18446744073709551616)=x/2^s+(y%2^s)*2^(64-s)∨18446744073709551616≤x:=by
 by_cases f:x<18446744073709551616
 ·left
  have e:18446744073709551616=2^s*2^(64-s):=by rw [←dQ,show s+(64-s)=64 from by omega]
  have h1:y*2^(64-s)%18446744073709551616=(y%2^s)*2^(64-s):=by rw [e,sH]
  have h2:x/2^s<2^(64-s):=qB (by rw [←e];exact f)
  rw [h1,Nat.or_comm,uC h2,Nat.add_comm]
 ·right;omega
theorem y7 (hi:i<l.length)(hix:i<xs.length)(hx:xs.getD i 0=x)(_hy:xs.getD (i+1) 0=y)(hz:z=x/2^s+(y%2^s)*2^(64-s))(hs:s<64)(h:nv (l.take i)*2^s+r0=nv (xs.take i)+WB^i*(x%2^s)):nv ((l.set i z).take (i+1))*2^s+r0=nv (xs.take (i+1))+WB^(i+1)*(y%2^s):=by
 rw [uG hi,dW xs i hix,hx,dM]
 have j:z*2^s=x/2^s*2^s+WB*(y%2^s):=by
  rw [hz,dM,cI,←dQ,iP (by omega),←kM,cM WB]
 have f:x/2^s*2^s+x%2^s=x:=by rw [cM];exact kR _ _
 have e:WB^i*x=WB^i*(x/2^s*2^s)+WB^i*(x%2^s):=by rw [←cY,f]
 rw [cI (WB^i) z,j,e,dK,cI (WB^i) WB,cY]
 omega
theorem J1 (hx:Rd w A m cap xs)(hl:m≤1099511627775)(hn:n≤9223372036854775807):aU aG 134 #[a9 A m cap,a4 (n:Int)] w (DM w (nv xs/2^n) 0):=by
 go_enter Tryz.func134,Tryz.ntmps134
 go_wp2_with fail
 refine (iZ hx).mono ?_
 rintro e w' ⟨k,hk,hkn,rfl,rfl⟩
 go_upto_region 4 with (first
  | ((with_reducible refine cP (some 16) ?_);refine wY rfl rfl rfl rfl rfl (K4 (x:=n) (y:=64) (by omega) hn) ?_;intro q hq)
  | ((with_reducible refine cP (some 18) ?_);refine wY rfl rfl rfl rfl rfl (K3 (x:=n) (y:=64) (by omega) hn) ?_;intro s hs;have hs64:s<64:=(by rw [hs.out];exact fM _ (by omega));have hqb:q≤9223372036854775807:=(by have:=hq.out;omega)))
 have hnqs:Hid (n=64*q+s):=(show _=_ by rw [hq.out,hs.out];exact (kR _ _).symm)
 clear hq hs
 have hlx:=bD hx.len
 by_cases hkq:k≤q
 ·go_wp2_with fail
  go_ret2
  refine DL (P4 ?_ aF)
  refine gB ?_
  rw [hnqs.out,dQ,Nat.pow_mul,←kM]
  have h1:=m9 (nv xs)
  rw [←hk.out] at h1
  have h2:WB^k≤WB^q:=fJ eN hkq
  have h3:=Nat.le_mul_of_pos_right (WB^q) (jX s)
  omega
 ·obtain⟨p,hkp⟩:∃p,k=q+p:=⟨k-q,by omega⟩
  have hp:0<p:=by omega
  obtain⟨ys,hys⟩:∃ys,(xs.take k).drop q=ys:=⟨_,rfl⟩
  have hyl:Hid (ys.length=p):=(show _=_ by rw [←hys,fN,cV,hlx.out];omega)
  have hyv:Hid (nv xs/2^n=nv ys/2^s):=by
   show _=_
   rw [hnqs.out,dQ,Nat.pow_mul,←kM,←Nat.div_div_eq_div_mul]
   congr 1
   have h1:=nH hx.wf hk.out
   have h2:=kC (xs.take k) q (by rw [cV,hlx.out];omega)
   have h3:=iH (mF hx.wf k) q
   rw [←h1,h2,hys,Nat.add_comm,mM (eT eN),gB h3,dF]
  have hyg:Hid (∀i,i<p→ys.getD i 0=xs.getD (q+i) 0):=by
   intro i hi
   rw [←hys]
   simp only [bE,lR,iC]
   rw [if_pos (by omega)]
  clear hys hk
  have hmk:=m5 (P:=aG) Tryz.underlying44 kF E (by decide) ((k:Int)-(q:Int)) (by omega) (by omega)
  have et:((k:Int)-(q:Int)).toNat=p:=by omega
  rw [et] at hmk
  clear et
  have hxn:=bD hnqs.out
  clear hnqs
  have hnk:¬(k:Int)≤(q:Int):=by omega
  have hnk0:¬(k:Int)-(q:Int)<0:=by omega
  have HL:=bD hl
  clear hqb hn
  have hkp1:k≤q+p:=by omega
  have hkp2:q+p≤k:=by omega
  clear hkp
  go_wp2_with fail
  clear hmk
  obtain⟨g,hg⟩:∃g,w.heap.size=g:=⟨_,rfl⟩
  rw [hg]
  obtain⟨wa,hwa⟩:∃wa,w.alloc (.cells (zc (.int .u64 0) p) 50)=wa:=⟨_,rfl⟩
  rw [hwa]
  have hbk:Bk wa g 50 ((cB p 0).map bG):=by
   rw [←hwa,←hg,←m7];exact Bk.new' _ _ _
  have hea:Ext w wa:=by rw [←hwa];exact (Ext.refl w).alloc _
  have hgs:w.heap.size≤g:=by rw [hg];exact aZ _
  clear hg hwa
  have hsb:(s:Int)≤63:=by omega
  have hs64':s≤64:=by omega
  go_loopw [29] (fun u wr=>∃(i:Nat) (l:List Nat),i≤p∧u= a4 (i:Int)∧Hid (l.length=p)∧Wf l∧Bk wr g 50 (l.map bG)∧
   Hid (nv (l.take i)*2^s+ys.getD 0 0%2^s=nv (ys.take i)+WB^i*(ys.getD i 0%2^s))∧Ext w wr) (fun u wr=>p-(intOf u).toNat)
  case atStart=>exact⟨0,_,cE _,rfl,List.length_replicate,lL _,hbk,by simp [Hid,nv],hea⟩
  case round=>
   obtain⟨i,l,hi,rfl,hll,hwl,hb,hv,hr⟩:=hrel
   clear hbk hea
   by_cases hip:i<p
   ·obtain⟨a,x,rfl,hxk,hxb,hcx⟩:=(hx.ext hr).get (i:=q+i) (by omega)
    obtain⟨o,ho,_,hco⟩:=hb.word hwl (i:=i) (by rw [hll.out];omega)
    have hfr:=hb.frozen i
    have hxy:Hid (ys.getD i 0=x):=(show _=_ by rw [hyg.out i hip];exact hxk.out)
    by_cases hi1:i+1<p
    ·obtain⟨a',y,ha',hyk,hyb,hcy⟩:=(hx.ext hr).get (i:=q+i+1) (by omega)
     cases ha'
     have hyy:Hid (ys.getD (i+1) 0=y):=(show _=_ by rw [hyg.out (i+1) hi1];exact hyk.out)
     go_upto_region 12 with ((with_reducible refine cP (some 41) ?_);refine cZ E E E E E (l5 hs64') ?_ (hf:=(by have:=f5 x (2^s);omega));intro z hz hzb)
     obtain⟨w2,hw2⟩:∃w2,wr.setCell ⟨g,i,none⟩ (.int .u64 (z:Int))=w2:=⟨_,rfl⟩
     rw [hw2]
     have hb2:Bk w2 g 50 ((l.set i z).map bG):=by rw [←hw2,←eS];exact hb.set i _
     have hr2:Ext w w2:=by rw [←hw2];exact hr.setCell hgs _
     have hwl2:Wf (l.set i z):=fI hwl i (by rw [cH];omega)
     have hll2:Hid ((l.set i z).length=p):=(show _=_ by rw [List.length_set];exact hll.out)
     have hz2:Hid ((l.set i z).getD i 0=z):=(show _=_ by have:=hll.out;simp [bE,this,hip])
     clear hw2
     obtain⟨z2,hzk2,hzb2,hcz2⟩:=hb2.word hwl2 (i:=i) (by rw [hll2.out];omega)
     obtain rfl:z2=z:=by rw [←hzk2.out,hz2.out]
     have hfr2:=hb2.frozen i
     obtain⟨a2,y2,ha2,hyk2,_,hcy2⟩:=(hx.ext hr2).get (i:=q+i+1) (by omega)
     cases ha2
     obtain rfl:y2=y:=by rw [←hyk2.out,hyk.out]
     clear hcy hco hb hr hfr hcx hzk2 hyk2
     have hcy4:w2.cell? (⟨a.block,a.off+(q+i+1),none⟩:a8)=some (a5 (y2:Int)):=by simpa [iS] using hcy2
     clear hcy2
     have hmb:y2*2^(64-s)%18446744073709551616≤18446744073709551615:=by omega
     obtain⟨r,hrd⟩:∃r,z2||| (y2*2^(64-s)%18446744073709551616)=r:=⟨_,rfl⟩
     have hrb:r≤18446744073709551615:=by
      have:=lP (n:=64) (x:=z2) (y:=y2*2^(64-s)%18446744073709551616) (by omega) (by omega)
      omega
     have hbits:Hid (bits BinOp.or IntKind.u64 (z2:Int) (IntKind.u64.wrap ((y2:Int)*2^(64-s)))=(r:Int)):=by
      show _=_
      rw [E7,OR hzb hmb,hrd]
     have hsum:Hid (r=x/2^s+(y2%2^s)*2^(64-s)):=by
      show _=_
      rw [←hrd,hz.out]
      rcases G3 (x:=x) (y:=y2) hs64 with h | h
      ·exact h
      ·omega
     clear hrd hmb
     go_region
     rw [hbits.out]
     go_wp2_with fail
     go_roundw
     case rel=>
      refine⟨i+1,(l.set i z2).set i r,by omega,by go_num,(show _=_ by rw [List.length_set,hll2.out]),fI hwl2 i (by rw [cH];omega),by rw [←eS];exact (hb2.set i _).drew,?_,(hr2.setCell hgs _).drew⟩
      show _=_
      rw [List.set_set,hyy.out]
      exact y7 (by rw [hll.out];omega) (by rw [hyl.out];omega) hxy.out hyy.out hsum.out hs64 (by rw [←hxy.out];exact hv.out)
     case measure=>simp [intOf];omega
    ·have hi2:¬(q:Int)+(i:Int)+1<(k:Int):=by omega
     have hyz:Hid (ys.getD (i+1) 0=0):=by
      show _=_
      rw [bE,kV (by rw [hyl.out];omega)];rfl
     go_wp2_with ((with_reducible refine cP (some 41) ?_);refine cZ E E E E E (l5 hs64') ?_ (hf:=(by have:=f5 x (2^s);omega));intro z hz hzb)
     go_roundw
     case rel=>
      refine⟨i+1,l.set i z,by omega,by go_num,(show _=_ by rw [List.length_set,hll.out]),fI hwl i (by rw [cH];omega),by rw [←eS];exact hb.set i _,?_,hr.setCell hgs _⟩
      have:=y7 (l:=l) (y:=0) (z:=z) (by rw [hll.out];omega) (by rw [hyl.out];omega) hxy.out hyz.out (by rw [hz.out];simp) hs64 (by rw [←hxy.out];exact hv.out)
      show _=_
      rw [hyz.out]
      exact this
     case measure=>simp [intOf];omega
   ·obtain rfl:i=p:=by omega
    have hval:Hid (nv l=nv xs/2^n):=by
     show _=_
     have h:=hv.out
     rw [List.take_of_length_le (by rw [hll.out];exact aZ _),List.take_of_length_le (by rw [hyl.out];exact aZ _)] at h
     have h0:ys.getD i 0=0:=by rw [bE,kV (by rw [hyl.out];exact aZ _)];rfl
     rw [h0,Nat.zero_mod,fR,dF] at h
     have h1:=fM (ys.getD 0 0) (jX s)
     rw [hyv.out,←h,cM,mM (jX s),gB h1,dF]
    have hr2:Rd wr (some ⟨g,0,none⟩) i i l:=by
     have:=hb.rd hwl (o:=0) (n:=i) (cap:=i) (aZ _) (by rw [hll.out];omega) (by rw [eX];omega)
     rwa [iR,List.take_of_length_le (by rw [hll.out];omega)] at this
    have hpm:i≤m:=by omega
    clear hkp1 hkp2
    go_wp2_with fail
    refine (iZ hr2).mono ?_
    rintro e w' ⟨t,ht,htn,rfl,rfl⟩
    go_wp2_with fail
    go_ret2
    rw [←hval.out]
    exact DL (wB (ys:=l) hgs hb hll.out htn (by rw [eX];omega) (lV hwl ht.out).symm hr)
def P5 (w:a6)(q r:Nat)(e:dL)(w':a6):Prop:=
 ∃A n cap B m cap',e= .returned (.tuple #[a9 A n cap,a9 B m cap'])∧Hid (n=(wd q).length)∧Rd w' A n cap (wd q)∧Own w' w.heap.size 50 1 A n cap ((wd q).map bG)∧
  Hid (m=(wd r).length)∧Rd w' B m cap' (wd r)∧Own w' w.heap.size 50 1 B m cap' ((wd r).map bG)∧Ext w w'∧∀p p',A=some p→B=some p'→p.block≠p'.block
theorem KC {U M Uh Vh:Nat}(hM:0<M)(hUh:Uh=U/M)(hVh:Vh=V/M)(hbig:WB≤Vh)(hd:d<WB)(h1:d*Vh≤Uh)(h2:d=18446744073709551615∨Uh<(d+1)*Vh)(hU:U<V*WB):U/V≤d∧d≤U/V+1:=by
 have I:0<V:=by
  rcases gQ V with h | h
  ·rw [h,mL] at hU;omega
  ·exact h
 constructor
 ·rcases h2 with h | h
  ·have:U/V<WB:=qB hU
   rw [cH] at this
   omega
  ·have r:U/V*Vh≤Uh:=by
    rw [hUh,Nat.le_div_iff_mul_le hM]
    have j:Vh*M≤V:=by rw [hVh];exact Nat.div_mul_le_self _ _
    have p:=gP (U/V) j
    have q:=Nat.div_mul_le_self U V
    rw [←cI] at p
    omega
   have o:U/V*Vh<(d+1)*Vh:=by omega
   have:=Nat.lt_of_mul_lt_mul_right o
   omega
 ·refine o9 (fun f=>?_)
  have r:d*Vh*M≤U:=by
   have:=eG M h1
   have j:Uh*M≤U:=by rw [hUh];exact Nat.div_mul_le_self _ _
   omega
  have j:V<(Vh+1)*M:=by rw [hVh,cM];exact qA V hM
  have p:U<(U/V+1)*V:=by rw [cM];exact qA U I
  have q:(U/V+1)*V≤(d-1)*V:=eG V (by omega)
  have o:(d-1)*V≤(d-1)*((Vh+1)*M):=gP _ (Nat.le_of_lt j)
  have D:d*Vh*M<(d-1)*(Vh+1)*M:=by
   rw [cI (d-1)]
   exact jY r (cU p (aN q o))
  have F:=Nat.lt_of_mul_lt_mul_right D
  have H:0<d:=jY (cE _) f
  clear f r j p q o D
  obtain⟨d,rfl⟩:∃e,d=e+1:=⟨d-1,by omega⟩
  rw [oA,gN,cY,eI] at F
  omega
theorem JG {L1 c:Nat}(hD:0<D)(hd1:L/D≤d)(hd2:d≤L/D+1)(_hK:L<K)(hL1:L1<K)(h:L1+d*D=L+K*c)(hc:c≤1):(c=0→d=L/D∧L1=L%D)∧(c=1→d=L/D+1∧∀L2 c2,c2≤1→L2<K→L2+K*c2=L1+D→L2=L%D):=by
 have p:=kR L D
 have F:=fM L hD
 generalize L/D=q at*
 generalize L%D=r at*
 have e:d=q∨d=q+1:=by omega
 have j:d*D=D*q∨d*D=D*q+D∧d=q+1:=by
  rcases e with rfl | rfl
  ·left;exact cM _ _
  ·right;exact⟨by rw [gN,cM],rfl⟩
 have o:d*D=D*q+D∨d*D=D*q∧d=q:=by
  rcases e with rfl | rfl
  ·right;exact⟨cM _ _,rfl⟩
  ·left;rw [gN,cM]
 generalize d*D=a at*
 generalize D*q=b at*
 constructor
 ·rintro rfl
  rw [fR,dF] at h
  rcases o with o | ⟨o,f⟩
  ·omega
  ·exact⟨f,by omega⟩
 ·rintro rfl
  rw [eI] at h
  rcases j with j | ⟨j,f⟩
  ·omega
  ·refine⟨f,fun L2 c2 _ _ h2=>?_⟩
   rcases (show c2=0∨c2=1 by omega) with rfl | rfl <;> omega
structure Lg (V U0 k:Nat)(l ql:List Nat):Prop where
 eq:U0=WB^k*nv (ql.drop k)*V+nv l
 lt:nv l<V*WB^k
theorem Lg.step (h:Lg V U0 (j+1) l ql)(hj:j<ql.length)(hV:0<V)(hq:q=nv l/(WB^j*V))(hl2:nv l2=nv l%(WB^j*V)):Lg V U0 j l2 (ql.set j q):=by
 have o:0<WB^j*V:=gO (eT eN) hV
 have f:(ql.set j q).drop j=q::ql.drop (j+1):=by
  rw [mP (by rw [List.length_set];exact hj)]
  congr 1
  ·simp
  ·rw [List.drop_set_of_lt (by omega)]
 refine⟨?_,?_⟩
 ·have e:=kR (nv l) (WB^j*V)
  rw [←hq,←hl2] at e
  rw [h.eq,f,l7,cY,dM,dK,cI (WB^j) WB,←e]
  have p:WB^j*q*V=WB^j*V*q:=pZ _ _ _
  omega
 ·rw [hl2,cM V];exact fM _ o
theorem F4 (hn:2≤n)(hl:j+n+1≤l.length)(hw:Wf l)(hlt:nv l<WB^(j+n+1)):nv l/WB^(j+n-2)=(l.getD (j+n) 0*WB+l.getD (j+n-1) 0)*WB+l.getD (j+n-2) 0:=by
 obtain⟨m,rfl⟩:∃m,n=m+2:=⟨n-2,by omega⟩
 have f:=kC l (j+(m+2)+1) hl
 have e:nv l=nv (l.take (j+(m+2)+1)):=by
  rcases gQ (nv (l.drop (j+(m+2)+1))) with h | h
  ·rw [h,fR,dF] at f;exact f
  ·have:=Nat.le_mul_of_pos_right (WB^(j+(m+2)+1)) h
   omega
 have q:=dW l (j+(m+2)) (by omega)
 have o:=dW l (j+m+1) (by omega)
 have r:=dW l (j+m) (by omega)
 rw [show j+m+1+1=j+(m+2) from by omega] at o
 rw [show j+(m+2)-2=j+m from by omega,show j+(m+2)-1=j+m+1 from by omega,e,q,o,r]
 have F:=iH hw (j+m)
 rw [show WB^(j+(m+2))=WB^(j+m)*(WB*WB) from by rw [show j+(m+2)=j+m+1+1 from by omega,dK,dK,cI],show WB^(j+m+1)=WB^(j+m)*WB from dK _ _]
 generalize l.getD (j+(m+2)) 0=u2
 generalize l.getD (j+m+1) 0=u1
 generalize l.getD (j+m) 0=u0
 have p:nv (l.take (j+m))+WB^(j+m)*u0+WB^(j+m)*WB*u1+WB^(j+m)*(WB*WB)*u2=WB^(j+m)*((u2*WB+u1)*WB+u0)+nv (l.take (j+m)):=by
  have D:WB^(j+m)*WB*u1=WB^(j+m)*(u1*WB):=by rw [cI,cM WB u1]
  have H:WB^(j+m)*(WB*WB)*u2=WB^(j+m)*(u2*WB*WB):=by rw [cI,cM (WB*WB),←cI u2]
  rw [D,H,dM,cY,cY]
  omega
 rw [p,mM (eT eN),gB F,dF]
theorem F3 (hn:2≤n)(hl:l.length=n)(hw:Wf l):nv l/WB^(n-2)=l.getD (n-1) 0*WB+l.getD (n-2) 0:=by
 obtain⟨m,rfl⟩:∃m,n=m+2:=⟨n-2,by omega⟩
 have e:nv l=nv (l.take (m+1+1)):=by rw [List.take_of_length_le (by omega)]
 have h:=dW l (m+1) (by omega)
 have o:=dW l m (by omega)
 have j:=iH hw m
 rw [show m+2-2=m from rfl,show m+2-1=m+1 from rfl,e,h,o,dK]
 generalize l.getD (m+1) 0=u1
 generalize l.getD m 0=u0
 have f:nv (l.take m)+WB^m*u0+WB^m*WB*u1=WB^m*(u1*WB+u0)+nv (l.take m):=by
  rw [cI,cM WB u1,cY];omega
 rw [f,mM (eT eN),gB j,dF]
theorem JE {vs:List Nat}(h:Lg V U0 (j+1) l ql)(hn:2≤n)(hl:j+n+1≤l.length)(hw:Wf l)(hvl:vs.length=n)(hvw:Wf vs)(hV:nv vs=V)(hv1:0<vs.getD (n-1) 0):nv l<WB^(j+n+1)∧l.getD (j+n) 0≤vs.getD (n-1) 0∧(d≤18446744073709551615→d*(vs.getD (n-1) 0*WB+vs.getD (n-2) 0)≤(l.getD (j+n) 0*WB+l.getD (j+n-1) 0)*WB+l.getD (j+n-2) 0→
   (d=18446744073709551615∨(l.getD (j+n) 0*WB+l.getD (j+n-1) 0)*WB+l.getD (j+n-2) 0<(d+1)*(vs.getD (n-1) 0*WB+vs.getD (n-2) 0))→nv l/(WB^j*V)≤d∧d≤nv l/(WB^j*V)+1):=by
 have f:V<WB^n:=by rw [←hV,←hvl];exact gX hvw
 have e:nv l<WB^(j+n+1):=by
  have h1:=h.lt
  have h2:V*WB^(j+1)≤WB^n*WB^(j+1):=eG _ (Nat.le_of_lt f)
  rw [←dQ,show n+(j+1)=j+n+1 from by omega] at h2
  omega
 have t3:=F4 hn hl hw e
 have t2:=F3 hn hvl hvw
 rw [hV] at t2
 refine⟨e,?_,?_⟩
 ·have h1:WB^(j+n)*l.getD (j+n) 0≤nv l:=by
   have D:=kC l (j+n+1) hl
   have p:=dW l (j+n) (by omega)
   omega
  have h2:V<WB^(n-1)*(vs.getD (n-1) 0+1):=by
   have p:=dW vs (n-1) (by omega)
   rw [iP (by omega),List.take_of_length_le (by omega),hV] at p
   have H:=iH hvw (n-1)
   rw [p,cY,eI]
   omega
  have q:V*WB^(j+1)<WB^(n-1)*(vs.getD (n-1) 0+1)*WB^(j+1):=o6 h2 (eT eN)
  rw [pZ,←dQ,show n-1+(j+1)=j+n from by omega] at q
  have F:=h.lt
  have r:WB^(j+n)*l.getD (j+n) 0<WB^(j+n)*(vs.getD (n-1) 0+1):=by omega
  have:=Nat.lt_of_mul_lt_mul_left r
  omega
 ·intro _ h1 h2
  rw [←t3] at h1 h2
  rw [←t2] at h1 h2
  have o:V/WB^(n-2)=(WB^j*V)/WB^(j+n-2):=by
   rw [show j+n-2=j+(n-2) from by omega,dQ,Nat.mul_div_mul_left _ _ (eT eN)]
  refine KC (M:=WB^(j+n-2)) (eT eN) E o ?_ (by rw [cH];omega) h1 h2 ?_
  ·rw [t2]
   have:=Nat.le_mul_of_pos_left WB hv1
   omega
  ·have:=h.lt
   rw [dK,←cI,cM V] at this
   exact this
theorem JF {X Q:Nat}(hY:0<Y)(h:X*2^s=Q*(Y*2^s)+L)(hL:L<Y*2^s):Q=X/Y∧L/2^s=X%Y:=by
 have e:=jX s
 have h1:X*2^s/(Y*2^s)=Q:=by rw [h,cM Q,mM (gO hY e),gB hL,dF]
 have h2:X*2^s%(Y*2^s)=L:=by rw [h,cM Q,wL,eZ hL]
 rw [wK _ _ e] at h1
 rw [sH] at h2
 exact⟨h1.symm,by rw [←h2,Nat.mul_div_cancel _ e]⟩
theorem JD (hx:Wf xs)(hy:Wf ys)(hxl:xs.length=N)(hyl:ys.length=n)(hn:1≤n)(hnN:n≤N)(hyk:ys.getD (n-1) 0=y)(hy0:y≠0)(hyb:y≤18446744073709551615)(hs:s+cX y=64):s<64∧nv ys*2^s<WB^n∧nv xs*2^s<WB^(N+1)∧0<nv ys*2^s∧WB^(n-1)≤nv ys*2^s∧nv xs*2^s<nv ys*2^s*WB^(N+1-n):=by
 have hb:cX y≠0:=fun h=>hy0 (nR.1 h)
 have e:=jX s
 have q:=dW ys (n-1) (by omega)
 rw [iP hn,List.take_of_length_le (by omega),hyk] at q
 have h1:=iH hy (n-1)
 have h2:WB^(n-1)≤nv ys:=by
  have:=Nat.le_mul_of_pos_right (WB^(n-1)) (show 0<y by omega)
  omega
 have F:nv ys≤nv ys*2^s:=Nat.le_mul_of_pos_right _ e
 have r:=rE y
 have o:=gX hx
 rw [hxl] at o
 have D:=eT (n:=n-1) eN
 refine⟨by omega,?_,?_,by omega,by omega,?_⟩
 ·have j:nv ys<WB^(n-1)*(y+1):=by rw [cY,eI];omega
  have p:WB^(n-1)*(y+1)≤WB^(n-1)*2^cX y:=gP _ r
  have f:nv ys*2^s<WB^(n-1)*2^cX y*2^s:=o6 (by omega) e
  rw [cI,←dQ,Nat.add_comm (cX y),hs,←kM,←dK,Nat.succ_eq_add_one,iP hn] at f
  exact f
 ·rw [dK]
  have j:2^s≤WB:=by rw [kM];exact fJ (by omega) (by omega)
  have p:=o6 o e
  have f:=gP (WB^N) j
  omega
 ·have j:WB^N≤nv ys*WB^(N+1-n):=by
   have:=eG (WB^(N+1-n)) h2
   rw [←dQ,show n-1+(N+1-n)=N from by omega] at this
   exact this
  rw [pZ]
  exact o6 (by omega) e
end
end Go.Proofs.YtnpbbknemflpnaaGreatDoor
