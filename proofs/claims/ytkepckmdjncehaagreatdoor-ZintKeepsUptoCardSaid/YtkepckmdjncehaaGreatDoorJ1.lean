/- Parts Base, Mem, Sx, Sxd, Sxe, Bits, Div64, Div64b, Radix, Nat, NatB, Mulnat, MulnatB, MulnatC, MulnatD, Divnat, DivnatB, Shr, joined. -/
import Derived.Deep.Slices
import Derived.WalkKit
import Derived.WalkSpells
import Derived.Deep.Draws
import Derived.Lib.Hide
import Derived.Laws.CopyOwn
import Derived.Deep.QuietTactic
import Derived.BigQuiet
import Derived.Deep.RegionHeld3
import Derived.Deep.RegionWith
import Derived.Deep.DeepCutAuto
import Derived.Deep.DeepMust
import Derived.Deep.DeepFit
import Derived.Handy
import Derived.OwnWalk
import Derived.Maps.AppendAt
import Derived.Test.YtkepckmdjncehaaGreatDoorShelf
import Derived.Shelf.Spec.BitsCarry
import Derived.Lib.ItoaNum
import Derived.Deep.CutBlock
import Derived.Test.YtkepckmdjncehaaGreatDoorProg
import Derived.WalkMore

open Go.Act renaming put → mJ
open Go renaming Addr → a8, BinOp → j8, Calls → aQ, Ending → dR, Exit → dH, IntKind → iL, Next → fU, Oper → bB, Operand → cG, Program → bV, ResultVar → rW, TypeId → aV, Value → aD, World → a0, bodyPost_ret → iV, info_parts → oC, run_underlying → kK, wpList_plain → xR
open Go.Addr renaming add → lR
open Array renaming getD_eq_getD_getElem? → nG, getElem?_eq_some_iff → mI, getElem?_replicate → yB, getElem?_setIfInBounds_ne → CO, replicate → oL
open Go.RowKit.Below renaming heap_setCell → KL
open BitVec renaming ofInt → lQ
open Bool renaming and_eq_true → dW, or_eq_true → kM
open Go.Builtin renaming append_ → lP, firstCells → KK
open Classical renaming choose → CL, choose_spec → KJ
open Go.Code renaming wp_mono → CK
open Go.Deferred renaming ofValue → KI
open Go.Exit renaming inBlock → q7
open Go.Instr renaming loadAt → yA, makeSlice → oK, storeAt → y9
open Int renaming natCast_mul → l5, tdiv_eq_ediv_of_nonneg → y8, toNat_natCast → gX
open Go.IntKind renaming bits → q6, signed → pZ, wrap → uB
open List renaming all_eq_true → eK, any_eq_true → uA, cons_append → u6, contains_iff_mem → jO, countP_cons → y7, countP_le_length → xZ, drop_eq_getElem_cons → mH, drop_zero → gQ, eq_nil_iff_forall_not_mem → u4, eq_nil_of_length_eq_zero → u3, filter_append → KH, getD_eq_getElem?_getD → bE, getElem?_drop → oJ, getElem?_eq_getElem → bR, getElem?_eq_none → gW, getElem?_eq_some_iff → fS, getElem?_map → iK, getElem?_take → iW, getElem_mem → lO, getElem_of_mem → s4, getLast_eq_getElem → KG, length_cons → gD, length_drop → gS, length_eq_zero_iff → pV, length_take → dE, map_cons → iJ, map_drop → s3, map_nil → j7, map_take → jN, map_toArray → mG, mem_append → mF, mem_cons → mE, mem_of_mem_drop → nF, mem_of_mem_take → oI, mem_or_eq_of_mem_set → KF, mem_range → gF, mem_replicate → CJ, mem_singleton → mD, range → fI, replicate → cJ, replicate_succ → xY, take_append_drop → s0, take_succ_cons → xW
open Nat renaming add_assoc → j5, add_lt_add_iff_right → KE, add_mul → dO, add_mul_div_left → xV, add_mul_mod_self_left → xU, add_right_cancel_iff → KD, add_sub_cancel → pU, add_zero → eS, beq → nE, div_add_mod → lM, div_eq_of_lt → gV, div_le_self → eR, div_lt_iff_lt_mul → tZ, div_lt_of_lt_mul → tY, div_lt_self → jM, eq_of_beq_eq_true → pT, eq_zero_or_pos → kC, le_of_not_lt → oH, le_refl → aX, le_trans → aE, lt_mul_div_succ → tX, lt_of_le_of_lt → jL, lt_of_lt_of_le → cS, lt_of_not_le → nD, lt_or_ge → gP, min_eq_left → g7, mod_add_div → jF, mod_eq_of_lt → fO, mod_lt → fV, mul_add → cZ, mul_add_div → nC, mul_add_mod → tW, mul_assoc → bY, mul_comm → cY, mul_div_mul_right → CI, mul_le_mul → j3, mul_le_mul_left → fN, mul_le_mul_right → eC, mul_lt_mul'' → tV, mul_lt_mul_of_pos_right → pS, mul_mod_mul_right → xT, mul_one → dK, mul_pos → iI, mul_right_comm → pR, mul_succ → rZ, mul_zero → gJ, or_lt_two_pow → oG, pow_add → dX, pow_le_pow_right → eW, pow_lt_pow_iff_right → xS, pow_pos → gC, pow_succ → dJ, strongRecOn → pQ, sub_add_cancel → iH, succ_le_of_lt → nB, succ_mul → nA, two_pow_pos → mC, zero_add → eQ, zero_le → bJ
open Ne renaming symm → mB
open Go.Next renaming value → gE
open Go.Op renaming intArith → CH, intDiv → tT
open Go.Oper renaming upon → kL, wp → kZ
open Option renaming getD_some → lJ, map_some → pP
open Option.some renaming inj → iG, injEq → eH
open Or renaming inl → cD, inr → bT
open Go.Region renaming binds → gU, ready → oF, wanted → oE
open Go.Result renaming andThen_ok → eG
open Go.Sem renaming run_bind → cA, run_pure → g0
open Go.Proofs.Tryz renaming prog → aH
open Go.Value renaming int → d8, pointer → CG
open Go.World.grownBy renaming refl → CF
open Go.World renaming setCell → rU
namespace Go.Proofs.YtkepckmdjncehaaGreatDoor
set_option maxHeartbeats 4000000
abbrev a4(g:Nat)(o:Nat):Value:=.pointer (some ⟨g,o,none⟩)
abbrev a9(k:Int):Value:=.int .i64 k
abbrev i5(k:Int):Value:=.int .u64 k
abbrev i9(A:Option Addr)(n c:Nat):Value:=.slice A n c
abbrev no:Value:=.bool true
abbrev t9:Value:=.bool false
theorem up:True:=trivial
theorem G.{z}{α:Sort z}{a:α}:a=a:=rfl
abbrev J(s:Bool)(A:Option Addr)(n c:Nat):Value:=.agg #[.bool s,.slice A n c]
abbrev a3(s:Bool)(A:Option Addr)(n c:Nat)(t:Bool)(B:Option Addr)(m d:Nat):Value:=.agg #[.bool s,.slice A n c,.bool t,.slice B m d]
abbrev O(s:Bool)(A:Option Addr)(n c:Nat):List Value:=[.bool s,.slice A n c]
variable {A B S dp sp:Option a8}{K N V b base bytes cap cap' cc d g hi i id j k lo2 m n n' q r r0 s u u0 u1 u2 un un0 un1 un10 v0 v1 x y yn0 yn1 yy:Nat}{P:bV}{T:Type}{a:Act}{after:Array Edge}{args cs us vs:List aD}{c:Code}{ds fl js l st xs ys zs:List Nat}{dss:List (List Nat)}{dst:Option Tmp}{e t' ty:aV}{er:Int}{f:FuncId}{fn:Func}{gd guard:Option (Nat×Bool)}{listed:Array Bool}{o:bB}{ol rest:List bB}{op:j8}{ops:Array bB}{p:a8}{ps:List (Nat×Nat)}{rl:List rW}{ts:Array aV}{v vx vy z:aD}{w w' w0 w1 wt:a0}
section
def WB:Nat:=18446744073709551616
theorem gA:0<WB:=by decide
theorem cC:WB=18446744073709551616:=rfl
theorem K0:2≤WB:=by decide
def nv:List Nat→Nat
 | []=>0
 | x::r=>x+WB*nv r
def Wf (xs:List Nat):Prop:=∀x∈xs,x<WB
theorem mS (x:Nat)(r:List Nat):nv (x::r)=x+WB*nv r:=rfl
theorem zZ (xs ys:List Nat):nv (xs++ys)=nv xs+WB^xs.length*nv ys:=by
 induction xs with
 | nil=>simp [nv]
 | cons x r ih=>
  simp only [u6,nv,ih,gD,dJ]
  rw [cZ,←bY,cY WB (WB^r.length),j5]
theorem iY (h:Wf xs):nv xs<WB^xs.length:=by
 induction xs with
 | nil=>simp [nv]
 | cons x r ih=>
  have hx:x<WB:=h x (by simp)
  have hr:=ih (fun y e=>h y (by simp [e]))
  simp only [nv,gD,dJ]
  have:WB*nv r+WB≤WB*WB^r.length:=by
   have:=fN WB (nB hr)
   rw [rZ] at this;exact this
  rw [cY (WB^r.length)]
  omega
theorem zX (n:Nat):nv (cJ n 0)=0:=by
 induction n with
 | zero=>rfl
 | succ n ih=>simp [xY,nv,ih]
theorem FU (xs:List Nat)(x:Nat):nv (xs++ [x])=nv xs+WB^xs.length*x:=by
 rw [zZ];simp [nv]
def nJ:Nat→Nat→List Nat
 | 0,_=> []
 | f+1,n=>if n=0 then [] else n%WB::nJ f (n/WB)
def wd (n:Nat):List Nat:=nJ n n
theorem D8 (f:Nat):∀(g n:Nat),n≤f→n≤g→nJ f n=nJ g n:=by
 induction f with
 | zero=>
  intro g n h _
  have:n=0:=by omega
  subst this
  cases g <;> simp [nJ]
 | succ f ih=>
  intro g n h _
  by_cases h0:n=0
  ·subst h0;cases g <;> simp [nJ]
  ·cases g with
   | zero=>omega
   | succ g=>
    have e:n/WB<n:=jM (by omega) (by decide)
    simp only [nJ,h0,if_false]
    rw [ih g (n/WB) (by omega) (by omega)]
theorem mL:wd 0= []:=rfl
theorem oN (h:n≠0):wd n=n%WB::wd (n/WB):=by
 have e:n/WB<n:=jM (by omega) (by decide)
 unfold wd
 conv=>lhs;rw [D8 n (n+1) n (aX _) (by omega)]
 simp only [nJ,h,if_false]
 rw [D8 n (n/WB) (n/WB) (by omega) (aX _)]
theorem D7 {p:Nat→Prop}(h0:p 0)(hs:∀n,n≠0→p (n/WB)→p n)(n:Nat):p n:=by
 induction n using pQ with
 | ind n ih=>
  by_cases h:n=0
  ·subst h;exact h0
  ·exact hs n h (ih _ (jM (by omega) (by decide)))
theorem fK (n:Nat):nv (wd n)=n:=by
 induction n using D7 with
 | h0=>rfl
 | hs n h ih=>rw [oN h,mS,ih];exact jF n WB
theorem mX (n:Nat):Wf (wd n):=by
 induction n using D7 with
 | h0=>intro x hx;cases hx
 | hs n h ih=>
  rw [oN h]
  intro x hx
  cases mE.1 hx with
  | inl e=>subst e;exact fV _ gA
  | inr e=>exact ih x e
theorem LU:wd n= []↔n=0:=by
 constructor
 ·intro h;rw [←fK n,h];rfl
 ·rintro rfl;rfl
theorem lB:(wd n).length=0↔n=0:=by
 rw [pV];exact LU
theorem D5:∀{xs:List Nat},Wf xs→(∀h:xs≠ [],xs.getLast h≠0)→wd (nv xs)=xs
 | [],_,_=>rfl
 | [x],hw,ht=>by
  have hx:x<WB:=hw x (by simp)
  have h0:x≠0:=ht (by simp)
  simp only [nv,gJ,eS]
  rw [oN h0,fO hx,gV hx,mL]
 | x::y::r,hw,ht=>by
  have hx:x<WB:=hw x (by simp)
  have ih:=D5 (xs:=y::r) (fun z o=>hw z (by simp [o])) (fun h=>by have:=ht (by simp);simpa [List.getLast_cons] using this)
  have f:nv (y::r)≠0:=by
   intro e
   rw [e,mL] at ih
   cases ih
  have hn:nv (x::y::r)≠0:=by
   rw [mS]
   have:0<WB*nv (y::r):=iI gA (by omega)
   omega
  rw [oN hn,mS,xU,fO hx,xV _ _ gA,gV hx,eQ,ih]
theorem LS (hw:Wf xs)(ht:xs.length=0∨xs.getD (xs.length-1) 0≠0):wd (nv xs)=xs:=by
 refine D5 hw (fun h=>?_)
 have hl:xs.length≠0:=by simpa using h
 rcases ht with h' | h'
 ·exact absurd h' hl
 ·rw [KG]
  have:xs.length-1<xs.length:=by omega
  rwa [bE,bR this,lJ] at h'
theorem pL (h:Wf xs)(k:Nat):Wf (xs.take k):=fun x hx=>h x (oI hx)
theorem C7 (h:Wf xs)(k:Nat):Wf (xs.drop k):=fun x hx=>h x (nF hx)
theorem tN (h:Wf xs)(k:Wf ys):Wf (xs++ys):=fun x hx=>by
 rcases mF.1 hx with e | e
 ·exact h x e
 ·exact k x e
theorem rN (h:Wf xs)(i:Nat):xs.getD i 0<WB:=by
 by_cases hi:i<xs.length
 ·rw [bE,bR hi];exact h _ (lO hi)
 ·rw [bE,gW (by omega)];exact gA
theorem JZ:Wf []:=fun x hx=>by cases hx
theorem mW (n:Nat):Wf (cJ n 0):=fun x hx=>by rw [(CJ.1 hx).2];exact gA
theorem C6 (h:x<WB):Wf [x]:=fun y e=>by rw [mD.1 e];exact h
theorem gO (h:Wf xs)(i:Nat)(hx:x<WB):Wf (xs.set i x):=fun y f=>by
 rcases KF f with e | e
 ·exact h y e
 ·rw [e];exact hx
theorem sF {α:Type}(xs:List α)(k:Nat)(h:k<xs.length)(d:α):xs.take (k+1)=xs.take k++ [xs.getD k d]:=by
 rw [List.take_succ_eq_append_getElem h,bE,bR h];rfl
theorem eL (xs:List Nat)(k:Nat)(h:k<xs.length):nv (xs.take (k+1))=nv (xs.take k)+WB^k*xs.getD k 0:=by
 rw [sF xs k h 0,FU,dE,g7 (by omega)]
theorem mR (xs:List Nat)(k:Nat)(h:k≤xs.length):nv xs=nv (xs.take k)+WB^k*nv (xs.drop k):=by
 have:=zZ (xs.take k) (xs.drop k)
 rw [s0,dE,g7 h] at this
 exact this
theorem oY (xs:List Nat)(k:Nat)(h:k<xs.length)(h0:xs.getD k 0=0):nv (xs.take (k+1))=nv (xs.take k):=by
 rw [eL xs k h,h0];simp
theorem kR (h:Wf xs)(k:Nat):nv (xs.take k)<WB^k:=by
 have h1:=iY (pL h k)
 have h2:WB^(xs.take k).length≤WB^k:=eW gA (by rw [dE];omega)
 omega
theorem sB (hw:Wf xs)(hk:k≤xs.length)(hv:nv (xs.take k)=nv xs)(ht:k=0∨xs.getD (k-1) 0≠0):wd (nv xs)=xs.take k:=by
 have hl:(xs.take k).length=k:=by rw [dE];omega
 rw [←hv]
 refine LS (pL hw k) ?_
 rw [hl]
 rcases ht with h | h
 ·exact cD h
 ·by_cases h0:k=0
  ·exact cD h0
  ·refine bT ?_
   rw [bE,iW,if_pos (by omega),←bE]
   exact h
theorem iQ (h : n < WB ^ k): (wd n).length ≤ k := by
  induction k generalizing n with
  | zero => have : n = 0 := by simp at h; omega
            subst this; simp [mL]
  | succ k ih =>
    by_cases h0 : n = 0
    · subst h0; simp [mL]
    · rw [oN h0, gD]
      have : n / WB < WB ^ k := by rw [tZ gA]; rwa [← dJ]
      have := ih this
      omega
theorem kH (n:Nat):n<WB^(wd n).length:=by
 have:=iY (mX n)
 rwa [fK] at this
theorem FF (h:n≠0):WB^((wd n).length-1)≤n:=by
 refine oH (fun f=>?_)
 have h1:=iQ f
 have h2:(wd n).length≠0:=fun e=>h (lB.1 e)
 omega
theorem gT (h:Wf xs):(wd (nv xs)).length≤xs.length:=iQ (iY h)
theorem iP {a:Nat}(h:a≤b):(wd a).length≤(wd b).length:=iQ (jL h (kH b))
theorem AV (a b:Nat):(wd (a+b)).length≤max (wd a).length (wd b).length+1:=by
 refine iQ ?_
 have f:=kH a
 have hb:=kH b
 have h1:WB^(wd a).length≤WB^max (wd a).length (wd b).length:=eW gA (Nat.le_max_left _ _)
 have h2:WB^(wd b).length≤WB^max (wd a).length (wd b).length:=eW gA (Nat.le_max_right _ _)
 rw [dJ]
 have e:WB^max (wd a).length (wd b).length*2≤WB^max (wd a).length (wd b).length*WB:=fN _ K0
 omega
theorem vY (a b:Nat):(wd (a*b)).length≤(wd a).length+(wd b).length:=by
 refine iQ ?_
 rw [dX]
 by_cases e:a=0
 ·subst e;simp only [Nat.zero_mul];exact iI (gC gA) (gC gA)
 ·exact tV (kH a) (kH b)
theorem D4 (h:x<WB)(h0:x≠0):wd x= [x]:=by
 rw [oN h0,fO h,gV h,mL]
theorem mM:∀{xs:List Nat}{m:Nat},Wf xs→m=(wd (nv xs)).length→wd (nv xs)=xs.take m
 | [],m,_,h=>by simp [nv,mL]
 | x::r,m,hw,h=>by
  have hx:x<WB:=hw x (by simp)
  by_cases h0:nv (x::r)=0
  ·rw [h0,mL] at h⊢
   subst h;rfl
  ·have f:nv (x::r)/WB=nv r:=by rw [mS,xV _ _ gA,gV hx,eQ]
   have e:nv (x::r)%WB=x:=by rw [mS,xU,fO hx]
   rw [oN h0,f,e] at h⊢
   obtain⟨k,rfl⟩:∃k,m=k+1:=⟨m-1,by rw [h,gD];rfl⟩
   rw [gD] at h
   rw [xW,←mM (fun y o=>hw y (by simp [o])) (by omega)]
def cX (a b:Nat):Int:=if a<b then-1 else if a=b then 0 else 1
theorem wZ {a:Nat}(h:a<b):cX a b= -1:=by simp [cX,h]
theorem JF (a:Nat):cX a a=0:=by simp [cX]
theorem x7 {a:Nat}(h:b<a):cX a b=1:=by
 unfold cX;rw [if_neg (by omega),if_neg (by omega)]
theorem JG (a b:Nat): -1≤cX a b∧cX a b≤1:=by
 unfold cX;split
 ·omega
 ·split <;> omega
theorem lF {a:Nat}:cX a b<0↔a<b:=by
 unfold cX;split
 ·simp_all
 ·split <;> simp_all
theorem tG {a:Nat}:0<cX a b↔b<a:=by
 unfold cX;split
 ·simp_all;omega
 ·split <;> simp_all;omega
theorem G9 {a:Nat}(h:(wd a).length<(wd b).length):a<b:=by
 refine nD (fun e=>?_)
 have:=iP e
 omega
theorem FS (hx:Wf xs)(hkx:k<xs.length)(hky:k<ys.length)(h:xs.getD k 0<ys.getD k 0):nv (xs.take (k+1))<nv (ys.take (k+1)):=by
 rw [eL xs k hkx,eL ys k hky]
 have h1:=kR hx k
 have h2:WB^k*xs.getD k 0+WB^k≤WB^k*ys.getD k 0:=by
  have:=fN (WB^k) (nB h)
  rwa [rZ] at this
 omega
theorem VY (hkx:k<xs.length)(hky:k<ys.length)(h:xs.getD k 0=ys.getD k 0):cX (nv (xs.take (k+1))) (nv (ys.take (k+1)))=cX (nv (xs.take k)) (nv (ys.take k)):=by
 rw [eL xs k hkx,eL ys k hky,h]
 unfold cX
 simp only [KE,KD]
theorem nO (hw:Wf xs)(h:m=(wd (nv xs)).length):nv (xs.take m)=nv xs:=by
 rw [←mM hw h,fK]
theorem sP (x:Nat):nv [x]=x:=by simp [nv]
end
section
open Go.RowKit
abbrev bC (x:Nat):aD:= i5 (x:Int)
theorem P4 {k:iL}{a b:Int}(h:a=b):Ending.returned (.int k a)= .returned (.int k b):=by rw [h]
theorem fP {k:iL}{a b:Int}(h:a=b:=by omega):d8 k a=d8 k b:=by rw [h]
theorem rK (a:a8)(n:Nat):(a.add n).block=a.block:=by unfold lR;split <;> rfl
theorem rM (a:a8)(i j:Nat):(a.add i).add j=a.add (i+j):=by
 unfold lR
 by_cases hi:i=0 <;> by_cases hj:j=0 <;> simp [hi,hj,j5]
theorem iE (g o i:Nat):(⟨g,o,none⟩:a8).add i=⟨g,o+i,none⟩:=by
 unfold lR;split <;> simp_all
structure Ext (w w':a0):Prop where
 below:Below w.heap.size w w'
theorem Ext.refl (w:a0):Ext w w:=⟨Below.refl _ _⟩
theorem Ext.trans {a b c:a0}(h:Ext a b)(k:Ext b c):Ext a c:=⟨h.below.trans (k.below.mono h.below.size)⟩
theorem Ext.t {a b c:a0}(h : Ext a b)(k : Ext b c): Ext a c := h.trans k
theorem aK {a:a0}: Ext a a := Ext.refl a
theorem Ext.size {a b:a0}(h:Ext a b):a.heap.size≤b.heap.size:=h.below.size
theorem Ext.alloc {a:a0}(h:Ext a w)(o:Obj):Ext a (w.alloc o):=⟨h.below.alloc h.below.size o⟩
theorem Ext.drew {a:a0}(h:Ext a w):Ext a w.drew:=⟨h.below.drew⟩
theorem Ext.drewN {a:a0}(h:Ext a w)(n:Nat):Ext a (w.drewN n):=⟨⟨h.below.os,h.below.tape,h.below.output,h.below.size,h.below.block⟩⟩
theorem Ext.setCell {a:a0}(h:Ext a w)(hp:a.heap.size≤p.block)(u:aD):Ext a (w.setCell p u):=⟨h.below.setCell hp u⟩
theorem Ext.grown {a:a0}{row:Option Nat}(h:Ext a w)(hg:w.grownBy w' row)(hr:∀k,row=some k→a.heap.size≤k):Ext a w':=⟨h.below.grown hg h.below.size hr⟩
theorem Ext.of_grown (hg:w.grownBy w' none):Ext w w':=(Ext.refl w).grown hg (fun _ h=>by cases h)
theorem Ext.cell (h:Ext w w')(hc:w.cell? p=some v):w'.cell? p=some v:=
 (h.below.cell (World.block_lt_of_cell? w p hc)).trans hc
theorem Ext.heap (h:Ext w w'){o:Obj}(hc:w.heap[g]?=some o):w'.heap[g]?=some o:=
 (h.below.block g (mI.1 hc).1).trans hc
structure Upd (g:Nat)(w w':a0):Prop where
 by_:w.grownBy w' (some g)
theorem Upd.ext {a:a0}(h:Upd g w w')(e:Ext a w)(hg:a.heap.size≤g):Ext a w':=e.grown h.by_ (fun k f=>by cases f;exact hg)
theorem Upd.refl (g:Nat)(w:a0):Upd g w w:=⟨CF _ _⟩
theorem Upd.trans {a b c:a0}(h:Upd g a b)(k:Upd g b c):Upd g a c:=
 ⟨⟨k.by_.os.trans h.by_.os,k.by_.tape.trans h.by_.tape,k.by_.output.trans h.by_.output,aE h.by_.size k.by_.size,
  fun i hi e=>(k.by_.block i (cS hi h.by_.size) e).trans (h.by_.block i hi e)⟩⟩
theorem Upd.setCell {a:a0}(h:Upd g a w)(i:Nat)(u:aD):Upd g a (w.setCell ⟨g,i,none⟩ u):=
 h.trans ⟨⟨rfl,rfl,rfl,by simp [rU],fun k _ f=>KL _ _ _ _ (fun e=>f (by rw [e]))⟩⟩
theorem Upd.drew {a:a0}(h:Upd g a w):Upd g a w.drew:=⟨⟨h.by_.os,h.by_.tape,h.by_.output,h.by_.size,h.by_.block⟩⟩
theorem Upd.then_ext {a:a0}(h:Upd g a w)(e:Ext w w'):Upd g a w':=
 h.trans ⟨⟨e.below.os,e.below.tape,e.below.output,e.below.size,fun k f _=>e.below.block k f⟩⟩
theorem Upd.of_ext (e:Ext w w'):Upd g w w':=(Upd.refl g w).then_ext e
theorem Upd.heap (h:Upd g w w'){o:Obj}(hc:w.heap[k]?=some o)(hne:k≠g):w'.heap[k]?=some o:=
 (h.by_.block k (mI.1 hc).1 (fun e=>hne (iG e))).trans hc
theorem Upd.size (h:Upd g w w'):w.heap.size≤w'.heap.size:=h.by_.size
theorem Upd.cell (h:Upd g w w')(hc:w.cell? p=some v)(hne:p.block≠g):w'.cell? p=some v:=
 h.by_.cell hc (fun e=>hne (iG e))
structure Rv (w:a0)(s:Nat)(A:Option a8)(n cap:Nat)(vs:List aD):Prop where
 len:vs.length=n*s
 le:n≤cap
 max:cap≤maxLen
 get:∀i,i<n*s→∃a,A=some a∧w.cell? (a.add i)=some (vs.getD i undef)
 blk:∀a,A=some a→0<cap→a.block<w.heap.size
theorem Rv.ext (h:Rv w s A n cap vs)(e:Ext w w'):Rv w' s A n cap vs:=
 ⟨h.len,h.le,h.max,fun i hi=>by obtain⟨a,o,f⟩:=h.get i hi;exact⟨a,o,e.cell f⟩,fun a o f=>cS (h.blk a o f) e.size⟩
theorem Rv.upd (h:Rv w s A n cap vs)(e:Upd g w w')(hne:∀a,A=some a→a.block≠g):Rv w' s A n cap vs:=
 ⟨h.len,h.le,h.max,fun i hi=>by obtain⟨a,f,o⟩:=h.get i hi;exact⟨a,f,e.cell o (by rw [rK];exact hne a f)⟩,fun a f o=>cS (h.blk a f o) e.size⟩
theorem Rv.nil (w:a0)(s:Nat):Rv w s none 0 0 []:=⟨by simp,aX _,by decide,fun i hi=>by omega,fun a e=>by cases e⟩
theorem Rv.cut (h:Rv w s A n cap vs){l:Nat}(hl:l≤k)(hk:k≤n)(hm:k≤m)(hc:m≤cap):Rv w s (if m=l then A else A.map (·.add (l*s))) (k-l) (m-l) ((vs.take (k*s)).drop (l*s)):=by
 have q:k*s≤n*s:=eC s hk
 have r:l*s≤k*s:=eC s hl
 refine⟨?_,by omega,aE (by omega) h.max,fun i hi=>?_,fun a o _=>?_⟩
 ·rw [gS,dE,h.len,Nat.sub_mul,g7 q]
 ·rw [Nat.sub_mul] at hi
  obtain⟨a,o,f⟩:=h.get (l*s+i) (by omega)
  have p:¬m=l:=fun e=>by
   have:k=l:=by omega
   subst this;omega
  rw [if_neg p,o]
  refine⟨a.add (l*s),rfl,?_⟩
  rw [rM,f]
  congr 1
  simp only [bE,oJ]
  rw [iW,if_pos (by omega)]
 ·split at o
  ·exact h.blk a o (by omega)
  ·cases A with
   | none=>cases o
   | some b=>simp only [pP,eH] at o;subst o;rw [rK];exact h.blk b rfl (by omega)
structure Rd (w:a0)(A:Option a8)(n cap:Nat)(xs:List Nat):Prop where
 rv:Rv w 1 A n cap (xs.map bC)
 wf:Wf xs
theorem Rd.ext (h:Rd w A n cap xs)(e:Ext w w'):Rd w' A n cap xs:=⟨h.rv.ext e,h.wf⟩
theorem Rd.upd (h:Rd w A n cap xs)(e:Upd g w w')(hne:∀a,A=some a→a.block≠g):Rd w' A n cap xs:=⟨h.rv.upd e hne,h.wf⟩
theorem Rd.len (h:Rd w A n cap xs):xs.length=n:=by simpa using h.rv.len
theorem Rd.nil (w:a0):Rd w none 0 0 []:=⟨Rv.nil w 1,JZ⟩
theorem Rd.get (h:Rd w A n cap xs)(hi:i<n):∃a x,A=some a∧Hid (xs.getD i 0=x)∧x≤18446744073709551615∧w.cell? (a.add i)=some (i5 (x:Int)):=by
 obtain⟨a,o,f⟩:=h.rv.get i (by omega)
 have hl:i<xs.length:=by rw [h.len];exact hi
 have e:=rN h.wf i
 refine⟨a,_,o,rfl,by rw [cC] at e;omega,?_⟩
 rw [f]
 simp [bE,iK,bR hl]
theorem Rd.cut (h:Rd w A n cap xs){l:Nat}(hl:l≤k)(hk:k≤n)(hm:k≤m)(hc:m≤cap):Rd w (if m=l then A else A.map (·.add l)) (k-l) (m-l) ((xs.take k).drop l):=by
 have:=h.rv.cut hl hk hm hc
 simp only [dK] at this
 refine⟨?_,C7 (pL h.wf _) _⟩
 rw [s3,jN]
 exact this
theorem Rd.take (h:Rd w A n cap xs)(hk:k≤n)(hm:k≤m)(hc:m≤cap):Rd w A k m (xs.take k):=by
 have:=h.cut (l:=0) (bJ _) hk hm hc
 simp only [Nat.sub_zero,gQ] at this
 have e:(if m=0 then A else A.map (·.add 0))=A:=by
  have h0:∀a:a8,a.add 0=a:=fun a=>by simp [lR]
  split
  ·rfl
  ·cases A <;> simp [h0]
 rwa [e] at this
def Bk (w:a0)(g:Nat)(t:aV)(vs:List aD):Prop:=w.heap[g]?=some (.cells vs.toArray t (0,0))
section
variable {w w':a0}{g:Nat}{t:aV}{vs:List aD}
theorem Bk.lt (h:Bk w g t vs):g<w.heap.size:=(mI.1 h).1
theorem Bk.ext (h:Bk w g t vs)(e:Ext w w'):Bk w' g t vs:=e.heap h
theorem Bk.upd (h:Bk w g t vs)(e:Upd k w w')(hne:g≠k):Bk w' g t vs:=e.heap h hne
theorem Bk.cell (h:Bk w g t vs)(hi:i<vs.length):w.cell? ⟨g,i,none⟩=some (vs.getD i undef):=by
 rw [cell_of_row w g i _ t (0,0) h]
 simp [bE,bR hi]
theorem Bk.frozen (h:Bk w g t vs)(i:Nat):w.frozen? ⟨g,i,none⟩=false:=by
 unfold Bk at h
 simp [World.frozen?,h]
theorem Bk.new (w:a0)(t:aV)(vs:List aD):Bk (w.alloc (.cells vs.toArray t)) w.heap.size t vs:=heap_alloc_new w _
theorem Bk.new' (w:a0)(t:aV)(cs:Array aD):Bk (w.alloc (.cells cs t)) w.heap.size t cs.toList:=heap_alloc_new w _
theorem Bk.set (h:Bk w g t vs)(i:Nat)(u:aD):Bk (w.setCell ⟨g,i,none⟩ u) g t (vs.set i u):=by
 unfold Bk at h⊢
 simp [rU,Array.getElem?_modify,h]
theorem Bk.far (h:Bk w g t vs)(hp:g≠p.block)(u:aD):Bk (w.setCell p u) g t vs:=(KL w p u g hp).trans h
theorem Bk.alloc (h:Bk w g t vs)(o:Obj):Bk (w.alloc o) g t vs:=h.ext ((Ext.refl w).alloc o)
theorem Bk.drew (h:Bk w g t vs):Bk w.drew g t vs:=h
theorem Bk.drewN (h:Bk w g t vs)(n:Nat):Bk (w.drewN n) g t vs:=h
theorem Bk.rv (h:Bk w g t vs){o:Nat}(hn:n≤cap)(hc:o+cap≤vs.length)(hm:cap≤maxLen):Rv w 1 (some ⟨g,o,none⟩) n cap ((vs.drop o).take n):=by
 refine⟨by rw [dE,gS];omega,hn,hm,fun i hi=>⟨_,rfl,?_⟩,fun a e _=>by cases e;exact h.lt⟩
 rw [iE,h.cell (by omega)]
 congr 1
 simp only [bE,iW,oJ]
 rw [if_pos (by omega)]
theorem Bk.rd (h:Bk w g t (xs.map bC))(hw:Wf xs){o:Nat}(hn:n≤cap)(hc:o+cap≤xs.length)(hm:cap≤maxLen):Rd w (some ⟨g,o,none⟩) n cap ((xs.drop o).take n):=by
 refine⟨?_,pL (C7 hw _) _⟩
 rw [jN,s3]
 exact h.rv hn (by simpa using hc) hm
end
theorem Bk.word {t:aV}(h:Bk w g t (xs.map bC))(hw:Wf xs)(hi:i<xs.length):∃x,Hid (xs.getD i 0=x)∧x≤18446744073709551615∧w.cell? ⟨g,i,none⟩=some (i5 (x:Int)):=by
 have e:=rN hw i
 refine⟨_,rfl,by rw [cC] at e;omega,?_⟩
 rw [h.cell (by simpa using hi)]
 simp [bE,iK,bR hi]
def Own (w:a0)(base:Nat)(t:aV)(s:Nat)(A:Option a8)(n cap:Nat)(vs:List aD):Prop:=
 (A=none∧n=0∧cap=0∧vs= [])∨∃g cs,A=some ⟨g,0,none⟩∧base≤g∧Bk w g t cs∧n≤cap∧cap≤maxLen∧cs.length=cap*s∧cs.take (n*s)=vs
section
variable {w w':a0}{base:Nat}{t:aV}{s:Nat}{A:Option a8}{n cap:Nat}{vs:List aD}
theorem Own.nil (w:a0)(base:Nat)(t:aV)(s:Nat):Own w base t s none 0 0 []:=cD ⟨rfl,rfl,rfl,rfl⟩
theorem Own.mk_ (hb:base≤g)(h:Bk w g t cs)(hn:n≤cap)(hm:cap≤maxLen)(hl:cs.length=cap*s)(hv:cs.take (n*s)=vs):Own w base t s (some ⟨g,0,none⟩) n cap vs:=
 bT ⟨g,cs,rfl,hb,h,hn,hm,hl,hv⟩
theorem Own.ext (h:Own w base t s A n cap vs)(e:Ext w w'):Own w' base t s A n cap vs:=by
 rcases h with h | ⟨g,cs,o,hb,f,r⟩
 ·exact cD h
 ·exact bT ⟨g,cs,o,hb,f.ext e,r⟩
theorem Own.upd (h:Own w base t s A n cap vs)(e:Upd k w w')(hne:∀a,A=some a→a.block≠k):Own w' base t s A n cap vs:=by
 rcases h with h | ⟨g,cs,f,hb,o,r⟩
 ·exact cD h
 ·exact bT ⟨g,cs,f,hb,o.upd e (hne _ f),r⟩
theorem Own.mono {base':Nat}(h:Own w base t s A n cap vs)(hb:base'≤base):Own w base' t s A n cap vs:=by
 rcases h with h | ⟨g,cs,e,_,r⟩
 ·exact cD h
 ·exact bT ⟨g,cs,e,by omega,r⟩
theorem Own.rv (h:Own w base t s A n cap vs):Rv w s A n cap vs:=by
 rcases h with⟨rfl,rfl,rfl,rfl⟩ | ⟨g,cs,rfl,hb,e,hn,f,hl,rfl⟩
 ·exact Rv.nil w s
 ·have o:n*s≤cap*s:=eC s hn
  refine⟨by rw [dE];omega,hn,f,fun i hi=>⟨_,rfl,?_⟩,fun a p _=>by cases p;exact e.lt⟩
  rw [iE,eQ,e.cell (by omega)]
  congr 1
  simp only [bE,iW]
  rw [if_pos hi]
theorem Own.rd (h:Own w base t 1 A n cap (xs.map bC))(hw:Wf xs):Rd w A n cap xs:=⟨h.rv,hw⟩
theorem Own.block (h:Own w base t s A n cap vs):∀a,A=some a→base≤a.block∧a.block<w.heap.size:=by
 intro a e
 rcases h with h | ⟨g,cs,o,hb,f,_⟩
 ·rw [h.1] at e;cases e
 ·rw [o] at e;cases e;exact⟨hb,f.lt⟩
end
theorem eA:maxLen=9223372036854775807:=rfl
theorem dP (xs:List Nat)(i x:Nat):(xs.map bC).set i (i5 (x:Int))=(xs.set i x).map bC:=by rw [List.map_set]
def zc (z:aD)(n:Nat):Array aD:=(cJ n z).toArray
theorem uE (z:aD)(n:Nat):(zc z n).toList=cJ n z:=rfl
theorem kF {t:aV}(ht:P.underlying t=some (.slice e))(hinfo:(P.info? e).map (fun i=>(i.zero,i.size,i.bytes))=some (some z,1,bytes))(hz:z.cells= #[z])(hby:bytes≤64)(l:Int)(h0:0≤l)(h1:l≤1099511627776)(w:a0):(oK t (a9 l) (a9 l)).run P w= .ok (i9 (some ⟨w.heap.size,0,none⟩) l.toNat l.toNat) (w.alloc (.cells (zc z l.toNat) e)):=by
 obtain⟨i,hi,f,p,o⟩:=oC hinfo
 have h:=run_make (P:=P) w t e i z ht hi f .i64 .i64 l l h0 (Int.le_refl _) (by rw [o];have:(bytes:Int)*l≤64*1099511627776:=Int.mul_le_mul (by omega) h1 h0 (by omega);omega) (by omega)
 rw [h,p,dK,hz]
 congr 3
 apply Array.ext'
 rw [toList_madeCells_one,uE]
theorem EP {t:aV}(ht:P.underlying t=some (.slice e))(hinfo:(P.info? e).map (fun i=>(i.zero,i.size,i.bytes))=some (some z,1,bytes))(hz:z.cells= #[z])(hby:bytes≤64)(l:Int)(h0:0≤l)(h1:l≤1099511627776)(w:a0):(oK t (a9 0) (a9 l)).run P w= .ok (i9 (some ⟨w.heap.size,0,none⟩) 0 l.toNat) (w.alloc (.cells (zc z l.toNat) e)):=by
 obtain⟨i,hi,f,p,o⟩:=oC hinfo
 have h:=run_make (P:=P) w t e i z ht hi f .i64 .i64 0 l (by omega) h0 (by rw [o];have:(bytes:Int)*l≤64*1099511627776:=Int.mul_le_mul (by omega) h1 h0 (by omega);omega) (by omega)
 rw [h,p,dK,hz]
 congr 3
 apply Array.ext'
 rw [toList_madeCells_one,uE]
theorem Upd.setRow {a:a0}(h:Upd g a w)(cs:Array aD):Upd g a (w.setRow g cs):=
 h.trans ⟨⟨rfl,rfl,rfl,by simp [World.setRow],fun k _ f=>setRow_other w g k cs (fun e=>f (by rw [e]))⟩⟩
theorem cK {Q:dH→Act→a0→Prop}(d:Option Tmp){op:Op}{type:aV}{pos:String}(h:wpList P ops Q (⟨d,op,type,pos,after,guard⟩::rest) a w):wpList P ops Q (⟨d,op,type,pos,after,guard⟩::rest) a w:=h
theorem yG {Q:dH→Act→a0→Prop}(hgd:o.guard=none)(d s:cG)(dT sT:aV)(ho:o.op= .call {callee:= .builtin .copy,args:= #[d,s],argTypes:= #[dT,sT]}){dLen dCap sLen sCap:Nat}(hd:a.eval d= i9 dp dLen dCap)(hs:a.eval s= i9 sp sLen sCap){elem:aV}(hu:P.underlying dT=some (.slice elem))(hsz:(P.info? elem).map (·.size)=some 1){off:Nat}{t:aV}(hg:Bk w g t vs)(hsrc:Rv w 1 sp sLen sCap us)(hpos:0<dLen→dp=some ⟨g,off,none⟩)(hfit:off+dLen≤vs.length)(h1:∀v∈us,v.oneCell'=true)(h:∀w',Bk w' g t (splice vs off (us.take dLen))→Upd g w w'→wpList P ops Q rest (a.put o.dst (goInt (min sLen dLen:Nat))) w'):wpList P ops Q (o::rest) a w:=by
 have f:us.length=sLen:=by simpa using hsrc.len
 have hl:(us.take dLen).length=Nat.min sLen dLen:=by rw [dE,f,Nat.min_comm]
 by_cases h0:Nat.min sLen dLen=0
 ·refine wpList_copy_nothing hgd d s dT sT ho elem hu hsz dp sp dLen dCap sLen sCap hd hs h0 ?_
  have e:us.take dLen= []:=u3 (by omega)
  have:=h w (by rw [e];simpa [splice] using hg) (Upd.refl g w)
  rwa [show (min sLen dLen:Nat)=0 from h0] at this
 ·have h0':¬min sLen dLen=0:=h0
  have q:0<dLen:=by omega
  obtain⟨ad,rfl,_⟩:=hsrc.get 0 (by omega)
  obtain rfl:=hpos q
  refine wpList_copy_own hgd d s dT sT ho elem hu hsz g off dLen dCap ad sLen sCap hd hs vs.toArray t hg (us.take dLen) hl ?_ ?_ (fun v p=>h1 v (oI p)) ?_
  ·intro j v p
   have hj:j<(us.take dLen).length:=(fS.1 p).1
   have hj':j<min sLen dLen:=by rw [hl] at hj;exact hj
   obtain⟨a',ha',r⟩:=hsrc.get j (by omega)
   cases ha'
   rw [r,←p,iW,if_pos (by omega),bE,bR (by omega)]
   rfl
  ·simp only [List.size_toArray]
   have:(us.take dLen).length≤dLen:=by rw [dE];omega
   omega
  ·have h':=h
   rw [show min sLen dLen=(us.take dLen).length from hl.symm] at h'
   refine h' _ ?_ ((Upd.refl g w).setRow _)
   show _=_
   simpa [splice] using setRow_heap w g _ _ t _ hg
structure UpdO (A:Option a8)(w w':a0):Prop where
 by_:w.grownBy w' (A.map (·.block))
theorem UpdO.ext {a:a0}(h:UpdO A w w')(e:Ext a w)(hA:∀p,A=some p→a.heap.size≤p.block):Ext a w':=
 e.grown h.by_ (fun k f=>by cases A with | none=>cases f | some p=>cases f;exact hA p G)
theorem UpdO.heap (h:UpdO A w w'){o:Obj}(hc:w.heap[k]?=some o)(hne:∀p,A=some p→p.block≠k):w'.heap[k]?=some o:=
 (h.by_.block k (mI.1 hc).1 (fun e=>by cases A with | none=>cases e | some p=>cases e;exact hne p G G)).trans hc
theorem UpdO.size (h:UpdO A w w'):w.heap.size≤w'.heap.size:=h.by_.size
theorem Bk.updO {t:aV}(h:Bk w g t vs)(e:UpdO A w w')(hne:∀p,A=some p→p.block≠g):Bk w' g t vs:=e.heap h hne
theorem Own.updO {t:aV}(h:Own w base t s B n cap vs)(e:UpdO A w w')(hne:∀p q,A=some p→B=some q→p.block≠q.block):Own w' base t s B n cap vs:=by
 rcases h with h | ⟨g,cs,f,hb,o,r⟩
 ·exact cD h
 ·exact bT ⟨g,cs,f,hb,o.updO e (fun p D=>hne p _ D f),r⟩
theorem Own.row {t:aV}(h:Own w base t s A n cap vs):w.ownsRow base t s (i9 A n cap) n vs:=by
 rcases h with⟨rfl,rfl,rfl,rfl⟩ | ⟨g,cs,rfl,hb,f,hn,e,hl,rfl⟩
 ·exact⟨by simp,cD ⟨rfl,rfl⟩⟩
 ·have o:n*s≤cap*s:=eC s hn
  exact⟨by rw [dE];omega,bT ⟨g,cap,cs.toArray,rfl,hb,f,hn,e,by simpa using hl,by simp⟩⟩
theorem Own.of_row {t:aV}(h:w.ownsRow base t s v n vs):∃A cap,v= i9 A n cap∧Own w base t s A n cap vs:=by
 obtain⟨hl,h⟩:=h
 rcases h with⟨rfl,rfl⟩ | ⟨g,cap,cur,rfl,hb,f,hn,e,hs,ht⟩
 ·exact⟨none,0,rfl,cD ⟨rfl,rfl,rfl,u3 (by simpa using hl)⟩⟩
 ·exact⟨_,_,rfl,bT ⟨g,cur.toList,rfl,hb,by unfold Bk;simpa using f,hn,e,by simpa using hs,ht⟩⟩
theorem zS (A:Option a8)(n cap:Nat):(Value.slice A n cap).ownBlock=A.map (·.block):=by cases A <;> rfl
theorem ET (w:a0)(base:Nat)(t ty e:aV)(i:TypeInfo)(size:Nat)(ht:P.underlying t=some (.slice e))(hi:P.info? e=some i)(v:aD)(n:Nat)(xs:List aD)(hown:w.ownsRow base e size v n xs)(c:Nat):(lP #[t,t] ty #[v,i9 none 0 c]).run P w= .ok v w:=by
 rcases hown.2 with⟨rfl,rfl⟩ | ⟨g,cap,cur,rfl,_,_,f,_⟩
 ·simp [lP,kK ht,sizeOf,typeInfo,hi,Builtin.lenOf,KK]
 ·simp [lP,kK ht,sizeOf,typeInfo,hi,Builtin.lenOf,KK,f,storeCells]
theorem CX {Q:dH→Act→a0→Prop}(hgd:o.guard=none)(s x:cG)(t:aV)(ho:o.op= .call {callee:= .builtin .append,args:= #[s,x],argTypes:= #[t,t]}){c:Nat}(hs:a.eval s= i9 A n cap)(hx:a.eval x= i9 S m c){size:Nat}(ht:P.underlying t=some (.slice e))(hinfo:(P.info? e).map (fun i=>(i.zero,i.size,i.bytes))=some (some z,size,bytes))(hzs:z.cells.size=size)(hsz:0<size){news:List aD}(hown:Own w base e size A n cap vs)(hsrc:Rv w size S m c news)(h1:∀u∈news,u.oneCell'=true)(hbytes:(n+m)*bytes≤140737488355328)(h63:n+m≤maxLen)(hbase:base≤w.heap.size)(h:∀A' cap' w',Own w' base e size A' (n+m) cap' (vs++news)→UpdO A w w'→(A'.map (·.block)=A.map (·.block)∨A'.map (·.block)=some w.heap.size)→
   wpList P ops Q rest (a.put o.dst (i9 A' (n+m) cap')) w'):wpList P ops Q (o::rest) a w:=by
 obtain⟨i,hi,p,q,f⟩:=oC hinfo
 cases S with
 | none=>
  have H:m=0:=by
   rcases kC m with h0 | h0
   ·exact h0
   ·obtain⟨ad,h,_⟩:=hsrc.get 0 (iI h0 hsz)
    cases h
  subst H
  have hn:news= []:=u3 (by simpa using hsrc.len)
  subst hn
  refine xR hgd fun K F=>?_
  have hr:=ET (P:=P) w base t o.type e i size ht hi (i9 A n cap) n vs hown.row c
  unfold kZ execOp
  simp only [ho,resolve,invoke,builtin,cA,g0,eG,mG,iJ,j7,hs,hx,hr]
  exact F _ _ (h A cap w (by simpa using hown) ⟨CF _ _⟩ (cD G))
 | some ad=>
  refine wpList_append_own_at w hgd s x t ho base e i z size bytes ht hi p q f hzs hsz (i9 A n cap) n vs hs hown.row ad m c news hx hsrc.len ?_ h1 h63 hbytes hbase ?_
  ·intro j u r
   have hj:j<news.length:=(fS.1 r).1
   obtain⟨a',ha',L⟩:=hsrc.get j (by rw [←hsrc.len];exact hj)
   cases ha'
   rw [L,←r,bE,bR hj]
   rfl
  ·intro v' w' h2 D _ E
   obtain⟨A',cap',rfl,I⟩:=Own.of_row h2
   rw [zS,zS] at E
   rw [zS] at D
   exact h A' cap' w' I ⟨D⟩ E
theorem Rv.one (w:a0)(t:aV)(v:aD):Rv (w.alloc (.cells #[v] t)) 1 (some ⟨w.heap.size,0,none⟩) 1 1 [v]:=by
 have h:=Bk.new w t [v]
 exact h.rv (o:=0) (n:=1) (cap:=1) (aX _) (by simp) (by rw [eA];omega)
theorem xK (xs:List Nat):∀v∈xs.map bC,v.oneCell'=true:=by
 intro v e
 obtain⟨x,_,rfl⟩:=List.mem_map.1 e
 rfl
theorem yY (xs ys:List Nat)(o:Nat):splice (xs.map bC) o (ys.map bC)=(splice xs o ys).map bC:=by
 simp [splice,jN,s3]
theorem MW {α:Type}(xs ys:List α)(h:ys.length=xs.length):splice xs 0 ys=ys:=by
 simp [splice,h]
theorem jY (n:Nat):cJ n (d8 .u64 0)=(cJ n 0).map bC:=by rw [List.map_replicate];rfl
abbrev Fr:=List (Nat×aD)
def look:Fr→Nat→Option aD
 | [],_=>none
 | (j,v)::l,i=>bif nE j i then some v else look l i
structure Rp (n:Nat)(l:Fr)(a:Act):Prop where
 size:a.tmps.size=n
 nod:a.defers= []
 val:∀i v,look l i=some v→a.tmps.getD i undef=v
def bP (l:Fr):cG→Option aD
 | .tmp i=>look l i
 | .const v=>some v
 | .global g=>some (.pointer (some ⟨g,0,none⟩))
 | .func f=>some (.func (.func f) #[] #[])
def rho (l:Fr)(x:cG):aD:=(bP l x).getD undef
theorem Rp.ev {l:Fr}(h:Rp n l a){x:cG}(hx:bP l x=some v):a.eval x=v:=by
 cases x with
 | tmp i=>exact h.val i v hx
 | const u=>exact iG hx
 | global g=>exact iG hx
 | func f=>exact iG hx
theorem Rp.rho {l:Fr}(h:Rp n l a){x:cG}(hx:(bP l x).isSome=true):a.eval x=rho l x:=by
 obtain⟨v,e⟩:=Option.isSome_iff_exists.1 hx
 rw [h.ev e,Go.Proofs.YtkepckmdjncehaaGreatDoor.rho,e];rfl
theorem Rp.put {l:Fr}(h:Rp n l a)(hd:d<n)(v:aD):Rp n ((d,v)::l) (a.put (some d) v):=by
 refine⟨by simp [mJ,h.size],by simp [mJ,h.nod],fun i u hi=>?_⟩
 simp only [look] at hi
 have hs:d<a.tmps.size:=by rw [h.size];exact hd
 by_cases e:d=i
 ·subst e
  rw [Nat.beq_refl] at hi
  cases hi
  simp [mJ,hs]
 ·have hb:nE d i=false:=by
   cases hh:nE d i with
   | false=>rfl
   | true=>exact absurd (pT hh) e
  rw [hb] at hi
  have:=h.val i u hi
  simp only [mJ,nG] at this⊢
  rwa [CO e]
def Keeps (l:Fr):Fr→Prop
 | []=>True
 | (i,v)::r=>look l i=some v∧Keeps l r
theorem Keeps.look {l:Fr}:∀{l':Fr},Keeps l l'→∀i v,look l' i=some v→look l i=some v
 | [],_,i,v,h=>by cases h
 | (j,u)::r,hk,i,v,h=>by
  simp only [Go.Proofs.YtkepckmdjncehaaGreatDoor.look] at h
  cases hb:nE j i with
  | true=>
   rw [hb] at h
   have e:=pT hb
   subst e
   cases h
   exact hk.1
  | false=>
   rw [hb] at h
   exact hk.2.look i v h
theorem Rp.keep {l l':Fr}(h:Rp n l a)(hk:Keeps l l'):Rp n l' a:=⟨h.size,h.nod,fun i v hi=>h.val i v (hk.look i v hi)⟩
section
variable {P:bV}{Q:dH→Act→a0→Prop}{n:Nat}{l:Fr}{w:a0}
def cw (P:bV)(Q:dH→Act→a0→Prop)(n:Nat)(c:Code)(l:Fr)(w:a0):Prop:=∀a,Rp n l a→c.wp P Q a w
def wl (P:bV)(ops:Array bB)(Q:dH→Act→a0→Prop)(n:Nat)(rest:List bB)(l:Fr)(w:a0):Prop:=∀a,Rp n l a→wpList P ops Q rest a w
def eo (Q:dH→Act→a0→Prop)(e:dH)(n:Nat)(l:Fr)(w:a0):Prop:=∀a,Rp n l a→Q e a w
theorem bF (l':Fr)(hk:Keeps l l')(h:cw P Q n c l' w):cw P Q n c l w:=fun a e=>h a (e.keep hk)
theorem fX {e:dH}(l':Fr)(hk:Keeps l l')(h:eo Q e n l' w):eo Q e n l w:=fun a f=>h a (f.keep hk)
theorem a7 {x y:Code}(h:cw P (Exit.then (fun a w=>y.wp P Q a w) Q) n x l w):cw P Q n (.seq x y) l w:=fun a e=>wp_seq (h a e)
theorem a6 (h:wl P ol.toArray Q n ol l w):cw P Q n (.region id ol.toArray false) l w:=fun a e=>wp_region_lit (h a e)
theorem aS (h:eo Q .normal n l w):wl P ops Q n [] l w:=fun a e=>wpList_nil (h a e)
theorem aC {y:Code}(h:cw P Q n y l w):eo (Exit.then (fun a w=>y.wp P Q a w) Q) .normal n l w:=h
theorem aW (h:eo Q .normal n l w):cw P Q n .skip l w:=fun a e=>wp_skip (h a e)
theorem cN (h:eo Q (.exit i) n l w):cw P Q n (.exit i) l w:=fun a e=>wp_exit (h a e)
theorem aU (h:eo Q .ret n l w):cw P Q n .ret l w:=fun a e=>wp_ret (h a e)
theorem bI (h:cw P (q7 i Q) n c l w):cw P Q n (.block i c) l w:=fun a e=>wp_block (h a e)
theorem aY {c:cG}{x y:Code}(hc:bP l c=some (no))(h:cw P Q n x l w):cw P Q n (.cond c x y) l w:=fun a e=>wp_cond_true (e.ev hc) (h a e)
theorem aN {c:cG}{x y:Code}(hc:bP l c=some (t9))(h:cw P Q n y l w):cw P Q n (.cond c x y) l w:=fun a e=>wp_cond_false (e.ev hc) (h a e)
theorem cM (h:eo Q .normal n l w):eo (q7 i Q) (.exit i) n l w:=fun a e=>by simp only [q7,if_true];exact h a e
theorem BE (h:eo Q (.exit j) n l w)(hne:j≠i:=by decide):eo (q7 i Q) (.exit j) n l w:=fun a e=>by simp only [q7,if_neg hne];exact h a e
theorem gM (h:eo Q .ret n l w):eo (q7 i Q) .ret n l w:=h
theorem bG (h:eo Q .normal n l w):eo (q7 i Q) .normal n l w:=h
def K9 {T:Type}(n:Nat)(F:T→Fr)(W:T→a0)(H:T→Prop)(Q:dH→Act→a0→Prop):dH→Act→a0→Prop
 | .normal,a,w=>∃t,H t∧W t=w∧Rp n (F t) a
 | e,a,w=>Q e a w
theorem lE {F:T→Fr}{W:T→a0}{H:T→Prop}(t:T)(hH:H t)(hW:W t=w)(hk:Keeps l (F t)):eo (K9 n F W H Q) .normal n l w:=fun _ e=>⟨t,hH,hW,e.keep hk⟩
theorem VU (F:T→Fr)(W:T→a0)(H:T→Prop){x y:Code}(hx:cw P (K9 n F W H Q) n x l w)(hy:∀t,H t→cw P Q n y (F t) (W t)):cw P Q n (.seq x y) l w:=
 a7 fun a o=>CK (fun e a' w' h=>by
  cases e with
  | normal=>obtain⟨t,f,rfl,hr⟩:=h;exact hy t f a' hr
  | _=>exact h) (hx a o)
def xM {T:Type}(n:Nat)(F:T→Fr)(W:T→a0)(H:T→Prop)(m:T→Nat)(k:Nat)(Q:dH→Act→a0→Prop):dH→Act→a0→Prop
 | .normal,a,w=>∃t,H t∧m t<k∧W t=w∧Rp n (F t) a
 | e,a,w=>Q e a w
theorem bW {F:T→Fr}{W:T→a0}{H:T→Prop}{m:T→Nat}(t:T)(hH:H t)(hm:m t<k)(hW:W t=w)(hk:Keeps l (F t)):eo (xM n F W H m k Q) .normal n l w:=fun _ e=>⟨t,hH,hm,hW,e.keep hk⟩
theorem cU (F:T→Fr)(W:T→a0)(H:T→Prop)(m:T→Nat)(t0:T)(h0:H t0)(hW:W t0=w)(hk:Keeps l (F t0))(round:∀t,H t→cw P (xM n F W H m (m t) Q) n c (F t) (W t)):cw P Q n (.loop c) l w:=by
 classical
 intro a D
 let S:Act→a0→Nat→Prop:=fun a w k=>∃t,H t∧m t=k∧W t=w∧Rp n (F t) a
 let I:Act→a0→Prop:=fun a w=>∃k,S a w k
 have f:∀a w,I a w→∃k,S a w k∧∀j,S a w j→k≤j:=by
  intro a w ⟨k,hk⟩
  induction k using pQ with
  | ind k ih=>
   by_cases hs:∃j,S a w j∧j<k
   ·obtain⟨j,hj,o⟩:=hs
    exact ih j o hj
   ·exact⟨k,hk,fun j hj=>oH fun o=>hs ⟨j,hj,o⟩⟩
 let μ:Act→a0→Nat:=fun a w=>if h:I a w then CL (f a w h) else 0
 refine wp_loop I μ ⟨m t0,t0,h0,rfl,hW,D.keep hk⟩ ?_
 intro a w q
 have hμ:μ a w=CL (f a w q):=dif_pos q
 obtain⟨r,p⟩:=KJ (f a w q)
 rw [←hμ] at r p
 obtain⟨t,E,_,rfl,hr⟩:=r
 refine CK ?_ (round t E a hr)
 intro e a' w' h
 cases e with
 | normal=>
  obtain⟨t',hH',hm',hW',hr'⟩:=h
  have hI':I a' w':=⟨m t',t',hH',rfl,hW',hr'⟩
  refine⟨hI',?_⟩
  have hμ':μ a' w'=CL (f a' w' hI'):=dif_pos hI'
  have:=(KJ (f a' w' hI')).2 (m t') ⟨t',hH',rfl,hW',hr'⟩
  omega
 | _=>exact h
theorem bU {K:Act→a0→Prop}(h:eo Q .ret n l w):eo (Exit.then K Q) .ret n l w:=h
theorem cI {K:Act→a0→Prop}(h:eo Q (.exit i) n l w):eo (Exit.then K Q) (.exit i) n l w:=h
theorem nY {F:T→Fr}{W:T→a0}{H:T→Prop}{m:T→Nat}(h:eo Q .ret n l w):eo (xM n F W H m k Q) .ret n l w:=h
theorem cL {F:T→Fr}{W:T→a0}{H:T→Prop}{m:T→Nat}(h:eo Q (.exit i) n l w):eo (xM n F W H m k Q) (.exit i) n l w:=h
theorem cR (l':Fr)(w':a0)(hw:w=w')(hk:Keeps l l')(h:cw P Q n c l' w'):cw P Q n c l w:=by subst hw;exact bF l' hk h
def xC:List aD→Nat→Fr
 | [],_=> []
 | v::r,i=>(i,v)::xC r (i+1)
theorem GD:∀(args:List aD) (k i:Nat) (v:aD),look (xC args k) i=some v→k≤i∧args[i-k]?=some v
 | [],k,i,v,h=>by cases h
 | u::r,k,i,v,h=>by
  simp only [xC,look] at h
  cases hb:nE k i with
  | true=>
   rw [hb] at h
   have e:=pT hb
   subst e
   cases h
   simp
  | false=>
   rw [hb] at h
   obtain⟨h1,h2⟩:=GD r (k+1) i v h
   refine⟨by omega,?_⟩
   have:i-k=(i-(k+1))+1:=by omega
   rw [this];simpa using h2
theorem bL {R:dR→a0→Prop}(hf:P.funcs[f]?=some fn)(hb:fn.body=some c)(hn:fn.ntmps=n)(hle:args.length≤n)(h:cw P (bodyPost P fn R) n c (xC args 0) w):aQ P f args.toArray w R:=by
 refine calls_of_wp hf hb (h _ ⟨?_,rfl,fun i v hi=>?_⟩)
 ·simp [hn];omega
 ·obtain⟨_,h2⟩:=GD args 0 i v hi
  rw [Nat.sub_zero] at h2
  have e:i<args.length:=(fS.1 h2).1
  simp only [nG]
  rw [Array.getElem?_append_left (by simpa using e)]
  simp [h2]
def qK (P:bV)(w:a0)(l:Fr):List rW→List aD→Prop
 | [],[]=>True
 | .tmp t::r,v::vs=>look l t=some v∧qK P w l r vs
 | .cell s t::r,v::vs=>(∃a,look l s=some (.pointer (some a))∧(loadVar t a).run P w= .ok v w)∧qK P w l r vs
 | _,_=>False
def oW (tmps:Array aD):rW→Sem aD
 | .tmp t=>pure (tmps.getD t undef)
 | .cell s t=>do loadVar t (←asAddr (tmps.getD s undef))
theorem zJ {a:Act}(ha:Rp n l a):∀(rl:List rW) (vs:List aD),qK P w l rl vs→(rl.mapM (oW a.tmps)).run P w= .ok vs w
 | [],[],_=>rfl
 | [],_::_,h=>by cases h
 | .tmp _::_,[],h=>by cases h
 | .cell _ _::_,[],h=>by cases h
 | .tmp t::rl,v::vs,h=>by
  obtain⟨h1,h2⟩:=h
  have f:(oW a.tmps (.tmp t)).run P w= .ok v w:=by
   show (Sem.pure (a.tmps.getD t undef)).run P w=_
   rw [ha.val t v h1];rfl
  rw [List.mapM_cons]
  simp only [cA,f,eG,zJ ha rl vs h2,g0]
 | .cell s t::rl,v::vs,h=>by
  obtain⟨⟨p,h1,o⟩,h2⟩:=h
  have f:(oW a.tmps (.cell s t)).run P w= .ok v w:=by
   have e:(do loadVar t (←asAddr (a.tmps.getD s undef)):Sem aD).run P w= .ok v w:=by
    rw [ha.val s _ h1];simpa [asAddr] using o
   exact e
  rw [List.mapM_cons]
  simp only [cA,f,eG,zJ ha rl vs h2,g0]
def zM:List aD→aD
 | [v]=>v
 | vs=> .tuple vs.toArray
theorem EN (hr:fn.results=rl.toArray)(ha:Rp n l a)(h:qK P w l rl vs):(results fn a.tmps).run P w= .ok (zM vs) w:=by
 have h1:=zJ ha rl vs h
 have e:results fn a.tmps=(do let vs←fn.results.mapM (oW a.tmps);pure (if h:vs.size=1 then vs[0] else .tuple vs)):=rfl
 have f:(fn.results.mapM (oW a.tmps)).run P w= .ok vs.toArray w:=by
  rw [hr,List.mapM_toArray]
  have o:(List.toArray<$>rl.mapM (oW a.tmps):Sem (Array aD))=(rl.mapM (oW a.tmps)>>=fun x=>pure x.toArray):=by rw [bind_pure_comp]
  rw [o]
  simp only [cA,h1,eG,g0]
 rw [e]
 simp only [cA,f,eG,g0]
 match vs with
 | []=>rfl
 | [v]=>rfl
 | u::v::r=>rfl
theorem aT {R:dR→a0→Prop}(vs:List aD)(hr:fn.results=rl.toArray)(h:qK P w l rl vs)(hR:R (.returned (zM vs)) w):eo (bodyPost P fn R) .ret n l w:=
 fun _ e=>iV (EN hr e h) e.nod hR
theorem nZ {R:dR→a0→Prop}(vs:List aD)(hr:fn.results=rl.toArray)(h:qK P w l rl vs)(hR:R (.returned (zM vs)) w):eo (bodyPost P fn R) .normal n l w:=
 fun _ e=>bodyPost_end (EN hr e h) e.nod hR
section ops
variable {ops:Array bB}{rest:List bB}{d:Nat}{op:Op}{ty:aV}{pos:String}{af:Array Edge}
def d5 (ops:Array bB)(l:Fr):Option (Nat×Bool)→Option Bool
 | none=>some true
 | some (g,b)=>
  match (ops[g]?).bind (·.dst) with
  | some c=>
   match look l c with
   | some (.bool x)=>some (x==b)
   | some (.tuple _)=>some false
   | _=>none
  | none=>none
theorem yM {r:Bool}(h:d5 ops l gd=some r)(ha:Rp n l a):oE ⟨dst,op,ty,pos,af,gd⟩ (yielded ops a.tmps)=r:=by
 cases gd with
 | none=>exact iG h
 | some p=>
  obtain⟨g,b⟩:=p
  simp only [d5] at h
  simp only [oE]
  cases hc:(ops[g]?).bind (·.dst) with
  | none=>rw [hc] at h;cases h
  | some c=>
   rw [hc] at h
   simp only at h
   have f:yielded ops a.tmps g=match a.tmps[c]? with | some (.bool b)=>some b | _=>none:=by
    unfold yielded;rw [hc];rfl
   cases hl:look l c with
   | none=>rw [hl] at h;cases h
   | some u=>
    rw [hl] at h
    have e:=ha.val c u hl
    rw [nG] at e
    cases u with
    | bool x=>
     simp only [eH] at h
     cases hx:a.tmps[c]? with
     | none=>rw [hx] at e;cases e
     | some v=>
      rw [hx] at e
      simp only [lJ] at e
      subst e
      rw [f,hx,←h]
      cases x <;> cases b <;> rfl
    | tuple vs=>
     simp only [eH] at h
     cases hx:a.tmps[c]? with
     | none=>rw [f,hx,←h];rfl
     | some v=>
      rw [hx] at e
      simp only [lJ] at e
      subst e
      rw [f,hx,←h];rfl
    | _=>cases h
variable {gd:Option (Nat×Bool)}
theorem yK (hw:d5 ops l gd=some true)(ha:Rp n l a)(h:∀K:Act→a0→Prop,(∀a w,wpList P ops Q rest a w→K a w)→kZ P ⟨dst,op,ty,pos,af,gd⟩ a w K Q):wpList P ops Q (⟨dst,op,ty,pos,af,gd⟩::rest) a w:=
 wpList_step fun K e=>by rw [yM hw ha];exact h K e
theorem LD (hw:d5 ops l gd=some false)(hn:d<n)(h:wl P ops Q n rest ((d,undef)::l) w):wl P ops Q n (⟨some d,op,ty,pos,af,gd⟩::rest) l w:=fun a e=>
 wpList_step fun K f=>by
  rw [yM hw e]
  exact f _ _ (h _ (e.put hn undef))
theorem fJ (hw:d5 ops l gd=some true)(hn:d<n)(hr:∀a,Rp n l a→(execOp a.eval ⟨some d,op,ty,pos,af,gd⟩).run P w= .ok (.value v) w')(h:wl P ops Q n rest ((d,v)::l) w'):wl P ops Q n (⟨some d,op,ty,pos,af,gd⟩::rest) l w:=fun a e=>by
 refine yK hw e fun K f=>?_
 unfold kZ
 rw [hr a e]
 exact f _ _ (h _ (e.put hn v))
theorem L9 (hw:d5 ops l gd=some true)(hr:∀a,Rp n l a→(execOp a.eval ⟨none,op,ty,pos,af,gd⟩).run P w= .ok .skip w')(h:wl P ops Q n rest l w'):wl P ops Q n (⟨none,op,ty,pos,af,gd⟩::rest) l w:=fun a e=>by
 refine yK hw e fun K f=>?_
 unfold kZ
 rw [hr a e]
 exact f _ _ (h _ e)
def vJ:Op→Bool
 | .select .. =>false
 | _=>true
def kI (l:Fr)(op:Op):Bool:=vJ op&&op.operands.toList.all fun x=>(bP l x).isSome
theorem rJ {g:Option (Nat×Bool)}(hk:kI l op=true)(ha:Rp n l a):execOp a.eval ⟨dst,op,ty,pos,af,g⟩=execOp (rho l) ⟨dst,op,ty,pos,af,g⟩:=by
 simp only [kI,dW,eK] at hk
 refine execOp_congr _ (fun cs b e=>?_) (fun x hx=>ha.rho (hk.2 x (by simpa using hx)))
 simp only at e
 rw [e] at hk
 exact absurd hk.1 (by simp [vJ])
theorem D0 (hw:d5 ops l gd=some true)(hk:kI l op=true)(hn:d<n)(hr:(execOp (rho l) ⟨some d,op,ty,pos,af,gd⟩).run P w= .ok (.value v) w)(h:wl P ops Q n rest ((d,v)::l) w):wl P ops Q n (⟨some d,op,ty,pos,af,gd⟩::rest) l w:=
 fJ hw hn (fun a e=>by rw [rJ hk e];exact hr) h
theorem LH {x:cG}(hw:d5 ops l gd=some true)(hx:bP l x=some v)(hn:d<n)(h:wl P ops Q n rest ((d,v)::l) w):wl P ops Q n (⟨some d,.move x,ty,pos,af,gd⟩::rest) l w:=
 fJ hw hn (fun a e=>by simp only [execOp,e.ev hx];rfl) h
theorem LN {x:cG}(hw:d5 ops l gd=some true)(hx:bP l x=some v)(hn:d<n)(h:wl P ops Q n rest ((d,v)::l) w):wl P ops Q n (⟨some d,.assign x,ty,pos,af,gd⟩::rest) l w:=
 fJ hw hn (fun a e=>by simp only [execOp,e.ev hx];rfl) h
theorem aL {x:cG}{t:aV}(hw:d5 ops l gd=some true)(hx:bP l x=some (.pointer (some p)))(hl:(loadVar t p).run P w= .ok v w)(h:wl P ops Q n rest ((d,v)::l) w)(hn:d<n:=by decide):wl P ops Q n (⟨some d,.load t x,ty,pos,af,gd⟩::rest) l w:=
 fJ hw hn (fun a f=>by
  have e:(yA t (a.eval x)).run P w= .ok v w:=by rw [f.ev hx];exact hl
  show ((yA t (a.eval x)>>=fun r=>pure (gE r):Sem fU)).run P w=_
  rw [cA,e];rfl) h
theorem qA {x y:cG}{t:aV}(hw:d5 ops l gd=some true)(hx:bP l x=some (.pointer (some p)))(hy:bP l y=some v)(hs:(storeVar t p v).run P w= .ok () w')(h:wl P ops Q n rest l w'):wl P ops Q n (⟨none,.store t x y,ty,pos,af,gd⟩::rest) l w:=
 L9 hw (fun a f=>by
  have e:(y9 t (a.eval x) (a.eval y)).run P w= .ok () w':=by rw [f.ev hx,f.ev hy];exact hs
  show ((y9 t (a.eval x) (a.eval y)>>=fun _=>pure Next.skip:Sem fU)).run P w=_
  rw [cA,e];rfl) h
def cV:j8→Int→Int→Option Bool
 | .eql,a,b=>some (a==b)
 | .neq,a,b=>some (a != b)
 | .lss,a,b=>some (decide (a<b))
 | .leq,a,b=>some (decide (a≤b))
 | .gtr,a,b=>some (decide (a>b))
 | .geq,a,b=>some (decide (a≥b))
 | _,_,_=>none
theorem ER {o:j8}{t:aV}{k:iL}{a b:Int}{c:Bool}(hc:cV o a b=some c){x y:cG}:((do eqGuard o t x y (.int k a) (.int k b);binOp o t (.int k a) (.int k b)):Sem aD).run P w= .ok (.bool c) w:=by
 cases o <;> simp only [cV,eH,reduceCtorEq] at hc <;> subst hc <;> simp [eqGuard,binOp,Op.intCmp]
theorem aA (hw:d5 ops l gd=some true){o:j8}{t:aV}{x y:cG}{k:iL}{a b:Int}(hx:bP l x=some (.int k a))(hy:bP l y=some (.int k b))(c:Bool)(hc:cV o a b=some c)(h:wl P ops Q n rest ((d,.bool c)::l) w)(hn:d<n:=by decide):wl P ops Q n (⟨some d,.binOp o t x y t',ty,pos,af,gd⟩::rest) l w:=
 fJ hw hn (fun a' f=>by
  have e:((do eqGuard o t x y (a'.eval x) (a'.eval y);binOp o t (a'.eval x) (a'.eval y)):Sem aD).run P w= .ok (.bool c) w:=by
   rw [f.ev hx,f.ev hy];exact ER hc
  show ((((do eqGuard o t x y (a'.eval x) (a'.eval y);binOp o t (a'.eval x) (a'.eval y)):Sem aD)>>=fun r=>pure (gE r)):Sem fU).run P w=_
  rw [cA,e];rfl) h
def eJ:j8→iL→Int→Int→Option Int
 | .add,k,a,b=>some (k.wrap (a+b))
 | .sub,k,a,b=>some (k.wrap (a-b))
 | .mul,k,a,b=>some (k.wrap (a*b))
 | .quo,k,a,b=>if b=0 then none else some (k.wrap (a.tdiv b))
 | .rem,_,a,b=>if b=0 then none else some (a.tmod b)
 | _,_,_,_=>none
theorem ES {o:j8}{t:aV}{k:iL}{a b c:Int}(hc:eJ o k a b=some c){x y:cG}:((do eqGuard o t x y (.int k a) (.int k b);binOp o t (.int k a) (.int k b)):Sem aD).run P w= .ok (.int k c) w:=by
 cases o <;> simp only [eJ,eH,reduceCtorEq] at hc
 case add=>subst hc;simp [eqGuard,binOp,CH]
 case sub=>subst hc;simp [eqGuard,binOp,CH]
 case mul=>subst hc;simp [eqGuard,binOp,CH]
 case quo=>
  by_cases hb:b=0
  ·rw [if_pos hb] at hc;cases hc
  ·rw [if_neg hb] at hc;cases hc;simp [eqGuard,binOp,tT,hb]
 case rem=>
  by_cases hb:b=0
  ·rw [if_pos hb] at hc;cases hc
  ·rw [if_neg hb] at hc;cases hc;simp [eqGuard,binOp,tT,hb]
theorem aR (hw:d5 ops l gd=some true){o:j8}{t:aV}{x y:cG}{k:iL}{a b:Int}(hx:bP l x=some (.int k a))(hy:bP l y=some (.int k b))(c:Int)(hc:eJ o k a b=some c)(h:wl P ops Q n rest ((d,.int k c)::l) w)(hn:d<n:=by decide):wl P ops Q n (⟨some d,.binOp o t x y t',ty,pos,af,gd⟩::rest) l w:=
 fJ hw hn (fun a' f=>by
  have e:((do eqGuard o t x y (a'.eval x) (a'.eval y);binOp o t (a'.eval x) (a'.eval y)):Sem aD).run P w= .ok (.int k c) w:=by
   rw [f.ev hx,f.ev hy];exact ES hc
  show ((((do eqGuard o t x y (a'.eval x) (a'.eval y);binOp o t (a'.eval x) (a'.eval y)):Sem aD)>>=fun r=>pure (gE r)):Sem fU).run P w=_
  rw [cA,e];rfl) h
structure NewBk (w w':a0)(g:Nat)(t:aV)(vs:List aD):Prop where
 at_:w.heap.size=g
 size:w'.heap.size=g+1
 bk:Bk w' g t vs
 ext:Ext w w'
theorem NewBk.mk' (w:a0)(t:aV)(vs:List aD):NewBk w (w.alloc (.cells vs.toArray t)) w.heap.size t vs:=⟨rfl,by simp,Bk.new w t vs,(Ext.refl w).alloc _⟩
theorem EO {t:aV}(hv:v.cells=vs.toArray):(newVar t v).run P w= .ok ⟨w.heap.size,0,none⟩ (w.alloc (.cells vs.toArray t)):=by
 unfold newVar newRow newObj
 rw [hv]
 rfl
theorem l7 {x:cG}{t:aV}(hw:d5 ops l gd=some true)(hx:bP l x=some v)(hv:v.cells=vs.toArray)(h:∀g w',NewBk w w' g t vs→wl P ops Q n rest ((d,a4 g 0)::l) w')(hn:d<n:=by decide):wl P ops Q n (⟨some d,.box t x,ty,pos,af,gd⟩::rest) l w:=
 fJ hw hn (fun a f=>by
  have e:(Instr.box t (a.eval x)).run P w= .ok (a4 w.heap.size 0) (w.alloc (.cells vs.toArray t)):=by
   rw [f.ev hx]
   show ((newVar t v>>=fun r=>pure (CG (some r)):Sem aD)).run P w=_
   rw [cA,EO hv];rfl
  show ((Instr.box t (a.eval x)>>=fun r=>pure (gE r):Sem fU)).run P w=_
  rw [cA,e];rfl) (h _ _ (NewBk.mk' w t vs))
theorem jG {t:aV}(hw:d5 ops l gd=some true)(hz:∀w,(zeroValue t).run P w= .ok z w)(hv:z.cells=vs.toArray)(h:∀g w',NewBk w w' g t vs→wl P ops Q n rest ((d,a4 g 0)::l) w')(hn:d<n:=by decide):wl P ops Q n (⟨some d,.alloc t,ty,pos,af,gd⟩::rest) l w:=
 fJ hw hn (fun a _=>by
  have e:(Instr.alloc t true (.tuple #[])).run P w= .ok (a4 w.heap.size 0) (w.alloc (.cells vs.toArray t)):=by
   show ((zeroValue t>>=fun z=>(newVar t z>>=fun r=>pure (CG (some r))):Sem aD)).run P w=_
   rw [cA,hz w]
   show ((newVar t z>>=fun r=>pure (CG (some r)):Sem aD)).run P w=_
   rw [cA,EO hv];rfl
  show ((Instr.alloc t true (.tuple #[])>>=fun r=>pure (gE r):Sem fU)).run P w=_
  rw [cA,e];rfl) (h _ _ (NewBk.mk' w t vs))
def K5 (p:aD→Prop):dR→Prop
 | .returned v=>p v
 | _=>False
theorem dA {p:aD→Prop}(h:p v):K5 p (.returned v):=h
theorem d9 {xs:Array cG}{R:dR→a0→Prop}(hw:d5 ops l gd=some true)(hk:kI l (.call {callee:= .value (.func f),args:=xs,argTypes:=ts})=true)(hr:(execOp (rho l) ⟨some d,.call {callee:= .value (.func f),args:=xs,argTypes:=ts},ty,pos,af,gd⟩).run P w= .ok (.enter f vs.toArray) w)(hn:d<n)(hc:aQ P f vs.toArray w R)(h:∀e w',R e w'→K5 (fun v=>wl P ops Q n rest ((d,v)::l) w') e):wl P ops Q n (⟨some d,.call {callee:= .value (.func f),args:=xs,argTypes:=ts},ty,pos,af,gd⟩::rest) l w:=fun a o=>by
 refine yK hw o fun K p=>?_
 unfold kZ
 rw [rJ hk o,hr]
 refine hc.mono fun e w' q=>?_
 have:=h e w' q
 cases e with
 | returned v=>exact p _ _ (this _ (o.put hn v))
 | panicked c=>exact this.elim
 | outgrown=>exact this.elim
end ops
end
def NP (Q:dH→Act→a0→Prop):dH→Act→a0→Prop
 | .panic _,_,_=>False
 | e,a,w=>Q e a w
theorem NP.imp {Q:dH→Act→a0→Prop}:∀e a w,NP Q e a w→Q e a w:=fun e a w h=>by
 cases e <;> first | exact h | exact h.elim
theorem eB {Q:dH→Act→a0→Prop}{l:Fr}(h:eo Q .normal n l w):eo (NP Q) .normal n l w:=h
def iU (Rs:List (aD→a0→Prop))(i:Nat):aD→a0→Prop:=(Rs[i]?).getD fun _ _=>True
def jH (a:Act):Option Tmp→aD
 | some d=>a.tmps.getD d undef
 | none=>undef
def zP (d:Option Tmp)(v:aD)(l:Fr):Fr:=
 match d with
 | some d=>(d,v)::l
 | none=>l
def dL (ol:List bB)(j:Nat):Option Tmp:=(ol[j]?).bind (·.dst)
def wC (o:bB)(j:Nat):Bool:=o.after.toList.any fun e=>gU .any e&&e.on==j
theorem SF (h:wC o j=true):∃e∈o.after,gU .any e=true∧e.on=j:=by
 simp only [wC,uA,dW,beq_iff_eq] at h
 obtain⟨e,he,h1,h2⟩:=h
 exact⟨e,by simpa using he,h1,h2⟩
def Deps (ol:List bB)(Rs:List (aD→a0→Prop))(w0 w1:a0)(k:Fr→Prop):List Nat→Fr→Prop
 | [],acc=>k acc
 | j::ds,acc=>∀v wj,iU Rs j v wj→Ext w0 wj→Ext wj w1→Deps ol Rs w0 w1 k ds (zP (dL ol j) v acc)
theorem aG {Rs:List (aD→a0→Prop)}{k:Fr→Prop}{acc:Fr}(h:k acc):Deps ol Rs w0 w1 k [] acc:=h
theorem cF {Rs:List (aD→a0→Prop)}{k:Fr→Prop}{acc:Fr}{R:aD→a0→Prop}(hR:Rs[j]?=some R)(hd:dL ol j=some d)(h:∀v wj,R v wj→Ext w0 wj→Ext wj w1→Deps ol Rs w0 w1 k ds ((d,v)::acc)):Deps ol Rs w0 w1 k (j::ds) acc:=by
 intro v wj hr e e'
 have f:iU Rs j=R:=by unfold iU;rw [hR];rfl
 have o:zP (dL ol j) v acc=(d,v)::acc:=by rw [hd];rfl
 rw [f] at hr
 rw [o]
 exact h v wj hr e e'
def m8 (w1:a0)(d:Option Tmp)(R:aD→a0→Prop):dH→Act→a0→Prop
 | .normal,a,w=>Ext w1 w∧R (jH a d) w∧a.defers= []
 | _,_,_=>False
theorem aI {l:Fr}{R:aD→a0→Prop}(hv:look l d=some v)(hx:Ext w1 w)(hR:R v w):wl P ops (m8 w1 (some d) R) n [] l w:=
 aS fun a e=>⟨hx,by show R (a.tmps.getD d undef) w;rw [e.val d v hv];exact hR,e.nod⟩
def iZ (v:aD)(g:Nat):Prop:=v= a4 g 0∨∃s p n c,v= .agg #[.bool s,i9 (some p) n c]∧p.block=g
def pN (w:a0)(v:aD):Prop:=∀g,iZ v g→w.heap.size≤g
def CD (w:a0)(v:aD):Prop:=∀g,iZ v g→g<w.heap.size
def xL (Rs:List (aD→a0→Prop)):List Nat→Prop
 | []=>True
 | i::r=>(∀v w,iU Rs i v w→CD w v)∧xL Rs r
theorem FR {Rs:List (aD→a0→Prop)}:∀{al:List Nat},xL Rs al→∀i∈al,∀v w,iU Rs i v w→CD w v
 | [],_,i,h=>by cases h
 | j::r,h,i,hi=>by
  rcases mE.1 hi with e | e
  ·subst e;exact h.1
  ·exact FR h.2 i e
def xP (ol:List bB)(al:List Nat)(acc:Fr):Prop:=∀i∈al,∀j∈al,i≠j→∀di dj,dL ol i=some di→dL ol j=some dj→∀u v,look acc di=some u→look acc dj=some v→∀g,iZ u g→iZ v g→False
section
variable (P:bV) (n:Nat) (ol:List bB) (m:Nat) (fl al:List Nat) (Rs:List (aD→a0→Prop)) (l:Fr) (w0:a0)
def tQ (i:Nat)(o:bB)(ds:List Nat):Prop:=
 ∀w1,Ext w0 w1→Deps ol Rs w0 w1 (fun acc=>wl P ol.toArray (m8 w1 o.dst (fun v w=>iU Rs i v w∧(al.contains i=true→pN w1 v))) n [o] acc w1) ds l
def xO (i:Nat)(o:bB)(ds:List Nat):Prop:=
 ∀w1,Ext w0 w1→Deps ol Rs w0 w1 (fun acc=>∃v,kI acc o.op=true∧d5 ol.toArray acc o.guard=some true∧(∀w,(execOp (rho acc) o).run P w= .ok (.value v) w)∧iU Rs i v w1) ds l
def m9:List (List Nat)→Nat→Prop
 | [],_=>True
 | ds::dss,i=>(match ol[i]? with | some o=>if fl.contains i then xO P ol Rs l w0 i o ds else tQ P n ol al Rs l w0 i o ds | none=>True)∧m9 dss (i+1)
end
def bQ (rl:List (List Nat))(i:Nat):List Nat:=(rl[i]?).getD []
def wS (n : Nat)(ol : List bB)(m : Nat)(fl : List Nat)(l : Fr)(dss rl : List (List Nat)): Bool :=
  decide (m ≤ ol.length) && dss.length == m && fl.all (fun i => decide (i < m)) &&
  (ol.zipIdx.all fun (o, i) => vJ o.op && (o.after.toList.all fun e => !Region.binds .any e || decide (e.on < i)) && ((bQ rl i).all fun j => o.after.toList.any fun e => gU .any e && (e.on == j || (bQ rl e.on).contains j)) &&
    (if i < m then
      (match o.dst with
       | some d => decide (d < n) && l.all (fun p => p.1 != d) && ol.zipIdx.all (fun (o', j) => j == i || decide (m ≤ j) || o'.dst != some d)
       | none => false) &&
      ((dss[i]?).getD []).all (fun j => (bQ rl i).contains j) &&
      (!fl.contains i || ol.zipIdx.all (fun (o', j) => j == i || (bQ rl i).contains j || wC o' i || o.apart ol.toArray o'))
     else (fI i).all (fun j => fl.contains j || (bQ rl i).contains j)))
structure DrawOk (n:Nat)(ol:List bB)(m:Nat)(fl:List Nat)(l:Fr)(dss rl:List (List Nat)):Prop where
 mle:m≤ol.length
 dlen:dss.length=m
 flt:∀i∈fl,i<m
 sel:∀(i:Nat) (o:bB),ol[i]?=some o→vJ o.op=true
 back:∀(i:Nat) (o:bB),ol[i]?=some o→∀e∈o.after,gU .any e=true→e.on<i
 dst:∀(i:Nat) (o:bB),ol[i]?=some o→i<m→∃d,o.dst=some d∧d<n∧(∀p∈l,p.1≠d)∧∀(j:Nat) (o':bB),ol[j]?=some o'→j≠i→j<m→o'.dst≠some d
 reach:∀(i:Nat) (o:bB),ol[i]?=some o→∀j∈bQ rl i,∃e∈o.after,gU .any e=true∧(e.on=j∨j∈bQ rl e.on)
 deps:∀(i:Nat) (o:bB),ol[i]?=some o→i<m→∀j∈(dss[i]?).getD [],j∈bQ rl i
 free:∀(i:Nat) (o:bB),ol[i]?=some o→i∈fl→∀(j:Nat) (o':bB),ol[j]?=some o'→j≠i→j ∉ bQ rl i→wC o' i=true∨o.apart ol.toArray o'=true
 tail:∀(i:Nat) (o:bB),ol[i]?=some o→m≤i→∀j,j<i→j∈fl∨j∈bQ rl i
theorem mV {α:Type}{l:List α}{p:α×Nat→Bool}(h:l.zipIdx.all p=true)(i:Nat)(x:α)(hx:l[i]?=some x):p (x,i)=true:=by
 rw [eK] at h
 exact h (x,i) (by rw [List.mem_zipIdx_iff_getElem?];simpa using hx)
theorem V5 {l:Fr}{rl:List (List Nat)}(h:wS n ol m fl l dss rl=true):DrawOk n ol m fl l dss rl:=by
 simp only [wS,dW,decide_eq_true_eq,beq_iff_eq] at h
 obtain⟨⟨⟨h1,h2⟩,E⟩,M⟩:=h
 have key:=fun (i:Nat) (o:bB) (q:ol[i]?=some o)=>mV M i o q
 simp only [dW] at key
 refine⟨h1,h2,fun i hi=>by rw [eK] at E;simpa using E i hi,fun i o q=>(key i o q).1.1.1,fun i o q e he hb=>?_,fun i o q hi=>?_,fun i o q j hj=>?_,fun i o q hi j hj=>?_,fun i o q hi j o' ho' r H=>?_,fun i o q hi j hj=>?_⟩
 ·have:=(key i o q).1.1.2
  rw [eK] at this
  have:=this e (by simpa using he)
  simpa [hb] using this
 ·have:=(key i o q).2
  rw [if_pos hi] at this
  simp only [dW] at this
  obtain⟨⟨f,_⟩,_⟩:=this
  cases hd:o.dst with
  | none=>rw [hd] at f;cases f
  | some d=>
   rw [hd] at f
   simp only [dW,decide_eq_true_eq] at f
   obtain⟨⟨D,I⟩,U⟩:=f
   refine⟨d,rfl,D,fun p L=>?_,fun j o' ho' r _ e=>?_⟩
   ·rw [eK] at I
    simpa using I p L
   ·have:=mV U j o' ho'
    simp only [kM,beq_iff_eq,decide_eq_true_eq,bne_iff_ne] at this
    rcases this with (h | h) | h
    ·exact r h
    ·omega
    ·exact h e
 ·have f:=(key i o q).1.2
  rw [eK] at f
  have:=f j hj
  rw [uA] at this
  obtain⟨e,he,D⟩:=this
  simp only [dW,kM,beq_iff_eq,jO] at D
  exact⟨e,by simpa using he,D.1,D.2⟩
 ·have:=(key i o q).2
  rw [if_pos hi] at this
  simp only [dW] at this
  have f:=this.1.2
  rw [eK] at f
  simpa using f j hj
 ·have F:i<m:=by rw [eK] at E;simpa using E i hi
  have:=(key i o q).2
  rw [if_pos F] at this
  simp only [dW,kM,Bool.not_eq_true'] at this
  rcases this.2 with f | f
  ·simp [hi] at f
  ·have:=mV f j o' ho'
   simp only [kM,beq_iff_eq,jO] at this
   rcases this with ((h | h) | h) | h
   ·exact absurd h r
   ·exact absurd h H
   ·exact cD h
   ·exact bT h
 ·have:=(key i o q).2
  rw [if_neg (by omega),eK] at this
  have:=this j (by simpa using hj)
  simpa using this
section
variable {P:bV}{Q:dH→Act→a0→Prop}{n:Nat}{ol:List bB}{m:Nat}{fl al:List Nat}{Rs:List (aD→a0→Prop)}{l:Fr}{w0:a0}{dss rl:List (List Nat)}
def tR (ol:List bB)(Rs:List (aD→a0→Prop))(w0:a0)(i:Nat)(a:Act)(w:a0):Prop:=∃w1,Ext w0 w1∧Ext w1 w∧iU Rs i (jH a (dL ol i)) w1
theorem Deps.weak {w1:a0}{k k':Fr→Prop}(hi:∀acc,k acc→k' acc):∀(ds:List Nat) (acc:Fr),Deps ol Rs w0 w1 k ds acc→Deps ol Rs w0 w1 k' ds acc
 | [],acc,h=>hi acc h
 | _::ds,_,h=>fun v wj h1 h2 h3=>Deps.weak hi ds _ (h v wj h1 h2 h3)
theorem Rp.cons {acc:Fr}(h:Rp n acc a)(hv:a.tmps.getD d undef=v):Rp n ((d,v)::acc) a:=
 ⟨h.size,h.nod,fun i u hi=>by
  simp only [look] at hi
  cases hb:nE d i with
  | true=>
   rw [hb] at hi
   have e:=pT hb
   subst e
   cases hi
   exact hv
  | false=>rw [hb] at hi;exact h.val i u hi⟩
theorem Deps.apply {w1:a0}{k:Fr→Prop}{a:Act}:∀(ds:List Nat) (acc:Fr),(∀j∈ds,tR ol Rs w0 j a w1)→Deps ol Rs w0 w1 k ds acc→Rp n acc a→∃acc',Rp n acc' a∧k acc'
 | [],acc,_,h,hr=>⟨acc,hr,h⟩
 | j::ds,acc,hf,h,hr=>by
  obtain⟨wj,e1,e2,hR⟩:=hf j (by simp)
  refine Deps.apply ds _ (fun i hi=>hf i (by simp [hi])) (h _ wj hR e1 e2) ?_
  cases hd:dL ol j with
  | none=>exact hr
  | some d=>exact hr.cons rfl
theorem zW:∀{dss:List (List Nat)}{k:Nat},m9 P n ol fl al Rs l w0 dss k→∀(i:Nat) (o:bB),ol[k+i]?=some o→i<dss.length→
  (if fl.contains (k+i) then xO P ol Rs l w0 (k+i) o ((dss[i]?).getD []) else tQ P n ol al Rs l w0 (k+i) o ((dss[i]?).getD []))
 | [],_,_,i,_,_,hi=>by simp at hi
 | ds::dss,k,h,0,o,ho,_=>by
  have:=h.1
  rw [show ol[k]?=some o from ho] at this
  simpa using this
 | ds::dss,k,h,i+1,o,ho,hi=>by
  have e:k+(i+1)=k+1+i:=by omega
  have:=zW h.2 i o (by rw [←e];exact ho) (by simpa using hi)
  rw [e]
  simpa using this
theorem yH {K K2:Act→a0→Prop}{Q1 Q2:dH→Act→a0→Prop}(h:o.wp P a w K Q1)(hp:∀c a w,¬Q1 (.panic c) a w)(hl:¬LetsOut Q1)(hd:∀a w,K a w→a.defers= [])(hk:∀v w',K (a.put o.dst v) w'→K2 (a.put o.dst v) w'):o.wp P a w K2 Q2:=by
 unfold kZ at*
 generalize (execOp a.eval o).run P w=r at*
 cases r with
 | ok x w'=>
  cases x <;> simp only [kL] at h⊢ <;> first | exact h.elim | skip
  case value v=>exact hk _ _ h
  case skip=>exact hk _ _ h
  case defer d=>
   have:=hd _ _ h
   exfalso
   revert this
   cases o.dst <;> simp [mJ]
  case enter f args=>
   refine h.mono fun e w'' he=>?_
   cases e with
   | returned v=>exact hk _ _ he
   | panicked c=>exact (hp _ _ _ he).elim
   | outgrown=>exact (hl he).elim
  case row row args=>exact h.mono fun v w'' he=>hk _ _ he
 | _ x w'=>
  cases x <;> simp only [kL] at h⊢ <;> first | exact h.elim | exact (hp _ _ _ h).elim
theorem m6 (ol:List bB)(i:Nat):ol.toArray[i]?=ol[i]?:=by simp
theorem iX:j∈oF .any ol.toArray listed↔
  listed.getD j true=false∧∃o,ol[j]?=some o∧∀e∈o.after,gU .any e=true→listed.getD e.on false=true:=by
 rw [mem_ready,m6]
theorem j0 (h:j<listed.size:=by omega):listed.getD j true=listed.getD j false:=by simp [h]
theorem QM (h:DrawOk n ol m fl l dss rl)(j:Nat)(o:bB)(cs:Array SelectCase)(b:Bool)(ho:ol.toArray[j]?=some o):o.op≠ .select cs b:=by
 intro e
 have:=h.sel j o (by rw [←m6];exact ho)
 rw [e] at this
 cases this
def oO (N:Nat)(listed:Array Bool):Nat:=(fI N).countP fun i=> !listed.getD i false
theorem JA {p q:Nat→Bool}{i:Nat}:∀{L:List Nat},i∈L→(∀j,q j=true→p j=true)→p i=true→q i=false→L.countP q<L.countP p
 | [],h,_,_,_=>by cases h
 | j::L,h,hpq,hp,hq=>by
  have hle:L.countP q≤L.countP p:=List.countP_mono_left fun j _=>hpq j
  by_cases e:i=j
  ·subst e
   rw [y7,y7,hp,hq]
   simp;omega
  ·have hi:i∈L:=by
    rcases mE.1 h with h | h
    ·exact absurd h e
    ·exact h
   have:=JA hi hpq hp hq
   rw [y7,y7]
   cases hqj:q j with
   | true=>rw [hpq j hqj];simp;omega
   | false=>simp only [Bool.false_eq_true,if_false];omega
theorem j9 (hi:i<N)(hs:listed.size=N)(h:listed.getD i false=false):oO N (listed.setIfInBounds i true)<oO N listed:=by
 refine JA (i:=i) (gF.2 hi) (fun j hj=>?_) (by simp only [h];rfl) ?_
 ·by_cases e:i=j
  ·subst e;simp [hs,hi] at hj
  ·rw [getD_set_ne false e] at hj;exact hj
 ·simp [hs,hi]
def Closed (ol:List bB)(listed:Array Bool):Prop:=∀(i:Nat) (o:bB),ol[i]?=some o→listed.getD i false=true→∀e∈o.after,gU .any e=true→listed.getD e.on false=true
theorem Closed.set (h:Closed ol listed)(ho:ol[i]?=some o)(hall:∀e∈o.after,gU .any e=true→listed.getD e.on false=true):Closed ol (listed.setIfInBounds i true):=by
 intro k ok f hl e he hb
 refine getD_set_true ?_
 by_cases p:i=k
 ·subst p
  rw [ho] at f
  cases f
  exact hall e he hb
 ·rw [getD_set_ne false p] at hl
  exact h k ok f hl e he hb
theorem Closed.reach (h:Closed ol listed)(hk:DrawOk n ol m fl l dss rl):∀(i:Nat) (o:bB),ol[i]?=some o→(∀e∈o.after,gU .any e=true→listed.getD e.on false=true)→∀j∈bQ rl i,listed.getD j false=true:=by
 intro i
 induction i using pQ with
 | ind i ih=>
  intro o q f j hj
  obtain⟨e,he,hb,h1⟩:=hk.reach i o q j hj
  have p:=hk.back i o q e he hb
  rcases h1 with h1 | h1
  ·rw [←h1];exact f e he hb
  ·have r:e.on<ol.length:=Nat.lt_trans p (fS.1 q).1
   exact ih e.on p _ (bR r) (h e.on _ (bR r) (f e he hb)) j h1
theorem DP (hk:DrawOk n ol m fl l dss rl):∀(fuel k:Nat) (listed:Array Bool) (a:Act) (w:a0),m≤k→k≤ol.length→oO ol.length listed≤fuel→listed.size=ol.length→Closed ol listed→(∀i,i<ol.length→listed.getD i false=decide (i<k))→
  wpList P ol.toArray Q (ol.drop k) a w→wpAny P .any ol.toArray Q fuel listed a w:=by
 intro fuel
 induction fuel with
 | zero=>
  intro k listed a w U I hf hs _ hl h
  have e:k=ol.length:=by
   rcases gP k ol.length with h1 | h1
   ·have h2:listed.getD k false=false:=by rw [hl k h1];simp
    have:=j9 h1 hs h2;omega
   ·omega
  subst e
  rw [List.drop_length] at h
  refine wpAny_done ?_ h 0
  refine u4.2 fun j hj=>?_
  obtain⟨h1,o,q,_⟩:=iX.1 hj
  have f:j<ol.length:=(fS.1 q).1
  rw [j0,hl j f] at h1
  simp [f] at h1
 | succ fuel ih=>
  intro k listed a w U I hf hs F hl h
  rcases gP k ol.length with p | _
  ·obtain⟨o,q⟩:∃o,ol[k]?=some o:=⟨_,bR p⟩
   have D:k∈oF .any ol.toArray listed:=by
    refine iX.2 ⟨?_,o,q,fun e he hb=>?_⟩
    ·rw [j0,hl k p];simp
    ·have:=hk.back k o q e he hb
     rw [hl e.on (by omega)];simpa using this
   refine⟨fun h0=>(by rw [h0] at D;cases D),fun i hi=>?_⟩
   obtain⟨h1,o',ho',E⟩:=iX.1 hi
   have r:i<ol.length:=(fS.1 ho').1
   rw [j0,hl i r] at h1
   have V:k≤i:=by simpa using h1
   have L:i=k:=by
    rcases gP k i with h2 | h2
    ·rcases hk.tail i o' ho' (by omega) k h2 with M | M
     ·have:=hk.flt k M;omega
     ·have:=F.reach hk i o' ho' E k M
      rw [hl k p] at this
      simp at this
    ·omega
   subst L
   have X:ol.drop i=o::ol.drop (i+1):=by
    rw [mH p]
    congr 1
    rw [bR p] at q
    exact iG q
   rw [X] at h
   have W:wpOp P ol.toArray Q i (wpList P ol.toArray Q (ol.drop (i+1))) a w:=by
    unfold wpOp
    rw [m6,q]
    unfold wpList at h
    exact h
   refine wpOp_mono (fun a' w' h'=>?_) W
   refine ih (i+1) _ a' w' (by omega) (by omega) (by have:=j9 r hs (by rw [hl i r];simp);omega) (by simpa using hs) (F.set q (by rw [q] at ho';cases ho';exact E)) (fun j hj=>?_) h'
   by_cases H:i=j
   ·subst H
    simp [hs,r]
   ·rw [getD_set_ne false H,hl j hj]
    congr 1
    simp only [eq_iff_iff]
    omega
  ·have e:k=ol.length:=by omega
   subst e
   rw [List.drop_length] at h
   refine wpAny_done ?_ h _
   refine u4.2 fun j hj=>?_
   obtain⟨h1,o,q,_⟩:=iX.1 hj
   have f:j<ol.length:=(fS.1 q).1
   rw [j0,hl j f] at h1
   simp [f] at h1
theorem Rp.put_far (h:Rp n l a)(hd:∀p∈l,p.1≠d)(v:aD):Rp n l (a.put (some d) v):=by
 refine⟨by simp [mJ,h.size],by simp [mJ,h.nod],fun i u hi=>?_⟩
 have o:d≠i:=fun e=>by
  have key:∀(l:Fr),look l i=some u→∃p∈l,p.1=i:=by
   intro l
   induction l with
   | nil=>intro h;cases h
   | cons p r ih=>
    intro h
    obtain⟨j,x⟩:=p
    simp only [look] at h
    cases hb:nE j i with
    | true=>exact⟨(j,x),by simp,pT hb⟩
    | false=>
     rw [hb] at h
     obtain⟨p,f,he⟩:=ih h
     exact⟨p,by simp [f],he⟩
  obtain⟨p,f,he⟩:=key l hi
  exact hd p f (he.trans e.symm)
 have:=h.val i u hi
 simp only [mJ,nG] at this⊢
 rwa [CO o]
theorem qD (hs:a.tmps.size=n)(hd:d<n)(v:aD):jH (a.put (some d) v) (some d)=v:=by
 simp [jH,mJ,hs,hd]
theorem sI {e:Option Tmp}(h:e≠some d)(v:aD):jH (a.put (some d) v) e=jH a e:=by
 cases e with
 | none=>rfl
 | some e=>
  have f:d≠e:=fun he=>h (by rw [he])
  simp only [jH,mJ,nG]
  rw [CO f]
theorem DW (hk:DrawOk n ol m fl l dss rl)(ho:ol[i]?=some o)(him:i<m)(hm:∀i,m≤i→i<ol.length→listed.getD i false=false)(hr:Rp n l a)(hfact:∀i,i<ol.length→listed.getD i false=true→tR ol Rs w0 i a w)(hx:Ext w0 w)(e:Ext w w')(hR:iU Rs i v w'):Rp n l (a.put o.dst v)∧∀j,j<ol.length→(listed.setIfInBounds i true).getD j false=true→tR ol Rs w0 j (a.put o.dst v) w':=by
 obtain⟨d,I,H,r,f⟩:=hk.dst i o ho him
 rw [I]
 refine⟨hr.put_far r v,fun j hj p=>?_⟩
 by_cases q:i=j
 ·subst q
  refine⟨w',hx.trans e,Ext.refl _,?_⟩
  have F:dL ol i=some d:=by unfold dL;rw [ho];exact I
  rw [F,qD hr.size H]
  exact hR
 ·rw [getD_set_ne false q] at p
  have E:j<m:=by
   rcases gP j m with h | h
   ·exact h
   ·rw [hm j h hj] at p;cases p
  obtain⟨M,F,L,h1⟩:=hfact j hj p
  refine⟨M,F,L.t e,?_⟩
  rw [sI]
  ·exact h1
  ·obtain⟨oj,D⟩:∃oj,ol[j]?=some oj:=⟨_,bR hj⟩
   unfold dL
   rw [D]
   exact f j oj D (mB q) E
theorem qG (hk:DrawOk n ol m fl l dss rl)(hoi:ol[i]?=some o)(him:i<m)(v:aD)(hne:i≠j)(hjm:j<m):jH (a.put o.dst v) (dL ol j)=jH a (dL ol j):=by
 obtain⟨d,h,_,_,f⟩:=hk.dst i o hoi him
 rw [h]
 refine sI ?_ v
 unfold dL
 obtain⟨oj,e⟩:∃oj,ol[j]?=some oj:=⟨_,bR (by have:=hk.mle;omega)⟩
 rw [e]
 exact f j oj e (mB hne) hjm
theorem J5 {acc:Fr}(_hal:∀i∈al,i<m∧i ∉ fl)(hacc:Rp n acc a)(hdi:∀i∈al,∀j∈al,i≠j→listed.getD i false=true→listed.getD j false=true→∀g,iZ (jH a (dL ol i)) g→iZ (jH a (dL ol j)) g→False)(hl:∀i∈al,listed.getD i false=true):xP ol al acc:=by
 intro i hi j hj e di dj hdi' hdj' u v h1 h2
 have f:=hdi i hi j hj e (hl i hi) (hl j hj)
 rw [hdi',hdj'] at f
 rw [←hacc.val di u h1,←hacc.val dj v h2]
 exact f
theorem SE (hk : DrawOk n ol m fl l dss rl)(hal : ∀ i ∈ al, i < m ∧ i ∉ fl)(hold : xL Rs al)(ho : m9 P n ol fl al Rs l w0 dss 0)(hfin : ∀ w1, Ext w0 w1 → Deps ol Rs w0 w1 (fun acc => xP ol al acc → wl P ol.toArray (NP Q) n (ol.drop m) acc w1) (fI m) l):∀ (fuel : Nat) (listed : Array Bool) (a : Act) (w : a0), oO ol.length listed ≤ fuel → listed.size = ol.length → Closed ol listed → (∀ i, m ≤ i → i < ol.length → listed.getD i false = false) → Rp n l a → Ext w0 w →
      (∀ i, i < ol.length → listed.getD i false = true → tR ol Rs w0 i a w) → (∀ i ∈ al, ∀ j ∈ al, i ≠ j → listed.getD i false = true → listed.getD j false = true → ∀ g, iZ (jH a (dL ol i)) g → iZ (jH a (dL ol j)) g → False) → wpAny P .any ol.toArray (NP Q) fuel listed a w := by
  intro fuel
  induction fuel with
  | zero =>
    intro listed a w hf hs I Z hr hx D V
    have p : ∀ i, i < ol.length → listed.getD i false = true := by
      intro i hi
      cases h : listed.getD i false with
      | true => rfl
      | false => have := j9 hi hs h; omega
    have ba : m = ol.length := by
      rcases gP m ol.length with h | h
      · have h1 := Z m (aX _) h
        rw [p m h] at h1; cases h1
      · have := hk.mle; omega
    obtain ⟨acc, r, X⟩ := Deps.apply (n := n) (fI m) l (fun j hj => D j (by have := gF.1 hj; omega) (p j (by have := gF.1 hj; omega))) (hfin w hx) hr
    exact DP hk 0 m listed a w (aX _) (by omega) hf hs I (fun i hi => by rw [p i hi]; simp; omega) (X (J5 hal r V (fun i hi => p i (by have := (hal i hi).1; omega))) a r)
  | succ fuel ih =>
    intro listed a w hf hs I Z hr hx D V
    by_cases E : ∀ i, i < m → listed.getD i false = true
    · obtain ⟨acc, r, X⟩ := Deps.apply (n := n) (fI m) l (fun j hj => D j (by have := gF.1 hj; have := hk.mle; omega) (E j (gF.1 hj))) (hfin w hx) hr
      exact DP hk (fuel + 1) m listed a w (aX _) hk.mle hf hs I (fun i hi => by
        rcases gP i m with h | h
        · rw [E i h]; simpa using h
        · rw [Z i h hi]; simp; omega) (X (J5 hal r V (fun i hi => E i (hal i hi).1)) a r)
    · -- the least that is not listed
      obtain ⟨j, _, aq, aa⟩ : ∃ j, j < m ∧ listed.getD j false = false ∧ ∀ i, i < j → listed.getD i false = true := by
        have key : ∀ k, (∃ j, j < m ∧ j < k ∧ listed.getD j false = false) → ∃ j, j < m ∧ listed.getD j false = false ∧ ∀ i, i < j → listed.getD i false = true := by
          intro k
          induction k with
          | zero => rintro ⟨j, _, h, _⟩; omega
          | succ k ihk =>
            rintro ⟨j, h1, h2, h3⟩
            by_cases hs' : ∃ j, j < m ∧ j < k ∧ listed.getD j false = false
            · exact ihk hs'
            · refine ⟨j, h1, h3, fun i hi => ?_⟩
              cases hb : listed.getD i false with
              | true => rfl
              | false => exact absurd ⟨i, by omega, by omega, hb⟩ hs'
        refine key m (Classical.byContradiction fun aj => E fun i hi => ?_)
        cases hb : listed.getD i false with
        | true => rfl
        | false => exact absurd ⟨i, hi, hi, hb⟩ aj
      have ba := hk.mle
      obtain ⟨oj, ao⟩ : ∃ oj, ol[j]? = some oj := ⟨_, bR (by omega)⟩
      have ak : j ∈ oF .any ol.toArray listed := iX.2 ⟨by rw [j0]; exact aq, oj, ao, fun e he hb => aa _ (hk.back j oj ao e he hb)⟩
      have facts_of : ∀ (i : Nat) (o : bB), ol[i]? = some o → i < m → i ∈ oF .any ol.toArray listed → ∀ k ∈ (dss[i]?).getD [], tR ol Rs w0 k a w := by
        intro i o f q H k bu
        have h1 := hk.deps i o f q k bu
        obtain ⟨_, o', ho', p⟩ := iX.1 H
        rw [f] at ho'
        cases ho'
        have h2 := I.reach hk i o f p k h1
        have h3 : k < listed.size := by
          rcases gP k listed.size with h' | h'
          · exact h'
          · simp [Array.getElem?_eq_none h'] at h2
        exact D k (by omega) h2
      by_cases ah : ∃ i ∈ fl, i ∈ oF .any ol.toArray listed
      · obtain ⟨i, L, H⟩ := ah
        have q := hk.flt i L
        obtain ⟨ag, o, f, p⟩ := iX.1 H
        have aF := zW (k := 0) ho i o (by simpa using f) (by rw [hk.dlen]; exact q)
        rw [eQ, if_pos (by simpa using L)] at aF
        obtain ⟨acc, r, v, bh, bv, ar, hR⟩ := Deps.apply (n := n) _ l (facts_of i o f q H) (aF w hx) hr
        have hy : Yields P ol.toArray o v a := cD ⟨by obtain ⟨d, op, ty, pos, af, gd⟩ := o; exact yM bv r, fun w => by
          obtain ⟨d, op, ty, pos, af, gd⟩ := o
          rw [rJ bh r]; exact ar w⟩
        have hun' : listed.getD i false = false := by rw [← j0]; exact ag
        obtain ⟨h1, h2⟩ := DW hk f q Z hr D hx (Ext.refl w) hR
        refine wpAny_first (by rw [m6]; exact f) (QM hk) (fun c a w h => h.elim) fuel listed a w (fun k ok au bi ab aj => ?_) H hy ?_
        · have bt : k ∉ bQ rl i := fun Z => by
            have h1 := I.reach hk i o f p k Z
            have h2 : k < ol.length := (fS.1 (show ol[k]? = some ok by rw [← m6]; exact au)).1
            rw [j0, h1] at ab; cases ab
          rcases hk.free i o f L k ok (by rw [← m6]; exact au) bi bt with h | h
          · obtain ⟨e, he, hb, bo⟩ := SF h
            exact absurd bo (aj e he hb)
          · exact h
        · refine ih _ _ w (by have := j9 (by omega) hs hun'; omega) (by simpa using hs) (I.set f p) (fun k ai hk' => ?_) h1 hx h2 (fun i' hi' j' hj' U M F => ?_)
          · rw [getD_set_ne false (by omega)]; exact Z k ai hk'
          · have Y : i ≠ i' := fun e => (hal i' hi').2 (e ▸ L)
            have e2 : i ≠ j' := fun e => (hal j' hj').2 (e ▸ L)
            rw [getD_set_ne false Y] at M
            rw [getD_set_ne false e2] at F
            rw [qG hk f q v Y (hal i' hi').1, qG hk f q v e2 (hal j' hj').1]
            exact V i' hi' j' hj' U M F
      · have bd : j ∉ fl := fun h => ah ⟨j, h, ak⟩
        refine ⟨fun h0 => (by rw [h0] at ak; cases ak), fun i H => ?_⟩
        obtain ⟨ag, o, f, p⟩ := iX.1 H
        have bj : i < ol.length := (fS.1 f).1
        have q : i < m := by
          rcases gP i m with h | h
          · exact h
          · rcases hk.tail i o f h j (by omega) with h1 | h1
            · exact absurd h1 bd
            · have := I.reach hk i o f p j h1
              rw [aq] at this; cases this
        have L : i ∉ fl := fun h => ah ⟨i, h, H⟩
        have hun' : listed.getD i false = false := by rw [← j0]; exact ag
        have aF := zW (k := 0) ho i o (by simpa using f) (by rw [hk.dlen]; exact q)
        rw [eQ, if_neg (by simpa using L)] at aF
        obtain ⟨acc, r, X⟩ := Deps.apply (n := n) _ l (facts_of i o f q H) (aF w hx) hr
        have hl := X a r
        have next : ∀ v w', m8 w o.dst (fun v w' => iU Rs i v w' ∧ (al.contains i = true → pN w v)) .normal (a.put o.dst v) w' → wpAny P .any ol.toArray (NP Q) fuel (listed.setIfInBounds i true) (a.put o.dst v) w' := by
          intro v w' bm
          obtain ⟨e, hR, _⟩ := bm
          have hv : iU Rs i v w' ∧ (al.contains i = true → pN w v) := by
            obtain ⟨d, hd, ae, _⟩ := hk.dst i o f q
            rw [hd, qD hr.size ae] at hR
            exact hR
          obtain ⟨h1, h2⟩ := DW hk f q Z hr D hx e hv.1
          have W : jH (a.put o.dst v) (dL ol i) = v := by
            obtain ⟨d, hd, ae, _⟩ := hk.dst i o f q
            have Y : dL ol i = some d := by unfold dL; rw [f]; exact hd
            rw [Y, hd, qD hr.size ae]
          have fresh : ∀ j ∈ al, j ≠ i → listed.getD j false = true → al.contains i = true → ∀ g, iZ (jH a (dL ol j)) g → iZ v g → False := by
            intro j hj _ F az g hg hg'
            obtain ⟨wj, _, f2, bf⟩ := D j (by have := (hal j hj).1; omega) F
            have ch := FR hold j hj _ _ bf g hg
            have ce := hv.2 az g hg'
            have := f2.size
            omega
          refine ih _ _ w' (by have := j9 bj hs hun'; omega) (by simpa using hs) (I.set f p) (fun k ai hk' => ?_) h1 (hx.trans e) h2 (fun i' hi' j' hj' U M F => ?_)
          · rw [getD_set_ne false (by omega)]; exact Z k ai hk'
          · by_cases Y : i = i'
            · subst Y
              rw [getD_set_ne false U] at F
              rw [W, qG hk f q v U (hal j' hj').1]
              exact fun g h h' => fresh j' hj' (mB U) F (by simpa using hi') g h' h
            · rw [getD_set_ne false Y] at M
              by_cases e2 : i = j'
              · subst e2
                rw [W, qG hk f q v Y (hal i' hi').1]
                exact fresh i' hi' (mB Y) M (by simpa using hj')
              · rw [getD_set_ne false e2] at F
                rw [qG hk f q v Y (hal i' hi').1, qG hk f q v e2 (hal j' hj').1]
                exact V i' hi' j' hj' U M F
        have nolets : ¬ LetsOut (m8 w o.dst (fun v w' => iU Rs i v w' ∧ (al.contains i = true → pN w v))) := fun ⟨_, _, h⟩ => h
        unfold wpOp
        rw [m6, f]
        unfold wpList at hl
        simp only at hl ⊢
        split at hl
        · rename_i hw
          rw [if_pos hw]
          rcases hl with hl | hl
          · exact cD (yH hl (fun _ _ _ h => h) nolets (fun a w h => h.2.2) (fun v w' h => next v w' h))
          · exact absurd hl.2 nolets
        · rename_i hw
          rw [if_neg hw]
          exact next _ _ hl
theorem BQ (hmix:P.follows .mixedOrders=true)(m:Nat)(fl al:List Nat)(Rs:List (aD→a0→Prop))(dss:List (List Nat))(rl:List (List Nat))(hk:wS n ol m fl l dss rl=true)(hal:al.all (fun i=>decide (i<m)&& !fl.contains i)=true)(hold:xL Rs al)(ho:m9 P n ol fl al Rs l w dss 0)(hfin:∀w1,Ext w w1→Deps ol Rs w w1 (fun acc=>xP ol al acc→wl P ol.toArray (NP Q) n (ol.drop m) acc w1) (fI m) l):cw P Q n (.region id ol.toArray true) l w:=fun a p=>by
 refine CK NP.imp (wp_region_any hmix ?_)
 have f:(oL ol.toArray.size false).size=ol.length:=by simp
 have e:∀i,(oL ol.toArray.size false).getD i false=false:=by
  intro i
  simp only [nG,yB]
  split <;> rfl
 have hal':∀i∈al,i<m∧i ∉ fl:=by
  intro i hi
  rw [eK] at hal
  simpa using hal i hi
 refine SE (V5 hk) hal' hold ho hfin ol.toArray.size _ a _ ?_ f (fun i o ho h=>by rw [e i] at h;cases h) (fun i _ hi=>e i) p (Ext.refl w).drew (fun i hi h=>by rw [e i] at h;cases h) (fun i _ j _ _ h=>by rw [e i] at h;cases h)
 refine aE xZ ?_
 simp
theorem eI (hmix:P.follows .mixedOrders=true)(m:Nat)(fl:List Nat)(Rs:List (aD→a0→Prop))(dss:List (List Nat))(rl:List (List Nat))(hk:wS n ol m fl l dss rl=true)(ho:m9 P n ol fl [] Rs l w dss 0)(hfin:∀w1,Ext w w1→Deps ol Rs w w1 (fun acc=>wl P ol.toArray (NP Q) n (ol.drop m) acc w1) (fI m) l):cw P Q n (.region id ol.toArray true) l w:=
 BQ hmix m fl [] Rs dss rl hk G up ho (fun w1 h=>Deps.weak (k:=fun acc=>wl P ol.toArray (NP Q) n (ol.drop m) acc w1) (k':=fun acc=>xP ol [] acc→wl P ol.toArray (NP Q) n (ol.drop m) acc w1) (fun _ h1 _=>h1) _ _ (hfin w1 h))
theorem dY:m9 P n ol fl al Rs l w [] k:=trivial
theorem aJ (ho:ol[k]?=some o)(hf:fl.contains k=false)(h:tQ P n ol al Rs l w k o ds)(h':m9 P n ol fl al Rs l w dss (k+1)):m9 P n ol fl al Rs l w (ds::dss) k:=
 ⟨by rw [ho];simp only;rw [hf];exact h,h'⟩
theorem QL (ho:ol[k]?=some o)(hf:fl.contains k=true)(h:xO P ol Rs l w k o ds)(h':m9 P n ol fl al Rs l w dss (k+1)):m9 P n ol fl al Rs l w (ds::dss) k:=
 ⟨by rw [ho];simp only;rw [hf];exact h,h'⟩
theorem aF {R:aD→a0→Prop}(hR:Rs[k]?=some R)(hn:al.contains k=false)(h:∀w1,Ext w w1→Deps ol Rs w w1 (fun acc=>wl P ol.toArray (m8 w1 o.dst R) n [o] acc w1) ds l):tQ P n ol al Rs l w k o ds:=by
 have e:iU Rs k=R:=by unfold iU;rw [hR];rfl
 intro w1 r
 rw [e]
 refine Deps.weak (fun acc h1 a D=>?_) _ _ (h w1 r)
 have h2:=h1 a D
 unfold wpList at h2⊢
 have imp:∀a' w',m8 w1 o.dst R .normal a' w'→m8 w1 o.dst (fun v w=>R v w∧(al.contains k=true→pN w1 v)) .normal a' w':=fun a' w' p=>⟨p.1,⟨p.2.1,fun q=>by rw [hn] at q;cases q⟩,p.2.2⟩
 split at h2
 ·rename_i f
  rw [if_pos f]
  rcases h2 with h2 | h2
  ·exact cD (yH h2 (fun _ _ _ h=>h) (fun⟨_,_,h⟩=>h) (fun a w h=>h.2.2) (fun v w' h=>imp _ _ h))
  ·exact absurd h2.2 (fun⟨_,_,h⟩=>h)
 ·rename_i f
  rw [if_neg f]
  exact imp _ _ h2
theorem wA {N:a0→aD→Prop}(hN:∀w v,N w v→pN w v){R:aD→a0→Prop}(hR:Rs[k]?=some R)(h:∀w1,Ext w w1→Deps ol Rs w w1 (fun acc=>wl P ol.toArray (m8 w1 o.dst (fun v w=>R v w∧N w1 v)) n [o] acc w1) ds l):tQ P n ol al Rs l w k o ds:=by
 have e:iU Rs k=R:=by unfold iU;rw [hR];rfl
 intro w1 q
 rw [e]
 refine Deps.weak (fun acc h1 a r=>?_) _ _ (h w1 q)
 have h2:=h1 a r
 unfold wpList at h2⊢
 have imp:∀a' w',m8 w1 o.dst (fun v w=>R v w∧N w1 v) .normal a' w'→m8 w1 o.dst (fun v w=>R v w∧(al.contains k=true→pN w1 v)) .normal a' w':=fun a' w' p=>⟨p.1,⟨p.2.1.1,fun _=>hN _ _ p.2.1.2⟩,p.2.2⟩
 split at h2
 ·rename_i f
  rw [if_pos f]
  rcases h2 with h2 | h2
  ·exact cD (yH h2 (fun _ _ _ h=>h) (fun⟨_,_,h⟩=>h) (fun a w h=>h.2.2) (fun v w' h=>imp _ _ h))
  ·exact absurd h2.2 (fun⟨_,_,h⟩=>h)
 ·rename_i f
  rw [if_neg f]
  exact imp _ _ h2
theorem US {R:aD→a0→Prop}(hR:Rs[k]?=some R)(h:∀w1,Ext w w1→Deps ol Rs w w1 (fun acc=>∃v,kI acc o.op=true∧d5 ol.toArray acc o.guard=some true∧(∀w,(execOp (rho acc) o).run P w= .ok (.value v) w)∧R v w1) ds l):xO P ol Rs l w k o ds:=by
 have e:iU Rs k=R:=by unfold iU;rw [hR];rfl
 intro w1 f
 rw [e]
 exact h w1 f
end
def gB (P:bV)(n:Nat)(l:Fr)(o:bB)(w:a0)(x:fU)(w':a0):Prop:=∀a,Rp n l a→(execOp a.eval o).run P w= .ok x w'
section
variable {P:bV}{n:Nat}{l:Fr}{w:a0}{d:Nat}{op:Op}{ty:aV}{pos:String}{af:Array Edge}{gd:Option (Nat×Bool)}
theorem iN (hk:kI l op=true)(hr:(execOp (rho l) ⟨dst,op,ty,pos,af,gd⟩).run P w= .ok (.value v) w:=by kernel_rfl):gB P n l ⟨dst,op,ty,pos,af,gd⟩ w (.value v) w:=fun a e=>by rw [rJ hk e];exact hr
theorem cH {x:cG}{t:aV}(hx:bP l x=some (.pointer (some p)))(hl:(loadVar t p).run P w= .ok v w):gB P n l ⟨dst,.load t x,ty,pos,af,gd⟩ w (.value v) w:=fun a f=>by
 have e:(yA t (a.eval x)).run P w= .ok v w:=by rw [f.ev hx];exact hl
 show ((yA t (a.eval x)>>=fun r=>pure (gE r):Sem fU)).run P w=_
 rw [cA,e];rfl
theorem eO {x y:cG}{t:aV}(hx:bP l x=some (.pointer (some p)))(hy:bP l y=some v)(hs:(storeVar t p v).run P w= .ok () w'):gB P n l ⟨dst,.store t x y,ty,pos,af,gd⟩ w .skip w':=fun a f=>by
 have e:(y9 t (a.eval x) (a.eval y)).run P w= .ok () w':=by rw [f.ev hx,f.ev hy];exact hs
 show ((y9 t (a.eval x) (a.eval y)>>=fun _=>pure Next.skip:Sem fU)).run P w=_
 rw [cA,e];rfl
theorem i7 {x:cG}(hx:bP l x=some v):gB P n l ⟨dst,.assign x,ty,pos,af,gd⟩ w (.value v) w:=fun a e=>by simp only [execOp,e.ev hx];rfl
theorem bO {x:cG}(hx:bP l x=some v):gB P n l ⟨dst,.move x,ty,pos,af,gd⟩ w (.value v) w:=fun a e=>by simp only [execOp,e.ev hx];rfl
end
def dfr (ol:List bB)(vs:List aD)(l:Fr):List Nat→Fr
 | []=>l
 | j::ds=>zP (dL ol j) ((vs[j]?).getD undef) (dfr ol vs l ds)
def wv (ws:List a0)(w:a0)(t:Nat):a0:=(ws[t]?).getD w
section
variable (P:bV) (n:Nat) (ol:List bB) (vs:List aD) (ws:List a0) (w:a0) (dss:List (List Nat)) (l:Fr) (st:List Nat)
def tS (i t:Nat):Prop:=
 match ol[i]? with
 | some o=>if st.contains i then gB P n (dfr ol vs l (bQ dss i)) o (wv ws w t) .skip (wv ws w (t+1)) else gB P n (dfr ol vs l (bQ dss i)) o (wv ws w t) (.value ((vs[i]?).getD undef)) (wv ws w t)
 | none=>True
def mZ:List (Nat×Nat)→Prop
 | []=>True
 | (i,t)::r=>tS P n ol vs ws w dss l st i t∧mZ r
def rL (ol:List bB)(vs:List aD)(l:Fr):Fr:=dfr ol vs l (fI ol.length)
end
def gR (st js:List Nat):Nat:=(st.filter fun s=>js.contains s).length
def BL (n : Nat)(ol : List bB)(st : List Nat)(l : Fr)(dss rl : List (List Nat))(ps : List (Nat × Nat)): Bool :=
  (ol.zipIdx.all fun (o, i) => (match o.guard with | none => true | some _ => false) && (o.after.toList.all fun e => !Region.binds .any e || decide (e.on < i)) &&
    ((bQ rl i).all fun j => decide (j < i) && o.after.toList.any fun e => gU .any e && (e.on == j || (bQ rl e.on).contains j)) &&
    ((bQ dss i).all fun j => (bQ rl i).contains j) &&
    (match o.dst with
     | some d => !st.contains i && decide (d < n) && l.all (fun p => p.1 != d) && ol.zipIdx.all (fun (o', j) => j == i || o'.dst != some d)
     | none => st.contains i) &&
    (fI (st.length + 1)).all (fun t => decide (t < gR st (bQ rl i)) || (t != 0 && (bQ rl (st.getD (t - 1) 0)).contains i) || (st.contains i && t != gR st (bQ rl i)) || ps.contains (i, t))) &&
  (fI st.length).all (fun t => decide (st.getD t 0 < ol.length) && (fI t).all fun u => (bQ rl (st.getD t 0)).contains (st.getD u 0))
structure DetOk (n:Nat)(ol:List bB)(st:List Nat)(l:Fr)(dss rl:List (List Nat))(ps:List (Nat×Nat)):Prop where
 guard:∀(i:Nat) (o:bB),ol[i]?=some o→o.guard=none
 back:∀(i:Nat) (o:bB),ol[i]?=some o→∀e∈o.after,gU .any e=true→e.on<i
 reach:∀(i:Nat) (o:bB),ol[i]?=some o→∀j∈bQ rl i,j<i∧∃e∈o.after,gU .any e=true∧(e.on=j∨j∈bQ rl e.on)
 deps:∀(i:Nat) (o:bB),ol[i]?=some o→∀j∈bQ dss i,j∈bQ rl i
 val:∀(i:Nat) (o:bB),ol[i]?=some o→∀d,o.dst=some d→i ∉ st∧d<n∧(∀p∈l,p.1≠d)∧∀(j:Nat) (o':bB),ol[j]?=some o'→j≠i→o'.dst≠some d
 sto:∀(i:Nat) (o:bB),ol[i]?=some o→o.dst=none→i∈st
 pair:∀(i:Nat) (o:bB),ol[i]?=some o→∀t,t≤st.length→gR st (bQ rl i)≤t→(t=0∨i ∉ bQ rl (st.getD (t-1) 0))→(i∈st→t=gR st (bQ rl i))→(i,t)∈ps
 inN:∀t,t<st.length→st.getD t 0<ol.length
 ord:∀t,t<st.length→∀u,u<t→st.getD u 0∈bQ rl (st.getD t 0)
theorem VS {l:Fr}{rl:List (List Nat)}(h:BL n ol st l dss rl ps=true):DetOk n ol st l dss rl ps:=by
 simp only [BL,dW] at h
 obtain⟨h1,h2⟩:=h
 have key:=fun (i:Nat) (o:bB) (f:ol[i]?=some o)=>mV h1 i o f
 simp only [dW] at key
 have q:∀t,t<st.length→st.getD t 0<ol.length∧∀u,u<t→st.getD u 0∈bQ rl (st.getD t 0):=by
  intro t ht
  rw [eK] at h2
  have:=h2 t (gF.2 ht)
  simp only [dW,decide_eq_true_eq,eK,gF,jO] at this
  exact this
 refine⟨fun i o f=>?_,fun i o f e he hb=>?_,fun i o f j hj=>?_,fun i o f j hj=>?_,fun i o f d E=>?_,fun i o f E=>?_,fun i o f t ht _ M hs=>?_,fun t ht=>(q t ht).1,fun t ht=>(q t ht).2⟩
 ·have:=(key i o f).1.1.1.1.1
  cases hg:o.guard with
  | none=>rfl
  | some g=>rw [hg] at this;cases this
 ·have:=(key i o f).1.1.1.1.2
  rw [eK] at this
  have:=this e (by simpa using he)
  simpa [hb] using this
 ·have:=(key i o f).1.1.1.2
  rw [eK] at this
  have:=this j hj
  simp only [dW,decide_eq_true_eq,uA,kM,beq_iff_eq,jO] at this
  obtain⟨r,e,he,hb,F⟩:=this
  exact⟨r,e,by simpa using he,hb,F⟩
 ·have:=(key i o f).1.1.2
  rw [eK] at this
  simpa using this j hj
 ·have:=(key i o f).1.2
  rw [E] at this
  simp only [dW,Bool.not_eq_true',decide_eq_true_eq] at this
  obtain⟨⟨⟨r,F⟩,H⟩,L⟩:=this
  refine⟨fun I=>?_,F,fun p U=>?_,fun j o' ho' D e=>?_⟩
  ·rw [jO.2 I] at r;cases r
  ·rw [eK] at H
   simpa using H p U
  ·have:=mV L j o' ho'
   simp only [kM,beq_iff_eq,bne_iff_ne] at this
   rcases this with h | h
   ·exact D h
   ·exact h e
 ·have:=(key i o f).1.2
  rw [E] at this
  exact jO.1 this
 ·have:=(key i o f).2
  rw [eK] at this
  have:=this t (gF.2 (by omega))
  simp only [kM,dW,decide_eq_true_eq,bne_iff_ne,ne_eq,jO] at this
  rcases this with ((h | h) | h) | h
  ·omega
  ·rcases M with h0 | h0
   ·exact absurd h0 h.1
   ·exact absurd h.2 h0
  ·exact absurd (hs h.1) h.2
  ·exact h
section
variable {P:bV}{Q:dH→Act→a0→Prop}{n:Nat}{ol:List bB}{vs:List aD}{ws:List a0}{w:a0}{dss rl:List (List Nat)}{l:Fr}{st:List Nat}{ps:List (Nat×Nat)}
theorem J0:∀{ps:List (Nat×Nat)},mZ P n ol vs ws w dss l st ps→∀i t,(i,t)∈ps→tS P n ol vs ws w dss l st i t
 | [],_,i,t,h=>by cases h
 | (j,u)::r,h,i,t,hm=>by
  rcases mE.1 hm with e | e
  ·cases e;exact h.1
  ·exact J0 h.2 i t e
theorem Rp.dfr {a:Act}(hr:Rp n l a):∀(ds:List Nat),(∀j∈ds,∀d,dL ol j=some d→a.tmps.getD d undef=(vs[j]?).getD undef)→Rp n (Go.Proofs.YtkepckmdjncehaaGreatDoor.dfr ol vs l ds) a
 | [],_=>hr
 | j::ds,h=>by
  have ih:=Rp.dfr hr ds (fun i hi=>h i (by simp [hi]))
  simp only [Go.Proofs.YtkepckmdjncehaaGreatDoor.dfr]
  cases hd:dL ol j with
  | none=>exact ih
  | some d=>exact ih.cons (h j (by simp) d hd)
theorem JJ (hk:DetOk n ol st l dss rl ps)(h:Closed ol listed):∀(i:Nat) (o:bB),ol[i]?=some o→(∀e∈o.after,gU .any e=true→listed.getD e.on false=true)→∀j∈bQ rl i,listed.getD j false=true:=by
 intro i
 induction i using pQ with
 | ind i ih=>
  intro o q f j hj
  obtain⟨_,e,he,hb,h1⟩:=hk.reach i o q j hj
  have p:=hk.back i o q e he hb
  rcases h1 with h1 | h1
  ·rw [←h1];exact f e he hb
  ·have r:e.on<ol.length:=Nat.lt_trans p (fS.1 q).1
   exact ih e.on p _ (bR r) (h e.on _ (bR r) (f e he hb)) j h1
theorem BR {t:Nat}(h:∀u,t≤u→u<st.length→st.getD u 0 ∉ js):gR st js≤t:=by
 unfold gR
 have e:st.filter (fun s=>js.contains s)=(st.take t).filter (fun s=>js.contains s)++(st.drop t).filter (fun s=>js.contains s):=by rw [←KH,s0]
 have f:(st.drop t).filter (fun s=>js.contains s)= []:=by
  refine List.filter_eq_nil_iff.2 fun s hs=>?_
  obtain⟨u,o,rfl⟩:=s4 hs
  rw [gS] at o
  have:=h (t+u) (by omega) (by omega)
  rw [List.getElem_drop]
  rw [bE,bR (by omega)] at this
  simpa using this
 rw [e,f,List.append_nil]
 refine aE (List.length_filter_le _ _) ?_
 rw [dE];omega
theorem AY {t:Nat}(h:∀u,u<t→st.getD u 0∈js)(ht:t≤st.length:=by omega):t≤gR st js:=by
 unfold gR
 have e:st.filter (fun s=>js.contains s)=(st.take t).filter (fun s=>js.contains s)++(st.drop t).filter (fun s=>js.contains s):=by rw [←KH,s0]
 have f:(st.take t).filter (fun s=>js.contains s)=st.take t:=by
  refine List.filter_eq_self.2 fun s hs=>?_
  obtain⟨u,o,rfl⟩:=s4 hs
  rw [dE] at o
  have:=h u (by omega)
  rw [List.getElem_take]
  rw [bE,bR (by omega)] at this
  simpa using this
 rw [e,f,List.length_append,dE];omega
theorem VP (hk:DetOk n ol st l dss rl ps)(ho:mZ P n ol vs ws w dss l st ps)(hfin:eo Q .normal n (rL ol vs l) (wv ws w st.length)):∀(fuel:Nat) (listed:Array Bool) (a:Act) (t:Nat),oO ol.length listed≤fuel→listed.size=ol.length→Closed ol listed→t≤st.length→(∀u,u<st.length→listed.getD (st.getD u 0) false=decide (u<t))→Rp n l a→
   (∀i,i<ol.length→listed.getD i false=true→∀d,dL ol i=some d→a.tmps.getD d undef=(vs[i]?).getD undef)→wpAny P .any ol.toArray Q fuel listed a (wv ws w t):=by
 have fin:∀(listed:Array Bool) (a:Act) (t:Nat),(∀i,i<ol.length→listed.getD i false=true)→t≤st.length→(∀u,u<st.length→listed.getD (st.getD u 0) false=decide (u<t))→Rp n l a→
   (∀i,i<ol.length→listed.getD i false=true→∀d,dL ol i=some d→a.tmps.getD d undef=(vs[i]?).getD undef)→Q .normal a (wv ws w t):=by
  intro listed a t p ht q hr V
  have e:t=st.length:=by
   rcases gP t st.length with h | h
   ·have h1:=q t h
    rw [p _ (hk.inN t h)] at h1
    simp at h1
   ·omega
  subst e
  exact hfin a (hr.dfr _ fun j hj d M=>V j (gF.1 hj) (p j (gF.1 hj)) d M)
 intro fuel
 induction fuel with
 | zero=>
  intro listed a t hf hs D ht q hr V
  have p:∀i,i<ol.length→listed.getD i false=true:=by
   intro i hi
   cases h:listed.getD i false with
   | true=>rfl
   | false=>have:=j9 hi hs h;omega
  refine⟨?_,fin listed a t p ht q hr V⟩
  refine u4.2 fun j hj=>?_
  obtain⟨h1,o,U,_⟩:=iX.1 hj
  have bd:j<ol.length:=(fS.1 U).1
  rw [j0,p j bd] at h1
  cases h1
 | succ fuel ih=>
  intro listed a t hf hs D ht q hr V
  refine⟨fun h0=>?_,fun i aw=>?_⟩
  ·refine fin listed a t (fun i hi=>?_) ht q hr V
   have key:∀k,k≤ol.length→∀i,i<k→listed.getD i false=true:=by
    intro k
    induction k with
    | zero=>intro _ i hi;omega
    | succ k ihk=>
     intro hk' i hi
     have ih':=ihk (by omega)
     rcases gP i k with h | h
     ·exact ih' i h
     ·have e:i=k:=by omega
      subst e
      cases hb:listed.getD i false with
      | true=>rfl
      | false=>
       have Y:i∈oF .any ol.toArray listed:=iX.2 ⟨by rw [j0];exact hb,_,bR (by omega),fun e he ao=>ih' _ (hk.back i _ (bR (by omega)) e he ao)⟩
       rw [h0] at Y;cases Y
   exact key ol.length (aX _) i hi
  ·obtain⟨av,o,f,p⟩:=iX.1 aw
   have ae:i<ol.length:=(fS.1 f).1
   have hun':listed.getD i false=false:=by rw [←j0];exact av
   have I:=JJ hk D i o f p
   have ah:gR st (bQ rl i)≤t:=BR fun u _ au L=>by
    have h1:=I _ L
    rw [q u au] at h1
    simp at h1;omega
   have ab:t=0∨i ∉ bQ rl (st.getD (t-1) 0):=by
    rcases kC t with h | h
    ·exact cD h
    ·refine bT fun L=>?_
     have h1:=q (t-1) (by omega)
     rw [decide_eq_true (by omega)] at h1
     have hN:=hk.inN (t-1) (by omega)
     have h2:=JJ hk D _ _ (bR hN) (fun e he hb=>D _ _ (bR hN) h1 e he hb) i L
     rw [hun'] at h2;cases h2
   have r:i∈st→t<st.length∧st.getD t 0=i∧t=gR st (bQ rl i):=by
    intro L
    obtain⟨u,F,bf⟩:=s4 L
    have hg:st.getD u 0=i:=by rw [bE,bR F];exact bf
    have h1:=q u F
    rw [hg,hun'] at h1
    have h2:¬u<t:=by intro h;rw [decide_eq_true h] at h1;cases h1
    have h3:u=t:=by
     rcases gP t u with h | h
     ·have h4:=hk.ord u F t h
      rw [hg] at h4
      have h5:=I _ h4
      rw [q t (by omega)] at h5
      simp at h5
     ·omega
    subst h3
    refine⟨F,hg,?_⟩
    have h4:=AY (st:=st) (js:=bQ rl i) (t:=u) (fun v hv'=>by rw [←hg];exact hk.ord u F v hv')
    omega
   have aF:=J0 ho i t (hk.pair i o f t ht ah ab (fun L=>(r L).2.2))
   unfold tS at aF
   rw [f] at aF
   simp only at aF
   have X:Rp n (dfr ol vs l (bQ dss i)) a:=hr.dfr _ fun j hj d M=>by
    have h1:=I j (hk.deps i o f j hj)
    have h2:=(hk.reach i o f j (hk.deps i o f j hj)).1
    exact V j (by omega) h1 d M
   have Z:oE o (yielded ol.toArray a.tmps)=true:=by simp [oE,hk.guard i o f]
   unfold wpOp
   rw [m6,f]
   simp only
   rw [if_pos Z]
   refine cD ?_
   unfold kZ
   cases M:o.dst with
   | some d=>
    obtain⟨W,aq,ai,aj⟩:=hk.val i o f d M
    rw [if_neg (by simpa using W)] at aF
    rw [aF a X]
    simp only [kL,M]
    refine ih _ _ t (by have:=j9 ae hs hun';omega) (by simpa using hs) (D.set f p) ht (fun u F=>?_) (hr.put_far ai _) (fun j hj H e he=>?_)
    ·rw [getD_set_ne false (fun e=>W (by rw [e,bE,bR F];exact lO F))]
     exact q u F
    ·by_cases E:i=j
     ·subst E
      have e1:dL ol i=some d:=by unfold dL;rw [f];exact M
      rw [e1] at he
      cases he
      exact qD hr.size aq _
     ·rw [getD_set_ne false E] at H
      have aa:e≠d:=by
       intro ar
       subst ar
       obtain⟨oj,U⟩:∃oj,ol[j]?=some oj:=⟨_,bR hj⟩
       refine aj j oj U (mB E) ?_
       unfold dL at he
       rw [U] at he
       exact he
      have:=sI (a:=a) (d:=d) (e:=some e) (fun h=>aa (iG h)) ((vs[i]?).getD undef)
      exact this.trans (V j hj H e he)
   | none=>
    have L:=hk.sto i o f M
    obtain⟨_,ak,_⟩:=r L
    rw [if_pos (by simpa using L)] at aF
    rw [aF a X]
    simp only [kL,M]
    refine ih _ _ (t+1) (by have:=j9 ae hs hun';omega) (by simpa using hs) (D.set f p) (by omega) (fun u F=>?_) hr (fun j hj H e he=>?_)
    ·by_cases ba:u=t
     ·subst ba
      rw [ak]
      simp [hs,ae]
     ·have aa:i≠st.getD u 0:=by
       intro e
       rcases gP u t with h | h
       ·have h1:=q u F
        rw [←e,hun',decide_eq_true h] at h1;cases h1
       ·have h4:=hk.ord u F t (by omega)
        rw [ak,←e] at h4
        have:=(hk.reach i o f i h4).1
        omega
      rw [getD_set_ne false aa,q u F]
      congr 1
      simp only [eq_iff_iff]
      omega
    ·by_cases E:i=j
     ·subst E
      have e1:dL ol i=none:=by unfold dL;rw [f];exact M
      rw [e1] at he;cases he
     ·rw [getD_set_ne false E] at H
      exact V j hj H e he
theorem gH (hmix:P.follows .mixedOrders=true)(vs:List aD)(ws:List a0)(st:List Nat)(dss rl:List (List Nat))(ps:List (Nat×Nat))(hk:BL n ol st l dss rl ps=true)(hw:wv ws w 0=w0.drew)(ho:mZ P n ol vs ws w dss l st ps)(hfin:eo Q .normal n (rL ol vs l) (wv ws w st.length)):cw P Q n (.region id ol.toArray true) l w0:=fun a p=>by
 refine wp_region_any hmix ?_
 have f:(oL ol.toArray.size false).size=ol.length:=by simp
 have e:∀i,(oL ol.toArray.size false).getD i false=false:=by
  intro i
  simp only [nG,yB]
  split <;> rfl
 have:=VP (VS hk) ho hfin ol.toArray.size _ a 0 (by
  refine aE xZ ?_
  simp) f (fun i o _ h=>by rw [e] at h;cases h) (bJ _) (fun u _=>by rw [e];simp) p (fun i _ h=>by rw [e] at h;cases h)
 rw [hw] at this
 exact this
theorem aZ {t:Nat}(acc:Fr)(ho:ol[i]?=some o)(hs:st.contains i=false)(hv:(vs[i]?).getD undef=v)(hw:wv ws w t=wt)(hacc:dfr ol vs l (bQ dss i)=acc)(h:gB P n acc o wt (.value v) wt)(h':mZ P n ol vs ws w dss l st ps):mZ P n ol vs ws w dss l st ((i,t)::ps):=⟨by unfold tS;rw [ho];simp only;rw [hs,if_neg (by simp),hv,hw,hacc];exact h,h'⟩
theorem fG {t:Nat}{wt':a0}(acc:Fr)(ho:ol[i]?=some o)(hs:st.contains i=true)(hw:wv ws w t=wt)(hw':wv ws w (t+1)=wt')(hacc:dfr ol vs l (bQ dss i)=acc)(h:gB P n acc o wt .skip wt')(h':mZ P n ol vs ws w dss l st ps):mZ P n ol vs ws w dss l st ((i,t)::ps):=⟨by unfold tS;rw [ho];simp only;rw [hs,if_pos rfl,hw,hw',hacc];exact h,h'⟩
theorem gG:mZ P n ol vs ws w dss l st []:=trivial
end
def dQ (n:Nat):Nat:=if n=0 then 0 else Nat.log2 n+1
theorem BW:dQ 0=0:=rfl
theorem qZ (n:Nat):n<2^dQ n:=by
 unfold dQ
 split
 ·omega
 ·exact Nat.lt_log2_self
theorem tI (h:n≠0):2^(dQ n-1)≤n:=by
 unfold dQ
 rw [if_neg h,pU]
 exact Nat.log2_self_le h
theorem pH:dQ n=0↔n=0:=by
 unfold dQ;split <;> simp_all
theorem xA (h:n<2^k):dQ n≤k:=by
 by_cases h0:n=0
 ·subst h0;rw [BW];omega
 ·have h1:=tI h0
  have h2:2^(dQ n-1)<2^k:=jL h1 h
  have:=(xS (by omega:1<2)).1 h2
  have f:dQ n≠0:=fun e=>h0 (pH.1 e)
  omega
theorem JR (h1:n<2^k)(h2:k=0∨2^(k-1)≤n):dQ n=k:=by
 have f:=xA h1
 rcases h2 with h | h
 ·omega
 ·by_cases h0:k=0
  ·omega
  ·have e:2^(k-1)<2^dQ n:=jL h (qZ n)
   have:=(xS (by omega:1<2)).1 e
   omega
theorem C0 (x:Nat)(h:x<18446744073709551616:=by omega):Lib.bitLen x=dQ x:=by
 by_cases h0:x=0
 ·subst h0;simp [Lib.bitLen,Lib.bitLenAux_zero,BW]
 ·obtain⟨a,b,c⟩:=Lib.bitLenAux_bounds 64 x h h0
  exact (JR c (bT b)).symm
theorem mY:WB=2^64:=by decide
theorem JP (x y c:Nat)(hc:c≤1)(w:a0):(callFunc 195 #[i5 (x:Int),i5 (y:Int),i5 (c:Int)]).run aH w=
   .ok (.value (.tuple #[i5 (((x+y+c)%18446744073709551616:Nat):Int),i5 (((x+y+c)/18446744073709551616:Nat):Int)])) w:=by
 rw [run_callFunc_extern Tryz.func195 (by kernel_rfl) (by kernel_rfl) (by kernel_rfl) (e:=add64Entry) (by kernel_rfl),run_add64 x y c (by omega) (by omega) (by omega) (by omega)]
 simp only [Result.andThen]
 congr 5 <;> omega
theorem xH {c:Nat}(hc:c≤1)(hx:x≤18446744073709551615)(hy:y≤18446744073709551615):∃s d:Nat,Hid (s+WB*d=x+y+c)∧s≤18446744073709551615∧d≤1∧
  ∀w,(callFunc 195 #[i5 (x:Int),i5 (y:Int),i5 (c:Int)]).run aH w= .ok (.value (.tuple #[i5 (s:Int),i5 (d:Int)])) w:=
 ⟨(x+y+c)%18446744073709551616,(x+y+c)/18446744073709551616,(show _=_ by rw [cC];exact jF _ _),by omega,by omega,fun w=>JP x y c hc w⟩
theorem tM (hx:x≤18446744073709551615)(hy:y≤18446744073709551615):∃s d:Nat,Hid (s+WB*d=x+y)∧s≤18446744073709551615∧d≤1∧
  ∀w,(callFunc 195 #[i5 (x:Int),i5 (y:Int),i5 0]).run aH w= .ok (.value (.tuple #[i5 (s:Int),i5 (d:Int)])) w:=
 xH (c:=0) (by omega) hx hy
theorem WW (hx:x≤18446744073709551615):∃s d:Nat,Hid (s+WB*d=x+1)∧s≤18446744073709551615∧d≤1∧
  ∀w,(callFunc 195 #[i5 (x:Int),i5 0,i5 1]).run aH w= .ok (.value (.tuple #[i5 (s:Int),i5 (d:Int)])) w:=
 xH (y:=0) (c:=1) (by omega) hx (by omega)
theorem CW {Q:dH→Act→a0→Prop}(hgd:o.guard=none)(x y c:cG)(ho:o.op= .call {callee:= .value (.func 195),args:= #[x,y,c],argTypes:=ts})(X Y C:Nat)(hx:a.eval x= i5 (X:Int))(hy:a.eval y= i5 (Y:Int))(hz:a.eval c= i5 (C:Int))(hC:C≤1)(hX:X≤18446744073709551615)(hY:Y≤18446744073709551615)(h:∀s d:Nat,Hid (s+WB*d=X+Y+C)→s≤18446744073709551615→d≤1→wpList aH ops Q rest (a.put o.dst (.tuple #[i5 (s:Int),i5 (d:Int)])) w):wpList aH ops Q (o::rest) a w:=by
 refine xR hgd fun K f=>?_
 have e:=JP X Y C hC w
 unfold kZ
 have hf:a.eval (.func 195)= .func (.func 195) #[] #[]:=rfl
 simp [execOp,ho,resolve,invoke,hf,hx,hy,hz,e,KI,kL]
 have:=f _ _ (h ((X+Y+C)%18446744073709551616) ((X+Y+C)/18446744073709551616) (show _=_ by rw [cC];exact jF _ _) (by omega) (by omega))
 simpa using this
theorem JO (x y b:Nat)(hb:b≤1)(w:a0):(callFunc 196 #[i5 (x:Int),i5 (y:Int),i5 (b:Int)]).run aH w=
   .ok (.value (.tuple #[i5 (((x+18446744073709551616-y-b)%18446744073709551616:Nat):Int),i5 ((if x<y+b then 1 else 0:Nat):Int)])) w:=by
 rw [run_callFunc_extern Tryz.func196 (by kernel_rfl) (by kernel_rfl) (by kernel_rfl) (e:=sub64Entry) (by kernel_rfl),run_sub64 x y b hb]
 rfl
theorem uO {c:Nat}(hc:c≤1)(hx:x≤18446744073709551615)(hy:y≤18446744073709551615):∃s d:Nat,Hid (s+y+c=x+WB*d)∧s≤18446744073709551615∧d≤1∧
  ∀w,(callFunc 196 #[i5 (x:Int),i5 (y:Int),i5 (c:Int)]).run aH w= .ok (.value (.tuple #[i5 (s:Int),i5 (d:Int)])) w:=by
 have e:=fun w=>JO x y c hc w
 have h:(x+18446744073709551616-y-c)%18446744073709551616+y+c=x+WB*(if x<y+c then 1 else 0):=by rw [cC];split <;> omega
 have f:(x+18446744073709551616-y-c)%18446744073709551616≤18446744073709551615:=by omega
 have o:(if x<y+c then 1 else 0)≤1:=by split <;> omega
 exact⟨_,_,h,f,o,e⟩
theorem MN (hx:x≤18446744073709551615):∃s d:Nat,Hid (s+0+1=x+WB*d)∧s≤18446744073709551615∧d≤1∧
  ∀w,(callFunc 196 #[i5 (x:Int),i5 0,i5 1]).run aH w= .ok (.value (.tuple #[i5 (s:Int),i5 (d:Int)])) w:=
 uO (y:=0) (c:=1) (by omega) hx (by omega)
theorem CU {Q:dH→Act→a0→Prop}(hgd:o.guard=none)(x y c:cG)(ho:o.op= .call {callee:= .value (.func 196),args:= #[x,y,c],argTypes:=ts})(X Y C:Nat)(hx:a.eval x= i5 (X:Int))(hy:a.eval y= i5 (Y:Int))(hz:a.eval c= i5 (C:Int))(hC:C≤1)(hX:X≤18446744073709551615)(hY:Y≤18446744073709551615)(h:∀s d:Nat,Hid (s+Y+C=X+WB*d)→s≤18446744073709551615→d≤1→wpList aH ops Q rest (a.put o.dst (.tuple #[i5 (s:Int),i5 (d:Int)])) w):wpList aH ops Q (o::rest) a w:=by
 refine xR hgd fun K f=>?_
 have e:=JO X Y C hC w
 have q:(X+18446744073709551616-Y-C)%18446744073709551616+Y+C=X+WB*(if X<Y+C then 1 else 0):=by rw [cC];split <;> omega
 have p:(X+18446744073709551616-Y-C)%18446744073709551616≤18446744073709551615:=by omega
 have r:(if X<Y+C then 1 else 0)≤1:=by split <;> omega
 generalize (X+18446744073709551616-Y-C)%18446744073709551616=s at*
 generalize (if X<Y+C then 1 else 0)=d at*
 unfold kZ
 have hf:a.eval (.func 196)= .func (.func 196) #[] #[]:=rfl
 simp only [execOp,ho,resolve,invoke,hf,KI,mG,iJ,j7,hx,hy,hz,cA,g0,eG,Array.empty_append,Array.append_empty,e,kL]
 exact f _ _ (h s d q p r)
theorem bits_Mul64 (x y:Nat)(hx:x≤18446744073709551615)(hy:y≤18446744073709551615)(w:a0):aQ aH 255 #[i5 (x:Int),i5 (y:Int)] w fun e w'=>∃hi lo:Nat,Hid (lo+WB*hi=x*y)∧hi≤18446744073709551615∧lo≤18446744073709551615∧
   e= .returned (.tuple #[i5 (hi:Int),i5 (lo:Int)])∧w=w':=by
 refine (Tryz.bits_Mul64 x y (by omega) (by omega) w).mono ?_
 rintro e w' ⟨rfl,rfl⟩
 refine⟨x*y/18446744073709551616,x*y%18446744073709551616,show _=_ by rw [cC];exact jF _ _,?_,by omega,rfl,rfl⟩
 have h1:x*y≤18446744073709551615*18446744073709551615:=j3 hx hy
 omega
theorem bits_Len64 (x:Nat)(hx:x≤18446744073709551615)(w:a0):aQ aH 194 #[i5 (x:Int)] w fun e w'=>∃n:Nat,Hid (n=dQ x)∧n≤64∧e= .returned (a9 (n:Int))∧w=w':=by
 refine (Tryz.bits_Len64 x w (by omega) (by omega)).mono ?_
 rintro e w' ⟨rfl,rfl⟩
 refine⟨dQ x,rfl,xA (by omega),?_,rfl⟩
 rw [gX,C0 x]
theorem bits_Len (x:Nat)(hx:x≤18446744073709551615)(w:a0):aQ aH 197 #[i5 (x:Int)] w fun e w'=>∃n:Nat,Hid (n=dQ x)∧n≤64∧e= .returned (a9 (n:Int))∧w=w':=by
 refine (Tryz.bits_Len x w (by omega) (by omega)).mono ?_
 rintro e w' ⟨rfl,rfl⟩
 refine⟨dQ x,rfl,xA (by omega),?_,rfl⟩
 rw [gX,C0 x]
theorem bits_LeadingZeros64 (x:Nat)(hx:x≤18446744073709551615)(w:a0):aQ aH 265 #[i5 (x:Int)] w fun e w'=>∃n:Nat,Hid (n+dQ x=64)∧n≤64∧e= .returned (a9 (n:Int))∧w=w':=by
 refine (Tryz.bits_LeadingZeros64 x w (by omega) (by omega)).mono ?_
 rintro e w' ⟨rfl,rfl⟩
 have h1:dQ x≤64:=xA (by omega)
 refine⟨64-dQ x,show _=_ by omega,by omega,?_,rfl⟩
 rw [gX,C0 x]
 congr 2;omega
theorem CV {Q:dH→Act→a0→Prop}(hgd:o.guard=none){t:aV}{x y:cG}(ho:o.op= .binOp op t x y ty)(hx:a.eval x=vx)(hy:a.eval y=vy)(hne:(op matches .eql | .neq)=false)(hr:∀w,(binOp op t vx vy).run P w= .ok v w)(h:wpList P ops Q rest (a.put o.dst v) w):wpList P ops Q (o::rest) a w:=by
 refine xR hgd fun K f=>?_
 unfold kZ
 have e:(eqGuard op t x y vx vy).run P w= .ok () w:=by
  unfold eqGuard
  cases op <;> first | rfl | (simp at hne)
 simp only [execOp,ho,hx,hy,cA,e,eG,hr,g0,kL]
 exact f _ _ h
theorem dC {Q:dH→Act→a0→Prop}(hgd:o.guard=none){t:aV}{x y:cG}(ho:o.op= .binOp op t x y ty){f:Nat}(hx:a.eval x=vx)(hy:a.eval y=vy)(hne:(op matches .eql | .neq)=false)(hr:∀(P:bV) (t:aV) (w:a0),(binOp op t vx vy).run P w= .ok (i5 (f:Int)) w)(h:∀r:Nat,Hid (r=f)→r≤18446744073709551615→wpList P ops Q rest (a.put o.dst (i5 (r:Int))) w)(hf:f≤18446744073709551615:=by omega):wpList P ops Q (o::rest) a w:=
 CV hgd ho hx hy hne (fun w=>hr P t w) (h f G hf)
theorem lS (n:Nat):IntKind.u64.wrap (n:Int)=((n%18446744073709551616:Nat):Int):=by
 simp [uB,q6,pZ]
theorem oR (hs:s≤64)(P:bV)(t:aV)(w:a0):(binOp .shl t (i5 (x:Int)) (i5 (s:Int))).run P w= .ok (i5 ((x*2^s%18446744073709551616:Nat):Int)) w:=by
 have e:((x:Int)*2^min (s:Int).toNat IntKind.u64.bits)=((x*2^s:Nat):Int):=by
  rw [gX,show min s IntKind.u64.bits=s from g7 hs];simp
 simp only [binOp]
 rw [shift_shl_any _ _ _ _ (by omega),e,lS];rfl
theorem jS (hs:s≤64)(P:bV)(t:aV)(w:a0):(binOp .shr t (i5 (x:Int)) (i5 (s:Int))).run P w= .ok (i5 ((x/2^s:Nat):Int)) w:=by
 have e:((x:Int)/2^min (s:Int).toNat IntKind.u64.bits)=((x/2^s:Nat):Int):=by
  rw [gX,show min s IntKind.u64.bits=s from g7 hs];simp
 simp only [binOp]
 rw [shift_shr_any _ _ _ _ (by omega),e];rfl
theorem qB (P:bV)(t:aV)(w:a0):(binOp .mul t (i5 (x:Int)) (i5 (y:Int))).run P w= .ok (i5 ((x*y%18446744073709551616:Nat):Int)) w:=by
 rw [←lS,l5];rfl
theorem mO (P:bV)(t:aV)(w:a0):(binOp .add t (i5 (x:Int)) (i5 (y:Int))).run P w= .ok (i5 (((x+y)%18446744073709551616:Nat):Int)) w:=by
 rw [←lS,Int.natCast_add];rfl
theorem oQ (hy:y≤18446744073709551616)(P:bV)(t:aV)(w:a0):(binOp .sub t (i5 (x:Int)) (i5 (y:Int))).run P w= .ok (i5 (((x+(18446744073709551616-y))%18446744073709551616:Nat):Int)) w:=by
 have e:IntKind.u64.wrap ((x:Int)-(y:Int))=(((x+(18446744073709551616-y))%18446744073709551616:Nat):Int):=by
  simp only [uB,q6,pZ]
  simp
  omega
 rw [←e];rfl
theorem DB (hy:y≠0)(hx:x≤18446744073709551615)(P:bV)(t:aV)(w:a0):(binOp .quo t (i5 (x:Int)) (i5 (y:Int))).run P w= .ok (i5 ((x/y:Nat):Int)) w:=by
 have h1:=eR x y
 have e:IntKind.u64.wrap ((x:Int).tdiv (y:Int))=((x/y:Nat):Int):=by
  have:(x:Int).tdiv (y:Int)=((x/y:Nat):Int):=by rw [y8 (by omega)];simp
  rw [this,lS,fO (by omega)]
 simp only [binOp,tT]
 simp [hy]
 rw [show (↑x/ ↑y:Int)=((x/y:Nat):Int) from by simp] at*
 simpa [y8] using e
theorem lV (hx:x≤18446744073709551615):(lQ 64 (x:Int)).toNat=x:=ofInt_u64 x (by omega)
theorem sD (hx:x≤18446744073709551615)(hy:y≤18446744073709551615)(P:bV)(t:aV)(w:a0):(binOp .or t (i5 (x:Int)) (i5 (y:Int))).run P w= .ok (i5 ((x||| y:Nat):Int)) w:=by
 have e:IntKind.u64.wrap ((lQ 64 (x:Int)||| lQ 64 (y:Int)).toNat:Int)=((x||| y:Nat):Int):=by
  rw [BitVec.toNat_or,lV hx,lV hy,lS,fO (oG (n:=64) (by omega) (by omega))]
 rw [←e];rfl
theorem oS (hx:x≤18446744073709551615)(hy:y≤18446744073709551615)(P:bV)(t:aV)(w:a0):(binOp .and t (i5 (x:Int)) (i5 (y:Int))).run P w= .ok (i5 ((x&&& y:Nat):Int)) w:=by
 have e:IntKind.u64.wrap ((lQ 64 (x:Int)&&& lQ 64 (y:Int)).toNat:Int)=((x&&& y:Nat):Int):=by
  rw [BitVec.toNat_and,lV hx,lV hy,lS,fO (Nat.and_lt_two_pow (n:=64) _ (by omega))]
 rw [←e];rfl
theorem zU (hy:y<2^k):(x*2^k)||| y=x*2^k+y:=nat_join k _ _ (by simp) hy
structure Guess (B yn1 yn0 u un q r:Nat):Prop where
 eq:q*yn1+r=u
 top:u*B+un<(q+1)*(yn1*B+yn0)
 qb:q≤B+1
theorem Guess.start {B:Nat}(_hB:0<B)(h1:B≤2*yn1)(hun:un<B)(hu:u<yn1*B+yn0)(h0:yn0<B):Guess B yn1 yn0 u un (u/yn1) (u%yn1):=by
 have e:0<yn1:=by omega
 refine⟨by rw [cY];exact lM u yn1,?_,?_⟩
 ·have h2:u<(u/yn1+1)*yn1:=by
   rw [cY];exact tX u e
  have f:u*B+B≤((u/yn1+1)*yn1)*B:=by
   have:=eC B (nB h2)
   rwa [nA] at this
  rw [cZ,←bY]
  omega
 ·have h2:u<(B+2)*yn1:=by
   rw [dO,cY B]
   omega
  have:=(tZ e).2 h2
  omega
theorem Guess.pos {B:Nat}(hB:0<B)(ht:B≤q∨B*r+un<q*yn0):0<q:=by
 rcases ht with h | h
 ·omega
 ·rcases kC q with e | e
  ·subst e;simp at h
  ·exact e
theorem Guess.step {B:Nat}(h:Guess B yn1 yn0 u un q r)(hun:un<B)(hu:u<yn1*B+yn0)(ht:B≤q∨B*r+un<q*yn0)(hq:0<q):Guess B yn1 yn0 u un (q-1) (r+yn1):=by
 obtain⟨e,ht',qb⟩:=h
 refine⟨?_,?_,by omega⟩
 ·have:q*yn1=(q-1)*yn1+yn1:=by
   conv=>lhs;rw [show q=(q-1)+1 from by omega]
   rw [nA]
  omega
 ·rw [iH hq,cZ,←bY]
  rcases ht with h | h
  ·have h1:B*(yn1*B+yn0)≤q*(yn1*B+yn0):=eC _ h
   have h2:B*(u+1)≤B*(yn1*B+yn0):=fN _ hu
   rw [cZ,←bY] at h1
   rw [rZ,cY B u] at h2
   have o:q*(yn1*B+yn0)=q*yn1*B+q*yn0:=by rw [cZ,bY]
   have f:B*(yn1*B+yn0)=B*yn1*B+B*yn0:=by rw [cZ,bY]
   omega
  ·have h1:(q*yn1+r)*B=u*B:=by rw [e]
   rw [dO,cY r B] at h1
   omega
theorem Guess.done {B:Nat}(h:Guess B yn1 yn0 u un q r)(h0:yn0<B)(hd:(q<B∧q*yn0≤B*r+un)∨(q≤B∧B≤r)):q=(u*B+un)/(yn1*B+yn0)∧q*(yn1*B+yn0)≤u*B+un:=by
 obtain⟨e,ht,_⟩:=h
 have key:q*yn0≤B*r+un:=by
  rcases hd with⟨_,h⟩ | ⟨h1,h2⟩
  ·exact h
  ·have D:q*yn0≤B*B:=j3 h1 (by omega)
   have p:B*B≤B*r:=fN _ h2
   omega
 have f:q*(yn1*B+yn0)≤u*B+un:=by
  have h1:(q*yn1+r)*B=u*B:=by rw [e]
  rw [dO,cY r B] at h1
  rw [cZ,←bY]
  omega
 refine⟨?_,f⟩
 have o:0<yn1*B+yn0:=by
  rcases kC (yn1*B+yn0) with h | h
  ·rw [h] at ht;simp at ht
  ·exact h
 exact (Nat.div_eq_of_lt_le (by rw [cY] at f;rwa [cY]) ht).symm
theorem CT {a c r1 r2 r3 r4:Nat}(h1:r1=a%18446744073709551616)(h2:r2=(r1+b)%18446744073709551616)(h3:r3=c%18446744073709551616)(h4:r4=(r2+(18446744073709551616-r3))%18446744073709551616)(h:a+b=c+d)(hd:d≤18446744073709551615):r4=d:=by
 omega
theorem FW (hy:y≠0)(hs:s+dQ y=64):y*2^s<18446744073709551616∧9223372036854775808≤y*2^s:=by
 have h1:=qZ y
 have h2:=tI hy
 have hb:dQ y≠0:=fun h=>hy (pH.1 h)
 have f:y*2^s<2^dQ y*2^s:=pS h1 (mC s)
 have e:2^(dQ y-1)*2^s≤y*2^s:=eC _ h2
 rw [←dX,show dQ y+s=64 from by omega] at f
 rw [←dX,show dQ y-1+s=63 from by omega] at e
 exact⟨f,e⟩
theorem BH (hs:s+dQ y=64)(hyy:yy=y*2^s%18446744073709551616)(h1:yn1=yy/2^32)(hy:y≠0:=by omega):yy=y*2^s∧2147483648≤yn1:=by
 obtain⟨a,b⟩:=FW hy hs
 rw [fO a] at hyy
 refine⟨hyy,?_⟩
 rw [h1,hyy];omega
theorem WS (x:Nat):x&&& 4294967295=x%4294967296:=Nat.and_two_pow_sub_one_eq_mod x 32
theorem NF {lo:Nat}(hs:s≤64):lo*2^s=lo/2^(64-s)*18446744073709551616+lo*2^s%18446744073709551616:=by
 have e:lo*2^s/18446744073709551616=lo/2^(64-s):=by
  have h:(18446744073709551616:Nat)=2^(64-s)*2^s:=by rw [←dX,show 64-s+s=64 from by omega]
  conv=>lhs;rw [h]
  exact CI _ _ (mC s)
 rw [←e,cY (lo*2^s/18446744073709551616)]
 exact (lM _ _).symm
theorem VK {lo r46 r49 r50:Nat}(hlt:hi<y)(hlo:lo≤18446744073709551615)(hs:s+dQ y=64)(hs64:s≤64)(hyy:yy=y*2^s%18446744073709551616)(h1:yn1=yy/2^32)(h0:yn0=yy&&& 4294967295)(h46:r46=hi*2^s%18446744073709551616)(h49:r49=(64+(18446744073709551616-s))%18446744073709551616)(h50:r50=lo/2^r49)(hu:u=r46||| r50)(h10:un10=lo*2^s%18446744073709551616)(hu1:un1=un10/2^32)(hu0:un0=un10&&& 4294967295):yy=y*2^s∧yy=yn1*4294967296+yn0∧yn0<4294967296∧yn1<4294967296∧u<yy∧un1<4294967296∧un0<4294967296∧un10=un1*4294967296+un0∧(hi*WB+lo)*2^s=u*18446744073709551616+un10:=by
 obtain⟨r,_⟩:=BH hs hyy h1
 have q:=(FW (y:=y) (by omega) hs).1
 have p:r49=64-s:=by omega
 have D:hi*2^s<y*2^s:=pS hlt (mC s)
 have f:r46=hi*2^s:=by rw [h46,fO (by omega)]
 have h:=NF (lo:=lo) hs64
 rw [p] at h50
 have e:r50<2^s:=by
  rw [h50]
  refine tY ?_
  rw [←dX,show 64-s+s=64 from by omega]
  omega
 have eu:u=hi*2^s+r50:=by rw [hu,f,zU e]
 rw [WS] at h0 hu0
 have eU:(hi*WB+lo)*2^s=u*18446744073709551616+un10:=by
  rw [dO,cC,h,eu,←h50,←h10,dO,pR]
  omega
 have o:u<yy:=by
  have h2:(hi+1)*2^s≤y*2^s:=eC _ hlt
  rw [nA] at h2
  omega
 refine⟨r,by omega,by omega,by omega,o,by omega,by omega,by omega,eU⟩
theorem VL {lo q1 v q0:Nat}(hy:0<y)(e1:yy=y*2^s)(e10:un10=un1*4294967296+un0)(eU:(hi*WB+lo)*2^s=u*18446744073709551616+un10)(hq1:u*4294967296+un1=q1*yy+v)(hq0:v*4294967296+un0=q0*yy+r)(hr:r<yy):(hi*WB+lo)/y=q1*4294967296+q0∧(hi*WB+lo)%y=r/2^s:=by
 have f:=mC s
 have o:(hi*WB+lo)*2^s=(q1*4294967296+q0)*yy+r:=by
  have q:(q1*4294967296+q0)*yy=(q1*yy)*4294967296+q0*yy:=by rw [dO,pR]
  have p:u*18446744073709551616+un1*4294967296=(u*4294967296+un1)*4294967296:=by rw [dO,bY]
  rw [eU,e10,q,←j5,p,hq1,dO,j5,hq0,j5]
 have e:0<yy:=by rw [e1];exact iI hy f
 constructor
 ·rw [←CI _ _ f,←e1,o,cY _ yy,nC e,gV hr,eS]
 ·have h:=xT (2^s) (hi*WB+lo) y
  rw [←e1,o,cY _ yy,tW,fO hr] at h
  rw [h,Nat.mul_div_cancel _ f]
def CE (hi lo y:Nat)(w:a0)(e:dR)(w':a0):Prop:=
 ∃q r:Nat,Hid (q=(hi*WB+lo)/y)∧Hid (r=(hi*WB+lo)%y)∧q≤18446744073709551615∧r<y∧e= .returned (.tuple #[i5 (q:Int),i5 (r:Int)])∧∃m,w'=w.drewN m
theorem VI {lo:Nat}(hlo:lo≤18446744073709551615)(hy:1≤y)(hyb:y≤18446744073709551615)(w:a0):aQ aH 264 #[i5 0,i5 (lo:Int),i5 (y:Int)] w (CE 0 lo y w):=by
 have h1:((y:Int)==0)=false:=by simp;omega
 have h2:¬(y:Int)≤0:=by omega
 have h3:(lo:Int)/(y:Int)≤(lo:Int):=Int.ediv_le_self _ (by omega)
 have h4:0≤(lo:Int)/(y:Int):=Int.ediv_nonneg (by omega) (by omega)
 have h5:=Int.emod_nonneg (lo:Int) (b:=(y:Int)) (by omega)
 have h6:=Int.emod_lt_of_pos (lo:Int) (b:=(y:Int)) (by omega)
 go_enter Tryz.func264,Tryz.ntmps264
 go_wp2_with fail
 go_quiet (fail)
 go_wp2_with fail
 go_ret2
 refine⟨lo/y,lo%y,by simp [Hid],by simp [Hid],?_,fV _ hy,by simp,_,rfl⟩
 have:=eR lo y
 omega
theorem Guess.fin (e:yy=yn1*4294967296+yn0)(h0:yn0<4294967296)(hyy:0<yy)(hu:u<yy)(hun:un<4294967296)(hG:Guess 4294967296 yn1 yn0 u un q r)(hd:(q<4294967296∧q*yn0≤4294967296*r+un)∨(q≤4294967296∧4294967296≤r)):q≤4294967295∧∃v,Hid (u*4294967296+un=q*yy+v)∧v<yy:=by
 obtain⟨a,b⟩:=hG.done h0 hd
 rw [←e] at a b
 refine⟨?_,u*4294967296+un-q*yy,?_,?_⟩
 ·have:q<4294967296:=by
   rw [a]
   refine tY ?_
   have:=eC 4294967296 (nB hu)
   rw [nA] at this
   omega
  omega
 ·show _=_
  omega
 ·have:=tX (u*4294967296+un) hyy
  rw [←a,cZ,dK,cY yy q] at this
  omega
theorem FB {r65 rh:Nat}(hy:0<y)(hu:u≤18446744073709551615)(e1:q=u/y)(e2:r65=q*y%18446744073709551616)(e3:rh=(u+(18446744073709551616-r65))%18446744073709551616):rh=u%y:=by
 have f:=lM u y
 rw [e1,cY] at e2
 have e:=fV u hy
 generalize y*(u/y)=a at*
 generalize u%y=b at*
 omega
theorem VJ {lo:Nat}(hhi:1≤hi)(hlt:hi<y)(hlo:lo≤18446744073709551615)(hyb:y≤18446744073709551615)(w:a0):aQ aH 264 #[i5 (hi:Int),i5 (lo:Int),i5 (y:Int)] w (CE hi lo y w):=by
 have h1:((y:Int)==0)=false:=by simp;omega
 have h2:¬(y:Int)≤(hi:Int):=by omega
 have h3:((hi:Int)==0)=false:=by simp;omega
 go_enter Tryz.func264,Tryz.ntmps264
 go_wp2_with fail
 refine (bits_LeadingZeros64 y hyb _).mono ?_
 rintro e w' ⟨s,hs,hs64,rfl,rfl⟩
 go_upto_block 0 with (first
  | ((with_reducible refine cK (some 39) ?_);refine dC rfl rfl rfl rfl rfl (oR hs64) ?_;intro yy hyy hyyb)
  | ((with_reducible refine cK (some 41) ?_);refine dC rfl rfl rfl rfl rfl (jS (s:=32) (by omega)) ?_;intro yn1 hyn1 hyn1b)
  | ((with_reducible refine cK (some 43) ?_);refine dC rfl rfl rfl rfl rfl (oS (y:=4294967295) hyyb (by omega)) ?_ (hf:=(by have:=Nat.and_le_left (n:=yy) (m:=4294967295);omega));intro yn0 hyn0 hyn0b)
  | ((with_reducible refine cK (some 46) ?_);refine dC rfl rfl rfl rfl rfl (oR hs64) ?_;intro r46 h46 hb46)
  | ((with_reducible refine cK (some 49) ?_);refine dC rfl rfl rfl rfl rfl (oQ (x:=64) (y:=s) (by omega)) ?_;intro r49 h49 hb49)
  | ((with_reducible refine cK (some 50) ?_);refine dC rfl rfl rfl rfl rfl (jS (s:=r49) (by rw [h49.out];omega)) ?_ (hf:=(by have:=eR lo (2^r49);omega));intro r50 h50 hb50)
  | ((with_reducible refine cK (some 51) ?_);refine dC rfl rfl rfl rfl rfl (sD hb46 hb50) ?_ (hf:=(by have:=oG (n:=64) (x:=r46) (y:=r50) (by omega) (by omega);omega));intro u hu hub)
  | ((with_reducible refine cK (some 54) ?_);refine dC rfl rfl rfl rfl rfl (oR hs64) ?_;intro un10 h10 hb10)
  | ((with_reducible refine cK (some 56) ?_);refine dC rfl rfl rfl rfl rfl (jS (s:=32) (by omega)) ?_;intro un1 hun1 hun1b)
  | ((with_reducible refine cK (some 58) ?_);refine dC rfl rfl rfl rfl rfl (oS (y:=4294967295) hb10 (by omega)) ?_ (hf:=(by have:=Nat.and_le_left (n:=un10) (m:=4294967295);omega));intro un0 hun0 hun0b)
  | ((with_reducible refine cK (some 61) ?_);refine dC rfl rfl rfl rfl rfl (DB (by have:=(BH hs.out hyy.out hyn1.out).2;omega) hub) ?_ (hf:=(by have:=eR u yn1;omega));intro q1 hq1 hq1b)
  | ((with_reducible refine cK (some 65) ?_);refine dC rfl rfl rfl rfl rfl qB ?_;intro r65 h65 hb65)
  | ((with_reducible refine cK (some 66) ?_);refine dC rfl rfl rfl rfl rfl (oQ (by omega)) ?_;intro rh hrh hrhb))
 have hN:=VK hlt hlo hs.out hs64 hyy.out hyn1.out hyn0.out h46.out h49.out h50.out hu.out h10.out hun1.out hun0.out
 have hyn1lo:=(BH hs.out hyy.out hyn1.out).2
 obtain⟨n1,n2,n3,n4,n5,n6,n7,n8,n9⟩:=hN
 have N1:=Lib.hid n1
 have N2:=Lib.hid n2
 have N3:=Lib.hid n3
 have N5:=Lib.hid n5
 have N6:=Lib.hid n6
 have NL:=Lib.hid hyn1lo
 have hyylo:0<yy:=by omega
 have hyn1hi:(yn1:Int)≤4294967295:=by omega
 have hyn1pos:0<yn1:=by omega
 have hun1hi:(un1:Int)≤4294967295:=by omega
 have hyn0hi:(yn0:Int)≤4294967295:=by omega
 have hun0hi:(un0:Int)≤4294967295:=by omega
 have N8:=Lib.hid n8
 have N9:=Lib.hid n9
 have hq1':Hid (q1=u/yn1):=hq1
 have hrh':Hid (rh=u%yn1):=FB (by omega) hub hq1.out h65.out hrh.out
 clear n1 n2 n3 n4 n5 n6 n7 n8 n9 hyn1lo hyy hyn1 hyn0 h46 h49 h50 hu h10 hun1 hun0 h65 hrh hq1
 clear hb46 hb49 hb50 hb65 hrhb hq1b h1 h2 h3
 go_cut [15,16] (fun a b wc=>∃q r v:Nat,a= i5 (q:Int)∧b= i5 (r:Int)∧q≤4294967295∧Hid (u*4294967296+un1=q*yy+v)∧v<yy∧w=wc)
 case first=>
  have HG0:=Lib.hid (Guess.start (B:=4294967296) (yn1:=yn1) (yn0:=yn0) (u:=u) (un:=un1) (by omega) (by have:=NL.out;omega) N6.out (by rw [←N2.out];exact N5.out) N3.out)
  refine wp_block ?_
  go_wp2_with fail
  go_loop [15,16] (fun a b=>∃q r:Nat,a= i5 (q:Int)∧b= i5 (r:Int)∧q≤4294967297∧r≤4294967295∧Hid (Guess 4294967296 yn1 yn0 u un1 q r)) (fun a b=>(intOf a).toNat)
  case atStart=>exact⟨q1,rh,rfl,rfl,by have:=HG0.out.qb;rw [hq1'.out];omega,by rw [hrh'.out];have:=fV u (show 0<yn1 by omega);omega,by rw [hq1'.out,hrh'.out];exact HG0⟩
  case round=>
   obtain⟨q,r,rfl,rfl,hq,hr,hG⟩:=hrel
   by_cases hqB:(4294967296:Int)≤(q:Int)
   ·have HS:=Lib.hid (hG.out.step N6.out (by rw [←N2.out];exact N5.out) (cD (by omega)) (by omega))
    have HQ:=Lib.hid hq
    by_cases hrB:(4294967296:Int)≤(r:Int)+(yn1:Int)
    ·go_upto_region 20 with (fail)
     have HQB:=Lib.hid hqB
     clear hqB
     go_wp2_with fail
     go_meet
     case rel=>
      obtain⟨a,v,b,c⟩:=Guess.fin N2.out N3.out hyylo N5.out N6.out HS.out (bT ⟨by have:=HQB.out;omega,by omega⟩)
      exact⟨q-1,r+yn1,v,fP (h:=(by have:=HQB.out;omega)),fP,a,b,c,rfl⟩
    ·go_upto_region 20 with (fail)
     have HQB:=Lib.hid hqB
     clear hqB
     go_wp2_with fail
     go_round
     case rel=>exact⟨q-1,r+yn1,fP (h:=(by have:=HQB.out;omega)),fP,by omega,by omega,HS⟩
     case measure=>have:=HQB.out;simp [intOf];omega
   ·have hp1:(q:Int)*(yn0:Int)≤18446744065119617025:=by
     have h:q*yn0≤4294967295*4294967295:=j3 (by omega) (by omega)
     rw [←l5];omega
    have hp0:0≤(q:Int)*(yn0:Int):=Int.mul_nonneg (by omega) (by omega)
    by_cases hT:4294967296*r+un1<q*yn0
    ·have hTi:4294967296*(r:Int)+(un1:Int)<(q:Int)*(yn0:Int):=by rw [←l5];omega
     have hqp:=Guess.pos (B:=4294967296) (r:=r) (un:=un1) (by omega) (bT hT)
     have HS:=Lib.hid (hG.out.step N6.out (by rw [←N2.out];exact N5.out) (bT hT) hqp)
     clear hT
     by_cases hrB:(4294967296:Int)≤(r:Int)+(yn1:Int)
     ·go_wp2_with fail
      go_meet
      case rel=>
       obtain⟨a,v,b,c⟩:=Guess.fin N2.out N3.out hyylo N5.out N6.out HS.out (bT ⟨by omega,by omega⟩)
       exact⟨q-1,r+yn1,v,fP,fP,a,b,c,rfl⟩
     ·go_wp2_with fail
      go_round
      case rel=>exact⟨q-1,r+yn1,fP,fP,by omega,by omega,HS⟩
      case measure=>simp [intOf];omega
    ·have hTi:¬4294967296*(r:Int)+(un1:Int)<(q:Int)*(yn0:Int):=by rw [←l5];omega
     have HT:=Lib.hid (show q*yn0≤4294967296*r+un1 by omega)
     clear hT
     go_wp2_with fail
     go_meet
     case rel=>
      obtain⟨a,v,b,c⟩:=Guess.fin N2.out N3.out hyylo N5.out N6.out hG.out (cD ⟨by omega,HT.out⟩)
      exact⟨q,r,v,rfl,rfl,a,b,c,rfl⟩
 case rest=>
  obtain⟨qa,ra,v,rfl,rfl,hqa,hv,hvy,rfl⟩:=hcut
  clear hq1' hrh'
  go_upto_block 2 with (first
   | ((with_reducible refine cK (some 87) ?_);refine dC rfl rfl rfl rfl rfl qB ?_;intro r87 h87 hb87)
   | ((with_reducible refine cK (some 89) ?_);refine dC rfl rfl rfl rfl rfl mO ?_;intro r89 h89 hb89)
   | ((with_reducible refine cK (some 92) ?_);refine dC rfl rfl rfl rfl rfl qB ?_;intro r92 h92 hb92)
   | ((with_reducible refine cK (some 93) ?_);refine dC rfl rfl rfl rfl rfl (oQ (by omega)) ?_;intro v' hv' hbv';obtain rfl:v'=v:=CT h87.out h89.out h92.out hv'.out hv.out (by omega))
   | ((with_reducible refine cK (some 96) ?_);refine dC rfl rfl rfl rfl rfl (DB (by omega) (by omega)) ?_ (hf:=(by have:=eR v' yn1;omega));intro q2 hq2 hq2b)
   | ((with_reducible refine cK (some 100) ?_);refine dC rfl rfl rfl rfl rfl qB ?_;intro r100 h100 hb100)
   | ((with_reducible refine cK (some 101) ?_);refine dC rfl rfl rfl rfl rfl (oQ (by omega)) ?_;intro rh2 hrh2 hrhb2))
  have hq2':Hid (q2=v'/yn1):=hq2
  have hrh2':Hid (rh2=v'%yn1):=FB (by omega) (by omega) hq2.out h100.out hrh2.out
  have NV:=Lib.hid hvy
  have N7:=Lib.hid (show un0<4294967296 by omega)
  clear hvy hrh2 hq2 h100 h87 h89 h92 hv' hb87 hb89 hb92 hbv' hb100 hrhb2 hq2b
  go_cut [18,16] (fun a b wc=>∃q r v:Nat,a= i5 (q:Int)∧b= i5 (r:Int)∧q≤4294967295∧Hid (v'*4294967296+un0=q*yy+v)∧v<yy∧w=wc)
  case first=>
   have HG0:=Lib.hid (Guess.start (B:=4294967296) (yn1:=yn1) (yn0:=yn0) (u:=v') (un:=un0) (by omega) (by have:=NL.out;omega) N7.out (by rw [←N2.out];exact NV.out) N3.out)
   refine wp_block ?_
   go_wp2_with fail
   go_loop [18,16] (fun a b=>∃q r:Nat,a= i5 (q:Int)∧b= i5 (r:Int)∧q≤4294967297∧r≤4294967295∧Hid (Guess 4294967296 yn1 yn0 v' un0 q r)) (fun a b=>(intOf a).toNat)
   case atStart=>exact⟨q2,rh2,rfl,rfl,by have:=HG0.out.qb;rw [hq2'.out];omega,by rw [hrh2'.out];have:=fV v' (show 0<yn1 by omega);omega,by rw [hq2'.out,hrh2'.out];exact HG0⟩
   case round=>
    obtain⟨q,r,rfl,rfl,hq,hr,hG⟩:=hrel
    by_cases hqB:(4294967296:Int)≤(q:Int)
    ·have HS:=Lib.hid (hG.out.step N7.out (by rw [←N2.out];exact NV.out) (cD (by omega)) (by omega))
     have HQ:=Lib.hid hq
     by_cases hrB:(4294967296:Int)≤(r:Int)+(yn1:Int)
     ·go_upto_region 27 with (fail)
      have HQB:=Lib.hid hqB
      clear hqB
      go_wp2_with fail
      go_meet
      case rel=>
       obtain⟨a,v,b,c⟩:=Guess.fin N2.out N3.out hyylo NV.out N7.out HS.out (bT ⟨by have:=HQB.out;omega,by omega⟩)
       exact⟨q-1,r+yn1,v,fP (h:=(by have:=HQB.out;omega)),fP,a,b,c,rfl⟩
     ·go_upto_region 27 with (fail)
      have HQB:=Lib.hid hqB
      clear hqB
      go_wp2_with fail
      go_round
      case rel=>exact⟨q-1,r+yn1,fP (h:=(by have:=HQB.out;omega)),fP,by omega,by omega,HS⟩
      case measure=>have:=HQB.out;simp [intOf];omega
    ·have hp1:(q:Int)*(yn0:Int)≤18446744065119617025:=by
      have h:q*yn0≤4294967295*4294967295:=j3 (by omega) (by omega)
      rw [←l5];omega
     have hp0:0≤(q:Int)*(yn0:Int):=Int.mul_nonneg (by omega) (by omega)
     by_cases hT:4294967296*r+un0<q*yn0
     ·have hTi:4294967296*(r:Int)+(un0:Int)<(q:Int)*(yn0:Int):=by rw [←l5];omega
      have hqp:=Guess.pos (B:=4294967296) (r:=r) (un:=un0) (by omega) (bT hT)
      have HS:=Lib.hid (hG.out.step N7.out (by rw [←N2.out];exact NV.out) (bT hT) hqp)
      clear hT
      by_cases hrB:(4294967296:Int)≤(r:Int)+(yn1:Int)
      ·go_wp2_with fail
       go_meet
       case rel=>
        obtain⟨a,v,b,c⟩:=Guess.fin N2.out N3.out hyylo NV.out N7.out HS.out (bT ⟨by omega,by omega⟩)
        exact⟨q-1,r+yn1,v,fP,fP,a,b,c,rfl⟩
      ·go_wp2_with fail
       go_round
       case rel=>exact⟨q-1,r+yn1,fP,fP,by omega,by omega,HS⟩
       case measure=>simp [intOf];omega
     ·have hTi:¬4294967296*(r:Int)+(un0:Int)<(q:Int)*(yn0:Int):=by rw [←l5];omega
      have HT:=Lib.hid (show q*yn0≤4294967296*r+un0 by omega)
      clear hT
      go_wp2_with fail
      go_meet
      case rel=>
       obtain⟨a,v,b,c⟩:=Guess.fin N2.out N3.out hyylo NV.out N7.out hG.out (cD ⟨by omega,HT.out⟩)
       exact⟨q,r,v,rfl,rfl,a,b,c,rfl⟩
  case rest=>
   obtain⟨qb,rb,r,rfl,rfl,hqb,hr,hry,rfl⟩:=hcut
   clear hq2' hrh2'
   have HR:=Lib.hid hry
   clear hry
   go_wp2_with (first
    | ((with_reducible refine cK (some 126) ?_);refine dC rfl rfl rfl rfl rfl qB ?_;intro r126 h126 hb126)
    | ((with_reducible refine cK (some 128) ?_);refine dC rfl rfl rfl rfl rfl mO ?_;intro r128 h128 hb128)
    | ((with_reducible refine cK (some 131) ?_);refine dC rfl rfl rfl rfl rfl qB ?_;intro r131 h131 hb131)
    | ((with_reducible refine cK (some 132) ?_);refine dC rfl rfl rfl rfl rfl (oQ (by omega)) ?_;intro r' hr' hbr';obtain rfl:r'=r:=CT h126.out h128.out h131.out hr'.out hr.out (by have:=HR.out;omega))
    | ((with_reducible refine cK (some 134) ?_);refine dC rfl rfl rfl rfl rfl (jS hs64) ?_ (hf:=(by have:=eR r' (2^s);omega));intro rr hrr hrrb))
   go_ret2
   obtain⟨e1,e2⟩:=VL (by omega) N1.out N8.out N9.out hv.out hr.out HR.out
   have hy0:0<y:=by omega
   refine⟨_,_,e1.symm,e2.symm,by omega,?_,?_,0,rfl⟩
   ·rw [←e2];exact fV _ hy0
   ·rw [←hrr.out];simp
theorem JS {lo:Nat}(hlt:hi<y)(hlo:lo≤18446744073709551615)(hyb:y≤18446744073709551615)(w:a0):aQ aH 264 #[i5 (hi:Int),i5 (lo:Int),i5 (y:Int)] w (CE hi lo y w):=by
 rcases kC hi with e | e
 ·subst e;exact VI hlo (by omega) hyb w
 ·exact VJ e hlt hlo hyb w
end
section
def nb (b:Nat):List Nat→Nat
 | []=>0
 | x::r=>x+b*nb b r
def Wfb (b:Nat)(xs:List Nat):Prop:=∀x∈xs,x<b
theorem vM (b:Nat):nb b []=0:=rfl
theorem kG (b x:Nat)(r:List Nat):nb b (x::r)=x+b*nb b r:=rfl
theorem sQ (xs:List Nat):nv xs=nb WB xs:=by
 induction xs with
 | nil=>rfl
 | cons x r ih=>rw [mS,kG,ih]
theorem sS (b:Nat)(xs ys:List Nat):nb b (xs++ys)=nb b xs+b^xs.length*nb b ys:=by
 induction xs with
 | nil=>simp [nb]
 | cons x r ih=>
  simp only [u6,nb,ih,gD,dJ]
  rw [cZ,←bY,cY b (b^r.length),j5]
theorem nS (h:Wfb b xs):nb b xs<b^xs.length:=by
 induction xs with
 | nil=>simp [nb]
 | cons x r ih=>
  have hx:x<b:=h x (by simp)
  have hr:=ih (fun y e=>h y (by simp [e]))
  simp only [nb,gD,dJ]
  have:b*nb b r+b≤b*b^r.length:=by
   have:=fN b (nB hr)
   rw [rZ] at this;exact this
  rw [cY (b^r.length)]
  omega
theorem vK (b n:Nat):nb b (cJ n 0)=0:=by
 induction n with
 | zero=>rfl
 | succ n ih=>simp [xY,nb,ih]
theorem AB (b:Nat)(xs:List Nat)(x:Nat):nb b (xs++ [x])=nb b xs+b^xs.length*x:=by
 rw [sS];simp [nb]
def oA (b:Nat):Nat→Nat→List Nat
 | 0,_=> []
 | f+1,n=>if n=0 then [] else n%b::oA b f (n/b)
def db (b n:Nat):List Nat:=oA b n n
theorem J7 (hb:2≤b)(f:Nat):∀(g n:Nat),n≤f→n≤g→oA b f n=oA b g n:=by
 induction f with
 | zero=>
  intro g n h _
  have:n=0:=by omega
  subst this
  cases g <;> simp [oA]
 | succ f ih=>
  intro g n h _
  by_cases h0:n=0
  ·subst h0;cases g <;> simp [oA]
  ·cases g with
   | zero=>omega
   | succ g=>
    have e:n/b<n:=jM (by omega) (by omega)
    simp only [oA,h0,if_false]
    rw [ih g (n/b) (by omega) (by omega)]
theorem jK (b:Nat):db b 0= []:=rfl
theorem kU (hb:2≤b)(h:n≠0):db b n=n%b::db b (n/b):=by
 have e:n/b<n:=jM (by omega) (by omega)
 unfold db
 conv=>lhs;rw [J7 hb n (n+1) n (aX _) (by omega)]
 simp only [oA,h,if_false]
 rw [J7 hb n (n/b) (n/b) (by omega) (aX _)]
theorem BO (hb:2≤b){p:Nat→Prop}(h0:p 0)(hs:∀n,n≠0→p (n/b)→p n)(n:Nat):p n:=by
 induction n using pQ with
 | ind n ih=>
  by_cases h:n=0
  ·subst h;exact h0
  ·exact hs n h (ih _ (jM (by omega) (by omega)))
theorem iO (hb:2≤b)(n:Nat):nb b (db b n)=n:=by
 induction n using BO hb with
 | h0=>rfl
 | hs n h ih=>rw [kU hb h,kG,ih];exact jF n b
theorem kX (hb:2≤b)(n:Nat):Wfb b (db b n):=by
 induction n using BO hb with
 | h0=>intro x hx;cases hx
 | hs n h ih=>
  rw [kU hb h]
  intro x hx
  cases mE.1 hx with
  | inl e=>subst e;exact fV _ (by omega)
  | inr e=>exact ih x e
theorem BP (hb:2≤b):db b n= []↔n=0:=by
 constructor
 ·intro h;rw [←iO hb n,h];rfl
 ·rintro rfl;rfl
theorem rA (hb:2≤b):(db b n).length=0↔n=0:=by
 rw [pV];exact BP hb
theorem J6 {b:Nat}(hb:2≤b):∀{xs:List Nat},Wfb b xs→(∀h:xs≠ [],xs.getLast h≠0)→db b (nb b xs)=xs
 | [],_,_=>rfl
 | [x],hw,ht=>by
  have hx:x<b:=hw x (by simp)
  have h0:x≠0:=ht (by simp)
  simp only [nb,gJ,eS]
  rw [kU hb h0,fO hx,gV hx,jK]
 | x::y::r,hw,ht=>by
  have f:0<b:=by omega
  have hx:x<b:=hw x (by simp)
  have ih:=J6 hb (xs:=y::r) (fun z p=>hw z (by simp [p])) (fun h=>by have:=ht (by simp);simpa [List.getLast_cons] using this)
  have o:nb b (y::r)≠0:=by
   intro e
   rw [e,jK] at ih
   cases ih
  have hn:nb b (x::y::r)≠0:=by
   rw [kG]
   have:0<b*nb b (y::r):=iI f (by omega)
   omega
  rw [kU hb hn,kG,xU,fO hx,xV _ _ f,gV hx,eQ,ih]
theorem BN (hb:2≤b)(hw:Wfb b xs)(ht:xs.length=0∨xs.getD (xs.length-1) 0≠0):db b (nb b xs)=xs:=by
 refine J6 hb hw (fun h=>?_)
 have hl:xs.length≠0:=by simpa using h
 rcases ht with h' | h'
 ·exact absurd h' hl
 ·rw [KG]
  have:xs.length-1<xs.length:=by omega
  rwa [bE,bR this,lJ] at h'
theorem wU (hb:2≤b)(n:Nat):(db b n).length=0∨(db b n).getD ((db b n).length-1) 0≠0:=by
 induction n using BO hb with
 | h0=>exact cD rfl
 | hs n h ih=>
  right
  rw [kU hb h]
  rcases ih with h' | h'
  ·have h2:n/b=0:=(rA hb).1 h'
   have o:n<b:=(Nat.div_eq_zero_iff.1 h2).resolve_left (by omega)
   rw [h2,jK]
   simp only [List.length_singleton,Nat.sub_self]
   show n%b≠0
   rw [fO o];exact h
  ·have hl:(db b (n/b)).length≠0:=fun e=>by
    rw [pV.1 e] at h';simp at h'
   obtain⟨k,f⟩:∃k,(db b (n/b)).length=k+1:=⟨_,(Nat.succ_pred_eq_of_ne_zero hl).symm⟩
   have e:(db b (n/b)).length-1=k:=by omega
   rw [e] at h'
   rw [gD,f,pU]
   simpa using h'
theorem jE (h:Wfb b xs)(k:Nat):Wfb b (xs.take k):=fun x hx=>h x (oI hx)
theorem C5 (h:Wfb b xs)(k:Nat):Wfb b (xs.drop k):=fun x hx=>h x (nF hx)
theorem xJ (h:Wfb b xs)(k:Wfb b ys):Wfb b (xs++ys):=fun x hx=>by
 rcases mF.1 hx with e | e
 ·exact h x e
 ·exact k x e
theorem iT (h:Wfb b xs)(i:Nat)(hb:0<b:=by decide):xs.getD i 0<b:=by
 by_cases hi:i<xs.length
 ·rw [bE,bR hi];exact h _ (lO hi)
 ·rw [bE,gW (by omega)];exact hb
theorem C4 (b:Nat):Wfb b []:=fun x hx=>by cases hx
theorem pK (hb:0<b)(n:Nat):Wfb b (cJ n 0):=fun x hx=>by rw [(CJ.1 hx).2];exact hb
theorem WY (h:x<b):Wfb b [x]:=fun y e=>by rw [mD.1 e];exact h
theorem iF (h:Wfb b xs)(i:Nat)(hx:x<b:=by omega):Wfb b (xs.set i x):=fun y f=>by
 rcases KF f with e | e
 ·exact h y e
 ·rw [e];exact hx
theorem hJ (b:Nat)(xs:List Nat)(k:Nat)(h:k<xs.length):nb b (xs.take (k+1))=nb b (xs.take k)+b^k*xs.getD k 0:=by
 rw [sF xs k h 0,AB,dE,g7 (by omega)]
theorem l9 (b:Nat)(xs:List Nat)(k:Nat)(h:k≤xs.length:=by omega):nb b xs=nb b (xs.take k)+b^k*nb b (xs.drop k):=by
 have:=sS b (xs.take k) (xs.drop k)
 rw [s0,dE,g7 h] at this
 exact this
theorem vL (b:Nat)(xs:List Nat)(k:Nat)(h:k<xs.length)(h0:xs.getD k 0=0):nb b (xs.take (k+1))=nb b (xs.take k):=by
 rw [hJ b xs k h,h0];simp
theorem qR (h:Wfb b xs)(k:Nat)(hb:0<b:=by decide):nb b (xs.take k)<b^k:=by
 have h1:=nS (jE h k)
 have h2:b^(xs.take k).length≤b^k:=eW hb (by rw [dE];omega)
 omega
theorem wV (hb:2≤b)(hw:Wfb b xs)(hk:k≤xs.length)(hv:nb b (xs.take k)=nb b xs)(ht:k=0∨xs.getD (k-1) 0≠0):db b (nb b xs)=xs.take k:=by
 have hl:(xs.take k).length=k:=by rw [dE];omega
 rw [←hv]
 refine BN hb (jE hw k) ?_
 rw [hl]
 rcases ht with h | h
 ·exact cD h
 ·by_cases h0:k=0
  ·exact cD h0
  ·refine bT ?_
   rw [bE,iW,if_pos (by omega),←bE]
   exact h
theorem jI (hb : 2 ≤ b)(h : n < b ^ k): (db b n).length ≤ k := by
  induction k generalizing n with
  | zero => have : n = 0 := by simp at h; omega
            subst this; simp [jK]
  | succ k ih =>
    by_cases h0 : n = 0
    · subst h0; simp [jK]
    · rw [kU hb h0, gD]
      have : n / b < b ^ k := by rw [tZ (by omega)]; rwa [← dJ]
      have := ih this
      omega
theorem AN (hb:2≤b)(n:Nat):n<b^(db b n).length:=by
 have:=nS (kX hb n)
 rwa [iO hb] at this
theorem FG (hb:2≤b)(h:n≠0):b^((db b n).length-1)≤n:=by
 refine oH (fun f=>?_)
 have h1:=jI hb f
 have h2:(db b n).length≠0:=fun e=>h ((rA hb).1 e)
 omega
theorem AX (hb:2≤b)(h:x≤y):(db b x).length≤(db b y).length:=jI hb (jL h (AN hb y))
theorem BM {b:Nat}(hb:2≤b):∀{xs:List Nat}{m:Nat},Wfb b xs→m=(db b (nb b xs)).length→db b (nb b xs)=xs.take m
 | [],m,_,h=>by simp [nb,jK]
 | x::r,m,hw,h=>by
  have hx:x<b:=hw x (by simp)
  by_cases h0:nb b (x::r)=0
  ·rw [h0,jK] at h⊢
   subst h;rfl
  ·have f:nb b (x::r)/b=nb b r:=by rw [kG,xV _ _ (by omega),gV hx,eQ]
   have e:nb b (x::r)%b=x:=by rw [kG,xU,fO hx]
   rw [kU hb h0,f,e] at h⊢
   obtain⟨k,rfl⟩:∃k,m=k+1:=⟨m-1,by rw [h,gD];rfl⟩
   rw [gD] at h
   rw [xW,←BM hb (fun y o=>hw y (by simp [o])) (by omega)]
theorem FX (hb:0<b)(hx:Wfb b xs)(hkx:k<xs.length)(hky:k<ys.length)(h:xs.getD k 0<ys.getD k 0):nb b (xs.take (k+1))<nb b (ys.take (k+1)):=by
 rw [hJ b xs k hkx,hJ b ys k hky]
 have h1:=qR hx k (hb:=hb)
 have h2:b^k*xs.getD k 0+b^k≤b^k*ys.getD k 0:=by
  have:=fN (b^k) (nB h)
  rwa [rZ] at this
 omega
theorem VX (hkx:k<xs.length)(hky:k<ys.length)(h:xs.getD k 0=ys.getD k 0):cX (nb b (xs.take (k+1))) (nb b (ys.take (k+1)))=cX (nb b (xs.take k)) (nb b (ys.take k)):=by
 rw [hJ b xs k hkx,hJ b ys k hky,h]
 unfold cX
 simp only [KE,KD]
theorem GB (hb:2≤b)(h:(db b x).length<(db b y).length):x<y:=by
 refine nD (fun e=>?_)
 have:=AX hb e
 omega
theorem QS (b:Nat)(xs:List Nat)(n:Nat):nb b (xs++cJ n 0)=nb b xs:=by
 rw [sS,vK,gJ,eS]
theorem D6 (hw:Wf xs)(h:xs.length=0∨WB^(xs.length-1)≤nv xs):wd (nv xs)=xs:=by
 have h1:(wd (nv xs)).length=xs.length:=by
  have h2:=gT hw
  rcases h with h | h
  ·omega
  ·have e:WB^(xs.length-1)<WB^(wd (nv xs)).length:=jL h (kH _)
   have:=(xS (by decide:1<WB)).1 e
   omega
 rw [mM hw h1.symm,List.take_length]
theorem G0 (b:Nat)(es:List Nat)(p m:Nat):nb b ((es.drop p).take (m+1))=es.getD p 0+b*nb b ((es.drop (p+1)).take m):=by
 by_cases h:p<es.length
 ·rw [mH h,xW,kG,bE,bR h];rfl
 ·rw [List.drop_eq_nil_of_le (by omega),List.drop_eq_nil_of_le (by omega),bE,gW (by omega)]
  simp [nb]
theorem FZ (b:Nat)(es:List Nat)(p m:Nat)(h:p≤es.length):nb b (es.take (p+m))=nb b (es.take p)+b^p*nb b ((es.drop p).take m):=by
 have e:es.take (p+m)=es.take p++(es.drop p).take m:=by rw [List.take_add]
 rw [e,sS,dE,g7 h]
theorem wD (h:i<k):(xs.take k).getD i 0=xs.getD i 0:=by
 simp only [bE,iW,if_pos h]
theorem rH (h:i<l.length)(x:Nat):(l.set i x).getD i 0=x:=by simp [bE,h]
theorem getD_set_ne (h:i≠j)(x:Nat):(l.set i x).getD j 0=l.getD j 0:=by simp [bE,List.getElem?_set_ne h]
theorem nR (b:Nat)(h:i<l.length)(x:Nat):nb b ((l.set i x).take (i+1))=nb b (l.take i)+b^i*x:=by
 rw [hJ b _ i (by rw [List.length_set];exact h),rH h,List.take_set_of_le (aX i)]
theorem sR (b:Nat):∀{l:List Nat}{k:Nat},k<l.length→∀x,nb b (l.set k x)+b^k*l.getD k 0=nb b l+b^k*x
 | y::r,0,_,x=>by simp [nb];omega
 | y::r,k+1,h,x=>by
  have ih:=sR b (l:=r) (k:=k) (by simpa using h) x
  simp only [List.set_cons_succ,kG,List.getD_cons_succ,dJ]
  have e:b*(nb b (r.set k x)+b^k*r.getD k 0)=b*(nb b r+b^k*x):=by rw [ih]
  simp only [cZ,←bY,cY b (b^k)] at e
  omega
theorem nP (h:k<l.length)(x:Nat):nv (l.set k x)+WB^k*l.getD k 0=nv l+WB^k*x:=by
 rw [sQ,sQ];exact sR WB h x
theorem zY (h:i<l.length)(x:Nat):nv ((l.set i x).take (i+1))=nv (l.take i)+WB^i*x:=by
 rw [eL _ i (by rw [List.length_set];exact h),rH h,List.take_set_of_le (aX i)]
def kD (ds:List Nat)(i t:Nat):Nat:=nb 65536 ((ds.drop (max i (4*t))).take (4*t+4-max i (4*t)))
theorem L3:kD ds j (j/4)=ds.getD j 0+65536*kD ds (j+1) (j/4):=by
 unfold kD
 have f:max j (4*(j/4))=j:=by omega
 have e:max (j+1) (4*(j/4))=j+1:=by omega
 rw [f,e,show 4*(j/4)+4-j=(4*(j/4)+4-(j+1))+1 from by omega,G0]
theorem L4 {t:Nat}(h:t≠j/4):kD ds j t=kD ds (j+1) t:=by
 unfold kD
 rcases gP t (j/4) with h1 | h1
 ·rw [show 4*t+4-max j (4*t)=0 from by omega,show 4*t+4-max (j+1) (4*t)=0 from by omega];simp
 ·rw [show max j (4*t)=max (j+1) (4*t) from by omega]
theorem CS (hw:Wfb 65536 ds)(i t:Nat):kD ds i t<WB:=by
 unfold kD
 have h1:=qR (C5 hw (max i (4*t))) (4*t+4-max i (4*t)) (hb:=(by omega))
 have h2:65536^(4*t+4-max i (4*t))≤65536^4:=eW (by omega) (by omega)
 have e:WB=65536^4:=by decide
 omega
theorem L5 (hl:∀t,t<l.length→l.getD t 0=kD ds 0 t)(hn:ds.length≤4*l.length)(hm:4*l.length<ds.length+4):nv l=nb 65536 ds:=by
 have key:∀t,t≤l.length→nv (l.take t)=nb 65536 (ds.take (4*t)):=by
  intro t
  induction t with
  | zero=>intro _;rfl
  | succ t ih=>
   intro ht
   rw [eL l t (by omega),ih (by omega),hl t (by omega),show 4*(t+1)=4*t+4 from by omega,FZ 65536 ds (4*t) 4 (by omega)]
   unfold kD
   rw [show max 0 (4*t)=4*t from by omega,show 4*t+4-4*t=4 from by omega,show WB=65536^4 from by decide,←Nat.pow_mul]
 have h:=key l.length (aX _)
 rwa [List.take_length,List.take_of_length_le hn] at h
end
section
open Go.RowKit
theorem iB:(Tryz.prog.info? 65).map (fun i=>(i.zero,i.size,i.bytes))=some (some (i5 0),1,8):=by kernel_rfl
theorem yZ:(Tryz.prog.info? 65).map (·.size)=some 1:=by kernel_rfl
def j2 (w:a0)(m:Nat)(e:dR)(w':a0):Prop:=
 ∃A n cap,e= .returned (i9 A n cap)∧Hid (n=(wd m).length)∧Rd w' A n cap (wd m)∧Own w' w.heap.size 65 1 A n cap ((wd m).map bC)∧Ext w w'
theorem rO (hg:w.heap.size≤g)(hb:Bk w' g 65 (ys.map bC))(hl:ys.length=cap)(hn:n≤cap)(hc:cap≤maxLen)(hy:ys.take n=wd m)(hx:Ext w w'):j2 w m (.returned (i9 (some ⟨g,0,none⟩) n cap)) w':=by
 have e:n=(wd m).length:=by rw [←hy,dE];omega
 have f:Own w' w.heap.size 65 1 (some ⟨g,0,none⟩) n cap ((wd m).map bC):=
  Own.mk_ hg hb hn hc (by simpa using hl) (by rw [dK,←jN,hy])
 exact⟨_,_,_,rfl,e,f.rd (mX m),f,hx⟩
theorem X7 (hm:m=0)(hx:Ext w w'):j2 w m (.returned (i9 none 0 0)) w':=by
 subst hm
 exact⟨none,0,0,rfl,rfl,Rd.nil w',Own.nil w' _ _ _,hx⟩
def X4 (xs:List Nat)(n:Nat)(w:a0)(e:dR)(w':a0):Prop:=
 ∃m:Nat,Hid (m=(wd (nv xs)).length)∧m≤n∧e= .returned (a9 (m:Int))∧w=w'
theorem jZ (hx:Rd w A n cap xs)(hl:n≤1099511627776:=by omega):aQ aH 182 #[i9 A n cap] w (X4 xs n w):=by
 have hlen:=Lib.hid hx.len
 go_enter Tryz.func182,Tryz.ntmps182
 go_wp2_with fail
 go_loop [3] (fun u=>∃k:Nat,k≤n∧u= a9 (k:Int)∧nv (xs.take k)=nv xs) (fun u=>(intOf u).toNat)
 case atStart=>exact⟨n,aX _,rfl,by rw [←hlen.out,List.take_length]⟩
 case round=>
  obtain⟨k,hk,rfl,hv⟩:=hrel
  have HV:=Lib.hid hv
  clear hv
  by_cases h0:0<k
  ·obtain⟨a,x,rfl,hxk,hxb,hc⟩:=hx.get (i:=k-1) (by omega)
   by_cases hz:x=0
   ·subst hz
    go_wp2_with fail
    go_round
    case rel=>
     refine⟨k-1,by omega,by congr 1;omega,?_⟩
     rw [←HV.out,←oY xs (k-1) (by rw [hlen.out];omega) hxk.out,iH h0]
    case measure=>simp [intOf];omega
   ·have hzb:((x:Int)==0)=false:=by simp;omega
    go_wp2_with fail
    go_ret
    refine⟨k,?_,hk,rfl,rfl⟩
    have:=sB (k:=k) hx.wf (by rw [hlen.out];exact hk) HV.out (bT (by rw [hxk.out];exact hz))
    show k=_
    rw [this,dE,hlen.out];omega
  ·go_wp2_with fail
   go_ret
   refine⟨k,?_,hk,rfl,rfl⟩
   have:=sB (k:=k) hx.wf (by rw [hlen.out];exact hk) HV.out (cD (by omega))
   show k=_
   rw [this,dE,hlen.out];omega
theorem QT (hx:Rd w A n cap xs)(hl:n≤1099511627776):aQ aH 193 #[i9 A n cap] w (j2 w (nv xs)):=by
 have hlen:=Lib.hid hx.len
 go_enter Tryz.func193,Tryz.ntmps193
 go_wp2_with fail
 refine (jZ hx (hl:=hl)).mono ?_
 rintro e w' ⟨m,hm,hmn,rfl,rfl⟩
 have hmk:=kF (P:=aH) Tryz.underlying22 iB G (by decide) (m:Int) (by omega) (by omega)
 simp only [gX] at hmk
 go_wp2_with ((with_reducible refine cK (some 11) ?_);refine yG G (.tmp 9) (.tmp 10) 22 22 G G G Tryz.underlying22 yZ (Bk.new' _ _ _) (hx.rv.ext (aK.alloc _)) (fun _=>rfl) ?fit (xK xs) ?_;rotate_left;intro w1 hb1 hu1)
 case fit=>simp [uE]
 go_ret
 have e:wd (nv xs)=xs.take m:=by
  have h1:=hx.wf
  have h2:m≤xs.length:=by rw [hlen.out];exact hmn
  exact mM h1 hm.out
 refine rO (g:=w.heap.size) (ys:=xs.take m) (aX _) ?_ ?_ (aX _) (by rw [eA];omega) ?_ (hu1.ext ((Ext.refl w).alloc _) (aX _))
 ·have h:=hb1
  rw [uE,jY,←jN,yY,MW _ _ (by rw [List.length_replicate,dE,hlen.out];omega)] at h
  exact h
 ·rw [dE,hlen.out];omega
 ·rw [List.take_take,Nat.min_self,e]
theorem k0 (hx:Rd w A n cap xs)(hl:n≤1099511627776:=by omega):aQ aH 141 #[i9 A n cap] w (j2 w (nv xs)):=by
 go_enter Tryz.func141,Tryz.ntmps141
 go_wp2_with fail
 refine (QT hx hl).mono ?_
 rintro e w' ⟨A1,n1,c1,rfl,h⟩
 go_wp2_with fail
 go_ret
 exact⟨A1,n1,c1,rfl,h⟩
def rR (a b:Nat)(w:a0)(e:dR)(w':a0):Prop:=
 ∃c:Int,Hid (c=cX a b)∧ -1≤c∧c≤1∧e= .returned (a9 c)∧Ext w w'
theorem mA {a:Nat}{c:Int}(h:cX a b=c)(hx:Ext w w'):rR a b w (.returned (a9 c)) w':=by
 subst h
 exact⟨_,rfl,(JG a b).1,(JG a b).2,rfl,hx⟩
theorem qS (hx:Rd w A n cap xs)(hy:Rd w B n' cap' ys)(hl:n≤1099511627776:=by omega)(hl':n'≤1099511627776:=by omega):aQ aH 144 #[i9 A n cap,i9 B n' cap'] w (rR (nv xs) (nv ys) w):=by
 have hlx:=Lib.hid hx.len
 have hly:=Lib.hid hy.len
 go_enter Tryz.func144,Tryz.ntmps144
 go_wp2_with fail
 refine (jZ hx (hl:=hl)).mono ?_
 rintro e w' ⟨m,hm,hmn,rfl,rfl⟩
 go_wp2_with fail
 refine (jZ hy (hl:=hl')).mono ?_
 rintro e w' ⟨k,hk,hkn,rfl,rfl⟩
 rcases Nat.lt_trichotomy m k with hlt | rfl | hgt
 ·have h1:((m:Int) != (k:Int))=true:=by simp;omega
  go_wp2_with fail
  go_ret
  exact mA (wZ (G9 (by rw [←hm.out,←hk.out];exact hlt))) (Ext.refl w)
 ·have h1:((m:Int) != (m:Int))=false:=by simp
  go_wp2_with fail
  go_loopw [7] (fun u wr=>∃i:Nat,i≤m∧u= a9 ((i:Int)-1)∧Hid (cX (nv (xs.take i)) (nv (ys.take i))=cX (nv xs) (nv ys))∧Ext w wr) (fun u wr=>(intOf u+1).toNat)
  case atStart=>exact⟨m,aX _,rfl,(show _=_ by rw [nO hx.wf hm.out,nO hy.wf hk.out]),Ext.refl w⟩
  case round=>
   obtain⟨i,hi,rfl,hv,hext⟩:=hrel
   by_cases h0:0<i
   ·obtain⟨a,x,rfl,hxk,hxb,hc⟩:=(hx.ext hext).get (i:=i-1) (by omega)
    obtain⟨b,y,rfl,hyk,hyb,hd⟩:=(hy.ext hext).get (i:=i-1) (by omega)
    have hi':i-1+1=i:=by omega
    have hcast:((i-1:Nat):Int)=(i:Int)-1:=by omega
    have b1:(0:Int)≤(i:Int)-1:=by omega
    rcases Nat.lt_trichotomy x y with hlt | rfl | hgt
    ·go_wp2_with fail
     go_quiet (fail)
     go_wp2_with fail
     go_ret
     refine mA ?_ (by repeat (first | exact Ext.refl _ | assumption | apply Ext.drewN | apply Ext.drew | apply Ext.alloc))
     rw [←hv.out,←hi']
     exact wZ (FS hx.wf (by rw [hlx.out];omega) (by rw [hly.out];omega) (by rw [hxk.out,hyk.out];exact hlt))
    ·go_wp2_with fail
     go_quiet (fail)
     go_wp2_with fail
     go_quiet (fail)
     go_wp2_with fail
     go_roundw
     case rel=>
      refine⟨i-1,by omega,by congr 1;omega,?_,(by repeat (first | exact Ext.refl _ | assumption | apply Ext.drewN | apply Ext.drew | apply Ext.alloc))⟩
      show _=_
      rw [←hv.out,←VY (k:=i-1) (by rw [hlx.out];omega) (by rw [hly.out];omega) (by rw [hxk.out,hyk.out]),hi']
     case measure=>simp [intOf];omega
    ·go_wp2_with fail
     go_quiet (fail)
     go_wp2_with fail
     go_quiet (fail)
     go_wp2_with fail
     go_ret
     refine mA ?_ (by repeat (first | exact Ext.refl _ | assumption | apply Ext.drewN | apply Ext.drew | apply Ext.alloc))
     rw [←hv.out,←hi']
     exact x7 (FS hy.wf (by rw [hly.out];omega) (by rw [hlx.out];omega) (by rw [hxk.out,hyk.out];exact hgt))
   ·go_wp2_with fail
    go_ret
    refine mA ?_ hext
    rw [←hv.out,show i=0 from by omega]
    simp [JF]
 ·have h1:((m:Int) != (k:Int))=true:=by simp;omega
  go_wp2_with fail
  go_ret
  exact mA (x7 (G9 (by rw [←hm.out,←hk.out];exact hgt))) (Ext.refl w)
theorem JX {c:Nat}(hli:i<l.length)(hxi:i<xs.length)(hmy:m≤ys.length)(h:nv (l.take i)+WB^i*c=nv (xs.take i)+nv (ys.take (min i m)))(hx:xs.getD i 0=x)(hy:(if i<m then ys.getD i 0 else 0)=y)(hs:s+WB*d=x+y+c):nv ((l.set i s).take (i+1))+WB^(i+1)*d=nv (xs.take (i+1))+nv (ys.take (min (i+1) m)):=by
 have p:(l.set i s).getD i 0=s:=by simp [bE,hli]
 have o:(l.set i s).take i=l.take i:=by rw [List.take_set_of_le (aX i)]
 rw [eL _ i (by rw [List.length_set];exact hli),p,o,eL xs i hxi,hx]
 have q:nv (ys.take (min (i+1) m))=nv (ys.take (min i m))+WB^i*y:=by
  by_cases e:i<m
  ·rw [if_pos e] at hy
   rw [g7 (by omega),g7 (by omega),eL ys i (by omega),hy]
  ·rw [if_neg e] at hy
   rw [Nat.min_eq_right (by omega),Nat.min_eq_right (by omega),←hy,gJ,eS]
 rw [q,dJ,bY]
 have f:WB^i*(s+WB*d)=WB^i*(x+y+c):=by rw [hs]
 simp only [cZ] at f
 omega
def XG (w:a0)(S:Nat)(u v:aD)(wc:a0):Prop:=
 ∃A n cap xs B n' cap' ys,u= i9 A n cap∧v= i9 B n' cap'∧Rd wc A n cap xs∧Rd wc B n' cap' ys∧n≤1099511627775∧n'≤1099511627775∧Hid (nv xs+nv ys=S)∧(wd (nv ys)).length≤(wd (nv xs)).length∧Ext w wc
theorem AE (hx:Rd w A n cap xs)(hl:n≤1099511627775)(hy:Rd w B n' cap' ys)(hl':n'≤1099511627775):aQ aH 145 #[i9 A n cap,i9 B n' cap'] w (j2 w (nv xs+nv ys)):=by
 go_enter Tryz.func145,Tryz.ntmps145
 go_upto_if 15 with (fail)
 refine (jZ hx).mono ?_
 rintro e w' ⟨m,hm,hmn,rfl,rfl⟩
 go_upto_if 15 with (fail)
 refine (jZ hy).mono ?_
 rintro e w' ⟨k,hk,hkn,rfl,rfl⟩
 go_upto_if 15 with (fail)
 go_cut [0,1] (fun u v wc=>XG w (nv xs+nv ys) u v wc)
 case first=>
  by_cases hlt:m<k
  ·go_wp2_with fail
   go_meet
   case rel=>exact⟨B,n',cap',ys,A,n,cap,xs,rfl,rfl,hy,hx,hl',hl,Nat.add_comm _ _,by rw [←hm.out,←hk.out];omega,Ext.refl w⟩
  ·go_wp2_with fail
   go_meet
   case rel=>exact⟨A,n,cap,xs,B,n',cap',ys,rfl,rfl,hx,hy,hl,hl',rfl,by rw [←hm.out,←hk.out];omega,Ext.refl w⟩
 case rest=>
  clear hm hk hmn hkn hx hy hl hl'
  obtain⟨A,n,cap,xs,B,n',cap',ys,rfl,rfl,hx,hy,hl,hl',hS,hle,hext⟩:=hcut
  go_wp2_with fail
  refine (jZ hx).mono ?_
  rintro e w' ⟨m,hm,hmn,rfl,rfl⟩
  go_wp2_with fail
  refine (jZ hy).mono ?_
  rintro e w' ⟨k,hk,hkn,rfl,rfl⟩
  have hkm:k≤m:=by rw [hm.out,hk.out];exact hle
  have hlx:=Lib.hid hx.len
  have hly:=Lib.hid hy.len
  have hmk:=kF (P:=aH) Tryz.underlying22 iB G (by decide) ((m:Int)+1) (by omega) (by omega)
  have et:((m:Int)+1).toNat=m+1:=by omega
  rw [et] at hmk
  clear et
  go_wp2_with fail
  clear hmk
  obtain⟨g,hg⟩:∃g,wc.heap.size=g:=⟨_,rfl⟩
  rw [hg]
  obtain⟨wa,hwa⟩:∃wa,wc.alloc (.cells (zc (.int .u64 0) (m+1)) 65)=wa:=⟨_,rfl⟩
  rw [hwa]
  have hbk:Bk wa g 65 ((cJ (m+1) 0).map bC):=by
   rw [←hwa,←hg,←jY];exact Bk.new' _ _ _
  have hea:Ext wc wa:=by rw [←hwa];exact (Ext.refl wc).alloc _
  have hgs:w.heap.size≤g:=by rw [←hg];exact hext.size
  have hgc:wc.heap.size≤g:=by rw [hg];exact aX _
  clear hg hwa
  go_loopw [26,8] (fun u v wr=>∃(i c:Nat) (l:List Nat),i≤m∧c≤1∧u= a9 (i:Int)∧v= i5 (c:Int)∧Hid (l.length=m+1)∧Wf l∧Bk wr g 65 (l.map bC)∧
   Hid (nv (l.take i)+WB^i*c=nv (xs.take i)+nv (ys.take (min i k)))∧Ext wc wr) (fun u v wr=>m-(intOf u).toNat)
  case atStart=>exact⟨0,0,_,bJ _,bJ _,rfl,rfl,List.length_replicate,mW _,hbk,by simp [Hid,nv],hea⟩
  case round=>
   obtain⟨i,c,l,hi,hc,rfl,rfl,hll,hwl,hb,hv,hr⟩:=hrel
   clear hbk hea
   by_cases him:i<m
   ·obtain⟨a,x,rfl,hxk,hxb,hcx⟩:=(hx.ext hr).get (i:=i) (by omega)
    obtain⟨o,ho,_,hco⟩:=hb.word hwl (i:=i) (by rw [hll.out];omega)
    have hfr:=hb.frozen i
    by_cases hik:i<k
    ·obtain⟨b,y,rfl,hyk,hyb,hcy⟩:=(hy.ext hr).get (i:=i) (by omega)
     go_wp2_with ((with_reducible refine cK (some 45) ?_);refine CW G (.tmp 42) (.tmp 43) (.tmp 44) G x y c G G G hc hxb hyb ?_;intro s d hs hsb hd)
     go_roundw
     case rel=>exact⟨i+1,d,_,by omega,hd,by go_num,rfl,by show _=_;rw [List.length_set];exact hll.out,gO hwl i (by rw [cC];omega),by rw [←dP];exact hb.set i _,
      JX (by rw [hll.out];omega) (by rw [hlx.out];omega) (by rw [hly.out];omega) hv.out hxk.out (by rw [if_pos hik];exact hyk.out) hs.out,hr.setCell hgc _⟩
     case measure=>simp [intOf];omega
    ·go_wp2_with ((with_reducible refine cK (some 45) ?_);refine CW G (.tmp 42) (.tmp 43) (.tmp 44) G x 0 c G G G hc hxb (by omega) ?_;intro s d hs hsb hd)
     go_roundw
     case rel=>exact⟨i+1,d,_,by omega,hd,by go_num,rfl,by show _=_;rw [List.length_set];exact hll.out,gO hwl i (by rw [cC];omega),by rw [←dP];exact hb.set i _,
      JX (by rw [hll.out];omega) (by rw [hlx.out];omega) (by rw [hly.out];omega) hv.out hxk.out (by rw [if_neg hik]) hs.out,hr.setCell hgc _⟩
     case measure=>simp [intOf];omega
   ·obtain rfl:i=m:=by omega
    obtain⟨o,ho,_,hco⟩:=hb.word hwl (i:=i) (by rw [hll.out];omega)
    have hfr:=hb.frozen i
    have hb2:=hb.set i (i5 (c:Int))
    rw [dP] at hb2
    have hll2:Hid ((l.set i c).length=i+1):=by show _=_;rw [List.length_set];exact hll.out
    have hwl2:Wf (l.set i c):=gO hwl i (by rw [cC];omega)
    have hr2:Rd (wr.setCell ⟨g,i,none⟩ (i5 (c:Int))) (some ⟨g,0,none⟩) (i+1) (i+1) (l.set i c):=by
     have:=hb2.rd hwl2 (o:=0) (n:=i+1) (cap:=i+1) (aX _) (by rw [hll2.out];omega) (by rw [eA];omega)
     rwa [gQ,List.take_of_length_le (by rw [hll2.out];omega)] at this
    have hval:Hid (nv (l.set i c)=nv xs+nv ys):=by
     show _=_
     have e1:(l.set i c).getD i 0=c:=by
      have:=hll.out
      simp [bE,this]
     have e2:(l.set i c).take i=l.take i:=by rw [List.take_set_of_le (aX i)]
     have e3:=eL (l.set i c) i (by rw [hll2.out];omega)
     rw [e1,e2,List.take_of_length_le (by rw [hll2.out];omega),hv.out,Nat.min_eq_right hkm] at e3
     rw [e3,nO hx.wf hm.out,nO hy.wf hk.out]
    go_wp2_with fail
    refine (jZ hr2).mono ?_
    rintro e w' ⟨q,hq,hqn,rfl,rfl⟩
    go_wp2_with fail
    go_ret
    rw [←hS.out,←hval.out]
    exact rO (ys:=l.set i c) hgs hb2 hll2.out hqn (by rw [eA];omega) (mM hwl2 hq.out).symm ((hext.trans hr).setCell hgs _)
def tP (w:a0)(m:Nat)(er:Int)(e:dR)(w':a0):Prop:=
 ∃A n cap,e= .returned (.tuple #[i9 A n cap,a9 er])∧Hid (n=(wd m).length)∧Rd w' A n cap (wd m)∧Own w' w.heap.size 65 1 A n cap ((wd m).map bC)∧Ext w w'
theorem C9 (h:j2 w m (.returned (i9 A n cap)) w'):tP w m er (.returned (.tuple #[i9 A n cap,a9 er])) w':=by
 obtain⟨A',n',c',he,r⟩:=h
 cases he
 exact⟨_,_,_,rfl,r⟩
theorem DU {c:Nat}(hli:i<l.length)(hxi:i<xs.length)(hmy:m≤ys.length)(h:nv (l.take i)+nv (ys.take (min i m))=nv (xs.take i)+WB^i*c)(hx:xs.getD i 0=x)(hy:(if i<m then ys.getD i 0 else 0)=y)(hs:s+y+c=x+WB*d):nv ((l.set i s).take (i+1))+nv (ys.take (min (i+1) m))=nv (xs.take (i+1))+WB^(i+1)*d:=by
 have p:(l.set i s).getD i 0=s:=by simp [bE,hli]
 have o:(l.set i s).take i=l.take i:=by rw [List.take_set_of_le (aX i)]
 rw [eL _ i (by rw [List.length_set];exact hli),p,o,eL xs i hxi,hx]
 have q:nv (ys.take (min (i+1) m))=nv (ys.take (min i m))+WB^i*y:=by
  by_cases e:i<m
  ·rw [if_pos e] at hy
   rw [g7 (by omega),g7 (by omega),eL ys i (by omega),hy]
  ·rw [if_neg e] at hy
   rw [Nat.min_eq_right (by omega),Nat.min_eq_right (by omega),←hy,gJ,eS]
 rw [q,dJ,bY]
 have f:WB^i*(s+y+c)=WB^i*(x+WB*d):=by rw [hs]
 simp only [cZ] at f
 omega
theorem G2 (hx:Rd w A n cap xs)(hl:n≤1099511627775)(hy:Rd w B n' cap' ys)(hl':n'≤1099511627775)(hle:nv ys≤nv xs):aQ aH 146 #[i9 A n cap,i9 B n' cap'] w (tP w (nv xs-nv ys) 0):=by
 go_enter Tryz.func146,Tryz.ntmps146
 go_wp2_with fail
 refine (qS hx hy).mono ?_
 rintro e wc ⟨c,hc,hc1,hc2,rfl,hx1⟩
 have hneg:¬c<0:=by rw [hc.out,lF];omega
 go_wp2_with fail
 refine (jZ (hx.ext hx1)).mono ?_
 rintro e w' ⟨m,hm,hmn,rfl,rfl⟩
 go_wp2_with fail
 refine (jZ (hy.ext hx1)).mono ?_
 rintro e w' ⟨k,hk,hkn,rfl,rfl⟩
 have hkm:k≤m:=by rw [hm.out,hk.out];exact iP hle
 have hlx:=Lib.hid hx.len
 have hly:=Lib.hid hy.len
 have hmk:=kF (P:=aH) Tryz.underlying22 iB G (by decide) (m:Int) (by omega) (by omega)
 rw [gX] at hmk
 go_wp2_with fail
 clear hmk
 obtain⟨g,hg⟩:∃g,wc.heap.size=g:=⟨_,rfl⟩
 rw [hg]
 obtain⟨wa,hwa⟩:∃wa,wc.alloc (.cells (zc (.int .u64 0) m) 65)=wa:=⟨_,rfl⟩
 rw [hwa]
 have hbk:Bk wa g 65 ((cJ m 0).map bC):=by
  rw [←hwa,←hg,←jY];exact Bk.new' _ _ _
 have hea:Ext wc wa:=by rw [←hwa];exact (Ext.refl wc).alloc _
 have hgs:w.heap.size≤g:=by rw [←hg];exact hx1.size
 have hgc:wc.heap.size≤g:=by rw [hg];exact aX _
 clear hg hwa hc hneg hc1 hc2
 go_loopw [23,9] (fun u v wr=>∃(i c:Nat) (l:List Nat),i≤m∧c≤1∧u= a9 (i:Int)∧v= i5 (c:Int)∧Hid (l.length=m)∧Wf l∧Bk wr g 65 (l.map bC)∧
  Hid (nv (l.take i)+nv (ys.take (min i k))=nv (xs.take i)+WB^i*c)∧Ext wc wr) (fun u v wr=>m-(intOf u).toNat)
 case atStart=>exact⟨0,0,_,bJ _,bJ _,rfl,rfl,List.length_replicate,mW _,hbk,by simp [Hid,nv],hea⟩
 case round=>
  obtain⟨i,c,l,hi,hc,rfl,rfl,hll,hwl,hb,hv,hr⟩:=hrel
  clear hbk hea
  by_cases him:i<m
  ·obtain⟨a,x,rfl,hxk,hxb,hcx⟩:=((hx.ext hx1).ext hr).get (i:=i) (by omega)
   obtain⟨o,ho,_,hco⟩:=hb.word hwl (i:=i) (by rw [hll.out];omega)
   have hfr:=hb.frozen i
   by_cases hik:i<k
   ·obtain⟨b,y,rfl,hyk,hyb,hcy⟩:=((hy.ext hx1).ext hr).get (i:=i) (by omega)
    go_wp2_with ((with_reducible refine cK (some 42) ?_);refine CU G (.tmp 39) (.tmp 40) (.tmp 41) G x y c G G G hc hxb hyb ?_;intro s d hs hsb hd)
    go_roundw
    case rel=>exact⟨i+1,d,_,by omega,hd,by go_num,rfl,by show _=_;rw [List.length_set];exact hll.out,gO hwl i (by rw [cC];omega),by rw [←dP];exact hb.set i _,
     DU (by rw [hll.out];omega) (by rw [hlx.out];omega) (by rw [hly.out];omega) hv.out hxk.out (by rw [if_pos hik];exact hyk.out) hs.out,hr.setCell hgc _⟩
    case measure=>simp [intOf];omega
   ·go_wp2_with ((with_reducible refine cK (some 42) ?_);refine CU G (.tmp 39) (.tmp 40) (.tmp 41) G x 0 c G G G hc hxb (by omega) ?_;intro s d hs hsb hd)
    go_roundw
    case rel=>exact⟨i+1,d,_,by omega,hd,by go_num,rfl,by show _=_;rw [List.length_set];exact hll.out,gO hwl i (by rw [cC];omega),by rw [←dP];exact hb.set i _,
     DU (by rw [hll.out];omega) (by rw [hlx.out];omega) (by rw [hly.out];omega) hv.out hxk.out (by rw [if_neg hik]) hs.out,hr.setCell hgc _⟩
    case measure=>simp [intOf];omega
  ·obtain rfl:i=m:=by omega
   have hr2:Rd wr (some ⟨g,0,none⟩) i i l:=by
    have:=hb.rd hwl (o:=0) (n:=i) (cap:=i) (aX _) (by rw [hll.out];omega) (by rw [eA];omega)
    rwa [gQ,List.take_of_length_le (by rw [hll.out];omega)] at this
   have hval:Hid (nv l=nv xs-nv ys):=by
    show _=_
    have e:=hv.out
    rw [Nat.min_eq_right hkm,nO hx.wf hm.out,nO hy.wf hk.out,List.take_of_length_le (by rw [hll.out];omega)] at e
    have hlt:nv l<WB^i:=by have:=iY hwl;rwa [hll.out] at this
    by_cases h0:c=0
    ·rw [h0,gJ] at e;omega
    ·have hc1:c=1:=by omega
     rw [hc1,dK] at e;omega
   go_wp2_with fail
   refine (jZ hr2).mono ?_
   rintro e w' ⟨q,hq,hqn,rfl,rfl⟩
   go_wp2_with fail
   go_ret2
   rw [←hval.out]
   exact C9 (rO (ys:=l) hgs hb hll.out hqn (by rw [eA];omega) (mM hwl hq.out).symm (hx1.trans hr))
theorem WK (hw:Wf xs)(hm:m=(wd (nv xs)).length)(h0:0<m)(hx:xs.getD (m-1) 0=x):x≠0∧64*(m-1)+dQ x=dQ (nv xs):=by
 have e:=mM hw hm
 have o:nv xs≠0:=fun h=>by rw [h,mL] at hm;simp at hm;omega
 have p:m≤xs.length:=by rw [hm];exact gT hw
 have q:nv xs=nv (xs.take (m-1))+WB^(m-1)*x:=by
  rw [←nO hw hm,←hx,←eL xs (m-1) (by omega),iH h0]
 have r:=kR hw (m-1)
 have f:x≠0:=by
  rintro rfl
  have h1:=FF o
  rw [←hm] at h1
  rw [gJ] at q
  omega
 refine⟨f,(JR ?_ (bT ?_)).symm⟩
 ·have h1:=qZ x
  rw [dX,Nat.pow_mul,←mY]
  have h2:WB^(m-1)*x+WB^(m-1)≤WB^(m-1)*2^dQ x:=by
   have:=fN (WB^(m-1)) (nB h1)
   rwa [rZ] at this
  omega
 ·have h1:=tI f
  have hb:dQ x≠0:=fun h=>f (pH.1 h)
  rw [Nat.add_sub_assoc (by omega),dX,Nat.pow_mul,←mY]
  have:=fN (WB^(m-1)) h1
  omega
def XC (k:Nat)(w:a0)(e:dR)(w':a0):Prop:=∃n:Nat,Hid (n=k)∧e= .returned (a9 (n:Int))∧Ext w w'
theorem AD (hx:Rd w A n cap xs)(hl:n≤1099511627775):aQ aH 142 #[i9 A n cap] w (XC (dQ (nv xs)) w):=by
 go_enter Tryz.func142,Tryz.ntmps142
 go_wp2_with fail
 refine (jZ hx).mono ?_
 rintro e w' ⟨m,hm,hmn,rfl,rfl⟩
 by_cases h0:0<m
 ·obtain⟨a,x,rfl,hxk,hxb,hcx⟩:=hx.get (i:=m-1) (by omega)
  have hb:=Lib.hid (WK hx.wf hm.out h0 hxk.out)
  have b0:((m:Int)==0)=false:=by simp;omega
  go_wp2_with fail
  refine (bits_Len64 x hxb _).mono ?_
  rintro e w' ⟨q,hq,hq64,rfl,rfl⟩
  go_wp2_with fail
  go_ret
  refine⟨64*(m-1)+q,?_,?_,Ext.refl w⟩
  ·show _=_
   rw [hq.out];exact hb.out.2
  ·exact P4 (by omega)
 ·obtain rfl:m=0:=by omega
  go_wp2_with fail
  go_ret
  refine⟨0,?_,rfl,Ext.refl w⟩
  show _=_
  rw [(lB.1 hm.out.symm),BW]
def K1 (A:Option a8)(xs:List Nat)(w:a0)(e:dR)(w':a0):Prop:=
 ∃k:Nat,Hid (k=(wd (nv xs)).length)∧e= .returned (i9 A k k)∧Rd w A k k (wd (nv xs))∧w=w'
theorem qU (hx:Rd w A n cap xs)(hl:n≤1099511627776:=by omega):aQ aH 223 #[i9 A n cap] w (K1 A xs w):=by
 have hlen:=Lib.hid hx.len
 have hcap:=hx.rv.le
 have hmax:=hx.rv.max
 rw [eA] at hmax
 have fin:∀k,k≤n→k=(wd (nv xs)).length→K1 A xs w (.returned (i9 A k k)) w:=by
  intro k hk h
  have h2:=hx.take hk (aX _) (by omega)
  rw [←mM hx.wf h] at h2
  exact⟨k,h,rfl,h2,rfl⟩
 have FIN:=Lib.hid fin
 clear fin
 go_enter Tryz.func223,Tryz.ntmps223
 go_wp2_with fail
 go_loop [3] (fun u=>∃k:Nat,k≤n∧u= a9 (k:Int)∧Hid (nv (xs.take k)=nv xs)) (fun u=>(intOf u).toNat)
 case atStart=>exact⟨n,aX _,rfl,(show _=_ by rw [←hlen.out,List.take_length])⟩
 case round=>
  obtain⟨k,hk,rfl,HV⟩:=hrel
  by_cases h0:0<k
  ·obtain⟨a,x,rfl,hxk,hxb,hc⟩:=hx.get (i:=k-1) (by omega)
   by_cases hz:x=0
   ·subst hz
    go_wp2_with fail
    go_round
    case rel=>
     refine⟨k-1,by omega,fP,?_⟩
     show _=_
     rw [←HV.out,←oY xs (k-1) (by rw [hlen.out];omega) hxk.out,iH h0]
    case measure=>simp [intOf];omega
   ·have hzb:((x:Int)==0)=false:=by simp;omega
    have hk0:¬k=0:=by omega
    go_wp2_with fail
    go_ret
    have:=sB (k:=k) hx.wf (by rw [hlen.out];exact hk) HV.out (bT (by rw [hxk.out];exact hz))
    exact FIN.out k hk (by rw [this,dE,hlen.out];omega)
  ·obtain rfl:k=0:=by omega
   go_wp2_with fail
   go_ret
   have:=sB (k:=0) hx.wf (bJ _) HV.out (cD G)
   exact FIN.out 0 hk (by rw [this,dE,hlen.out];omega)
def rS (g:Nat)(zs:List Nat)(v:Nat)(w:a0)(e:dR)(w':a0):Prop:=
 ∃zs',e= .returned (.tuple #[])∧Bk w' g 65 (zs'.map bC)∧Wf zs'∧Hid (zs'.length=zs.length)∧Hid (nv zs'=v)∧Upd g w w'
theorem JW {o c z:Nat}(hi:o+i<l.length)(h:nv l+WB^(o+i)*c=V+WB^o*nv (ys.take i))(hz:l.getD (o+i) 0=z)(hy:i<ys.length)(hyk:ys.getD i 0=y)(hs:s+WB*d=z+y+c):nv (l.set (o+i) s)+WB^(o+i+1)*d=V+WB^o*nv (ys.take (i+1)):=by
 have f:=nP hi s
 rw [hz] at f
 rw [eL ys i hy,hyk,cZ,←bY (WB^o),←dX,dJ,bY]
 have e:WB^(o+i)*(s+WB*d)=WB^(o+i)*(z+y+c):=by rw [hs]
 simp only [cZ] at e
 omega
theorem JV {c z:Nat}(hi:k<l.length)(h:nv l+WB^k*c=V)(hz:l.getD k 0=z)(hs:s+WB*d=z+c):nv (l.set k s)+WB^(k+1)*d=V:=by
 have f:=nP hi s
 rw [hz] at f
 rw [dJ,bY]
 have e:WB^k*(s+WB*d)=WB^k*(z+c):=by rw [hs]
 simp only [cZ] at e
 omega
theorem vQ {o:Nat}(hz:Bk w g 65 (zs.map bC))(hwz:Wf zs)(hzl:zs.length=o+n)(hy:Rd w B m cap' ys)(hne:∀a,B=some a→0<m→a.block≠g)(hmn:m≤n)(hn:n≤1099511627776)(_ho:o≤1099511627776)(hv:nv zs+WB^o*nv ys<WB^(o+n)):aQ aH 225 #[i9 (some ⟨g,o,none⟩) n cap,i9 B m cap'] w (rS g zs (nv zs+WB^o*nv ys) w):=by
 have hly:=Lib.hid hy.len
 have hlz:=Lib.hid hzl
 have HV:=Lib.hid hv
 clear hzl hv
 go_enter Tryz.func225,Tryz.ntmps225
 go_wp2_with fail
 go_loopw [9,4] (fun u v wr=>∃(i c:Nat) (l:List Nat),i≤m∧c≤1∧u= a9 (i:Int)∧v= i5 (c:Int)∧Hid (l.length=o+n)∧Wf l∧Bk wr g 65 (l.map bC)∧
  Hid (nv l+WB^(o+i)*c=nv zs+WB^o*nv (ys.take i))∧Upd g w wr) (fun u v wr=>m-(intOf u).toNat)
 case atStart=>exact⟨0,0,zs,bJ _,bJ _,rfl,rfl,hlz.out,hwz,hz,by simp [Hid,nv],Upd.refl _ _⟩
 case round=>
  obtain⟨i,c,l,hi,hc,rfl,rfl,hll,hwl,hb,hv,hr⟩:=hrel
  by_cases him:i<m
  ·obtain⟨a,y,rfl,hyk,hyb,hcy⟩:=(hy.upd hr (fun a ha=>hne a ha (by omega))).get (i:=i) (by omega)
   obtain⟨z,hzk,hzb,hcz⟩:=hb.word hwl (i:=o+i) (by rw [hll.out];omega)
   have hfr:=hb.frozen (o+i)
   obtain⟨s,d,hs,hsb,hd,hadd⟩:=xH hc hzb hyb
   go_wp2_with fail
   go_region
   go_wp2_with fail
   go_roundw
   case rel=>exact⟨i+1,d,l.set (o+i) s,by omega,hd,by go_num,rfl,by show _=_;rw [List.length_set];exact hll.out,gO hwl _ (by rw [cC];omega),by rw [←dP];exact (hb.set _ _).drew,
    JW (by rw [hll.out];omega) hv.out hzk.out (by rw [hly.out];omega) hyk.out hs.out,(hr.setCell _ _).drew⟩
   case measure=>simp [intOf];omega
  ·obtain rfl:i=m:=by omega
   have hv1:Hid (nv l+WB^(o+i)*c=nv zs+WB^o*nv ys):=by
    show _=_
    rw [hv.out,List.take_of_length_le (by rw [hly.out];omega)]
   clear hv
   go_wp2_with fail
   obtain⟨wo,rfl⟩:∃wo:a0,wo=wr:=⟨_,rfl⟩
   go_loopw [6,4] (fun u v wr=>∃(j c:Nat) (l:List Nat),i≤j∧j≤n∧c≤1∧u= a9 (j:Int)∧v= i5 (c:Int)∧Hid (l.length=o+n)∧Wf l∧Bk wr g 65 (l.map bC)∧
    Hid (nv l+WB^(o+j)*c=nv zs+WB^o*nv ys)∧Upd g w wr) (fun u v wr=>n-(intOf u).toNat)
   case atStart=>exact⟨i,c,l,aX _,hmn,hc,rfl,rfl,hll.out,hwl,hb,hv1.out,hr⟩
   case round=>
    obtain⟨j,c2,l2,hij,hjn,hc2,rfl,rfl,hl2,hw2,hb2,hv2,hr2⟩:=hrel
    clear hll hwl hb hv1 hr
    by_cases hc0:c2=0
    ·subst hc0
     have b0:((0:Int) != 0)=false:=rfl
     go_wp2_with fail
     go_end0
     have h:=hv2.out
     rw [gJ,eS] at h
     exact⟨l2,rfl,hb2,hw2,(show _=_ by rw [hl2.out,hlz.out]),h,hr2⟩
    ·obtain rfl:c2=1:=by omega
     have hjn':j<n:=by
      refine nD (fun hle=>?_)
      obtain rfl:j=n:=by omega
      have h:=hv2.out
      have:=HV.out
      rw [dK] at h
      omega
     obtain⟨z,hzk,hzb,hcz⟩:=hb2.word hw2 (i:=o+j) (by rw [hl2.out];omega)
     have hfr:=hb2.frozen (o+j)
     obtain⟨s,d,hs,hsb,hd,hadd⟩:=WW hzb
     have b1:((1:Int) != 0)=true:=rfl
     go_wp2_with fail
     go_roundw
     case rel=>exact⟨j+1,d,l2.set (o+j) s,by omega,by omega,hd,by go_num,rfl,by show _=_;rw [List.length_set];exact hl2.out,gO hw2 _ (by rw [cC];omega),by rw [←dP];exact (hb2.set _ _),
      JV (by rw [hl2.out];omega) hv2.out hzk.out hs.out,(hr2.setCell _ _)⟩
     case measure=>simp [intOf];omega
theorem DS {c z Y Y':Nat}(hi:i<l.length)(h:nv l+Y=V+WB^i*c)(hz:l.getD i 0=z)(hY:Y'=Y+WB^i*y)(hs:s+y+c=z+WB*d):nv (l.set i s)+Y'=V+WB^(i+1)*d:=by
 have f:=nP hi s
 rw [hz] at f
 rw [dJ,bY,hY]
 have e:WB^i*(s+y+c)=WB^i*(z+WB*d):=by rw [hs]
 simp only [cZ] at e
 omega
theorem G4 (hz:Bk w g 65 (zs.map bC))(hwz:Wf zs)(hzl:zs.length=n)(hy:Rd w B m cap' ys)(hne:∀a,B=some a→0<m→a.block≠g)(hmn:m≤n)(hn:n≤1099511627776)(hv:nv ys≤nv zs):aQ aH 257 #[i9 (some ⟨g,0,none⟩) n cap,i9 B m cap'] w (rS g zs (nv zs-nv ys) w):=by
 have hly:=Lib.hid hy.len
 have hlz:=Lib.hid hzl
 have HV:=Lib.hid hv
 clear hzl hv
 go_enter Tryz.func257,Tryz.ntmps257
 go_wp2_with fail
 go_loopw [9,4] (fun u v wr=>∃(i c:Nat) (l:List Nat),i≤n∧c≤1∧u= a9 (i:Int)∧v= i5 (c:Int)∧Hid (l.length=n)∧Wf l∧Bk wr g 65 (l.map bC)∧
  Hid (nv l+nv (ys.take i)=nv zs+WB^i*c)∧Upd g w wr) (fun u v wr=>n-(intOf u).toNat)
 case atStart=>exact⟨0,0,zs,bJ _,bJ _,rfl,rfl,hlz.out,hwz,hz,by simp [Hid,nv],Upd.refl _ _⟩
 case round=>
  obtain⟨i,c,l,hi,hc,rfl,rfl,hll,hwl,hb,hv,hr⟩:=hrel
  have fin:i=n∨(m≤i∧c=0)→rS g zs (nv zs-nv ys) w (.returned (.tuple #[])) wr:=by
   intro h
   have e:=hv.out
   rw [List.take_of_length_le (by rw [hly.out];omega)] at e
   have hlt:nv l<WB^n:=by have:=iY hwl;rwa [hll.out] at this
   refine⟨l,rfl,hb,hwl,(show _=_ by rw [hll.out,hlz.out]),?_,hr⟩
   show _=_
   have h2:=HV.out
   by_cases h0:c=0
   ·rw [h0,gJ] at e;omega
   ·have hc1:c=1:=by omega
    have hin:i=n:=by omega
    rw [hc1,dK,hin] at e;omega
  have FIN:=Lib.hid fin
  clear fin
  by_cases him:i<n
  ·obtain⟨z,hzk,hzb,hcz⟩:=hb.word hwl (i:=i) (by rw [hll.out];omega)
   have hfr:=hb.frozen i
   by_cases hiy:i<m
   ·obtain⟨a,y,rfl,hyk,hyb,hcy⟩:=(hy.upd hr (fun a ha=>hne a ha (by omega))).get (i:=i) (by omega)
    obtain⟨s,d,hs,hsb,hd,hsub⟩:=uO hc hzb hyb
    go_wp2_with fail
    go_roundw
    case rel=>exact⟨i+1,d,l.set i s,by omega,hd,by go_num,rfl,by show _=_;rw [List.length_set];exact hll.out,gO hwl _ (by rw [cC];omega),by rw [←dP];exact (hb.set _ _),
     DS (by rw [hll.out];omega) hv.out hzk.out (by rw [eL ys i (by rw [hly.out];omega),hyk.out]) hs.out,hr.setCell _ _⟩
    case measure=>simp [intOf];omega
   ·by_cases hc0:c=0
    ·subst hc0
     go_wp2_with fail
     refine iV (results_none G _ _ _) G ?_
     exact FIN.out (bT ⟨by omega,by simp⟩)
    ·obtain rfl:c=1:=by omega
     obtain⟨s,d,hs,hsb,hd,hsub⟩:=MN hzb
     go_wp2_with fail
     go_roundw
     case rel=>exact⟨i+1,d,l.set i s,by omega,hd,by go_num,rfl,by show _=_;rw [List.length_set];exact hll.out,gO hwl _ (by rw [cC];omega),by rw [←dP];exact (hb.set _ _),
      DS (y:=0) (c:=1) (by rw [hll.out];omega) hv.out hzk.out (by rw [List.take_of_length_le (by rw [hly.out];omega),List.take_of_length_le (by rw [hly.out];omega),gJ,eS]) hs.out,hr.setCell _ _⟩
     case measure=>simp [intOf];omega
  ·go_wp2_with fail
   go_end0
   exact FIN.out (cD (by omega))
def NewP (w:a0)(v n:Nat)(e:dR)(w':a0):Prop:=
 ∃g zs,e= .returned (i9 (some ⟨g,0,none⟩) n n)∧w.heap.size≤g∧Bk w' g 65 (zs.map bC)∧Wf zs∧Hid (zs.length=n)∧Hid (nv zs=v)∧Ext w w'
theorem FT (h:xs.length≤n):nv (splice (cJ n 0) 0 xs)=nv xs∧(splice (cJ n 0) 0 xs).length=n:=by
 unfold splice
 constructor
 ·rw [List.take_zero,List.nil_append,List.drop_replicate,zZ,zX,gJ,eS]
 ·simp;omega
theorem JY (hx:Wf xs)(hy:Wf ys)(o:Nat):Wf (splice xs o ys):=tN (pL hx _) (tN hy (C7 hx _))
theorem G3 (hx:Rd w A n cap xs)(hl:n≤549755813888)(hy:Rd w B m cap' ys)(hl':m≤549755813888):aQ aH 256 #[i9 A n cap,i9 B m cap'] w (NewP w (nv xs+nv ys) (max n m+1)):=by
 have hlx:=Lib.hid hx.len
 have hly:=Lib.hid hy.len
 obtain⟨k,hk⟩:∃k,max n m=k:=⟨_,rfl⟩
 rw [hk]
 have hnk:n≤k:=by omega
 have hmk':m≤k:=by omega
 have hkb:k≤549755813888:=by omega
 have hmax:max (n:Int) (m:Int)=(k:Int):=by omega
 have hmk:=kF (P:=aH) Tryz.underlying22 iB G (by decide) ((k:Int)+1) (by omega) (by omega)
 have et:((k:Int)+1).toNat=k+1:=by omega
 rw [et] at hmk
 clear et hk
 go_enter Tryz.func256,Tryz.ntmps256
 go_upto_region 2 with (fail)
 clear hmk
 obtain⟨g,hg⟩:∃g,w.heap.size=g:=⟨_,rfl⟩
 rw [hg]
 obtain⟨wa,hwa⟩:∃wa,w.alloc (.cells (zc (.int .u64 0) (k+1)) 65)=wa:=⟨_,rfl⟩
 rw [hwa]
 have hbk:Bk wa g 65 ((cJ (k+1) 0).map bC):=by
  rw [←hwa,←hg,←jY];exact Bk.new' _ _ _
 have hea:Ext w wa:=by rw [←hwa];exact (Ext.refl w).alloc _
 have hgs:w.heap.size≤g:=by rw [hg];exact aX _
 clear hg hwa
 have hr1:n≤k+1:=by omega
 go_wp2_with ((with_reducible refine cK (some 15) ?_);refine yG G (.tmp 13) (.tmp 14) 22 22 G G G Tryz.underlying22 yZ hbk (hx.rv.ext hea) (fun _=>rfl) (by rw [List.length_map,List.length_replicate];omega) (xK xs) ?_;intro w1 hb1 hu1)
 rw [←jN,yY,List.take_of_length_le (l:=xs) (by rw [hlx.out];omega)] at hb1
 obtain⟨zs,hzs⟩:∃zs,zs=splice (cJ (k+1) 0) 0 xs:=⟨_,rfl⟩
 have hz2:=FT (xs:=xs) (n:=k+1) (by rw [hlx.out];omega)
 have hwz:Wf zs:=by rw [hzs];exact JY (mW _) hx.wf _
 rw [←hzs] at hb1 hz2
 clear hzs
 obtain⟨hzv,hzl⟩:=hz2
 have HZV:=Lib.hid hzv
 have HZL:=Lib.hid hzl
 clear hzv hzl
 have he1:Ext w w1:=hu1.ext hea hgs
 refine (vQ (o:=0) (n:=k+1) hb1 hwz (by rw [HZL.out];omega) (hy.ext he1) (fun a ha hp=>by have:=hy.rv.blk a ha (by have:=hy.rv.le;omega);omega) (by omega) (by omega) (by omega) ?_).mono ?_
 ·have h1:=iY hx.wf
  have h2:=iY hy.wf
  rw [hlx.out] at h1
  rw [hly.out] at h2
  have h3:WB^n≤WB^k:=eW gA hnk
  have h4:WB^m≤WB^k:=eW gA hmk'
  have h5:WB^k*2≤WB^k*WB:=fN _ K0
  rw [HZV.out,Nat.pow_zero,Nat.one_mul,eQ,dJ]
  omega
 rintro e w2 ⟨zs',rfl,hb2,hw2,hl2,hv2,hu2⟩
 go_wp2_with fail
 go_ret
 refine⟨g,zs',rfl,hgs,hb2,hw2,(show _=_ by rw [hl2.out,HZL.out]),?_,hu2.ext he1 hgs⟩
 show _=_
 rw [hv2.out,HZV.out,Nat.pow_zero,Nat.one_mul]
theorem QV {c o P:Nat}(hk:k=i+j)(hkm:k<m)(hml:m≤l.length)(h:nv (l.take m)+WB^k*c=P+x*(WB^i*nv (ys.take j)))(ho:l.getD k 0=o)(hj:j<ys.length)(hy:ys.getD j 0=y)(hs:s+WB*d=o+x*y+c):nv ((l.set k s).take m)+WB^(k+1)*d=P+x*(WB^i*nv (ys.take (j+1))):=by
 have f:=nP (l:=l.take m) (k:=k) (by rw [dE];omega) s
 rw [wD hkm,ho] at f
 rw [List.take_set,eL ys j hj,hy,cZ (WB^i),cZ x,←j5,←h,←bY (WB^i),←dX,←hk,dJ,bY (WB^k)]
 have e:WB^k*(s+WB*d)=WB^k*(o+x*y+c):=by rw [hs]
 simp only [cZ] at e
 have p:WB^k*(x*y)=x*(WB^k*y):=by rw [←bY,cY (WB^k) x,bY]
 rw [p] at e
 omega
theorem R0 {capa capb:Nat}(hz:Bk w g 65 (zs.map bC))(hzz:zs=cJ N 0)(hN:N=n+m)(hx:Rd w A n capa xs)(hy:Rd w B m capb ys)(hna:∀a,A=some a→0<n→a.block≠g)(hnb:∀a,B=some a→0<m→a.block≠g)(hn:n≤549755813888)(hm:m≤549755813888):aQ aH 224 #[i9 (some ⟨g,0,none⟩) N cap,i9 A n capa,i9 B m capb] w (rS g zs (nv xs*nv ys) w):=by
 have hlx:=Lib.hid hx.len
 have hly:=Lib.hid hy.len
 have hlz:=Lib.hid (show zs.length=n+m by rw [hzz,List.length_replicate,hN])
 have hwz:Wf zs:=by rw [hzz];exact mW _
 have hz0:=Lib.hid (show∀t,zs.getD t 0=0 by intro t;rw [hzz];simp [bE,List.getElem?_replicate];split <;> rfl)
 have hzv:=Lib.hid (show nv (zs.take m)=0 by rw [hzz,List.take_replicate,zX])
 subst hN
 clear hzz
 go_enter Tryz.func224,Tryz.ntmps224
 go_wp2_with fail
 go_loopw [16] (fun u wr=>∃(i:Nat) (l:List Nat),i≤n∧u= a9 (i:Int)∧Hid (l.length=n+m)∧Wf l∧Bk wr g 65 (l.map bC)∧
  Hid (nv (l.take (i+m))=nv (xs.take i)*nv ys)∧Hid (∀t,i+m≤t→l.getD t 0=0)∧Upd g w wr) (fun u wr=>n-(intOf u).toNat)
 case atStart=>exact⟨0,zs,bJ _,rfl,hlz.out,hwz,hz,by simp [Hid,nv];exact hzv.out,fun t _=>hz0.out t,Upd.refl _ _⟩
 case round=>
  obtain⟨i,l,hi,rfl,hll,hwl,hb,hv,h0,hr⟩:=hrel
  by_cases hip:i<n
  ·obtain⟨a,x,rfl,hxk,hxb,hcx⟩:=(hx.upd hr (fun a ha=>hna a ha (by omega))).get (i:=i) (by omega)
   by_cases hx0:x=0
   ·subst hx0
    have hstay:Hid (nv (l.take (i+1+m))=nv (xs.take (i+1))*nv ys):=by
     show _=_
     rw [show i+1+m=i+m+1 from by omega,oY l (i+m) (by rw [hll.out];omega) (h0.out _ (by omega)),hv.out,oY xs i (by rw [hlx.out];omega) hxk.out]
    go_wp2_with fail
    go_roundw
    case rel=>exact⟨i+1,l,by omega,by go_num,hll.out,hwl,hb,hstay.out,fun t ht=>h0.out t (by omega),hr⟩
    case measure=>simp [intOf];omega
   ·have hxz:((x:Int)==0)=false:=by simp;omega
    go_wp2_with fail
    obtain⟨wo,rfl⟩:∃wo:a0,wo=wr:=⟨_,rfl⟩
    go_loopw [25,8] (fun u v wr=>∃(j c:Nat) (l:List Nat),j≤m∧c≤18446744073709551615∧u= a9 (j:Int)∧v= i5 (c:Int)∧Hid (l.length=n+m)∧Wf l∧Bk wr g 65 (l.map bC)∧
     Hid (nv (l.take (i+m))+WB^(i+j)*c=nv (xs.take i)*nv ys+x*(WB^i*nv (ys.take j)))∧Hid (∀t,i+m≤t→l.getD t 0=0)∧Upd g w wr) (fun u v wr=>m-(intOf u).toNat)
    case atStart=>exact⟨0,0,l,bJ _,by omega,rfl,rfl,hll.out,hwl,hb,(show _=_ by rw [hv.out];simp [nv]),h0.out,hr⟩
    case round=>
     obtain⟨j,c,l2,hj,hc,rfl,rfl,hl2,hw2,hb2,hv2,h02,hr2⟩:=hrel
     clear hll hwl hb hv h0 hr hcx
     by_cases hjq:j<m
     ·obtain⟨b,y,rfl,hyk,hyb,hcy⟩:=(hy.upd hr2 (fun a ha=>hnb a ha (by omega))).get (i:=j) (by omega)
      obtain⟨o,hok,aF,hco⟩:=hb2.word hw2 (i:=i+j) (by rw [hl2.out];omega)
      have hfr:=hb2.frozen (i+j)
      go_wp2_with fail
      refine (bits_Mul64 x y hxb hyb _).mono ?_
      rintro e w' ⟨hi',lo,hp,hhb,hlb,rfl,rfl⟩
      obtain⟨s1,d1,hs1,hsb1,hd1,hadd1⟩:=tM hlb hc
      obtain⟨s2,d2,hs2,hsb2,hd2,hadd2⟩:=tM aF hsb1
      have hP:x*y≤340282366920938463426481119284349108225:=j3 hxb hyb
      have hk1:hi'+d1+d2≤18446744073709551615∧hi'+d1≤18446744073709551615:=by
       have e1:=hp.out
       have e2:=hs1.out
       have e3:=hs2.out
       rw [cC] at e1 e2 e3
       omega
      obtain⟨hk1,hk2⟩:=hk1
      clear hP
      go_wp2_with fail
      go_roundw
      case rel=>
       refine⟨j+1,hi'+d1+d2,l2.set (i+j) s2,by omega,by omega,by go_num,fP,by show _=_;rw [List.length_set];exact hl2.out,gO hw2 _ (by rw [cC];omega),by rw [←dP];exact hb2.set _ _,
        QV (k:=i+j) (m:=i+m) G (by omega) (by rw [hl2.out];omega) hv2.out hok.out (by rw [hly.out];omega) hyk.out ?_,fun t ht=>?_,hr2.setCell _ _⟩
       ·have e1:=hp.out
        have e2:=hs1.out
        have e3:=hs2.out
        rw [cZ,cZ,←e1];omega
       ·rw [getD_set_ne (by omega)];exact h02.out t ht
      case measure=>simp [intOf];omega
     ·obtain rfl:j=m:=by omega
      obtain⟨o,hok,aF,hco⟩:=hb2.word hw2 (i:=i+j) (by rw [hl2.out];omega)
      have hfr:=hb2.frozen (i+j)
      go_wp2_with fail
      go_roundw
      case rel=>
       refine⟨i+1,l2.set (i+j) c,by omega,by go_num,by show _=_;rw [List.length_set];exact hl2.out,gO hw2 _ (by rw [cC];omega),by rw [←dP];exact hb2.set _ _,?_,fun t ht=>?_,hr2.setCell _ _⟩
       ·show _=_
        rw [show i+1+j=i+j+1 from by omega,zY (by rw [hl2.out];omega),hv2.out,List.take_of_length_le (l:=ys) (i:=j) (by rw [hly.out];omega),eL xs i (by rw [hlx.out];omega),hxk.out,dO,←bY,cY x]
       ·rw [getD_set_ne (by omega)];exact h02.out t (by omega)
      case measure=>simp [intOf];omega
  ·obtain rfl:i=n:=by omega
   go_wp2_with fail
   go_end0
   have h:=hv.out
   rw [List.take_of_length_le (by rw [hll.out];omega),List.take_of_length_le (by rw [hlx.out];omega)] at h
   exact⟨l,rfl,hb,hwl,(show _=_ by rw [hll.out,hlz.out]),h,hr⟩
def CB (w:a0)(x y:Nat)(e:dR)(w':a0):Prop:=∃k,Hid (k=(wd x).length+(wd y).length)∧NewP w (x*y) k e w'
def K6 (N:Nat):Prop:=∀(w:a0) (A B:Option a8) (n cap m cap':Nat) (xs ys:List Nat),Rd w A n cap xs→Rd w B m cap' ys→n+m<N→n+m≤274877906944→
 aQ aH 184 #[i9 A n cap,i9 B m cap'] w (CB w (nv xs) (nv ys))
theorem NewP.rd (hb:Bk w' g 65 (zs.map bC))(hw:Wf zs)(hl:zs.length=n)(hn:n≤1099511627776):Rd w' (some ⟨g,0,none⟩) n n zs:=by
 have:=hb.rd hw (o:=0) (n:=n) (cap:=n) (aX _) (by omega) (by rw [eA];omega)
 rwa [gQ,List.take_of_length_le (by omega)] at this
theorem Upd.then_new {a b:a0}(h:Upd g w a)(e:Upd k a b)(hk:w.heap.size≤k):Upd g w b:=
 ⟨⟨e.by_.os.trans h.by_.os,e.by_.tape.trans h.by_.tape,e.by_.output.trans h.by_.output,aE h.by_.size e.by_.size,
  fun i hi f=>(e.by_.block i (cS hi h.by_.size) (fun e'=>by have:=iG e';omega)).trans (h.by_.block i hi f)⟩⟩
theorem Rd.drop_some {a:a8}(h:Rd w (some a) n cap xs){l:Nat}(hl:l<n):Rd w (some (a.add l)) (n-l) (cap-l) (xs.drop l):=by
 have e:=h.rv.le
 have:=h.cut (l:=l) (k:=n) (m:=cap) (by omega) (aX _) e (aX _)
 rw [if_neg (by omega),pP,List.take_of_length_le (by rw [h.len];omega)] at this
 exact this
theorem Rd.empty (h:Rd w A n cap xs):Rd w A 0 0 []:=by
 have:=h.take (k:=0) (m:=0) (bJ _) (aX _) (bJ _)
 simpa using this
def KA (w:a0)(h r:Nat)(xs:List Nat)(u v:aD)(wc:a0):Prop:=
 ∃A0 A1 c0 c1,u= i9 A0 h c0∧v= i9 A1 r c1∧Rd wc A0 h c0 (xs.take h)∧Rd wc A1 r c1 (xs.drop h)∧Ext w wc
theorem R1 (IH:K6 N)(hz:Bk w g 65 (zs.map bC))(hzz:zs=cJ (n+m) 0)(hx:Rd w A n n xs)(hy:Rd w B m m ys)(hna:∀a,A=some a→a.block≠g)(hnb:∀a,B=some a→a.block≠g)(hN:n+m=N)(hN2:N≤274877906944)(hm:24≤m)(hmn:m≤n)(hnm:n<2*m):aQ aH 226 #[i9 (some ⟨g,0,none⟩) N N,i9 A n n,i9 B m m] w (rS g zs (nv xs*nv ys) w):=by
 have HI:=Lib.hid IH
 have HZZ:=Lib.hid hzz
 clear IH hzz
 have hlx:=Lib.hid hx.len
 have hly:=Lib.hid hy.len
 obtain⟨hf,hh⟩:∃hf,hf=(n+1)/2:=⟨_,rfl⟩
 have hh1:n≤2*hf:=by omega
 have hh2:2*hf≤n+1:=by omega
 have hh3:((n:Int)+1)/2=(hf:Int):=by omega
 have hNi:N≤n+m:=by omega
 have hNj:n+m≤N:=by omega
 have HN:=Lib.hid hN
 clear hh hN
 obtain⟨a,_,rfl,_,_,_⟩:=hx.get (i:=0) (by omega)
 obtain⟨b,_,rfl,_,_,_⟩:=hy.get (i:=0) (by omega)
 go_enter Tryz.func226,Tryz.ntmps226
 go_upto_region 1 with (fail)
 go_cut [7,8] (fun u v wc=>KA w hf (n-hf) xs u v wc)
 case first=>
  go_wp2_with fail
  go_quiet (fail)
  go_wp2_with fail
  go_meet
  case rel=>exact⟨_,_,_,_,rfl,rfl,(hx.take (k:=hf) (m:=hf) (by omega) (aX _) (by omega)).ext (by repeat (first | exact Ext.refl _ | assumption | apply Ext.drewN | apply Ext.drew | apply Ext.alloc)),(hx.drop_some (l:=hf) (by omega)).ext (by repeat (first | exact Ext.refl _ | assumption | apply Ext.drewN | apply Ext.drew | apply Ext.alloc)),(by repeat (first | exact Ext.refl _ | assumption | apply Ext.drewN | apply Ext.drew | apply Ext.alloc))⟩
 case rest=>
  obtain⟨A0,A1,c0,c1,rfl,rfl,hx0,hx1,hext1⟩:=hcut
  obtain⟨wx,rfl⟩:∃wx:a0,wx=wc:=⟨_,rfl⟩
  go_upto_region 2 with (fail)
  go_cut [9,10] (fun u v wc=>KA wx hf (m-hf) ys u v wc)
  case first=>
   by_cases hhm:hf=m
   ·subst hhm
    have e0:hf-hf=0:=by omega
    go_wp2_with fail
    go_quiet (fail)
    go_wp2_with fail
    go_meet
    case rel=>
     have hy2:=(hy.ext hext1)
     refine⟨_,some b,_,0,rfl,by rw [e0],(hy2.take (k:=hf) (m:=hf) (by omega) (aX _) (by omega)).ext (by repeat (first | exact Ext.refl _ | assumption | apply Ext.drewN | apply Ext.drew | apply Ext.alloc)),?_,(by repeat (first | exact Ext.refl _ | assumption | apply Ext.drewN | apply Ext.drew | apply Ext.alloc))⟩
     rw [e0,List.drop_eq_nil_of_le (by rw [hly.out];omega)]
     exact hy2.empty.ext (by repeat (first | exact Ext.refl _ | assumption | apply Ext.drewN | apply Ext.drew | apply Ext.alloc))
   ·have hhm2:hf<m:=by omega
    go_wp2_with fail
    go_quiet (fail)
    go_wp2_with fail
    go_meet
    case rel=>
     have hy2:=(hy.ext hext1)
     exact⟨_,_,_,_,rfl,rfl,(hy2.take (k:=hf) (m:=hf) (by omega) (aX _) (by omega)).ext (by repeat (first | exact Ext.refl _ | assumption | apply Ext.drewN | apply Ext.drew | apply Ext.alloc)),(hy2.drop_some (l:=hf) (by omega)).ext (by repeat (first | exact Ext.refl _ | assumption | apply Ext.drewN | apply Ext.drew | apply Ext.alloc)),(by repeat (first | exact Ext.refl _ | assumption | apply Ext.drewN | apply Ext.drew | apply Ext.alloc))⟩
  case rest=>
   obtain⟨B0,B1,d0,d1,rfl,rfl,hy0,hy1,hext2⟩:=hcut
   have hx0':=hx0.ext hext2
   have hx1':=hx1.ext hext2
   have hz':=hz.ext (hext1.trans hext2)
   have hE:=hext1.trans hext2
   clear hx0 hx1 hext1 hext2
   go_wp2_with fail
   refine (HI.out _ _ _ _ _ _ _ _ _ hx0' hy0 (by omega) (by omega)).mono ?_
   rintro e w1 ⟨kl,hkl,gl,zl,rfl,hgl,hbl,hwl,hll,hvl,he1⟩
   have hlb:kl≤2*hf:=by
    rw [hkl.out]
    have h1:=gT hx0'.wf
    have h2:=gT hy0.wf
    rw [hx0'.len] at h1
    rw [hy0.len] at h2
    omega
   go_wp2_with fail
   refine (qU (NewP.rd hbl hwl hll.out (by omega))).mono ?_
   rintro e w' ⟨tl,htl,rfl,hrl,rfl⟩
   rw [hvl.out] at htl hrl
   go_wp2_with fail
   refine (HI.out _ _ _ _ _ _ _ _ _ (hx1'.ext he1) (hy1.ext he1) (by omega) (by omega)).mono ?_
   rintro e w2 ⟨kh,hkh,gh,zh,rfl,hgh,hbh,hwh,hlh,hvh,he2⟩
   have hhb:kh≤(n-hf)+(m-hf):=by
    rw [hkh.out]
    have h1:=gT hx1'.wf
    have h2:=gT hy1.wf
    rw [hx1'.len] at h1
    rw [hy1.len] at h2
    omega
   go_wp2_with fail
   refine (qU (NewP.rd hbh hwh hlh.out (by omega))).mono ?_
   rintro e w' ⟨th,hth,rfl,hrh,rfl⟩
   rw [hvh.out] at hth hrh
   have he12:=he1.trans he2
   go_wp2_with fail
   refine (G3 (hx0'.ext he12) (by omega) (hx1'.ext he12) (by omega)).mono ?_
   rintro e w3 ⟨g3,z3,rfl,hg3,hb3,hw3,hl3,hv3,he3⟩
   go_wp2_with fail
   refine (G3 (hy0.ext (he12.trans he3)) (by omega) (hy1.ext (he12.trans he3)) (by omega)).mono ?_
   rintro e w4 ⟨g4,z4,rfl,hg4,hb4,hw4,hl4,hv4,he4⟩
   have q3:max hf (n-hf)+1=hf+1:=by omega
   have q4:max hf (m-hf)+1=hf+1:=by omega
   rw [q3] at hl3
   rw [q4] at hl4
   rw [q3,q4]
   clear q3 q4
   go_wp2_with fail
   refine (HI.out _ _ _ _ _ _ _ _ _ (NewP.rd (hb3.ext he4) hw3 hl3.out (by omega)) (NewP.rd hb4 hw4 hl4.out (by omega)) (by omega) (by omega)).mono ?_
   rintro e w5 ⟨km,hkm,gm,zm,rfl,hgm,hbm,hwm,hlm,hvm,he5⟩
   have vx:Hid (nv xs=nv (xs.take hf)+WB^hf*nv (xs.drop hf)):=mR xs hf (by rw [hlx.out];omega)
   have vy:Hid (nv ys=nv (ys.take hf)+WB^hf*nv (ys.drop hf)):=mR ys hf (by rw [hly.out];omega)
   have bx:Hid (nv xs*nv ys<WB^N):=by
    show _<_
    have h1:=iY hx.wf
    have h2:=iY hy.wf
    rw [hlx.out] at h1
    rw [hly.out] at h2
    rw [←HN.out,dX]
    exact tV h1 h2
   have bl:Hid (nv (xs.take hf)*nv (ys.take hf)<WB^(2*hf)):=by
    show _<_
    have h1:=kR hx.wf hf
    have h2:=kR hy.wf hf
    rw [Nat.two_mul,dX]
    exact tV h1 h2
   rw [hv3.out,hv4.out] at hvm hkm
   generalize nv (xs.take hf)=X0 at*
   generalize nv (xs.drop hf)=X1 at*
   generalize nv (ys.take hf)=Y0 at*
   generalize nv (ys.drop hf)=Y1 at*
   have emid:Hid ((X0+X1)*(Y0+Y1)=X0*Y0+X1*Y1+(X0*Y1+X1*Y0)):=by
    show _=_
    simp only [dO,cZ];omega
   have eall:Hid (nv xs*nv ys=X0*Y0+WB^(2*hf)*(X1*Y1)+WB^hf*(X0*Y1+X1*Y0)):=by
    show _=_
    rw [vx.out,vy.out,Nat.two_mul,dX]
    simp only [dO,cZ,bY]
    rw [Nat.mul_left_comm X0 (WB^hf) Y1,Nat.mul_left_comm X1 (WB^hf) Y1]
    omega
   have he25:=(he3.trans he4).trans he5
   have sl:tl≤km:=by
    have h1:=iY hwm
    rw [hlm.out,hvm.out,emid.out] at h1
    rw [htl.out]
    exact iQ (by omega)
   have sh:th≤km:=by
    have h1:=iY hwm
    rw [hlm.out,hvm.out,emid.out] at h1
    rw [hth.out]
    exact iQ (by omega)
   have hgl':gl<w1.heap.size:=hbl.lt
   have hgh':gh<w2.heap.size:=hbh.lt
   have s12:=he12.size
   have s2:=he2.size
   have s25:=he25.size
   have s5:=(he3.trans he4).size
   have n1:gl≠gm:=by omega
   have n2:gh≠gm:=by omega
   have hgz:g<w.heap.size:=hz.lt
   have sE:=hE.size
   have n3:g≠gm:=by have:=he12.size;omega
   have n4:g≠gl:=by omega
   have n5:g≠gh:=by have:=he1.size;omega
   have hkmb:km≤549755813888:=by
    rw [hkm.out]
    have h1:=gT hw3
    have h2:=gT hw4
    rw [hl3.out,hv3.out] at h1
    rw [hl4.out,hv4.out] at h2
    omega
   go_wp2_with fail
   refine (G4 hbm hwm hlm.out (hrl.ext (he2.trans he25)) (fun a ha _=>by cases ha;exact n1) sl (by omega) (by rw [fK,hvm.out,emid.out];omega)).mono ?_
   rintro e w6 ⟨z6,rfl,hb6,hw6,hl6,hv6,hu6⟩
   rw [fK,hvm.out,emid.out] at hv6
   go_wp2_with fail
   refine (G4 hb6 hw6 (by rw [hl6.out,hlm.out]) ((hrh.ext he25).upd hu6 (fun a ha=>by cases ha;exact n2)) (fun a ha _=>by cases ha;exact n2) sh (by omega) (by rw [fK,hv6.out];omega)).mono ?_
   rintro e w7 ⟨z7,rfl,hb7,hw7,hl7,hv7,hu7⟩
   rw [fK,hv6.out] at hv7
   have hu67:=hu6.trans hu7
   have hz7:Bk w7 g 65 (zs.map bC):=(hz'.ext (he12.trans he25)).upd hu67 n3
   have hrl7:Rd w7 (some ⟨gl,0,none⟩) tl tl (wd (X0*Y0)):=(hrl.ext (he2.trans he25)).upd hu67 (fun a ha=>by cases ha;exact n1)
   have hrh7:Rd w7 (some ⟨gh,0,none⟩) th th (wd (X1*Y1)):=(hrh.ext he25).upd hu67 (fun a ha=>by cases ha;exact n2)
   have hv7':Hid (nv z7=X0*Y1+X1*Y0):=by show _=_;rw [hv7.out];omega
   go_wp2_with ((with_reducible refine cK (some 55) ?_);refine yG G (.tmp 53) (.tmp 54) 22 22 G G G Tryz.underlying22 yZ hz7 hrl7.rv (fun _=>rfl) ?fit (xK _) ?_;rotate_left;intro w8 hb8 hu8)
   case fit=>rw [List.length_map,HZZ.out,List.length_replicate];omega
   have hwt:Wf (wd (X0*Y0)):=mX _
   have tlN:tl≤N:=by rw [htl.out];exact iQ (jL (by rw [eall.out];omega) bx.out)
   rw [←jN,List.take_of_length_le (l:=wd (X0*Y0)) (by rw [←htl.out];exact tlN),HZZ.out,yY] at hb8
   obtain⟨hv8,hl8⟩:=FT (xs:=wd (X0*Y0)) (n:=n+m) (by rw [←htl.out];omega)
   rw [fK] at hv8
   have hw8:Wf (splice (cJ (n+m) 0) 0 (wd (X0*Y0))):=JY (mW _) hwt _
   generalize splice (cJ (n+m) 0) 0 (wd (X0*Y0))=z8 at*
   have HV8:=Lib.hid hv8
   have HL8:=Lib.hid hl8
   clear hv8 hl8
   have hrh8:=hrh7.upd hu8 (fun a ha=>by cases ha;exact fun e=>n5 e.symm)
   have tot2:Hid (X0*Y0+WB^(2*hf)*(X1*Y1)<WB^N):=jL (by rw [eall.out];omega) bx.out
   have thN:th≤N-2*hf:=by
    rw [hth.out]
    refine iQ ?_
    have h1:=tot2.out
    refine Nat.lt_of_mul_lt_mul_left (a:=WB^(2*hf)) ?_
    rw [←dX,show 2*hf+(N-2*hf)=N from by omega]
    omega
   have e2h:2*hf+(N-2*hf)=N:=by omega
   have hadd:=vQ (o:=2*hf) (n:=N-2*hf) (cap:=N-2*hf) hb8 hw8 (by rw [HL8.out,HN.out,e2h]) hrh8 (fun a ha _=>by cases ha;exact fun e=>n5 e.symm) thN (by omega) (by omega) (by rw [HV8.out,fK,e2h];exact tot2.out)
   refine hadd.mono ?_
   clear hadd
   clear e2h
   rintro e w9 ⟨z9,rfl,hb9,hw9,hl9,hv9,hu9⟩
   rw [HV8.out,fK] at hv9
   have hz79:Bk w9 gm 65 (z7.map bC):=(hb7.upd hu8 (fun e=>n3 e.symm)).upd hu9 (fun e=>n3 e.symm)
   have hrm:Rd w9 (some ⟨gm,0,none⟩) km km z7:=NewP.rd hz79 hw7 (by rw [hl7.out,hl6.out,hlm.out]) (by omega)
   go_wp2_with fail
   have tot3:Hid (nv z9+WB^hf*nv z7<WB^(hf+(N-hf))):=by
    show _<_
    rw [hv9.out,hv7'.out,show hf+(N-hf)=N from by omega,←eall.out];exact bx.out
   have tmN:(wd (nv z7)).length≤N-hf:=by
    refine iQ ?_
    have h1:=tot3.out
    refine Nat.lt_of_mul_lt_mul_left (a:=WB^hf) ?_
    rw [←dX]
    omega
   have hl9':Hid (z9.length=hf+(N-hf)):=by show _=_;rw [hl9.out,HL8.out,HN.out];omega
   have b9:hf≤1099511627776:=by omega
   have b10:N-hf≤1099511627776:=by omega
   have fin:∀z10 w10,Wf z10→Bk w10 g 65 (z10.map bC)→z10.length=z9.length→nv z10=nv z9+WB^hf*nv (wd (nv z7))→Upd g w9 w10→rS g zs (nv xs*nv ys) w (.returned (.tuple #[])) w10:=by
    intro z10 w10 h1 h2 h3 h4 h5
    refine⟨z10,rfl,h2,h1,(show _=_ by rw [h3,hl9.out,HL8.out,HZZ.out,List.length_replicate]),?_,?_⟩
    ·show _=_
     rw [h4,fK,hv9.out,hv7'.out,←eall.out]
    ·have u5:Upd g w w5:=Upd.of_ext (hE.trans (he12.trans he25))
     have u7:Upd g w w7:=u5.then_new hu67 (by omega)
     exact ((u7.trans hu8).trans hu9).trans h5
   have FIN:=Lib.hid fin
   clear fin
   go_region_with (first
    | (go_at_call 223;refine (qU (hrm.ext (by repeat (first | exact Ext.refl _ | assumption | apply Ext.drewN | apply Ext.drew | apply Ext.alloc)))).mono ?_;rintro e w' ⟨tm,htm,rfl,hrm2,rfl⟩)
    | (go_at_call 225;refine (vQ (o:=hf) (n:=N-hf) (hb9.ext (by repeat (first | exact Ext.refl _ | assumption | apply Ext.drewN | apply Ext.drew | apply Ext.alloc))) hw9 hl9'.out hrm2 (fun a ha _=>by cases ha;exact fun e=>n3 e.symm) (by rw [htm.out];exact tmN) b10 b9 (by rw [fK];exact tot3.out)).mono ?_;rintro e w10 ⟨z10,rfl,hb10,hw10,hl10,hv10,hu10⟩))
   all_goals
    go_end0
    exact FIN.out z10 _ hw10 (by first | exact hb10 | exact hb10.drew | exact hb10.drewN _) hl10.out hv10.out (by first | exact (Upd.of_ext (by repeat (first | exact Ext.refl _ | assumption | apply Ext.drewN | apply Ext.drew | apply Ext.alloc))).trans hu10 | exact ((Upd.of_ext (by repeat (first | exact Ext.refl _ | assumption | apply Ext.drewN | apply Ext.drew | apply Ext.alloc))).trans hu10).drew)
theorem PY (N:Nat):K6 N:=by
 induction N with
 | zero=>intro w A B n cap m cap' xs ys _ _ h;omega
 | succ N IH=>
  intro w A B n cap m cap' xs ys hx hy hN hN2
  have HI:=Lib.hid IH
  clear IH
  go_enter Tryz.func184,Tryz.ntmps184
  go_wp2_with fail
  refine (qU hx).mono ?_
  rintro e w' ⟨p,hp,rfl,hx1,rfl⟩
  go_wp2_with fail
  refine (qU hy).mono ?_
  rintro e w' ⟨q,hq,rfl,hy1,rfl⟩
  have hpn:p≤n:=by rw [hp.out];have:=gT hx.wf;rw [hx.len] at this;exact this
  have hqm:q≤m:=by rw [hq.out];have:=gT hy.wf;rw [hy.len] at this;exact this
  go_upto_if 16 with (fail)
  go_cut [0,1] (fun u v wc=>∃A B p q xs' ys',u= i9 A p p∧v= i9 B q q∧Rd w A p p xs'∧Rd w B q q ys'∧Hid (nv xs'*nv ys'=nv xs*nv ys)∧q≤p∧p+q≤n+m∧Hid (p+q=(wd (nv xs)).length+(wd (nv ys)).length)∧w=wc)
  case first=>
   by_cases hpq:p<q
   ·go_wp2_with fail
    go_meet
    case rel=>exact⟨B,A,q,p,_,_,rfl,rfl,hy1,hx1,(show _=_ by rw [fK,fK,cY]),by omega,by omega,(show _=_ by rw [←hp.out,←hq.out];omega),rfl⟩
   ·go_wp2_with fail
    go_meet
    case rel=>exact⟨A,B,p,q,_,_,rfl,rfl,hx1,hy1,(show _=_ by rw [fK,fK]),by omega,by omega,(show _=_ by rw [←hp.out,←hq.out]),rfl⟩
  case rest=>
   clear hx1 hy1 hp hq hpn hqm hx hy
   obtain⟨A,B,p,q,xs',ys',rfl,rfl,hx,hy,hXY,hqp,hpq,hK,rfl⟩:=hcut
   have hlx:=Lib.hid hx.len
   have hly:=Lib.hid hy.len
   have hmk:=kF (P:=aH) Tryz.underlying22 iB G (by decide) ((p:Int)+(q:Int)) (by omega) (by omega)
   have et:((p:Int)+(q:Int)).toNat=p+q:=by omega
   rw [et] at hmk
   clear et
   obtain⟨g,hg⟩:∃g,w.heap.size=g:=⟨_,rfl⟩
   obtain⟨wa,hwa⟩:∃wa,w.alloc (.cells (zc (.int .u64 0) (p+q)) 65)=wa:=⟨_,rfl⟩
   have hbk:Bk wa g 65 ((cJ (p+q) 0).map bC):=by
    rw [←hwa,←hg,←jY];exact Bk.new' _ _ _
   have hea:Ext w wa:=by rw [←hwa];exact (Ext.refl w).alloc _
   have hgs:w.heap.size≤g:=by rw [hg];exact aX _
   have hna:∀a,A=some a→0<p→a.block≠g:=fun a ha hp=>by have:=hx.rv.blk a ha (by have:=hx.rv.le;omega);omega
   have hnb:∀a,B=some a→0<q→a.block≠g:=fun a ha hp=>by have:=hy.rv.blk a ha (by have:=hy.rv.le;omega);omega
   have HNA:=Lib.hid hna
   have HNB:=Lib.hid hnb
   have HG:=Lib.hid hg
   have HWA:=Lib.hid hwa
   clear hna hnb hg hwa
   go_upto_region 6 with (fail)
   rw [HG.out,HWA.out]
   clear hmk HG HWA
   have fin:∀zs' w',Bk w' g 65 (zs'.map bC)→Wf zs'→zs'.length=p+q→nv zs'=nv xs'*nv ys'→Upd g wa w'→CB w (nv xs) (nv ys) (.returned (i9 (some ⟨g,0,none⟩) (p+q) (p+q))) w':=by
    intro zs' w' h1 h2 h3 h4 h5
    exact⟨_,hK.out,g,zs',rfl,hgs,h1,h2,h3,by show _=_;rw [h4,hXY.out],h5.ext hea hgs⟩
   have FIN:=Lib.hid fin
   clear fin
   by_cases h24:q<24
   ·go_wp2_with fail
    refine (R0 hbk G G (hx.ext hea) (hy.ext hea) HNA.out HNB.out (by omega) (by omega)).mono ?_
    rintro e w1 ⟨z1,rfl,hb1,hw1,hl1,hv1,hu1⟩
    go_wp2_with fail
    go_ret
    exact FIN.out z1 w1 hb1 hw1 (by rw [hl1.out,List.length_replicate]) hv1.out hu1
   ·have hb24:decide ((q:Int)<24)=false:=by simp;omega
    by_cases h2q:p<2*q
    ·go_wp2_with fail
     refine (R1 (N:=p+q) (fun w A B n cap m cap' xs ys h1 h2 h3 h4=>HI.out w A B n cap m cap' xs ys h1 h2 (by omega) h4) hbk G (hx.ext hea) (hy.ext hea) (fun a ha=>HNA.out a ha (by omega)) (fun a ha=>HNB.out a ha (by omega)) G (by omega) (by omega) hqp h2q).mono ?_
     rintro e w1 ⟨z1,rfl,hb1,hw1,hl1,hv1,hu1⟩
     go_wp2_with fail
     go_ret
     exact FIN.out z1 w1 hb1 hw1 (by rw [hl1.out,List.length_replicate]) hv1.out hu1
    ·have hb2q:decide (2*(q:Int)≤(p:Int))=true:=by simp;omega
     obtain⟨a,_,rfl,_,_,_⟩:=hx.get (i:=0) (by omega)
     go_wp2_with fail
     go_loopw [6] (fun u wr=>∃(i:Nat) (l:List Nat),i≤p+q∧u= a9 (i:Int)∧Hid (l.length=p+q)∧Wf l∧Bk wr g 65 (l.map bC)∧Hid (nv l=nv (xs'.take i)*nv ys')∧Upd g wa wr) (fun u wr=>p+q-(intOf u).toNat)
     case atStart=>exact⟨0,_,bJ _,rfl,List.length_replicate,mW _,hbk,(show _=_ by rw [zX];simp [nv]),Upd.refl _ _⟩
     case round=>
      obtain⟨i,l,hi,rfl,hll,hwl,hb,hv,hr⟩:=hrel
      clear hbk
      by_cases hip:i<p
      ·obtain⟨e,he⟩:∃e,e=min (i+q) p:=⟨_,rfl⟩
       have he1:i<e:=by omega
       have he2:e≤p:=by omega
       have he3:e≤i+q:=by omega
       have hmin:min ((i:Int)+(q:Int)) (p:Int)=(e:Int):=by omega
       have HE:=Lib.hid he
       clear he
       have hxr:=(hx.ext hea).upd hr (fun a ha=>HNA.out a ha (by omega))
       have hyr:=(hy.ext hea).upd hr (fun a ha=>HNB.out a ha (by omega))
       have hcut:=hxr.cut (l:=i) (k:=e) (m:=e) (by omega) he2 (aX _) he2
       rw [if_neg (by omega),pP] at hcut
       have hnext:Hid (nv (xs'.take (i+q))*nv ys'=nv l+WB^i*(nv ((xs'.take e).drop i)*nv ys')):=by
        show _=_
        have e1:xs'.take (i+q)=xs'.take e:=by
         rw [HE.out]
         rcases Nat.le_total (i+q) p with h | h
         ·rw [g7 h]
         ·rw [Nat.min_eq_right h,List.take_of_length_le (by rw [hlx.out];omega),List.take_of_length_le (by rw [hlx.out];omega)]
        have e2:=mR (xs'.take e) i (by rw [dE,hlx.out];omega)
        rw [List.take_take,g7 (by omega)] at e2
        rw [e1,e2,dO,hv.out,bY]
       have hbnd:Hid (nv l+WB^i*(nv ((xs'.take e).drop i)*nv ys')<WB^(i+(p+q-i))):=by
        show _<_
        rw [←hnext.out,show i+(p+q-i)=p+q from by omega,dX]
        have h1:=iY (pL hx.wf (i+q))
        have h2:=iY hy.wf
        rw [hly.out] at h2
        have h3:WB^(xs'.take (i+q)).length≤WB^p:=eW gA (by rw [dE,hlx.out];omega)
        exact tV (cS h1 h3) h2
       have htm:(wd (nv ((xs'.take e).drop i)*nv ys')).length≤p+q-i:=by
        refine iQ ?_
        have h1:=hbnd.out
        refine Nat.lt_of_mul_lt_mul_left (a:=WB^i) ?_
        rw [←dX]
        omega
       have hprod:nv ((xs'.take e).drop i)*nv ys'<WB^(p+q):=by
        have:=hbnd.out
        have h1:0<WB^i:=gC gA
        have h2:=Nat.le_mul_of_pos_left (nv ((xs'.take e).drop i)*nv ys') h1
        rw [show i+(p+q-i)=p+q from by omega] at this
        omega
       have HP:=Lib.hid hprod
       clear hprod
       have b1:i≤1099511627776:=by omega
       have b2:p+q-i≤1099511627776:=by omega
       have b3:e-i+q<N:=by omega
       have b4:e-i+q≤274877906944:=by omega
       have hgr:g<wr.heap.size:=hb.lt
       go_wp2_with fail
       have hk1b:(wd (nv ((xs'.take e).drop i))).length+(wd (nv ys')).length≤e-i+q:=by
        have h1:=gT hcut.wf
        have h2:=gT hy.wf
        rw [hcut.len] at h1
        rw [hy.len] at h2
        omega
       have htm':(wd (nv (wd (nv ((xs'.take e).drop i)*nv ys')))).length≤p+q-i:=by rw [fK];exact htm
       have hbnd':Hid (nv l+WB^i*nv (wd (nv ((xs'.take e).drop i)*nv ys'))<WB^(i+(p+q-i))):=by show _<_;rw [fK];exact hbnd.out
       have hll':Hid (l.length=i+(p+q-i)):=by show _=_;rw [hll.out];omega
       have hgwr:g<wr.heap.size:=hb.lt
       go_region_with (first
        | (go_at_call 184;refine (HI.out _ _ _ _ _ _ _ _ _ (hcut.ext (by repeat (first | exact Ext.refl _ | assumption | apply Ext.drewN | apply Ext.drew | apply Ext.alloc))) (hyr.ext (by repeat (first | exact Ext.refl _ | assumption | apply Ext.drewN | apply Ext.drew | apply Ext.alloc))) b3 b4).mono ?_;rintro er w1 ⟨k1,hk1,g1,z1,rfl,hg1,hb1,hw1,hl1,hv1,hx1⟩;have hr1:=NewP.rd hb1 hw1 hl1.out (by rw [hk1.out];omega);have hne1:g1≠g:=(by have h:wr.heap.size≤g1:=hg1;omega);have hx1':Ext wr w1:=Ext.trans (by repeat (first | exact Ext.refl _ | assumption | apply Ext.drewN | apply Ext.drew | apply Ext.alloc)) hx1)
        | (go_at_call 223;refine (qU (hr1.ext (by repeat (first | exact Ext.refl _ | assumption | apply Ext.drewN | apply Ext.drew | apply Ext.alloc))) (hl:=(by rw [hk1.out];omega))).mono ?_;rintro er w' ⟨tm,htm2,rfl,hrm2,rfl⟩;rw [hv1.out] at htm2 hrm2)
        | (go_at_call 225;refine (vQ (o:=i) (n:=p+q-i) (hb.ext hx1') hwl hll'.out hrm2 (fun a ha _=>by cases ha;exact hne1) (by rw [htm2.out];exact htm) b2 b1 hbnd'.out).mono ?_;rintro er w10 ⟨z10,rfl,hb10,hw10,hl10,hv10,hu10⟩))
       all_goals
        go_wp2_with fail
        go_roundw
        case rel=>
         refine⟨i+q,z10,by omega,by go_num,(show _=_ by rw [hl10.out,hll.out]),hw10,by first | exact hb10 | exact hb10.drew | exact hb10.drewN _,?_,?_⟩
         ·show _=_
          rw [hv10.out,fK];exact hnext.out.symm
         ·have u1:Upd g wa w10:=(hr.then_ext hx1').trans (Upd.trans (Upd.of_ext (by repeat (first | exact Ext.refl _ | assumption | apply Ext.drewN | apply Ext.drew | apply Ext.alloc))) hu10)
          first | exact u1 | exact u1.drew | exact u1.drewN _
        case measure=>simp [intOf];omega
      ·have hfull:Hid (nv l=nv xs'*nv ys'):=by
        show _=_
        rw [hv.out,List.take_of_length_le (by rw [hlx.out];omega)]
       go_wp2_with fail
       go_ret
       exact FIN.out l _ hb hwl hll.out hfull.out hr
theorem G5 (hx:Rd w A n cap xs)(hy:Rd w B m cap' ys)(hN:n+m≤274877906944):aQ aH 184 #[i9 A n cap,i9 B m cap'] w (CB w (nv xs) (nv ys)):=PY (n+m+1) w A B n cap m cap' xs ys hx hy (by omega) hN
theorem vO (hx:Rd w A n cap xs)(hy:Rd w B m cap' ys)(hN:n+m≤274877906944):aQ aH 125 #[i9 A n cap,i9 B m cap'] w (j2 w (nv xs*nv ys)):=by
 go_enter Tryz.func125,Tryz.ntmps125
 go_wp2_with fail
 refine (G5 hx hy hN).mono ?_
 rintro e w1 ⟨k1,hk1,g1,z1,rfl,hg1,hb1,hw1,hl1,hv1,hx1⟩
 have hk1b:k1≤n+m:=by
  rw [hk1.out]
  have h1:=gT hx.wf
  have h2:=gT hy.wf
  rw [hx.len] at h1
  rw [hy.len] at h2
  omega
 go_wp2_with fail
 refine (k0 (NewP.rd hb1 hw1 hl1.out (by omega))).mono ?_
 rintro e w2 ⟨A2,n2,c2,rfl,hn2,hr2,ho2,hx2⟩
 go_wp2_with fail
 go_ret
 rw [hv1.out] at hn2 hr2 ho2
 exact⟨A2,n2,c2,rfl,hn2,hr2,ho2.mono hx1.size,hx1.trans hx2⟩
theorem QX (hx:Rd w A n cap xs)(hN:n≤137438953472):aQ aH 198 #[i9 A n cap] w (j2 w (nv xs*nv xs)):=by
 go_enter Tryz.func198,Tryz.ntmps198
 go_wp2_with fail
 refine (vO hx hx (by omega)).mono ?_
 rintro e w1 ⟨A2,n2,c2,rfl,h⟩
 go_wp2_with fail
 go_ret
 exact⟨A2,n2,c2,rfl,h⟩
theorem Rd.one (w:a0)(hx:x≤18446744073709551615):Rd (w.alloc (.cells #[i5 (x:Int)] 65)) (some ⟨w.heap.size,0,none⟩) 1 1 [x]:=
 ⟨Rv.one w 65 _,C6 (by rw [cC];omega)⟩
theorem QW (hx:Rd w A n cap xs)(hN:n≤137438953472)(hxb:x≤18446744073709551615):aQ aH 247 #[i9 A n cap,i5 (x:Int)] w (j2 w (nv xs*x)):=by
 go_enter Tryz.func247,Tryz.ntmps247
 go_wp2_with fail
 refine (vO (hx.ext (by repeat (first | exact Ext.refl _ | assumption | apply Ext.drewN | apply Ext.drew | apply Ext.alloc))) (Rd.one w hxb) (by omega)).mono ?_
 rintro e w1 ⟨A2,n2,c2,rfl,hn2,hr2,ho2,hx2⟩
 go_wp2_with fail
 go_ret
 rw [sP] at hn2 hr2 ho2
 exact⟨A2,n2,c2,rfl,hn2,hr2,ho2.mono (by simp),((Ext.refl w).alloc _).trans hx2⟩
theorem Own.word (h:Own w base 65 1 A n cap (xs.map bC))(hw:Wf xs)(hi:i<n):∃g x,A=some ⟨g,0,none⟩∧base≤g∧Hid (xs.getD i 0=x)∧x≤18446744073709551615∧w.cell? ⟨g,i,none⟩=some (i5 (x:Int))∧w.frozen? ⟨g,i,none⟩=false∧
   ∀u:Nat,Own (w.setCell ⟨g,i,none⟩ (i5 (u:Int))) base 65 1 (some ⟨g,0,none⟩) n cap ((xs.set i u).map bC):=by
 have q:xs.length=n:=by simpa using h.rv.len
 rcases h with⟨rfl,rfl,rfl,_⟩ | ⟨g,cs,rfl,hb,f,hn,r,hl,p⟩
 ·omega
 ·have o:=rN hw i
  have e:i<cs.length:=by omega
  refine⟨g,_,rfl,hb,rfl,by rw [cC] at o;omega,?_,f.frozen i,fun u=>?_⟩
  ·rw [f.cell e]
   have:cs.getD i undef=(cs.take (n*1)).getD i undef:=by
    simp only [bE,iW]
    rw [if_pos (by omega)]
   rw [this,p]
   simp [bE,iK,bR (show i<xs.length by omega)]
  ·refine Own.mk_ hb (f.set i _) hn r (by rw [List.length_set];exact hl) ?_
   rw [←dP,←p,List.take_set]
def X6 (w:a0)(q r:Nat)(e:dR)(w':a0):Prop:=
 ∃A n cap r',e= .returned (.tuple #[i9 A n cap,i5 (r':Nat),a9 0])∧Hid (r'=r)∧r'≤18446744073709551615∧Hid (n=(wd q).length)∧Rd w' A n cap (wd q)∧Own w' w.heap.size 65 1 A n cap ((wd q).map bC)∧Ext w w'
theorem L7 {rest r' v:Nat}(hk:k<l.length)(h:WB^(k+1)*nv (l.drop (k+1))*v+WB^(k+1)*rest+nv (l.take (k+1))=V)(hx:l.getD k 0=x)(hs:rest*WB+x=d*v+r'):WB^k*nv ((l.set k d).drop k)*v+WB^k*r'+nv ((l.set k d).take k)=V:=by
 have f:(l.set k d).take k=l.take k:=by rw [List.take_set_of_le (aX k)]
 have e:(l.set k d).drop k=d::l.drop (k+1):=by
  rw [mH (by rw [List.length_set];exact hk)]
  congr 1
  ·simp
  ·rw [List.drop_set_of_lt (by omega)]
 rw [f,e,mS,←h,eL l k hk,hx,dJ]
 have q:WB^k*(rest*WB+x)=WB^k*(d*v+r'):=by rw [hs]
 have p:WB^k*(d+WB*nv (l.drop (k+1)))*v=WB^k*WB*nv (l.drop (k+1))*v+WB^k*(d*v):=by
  rw [cZ,dO,Nat.add_comm,←bY (WB^k) WB,bY (WB^k) d]
 have o:WB^k*WB*rest=WB^k*(rest*WB):=by rw [bY,cY WB rest]
 rw [p,o]
 simp only [cZ] at q
 omega
theorem J2 (hx:Rd w A n cap xs)(hl:n≤1099511627775){v:Nat}(hv0:v≠0)(hvb:v≤18446744073709551615):aQ aH 235 #[i9 A n cap,i5 (v:Int)] w (X6 w (nv xs/v) (nv xs%v)):=by
 have h0:((v:Int)==0)=false:=by simp;omega
 go_enter Tryz.func235,Tryz.ntmps235
 go_wp2_with fail
 refine (k0 hx).mono ?_
 rintro e w1 ⟨A1,n1,c1,rfl,hn1,hr1,ho1,hx1⟩
 have hn1b:n1≤n:=by
  have:=gT hx.wf
  rw [hn1.out,←hx.len];exact this
 clear h0
 have h0:((v:Int)==0)=false:=by simp;omega
 go_wp2_with fail
 obtain⟨l0,hl0⟩:∃l0,wd (nv xs)=l0:=⟨_,rfl⟩
 have hnl0:Hid (nv l0=nv xs):=(show _=_ by rw [←hl0,fK])
 rw [hl0] at hr1 ho1
 have hll0:Hid (l0.length=n1):=hr1.len
 have hwl0:=hr1.wf
 clear hr1 hl0
 go_loopw [9,8] (fun a b wr=>∃(k r:Nat) (l:List Nat),k≤n1∧r<v∧a= a9 ((k:Int)-1)∧b= i5 (r:Int)∧Hid (l.length=n1)∧Wf l∧Own wr w.heap.size 65 1 A1 n1 c1 (l.map bC)∧
  Hid (WB^k*nv (l.drop k)*v+WB^k*r+nv (l.take k)=nv xs)∧Ext w wr) (fun a b wr=>(intOf a+1).toNat)
 case atStart=>exact⟨n1,0,l0,aX _,by omega,by go_num,rfl,hll0,hwl0,ho1,(show _=_ by rw [List.drop_of_length_le (by rw [hll0.out];exact aX _),List.take_of_length_le (by rw [hll0.out];exact aX _),hnl0.out];simp [nv]),hx1⟩
 case round=>
  obtain⟨k,r,l,hk,hr,rfl,rfl,hll,hwl,ho,hV,hxr⟩:=hrel
  clear hll0 hwl0 ho1 hnl0
  by_cases hk0:0<k
  ·obtain⟨k,rfl⟩:∃j,k=j+1:=⟨k-1,by omega⟩
   obtain⟨g,x,rfl,hg,hxk,hxb,hc,hfr,hset⟩:=ho.word hwl (i:=k) (by omega)
   have ek:((k+1:Nat):Int)-1=(k:Int):=by omega
   rw [ek]
   go_wp2_with fail
   refine (JS hr hxb hvb _).mono ?_
   rintro e w2 ⟨d,r',hd,hr',hdb,hrv,rfl,m2,hm2⟩
   have hx2:Ext wr w2:=by rw [hm2];exact (Ext.refl wr).drewN m2
   clear hm2
   have ho2:=ho.ext hx2
   obtain⟨g',x',hg',_,_,_,hc2,hfr2,hset2⟩:=ho2.word hwl (i:=k) (by omega)
   cases hg'
   go_wp2_with fail
   go_roundw
   case rel=>
    refine⟨k,r',l.set k d,by omega,hrv,rfl,rfl,(show _=_ by rw [List.length_set];exact hll.out),gO hwl k (by rw [cC];omega),hset2 d,?_,(hxr.trans hx2).setCell hg _⟩
    refine L7 (by rw [hll.out];omega) hV.out hxk.out ?_
    rw [hd.out,hr'.out,cY _ v];exact (lM _ _).symm
   case measure=>simp [intOf]
  ·obtain rfl:k=0:=by omega
   have hVl:nv l*v+r=nv xs:=by simpa [nv] using hV.out
   have hq:nv l=nv xs/v:=by rw [←hVl,cY,nC (by omega),gV hr];rfl
   have hrr:Hid (r=nv xs%v):=(show _=_ by rw [←hVl,cY,tW,fO hr])
   have HQ:=Lib.hid hq
   clear hq hVl
   have ek:((0:Nat):Int)-1= -1:=rfl
   rw [ek]
   go_wp2_with fail
   refine (k0 (ho.rd hwl)).mono ?_
   rintro e w2 ⟨A2,n2,c2,rfl,hn2,hr2,ho2,hx2⟩
   rw [HQ.out] at hn2 hr2 ho2
   go_wp2_with fail
   go_ret3
   exact⟨A2,n2,c2,r,rfl,hrr,by omega,hn2,hr2,ho2.mono hxr.size,hxr.trans hx2⟩
def XD (w:a0)(v n:Nat)(e:dR)(w':a0):Prop:=
 ∃g zs,e= .returned (i9 (some ⟨g,0,none⟩) n n)∧w.heap.size≤g∧Bk w' g 65 (zs.map bC)∧Wf zs∧Hid (zs.length=n)∧Hid (nv zs=v)∧Ext w w'
theorem NE (hs:s<64):x*2^s%18446744073709551616=(x%2^(64-s))*2^s∧x*2^s=x*2^s%18446744073709551616+WB*(x/2^(64-s)):=by
 have e:18446744073709551616=2^(64-s)*2^s:=by rw [←dX,iH (by omega)]
 have h1:x*2^s%18446744073709551616=(x%2^(64-s))*2^s:=by rw [e,xT]
 refine⟨h1,?_⟩
 rw [h1,cC,e]
 have h2:=jF x (2^(64-s))
 conv=>lhs;rw [←h2]
 rw [dO,bY,cY (x/2^(64-s)),←bY]
theorem NG {c r30 r32:Nat}(hs:s<64)(hx:xs.getD i 0=x)(hi:i<l.length)(hc:c<2^s)(h30:r30=x*2^s%18446744073709551616)(h32:r32=r30||| c)(hd:d=x/2^(64-s))(h:nv (l.take i)+WB^i*c=nv (xs.take i)*2^s):nv ((l.set i r32).take (i+1))+WB^(i+1)*d=nv (xs.take (i+1))*2^s:=by
 obtain⟨o,f⟩:=NE (x:=x) hs
 have q:r32=r30+c:=by rw [h32,h30,o,zU hc]
 have p:nv (xs.take (i+1))=nv (xs.take i)+WB^i*x:=by
  by_cases e:i<xs.length
  ·rw [eL xs i e,hx]
  ·have:x=0:=by rw [←hx];simp [bE,gW (show xs.length≤i by omega)]
   rw [this,List.take_of_length_le (by omega),List.take_of_length_le (by omega)];simp
 rw [zY hi,p,dO,←h,q,hd,dJ,bY (WB^i) WB,bY (WB^i) x,f,←h30]
 simp only [cZ]
 omega
theorem NH (hx:x≤18446744073709551615)(hs:s<64):x/2^(64-s)<2^s:=by
 refine tY ?_
 rw [←dX,iH (by omega)]
 omega
theorem J1 (hx:Rd w A m cap xs)(_hl:m≤1099511627775)(hs:s<64)(hn:n≤1099511627776)(hmn:m≤n)(hfit:nv xs*2^s<WB^n):aQ aH 266 #[i9 A m cap,i5 (s:Int),a9 (n:Int)] w (XD w (nv xs*2^s) n):=by
 have hlx:=Lib.hid hx.len
 have HF:=Lib.hid hfit
 clear hfit
 have hsi:(s:Int)≤63:=by omega
 have hmk:=kF (P:=aH) Tryz.underlying22 iB G (by decide) (n:Int) (by omega) (by omega)
 rw [gX] at hmk
 go_enter Tryz.func266,Tryz.ntmps266
 go_wp2_with fail
 clear hmk
 obtain⟨g,hg⟩:∃g,w.heap.size=g:=⟨_,rfl⟩
 rw [hg]
 obtain⟨wa,hwa⟩:∃wa,w.alloc (.cells (zc (.int .u64 0) n) 65)=wa:=⟨_,rfl⟩
 rw [hwa]
 have hbk:Bk wa g 65 ((cJ n 0).map bC):=by
  rw [←hwa,←hg,←jY];exact Bk.new' _ _ _
 have hea:Ext w wa:=by rw [←hwa];exact (Ext.refl w).alloc _
 have hgs:w.heap.size≤g:=by rw [hg];exact aX _
 clear hg hwa
 go_loopw [15,8] (fun u v wr=>∃(i c:Nat) (l:List Nat),i≤n∧c≤18446744073709551615∧Hid (c<2^s)∧u= a9 (i:Int)∧v= i5 (c:Int)∧Hid (l.length=n)∧Wf l∧Bk wr g 65 (l.map bC)∧
  Hid (nv (l.take i)+WB^i*c=nv (xs.take i)*2^s)∧Ext w wr) (fun u v wr=>n-(intOf u).toNat)
 case atStart=>exact⟨0,0,_,bJ _,bJ _,mC s,rfl,rfl,List.length_replicate,mW _,hbk,by simp [Hid,nv],hea⟩
 case round=>
  obtain⟨i,c,l,hi,hcb,hc,rfl,rfl,hll,hwl,hb,hv,hr⟩:=hrel
  clear hbk hea
  by_cases hin:i<n
  ·obtain⟨o,ho,_,hco⟩:=hb.word hwl (i:=i) (by rw [hll.out];omega)
   have hfr:=hb.frozen i
   have key:∀x r32 d r30:Nat,xs.getD i 0=x→r30=x*2^s%18446744073709551616→r32=r30||| c→d=x/2^(64-s)→r32≤18446744073709551615→x≤18446744073709551615→∀w2,Upd g wr w2→Bk w2 g 65 ((l.set i r32).map bC)→Ext w w2→
     ∃(j c:Nat) (l:List Nat),j≤n∧c≤18446744073709551615∧Hid (c<2^s)∧d8 .i64 ((i:Int)+1)= a9 (j:Int)∧d8 .u64 (d:Int)= i5 (c:Int)∧Hid (l.length=n)∧Wf l∧Bk w2 g 65 (l.map bC)∧
      Hid (nv (l.take j)+WB^j*c=nv (xs.take j)*2^s)∧Ext w w2:=by
    intro x r32 d r30 h1 h2 h3 h4 h5 h6 w2 hu hb2 he
    have h7:=NH h6 hs
    rw [←h4] at h7
    have h8:2^s≤2^63:=eW (by omega) (by omega)
    exact⟨i+1,d,l.set i r32,by omega,by omega,h7,rfl,rfl,(show _=_ by rw [List.length_set];exact hll.out),gO hwl i (by rw [cC];omega),hb2,NG hs h1 (by rw [hll.out];omega) hc.out h2 h3 h4 hv.out,he⟩
   have KEY:=Lib.hid key
   clear key
   have hs64:s≤64:=by omega
   by_cases him:i<m
   ·obtain⟨a,x,rfl,hxk,hxb,hcx⟩:=(hx.ext hr).get (i:=i) (by omega)
    by_cases hs0:0<s
    ·go_wp2_with (first
      | ((with_reducible refine cK (some 30) ?_);refine dC rfl rfl rfl rfl rfl (oR hs64) ?_;intro r30 h30 hb30)
      | ((with_reducible refine cK (some 32) ?_);refine dC rfl rfl rfl rfl rfl (sD hb30 hcb) ?_ (hf:=(by have:=oG (n:=64) (x:=r30) (y:=c) (by omega) (by omega);omega));intro r32 h32 hb32)
      | ((with_reducible refine cK (some 38) ?_);refine dC rfl rfl rfl rfl rfl (oQ (x:=64) (y:=s) (by omega)) ?_;intro r38 h38 hb38;obtain rfl:r38=64-s:=(by have:=h38.out;omega))
      | ((with_reducible refine cK (some 39) ?_);refine dC rfl rfl rfl rfl rfl (jS (s:=64-s) (by omega)) ?_ (hf:=(by have:=eR x (2^(64-s));omega));intro d hd hdb))
     go_roundw
     case rel=>exact KEY.out x r32 d r30 hxk.out h30.out h32.out hd.out hb32 hxb _ ((Upd.refl _ _).setCell _ _) (by rw [←dP];exact hb.set _ _) (hr.setCell hgs _)
     case measure=>simp [intOf];omega
    ·go_wp2_with (first
      | ((with_reducible refine cK (some 30) ?_);refine dC rfl rfl rfl rfl rfl (oR hs64) ?_;intro r30 h30 hb30)
      | ((with_reducible refine cK (some 32) ?_);refine dC rfl rfl rfl rfl rfl (sD hb30 hcb) ?_ (hf:=(by have:=oG (n:=64) (x:=r30) (y:=c) (by omega) (by omega);omega));intro r32 h32 hb32))
     go_roundw
     case rel=>exact KEY.out x r32 0 r30 hxk.out h30.out h32.out (by rw [show s=0 from by omega,gV (by omega)]) hb32 hxb _ ((Upd.refl _ _).setCell _ _) (by rw [←dP];exact hb.set _ _) (hr.setCell hgs _)
     case measure=>simp [intOf];omega
   ·have hx0:Hid (xs.getD i 0=0):=by
     show _=_
     rw [bE,gW (by rw [hlx.out];omega)];rfl
    by_cases hs0:0<s
    ·go_wp2_with (first
      | ((with_reducible refine cK (some 30) ?_);refine dC rfl rfl rfl rfl rfl (oR (x:=0) hs64) ?_;intro r30 h30 hb30)
      | ((with_reducible refine cK (some 32) ?_);refine dC rfl rfl rfl rfl rfl (sD hb30 hcb) ?_ (hf:=(by have:=oG (n:=64) (x:=r30) (y:=c) (by omega) (by omega);omega));intro r32 h32 hb32)
      | ((with_reducible refine cK (some 38) ?_);refine dC rfl rfl rfl rfl rfl (oQ (x:=64) (y:=s) (by omega)) ?_;intro r38 h38 hb38;obtain rfl:r38=64-s:=(by have:=h38.out;omega))
      | ((with_reducible refine cK (some 39) ?_);refine dC rfl rfl rfl rfl rfl (jS (x:=0) (s:=64-s) (by omega)) ?_ (hf:=(by have:=eR 0 (2^(64-s));omega));intro d hd hdb))
     go_roundw
     case rel=>exact KEY.out 0 r32 d r30 hx0.out h30.out h32.out hd.out hb32 (by omega) _ ((Upd.refl _ _).setCell _ _) (by rw [←dP];exact hb.set _ _) (hr.setCell hgs _)
     case measure=>simp [intOf];omega
    ·go_wp2_with (first
      | ((with_reducible refine cK (some 30) ?_);refine dC rfl rfl rfl rfl rfl (oR (x:=0) hs64) ?_;intro r30 h30 hb30)
      | ((with_reducible refine cK (some 32) ?_);refine dC rfl rfl rfl rfl rfl (sD hb30 hcb) ?_ (hf:=(by have:=oG (n:=64) (x:=r30) (y:=c) (by omega) (by omega);omega));intro r32 h32 hb32))
     go_roundw
     case rel=>exact KEY.out 0 r32 0 r30 hx0.out h30.out h32.out (by simp) hb32 (by omega) _ ((Upd.refl _ _).setCell _ _) (by rw [←dP];exact hb.set _ _) (hr.setCell hgs _)
     case measure=>simp [intOf];omega
  ·obtain rfl:i=n:=by omega
   go_wp2_with fail
   go_ret
   refine⟨g,l,rfl,hgs,hb,hwl,hll,?_,hr⟩
   have h1:=hv.out
   rw [List.take_of_length_le (by rw [hll.out];exact aX _),List.take_of_length_le (by rw [hlx.out];exact hmn)] at h1
   have h2:=HF.out
   show _=_
   rcases kC c with h0 | h0
   ·rw [h0,gJ] at h1;exact h1
   ·have:=Nat.le_mul_of_pos_right (WB^i) h0
    omega
def KC (g:Nat)(zs:List Nat)(K:Nat)(P:Nat→Nat→Prop)(w w':a0):Prop:=
 ∃zs' c,Bk w' g 65 (zs'.map bC)∧Wf zs'∧Hid (zs'.length=zs.length)∧Hid (zs'.drop K=zs.drop K)∧c≤1∧Hid (P (nv zs') c)∧Upd g w w'
theorem wQ (h:i<K)(x:Nat):(l.set i x).drop K=l.drop K:=by rw [List.drop_set_of_lt h]
theorem VC {o:Nat}(hz:Bk w g 65 (zs.map bC))(hwz:Wf zs)(hy:Rd w B m cap' ys)(hne:∀a,B=some a→a.block≠g)(hK:o+m+1≤zs.length)(hm:m≤1099511627776)(_ho:o≤1099511627776):aQ aH 269 #[i9 (some ⟨g,o,none⟩) (m+1) cap,i9 B m cap'] w (fun e w'=>e= .returned (.tuple #[])∧KC g zs (o+m+1) (fun v c=>v+WB^(o+m+1)*c=nv zs+WB^o*nv ys) w w'):=by
 have hly:=Lib.hid hy.len
 have HK:=Lib.hid hK
 clear hK
 go_enter Tryz.func269,Tryz.ntmps269
 go_wp2_with fail
 go_loopw [8,4] (fun u v wr=>∃(i c:Nat) (l:List Nat),i≤m∧c≤1∧u= a9 (i:Int)∧v= i5 (c:Int)∧Hid (l.length=zs.length)∧Wf l∧Bk wr g 65 (l.map bC)∧Hid (l.drop (o+m+1)=zs.drop (o+m+1))∧
  Hid (nv l+WB^(o+i)*c=nv zs+WB^o*nv (ys.take i))∧Upd g w wr) (fun u v wr=>m-(intOf u).toNat)
 case atStart=>exact⟨0,0,zs,bJ _,bJ _,rfl,rfl,rfl,hwz,hz,rfl,by simp [Hid,nv],Upd.refl _ _⟩
 case round=>
  obtain⟨i,c,l,hi,hc,rfl,rfl,hll,hwl,hb,hdr,hv,hr⟩:=hrel
  by_cases him:i<m
  ·obtain⟨a,y,rfl,hyk,hyb,hcy⟩:=(hy.upd hr hne).get (i:=i) (by omega)
   obtain⟨z,hzk,hzb,hcz⟩:=hb.word hwl (i:=o+i) (by rw [hll.out];have:=HK.out;omega)
   have hfr:=hb.frozen (o+i)
   obtain⟨s,d,hs,hsb,hd,hadd⟩:=xH hc hzb hyb
   go_wp2_with fail
   go_region
   go_wp2_with fail
   go_roundw
   case rel=>exact⟨i+1,d,l.set (o+i) s,by omega,hd,by go_num,rfl,by show _=_;rw [List.length_set];exact hll.out,gO hwl _ (by rw [cC];omega),by rw [←dP];exact (hb.set _ _).drew,
    (show _=_ by rw [wQ (by omega)];exact hdr.out),JW (by rw [hll.out];have:=HK.out;omega) hv.out hzk.out (by rw [hly.out];omega) hyk.out hs.out,(hr.setCell _ _).drew⟩
   case measure=>simp [intOf];omega
  ·obtain rfl:i=m:=by omega
   obtain⟨z,hzk,hzb,hcz⟩:=hb.word hwl (i:=o+i) (by rw [hll.out];have:=HK.out;omega)
   have hfr:=hb.frozen (o+i)
   go_wp2_with ((with_reducible refine cK (some 34) ?_);refine dC G G G G G mO ?_;intro s hs hsb)
   go_end0
   refine⟨rfl,l.set (o+i) s,(z+c)/18446744073709551616,by rw [←dP];exact hb.set _ _,gO hwl _ (by rw [cC];omega),(show _=_ by rw [List.length_set];exact hll.out),(show _=_ by rw [wQ (by omega)];exact hdr.out),by omega,?_,hr.setCell _ _⟩
   have h:=JV (k:=o+i) (c:=c) (s:=s) (d:=(z+c)/18446744073709551616) (by rw [hll.out];have:=HK.out;omega) hv.out hzk.out (by rw [hs.out,cC];exact jF _ _)
   rwa [List.take_of_length_le (by rw [hly.out];exact aX _)] at h
theorem MH {o c t z lo:Nat}(hi2:o+i<l.length)(h:nv l+WB^o*(d*nv (ys.take i))=V+WB^(o+i)*(c+t))(hz:l.getD (o+i) 0=z)(hy:i<ys.length)(hyk:ys.getD i 0=y)(hp:lo+WB*hi=d*y)(ha:lo2+WB*cc=lo+c)(hs:s+lo2+t=z+WB*u):nv (l.set (o+i) s)+WB^o*(d*nv (ys.take (i+1)))=V+WB^(o+i+1)*((hi+cc)+u):=by
 have f:=nP hi2 s
 rw [hz] at f
 rw [eL ys i hy,hyk,cZ d,cZ (WB^o),show WB^o*(d*(WB^i*y))=WB^(o+i)*(d*y) from by rw [dX,Nat.mul_left_comm d,←bY (WB^o)],dJ,bY (WB^(o+i)),←hp]
 have e:WB^(o+i)*(s+lo2+t)=WB^(o+i)*(z+WB*u):=by rw [hs]
 have p:WB^(o+i)*(lo2+WB*cc)=WB^(o+i)*(lo+c):=by rw [ha]
 simp only [cZ] at e p h⊢
 omega
theorem MG {c t z A:Nat}(hi2:k<l.length)(h:nv l+A=V+WB^k*(c+t))(hz:l.getD k 0=z)(hs:s+c+t=z+WB*u):nv (l.set k s)+A=V+WB^(k+1)*u:=by
 have f:=nP hi2 s
 rw [hz] at f
 rw [dJ,bY]
 have e:WB^k*(s+c+t)=WB^k*(z+WB*u):=by rw [hs]
 simp only [cZ] at e h⊢
 omega
theorem MJ {lo c:Nat}(hd:d≤18446744073709551615)(hy:y≤18446744073709551615)(hc:c≤18446744073709551615)(hp:lo+WB*hi=d*y)(ha:lo2+WB*cc=lo+c):hi+cc≤18446744073709551615:=by
 have h1:d*y≤18446744073709551615*18446744073709551615:=j3 hd hy
 rw [cC] at hp ha
 omega
theorem V9 {o:Nat}(hz:Bk w g 65 (zs.map bC))(hwz:Wf zs)(hy:Rd w B m cap' ys)(hne:∀a,B=some a→a.block≠g)(hK:o+m+1≤zs.length)(hm:m≤1099511627776)(_ho:o≤1099511627776)(hd:d≤18446744073709551615):aQ aH 268 #[i9 (some ⟨g,o,none⟩) (m+1) cap,i9 B m cap',i5 (d:Int)] w (fun e w'=>∃b:Bool,e= .returned (.bool b)∧KC g zs (o+m+1) (fun v c=>(b=true↔c=1)∧v+WB^o*(d*nv ys)=nv zs+WB^(o+m+1)*c) w w'):=by
 have hly:=Lib.hid hy.len
 have HK:=Lib.hid hK
 clear hK
 go_enter Tryz.func268,Tryz.ntmps268
 go_wp2_with fail
 go_loopw [16,7,8] (fun u v x wr=>∃(i c t:Nat) (l:List Nat),i≤m∧c≤18446744073709551615∧t≤1∧u= a9 (i:Int)∧v= i5 (c:Int)∧x= i5 (t:Int)∧Hid (l.length=zs.length)∧Wf l∧Bk wr g 65 (l.map bC)∧Hid (l.drop (o+m+1)=zs.drop (o+m+1))∧
  Hid (nv l+WB^o*(d*nv (ys.take i))=nv zs+WB^(o+i)*(c+t))∧Upd g w wr) (fun u v x wr=>m-(intOf u).toNat)
 case atStart=>exact⟨0,0,0,zs,bJ _,bJ _,bJ _,rfl,rfl,rfl,rfl,hwz,hz,rfl,by simp [Hid,nv],Upd.refl _ _⟩
 case round=>
  obtain⟨i,c,t,l,hi,hc,ht,rfl,rfl,rfl,hll,hwl,hb,hdr,hv,hr⟩:=hrel
  by_cases him:i<m
  ·obtain⟨a,y,rfl,hyk,hyb,hcy⟩:=(hy.upd hr hne).get (i:=i) (by omega)
   obtain⟨z,hzk,hzb,hcz⟩:=hb.word hwl (i:=o+i) (by rw [hll.out];have:=HK.out;omega)
   have hfr:=hb.frozen (o+i)
   go_wp2_with fail
   refine (bits_Mul64 d y hd hyb _).mono ?_
   rintro e w1 ⟨hi',lo,hp,hhb,hlb,rfl,rfl⟩
   obtain⟨lo2,cc,hlo2,hlo2b,hccb,hadd⟩:=tM hlb hc
   obtain⟨s,u,hs,hsb,hu,hsub⟩:=uO ht hzb hlo2b
   have hcar:(hi':Int)+(cc:Int)≤18446744073709551615:=by have:=MJ hd hyb hc hp.out hlo2.out;omega
   go_wp2_with fail
   go_roundw
   case rel=>exact⟨i+1,hi'+cc,u,l.set (o+i) s,by omega,by omega,hu,by go_num,by go_num,rfl,by show _=_;rw [List.length_set];exact hll.out,gO hwl _ (by rw [cC];omega),by rw [←dP];exact (hb.set _ _),
    (show _=_ by rw [wQ (by omega)];exact hdr.out),MH (by rw [hll.out];have:=HK.out;omega) hv.out hzk.out (by rw [hly.out];omega) hyk.out hp.out hlo2.out hs.out,(hr.setCell _ _)⟩
   case measure=>simp [intOf];omega
  ·obtain rfl:i=m:=by omega
   obtain⟨z,hzk,hzb,hcz⟩:=hb.word hwl (i:=o+i) (by rw [hll.out];have:=HK.out;omega)
   have hfr:=hb.frozen (o+i)
   obtain⟨s,u,hs,hsb,hu,hsub⟩:=uO ht hzb hc
   have hfin:=MG (k:=o+i) (by rw [hll.out];have:=HK.out;omega) hv.out hzk.out hs.out
   rw [List.take_of_length_le (by rw [hly.out];exact aX _)] at hfin
   have HFIN:=Lib.hid hfin
   clear hfin
   go_wp2_with fail
   go_ret
   refine⟨_,rfl,l.set (o+i) s,u,by rw [←dP];exact hb.set _ _,gO hwl _ (by rw [cC];omega),(show _=_ by rw [List.length_set];exact hll.out),(show _=_ by rw [wQ (by omega)];exact hdr.out),hu,⟨?_,HFIN.out⟩,hr.setCell _ _⟩
   simp
   omega
def KB (u2 u1 u0 v1 v0:Nat)(w:a0)(e:dR)(w':a0):Prop:=
 ∃d:Nat,e= .returned (i5 (d:Int))∧d≤18446744073709551615∧Hid (d*(v1*WB+v0)≤(u2*WB+u1)*WB+u0)∧Hid (d=18446744073709551615∨(u2*WB+u1)*WB+u0<(d+1)*(v1*WB+v0))∧∃m,w'=w.drewN m
theorem SL {D T:Nat}(h1:d≤18446744073709551615)(h2:d*V≤T)(h3:d=18446744073709551615∨T<(d+1)*V)(k1:D≤18446744073709551615)(k2:D*V≤T)(k3:D=18446744073709551615∨T<(D+1)*V):d=D:=by
 have key:∀a b:Nat,a≤18446744073709551615→a*V≤T→(b=18446744073709551615∨T<(b+1)*V)→a≤b:=by
  intro a b _ h k
  rcases k with k | k
  ·omega
  ·refine oH (fun e=>?_)
   have:=eC V (nB e)
   rw [Nat.succ_eq_add_one] at this
   omega
 exact Nat.le_antisymm (key _ _ h1 h2 k3) (key _ _ k1 k2 h3)
theorem SN (T V:Nat)(hV:0<V):∃D:Nat,D≤18446744073709551615∧D*V≤T∧(D=18446744073709551615∨T<(D+1)*V):=by
 by_cases h:T/V≤18446744073709551615
 ·exact⟨T/V,h,Nat.div_mul_le_self _ _,bT (by rw [cY];exact tX T hV)⟩
 ·refine⟨18446744073709551615,aX _,?_,cD rfl⟩
  have h1:=Nat.div_mul_le_self T V
  have h2:=eC V (Nat.le_of_lt (nD h))
  omega
structure Gs (u2 u1 u0 v1 v0 d rest:Nat):Prop where
 eq:d*v1+rest=u2*WB+u1
 top:d=18446744073709551615∨(u2*WB+u1)*WB+u0<(d+1)*(v1*WB+v0)
theorem Gs.done {rest:Nat}(h:Gs u2 u1 u0 v1 v0 d rest)(hd:d*v0≤rest*WB+u0):d*(v1*WB+v0)≤(u2*WB+u1)*WB+u0:=by
 rw [←h.eq,dO,cZ,←bY]
 omega
theorem Gs.step {rest:Nat}(h:Gs u2 u1 u0 v1 v0 (d+1) rest)(hd:rest*WB+u0<(d+1)*v0):Gs u2 u1 u0 v1 v0 d (rest+v1):=by
 refine⟨?_,bT ?_⟩
 ·rw [←h.eq,nA];omega
 ·rw [←h.eq,cZ,dO,←bY]
  omega
theorem Gs.cmp {lo p rest:Nat}(hp:lo+WB*hi=p)(hlo:lo≤18446744073709551615)(hu:u0≤18446744073709551615):(hi<rest∨hi=rest∧lo≤u0)↔p≤rest*WB+u0:=by
 rw [←hp,cC]
 omega
theorem Gs.over {rest:Nat}(hd:d≤18446744073709551615)(hv:v0≤18446744073709551615)(hr:18446744073709551616≤rest):d*v0≤rest*WB+u0:=by
 have h1:d*v0≤18446744073709551615*18446744073709551615:=j3 hd hv
 rw [cC]
 omega
theorem VB (h2:u2≤v1)(h1:u1≤18446744073709551615)(h0:u0≤18446744073709551615)(hv1:v1≤18446744073709551615)(hv0:v0≤18446744073709551615)(hpos:0<v1)(w:a0):aQ aH 267 #[i5 (u2:Int),i5 (u1:Int),i5 (u0:Int),i5 (v1:Int),i5 (v0:Int)] w (KB u2 u1 u0 v1 v0 w):=by
 go_enter Tryz.func267,Tryz.ntmps267
 go_wp2_with fail
 go_step3
 go_upto_if 21 with (fail)
 go_cut [11,12] (fun a b wc=>∃d r:Nat,a= i5 (d:Int)∧b= i5 (r:Int)∧d≤18446744073709551615∧r≤18446744073709551615∧Hid (Gs u2 u1 u0 v1 v0 d r)∧∃m,wc=w.drewN m)
 case first=>
  by_cases hlt:v1≤u2
  ·obtain⟨s,c,hs,hsb,hc,hadd⟩:=tM h1 hv1
   have hG:Hid (Gs u2 u1 u0 v1 v0 18446744073709551615 (u1+v1)):=by
    refine⟨?_,cD rfl⟩
    obtain rfl:u2=v1:=by omega
    rw [cC];omega
   by_cases hc0:c=0
   ·subst hc0
    have b0:((0:Int) != 0)=false:=rfl
    go_wp2_with fail
    go_meet
    case rel=>
     have e:s=u1+v1:=by have:=hs.out;omega
     exact⟨18446744073709551615,s,rfl,rfl,by omega,hsb,by rw [e];exact hG,0,rfl⟩
   ·obtain rfl:c=1:=by omega
    have b1:((1:Int) != 0)=true:=rfl
    go_wp2_with fail
    simp only [Exit.noGoto_ret]
    go_ret
    exact⟨18446744073709551615,rfl,by omega,hG.out.done (Gs.over (by omega) hv0 (by have:=hs.out;rw [cC] at this;omega)),cD rfl,0,rfl⟩
  ·go_wp2_with fail
   refine (JS (show u2<v1 by omega) h1 hv1 _).mono ?_
   rintro e w1 ⟨d,r,hd,hr,hdb,hrb,rfl,m1,rfl⟩
   go_wp2_with fail
   go_meet
   case rel=>
    have e1:d*v1+r=u2*WB+u1:=by rw [hd.out,hr.out,cY];exact lM _ _
    refine⟨d,r,rfl,rfl,hdb,by omega,⟨e1,bT ?_⟩,m1,rfl⟩
    rw [←e1,dO,dO,Nat.one_mul,cZ,←bY]
    have h3:r*WB+WB≤v1*WB:=by
     have:=eC WB (nB hrb)
     rwa [nA] at this
    have h4:u0<WB:=by rw [cC];omega
    omega
 case rest=>
  obtain⟨d0,r0,rfl,rfl,hd0,hr0,hG0,hx0⟩:=hcut
  go_wp2_with fail
  go_step3
  go_wp2_with fail
  go_loopw [11,12] (fun a b wr=>∃d r:Nat,a= i5 (d:Int)∧b= i5 (r:Int)∧d≤18446744073709551615∧r≤18446744073709551615∧Hid (Gs u2 u1 u0 v1 v0 d r)∧wc=wr) (fun a b wr=>(intOf a).toNat)
  case atStart=>exact⟨d0,r0,rfl,rfl,hd0,hr0,hG0,rfl⟩
  case round=>
   obtain⟨d,r,rfl,rfl,hd,hr,hG,rfl⟩:=hrel
   clear hG0 hd0 hr0
   go_wp2_with fail
   refine (bits_Mul64 d v0 hd hv0 _).mono ?_
   rintro e w1 ⟨hi,lo,hp,hhb,hlb,rfl,rfl⟩
   have hcmp:=Lib.hid (Gs.cmp (rest:=r) hp.out hlb h0)
   have fin:∀d:Nat,d≤18446744073709551615→d*(v1*WB+v0)≤(u2*WB+u1)*WB+u0→(d=18446744073709551615∨(u2*WB+u1)*WB+u0<(d+1)*(v1*WB+v0))→KB u2 u1 u0 v1 v0 w (.returned (i5 (d:Int))) wc:=fun d a b c=>⟨d,rfl,a,b,c,hx0⟩
   have FIN:=Lib.hid fin
   clear fin
   have bad:¬d*v0≤r*WB+u0→∃d',d=d'+1∧Gs u2 u1 u0 v1 v0 d' (r+v1):=by
    intro h
    cases d with
    | zero=>simp at h
    | succ d'=>exact⟨d',rfl,hG.out.step (by omega)⟩
   have BAD:=Lib.hid bad
   clear bad
   obtain⟨s,c,hs,hsb,hc,hadd⟩:=tM hr hv1
   by_cases hA:hi<r
   ·go_wp2_with fail
    go_ret
    exact FIN.out d hd (hG.out.done (hcmp.out.1 (cD hA))) hG.out.top
   ·by_cases hB:hi=r
    ·have b1:((hi:Int)==(r:Int))=true:=by simp [hB]
     have HB:=Lib.hid hB
     clear hB
     by_cases hC:lo≤u0
     ·go_wp2_with fail
      go_ret
      exact FIN.out d hd (hG.out.done (hcmp.out.1 (bT ⟨HB.out,hC⟩))) hG.out.top
     ·obtain⟨d',rfl,hG'⟩:=BAD.out (fun h=>by have:=hcmp.out.2 h;have:=HB.out;omega)
      have HG':=Lib.hid hG'
      clear hG'
      have ed:((d'+1:Nat):Int)-1=(d':Int):=by omega
      by_cases hc0:c=0
      ·subst hc0
       have b0:((0:Int) != 0)=false:=rfl
       go_wp2_with fail
       go_roundw
       case rel=>exact⟨d',s,rfl,rfl,by omega,hsb,by rw [show s=r+v1 from by have:=hs.out;omega];exact HG',up⟩
       case measure=>simp [intOf]
      ·obtain rfl:c=1:=by omega
       have b0:((1:Int) != 0)=true:=rfl
       go_wp2_with fail
       go_ret
       exact FIN.out d' (by omega) (HG'.out.done (Gs.over (by omega) hv0 (by have:=hs.out;rw [cC] at this;omega))) HG'.out.top
    ·have b1:((hi:Int)==(r:Int))=false:=by simp;omega
     obtain⟨d',rfl,hG'⟩:=BAD.out (fun h=>by have:=hcmp.out.2 h;omega)
     have HG':=Lib.hid hG'
     clear hG'
     have ed:((d'+1:Nat):Int)-1=(d':Int):=by omega
     by_cases hc0:c=0
     ·subst hc0
      have b0:((0:Int) != 0)=false:=rfl
      go_wp2_with fail
      go_roundw
      case rel=>exact⟨d',s,rfl,rfl,by omega,hsb,by rw [show s=r+v1 from by have:=hs.out;omega];exact HG',up⟩
      case measure=>simp [intOf]
     ·obtain rfl:c=1:=by omega
      have b0:((1:Int) != 0)=true:=rfl
      go_wp2_with fail
      go_ret
      exact FIN.out d' (by omega) (HG'.out.done (Gs.over (by omega) hv0 (by have:=hs.out;rw [cC] at this;omega))) HG'.out.top
theorem uF (h:n≤9223372036854775807):IntKind.i64.wrap (n:Int)=(n:Int):=by
 simp only [uB,q6,pZ]
 simp
 omega
theorem SB (hy:y≠0)(hx:x≤9223372036854775807)(P:bV)(t:aV)(w:a0):(binOp .quo t (a9 (x:Int)) (a9 (y:Int))).run P w= .ok (a9 ((x/y:Nat):Int)) w:=by
 have h1:=eR x y
 have e:IntKind.i64.wrap ((x:Int).tdiv (y:Int))=((x/y:Nat):Int):=by
  have:(x:Int).tdiv (y:Int)=((x/y:Nat):Int):=by rw [y8 (by omega)];simp
  rw [this,uF (by omega)]
 simp only [binOp,tT]
 simp [hy]
 rw [show (↑x/ ↑y:Int)=((x/y:Nat):Int) from by simp] at*
 simpa [y8] using e
theorem SA (hy:y≠0)(hx:x≤9223372036854775807)(P:bV)(t:aV)(w:a0):(binOp .rem t (a9 (x:Int)) (a9 (y:Int))).run P w= .ok (a9 ((x%y:Nat):Int)) w:=by
 have h1:=Nat.mod_le x y
 have e:IntKind.i64.wrap ((x:Int).tmod (y:Int))=((x%y:Nat):Int):=by
  have:(x:Int).tmod (y:Int)=((x%y:Nat):Int):=by rw [Int.tmod_eq_emod_of_nonneg (by omega)];simp
  rw [this,uF (by omega)]
 simp only [binOp,tT]
 simp [hy]
 rw [show (↑x% ↑y:Int)=((x%y:Nat):Int) from by simp] at*
 simp [Int.tmod_eq_emod_of_nonneg]
theorem yF {Q:dH→Act→a0→Prop}(hgd:o.guard=none){t:aV}{x y:cG}(ho:o.op= .binOp op t x y ty){f:Nat}(hx:a.eval x=vx)(hy:a.eval y=vy)(hne:(op matches .eql | .neq)=false)(hr:∀(P:bV) (t:aV) (w:a0),(binOp op t vx vy).run P w= .ok (a9 (f:Int)) w)(h:∀r:Nat,Hid (r=f)→wpList P ops Q rest (a.put o.dst (a9 (r:Int))) w):wpList P ops Q (o::rest) a w:=
 CV hgd ho hx hy hne (fun w=>hr P t w) (h f G)
theorem WL (hx:x≤18446744073709551615)(hy:y≤18446744073709551615):bits BinOp.or IntKind.u64 (x:Int) (y:Int)=((x||| y:Nat):Int):=by
 have e:IntKind.u64.wrap ((lQ 64 (x:Int)||| lQ 64 (y:Int)).toNat:Int)=((x||| y:Nat):Int):=by
  rw [BitVec.toNat_or,lV hx,lV hy,lS,fO (oG (n:=64) (by omega) (by omega))]
 exact e
theorem L6 (x k:Nat):IntKind.u64.wrap ((x:Int)*2^k)=((x*2^k%18446744073709551616:Nat):Int):=by
 rw [←lS];simp
theorem ND (hs:s<64):x/2^s||| (y*2^(64-s)%18446744073709551616)=x/2^s+(y%2^s)*2^(64-s)∨18446744073709551616≤x:=by
 by_cases hx:x<18446744073709551616
 ·left
  have e:18446744073709551616=2^s*2^(64-s):=by rw [←dX,show s+(64-s)=64 from by omega]
  have h1:y*2^(64-s)%18446744073709551616=(y%2^s)*2^(64-s):=by rw [e,xT]
  have h2:x/2^s<2^(64-s):=tY (by rw [←e];exact hx)
  rw [h1,Nat.or_comm,zU h2,Nat.add_comm]
 ·right;omega
theorem E0 {z:Nat}(hi:i<l.length)(hix:i<xs.length)(hx:xs.getD i 0=x)(_hy:xs.getD (i+1) 0=y)(hz:z=x/2^s+(y%2^s)*2^(64-s))(hs:s<64)(h:nv (l.take i)*2^s+r0=nv (xs.take i)+WB^i*(x%2^s)):nv ((l.set i z).take (i+1))*2^s+r0=nv (xs.take (i+1))+WB^(i+1)*(y%2^s):=by
 rw [zY hi,eL xs i hix,hx,dO]
 have f:z*2^s=x/2^s*2^s+WB*(y%2^s):=by
  rw [hz,dO,bY,←dX,iH (by omega),←mY,cY WB]
 have e:x/2^s*2^s+x%2^s=x:=by rw [cY];exact lM _ _
 have o:WB^i*x=WB^i*(x/2^s*2^s)+WB^i*(x%2^s):=by rw [←cZ,e]
 rw [bY (WB^i) z,f,o,dJ,bY (WB^i) WB,cZ]
 omega
theorem QU (hx:Rd w A m cap xs)(hl:m≤1099511627775)(hn:n≤9223372036854775807):aQ aH 118 #[i9 A m cap,a9 (n:Int)] w (tP w (nv xs/2^n) 0):=by
 go_enter Tryz.func118,Tryz.ntmps118
 go_wp2_with fail
 refine (jZ hx).mono ?_
 rintro e w' ⟨k,hk,hkn,rfl,rfl⟩
 go_upto_region 4 with (first
  | ((with_reducible refine cK (some 16) ?_);refine yF rfl rfl rfl rfl rfl (SB (x:=n) (y:=64) (by omega) hn) ?_;intro q hq)
  | ((with_reducible refine cK (some 18) ?_);refine yF rfl rfl rfl rfl rfl (SA (x:=n) (y:=64) (by omega) hn) ?_;intro s hs;have hs64:s<64:=(by rw [hs.out];exact fV _ (by omega));have hqb:q≤9223372036854775807:=(by have:=hq.out;omega)))
 have hnqs:Hid (n=64*q+s):=(show _=_ by rw [hq.out,hs.out];exact (lM _ _).symm)
 clear hq hs
 have hlx:=Lib.hid hx.len
 by_cases hkq:k≤q
 ·go_wp2_with fail
  go_ret2
  refine C9 (X7 ?_ (Ext.refl w))
  refine gV ?_
  rw [hnqs.out,dX,Nat.pow_mul,←mY]
  have h1:=kH (nv xs)
  rw [←hk.out] at h1
  have h2:WB^k≤WB^q:=eW gA hkq
  have h3:=Nat.le_mul_of_pos_right (WB^q) (mC s)
  omega
 ·obtain⟨p,hkp⟩:∃p,k=q+p:=⟨k-q,by omega⟩
  have hp:0<p:=by omega
  obtain⟨ys,hys⟩:∃ys,(xs.take k).drop q=ys:=⟨_,rfl⟩
  have hyl:Hid (ys.length=p):=(show _=_ by rw [←hys,gS,dE,hlx.out];omega)
  have hyv:Hid (nv xs/2^n=nv ys/2^s):=by
   show _=_
   rw [hnqs.out,dX,Nat.pow_mul,←mY,←Nat.div_div_eq_div_mul]
   congr 1
   have h1:=nO hx.wf hk.out
   have h2:=mR (xs.take k) q (by rw [dE,hlx.out];omega)
   have h3:=kR (pL hx.wf k) q
   rw [←h1,h2,hys,Nat.add_comm,nC (gC gA),gV h3,eS]
  have hyg:Hid (∀i,i<p→ys.getD i 0=xs.getD (q+i) 0):=by
   intro i hi
   rw [←hys]
   simp only [bE,oJ,iW]
   rw [if_pos (by omega)]
  clear hys hk
  have hmk:=kF (P:=aH) Tryz.underlying22 iB G (by decide) ((k:Int)-(q:Int)) (by omega) (by omega)
  have et:((k:Int)-(q:Int)).toNat=p:=by omega
  rw [et] at hmk
  clear et
  have hxn:=Lib.hid hnqs.out
  clear hnqs
  have hnk:¬(k:Int)≤(q:Int):=by omega
  have hnk0:¬(k:Int)-(q:Int)<0:=by omega
  have HL:=Lib.hid hl
  clear hqb hn
  have hkp1:k≤q+p:=by omega
  have hkp2:q+p≤k:=by omega
  clear hkp
  go_wp2_with fail
  clear hmk
  obtain⟨g,hg⟩:∃g,w.heap.size=g:=⟨_,rfl⟩
  rw [hg]
  obtain⟨wa,hwa⟩:∃wa,w.alloc (.cells (zc (.int .u64 0) p) 65)=wa:=⟨_,rfl⟩
  rw [hwa]
  have hbk:Bk wa g 65 ((cJ p 0).map bC):=by
   rw [←hwa,←hg,←jY];exact Bk.new' _ _ _
  have hea:Ext w wa:=by rw [←hwa];exact (Ext.refl w).alloc _
  have hgs:w.heap.size≤g:=by rw [hg];exact aX _
  clear hg hwa
  have hsb:(s:Int)≤63:=by omega
  have hs64':s≤64:=by omega
  go_loopw [29] (fun u wr=>∃(i:Nat) (l:List Nat),i≤p∧u= a9 (i:Int)∧Hid (l.length=p)∧Wf l∧Bk wr g 65 (l.map bC)∧
   Hid (nv (l.take i)*2^s+ys.getD 0 0%2^s=nv (ys.take i)+WB^i*(ys.getD i 0%2^s))∧Ext w wr) (fun u wr=>p-(intOf u).toNat)
  case atStart=>exact⟨0,_,bJ _,rfl,List.length_replicate,mW _,hbk,by simp [Hid,nv],hea⟩
  case round=>
   obtain⟨i,l,hi,rfl,hll,hwl,hb,hv,hr⟩:=hrel
   clear hbk hea
   by_cases hip:i<p
   ·obtain⟨a,x,rfl,hxk,hxb,hcx⟩:=(hx.ext hr).get (i:=q+i) (by omega)
    obtain⟨o,ho,_,hco⟩:=hb.word hwl (i:=i) (by rw [hll.out];omega)
    have hfr:=hb.frozen i
    have hxy:Hid (ys.getD i 0=x):=(show _=_ by rw [hyg.out i hip];exact hxk.out)
    by_cases hi1:i+1<p
    ·obtain⟨a',y,ha',hyk,hyb,hcy⟩:=(hx.ext hr).get (i:=q+i+1) (by omega)
     cases ha'
     have hyy:Hid (ys.getD (i+1) 0=y):=(show _=_ by rw [hyg.out (i+1) hi1];exact hyk.out)
     go_upto_region 12 with ((with_reducible refine cK (some 41) ?_);refine dC G G G G G (jS hs64') ?_ (hf:=(by have:=eR x (2^s);omega));intro z hz hzb)
     obtain⟨w2,hw2⟩:∃w2,wr.setCell ⟨g,i,none⟩ (.int .u64 (z:Int))=w2:=⟨_,rfl⟩
     rw [hw2]
     have hb2:Bk w2 g 65 ((l.set i z).map bC):=by rw [←hw2,←dP];exact hb.set i _
     have hr2:Ext w w2:=by rw [←hw2];exact hr.setCell hgs _
     have hwl2:Wf (l.set i z):=gO hwl i (by rw [cC];omega)
     have hll2:Hid ((l.set i z).length=p):=(show _=_ by rw [List.length_set];exact hll.out)
     have hz2:Hid ((l.set i z).getD i 0=z):=(show _=_ by have:=hll.out;simp [bE,this,hip])
     clear hw2
     obtain⟨z2,hzk2,hzb2,hcz2⟩:=hb2.word hwl2 (i:=i) (by rw [hll2.out];omega)
     obtain rfl:z2=z:=by rw [←hzk2.out,hz2.out]
     have hfr2:=hb2.frozen i
     obtain⟨a2,y2,ha2,hyk2,_,hcy2⟩:=(hx.ext hr2).get (i:=q+i+1) (by omega)
     cases ha2
     obtain rfl:y2=y:=by rw [←hyk2.out,hyk.out]
     clear hcy hco hb hr hfr hcx hzk2 hyk2
     have hcy4:w2.cell? (⟨a.block,a.off+(q+i+1),none⟩:a8)=some (i5 (y2:Int)):=by simpa [lR] using hcy2
     clear hcy2
     have hmb:y2*2^(64-s)%18446744073709551616≤18446744073709551615:=by omega
     obtain⟨r,hrd⟩:∃r,z2||| (y2*2^(64-s)%18446744073709551616)=r:=⟨_,rfl⟩
     have hrb:r≤18446744073709551615:=by
      have:=oG (n:=64) (x:=z2) (y:=y2*2^(64-s)%18446744073709551616) (by omega) (by omega)
      omega
     have hbits:Hid (bits BinOp.or IntKind.u64 (z2:Int) (IntKind.u64.wrap ((y2:Int)*2^(64-s)))=(r:Int)):=by
      show _=_
      rw [L6,WL hzb hmb,hrd]
     have hsum:Hid (r=x/2^s+(y2%2^s)*2^(64-s)):=by
      show _=_
      rw [←hrd,hz.out]
      rcases ND (x:=x) (y:=y2) hs64 with h | h
      ·exact h
      ·omega
     clear hrd hmb
     go_region
     rw [hbits.out]
     go_wp2_with fail
     go_roundw
     case rel=>
      refine⟨i+1,(l.set i z2).set i r,by omega,by go_num,(show _=_ by rw [List.length_set,hll2.out]),gO hwl2 i (by rw [cC];omega),by rw [←dP];exact (hb2.set i _).drew,?_,(hr2.setCell hgs _).drew⟩
      show _=_
      rw [List.set_set,hyy.out]
      exact E0 (by rw [hll.out];omega) (by rw [hyl.out];omega) hxy.out hyy.out hsum.out hs64 (by rw [←hxy.out];exact hv.out)
     case measure=>simp [intOf];omega
    ·have hi2:¬(q:Int)+(i:Int)+1<(k:Int):=by omega
     have hyz:Hid (ys.getD (i+1) 0=0):=by
      show _=_
      rw [bE,gW (by rw [hyl.out];omega)];rfl
     go_wp2_with ((with_reducible refine cK (some 41) ?_);refine dC G G G G G (jS hs64') ?_ (hf:=(by have:=eR x (2^s);omega));intro z hz hzb)
     go_roundw
     case rel=>
      refine⟨i+1,l.set i z,by omega,by go_num,(show _=_ by rw [List.length_set,hll.out]),gO hwl i (by rw [cC];omega),by rw [←dP];exact hb.set i _,?_,hr.setCell hgs _⟩
      have:=E0 (l:=l) (y:=0) (z:=z) (by rw [hll.out];omega) (by rw [hyl.out];omega) hxy.out hyz.out (by rw [hz.out];simp) hs64 (by rw [←hxy.out];exact hv.out)
      show _=_
      rw [hyz.out]
      exact this
     case measure=>simp [intOf];omega
   ·obtain rfl:i=p:=by omega
    have hval:Hid (nv l=nv xs/2^n):=by
     show _=_
     have h:=hv.out
     rw [List.take_of_length_le (by rw [hll.out];exact aX _),List.take_of_length_le (by rw [hyl.out];exact aX _)] at h
     have h0:ys.getD i 0=0:=by rw [bE,gW (by rw [hyl.out];exact aX _)];rfl
     rw [h0,Nat.zero_mod,gJ,eS] at h
     have h1:=fV (ys.getD 0 0) (mC s)
     rw [hyv.out,←h,cY,nC (mC s),gV h1,eS]
    have hr2:Rd wr (some ⟨g,0,none⟩) i i l:=by
     have:=hb.rd hwl (o:=0) (n:=i) (cap:=i) (aX _) (by rw [hll.out];omega) (by rw [eA];omega)
     rwa [gQ,List.take_of_length_le (by rw [hll.out];omega)] at this
    have hpm:i≤m:=by omega
    clear hkp1 hkp2
    go_wp2_with fail
    refine (jZ hr2).mono ?_
    rintro e w' ⟨t,ht,htn,rfl,rfl⟩
    go_wp2_with fail
    go_ret2
    rw [←hval.out]
    exact C9 (rO (ys:=l) hgs hb hll.out htn (by rw [eA];omega) (mM hwl ht.out).symm hr)
end
end Go.Proofs.YtkepckmdjncehaaGreatDoor
