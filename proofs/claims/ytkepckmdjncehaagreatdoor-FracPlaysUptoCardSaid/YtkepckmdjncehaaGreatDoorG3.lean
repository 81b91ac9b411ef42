/- Parts Li, Rxb, Rxc, Rs, Str, Ops0, Frac, Law8, Law8b, Cont, Zlb, Fr, Rec, Re, Rc8f, Ref1, Ref1b, Ref2, Ref1d, Ref3, joined. -/
import Derived.Test.YtkepckmdjncehaaGreatDoorG2
import Derived.Laws.BytesString
import Derived.Laws.Concat
import Derived.Laws.RangeAny
import Derived.ChangeMaps5
import Derived.Deep.Slices

open Go renaming Addr → aB, Calls → aP, Edge → fP, Ending → dL, Exit → dI, Oper → bD, Operand → cN, Program → bW, TypeId → aS, Value → aM, World → a6, bodyPost_ret → fO, run_underlying → m8
open Int renaming natCast_mul → mX, toNat_natCast → gZ
open List renaming append_nil → mF, cons_append → uE, drop_eq_getElem_cons → nW, drop_zero → gP, getD_eq_getElem?_getD → bK, getElem?_eq_getElem → cC, getElem?_eq_none → k8, getElem?_eq_some_iff → gY, getElem?_map → mE, length_append → fU, length_cons → eN, length_drop → gO, length_take → dH, map_cons → jZ, map_nil → kX, map_take → kW, map_toArray → sL, mem_map → qI, range → gE, replicate → cJ
open Nat renaming add_assoc → iM, add_mul → dK, add_sub_cancel → mC, add_zero → fC, div_le_self → fH, div_lt_self → kI, le_refl → aZ, le_trans → a8, lt_of_lt_of_le → dJ, min_eq_left → gD, mod_add_div → iS, mod_eq_of_lt → gN, mod_lt → f7, mul_add → cI, mul_assoc → bX, mul_comm → cL, mul_le_mul → jP, mul_le_mul_left → fJ, mul_le_mul_right → eI, mul_one → dV, mul_zero → gM, pow_le_pow_right → eS, pow_succ → cW, sub_add_cancel → jO, zero_add → eJ, zero_le → bJ
open Go.Next renaming value → fZ
open Option renaming getD_some → oU
open Option.some renaming injEq → eB
open Or renaming inl → cH, inr → cO
open Go.Result renaming andThen_ok → eY
open Go.Sem renaming run_bind → cE, run_pure → gT
open Go.Proofs.Tryz renaming prog → aN
open Go.Value renaming int → dP
namespace Go.Proofs.YtkepckmdjncehaaGreatDoor
set_option maxHeartbeats 4000000
set_option maxRecDepth 20000
variable {A A' Aa Ab B C D OA PA:Option aB}{H:Type}{K N X ac an b b' base base' c cap cap' d f g i k lb n n' oc on p pn pos s' unit v width:Nat}{P:bW}{T t t' ty:aS}{W w w' w0:a6}{a bs ds es l ms xs ys:List Nat}{af:Array fP}{e:ZC}{fn:Func}{gd:Option (Nat×Bool)}{l' tmps:Array aM}{m p' q q' r u x y z:Int}{o:BinOp}{ops:Array bD}{pl:List MemPlace}{rest:List bD}{s sa sb:Bool}{ts:Array aS}{us vs:List aM}{zs:List Int}
section
open Go.RowKit
theorem mP:Tryz.prog.underlying 25=some (.slice 24):=by kernel_rfl
theorem K0:(Tryz.prog.info? 24).map (fun i=>(i.zero,i.size,i.bytes))=some (some (O false none 0 0),2,32):=by kernel_rfl
def ZC.zero:ZC:=⟨false,none,0,0⟩
def nY (e:ZC):List aM:= (a5 e.s e.A e.n e.c)
def iU:List ZC→List aM
 | []=> []
 | e::r=> .bool e.s:: .slice e.A e.n e.c::iU r
theorem AQ:∀es:List ZC,(iU es).length=es.length*2
 | []=>rfl
 | e::r=>by simp only [iU,eN,AQ r];omega
theorem EU:∀(es fs:List ZC),iU (es++fs)=iU es++iU fs
 | [],fs=>rfl
 | e::r,fs=>by simp only [iU,uE,EU r fs]
theorem wS:∀(es:List ZC) (i:Nat),i<es.length→(iU es)[i*2]?=some (.bool (es.getD i ZC.zero).s)
 | [],i,h=>by simp at h
 | e::r,0,h=>rfl
 | e::r,i+1,h=>by
  have:=wS r i (by simpa using h)
  simpa [iU,dK] using this
theorem wR:∀(es:List ZC) (i:Nat),i<es.length→(iU es)[i*2+1]?=some (.slice (es.getD i ZC.zero).A (es.getD i ZC.zero).n (es.getD i ZC.zero).c)
 | [],i,h=>by simp at h
 | e::r,0,h=>rfl
 | e::r,i+1,h=>by
  have:=wR r i (by simpa using h)
  simpa [iU,dK] using this
theorem ET:∀(es:List ZC) (i:Nat) (e:ZC),i<es.length→jA (iU es) (i*2) (nY e)=iU (es.set i e)
 | [],i,e,h=>by simp at h
 | a::r,0,e,h=>by simp [iU,jA,nY]
 | a::r,i+1,e,h=>by
  have:=ET r i e (by simpa using h)
  simp only [jA,nY,eN,List.length_nil] at this⊢
  rw [show (i+1)*2=i*2+1+1 by omega,show i*2+1+1+(0+1+1)=i*2+(0+1+1)+1+1 by omega]
  simp only [iU,List.take_succ_cons,List.drop_succ_cons,uE,List.set_cons_succ,this]
theorem Zl.at (h:Zl w A n cap zs ms)(hi:i<n):∃p s B c,A.map (·.add (i*2))=some p∧(∀w',Ext w w'→∀(P:bW) (T:aS),AggT P T 2→(loadVar T p).run P w'= .ok (.agg #[.bool s,we B (ms.getD i 0) c]) w')∧Zi w s B (ms.getD i 0) c (zs.getD i 0):=by
 obtain⟨a,s,B,c,rfl,h1,h2,f⟩:=h.get i hi
 refine⟨a.add (i*2),s,B,c,rfl,fun w' e P T o=>yC o [.bool s,we B (ms.getD i 0) c] J (fun j q=>?_),f⟩
 rw [tU]
 match j,q with
 | 0,_=>exact e.cell h1
 | 1,_=>exact e.cell h2
theorem Zr.updOT {m:Nat}(h:Zr w b s A n cap z)(ho:Own w b' T s' B m c us)(x:UpdO B w w')(hT:65≠T:=by decide):Zr w' b s A n cap z:=
 ⟨h.sgn,h.len,h.own.updOT ho hT x⟩
def Zo (w:a6)(b:Nat)(s:Bool)(A:Option aB)(n cap:Nat)(z:Int):Prop:=∃xs,Own w b 65 1 A n cap (xs.map bF)∧Wf xs∧sg s (nv xs)=z
section
variable {w w':a6}{b:Nat}{s:Bool}{A:Option aB}{n cap:Nat}{z:Int}
theorem Zo.zi (h:Zo w b s A n cap z):Zi w s A n cap z:=by obtain⟨xs,h1,h2,e⟩:=h;exact⟨xs,h1.rd h2,e⟩
theorem Zo.ext (h:Zo w b s A n cap z)(x:Ext w w'):Zo w' b s A n cap z:=by obtain⟨xs,h1,h2⟩:=h;exact⟨xs,h1.ext x,h2⟩
theorem Zo.mono (h:Zo w b s A n cap z)(x:b'≤b):Zo w b' s A n cap z:=by obtain⟨xs,h1,h2⟩:=h;exact⟨xs,h1.mono x,h2⟩
theorem Zo.updT (h:Zo w b s A n cap z)(hb:Bk w g T us)(x:Upd g w w')(hT:65≠T:=by decide):Zo w' b s A n cap z:=by obtain⟨xs,h1,h2⟩:=h;exact⟨xs,h1.updT hb hT x,h2⟩
theorem Zo.updOT {m:Nat}(h:Zo w b s A n cap z)(ho:Own w b' T s' B m c us)(x:UpdO B w w')(hT:65≠T:=by decide):Zo w' b s A n cap z:=by obtain⟨xs,h1,h2⟩:=h;exact⟨xs,h1.updOT ho hT x,h2⟩
end
def El (m:Option a6)(b:Nat)(w:a6)(e:ZC)(z:Int):Prop:=Zr w b e.s e.A e.n e.c z∨∃w0,m=some w0∧(Zi w0 e.s e.A e.n e.c z∨Zo w b e.s e.A e.n e.c z)
theorem El.ext {m:Option a6}(h:El m b w e z)(x:Ext w w'):El m b w' e z:=h.imp (·.ext x) (fun⟨w0,h1,h2⟩=>⟨w0,h1,h2.imp id (·.ext x)⟩)
theorem El.updT {m:Option a6}(h:El m b w e z)(hb:Bk w g T us)(x:Upd g w w')(hT:65≠T:=by decide):El m b w' e z:=h.imp (·.updT hb x hT) (fun⟨w0,h1,h2⟩=>⟨w0,h1,h2.imp id (·.updT hb x hT)⟩)
theorem El.mono {m:Option a6}(h:El m b w e z)(x:b'≤b):El m b' w e z:=h.imp (·.mono x) (fun⟨w0,h1,h2⟩=>⟨w0,h1,h2.imp id (·.mono x)⟩)
theorem El.updOT {m:Option a6}(h:El m b w e z)(ho:Own w b' T s' B n c us)(x:UpdO B w w')(hT:65≠T:=by decide):El m b w' e z:=h.imp (·.updOT ho x hT) (fun⟨w0,h1,h2⟩=>⟨w0,h1,h2.imp id (·.updOT ho x hT)⟩)
theorem El.zi (h:El (some w0) b w e z)(x:Ext w0 w):Zi w e.s e.A e.n e.c z:=by
 rcases h with h | ⟨_,h1,h2⟩
 ·exact h.zi
 ·cases h1;exact h2.elim (·.ext x) (·.zi)
theorem El.zr (h:El none b w e z):Zr w b e.s e.A e.n e.c z:=by
 rcases h with h | ⟨_,h1,h2⟩
 ·exact h
 ·cases h1
def Lz (m:Option a6)(K b:Nat)(w:a6)(lb:Nat)(A:Option aB)(n cap:Nat)(zs:List Int):Prop:=
 ∃es,Own w lb 24 2 A n cap (iU es)∧es.length=n∧zs.length=n∧∀i,i<n→(es.getD i ZC.zero).n≤K∧El m b w (es.getD i ZC.zero) (zs.getD i 0)
section
variable {m:Option a6}{K b lb:Nat}{w w':a6}{A:Option aB}{n cap:Nat}{zs:List Int}
theorem Lz.own (h:Lz m K b w lb A n cap zs):∃vs,Own w lb 24 2 A n cap vs:=by obtain⟨es,h1,_⟩:=h;exact⟨_,h1⟩
theorem Lz.block (h:Lz m K b w lb A n cap zs):∀a,A=some a→lb≤a.block∧a.block<w.heap.size:=by obtain⟨vs,h⟩:=h.own;exact h.block
theorem Lz.len (h:Lz m K b w lb A n cap zs):zs.length=n:=by obtain⟨es,h1,h2,e,_⟩:=h;exact e
theorem Lz.ext (h:Lz m K b w lb A n cap zs)(x:Ext w w'):Lz m K b w' lb A n cap zs:=by
 obtain⟨es,h1,h2,f,e⟩:=h
 exact⟨es,h1.ext x,h2,f,fun i hi=>⟨(e i hi).1,(e i hi).2.ext x⟩⟩
theorem Lz.updT (h:Lz m K b w lb A n cap zs)(hb:Bk w g T us)(x:Upd g w w')(hne:∀p,A=some p→p.block≠g)(hT:65≠T:=by decide):Lz m K b w' lb A n cap zs:=by
 obtain⟨es,h1,h2,f,e⟩:=h
 exact⟨es,h1.upd x hne,h2,f,fun i hi=>⟨(e i hi).1,(e i hi).2.updT hb x hT⟩⟩
theorem Lz.nil (m:Option a6)(K b:Nat)(w:a6)(lb:Nat):Lz m K b w lb none 0 0 []:=⟨[],Own.nil _ _ _ _,rfl,rfl,fun i hi=>by omega⟩
theorem Lz.mono {K' lb':Nat}(h:Lz m K b w lb A n cap zs)(hK:K≤K')(hb:b'≤b)(hl:lb'≤lb):Lz m K' b' w lb' A n cap zs:=by
 obtain⟨es,h1,h2,f,e⟩:=h
 exact⟨es,h1.mono hl,h2,f,fun i hi=>⟨a8 (e i hi).1 hK,(e i hi).2.mono hb⟩⟩
theorem Lz.at (h:Lz m K b w lb A n cap zs)(hi:i<n):∃p s B k c,A.map (·.add (i*2))=some p∧(∀w',Ext w w'→∀(P:bW) (T:aS),AggT P T 2→(loadVar T p).run P w'= .ok (O s B k c) w')∧k≤K∧El m b w ⟨s,B,k,c⟩ (zs.getD i 0):=by
 obtain⟨es,h1,h2,_,q⟩:=h
 obtain⟨a,f,o⟩:=h1.rv.get (i*2) (by omega)
 obtain⟨a',ha',hc'⟩:=h1.rv.get (i*2+1) (by omega)
 rw [f] at ha';cases ha'
 have E:=wS es i (by omega)
 have F:=wR es i (by omega)
 rw [bK,E] at o
 rw [bK,F] at hc'
 refine⟨a.add (i*2),_,_,_,_,by rw [f];rfl,fun w' e P T D=>yC D [.bool (es.getD i ZC.zero).s,.slice (es.getD i ZC.zero).A (es.getD i ZC.zero).n (es.getD i ZC.zero).c] J (fun j r=>?_),(q i hi).1,(q i hi).2⟩
 rw [tU]
 match j,r with
 | 0,_=>exact e.cell o
 | 1,_=>exact e.cell hc'
theorem Lz.zl (h:Lz (some w0) K b w lb A n cap zs)(x:Ext w0 w):∃ms,Zl w A n cap zs ms∧∀i,ms.getD i 0≤K:=by
 obtain⟨es,h1,h2,r,p⟩:=h
 have e:∀i,i<n→(es.map (·.n)).getD i 0=(es.getD i ZC.zero).n:=fun i hi=>by
  simp [bK,mE,cC (show i<es.length by omega)]
 refine⟨es.map (·.n),⟨r,by rw [List.length_map,h2],h1.rv.le,h1.rv.max,fun i hi=>?_⟩,fun i=>?_⟩
 ·obtain⟨a,f,o⟩:=h1.rv.get (i*2) (by omega)
  obtain⟨a',ha',hc'⟩:=h1.rv.get (i*2+1) (by omega)
  rw [f] at ha';cases ha'
  have q:=wS es i (by omega)
  have D:=wR es i (by omega)
  rw [bK,q] at o
  rw [bK,D] at hc'
  rw [e i hi]
  exact⟨a,_,_,_,f,o,hc',(p i hi).2.zi x⟩
 ·by_cases hi:i<n
  ·rw [e i hi];exact (p i hi).1
  ·rw [bK,k8 (by rw [List.length_map];omega)];exact bJ _
theorem CX {α:Type}{l r:List α}{d:α}(h:i<l.length:=by omega):(l++r).getD i d=l.getD i d:=by
 rw [bK,bK,List.getElem?_append_left h]
theorem CW {α:Type}{l r:List α}{a d:α}:(l++a::r).getD l.length d=a:=by
 rw [bK,List.getElem?_append_right (aZ _),Nat.sub_self];rfl
end
theorem nH (h:Kept w A A')(hg:g<w.heap.size)(hne:∀p,A=some p→p.block≠g):∀p,A'=some p→p.block≠g:=fun p o=>by
 rcases h p o with⟨a,f,e⟩ | e
 ·rw [e];exact hne a f
 ·omega
section
variable {Q:dI→Act→a6→Prop}{N:Nat}{l:Fr}{w:a6}{ops:Array bD}{rest:List bD}{d:Nat}{ty:aS}{pos:String}{af:Array fP}{gd:Option (Nat×Bool)}
theorem F7 {m:Option a6}{x y:cN}(hw:dB ops l gd=some true)(hx:bV l x=some (we A n cap))(hy:bV l y=some (we (some ⟨g,0,none⟩) 1 c))(h:Lz m K b w lb A n cap zs)(hlb:lb≤w.heap.size)(hb:Bk w g 24 (nY e))(he:El m b w e z)(hK:e.n≤K)(hm:n≤1099511627775)(hd:d<N)(k:∀A' cap' w',Lz m K b w' lb A' (n+1) cap' (zs++ [z])→UpdO A w w'→Kept w A A'→wl aN ops Q N rest ((d,we A' (n+1) cap')::l) w'):wl aN ops Q N (⟨some d,.call {callee:= .builtin .append,args:= #[x,y],argTypes:= #[25,25]},ty,pos,af,gd⟩::rest) l w:=by
 obtain⟨es,h1,h2,q,D⟩:=h
 refine qM hw hx hy mP K0 J h1 hlb (nY e) J (fun j u r=>?_) J (hn:=hd) fun A' cap' w' G p E=>k A' cap' w' ?_ p E
 ·have o:j<(nY e).length:=(gY.1 r).1
  rw [kV,eJ,hb.cell o,bK,r];rfl
 ·refine⟨es++ [e],by rw [EU];exact G,by simp [h2],by simp [q],fun i hi=>?_⟩
  by_cases f:i<n
  ·rw [CX,CX]
   exact⟨(D i f).1,(D i f).2.updOT h1 p⟩
  ·have H:i=n:=by omega
   subst H
   have I:(es++ [e]).getD i ZC.zero=e:=by rw [←h2];exact CW
   have F:(zs++ [z]).getD i 0=z:=by rw [←q];exact CW
   rw [I,F]
   exact⟨hK,he.updOT h1 p⟩
theorem NY {m:Option a6}{x y:cN}{p:aB}(hw:dB ops l gd=some true)(hx:bV l x=some (.pointer (some p)))(hy:bV l y=some (O e.s e.A e.n e.c))(hp:A.map (·.add (i*2))=some p)(hi:i<n)(h:Lz m K b w lb A n cap zs)(he:El m b w e z)(hK:e.n≤K)(k:∀w',Lz m K b w' lb A n cap (zs.set i z)→UpdO A w w'→wl aN ops Q N rest l w'):wl aN ops Q N (⟨none,.store 24 x y,ty,pos,af,gd⟩::rest) l w:=by
 obtain⟨es,h1,h2,H,I⟩:=h
 have h1':=h1
 rcases h1 with⟨rfl,_⟩ | ⟨g,cs,rfl,hg,L,hn,r,_,M⟩
 ·cases hp
 ·have hp':p=⟨g,i*2,none⟩:=by
   injection hp with hp
   rw [←hp]
   show (⟨g,0,none⟩:aB).add (i*2)=_
   rw [kV,eJ]
  subst hp'
  have U:=eI 2 hn
  refine F3 hw hx (us:=nY e) hy aA J L (by omega) J _ J fun w' F D hs=>k w' ⟨es.set i e,cO ⟨g,_,rfl,hg,F,hn,r,?_,?_⟩,by simp [h2],by simp [H],fun j o=>?_⟩ D.updO
  ·unfold jA
   simp only [fU,dH,gO,nY,eN,List.length_nil]
   omega
  ·rw [←ET es i e (by omega),←M]
   have V:i*2+2≤n*2:=by omega
   have q:(nY e).length=2:=rfl
   unfold jA
   rw [q,List.take_append,List.take_append,List.take_take,List.take_take,fU,dH,gD (by omega:i*2≤cs.length),q,Nat.min_eq_right (by omega),gD (by omega)]
   congr 1
   ·congr 1
    exact List.take_of_length_le (by rw [q];omega)
   ·rw [List.drop_take]
  ·by_cases f:j=i
   ·subst f
    have E:(es.set j e).getD j ZC.zero=e:=by simp [bK,h2,o]
    have G:(zs.set j z).getD j 0=z:=by simp [bK,H,o]
    rw [E,G]
    exact⟨hK,he.updOT h1' D.updO⟩
   ·have E:(es.set i e).getD j ZC.zero=es.getD j ZC.zero:=by simp [bK,Ne.symm f]
    have G:(zs.set i z).getD j 0=zs.getD j 0:=by simp [bK,Ne.symm f]
    rw [E,G]
    exact⟨(I j o).1,(I j o).2.updOT h1' D.updO⟩
end
theorem wW {Q:dI→Act→a6→Prop}{l:Fr}{pos:String}{x y:cN}{k:IntKind}{a b:Int}(hw:dB ops l gd=some true)(hx:bV l x=some (.int k a))(hy:bV l y=some (.int k b))(c:Int)(h:wl P ops Q n rest ((d,.int k c)::l) w)(hc:max a b=c:=by omega)(hn:d<n:=by decide):wl P ops Q n (⟨some d,.call {callee:= .builtin .max,args:= #[x,y],argTypes:=ts},ty,pos,af,gd⟩::rest) l w:=by
 refine fW hw hn (fun a' f=>?_) h
 have e:(if b>a then b else a)=c:=by rw [←hc];split <;> omega
 unfold execOp
 simp only [resolve,invoke,builtin,cE,gT,eY,sL,jZ,kX,f.ev hx,f.ev hy,Builtin.max_,List.foldlM,Builtin.max2,e]
theorem F6 {Q:dI→Act→a6→Prop}{l:Fr}{pos:String}{x y:cN}{k:IntKind}{a b:Int}(hw:dB ops l gd=some true)(hx:bV l x=some (.int k a))(hy:bV l y=some (.int k b))(c:Int)(hc:min a b=c)(hn:d<n)(h:wl P ops Q n rest ((d,.int k c)::l) w):wl P ops Q n (⟨some d,.call {callee:= .builtin .min,args:= #[x,y],argTypes:=ts},ty,pos,af,gd⟩::rest) l w:=by
 refine fW hw hn (fun a' f=>?_) h
 have e:(if b<a then b else a)=c:=by rw [←hc];split <;> omega
 unfold execOp
 simp only [resolve,invoke,builtin,cE,gT,eY,sL,jZ,kX,f.ev hx,f.ev hy,Builtin.min_,List.foldlM,Builtin.min2,e]
theorem GK {m:Nat}(hx:Wi w A n c m)(hl:n≤1099511627775):aP aN 142 #[we A n c] w (Gv w (Is (no ((cV m:Nat):Int)))):=by
 obtain⟨xs,h1,rfl⟩:=hx
 refine (xZ h1 hl).mono fun e w' h=>?_
 obtain⟨k,h2,rfl,f⟩:=h
 exact⟨_,rfl,(show dP .i64 (k:Int)=_ by rw [h2.out]),f⟩
theorem R3 {m:Nat}(hx:Wi w A n c m)(hl:n≤1099511627775)(hv0:v≠0)(hvb:v≤18446744073709551615):aP aN 235 #[we A n c,up (v:Int)] w (Gv w (T3 (WR w.heap.size (m/v)) (Is (up ((m%v:Nat):Int))) (Is (no 0)))):=by
 obtain⟨xs,h1,rfl⟩:=hx
 refine (DE h1 hl hv0 hvb).mono fun e w' h=>?_
 obtain⟨A,n,cap,r',rfl,h2,_,p,_,o,f⟩:=h
 exact⟨_,rfl,⟨_,_,_,rfl,⟨A,n,cap,rfl,p.out,o⟩,(show dP .u64 (r':Int)=_ by rw [h2.out]),rfl⟩,f⟩
def jW (b k at_:Nat):List Nat→List Nat
 | []=> []
 | [x]=>eF (db b x) at_
 | x::y::r=>eF (db b x) k++jW b k at_ (y::r)
theorem DT {a x:Nat}{r:List Nat}:jW b k a (x::r)=eF (db b x) (if r= [] then a else k)++jW b k a r:=by
 cases r with
 | nil=>simp [jW]
 | cons y r=>simp [jW]
theorem uV (h:k≤l.length):eF l k=l:=by rw [eF,Nat.sub_eq_zero_of_le h];simp
theorem IJ {r:List Nat}:l++eF r k=eF (l++r) (l.length+k):=by
 unfold eF
 rw [List.append_assoc,fU]
 congr 2
 congr 1
 omega
theorem yX {m:Nat}(hb:2≤b)(hq:m/b^k≠0):db b m=eF (db b (m%b^k)) k++db b (m/b^k):=by
 have r:0<b^k:=Nat.pow_pos (by omega)
 have hl:(db b (m%b^k)).length≤k:=kD hb (f7 _ r)
 have f:(eF (db b (m%b^k)) k).length=k:=by rw [rI];omega
 have hn:nb b (eF (db b (m%b^k)) k)=m%b^k:=by rw [eF,UF,gI hb]
 have p:nb b (eF (db b (m%b^k)) k++db b (m/b^k))=m:=by
  rw [vC,hn,f,gI hb,iS]
 have q:Wfb b (eF (db b (m%b^k)) k++db b (m/b^k)):=zO (zO (jX hb _) (fun x hx=>by rw [List.eq_of_mem_replicate hx];omega)) (jX hb _)
 have ht:=yV hb (m/b^k)
 have o:(db b (m/b^k)).length≠0:=fun e=>hq ((rJ hb).1 e)
 have key:=DL hb q (cO (by
  rw [fU,f,bK,List.getElem?_append_right (by rw [f];omega),f,show k+(db b (m/b^k)).length-1-k=(db b (m/b^k)).length-1 by omega,←bK]
  rcases ht with h | h
  ·exact absurd h o
  ·exact h))
 rw [p] at key
 exact key
theorem a0a {a:Nat}(hb:2≤b)(_hk:1≤k)(hu:2≤b^k):∀(n m:Nat),m≤n→m≠0→jW b k a (db (b^k) m)=eF (db b m) (((db (b^k) m).length-1)*k+a):=by
 intro n
 induction n with
 | zero=>intro m o h0;omega
 | succ n ih=>
  intro m o h0
  have e:=lN hu h0
  rw [e,DT]
  by_cases h:m/b^k=0
  ·have D:db (b^k) (m/b^k)= []:=by rw [h];rfl
   have r:m%b^k=m:=gN ((Nat.div_eq_zero_iff_lt (by omega)).1 h)
   rw [D,if_pos rfl,r]
   simp [jW]
  ·have f:db (b^k) (m/b^k)≠ []:=fun e=>h ((DM hu).1 e)
   rw [if_neg f,ih (m/b^k) (by have:=kI (show 0<m by omega) (show 1<b^k by omega);omega) h]
   rw [IJ,←yX hb h]
   congr 1
   have hl:(db b (m%b^k)).length≤k:=kD hb (f7 _ (by omega))
   have q:0<(db (b^k) (m/b^k)).length:=List.length_pos_iff.2 f
   rw [rI,eN,Nat.max_eq_right hl]
   obtain⟨p,hp'⟩:∃p,(db (b^k) (m/b^k)).length=p+1:=⟨_,(Nat.succ_pred_eq_of_pos q).symm⟩
   rw [hp']
   simp only [mC,dK]
   omega
theorem VD {m:Nat}(hb:2≤b)(hu:2≤b^k)(h0:m≠0):((db (b^k) m).length-1)*k<(db b m).length:=by
 have h1:=IG hu h0
 rw [←Nat.pow_mul,cL] at h1
 refine Nat.lt_of_not_le fun h=>?_
 have h2:=CN hb m
 have e:=eS (show 0<b by omega) h
 omega
theorem TP {m pl:Nat}(hb:2≤b)(hk:1≤k)(hu:2≤b^k)(hpl:(db (b^k) m).length=pl):cJ (width-pl*k) 48++dW (jW b k (min (width+k-pl*k) k) (db (b^k) m))=dW (eF (db b m) width):=by
 by_cases h0:m=0
 ·subst h0
  have e:pl=0:=by rw [←hpl];rfl
  subst e
  rw [jH,jH]
  simp [jW,dW,eF,G3]
 ·have o:1≤pl:=by
   have:(db (b^k) m).length≠0:=fun e=>h0 ((rJ hu).1 e)
   omega
  have f:=VD hb hu h0
  rw [a0a hb hk hu m m (aZ _) h0,hpl]
  rw [hpl] at f
  obtain⟨q,rfl⟩:∃q,pl=q+1:=⟨pl-1,by omega⟩
  have h:(db b m).length≤(q+1)*k:=by
   refine kD hb ?_
   have:=CN hu m
   rw [hpl,←Nat.pow_mul,cL] at this
   exact this
  rw [dK,Nat.one_mul] at h
  rw [mC] at f
  rw [mC,dK,Nat.one_mul]
  rw [B6,B6,←List.append_assoc,List.replicate_append_replicate]
  congr 2
  generalize q*k=qk at*
  omega
theorem tB (v:aM)(h:Bk w g T [v]):∀j u,[v][j]?=some u→w.cell? ((⟨g,0,none⟩:aB).add j)=some u:=by
 intro j u f
 have e:=(gY.1 f).1
 rw [kV,eJ,h.cell e,bK,f];rfl
theorem tH {m:Nat}(hb:2≤b)(h:(wd m).length≤n):(db b m).length≤64*n:=by
 refine kD hb ?_
 have h1:=lY m
 rw [lQ,←Nat.pow_mul] at h1
 exact dJ h1 (a8 (eS (by decide) (fJ _ h)) (Nat.pow_le_pow_left hb _))
theorem Kept.refl (w:a6)(A:Option aB):Kept w A A:=fun p e=>cH ⟨p,e,rfl⟩
theorem Kept.next {v:a6}(h:Kept w A B)(k:Kept v B C)(hs:w.heap.size≤v.heap.size):Kept w A C:=fun p D=>by
 rcases k p D with⟨q,o,e⟩ | e
 ·rcases h q o with⟨r,hr,f⟩ | f
  ·exact cH ⟨r,hr,by rw [e,f]⟩
  ·exact cO (by omega)
 ·exact cO (a8 hs e)
theorem VM (h:Own w lb 5 1 A n c us)(k:Kept w A B):∀(p:aB) (cs:Array aM) (t:aS) (fr:Nat×Nat),B=some p→w.heap[p.block]?=some (.cells cs t fr)→t=5:=fun p cs t fr o h'=>by
 rcases k p o with⟨q,f,e⟩ | e
 ·rw [e] at h';exact IK h q cs t fr f h'
 ·exact absurd h' (E0 e)
theorem RW {z:Nat}:(bs++cJ (z+1) 48).map B8=(bs++cJ z 48).map B8++ [.int .u8 48]:=by
 rw [List.replicate_succ',←List.append_assoc,List.map_append];rfl
theorem oG (h:Own w b T 1 A n c (l.map B8)):n=l.length:=by have:=h.rv.len;rw [List.length_map,dV] at this;exact this.symm
theorem yS {q:Nat}(h:q<l.length):l.drop q=l.getD q 0::l.drop (q+1):=by rw [nW h,bK,cC h];rfl
theorem GF {pc:Nat}(hS:Signs w)(hgS:4<lb)(hbl:2≤base)(hbu:base≤36)(hW:Wr w g base k unit PA pn pc OA on oc)(hO:Own w lb 5 1 OA on oc (bs.map B8))(hgl:lb≤g)(hlb:lb≤w.heap.size){m:Nat}(ha:Wi w A an ac m)(hal:an≤4194304)(hun:unit=base^k)(hkk:PieceK base k)(hwd:width≤137438953472)(hon:on≤137438953472):aP aN 258 #[i5 g 0,we A an ac,no width] w (zN w lb g base k unit PA pn pc OA (bs++dW (eF (db base m) width))):=by
 have ak:(wd m).length≤4194304:=a8 ha.len hal
 have fm:unit≤18446744073709551615:=by rw [hun];exact hkk.le
 have dh:1≤k:=by refine Nat.pos_of_ne_zero (fun e=>?_);have:=hkk.gt;rw [e,eJ,Nat.pow_one] at this;omega
 have W:2≤unit:=by rw [hun];exact a8 hbl (a8 (Nat.le_of_eq (Nat.pow_one base).symm) (eS (by omega) dh))
 refine bN Tryz.func258 J (n:=93) J (bq J) (args:= [i5 g 0,we A an ac,no width]) (bG [(0,i5 g 0),(1,we A an ac),(2,no width)] ⟨rfl,rfl,rfl,AT⟩ (sr (mv 1 J (a7 (aD (bO ?_))))))
 obtain⟨G,F,_⟩:∃G,G≤w.heap.size∧w.heap.size≤G:=⟨_,aZ _,(Ext.refl w).size⟩
 refine d8 (T:=a6×Option aB×Nat×Nat×Nat×Option aB×Nat×Nat×List Nat)
  (fun⟨wr,QA,qn,qc,mm,r,f,D,ps⟩=> [(0,i5 g 0),(2,no width),(1,we QA qn qc),(6,we r f D)])
  (fun⟨wr,QA,qn,qc,mm,r,f,D,ps⟩=>wr)
  (fun⟨wr,QA,qn,qc,mm,r,f,D,ps⟩=>(UpdW lb w wr)∧(Ext w wr)∧(G≤wr.heap.size)∧(db unit m=ps++db unit mm)∧(ps.length=f)∧(Wi wr QA qn qc mm)∧(qn≤4194304)∧(Own wr G 65 1 r f D (ps.map bF))∧(mm≤m))
  (fun⟨wr,QA,qn,qc,mm,r,f,D,ps⟩=>mm)
  (⟨w,A,an,ac,m,none,0,0,[]⟩:a6×Option aB×Nat×Nat×Nat×Option aB×Nat×Nat×List Nat) ⟨(UpdW.refl lb w),(Ext.refl w),F,rfl,rfl,ha,hal,(Own.nil _ _ _ _),(aZ _)⟩ J ⟨rfl,rfl,rfl,rfl,AT⟩ ?_
 rintro⟨wr,QA,qn,qc,mm,r,f,D,ps⟩ ⟨o,Z,F,bi,am,hq,_,hP,cu⟩
 refine cR [(0,i5 g 0),(2,no width),(1,we QA qn qc),(6,we r f D)] wr J ⟨rfl,rfl,rfl,rfl,AT⟩ (aD (aD ?_))
 by_cases aj:mm=0
 ·have el:cV mm=0:=by rw [aj];rfl
  refine aF (mv 1 J (dQ J J (vs:= [we QA qn qc]) (by kernel_rfl) (by decide) (GK hq (by omega)) ?_))
  rintro _ v1 ⟨_,rfl,r3,e2⟩
  refine dR ?_
  have E:UpdW lb w v1:=o.trans e2
  have dm:Ext w v1:=Z.trans e2
  obtain rfl:=r3
  refine aI J J J false (fS (a:=cV mm) (b:=0) J J) (a7 (aQ J (d4 (cU (cY (cZ (aO (aD ?_))))))))
  have H:db unit m=ps:=by rw [bi,aj,jH,mF]
  have psWf:Wf ps:=fun x hx=>by have:=jX W m x (H.symm▸hx);rw [cP];omega
  have psW:∀q,ps.getD q 0≤18446744073709551615:=fun q=>by have:=tV psWf q;rw [cP] at this;omega
  have go:f*k≤268435456*64:=jP (by have:=tH W ak;rw [H,am] at this;omega) hkk.le64
  have ge:f≤268435456:=by have:=tH W ak;rw [H,am] at this;omega
  refine aF (mv 1 J (pu (v:= no f) J (aR J J J (((f:Nat):Int)-1) (eL J) (mv 1 J (pf g 0 J (pf g 1 J (bB J J (bM (fun _=>by kernel_rfl) (hW.ext (Z.trans e2)) J) (aR J J J (((f*k:Nat):Int)-(k:Int)) (vX (by rw [Int.sub_mul,Int.one_mul,mX]) (by have:=hkk.le64;omega) (by omega)) (mv 1 J (a7 (aD (sr (mv 1 J ?_)))))))))))))
  refine mv 1 J (a7 (bO ?_))
  refine d8 (T:=a6×Nat×Nat×Option aB×Nat×Nat)
   (fun⟨wz,nn,z,OB,ob,U⟩=> [(0,i5 g 0),(2,no width),(6,we r f D),(10,no (((f*k:Nat):Int)-(k:Int))),(11,no nn)])
   (fun⟨wz,nn,z,OB,ob,U⟩=>wz)
   (fun⟨wz,nn,z,OB,ob,U⟩=>(UpdW lb w wz)∧(nn+z=width)∧(z≤width-f*k)∧(ob=on+z)∧(Bk wz g 193 [no (base:Int),no (k:Int),up (unit:Int),we PA pn pc,we OB ob U])∧(Own wz lb 5 1 OB ob U ((bs++cJ z 48).map B8))∧(Kept w OA OB)∧(Own wz G 65 1 r f D (ps.map bF))∧(G≤wz.heap.size))
   (fun⟨wz,nn,z,OB,ob,U⟩=>nn)
   (⟨v1,width,0,OA,on,oc⟩:a6×Nat×Nat×Option aB×Nat×Nat) ⟨E,rfl,(bJ _),rfl,(hW.ext (Z.trans e2)),(by rw [List.replicate_zero,mF];exact (hO.ext (Z.trans e2))),(Kept.refl w OA),(hP.ext e2),(a8 F (e2.size))⟩ J ⟨rfl,rfl,rfl,rfl,rfl,AT⟩ ?_
  rintro⟨wz,nn,z,OB,ob,U⟩ ⟨o,_,_,aE,b_g,ew,L,em,ct⟩
  refine cR [(0,i5 g 0),(2,no width),(6,we r f D),(10,no (((f*k:Nat):Int)-(k:Int))),(11,no nn)] wz J ⟨rfl,rfl,rfl,rfl,rfl,AT⟩ (aD (aD ?_))
  by_cases gn:nn>f*k
  ·refine aF (mv 3 J (pf g 0 J (pf g 1 J (bB J J (bM (fun _=>by kernel_rfl) b_g J) (aR J J J ((f*k:Nat):Int) (tT) (wW J J J (((f*k:Nat):Int)) (aI J J J true (eW (a:=nn) (b:=f*k) J J) (a7 (aW J (aY (aO (aD (bO ?_)))))))))))))
   refine aF (mv 2 J (pf g 0 J (pf g 4 J (bB J J (bM (fun _=>by kernel_rfl) b_g J) (iO J J (k:=1) (e:=5) [.int .u8 48] (fun _=>by kernel_rfl) fun _ v5 nb=>?_)))))
   have fy:=nb.bk
   have e7:=nb.ext
   clear nb
   have E:UpdW lb w v5:=o.trans e7
   have ao:=(ew.ext e7)
   refine qM J J J kK tJ J ao (a8 hlb E.size) [.int .u8 48] J (tB _ fy) J fun A9 bw fk bo V dl=>?_
   have bu:=L.next dl E.size
   have az:UpdW lb w fk:=E.updO V (fun p hp=>(ao.block p hp).1) (fun p cs t fr hp h=>cO (VM hO L p cs t fr hp h))
   refine pf g 0 J (pf g 4 J ?_)
   have ae:=((b_g.ext e7).updO V (C6 ao (b_g.ext e7) (by decide)))
   refine dE J J J (fun _=>by kernel_rfl) J ae (bq J) J [no (base:Int),no (k:Int),up (unit:Int),we PA pn pc,we A9 (ob+1) bw] J fun cv dz aq _=>?_
   have ch:UpdW lb w cv:=az.upd aq hgl (fun _ _ _ h=>cH (DZ hW h))
   refine aX (bQ (aO (aF (mv 1 J (aR J J J ((nn-1:Nat):Int) (gL (a:=nn) (b:=1) J J) (mv 1 J (aX (cM (⟨cv,nn-1,z+1,A9,ob+1,bw⟩:a6×Nat×Nat×Option aB×Nat×Nat) ⟨ch,(by omega),(by omega),(by omega),dz,(by rw [RW];exact (bo.updT ae (by decide) aq)),bu,(((em.ext e7).updOT ao (by decide) V).updT ae (by decide) aq),(a8 ct ((a8 (a8 e7.size V.size) aq.by_.size)))⟩ (show nn-1<nn by omega) J ⟨rfl,rfl,rfl,rfl,rfl,AT⟩))))))))
  ·refine aF (mv 3 J (pf g 0 J (pf g 1 J (bB J J (bM (fun _=>by kernel_rfl) b_g J) (aR J J J ((f*k:Nat):Int) (tT) (wW J J J (((f*k:Nat):Int)) (aI J J J false (fS (a:=nn) (b:=f*k) J J) (a7 (aQ J (d4 (cU (cY (cZ ?_)))))))))))))
   refine aO (aD ?_)
   have ft:z=width-f*k:=by omega
   refine aF (mv 1 J (pu (v:= no f) J (aR J J J (((f:Nat):Int)-1) (eL J) (mv 1 J (a7 (bO ?_))))))
   refine d8 (T:=a6×Nat×Int×Option aB×Nat×Nat)
    (fun⟨wt,j,ii,OD,od,X⟩=> [(0,i5 g 0),(2,no width),(6,we r f D),(10,no (((f*k:Nat):Int)-(k:Int))),(12,no ii)])
    (fun⟨wt,j,ii,OD,od,X⟩=>wt)
    (fun⟨wt,j,ii,OD,od,X⟩=>(UpdW lb w wt)∧(j≤f)∧(ii=(j:Int)-1)∧(od≤on+width+(f-j)*64)∧(Bk wt g 193 [no (base:Int),no (k:Int),up (unit:Int),we PA pn pc,we OD od X])∧(Own wt lb 5 1 OD od X ((bs++cJ (width-f*k) 48++dW (jW base k (min (width+k-f*k) k) (ps.drop j))).map B8))∧(Kept w OA OD)∧(Own wt G 65 1 r f D (ps.map bF)))
    (fun⟨wt,j,ii,OD,od,X⟩=>j)
    (⟨wz,f,_,OB,ob,U⟩:a6×Nat×Int×Option aB×Nat×Nat) ⟨o,(aZ _),rfl,(by omega),b_g,(by rw [List.drop_of_length_le (by omega),show jW base k (min (width+k-f*k) k) []= [] from rfl,←ft];simpa [dW] using (ew)),L,em⟩ J ⟨rfl,rfl,rfl,rfl,rfl,AT⟩ ?_
   rintro⟨wt,j,ii,OD,od,X⟩ ⟨o,_,_,_,b_g,aa,L,ap⟩
   refine cR [(0,i5 g 0),(2,no width),(6,we r f D),(10,no (((f*k:Nat):Int)-(k:Int))),(12,no ii)] wt J ⟨rfl,rfl,rfl,rfl,rfl,AT⟩ (aD (aD ?_))
   by_cases gf:0<j
   ·obtain⟨q,rfl⟩:∃q,j=q+1:=⟨j-1,by omega⟩
    obtain rfl:ii=(q:Int):=by omega
    have df:ps.getD q 0≤18446744073709551615:=by have:=psW q;omega
    refine aF (mv 1 J (aI J J J true (rN) (a7 (aW J (aY (aO (aD (bO (sr (mv 1 J (pf g 0 J (pf g 1 J (bB J J (bM (fun _=>by kernel_rfl) b_g J) ?_)))))))))))))
    refine mv 1 J (a7 (aD (aD ?_)))
    by_cases gb:q+1=f
    ·refine aF (mv 2 J (pu (v:= no f) J (aR J J J (((f:Nat):Int)-1) (eL J) (aI J J J true (eP (by omega)) (a7 (aW J (aF (mv 2 J (aR J J J (((width:Nat):Int)-(((f*k:Nat):Int)-(k:Int))) (eL J (h1:=(by have:=hkk.le64;omega)) (h2:=(by have:=hkk.le64;omega))) (wW J J J (((width+k-f*k:Nat):Int)) (mv 1 J (pf g 0 J (pf g 1 J ?_)))))))))))))
     refine bB J J (bM (fun _=>by kernel_rfl) b_g J) (F6 J J J (((min (width+k-f*k) k:Nat):Int)) (by omega) (by decide) (mv 1 J (a7 (aF (mv 3 J ?_)))))
     obtain⟨pw,bf,ba,fa⟩:=((ap).rd psWf).at (i:=q) (by omega)
     refine cD J J J bU bT q J pw bf (bB J J (dF cT ba) (mv 1 J (dQ J J (vs:= [i5 g 0,up ((ps.getD q 0:Nat):Int),no ((min (width+k-f*k) k:Nat):Int)]) (by kernel_rfl) (by decide) (GE (o.signs hS hgS) hgS hbl hbu b_g aa hgl (a8 hlb o.size) df (by have:=hkk.le64;omega) (by have:=hkk.le64;omega)) ?_)))
     rintro _ du ⟨rfl,fv,de,fc,cz,ah,ar,bp⟩
     refine dR ?_
     have E:UpdW lb w du:=o.then ar
     have en:=L.next bp o.size
     have ai:de≤on+width+(f-q)*64:=by have h1:=(oG ah).symm;have h2:=oG ah;rw [h2,fU,x8,rI,←oG aa];have h3:(db base (ps.getD q 0)).length≤64:=kD hbl (dJ (show ps.getD q 0<2^64 by omega) (Nat.pow_le_pow_left hbl 64));have:=hkk.le64;omega
     have M:bs++cJ (width-f*k) 48++dW (jW base k (min (width+k-f*k) k) (ps.drop (q+1)))++dW (eF (db base (ps.getD q 0)) (min (width+k-f*k) k))=bs++cJ (width-f*k) 48++dW (jW base k (min (width+k-f*k) k) (ps.drop q)):=by rw [yS (by omega:q<ps.length),DT,x9,List.append_assoc,if_pos (List.drop_of_length_le (by omega))]
     refine aX (bQ (aO (aF (mv 1 J (aR J J J (((q:Nat):Int)-1) (eL J) (mv 1 J (aX (cM (⟨du,q,(q:Int)-1,fv,de,fc⟩:a6×Nat×Int×Option aB×Nat×Nat) ⟨E,(by omega),rfl,ai,cz,(M▸(ah)),en,(ar.own ap (by decide) (by decide))⟩ (show q<q+1 by omega) J ⟨rfl,rfl,rfl,rfl,rfl,AT⟩))))))))
    ·refine aF (mv 2 J (pu (v:= no f) J (aR J J J (((f:Nat):Int)-1) (eL J) (aI J J J false (fA (by omega)) (a7 (aQ J (aY (aO (aF (mv 3 J ?_))))))))))
     obtain⟨pw,bf,ba,fa⟩:=((ap).rd psWf).at (i:=q) (by omega)
     refine cD J J J bU bT q J pw bf (bB J J (dF cT ba) (mv 1 J (dQ J J (vs:= [i5 g 0,up ((ps.getD q 0:Nat):Int),no k]) (by kernel_rfl) (by decide) (GE (o.signs hS hgS) hgS hbl hbu b_g aa hgl (a8 hlb o.size) df (by have:=hkk.le64;omega) (by have:=hkk.le64;omega)) ?_)))
     rintro _ dg ⟨rfl,fg,dy,fb,dt,ab,aw,ck⟩
     refine dR ?_
     have E:UpdW lb w dg:=o.then aw
     have ef:=L.next ck o.size
     have ai:dy≤on+width+(f-q)*64:=by have h1:=(oG ab).symm;have h2:=oG ab;rw [h2,fU,x8,rI,←oG aa];have h3:(db base (ps.getD q 0)).length≤64:=kD hbl (dJ (show ps.getD q 0<2^64 by omega) (Nat.pow_le_pow_left hbl 64));have:=hkk.le64;omega
     have M:bs++cJ (width-f*k) 48++dW (jW base k (min (width+k-f*k) k) (ps.drop (q+1)))++dW (eF (db base (ps.getD q 0)) k)=bs++cJ (width-f*k) 48++dW (jW base k (min (width+k-f*k) k) (ps.drop q)):=by rw [yS (by omega:q<ps.length),DT,x9,List.append_assoc,if_neg (fun e=>by have:=congrArg List.length e;rw [gO] at this;simp only [List.length_nil] at this;omega)]
     refine aX (bQ (aO (aF (mv 1 J (aR J J J (((q:Nat):Int)-1) (eL J) (mv 1 J (aX (cM (⟨dg,q,(q:Int)-1,fg,dy,fb⟩:a6×Nat×Int×Option aB×Nat×Nat) ⟨E,(by omega),rfl,ai,dt,(M▸(ab)),ef,(aw.own ap (by decide) (by decide))⟩ (show q<q+1 by omega) J ⟨rfl,rfl,rfl,rfl,rfl,AT⟩))))))))
   ·refine aF (mv 1 J (aI J J J false (kQ) (a7 (aQ J (d4 (cU (cY (cZ (tO [] J AT ?_)))))))))
    have ey:j=0:=by omega
    have eh:bs++cJ (width-f*k) 48++dW (jW base k (min (width+k-f*k) k) (ps.drop j))=bs++dW (eF (db base m) width):=by rw [ey,gP,List.append_assoc,←H,hun,TP hbl dh (hun▸W) (by rw [←hun,H,am])]
    exact⟨rfl,OD,_,_,b_g,eh▸(aa),o,L⟩
 ·have el:cV mm≠0:=fun e=>aj (nO.1 e)
  have av:=lN W aj
  have fj:(wd (mm/unit)).length≤4194304:=a8 (gK (a8 (fH _ _) cu)) ak
  have ga:=tH W ak
  have gg:ps.length<(db unit m).length:=by rw [bi,av,fU,eN];omega
  refine aF (mv 1 J (dQ J J (vs:= [we QA qn qc]) (by kernel_rfl) (by decide) (GK hq (by omega)) ?_))
  rintro _ da ⟨_,rfl,ez,I⟩
  refine dR ?_
  have E:UpdW lb w da:=o.trans I
  have dm:Ext w da:=Z.trans I
  obtain rfl:=ez
  refine aI J J J true (eW (a:=cV mm) (b:=0) J J) (a7 (aW J (aY (aO (bO (sr (mv 2 J (pf g 0 J (pf g 2 J (bB J J (bM (fun _=>by kernel_rfl) (hW.ext (Z.trans I)) J) ?_))))))))))
  have fh:=((hP.ext I)).block
  refine dQ J J (vs:= [we QA qn qc,up unit]) (by kernel_rfl) (by decide) (R3 (hq.ext I) (by omega) (by omega) fm) ?_
  rintro _ cp ⟨_,rfl,fp,pU⟩
  refine dR ?_
  have az:UpdW lb w cp:=E.trans pU
  have fq:Ext w cp:=dm.trans pU
  obtain⟨_,_,_,rfl,⟨bd,ej,ei,rfl,fi,dw⟩,r47_1,r47_2⟩:=fp
  have eg:∀p q,r=some p→bd=some q→p.block≠q.block:=fun p q hp hq=>by have:=(fh p hp).2;have:=(dw.block q hq).1;omega
  obtain rfl:=r47_1
  obtain rfl:=r47_2
  refine mv 1 J (pu (v:= we bd ej ei) J (pu (v:= up ((mm%unit:Nat):Int)) J (pu (v:= no 0) J (mv 3 J (a7 (sr (mv 2 J (iO J J (k:=1) (e:=65) [up ((mm%unit:Nat):Int)] (fun _=>by kernel_rfl) fun _ dx nb=>?_))))))))
  have cj:=nb.bk
  have Y:=nb.ext
  clear nb
  have ch:UpdW lb w dx:=az.trans Y
  have fx:Ext w dx:=fq.trans Y
  have au:=(hP.ext (I.t (pU.t Y)))
  refine qM J J J bU iD J au (a8 F ((a8 (a8 I.size pU.size) Y.size))) [up ((mm%unit:Nat):Int)] J (tB _ cj) J fun fe fz bh ci ag _=>?_
  have dr:Ext w bh:=ag.ext fx (fun p hp=>by have:=au.block p hp;omega)
  have fw:UpdW lb w bh:=(UpdW.refl lb w).trans dr
  refine mv 1 J (a7 (aF (mv 2 J (aX (bQ (cM (⟨bh,bd,ej,ei,mm/unit,fe,f+1,fz,ps++ [mm%unit]⟩:a6×Option aB×Nat×Nat×Nat×Option aB×Nat×Nat×List Nat) ⟨fw,dr,(a8 F ((a8 (a8 (a8 I.size pU.size) Y.size) ag.size))),(by rw [bi,av,List.append_assoc];rfl),(by rw [fU,am];rfl),((dw.ext Y).updO ag eg).wi,(by rw [fi];exact fj),(by rw [List.map_append];exact ci),(a8 (fH _ _) cu)⟩ (kI (by omega) (by omega)) J ⟨rfl,rfl,rfl,rfl,AT⟩))))))
def f9 (b m:Nat):List Nat:=if m=0 then [48] else dW (db b m)
theorem ID:∀(ns:List Nat) (r:ByteArray),(ns.map fun x:Nat=>(x:Int)).foldl (fun r n=>r.push (UInt8.ofNat n.toNat)) r=⟨r.data++(ns.map UInt8.ofNat).toArray⟩
 | [],r=>by simp
 | n::ns,r=>by
  rw [jZ,List.foldl_cons,ID ns]
  simp [ByteArray.push,Array.push]
theorem RF (h:Own w lb T 1 A n c (bs.map B8)):(Conv.bytesToString (we A n c)).run P w= .ok (.string (aJ bs)) w:=by
 cases A with
 | none=>
  rcases h with⟨_,_,_,h⟩ | ⟨g,cs,f,_⟩
  ·rw [List.map_eq_nil_iff] at h;subst h;rfl
  ·cases f
 | some a=>
  have hn:=oG h
  have hl:=xM (P:=P) (w:=w) (p:=a) (bs.map B8) 0 #[] (fun j o=>by
   rw [List.length_map] at o
   obtain⟨a',e,q⟩:=h.rv.get j (by omega)
   cases e
   rw [eJ];exact q)
  have hr:=run_bytesToString (P:=P) w a n c (bs.map fun x:Nat=>(x:Int)) (by
   rw [List.length_map,←hn] at hl
   unfold loadCells
   rw [hl]
   congr 1
   simp [B8,Function.comp_def])
  rw [hr,ID]
  rw [show ByteArray.empty.data= #[] from rfl,Array.empty_append]
  rfl
theorem wV {Q:dI→Act→a6→Prop}{l:Fr}{pos:String}{x:cN}(hw:dB ops l gd=some true)(hx:bV l x=some (we A k c))(ho:Own w lb T 1 A k c (bs.map B8))(h:wl aN ops Q n rest ((d,.string (aJ bs))::l) w)(hn:d<n:=by decide):wl aN ops Q n (⟨some d,.convert 183 9 x,ty,pos,af,gd⟩::rest) l w:=by
 refine fW hw hn (fun a' f=>?_) h
 have e:(convert 183 9 (a'.eval x)).run aN w= .ok (.string (aJ bs)) w:=by
  rw [f.ev hx]
  have h1:(underlying 183).run aN w= .ok (.slice 5) w:=m8 kK w
  have h2:(underlying 9).run aN w= .ok .string w:=m8 Tryz.underlying9 w
  have o:(underlying 5).run aN w= .ok (.int .u8) w:=m8 Tryz.underlying5 w
  unfold convert
  simp only [cE,h1,h2,o,eY]
  exact RF ho
 show ((convert 183 9 (a'.eval x)>>=fun r=>pure (fZ r):Sem Next)).run aN w=_
 rw [cE,e];rfl
theorem PT (a b:List Nat):aJ a++aJ b=aJ (a++b):=by
 unfold aJ
 rw [ByteArray.mk_append_mk,List.map_append]
theorem cX (a:List Nat):(aJ a).size=a.length:=by simp [aJ,ByteArray.size]
theorem sQ {b:List Nat}(h:a.length+b.length≤1099511627776):(binOp .add t (.string (aJ a)) (.string (aJ b))).run P w= .ok (.string (aJ (a++b))) w:=by
 have h1:=run_string_add_sum (P:=P) w (aJ a) (aJ b) (by rw [cX,cX];omega)
 rw [PT] at h1
 simp [binOp,h1]
theorem KP {m:Nat}(hx:Wi w A n c m)(hl:n≤1099511627776):aP aN 141 #[we A n c] w (Gv w (WR w.heap.size m)):=by
 obtain⟨xs,h1,rfl⟩:=hx
 exact (jB h1 (hl:=hl)).mono (gw (aZ _))
theorem B9 {m:Nat}(h:(wd m).length≤n)(hb:2≤b:=by decide):(f9 b m).length≤64*n+1:=by
 unfold f9
 split
 ·simp
 ·rw [x8];have:=tH hb h;omega
def gQ (x:Int):List Nat:=if x<0 then [45]++f9 10 x.natAbs else f9 10 x.natAbs
theorem R2 {pc:Nat}(hS:Signs w)(hgS:4<lb)(hbl:2≤base)(hbu:base≤36)(hW:Wr w g base k unit PA pn pc OA on oc)(hO:Own w lb 5 1 OA on oc (bs.map B8))(hgl:lb≤g)(hlb:lb≤w.heap.size){m:Nat}(ha:Wi w A an ac m)(hal:an≤4194304)(hun:unit=base^k)(hkk:PieceK base k)(hwd:width≤137438953472)(hon:on≤137438953472):aP aN 228 #[i5 g 0,we A an ac,no (-1),no width] w (zN w lb g base k unit PA pn pc OA (bs++dW (eF (db base m) width))):=by
 refine bN Tryz.func228 J (n:=74) J (bq J) (args:= [i5 g 0,we A an ac,no (-1),no width]) (bG [(0,i5 g 0),(1,we A an ac),(2,no (-1)),(3,no width)] ⟨rfl,rfl,rfl,rfl,AT⟩ (aD (sr (mv 1 J (aI J J J true (by decide) (mv 4 J (pu (v:= AI) J (a7 (aW J (sr (mv 3 J (dQ J J (vs:= [i5 g 0,we A an ac,no width]) (by kernel_rfl) (by decide) (GF hS hgS hbl hbu hW hO hgl (a8 hlb (UpdW.refl lb w).size) ha hal hun hkk hwd hon) ?_))))))))))))
 rintro _ D ⟨rfl,r,_,_,e,f,h,o⟩
 refine dR ?_
 have q:UpdW lb w D:=(UpdW.refl lb w).then h
 have p:=(Kept.refl w OA).next o (UpdW.refl lb w).size
 refine a7 (aV (bR (aU [] J AT ?_)))
 exact⟨rfl,r,_,_,e,f,q,p⟩
theorem Q7 {α:Type}{p:List α→Prop}(nil:p [])(snoc:∀r a,p r→p (r++ [a]))(l:List α):p l:=by
 have h:∀r:List α,p r.reverse:=by
  intro r
  induction r with
  | nil=>exact nil
  | cons a r ih=>rw [List.reverse_cons];exact snoc _ _ ih
 have:=h l.reverse
 rwa [List.reverse_reverse] at this
theorem uN (hb:∀b,b∈bs→b<256)(hi:i<bs.length)(h:i<(aJ bs).size):((aJ bs)[i]'h).toNat=bs.getD i 0:=by
 have e:(aJ bs)[i]'h=UInt8.ofNat (bs.getD i 0):=by
  show ((bs.map UInt8.ofNat).toArray)[i]'(by simpa using hi)=_
  rw [List.getElem_toArray,List.getElem_map,bK,cC hi];rfl
 rw [e,UInt8.toNat_ofNat']
 refine gN ?_
 rw [bK,cC hi]
 exact hb _ (List.getElem_mem hi)
def It (w:a6)(g:Nat)(bs:List Nat)(pos:Nat):Prop:=w.heap[g]?=some (.stringIter (aJ bs) pos)
theorem It.lt (h:It w g bs pos):g<w.heap.size:=(Array.getElem?_eq_some_iff.1 h).1
theorem It.ext (h:It w g bs pos)(e:Ext w w'):It w' g bs pos:=e.heap h
theorem It.updO (h:It w g bs pos)(e:UpdO A w w')(hne:∀p,A=some p→p.block≠g):It w' g bs pos:=e.heap h hne
theorem JY {t s:Nat}(h:Own w b t s A n c us)(hi:It w g bs pos):∀p,A=some p→p.block≠g:=fun p f e=>by
 rcases h with⟨h,_⟩ | ⟨k,cs,q,_,o,_⟩
 ·rw [h] at f;cases f
 ·rw [q] at f;cases f
  simp only at e
  subst e
  unfold Bk at o
  unfold It at hi
  rw [o] at hi
  cases hi
theorem Own.updI {t s:Nat}(h:Own w b t s A n c us)(hi:It w g bs pos)(u:Upd g w w'):Own w' b t s A n c us:=h.upd u (JY h hi)
section
variable {P:bW}{Q:dI→Act→a6→Prop}{n:Nat}{l:Fr}{w:a6}{ops:Array bD}{rest:List bD}{d:Nat}{ty:aS}{pos:String}{af:Array fP}{gd:Option (Nat×Bool)}
theorem NZ {x:cN}(hw:dB ops l gd=some true)(hx:bV l x=some (.string (aJ bs)))(ht:P.underlying t=some .string)(hn:d<n)(h:∀g w',w.heap.size=g→It w' g bs 0→Ext w w'→wl P ops Q n rest ((d,i5 g 0)::l) w'):wl P ops Q n (⟨some d,.range t x,ty,pos,af,gd⟩::rest) l w:=by
 refine fW hw hn (fun a' f=>?_) (h _ (w.iter (aJ bs) 0) J (World.iter_heap w _ 0) ((Ext.refl w).alloc _))
 have e:(Instr.range t (a'.eval x)).run P w= .ok (i5 w.heap.size 0) (w.iter (aJ bs) 0):=by rw [f.ev hx];exact run_range_string w t _ ht
 show ((Instr.range t (a'.eval x)>>=fun r=>pure (fZ r):Sem Next)).run P w=_
 rw [cE,e];rfl
theorem RN (h:It w g bs p)(hp:p<bs.length)(ty:aS):∃w',(Instr.next (i5 g 0) true ty).run P w= .ok (.tuple #[AI,no (p:Int),.int .i32 ((Utf8.decode (aJ bs) p).1:Int)]) w'∧It w' g bs (p+(Utf8.decode (aJ bs) p).2)∧Upd g w w':=by
 have hs:p<(aJ bs).size:=by rw [cX];exact hp
 refine⟨{w with heap:=w.heap.setIfInBounds g (.stringIter (aJ bs) (p+(Utf8.decode (aJ bs) p).2))},?_,?_,?_⟩
 ·unfold It at h
  simp only [Instr.next,getObj,setObj,cE,Sem.run,h,Result.andThen,hs,if_true]
  simp [goInt]
 ·unfold It
  have:=h.lt
  simp [this]
 ·refine⟨⟨rfl,rfl,rfl,by simp,fun k _ f=>?_⟩⟩
  have:g≠k:=fun e=>f (by rw [e])
  simp [this]
theorem RM (h:It w g bs p)(hp:¬p<bs.length)(ty:aS):(Instr.next (i5 g 0) true ty).run P w= .ok (.tuple #[AS]) w:=by
 have hs:¬p<(aJ bs).size:=by rw [cX];exact hp
 unfold It at h
 simp [Instr.next,getObj,Sem.run,h,hs]
theorem O4 {x:cN}(hw:dB ops l gd=some true)(hx:bV l x=some (i5 g 0))(h:It w g bs p)(hp:p<bs.length)(hn:d<n)(k:∀w',It w' g bs (p+(Utf8.decode (aJ bs) p).2)→Upd g w w'→wl P ops Q n rest ((d,.tuple #[AI,no (p:Int),.int .i32 ((Utf8.decode (aJ bs) p).1:Int)])::l) w'):wl P ops Q n (⟨some d,.next x true,ty,pos,af,gd⟩::rest) l w:=by
 obtain⟨w',hr,h1,h2⟩:=RN (P:=P) h hp ty
 refine fW hw hn (fun a' f=>?_) (k w' h1 h2)
 have e:(Instr.next (a'.eval x) true ty).run P w= .ok (.tuple #[AI,no (p:Int),.int .i32 ((Utf8.decode (aJ bs) p).1:Int)]) w':=by rw [f.ev hx];exact hr
 show ((Instr.next (a'.eval x) true ty>>=fun r=>pure (fZ r):Sem Next)).run P w=_
 rw [cE,e];rfl
theorem O2 {x:cN}(hw:dB ops l gd=some true)(hx:bV l x=some (i5 g 0))(h:It w g bs p)(hp:¬p<bs.length)(hn:d<n)(k:wl P ops Q n rest ((d,.tuple #[AS])::l) w):wl P ops Q n (⟨some d,.next x true,ty,pos,af,gd⟩::rest) l w:=by
 refine fW hw hn (fun a' f=>?_) k
 have e:(Instr.next (a'.eval x) true ty).run P w= .ok (.tuple #[AS]) w:=by rw [f.ev hx];exact RM (P:=P) h hp ty
 show ((Instr.next (a'.eval x) true ty>>=fun r=>pure (fZ r):Sem Next)).run P w=_
 rw [cE,e];rfl
end
def dv (c:Nat):Nat:=if 48≤c∧c≤57 then c-48 else if 97≤c∧c≤122 then c-87 else if 65≤c∧c≤90 then c-55 else 36
theorem YF (c:Nat):dv c≤36:=by unfold dv;split <;> (try split) <;> (try split) <;> omega
theorem DD (h:128≤c):dv c=36:=by unfold dv;rw [if_neg (by omega),if_neg (by omega),if_neg (by omega)]
theorem ZB (hb:∀b,b∈bs→b<256)(hp:p<bs.length)(h:bs.getD p 0<128):Utf8.decode (aJ bs) p=(bs.getD p 0,1):=by
 have hs:p<(aJ bs).size:=by rw [cX];exact hp
 have e:=uN hb hp hs
 rw [decode_ascii (aJ bs) p hs (by rw [e];exact h),e]
def cB (b:Nat)(ds:List Nat):Nat:=ds.foldl (fun a d=>a*b+d) 0
theorem wZ (b:Nat)(ds:List Nat)(d:Nat):cB b (ds++ [d])=cB b ds*b+d:=by unfold cB;rw [List.foldl_append];rfl
theorem B4 (b a:Nat):∀ds:List Nat,ds.foldl (fun a d=>a*b+d) a=a*b^ds.length+cB b ds
 | []=>by simp [cB]
 | d::ds=>by
  have e:cB b (d::ds)=(0*b+d)*b^ds.length+cB b ds:=by
   unfold cB;rw [List.foldl_cons];exact B4 b _ ds
  rw [List.foldl_cons,B4 b _ ds,e,eN,cW]
  simp only [Nat.zero_mul,eJ,dK,bX]
  rw [cL b (b^ds.length)]
  omega
theorem FE (b:Nat)(xs ys:List Nat):cB b (xs++ys)=cB b xs*b^ys.length+cB b ys:=by
 unfold cB
 rw [List.foldl_append,B4]
 rfl
theorem B3 (_hb:1≤b):∀ds:List Nat,(∀d,d∈ds→d<b)→cB b ds<b^ds.length:=by
 intro ds
 induction ds using Q7 with
 | nil=>intro _;simp [cB]
 | snoc r a ih=>
  intro h
  have h1:=ih fun d f=>h d (by simp [f])
  have h2:=h a (by simp)
  rw [wZ,fU,List.length_singleton,cW]
  have e:(cB b r+1)*b≤b^r.length*b:=eI b h1
  rw [dK,Nat.one_mul] at e
  omega
def eM (b:Nat)(bs:List Nat):Prop:=bs≠ []∧∀c,c∈bs→dv c<b
end
section
open Go.ChangeShapes Go.WideShapes Go.ChangeAt Go.RowKit
theorem PP (s:ByteArray):∃bs:List Nat,s=aJ bs∧(∀b,b∈bs→b<256)∧bs.length=s.size:=by
 refine⟨s.data.toList.map UInt8.toNat,?_,?_,?_⟩
 ·unfold aJ
  rw [List.map_map]
  have:(UInt8.ofNat∘UInt8.toNat)=id:=funext fun x=>UInt8.ofNat_toNat
  rw [this,List.map_id]
 ·intro b hb
  obtain⟨x,_,rfl⟩:=qI.1 hb
  exact x.toNat_lt
 ·rw [List.length_map,Array.length_toList];rfl
theorem PS {b:List Nat}(ha:∀x,x∈a→x<256)(hb:∀x,x∈b→x<256)(h:aJ a=aJ b):a=b:=by
 have hl:a.length=b.length:=by rw [←cX a,h,cX]
 refine List.ext_getElem hl fun i h1 h2=>?_
 have f:=uN ha h1 (by rw [cX];exact h1)
 have o:=uN hb h2 (by rw [cX];exact h2)
 have e:((aJ a)[i]'(by rw [cX];exact h1)).toNat=((aJ b)[i]'(by rw [cX];exact h2)).toNat:=by
  congr 1;simp only [h]
 rw [f,o,bK,cC h1,bK,cC h2] at e
 exact e
def qS (o:BinOp)(a b:List Nat):Option Bool:=match o with
 | .eql=>some (decide (a=b))
 | .neq=>some (!decide (a=b))
 | _=>none
theorem P4 {a b:ByteArray}(h:a.toList=b.toList):a=b:=by
 rw [ByteArray.toList_eq,ByteArray.toList_eq] at h
 exact Go.WideShapes.bytes_inj h
section
variable {P:bW}{Q:dI→Act→a6→Prop}{n:Nat}{l:Fr}{w:a6}{ops:Array bD}{rest:List bD}{d:Nat}{ty:aS}{pos:String}{af:Array fP}{gd:Option (Nat×Bool)}
theorem RH {x y:cN}{b:List Nat}{r:Bool}(ha:∀x,x∈a→x<256)(hb:∀x,x∈b→x<256)(hr:qS o a b=some r):((do eqGuard o t x y (.string (aJ a)) (.string (aJ b));binOp o t (.string (aJ a)) (.string (aJ b))):Sem aM).run P w= .ok (.bool r) w:=by
 have key:((aJ a).toList==(aJ b).toList)=decide (a=b):=by
  by_cases h:a=b
  ·subst h;simp
  ·rw [decide_eq_false h,beq_eq_false_iff_ne]
   exact fun e=>h (PS ha hb (P4 e))
 cases o <;> simp only [qS,reduceCtorEq,eB] at hr
 ·subst hr;simp [eqGuard,binOp,Op.stringOp,key]
 ·subst hr;simp [eqGuard,binOp,Op.stringOp,key]
theorem mH {x y:cN}{b:List Nat}(hw:dB ops l gd=some true)(hx:bV l x=some (.string (aJ a)))(hy:bV l y=some (.string (aJ b)))(ha:∀x,x∈a→x<256)(r:Bool)(hr:qS o a b=some r)(h:wl P ops Q n rest ((d,.bool r)::l) w)(hb:∀x,x∈b→x<256:=by decide)(hn:d<n:=by decide):wl P ops Q n (⟨some d,.binOp o t x y t',ty,pos,af,gd⟩::rest) l w:=
 fW hw hn (fun a' ha'=>by
  have e:((do eqGuard o t x y (a'.eval x) (a'.eval y);binOp o t (a'.eval x) (a'.eval y)):Sem aM).run P w= .ok (.bool r) w:=by
   rw [ha'.ev hx,ha'.ev hy];exact RH ha hb hr
  show ((((do eqGuard o t x y (a'.eval x) (a'.eval y);binOp o t (a'.eval x) (a'.eval y)):Sem aM)>>=fun r=>pure (fZ r)):Sem Next).run P w=_
  rw [cE,e];rfl) h
end
theorem M7 {H:Type}{d:DataW H}:∀{l:List (DataW H)},d∈l→Rows.uptoBulk d≤Rows.uptoBulkAll l
 | x::r,h=>by
  simp only [Rows.uptoBulkAll]
  rcases List.mem_cons.1 h with rfl | h
  ·omega
  ·have:=M7 h;omega
def Al (k:Nat)(ok:a6→List aM→Prop)(w:a6)(A:Option aB)(n:Nat):Prop:=
 ∀i,i<n→∃p us,A.map (·.add (i*k))=some p∧us.length=k∧(∀j,j<k→w.cell? (p.add j)=some (us.getD j undef))∧ok w us
theorem U2 {enc:aS×aM→H}{v:aM}{d:DataW H}{e:aS}(ht:Tryz.prog.underlying t=some (.slice e))(hk:Tryz.prog.cellsOf e=k){ok:a6→List aM→Prop}(hok:∀fuel cs (x:DataW H×List MemPlace),DataW.trod enc aN W 0 (fun _=>true) true fuel e cs=some x→Rows.uptoBulk x.1≤Rows.uptoBulk d→ok W cs)(hval:Value.okWide aN W .any base t v)(h:DataW.Trod enc aN W 0 (fun _=>true) true t v d pl):∃A n cap,v= we A n cap∧Al k ok W A n∧n≤Rows.uptoBulk d:=by
 obtain⟨A,n,cap,rfl⟩:=okWide_slice ht hval
 obtain⟨fuel,hf⟩:=h
 have hf':DataW.trod enc aN W 0 (fun _=>true) true fuel t [we A n cap]=some (d,pl):=hf
 rcases Go.Deep.open_slice ht hf' with⟨f,hx⟩ | ⟨a,n',cap',m,q,D,Pl,f,_,hl,_,o,hx,hi⟩
 ·have h1:=List.singleton_inj.1 f
  injection h1 with e1 e2 e3
  subst e1;subst e2;subst e3
  exact⟨none,0,0,rfl,fun i hi=>by omega,bJ _⟩
 ·have h1:=List.singleton_inj.1 f
  injection h1 with e1 e2 e3
  subst e1;subst e2;subst e3
  simp only [if_true] at o
  have hmm':=o.symm
  subst hmm'
  simp only [Prod.mk.injEq] at hx
  obtain⟨rfl,rfl⟩:=hx
  rw [hk] at hi
  refine⟨some a,n,cap,rfl,fun i E=>?_,?_⟩
  ·obtain⟨cs',G,ht'⟩:=hi i (by omega)
   obtain⟨_,r,p⟩:=World.cells?_some G
   refine⟨a.add (i*k),cs',rfl,r,fun j F=>?_,hok _ _ _ ht' ?_⟩
   ·have:=p j F
    rw [this,cC (by omega),bK,cC (by omega)];rfl
   ·have:=M7 (H:=H) (l:=(gE n).map D) (qI.2 ⟨i,List.mem_range.2 E,rfl⟩)
    simp only [Rows.uptoBulk]
    omega
  ·have:=M6 (H:=H) ((gE n).map D) ((gE (cap-n)).map fun j=>D (n+j))
   rw [List.length_map,List.length_range] at this
   omega
end
section
open Go.RowKit
structure Low (p q x y:Int):Prop where
 pos:0<q
 co:Int.gcd p q=1
 eq:p*y=x*q
 np:p.natAbs≤x.natAbs
 nq:q.natAbs≤y.natAbs
theorem yA {p:Int}(h1:Int.gcd p q=1)(h2:Int.gcd p' q'=1)(hq:0<q)(hq':0<q')(e:p*q'=p'*q):p=p'∧q=q':=by
 have h:p.natAbs*q'.natAbs=p'.natAbs*q.natAbs:=by rw [←Int.natAbs_mul,←Int.natAbs_mul,e]
 have r:Nat.Coprime q.natAbs p.natAbs:=by rw [Nat.coprime_comm];exact h1
 have o:Nat.Coprime q'.natAbs p'.natAbs:=by rw [Nat.coprime_comm];exact h2
 have d1:q.natAbs∣q'.natAbs:=r.dvd_of_dvd_mul_left (h▸Nat.dvd_mul_left _ _)
 have d2:q'.natAbs∣q.natAbs:=o.dvd_of_dvd_mul_left (h▸Nat.dvd_mul_left _ _)
 have f:q=q':=by
  have:=Nat.dvd_antisymm d1 d2
  omega
 subst f
 exact⟨Int.eq_of_mul_eq_mul_right (by omega) e,rfl⟩
theorem Low.uniq {p x' y':Int}(h:Low p q x y)(k:Low p' q' x' y')(hy:y≠0)(hy':y'≠0)(e:x*y'=x'*y):p=p'∧q=q':=by
 refine yA h.co k.co h.pos k.pos ?_
 have h1:(p*q')*(y*y')=(p'*q)*(y*y'):=by
  calc (p*q')*(y*y')=(p*y)*(q'*y'):=by grind
   _=(x*q)*(q'*y'):=by rw [h.eq]
   _=(x*y')*(q*q'):=by grind
   _=(x'*y)*(q*q'):=by rw [e]
   _=(x'*q')*(q*y):=by grind
   _=(p'*y')*(q*y):=by rw [k.eq]
   _=(p'*q)*(y*y'):=by grind
 exact Int.eq_of_mul_eq_mul_right (Int.mul_ne_zero hy hy') h1
theorem KD (hy:y≠0):(Int.gcd x y:Int)≠0:=by
 have:=Int.gcd_pos_of_ne_zero_right x hy
 omega
theorem UV (hy:y≠0):Low (if y<0 then-(x.tdiv (Int.gcd x y)) else x.tdiv (Int.gcd x y)) (if y<0 then-(y.tdiv (Int.gcd x y)) else y.tdiv (Int.gcd x y)) x y:=by
 have hg:=KD (x:=x) hy
 obtain⟨a,p⟩:=Int.gcd_dvd_left x y
 obtain⟨b,hb⟩:=Int.gcd_dvd_right x y
 have f:Int.gcd a b=1:=by
  have h1:Int.gcd ((Int.gcd x y:Int)*a) ((Int.gcd x y:Int)*b)=(Int.gcd x y)*Int.gcd a b:=by
   rw [Int.gcd_mul_left,Int.natAbs_natCast]
  rw [←p,←hb] at h1
  have h2:0<Int.gcd x y:=by omega
  exact Nat.eq_of_mul_eq_mul_left h2 (by rw [←h1,dV])
 generalize hG:(Int.gcd x y:Int)=G at*
 have o:0<G:=by omega
 have q:x.tdiv G=a:=by rw [p];exact Int.mul_tdiv_cancel_left _ hg
 have r:y.tdiv G=b:=by rw [hb];exact Int.mul_tdiv_cancel_left _ hg
 rw [q,r]
 have na:a.natAbs≤x.natAbs:=by rw [p,Int.natAbs_mul];exact Nat.le_mul_of_pos_left _ (by omega)
 have nb:b.natAbs≤y.natAbs:=by rw [hb,Int.natAbs_mul];exact Nat.le_mul_of_pos_left _ (by omega)
 have ee:a*y=x*b:=by
  calc a*y=a*(G*b):=by rw [←hb]
   _=(G*a)*b:=by grind
   _=x*b:=by rw [←p]
 by_cases h:y<0
 ·rw [if_pos h,if_pos h]
  have e:b<0:=by
   refine Int.lt_of_not_ge (fun e=>?_)
   have:=Int.mul_nonneg (Int.le_of_lt o) e
   omega
  exact⟨by omega,by rw [Int.gcd_neg,Int.neg_gcd];exact f,by rw [Int.neg_mul,Int.mul_neg,ee],by omega,by omega⟩
 ·rw [if_neg h,if_neg h]
  have e:0<b:=by
   refine Int.lt_of_not_ge (fun e=>?_)
   have h1:G*b≤0:=Int.mul_nonpos_of_nonneg_of_nonpos (Int.le_of_lt o) e
   omega
  exact⟨e,f,ee,na,nb⟩
theorem Bk.four {a b c d:aM}(h:Bk w g t [a,b,c,d]):(w.cell? ⟨g,0,none⟩=some a∧w.cell? ⟨g,1,none⟩=some b∧w.cell? ⟨g,2,none⟩=some c∧w.cell? ⟨g,3,none⟩=some d)∧(w.frozen? ⟨g,0,none⟩=false∧w.frozen? ⟨g,1,none⟩=false∧w.frozen? ⟨g,2,none⟩=false∧w.frozen? ⟨g,3,none⟩=false):=
 ⟨⟨h.cell (i:=0) (by simp),h.cell (i:=1) (by simp),h.cell (i:=2) (by simp),h.cell (i:=3) (by simp)⟩,h.frozen 0,h.frozen 1,h.frozen 2,h.frozen 3⟩
theorem Bk.four_set {a b c d:aM}(h:Bk w g t [a,b,c,d])(u0 u1 u2 u3:aM):Bk ((((w.setCell ⟨g,0,none⟩ u0).setCell ⟨g,1,none⟩ u1).setCell ⟨g,2,none⟩ u2).setCell ⟨g,3,none⟩ u3) g t [u0,u1,u2,u3]:=(((h.set 0 u0).set 1 u1).set 2 u2).set 3 u3
theorem Upd.four (u0 u1 u2 u3:aM):Upd g w ((((w.setCell ⟨g,0,none⟩ u0).setCell ⟨g,1,none⟩ u1).setCell ⟨g,2,none⟩ u2).setCell ⟨g,3,none⟩ u3):=((((Upd.refl g w).setCell 0 u0).setCell 1 u1).setCell 2 u2).setCell 3 u3
def zR (w:a6)(p q:Int)(er:Int)(e:dL)(w':a6):Prop:=
 ∃s A n cap s' B m cap',e= .returned (.tuple #[a9 s A n cap s' B m cap',no er])∧Zr w' w.heap.size s A n cap p∧Zr w' w.heap.size s' B m cap' q∧Ext w w'
theorem BU {a b c d:aM}{s u:Tmp}(hf:fn.results= #[.cell s 52,.tmp u])(hs:tmps.getD s undef= i5 g 0){v:aM}(hu:tmps.getD u undef=v)(h:Bk w g t [a,b,c,d]):(results fn tmps).run aN w= .ok (.tuple #[.agg #[a,b,c,d],v]) w:=by
 obtain⟨⟨h1,h2,h3,h4⟩,_⟩:=h.four
 have hs2:tmps[s]?.getD undef= i5 g 0:=by simpa using hs
 have hu2:tmps[u]?.getD undef=v:=by simpa using hu
 simp [results,hf,hs2,hu2,loadVar,loadCells,loadCellsFrom,go_sem,h1,h2,h3,h4]
theorem D8 {w2:a6}{s':Bool}{m:Nat}{p:Int}(hp:Zr w2 base s A n cap p)(hq:Zr w2 base s' B m cap' q)(he:Ext w w2)(er:Int)(hg:g<base:=by omega)(hw:w.heap.size≤g:=by omega):zR w p q er (.returned (.tuple #[a9 s A n cap s' B m cap',no er])) ((((w2.setCell ⟨g,0,none⟩ (.bool s)).setCell ⟨g,1,none⟩ (we A n cap)).setCell ⟨g,2,none⟩ (.bool s')).setCell ⟨g,3,none⟩ (we B m cap')):=
 ⟨s,A,n,cap,s',B,m,cap',rfl,(hp.upd hg (Upd.four _ _ _ _)).mono (by omega),(hq.upd hg (Upd.four _ _ _ _)).mono (by omega),(Upd.four _ _ _ _).ext he hw⟩
theorem Bk.fr2 {l:Array aM}:Bk ((w.alloc (.cells l t')).alloc (.cells vs.toArray t)) (w.heap.size+1) t vs:=by
 have:=Bk.new (w.alloc (.cells l t')) t vs
 simpa using this
theorem Bk.fr3 {t'':aS}{l:Array aM}:Bk (((w.alloc (.cells l t')).alloc (.cells l' t'')).alloc (.cells vs.toArray t)) (w.heap.size+1+1) t vs:=by
 have:=Bk.new ((w.alloc (.cells l t')).alloc (.cells l' t'')) t vs
 simpa using this
theorem M9 (w:a6)(t t' t'':aS)(l l' l'':List aM):∃g g2 g3 wa,w.heap.size+1+1=g3∧w.heap.size+1=g2∧w.heap.size=g∧((w.alloc (.cells l.toArray t)).alloc (.cells l'.toArray t')).alloc (.cells l''.toArray t'')=wa∧Bk wa g t l∧Bk wa g2 t' l'∧Bk wa g3 t'' l''∧Ext w wa∧g<g2∧g2<g3∧g3<wa.heap.size∧g≠g2∧g2≠g∧g≠g3∧g3≠g∧g2≠g3∧g3≠g2:=
 ⟨_,_,_,_,rfl,rfl,rfl,rfl,((Bk.new w t l).alloc _).alloc _,Bk.fr2.alloc _,Bk.fr3,(((Ext.refl w).alloc _).alloc _).alloc _,by omega,by omega,by simp,by omega,by omega,by omega,by omega,by omega,by omega⟩
theorem XK {t:Bool}{m:Nat}(hy:Zi w t B m cap' y)(hl':m≤68719476736)(h0:y=0):aP aN 79 #[O s A n cap,O t B m cap'] w (zR w 0 0 4):=by
 have H0:=Lib.hid h0
 clear h0
 go_enter Tryz.func79,Tryz.ntmps79
 go_upto_region 1 with (fail)
 obtain⟨g,g2,g3,wa,hg3,hg2,hg,hwa,hb1,hb2,hb3,hea,l12,l23,l3,n12,n21,n13,n31,n23,n32⟩:=M9 w 24 24 52 (a5 s A n cap) (a5 t B m cap') [AS,we none 0 0,AS,we none 0 0]
 rw [hg3,hg2,hg,hwa]
 have hgw:w.heap.size≤g:=Nat.le_of_eq hg
 clear hwa hg hg2 hg3
 obtain⟨h1,h2,h3,h4⟩:=hb2.two
 go_wp2_with fail
 refine (uH (hy.ext hea) hl').mono ?_
 rintro e w1 ⟨c,hc,hcl,hch,rfl,hx1⟩
 obtain rfl:c=0:=by rw [hc.out,H0.out];rfl
 clear hc
 have hd3:=hb3.ext hx1
 have hsz:=hx1.size
 obtain⟨⟨k0,k1,k2,k3⟩,k4,k5,k6,k7⟩:=hd3.four
 go_wp2_with fail
 refine fO (BU J J J (hd3.four_set _ _ _ _)) J ?_
 exact D8 (g:=g3) (Zr.zero (base:=wa.heap.size)) Zr.zero (hea.trans hx1) 4
theorem KV {t:Bool}{m:Nat}(hx : Zi w s A n cap x)(hl : n ≤ 68719476736)(hy : Zi w t B m cap' y)(hl' : m ≤ 68719476736)(h0 : y ≠ 0):aP aN 79 #[.agg #[.bool s, we A n cap], .agg #[.bool t, we B m cap']] w (fun e w' => ∃ p q, Hid (Low p q x y) ∧ zR w p q 0 e w') := by
  have H0 := Lib.hid h0
  have hlow := Lib.hid (UV (x := x) h0)
  have hG0 := Lib.hid (KD (x := x) h0)
  have hGx := Lib.hid (Int.gcd_dvd_left x y)
  have hGy := Lib.hid (Int.gcd_dvd_right x y)
  have hGl : Hid (ln (Int.gcd x y : Int) ≤ m) := by
    refine a8 (dZ ?_) hy.ln
    rw [Int.natAbs_natCast]
    exact Nat.le_of_dvd (by omega) (Int.natAbs_dvd_natAbs.2 (Int.gcd_dvd_right x y) |> fun h => by simpa using h)
  clear h0
  go_enter Tryz.func79, Tryz.ntmps79
  go_upto_region 1 with (fail)
  obtain ⟨g, g2, g3, wa, hg3, hg2, hg, hwa, hb1, hb2, hb3, hea, l12, l23, l3, n12, n21, n13, n31, n23, n32⟩ := M9 w 24 24 52 [.bool s, we A n cap] [.bool t, we B m cap'] [AS, we none 0 0, AS, we none 0 0]
  rw [hg3, hg2, hg, hwa]
  have hgw : w.heap.size ≤ g := Nat.le_of_eq hg
  clear hwa hg hg2 hg3
  obtain ⟨h1, h2, h3, h4⟩ := hb2.two
  go_wp2_with fail
  refine (uH (hy.ext hea) hl').mono ?_
  rintro e w1 ⟨c, hc, hcl, hch, rfl, hx1⟩
  have hc1 : c ≠ 0 := fun h => H0.out (kA.1 (by rw [← hc.out, h]))
  have hc2 : c < 0 ↔ y < 0 := by rw [hc.out]; exact pH
  have HC2 := Lib.hid hc2
  have bc : (c == 0) = false := by simp; omega
  clear hc1 hc2 hc h1 h2 h3 h4
  have e1 := hea.trans hx1
  obtain ⟨f1, f2, f3, f4⟩ := (hb1.ext hx1).two
  obtain ⟨h1, h2, h3, h4⟩ := (hb2.ext hx1).two
  go_wp2_with fail
  refine (ME (hx.ext e1) hl (hy.ext e1) hl').mono ?_
  rintro e w2 ⟨s2, A2, n2, c2, rfl, z2, hx2⟩
  have b2 : n2 ≤ 68719476736 := a8 (z2.le hGl.out) hl'
  have x2 : Ext wa w2 := hx1.trans hx2
  clear f1 f2 f3 f4 h1 h2 h3 h4
  go_upto_region 5 with (fail)
  have hb7 := Bk.new w2 24 [.bool s2, we A2 n2 c2]
  obtain ⟨v2, hv2⟩ : ∃ v2, w2.alloc (.cells #[.bool s2, .slice A2 n2 c2] 24) = v2 := ⟨_, rfl⟩
  obtain ⟨g7, hg7⟩ : ∃ g7, w2.heap.size = g7 := ⟨_, rfl⟩
  rw [hg7] at hb7 ⊢
  have hb7' : Bk v2 g7 24 [.bool s2, we A2 n2 c2] := by rw [← hv2]; exact hb7
  have xv2 : Ext wa v2 := by rw [← hv2]; exact x2.alloc _
  have z2' : Zr v2 w1.heap.size s2 A2 n2 c2 (Int.gcd x y : Int) := by rw [← hv2]; exact z2.ext ((Ext.refl w2).alloc _)
  rw [hv2]
  clear hb7 hv2 z2 hg7
  obtain ⟨f1, f2, f3, f4⟩ := (hb1.ext xv2).two
  obtain ⟨i1, i2, i3, i4⟩ := hb7'.two
  go_wp2_with fail
  refine (ES (hx.ext (hea.trans xv2)) hl z2'.zi b2 hG0.out hGx.out).mono ?_
  rintro e w3 ⟨s3, A3, n3, c3, rfl, z3, hx3⟩
  clear f1 f2 f3 f4 i1 i2 i3 i4
  go_upto_region 6 with (fail)
  have hb8 := Bk.new w3 24 [.bool s3, we A3 n3 c3]
  obtain ⟨v3, hv3⟩ : ∃ v3, w3.alloc (.cells #[.bool s3, .slice A3 n3 c3] 24) = v3 := ⟨_, rfl⟩
  obtain ⟨g8, hg8⟩ : ∃ g8, w3.heap.size = g8 := ⟨_, rfl⟩
  rw [hg8] at hb8 ⊢
  have hb8' : Bk v3 g8 24 [.bool s3, we A3 n3 c3] := by rw [← hv3]; exact hb8
  have xv3 : Ext v2 v3 := by rw [← hv3]; exact hx3.alloc _
  have z3' : Zr v3 v2.heap.size s3 A3 n3 c3 (x.tdiv (Int.gcd x y : Int)) := by rw [← hv3]; exact z3.ext ((Ext.refl w3).alloc _)
  rw [hv3]
  have l8 : v2.heap.size ≤ g8 := by rw [← hg8]; exact hx3.size
  clear hb8 hv3 z3 hg8
  obtain ⟨h1, h2, h3, h4⟩ := (hb2.ext (xv2.trans xv3)).two
  obtain ⟨i1, i2, i3, i4⟩ := (hb7'.ext xv3).two
  go_wp2_with fail
  refine (ES (hy.ext (hea.trans (xv2.trans xv3))) hl' (z2'.zi.ext xv3) b2 hG0.out hGy.out).mono ?_
  rintro e w4 ⟨s4, A4, n4, c4, rfl, z4, hx4⟩
  clear h1 h2 h3 h4 i1 i2 i3 i4
  go_upto_region 7 with (fail)
  have hb10 := Bk.new w4 24 [.bool s4, we A4 n4 c4]
  obtain ⟨v4, hv4⟩ : ∃ v4, w4.alloc (.cells #[.bool s4, .slice A4 n4 c4] 24) = v4 := ⟨_, rfl⟩
  obtain ⟨g10, hg10⟩ : ∃ g10, w4.heap.size = g10 := ⟨_, rfl⟩
  rw [hg10] at hb10 ⊢
  have hb10' : Bk v4 g10 24 [.bool s4, we A4 n4 c4] := by rw [← hv4]; exact hb10
  have xv4 : Ext v3 v4 := by rw [← hv4]; exact hx4.alloc _
  have z4' : Zr v4 v3.heap.size s4 A4 n4 c4 (y.tdiv (Int.gcd x y : Int)) := by rw [← hv4]; exact z4.ext ((Ext.refl w4).alloc _)
  have z3'' := z3'.ext xv4
  have hb8'' := hb8'.ext xv4
  rw [hv4]
  have l10 : v3.heap.size ≤ g10 := by rw [← hg10]; exact hx4.size
  have l8' : g8 < v3.heap.size := hb8'.lt
  have lb3 : g3 < v2.heap.size := (hb3.ext xv2).lt
  have n810 : g8 ≠ g10 := by omega
  have n108 : g10 ≠ g8 := by omega
  have hb3' := hb3.ext (xv2.trans (xv3.trans xv4))
  have ev4 : Ext w v4 := hea.trans (xv2.trans (xv3.trans xv4))
  have sv23 := xv3.size
  have sv34 := xv4.size
  clear hb10 hv4 z4 hg10
  obtain ⟨f1, f2, f3, f4⟩ := hb8''.two
  obtain ⟨h1, h2, h3, h4⟩ := hb10'.two
  obtain ⟨⟨k0, k1, k2, k3⟩, k4, k5, k6, k7⟩ := hb3'.four
  by_cases hneg : c < 0
  · have hyn := Lib.hid (HC2.out.1 hneg)
    have hlow2 := hlow.out
    rw [if_pos hyn.out, if_pos hyn.out] at hlow2
    have HLOW := Lib.hid hlow2
    clear hlow2 hlow
    go_upto_region 8 with (fail)
    have b3 : n3 ≤ 68719476736 := a8 (z3''.le (dZ (by have := HLOW.out.np; rw [Int.natAbs_neg] at this; exact this))) (a8 hx.ln hl)
    have b4 : n4 ≤ 68719476736 := a8 (z4'.le (dZ (by have := HLOW.out.nq; rw [Int.natAbs_neg] at this; exact this))) (a8 hy.ln hl')
    have n38 : g3 ≠ g8 := by omega
    have n310 : g3 ≠ g10 := by omega
    have l10v : g10 < v4.heap.size := hb10'.lt
    have l8v : g8 < v4.heap.size := hb8''.lt
    clear k0 k1 k2 k3 k4 k5 k6 k7
    go_region_with (first
      | (go_at_call 66; ((with_reducible refine (AP (z3''.zi.ext (by repeat (first | exact Ext.refl _ | assumption | apply Ext.drewN | apply Ext.drew | apply Ext.alloc))) b3).mono ?_)); rintro e w5 ⟨s5, A5, n5, c5, rfl, z5, hx5⟩; have he5 : Ext v4 w5 := Ext.trans (by repeat (first | exact Ext.refl _ | assumption | apply Ext.drewN | apply Ext.drew | apply Ext.alloc)) hx5; obtain ⟨f1, f2, f3, f4⟩ := (hb8''.ext he5).two; obtain ⟨h1, h2, h3, h4⟩ := (hb10'.ext he5).two)
      | (go_at_call 66; (with_reducible refine (AP (z4'.zi.ext (by repeat (first | exact Ext.refl _ | assumption | apply Ext.drewN | apply Ext.drew | apply Ext.alloc))) b4).mono ?_); rintro e w6 ⟨s6, A6, n6, c6, rfl, z6, hx6⟩; have he6 : Ext v4 w6 := Ext.trans (by repeat (first | exact Ext.refl _ | assumption | apply Ext.drewN | apply Ext.drew | apply Ext.alloc)) hx6; obtain ⟨f1, f2, f3, f4⟩ := (hb8''.ext he6).two; obtain ⟨h1, h2, h3, h4⟩ := (hb10'.ext he6).two))
    all_goals
      clear f1 f2 f3 f4 h1 h2 h3 h4
      first
      | (obtain ⟨wb, hwb⟩ : ∃ wb, (((w6.setCell ⟨g8, 0, none⟩ (.bool s5)).setCell ⟨g8, 1, none⟩ (.slice A5 n5 c5)).setCell ⟨g10, 0, none⟩ (.bool s6)).setCell ⟨g10, 1, none⟩ (.slice A6 n6 c6) = wb := ⟨_, rfl⟩
         rw [hwb]
         have q8 : Bk wb g8 24 [.bool s5, we A5 n5 c5] := by rw [← hwb]; exact ((hb8''.ext he6).two_set _ _).two_far n810 _ _
         have q10 : Bk wb g10 24 [.bool s6, we A6 n6 c6] := by rw [← hwb]; exact ((hb10'.ext he6).two_far n108 _ _).two_set _ _
         have q3 : Bk wb g3 52 [AS, we none 0 0, AS, we none 0 0] := by rw [← hwb]; exact ((hb3'.ext he6).two_far n38 _ _).two_far n310 _ _
         have r5 : Zr wb v4.heap.size s5 A5 n5 c5 (-(x.tdiv (Int.gcd x y : Int))) := by rw [← hwb]; exact (((z5.ext hx6).mono (by first | exact aZ _ | exact he6.size)).upd l8v (Upd.two _ _)).upd l10v (Upd.two _ _)
         have r6 : Zr wb v4.heap.size s6 A6 n6 c6 (-(y.tdiv (Int.gcd x y : Int))) := by rw [← hwb]; exact (((z6).mono (by first | exact aZ _ | exact he5.size)).upd l8v (Upd.two _ _)).upd l10v (Upd.two _ _)
         have eb : Ext w wb := by rw [← hwb]; exact (Upd.two _ _).ext ((Upd.two _ _).ext (ev4.trans he6) (by omega)) (by omega)
         clear hwb)
      | (obtain ⟨wb, hwb⟩ : ∃ wb, (((w5.setCell ⟨g8, 0, none⟩ (.bool s5)).setCell ⟨g8, 1, none⟩ (.slice A5 n5 c5)).setCell ⟨g10, 0, none⟩ (.bool s6)).setCell ⟨g10, 1, none⟩ (.slice A6 n6 c6) = wb := ⟨_, rfl⟩
         rw [hwb]
         have q8 : Bk wb g8 24 [.bool s5, we A5 n5 c5] := by rw [← hwb]; exact ((hb8''.ext he5).two_set _ _).two_far n810 _ _
         have q10 : Bk wb g10 24 [.bool s6, we A6 n6 c6] := by rw [← hwb]; exact ((hb10'.ext he5).two_far n108 _ _).two_set _ _
         have q3 : Bk wb g3 52 [AS, we none 0 0, AS, we none 0 0] := by rw [← hwb]; exact ((hb3'.ext he5).two_far n38 _ _).two_far n310 _ _
         have r5 : Zr wb v4.heap.size s5 A5 n5 c5 (-(x.tdiv (Int.gcd x y : Int))) := by rw [← hwb]; exact (((z5).mono (by first | exact aZ _ | exact he6.size)).upd l8v (Upd.two _ _)).upd l10v (Upd.two _ _)
         have r6 : Zr wb v4.heap.size s6 A6 n6 c6 (-(y.tdiv (Int.gcd x y : Int))) := by rw [← hwb]; exact (((z6.ext hx5).mono (by first | exact aZ _ | exact he5.size)).upd l8v (Upd.two _ _)).upd l10v (Upd.two _ _)
         have eb : Ext w wb := by rw [← hwb]; exact (Upd.two _ _).ext ((Upd.two _ _).ext (ev4.trans he5) (by omega)) (by omega)
         clear hwb)
      obtain ⟨f1, f2, f3, f4⟩ := q8.two
      obtain ⟨h1, h2, h3, h4⟩ := q10.two
      obtain ⟨⟨k0, k1, k2, k3⟩, k4, k5, k6, k7⟩ := q3.four
      go_wp2_with fail
      refine fO (BU J J J (q3.four_set _ _ _ _)) J ?_
      exact ⟨_, _, HLOW, D8 (g := g3) r5 r6 eb 0⟩
  · have hyn : ¬ y < 0 := fun h => hneg (HC2.out.2 h)
    have hlow2 := hlow.out
    rw [if_neg hyn, if_neg hyn] at hlow2
    have HLOW := Lib.hid hlow2
    clear hlow2 hlow hyn
    go_wp2_with fail
    refine fO (BU J J J (hb3'.four_set _ _ _ _)) J ?_
    exact ⟨_, _, HLOW, D8 (g := g3) (base := v2.heap.size) z3'' (z4'.mono (by omega)) ev4 0⟩
theorem MA (w:a6)(t t':aS)(l l':List aM):∃g g2 wa,w.heap.size+1=g2∧w.heap.size=g∧(w.alloc (.cells l.toArray t)).alloc (.cells l'.toArray t')=wa∧Bk wa g t l∧Bk wa g2 t' l'∧Ext w wa∧g<g2∧g2<wa.heap.size∧g≠g2∧g2≠g:=
 ⟨_,_,_,rfl,rfl,rfl,(Bk.new w t l).alloc _,Bk.fr2,((Ext.refl w).alloc _).alloc _,by omega,by simp,by omega,by omega⟩
theorem MB (w:a6)(t:aS)(l:List aM):∃g wa,w.heap.size=g∧w.alloc (.cells l.toArray t)=wa∧Bk wa g t l∧Ext w wa∧g<wa.heap.size:=
 ⟨_,_,rfl,rfl,Bk.new w t l,(Ext.refl w).alloc _,by simp⟩
theorem Zr.eq_iff {t:Bool}{m:Nat}(hx:Zr w base s A n cap x)(hy:Zr w base' t B m cap' y):x=y↔(s=t∧wd x.natAbs=wd y.natAbs):=by
 constructor
 ·intro h;subst h;exact⟨hx.sgn.trans hy.sgn.symm,rfl⟩
 ·rintro⟨h1,h2⟩
  have e:=OK h2
  have f:decide (x<0)=decide (y<0):=by rw [←hx.sgn,←hy.sgn,h1]
  rw [←BI x,←BI y,e,f]
theorem vI {t:Bool}{m:Nat}(hx:Zr w base s A n cap x)(hl:n≤1099511627776)(hy:Zr w base' t B m cap' y)(hl':m≤1099511627776){b:Bool}(hb:b=decide (x=y)):aP aN 28 #[O s A n cap,O t B m cap'] w (sC b w):=by
 have HB:Hid (b=decide (s=t∧wd x.natAbs=wd y.natAbs)):=by
  show _=_
  rw [hb];congr 1;exact propext (hx.eq_iff hy)
 clear hb
 go_enter Tryz.func28,Tryz.ntmps28
 go_upto_region 1 with (fail)
 obtain⟨g,g2,wa,hg2,hg,hwa,hb1,hb2,hea,l12,l2,n12,n21⟩:=MA w 24 24 (a5 s A n cap) (a5 t B m cap')
 rw [hg2,hg,hwa]
 clear hwa hg hg2
 obtain⟨f1,f2,f3,f4⟩:=hb1.two
 obtain⟨h1,h2,h3,h4⟩:=hb2.two
 by_cases hst:s=t
 ·have bs:(s==t)=true:=by rw [hst];cases t <;> rfl
  have HST:=Lib.hid hst
  clear hst
  go_wp2_with fail
  refine (SG (hx.rd.ext hea) hl (hy.rd.ext hea) hl').mono ?_
  rintro e w1 ⟨rfl,hx1⟩
  have ed:decide (wd x.natAbs=wd y.natAbs)=b:=by
   rw [HB.out];congr 1;simp [HST.out]
  rw [ed]
  go_wp2_with fail
  go_ret
  exact⟨rfl,hea.trans hx1⟩
 ·have bs:(s==t)=false:=by cases s <;> cases t <;> simp_all
  obtain rfl:b=false:=by rw [HB.out];exact decide_eq_false (fun h=>hst h.1)
  clear hst HB
  go_wp2_with fail
  go_ret
  exact⟨rfl,hea⟩
theorem VH {s' t t':Bool}{B':Option aB}{m dap m' dap':Nat}{v:Int}(hx:Zr w base s A n cap x)(hl:n≤1099511627776)(hy:Zr w base s' A' n' cap' y)(hl':n'≤1099511627776)(hu:Zr w base' t B m dap u)(hk:m≤1099511627776)(hv:Zr w base' t' B' m' dap' v)(hk':m'≤1099511627776)(h1:x=u)(h2:y=v):aP aN 107 #[a9 s A n cap s' A' n' cap',a9 t B m dap t' B' m' dap'] w (sC true w):=by
 subst h1
 subst h2
 go_enter Tryz.func107,Tryz.ntmps107
 go_upto_region 1 with (fail)
 obtain⟨g,g2,wa,hg2,hg,hwa,hb1,hb2,hea,l12,l2,n12,n21⟩:=MA w 52 52 [.bool s,we A n cap,.bool s',we A' n' cap'] [.bool t,we B m dap,.bool t',we B' m' dap']
 rw [hg2,hg,hwa]
 clear hwa hg hg2
 obtain⟨⟨a0,a1,a2,a3⟩,a4⟩:=hb1.four
 obtain⟨⟨b0,b1,b2,b3⟩,b4⟩:=hb2.four
 go_wp2_with fail
 refine (vI (hx.ext hea) hl (hu.ext hea) hk (b:=true) (by simp)).mono ?_
 rintro e w1 ⟨rfl,hx1⟩
 clear a0 a1 a2 a3 a4 b0 b1 b2 b3 b4
 obtain⟨⟨a0,a1,a2,a3⟩,a4⟩:=(hb1.ext hx1).four
 obtain⟨⟨b0,b1,b2,b3⟩,b4⟩:=(hb2.ext hx1).four
 go_wp2_with fail
 refine (vI (hy.ext (hea.trans hx1)) hl' (hv.ext (hea.trans hx1)) hk' (b:=true) (by simp)).mono ?_
 rintro e w2 ⟨rfl,hx2⟩
 go_wp2_with fail
 go_ret
 exact⟨rfl,hea.trans (hx1.trans hx2)⟩
theorem Zr.lit (w:a6)(hv:v≤18446744073709551615)(h0:v≠0)(hz:z=sg s v):Zr (w.alloc (.cells #[up (v:Int)] 65)) w.heap.size s (some ⟨w.heap.size,0,none⟩) 1 1 z:=by
 have e:z.natAbs=v:=by rw [hz,lB]
 have f:wd v= [v]:=wY (by rw [cP];omega) h0
 refine⟨?_,?_,?_⟩
 ·rw [hz]
  cases s
  ·rw [lS];exact (decide_eq_false (by omega)).symm
  ·rw [sU];exact (decide_eq_true (by omega)).symm
 ·unfold ln;rw [e,f];rfl
 ·rw [e,f]
  exact Own.mk_ (aZ _) (Bk.new w 65 [up (v:Int)]) (aZ _) (by rw [eG];omega) J rfl
theorem JV (hv:v≤18446744073709551615)(h0:v≠0):aP aN 80 #[up (v:Int)] w (lR w (v:Int)):=by
 have bv:((v:Int)==0)=false:=by simp;omega
 go_enter Tryz.func80,Tryz.ntmps80
 go_upto_region 3 with (fail)
 obtain⟨g,wa,hg,hwa,hb1,hea,l2⟩:=MB w 24 (a5 false none 0 0)
 rw [hg,hwa]
 have hgw:w.heap.size≤g:=Nat.le_of_eq hg
 clear hwa hg
 have hlit:Zr (wa.alloc (.cells #[up (v:Int)] 65)) wa.heap.size false (some ⟨wa.heap.size,0,none⟩) 1 1 (v:Int):=Zr.lit wa hv h0 (lS v).symm
 have hb2:=hb1.alloc (.cells #[up (v:Int)] 65)
 obtain⟨wb,hwb⟩:∃wb,wa.alloc (.cells #[.int .u64 (v:Int)] 65)=wb:=⟨_,rfl⟩
 rw [hwb] at hlit hb2
 have heb:Ext w wb:=by rw [←hwb];exact hea.alloc _
 obtain⟨k1,k2,k3,k4⟩:=hb2.two
 go_wp2_with fail
 refine fO (lU J J (hb2.two_set _ _)) J ?_
 exact lL hb2 hlit heb
theorem Zi.six (w:a6):Zi (w.alloc (.cells #[up 6,up 0] 65)) true (some ⟨w.heap.size,0,none⟩) 2 2 (-6):=by
 refine⟨[6,0],?_,by decide⟩
 have h:Bk (w.alloc (.cells #[up 6,up 0] 65)) w.heap.size 65 ([6,0].map bF):=Bk.new w 65 [up 6,up 0]
 exact h.rd (o:=0) (n:=2) (cap:=2) (by intro x hx;simp at hx;rcases hx with rfl | rfl <;> decide) (aZ _) (by simp) (by rw [eG];omega)
theorem VI (w:a6):aP aN 21 #[] w (sC true w):=by
 go_enter Tryz.func21,Tryz.ntmps21
 go_wp2_with fail
 refine (JV (v:=4) (by omega) (by omega)).mono ?_
 rintro e w1 ⟨s1,A1,n1,c1,rfl,z1,hx1⟩
 have b1:n1≤1:=z1.le (by decide+kernel)
 go_wp2_with fail
 have h6:=Zi.six w1
 obtain⟨wc,hwc⟩:∃wc,w1.alloc (.cells #[.int .u64 6,.int .u64 0] 65)=wc:=⟨_,rfl⟩
 have hec:Ext w1 wc:=by rw [←hwc];exact (Ext.refl w1).alloc _
 rw [hwc] at h6⊢
 refine (KV (z1.zi.ext hec) (by omega) h6 (by omega) (by decide)).mono ?_
 rintro e w2 ⟨p,q,hlow,s8,A8,n8,c8,s9,A9,n9,c9,rfl,z8,z9,hx2⟩
 obtain⟨hp,hq⟩:p= -2∧q=3:=yA hlow.out.co (by decide) hlow.out.pos (by decide) (by have:=hlow.out.eq;omega)
 subst hp
 subst hq
 have b8:n8≤1:=z8.le (by decide+kernel)
 have b9:n9≤1:=z9.le (by decide+kernel)
 have e2:Ext w w2:=hx1.trans (hec.trans hx2)
 clear hwc hlow
 go_upto_region 2 with (fail)
 obtain⟨g,wb,hg,hwb,hb1,heb,l2⟩:=MB w2 52 [.bool s8,we A8 n8 c8,.bool s9,we A9 n9 c9]
 rw [hg,hwb]
 clear hwb hg
 have z8:=z8.ext heb
 have z9:=z9.ext heb
 have ewb:=e2.trans heb
 obtain⟨⟨a0,a1,a2,a3⟩,a4⟩:=hb1.four
 have hlit:Zr ((wb.alloc (.cells #[up 2] 65)).drew) wb.heap.size true (some ⟨wb.heap.size,0,none⟩) 1 1 (-2):=(Zr.lit wb (s:=true) (v:=2) (z:= -2) (by omega) (by omega) (by decide)).ext (aL.drew)
 go_region_held3 (fun w'=>w'.cell? ⟨g,0,none⟩=some (.bool s8)∧w'.cell? ⟨g,1,none⟩=some (we A8 n8 c8)∧w'.cell? ⟨g,2,none⟩=some (.bool s9)∧w'.cell? ⟨g,3,none⟩=some (we A9 n9 c9)) (go_keep)
  (first
  | (go_at_call 28;(with_reducible refine (vI (z8.ext (by repeat (first | exact Ext.refl _ | assumption | apply Ext.drewN | apply Ext.drew | apply Ext.alloc))) (by omega) hlit (by omega) (b:=true) (by decide)).mono ?_);rintro e w4 ⟨rfl,hx4⟩;have he4:Ext wb w4:=Ext.trans (by repeat (first | exact Ext.refl _ | assumption | apply Ext.drewN | apply Ext.drew | apply Ext.alloc)) hx4;clear a0 a1 a2 a3 a4;obtain⟨⟨a0,a1,a2,a3⟩,a4⟩:=(hb1.ext he4).four)
  | (go_at_call 80;refine (JV (v:=3) (by omega) (by omega)).mono ?_;rintro e w5 ⟨s5,A5,n5,c5,rfl,z5,hx5⟩;have he5:Ext wb w5:=Ext.trans (by repeat (first | exact Ext.refl _ | assumption | apply Ext.drewN | apply Ext.drew | apply Ext.alloc)) hx5;have b5:n5≤1:=z5.le (by decide+kernel);clear a0 a1 a2 a3 a4;obtain⟨⟨a0,a1,a2,a3⟩,a4⟩:=(hb1.ext he5).four)
  | (go_at_call 28;(with_reducible refine (vI (z9.ext (by repeat (first | exact Ext.refl _ | assumption | apply Ext.drewN | apply Ext.drew | apply Ext.alloc))) (by omega) z5 (by omega) (b:=true) (by simp)).mono ?_);rintro e w6 ⟨rfl,hx6⟩;have he6:Ext wb w6:=Ext.trans (by repeat (first | exact Ext.refl _ | assumption | apply Ext.drewN | apply Ext.drew | apply Ext.alloc)) hx6;clear a0 a1 a2 a3 a4;obtain⟨⟨a0,a1,a2,a3⟩,a4⟩:=(hb1.ext he6).four))
 go_wp2_with fail
 go_ret
 exact⟨rfl,ewb.trans (by repeat (first | exact Ext.refl _ | assumption | apply Ext.drewN | apply Ext.drew | apply Ext.alloc))⟩
end
section
def nd:List Int→Int×Int
 | []=>(1,0)
 | x::r=>(x*(nd r).1+(nd r).2,(nd r).1)
theorem v8 (x:Int)(r:List Int):(nd (x::r)).2=(nd r).1:=rfl
theorem xV (x:Int)(r:List Int):(nd (x::r)).1=x*(nd r).1+(nd r).2:=rfl
theorem xW (l:List Int):Int.gcd (nd l).1 (nd l).2=1:=by
 induction l with
 | nil=>rfl
 | cons x r ih=>
  rw [xV,v8,Int.gcd_comm]
  have:Int.gcd (nd r).1 (x*(nd r).1+(nd r).2)=Int.gcd (nd r).1 (nd r).2:=by simp
  rw [this];exact ih
theorem UA (l:List Int)(h:∀x∈l,0<x):0<(nd l).1∧0≤(nd l).2:=by
 induction l with
 | nil=>exact⟨by decide,by decide⟩
 | cons x r ih=>
  obtain⟨h1,h2⟩:=ih (fun y e=>h y (by simp [e]))
  rw [xV,v8]
  have:=Int.mul_pos (h x (by simp)) h1
  exact⟨by omega,by omega⟩
theorem UB (x:Int)(r:List Int)(h:∀y∈r,0<y):0<(nd (x::r)).2:=by
 rw [v8];exact (UA r h).1
end
section
open Go.RowKit
theorem Zl.elem {a:aB}(h:Zl w (some a) n cap zs ms)(hi:i<n):∃s B c,(∀w',Ext w w'→∀(P:bW) (T:aS),AggT P T 2→(loadVar T (a.add (i*2))).run P w'= .ok (.agg #[.bool s,we B (ms.getD i 0) c]) w')∧Zi w s B (ms.getD i 0) c (zs.getD i 0):=by
 obtain⟨a',s,B,c,p,h1,h2,f⟩:=h.get i hi
 cases p
 refine⟨s,B,c,fun w' e P T o=>yC o [.bool s,we B (ms.getD i 0) c] J (fun j q=>?_),f⟩
 rw [tU]
 match j,q with
 | 0,_=>exact e.cell h1
 | 1,_=>exact e.cell h2
theorem Zl.some (h:Zl w A n cap zs ms)(hn:0<n):∃a,A=some a:=by
 obtain⟨a,s,B,c,e,_⟩:=h.get 0 hn
 exact⟨a,e⟩
theorem pT:Tryz.prog.underlying 25=some (.slice 24):=by kernel_rfl
def FR (b:Nat)(p q:Int)(v:aM)(w:a6):Prop:=∃s A n c s' A' n' c',v= a9 s A n c s' A' n' c'∧Zr w b s A n c p∧Zr w b s' A' n' c' q
theorem FR.imp {p:Int}(hb:b≤b')(v:aM)(w:a6)(h:FR b' p q v w):FR b p q v w:=by
 obtain⟨s,A,n,c,s',A',n',c',rfl,h1,h2⟩:=h
 exact⟨s,A,n,c,s',A',n',c',rfl,h1.mono hb,h2.mono hb⟩
theorem K9 {p er:Int}(hb:b≤w.heap.size)(e:dL)(w':a6)(h:zR w p q er e w'):Gv w (T2 (FR b p q) (Is (no er))) e w':=by
 obtain⟨s,A,n,c,s',A',n',c',rfl,h1,h2,f⟩:=h
 exact⟨_,rfl,⟨_,_,rfl,⟨s,A,n,c,s',A',n',c',rfl,h1.mono hb,h2.mono hb⟩,rfl⟩,f⟩
theorem D5 (hb:b≤w.heap.size){t:Bool}{m:Nat}(hy:Zi w t B m cap' y)(hl':m≤68719476736)(h0:y=0):aP aN 79 #[O s A n cap,O t B m cap'] w (Gv w (T2 (FR b 0 0) (Is (no 4)))):=(XK hy hl' h0).mono (K9 hb)
theorem D6 (hb:b≤w.heap.size){t:Bool}{m:Nat}(hx:Zi w s A n cap x)(hl:n≤68719476736)(hy:Zi w t B m cap' y)(hl':m≤68719476736)(h0:y≠0):aP aN 79 #[O s A n cap,O t B m cap'] w (fun e w'=>∃p q,Low p q x y∧Gv w (T2 (FR b p q) (Is (no 0))) e w'):=
 (KV hx hl hy hl' h0).mono fun e w' h=>by
  obtain⟨p,q,h1,h2⟩:=h
  exact⟨p,q,h1.out,K9 hb e w' h2⟩
theorem KS (hb:b≤w.heap.size){t:Bool}{m:Nat}(hx:Zi w s A n cap x)(hl:n≤68719476736)(hy:Zi w t B m cap' y)(hl':m≤68719476736)(h0:0<y)(hg:Int.gcd x y=1):aP aN 79 #[O s A n cap,O t B m cap'] w (Gv w (T2 (FR b x y) (Is (no 0)))):=
 (D6 hb hx hl hy hl' (by omega)).mono fun e w' h=>by
  obtain⟨p,q,h1,h2⟩:=h
  obtain⟨rfl,rfl⟩:=yA h1.co hg h1.pos h0 h1.eq
  exact h2
theorem JK:∀(zs:List Int) (ms:List Nat),zs.length=ms.length→(∀i,i<zs.length→ln (zs.getD i 0)≤ms.getD i 0)→ln (nd zs).1≤ms.sum+zs.length+1∧ln (nd zs).2≤ms.sum+zs.length
 | [],[],_,_=>by
  constructor
  ·exact (by decide+kernel:ln 1≤1)
  ·exact (by decide+kernel:ln 0≤0)
 | [],_::_,h,_=>by simp at h
 | _::_,[],h,_=>by simp at h
 | x::r,m::ms,h,hl=>by
  obtain⟨h1,h2⟩:=JK r ms (by simpa using h) (fun i hi=>by have:=hl (i+1) (by simpa using hi);simpa using this)
  have h0:=hl 0 (by simp)
  simp only [List.getD_cons_zero] at h0
  rw [xV,v8]
  simp only [List.sum_cons,eN]
  constructor
  ·refine a8 (dN (cK h0 h1) h2) ?_
   omega
  ·omega
theorem Zl.ln (h:Zl w A n cap zs ms)(i:Nat)(hi:i<n):Go.Proofs.YtkepckmdjncehaaGreatDoor.ln (zs.getD i 0)≤ms.getD i 0:=by
 obtain⟨a,s,B,c,_,_,_,e⟩:=h.get i hi
 exact e.ln
theorem V7 (h:Zl w A n cap zs ms)(k:Nat)(hl:n≤1048576)(hs:ms.sum≤1048576):ln (nd (zs.drop k)).1≤2097153∧ln (nd (zs.drop k)).2≤2097153:=by
 have e:(ms.drop k).sum≤ms.sum:=by
  have:ms.sum=(ms.take k).sum+(ms.drop k).sum:=by rw [←List.sum_append,List.take_append_drop]
  omega
 have:=JK (zs.drop k) (ms.drop k) (by rw [gO,gO,h.len,h.mlen]) (fun i hi=>by
  rw [gO,h.len] at hi
  have:=h.ln (k+i) (by omega)
  simpa [bK,List.getElem?_drop] using this)
 have f:(zs.drop k).length≤n:=by rw [gO,h.len];omega
 omega
theorem rS (h:i<zs.length:=by omega):zs.drop i=zs.getD i 0::zs.drop (i+1):=by
 rw [nW h,bK,cC h];rfl
end
section
structure RecI (m r x y t u:Int):Prop where
 y0:0≤y
 yx:y<x
 xm:x≤m
 cx:m∣x-t*r
 cy:m∣y-u*r
 det:x.natAbs*u.natAbs+y.natAbs*t.natAbs=m.natAbs
 sg:t*u≤0
 u0:u≠0
 tb:t.natAbs≤m.natAbs
theorem RecI.init (hm:0<m):RecI m r m.natAbs (r%m) 0 1:=by
 have e:(m.natAbs:Int)=m:=by omega
 rw [e]
 refine⟨Int.emod_nonneg _ (by omega),Int.emod_lt_of_pos _ hm,Int.le_refl _,by simp,?_,by simp,by decide,by decide,by simp⟩
 have:=Int.mul_ediv_add_emod r m
 refine⟨-(r/m),?_⟩
 rw [Int.mul_neg]
 omega
theorem RecI.step {t:Int}(h:RecI m r x y t u)(hy:0<y):RecI m r y (x.tmod y) u (t-x.tdiv y*u):=by
 have hx:0≤x:=by have:=h.yx;omega
 have e:=Int.tdiv_mul_add_tmod x y
 have nn:=Int.tmod_nonneg y hx
 have p:0≤x.tdiv y:=Int.tdiv_nonneg hx h.y0
 have o:x.tmod y<y:=Int.tmod_lt_of_pos _ hy
 have f:=UI h.sg p
 have D:1≤x.tdiv y:=by
  refine Classical.byContradiction (fun _=>?_)
  have h0:x.tdiv y=0:=by omega
  rw [h0,Int.zero_mul,Int.zero_add] at e
  have:=h.yx
  omega
 refine⟨nn,o,by have:=h.yx;have:=h.xm;omega,h.cy,?_,?_,?_,?_,?_⟩
 ·have E:x.tmod y-(t-x.tdiv y*u)*r=(x-t*r)-x.tdiv y*(y-u*r):=by
   have:x.tmod y=x-x.tdiv y*y:=by omega
   rw [this];grind
  rw [E]
  exact Int.dvd_sub h.cx (Int.dvd_mul_of_dvd_right h.cy)
 ·rw [f,←h.det]
  have G:x.natAbs=(x.tdiv y).natAbs*y.natAbs+(x.tmod y).natAbs:=by
   rw [←Int.natAbs_mul,←Int.natAbs_add_of_nonneg (Int.mul_nonneg p h.y0) nn,e]
  rw [G]
  grind
 ·have F:u*(t-x.tdiv y*u)=t*u-x.tdiv y*(u*u):=by grind
  rw [F]
  have h1:0≤u*u:=by
   rcases Int.le_total 0 u with h | h
   ·exact Int.mul_nonneg h h
   ·exact Int.mul_nonneg_of_nonpos_of_nonpos h h
  have:=Int.mul_nonneg p h1
  have:=h.sg
  omega
 ·intro h0
  rw [h0] at f
  have h1:0<u.natAbs:=by have:=h.u0;omega
  have h2:0<(x.tdiv y).natAbs:=by omega
  have q:=Nat.mul_pos h2 h1
  rw [Int.natAbs_zero] at f
  omega
 ·have h1:=h.det
  have h2:1≤x.natAbs:=by have:=h.yx;omega
  have q:u.natAbs≤x.natAbs*u.natAbs:=Nat.le_mul_of_pos_left _ h2
  omega
end
section
open Go.RowKit
theorem RecI.ln_x {t:Int}(h:RecI m r x y t u):ln x≤ln m:=dZ (by have:=h.xm;have:=h.yx;have:=h.y0;omega)
theorem RecI.ln_y {t:Int}(h:RecI m r x y t u):ln y≤ln m:=dZ (by have:=h.xm;have:=h.yx;have:=h.y0;omega)
theorem RecI.ln_u {t:Int}(h:RecI m r x y t u)(_:0<m):ln u≤ln m:=dZ (by
 have h1:=h.det
 have h2:1≤x.natAbs:=by have:=h.yx;have:=h.y0;omega
 have e:u.natAbs≤x.natAbs*u.natAbs:=Nat.le_mul_of_pos_left _ h2
 omega)
theorem RecI.ln_t {t:Int}(h:RecI m r x y t u)(_:0<m):ln t≤ln m:=dZ h.tb
theorem GU:∀X:Nat,∃r,IsRoot X 2 r
 | 0=>⟨0,by decide,by decide⟩
 | X+1=>by
  obtain⟨r,h1,h2⟩:=GU X
  by_cases h:X+1<(r+1)^2
  ·exact⟨r,by omega,h⟩
  ·refine⟨r+1,by omega,?_⟩
   have f:(r+1)^2=(r+1)*(r+1):=Nat.pow_two _
   have e:(r+1+1)^2=(r+1)*(r+1)+2*(r+1)+1:=by rw [Nat.pow_two];grind
   omega
noncomputable def GT (X:Nat):Nat:= @Classical.epsilon Nat ⟨0⟩ (IsRoot X 2)
theorem GS (X:Nat):IsRoot X 2 (GT X):= @Classical.epsilon_spec_aux Nat ⟨0⟩ (IsRoot X 2) (GU X)
noncomputable def rK (m:Int):Nat:=GT ((m.natAbs-1)/2)
theorem I2 (hm:0<m)(hX:X=(m.natAbs-1)/2)(h:IsRoot X 2 k):k=rK m:=by
 subst hX;exact IsRoot.uniq h (GS _)
theorem VZ (hm:0<m):Int.natAbs ((m-1).tdiv 2)=(m.natAbs-1)/2:=by
 rw [Int.natAbs_tdiv]
 show (m-1).natAbs/2=_
 congr 1
 omega
theorem W0 (hm:0<m):Int.natAbs ((m-1)/2)=(m.natAbs-1)/2:=by omega
theorem SO (hm:0<m):rK m≤m.natAbs:=by
 have:=(GS ((m.natAbs-1)/2)).le_self (by decide)
 unfold rK;omega
theorem pK (hm:0<m)(h:ln m≤N):ln ((rK m:Nat):Int)≤N:=a8 (dZ (by have:=SO hm;omega)) h
def hJ (k:Nat):Nat→Int→Int→Int→Int→Int×Int
 | 0,_,y,_,u=>(y,u)
 | f+1,x,y,t,u=>if (k:Int)<y then hJ k f y (x.tmod y) u (t-x.tdiv y*u) else (y,u)
theorem I1 (k:Nat):∀(f g:Nat) (x y t u:Int),0≤x→0≤y→y.toNat≤f→y.toNat≤g→hJ k f x y t u=hJ k g x y t u
 | 0,0,_,_,_,_,_,_,_,_=>rfl
 | 0,g+1,x,y,t,u,_,h0,h1,_=>by
  rw [hJ,hJ,if_neg (by omega)]
 | f+1,0,x,y,t,u,_,h0,_,h2=>by
  rw [hJ,hJ,if_neg (by omega)]
 | f+1,g+1,x,y,t,u,hx,h0,h1,h2=>by
  rw [hJ,hJ]
  split
  ·rename_i hk
   have ha:0≤x.tmod y:=Int.tmod_nonneg y hx
   have hb:=kL (x:=x) (y:=y) (by omega)
   exact I1 k f g y (x.tmod y) u _ h0 ha (by omega) (by omega)
  ·rfl
theorem HU {t:Int}{p:Int×Int}(hx:0≤x)(hy:(k:Int)<y)(h:hJ k y.toNat x y t u=p):hJ k (x.tmod y).toNat y (x.tmod y) u (t-x.tdiv y*u)=p:=by
 obtain⟨j,f⟩:∃j,y.toNat=j+1:=⟨y.toNat-1,by omega⟩
 have e:0≤x.tmod y:=Int.tmod_nonneg y hx
 have hb:=kL (x:=x) (y:=y) (by omega)
 rw [f,hJ,if_pos hy] at h
 rw [←h]
 exact I1 k _ _ _ _ _ _ (by omega) e (aZ _) (by omega)
theorem HW {t:Int}{p:Int×Int}(hy:¬(k:Int)<y)(h:hJ k y.toNat x y t u=p):p=(y,u):=by
 rw [←h]
 cases y.toNat with
 | zero=>rfl
 | succ j=>rw [hJ,if_neg hy]
noncomputable def mM (m r:Int):Int×Int:=hJ (rK m) (r%m).toNat m (r%m) 0 1
noncomputable def iP (m r:Int):Int×Int:=if (mM m r).2<0 then (-(mM m r).1,-(mM m r).2) else mM m r
theorem HJ (h:mM m r=(y,u))(hu:u<0):iP m r=(-y,-u):=by unfold iP;rw [h,if_pos hu]
theorem HH (h:mM m r=(y,u))(hu:¬u<0):iP m r=(y,u):=by unfold iP;rw [h,if_neg hu]
def qZ (m k y u:Int):Prop:=¬k<u∧Int.gcd y u=1∧Int.gcd u m=1
instance (m k y u:Int):Decidable (qZ m k y u):=by unfold qZ;infer_instance
noncomputable def kB (m r:Int):Int:=if 0<m∧qZ m (rK m) (iP m r).1 (iP m r).2 then (iP m r).1 else 0
noncomputable def kC (m r:Int):Int:=if 0<m∧qZ m (rK m) (iP m r).1 (iP m r).2 then (iP m r).2 else 0
noncomputable def j9 (m r:Int):Int:=if 0<m then if qZ m (rK m) (iP m r).1 (iP m r).2 then 0 else 6 else 3
theorem HC (h:¬0<m):kB m r=0∧kC m r=0∧j9 m r=3:=by
 unfold kB kC j9
 rw [if_neg (fun e=>h e.1),if_neg (fun e=>h e.1),if_neg h];exact⟨rfl,rfl,rfl⟩
theorem t8 (hm:0<m)(hs:iP m r=(y,u))(h:¬qZ m (rK m) y u):kB m r=0∧kC m r=0∧j9 m r=6:=by
 unfold kB kC j9
 rw [hs,if_neg (fun e=>h e.2),if_neg (fun e=>h e.2),if_pos hm,if_neg h];exact⟨rfl,rfl,rfl⟩
theorem HA (hm:0<m)(hs:iP m r=(y,u))(h:qZ m (rK m) y u):kB m r=y∧kC m r=u∧j9 m r=0:=by
 unfold kB kC j9
 rw [hs,if_pos ⟨hm,h⟩,if_pos ⟨hm,h⟩,if_pos hm,if_pos h];exact⟨rfl,rfl,rfl⟩
theorem SN (hm:0<m):hJ (rK m) (r%m).toNat (m.natAbs:Int) (r%m) 0 1=mM m r:=by unfold mM;rw [show (m.natAbs:Int)=m by omega]
theorem RecI.init8 (hm:0<m):RecI m r m (r%m) 0 1:=by
 have h:=RecI.init (r:=r) hm
 rw [show (m.natAbs:Int)=m by omega] at h;exact h
theorem RecI.x0 {t:Int}(h:RecI m r x y t u):0≤x:=by have:=h.y0;have:=h.yx;omega
theorem V4 (h:ln x≤N):ln (x.tdiv y)≤N:=a8 (dZ (by rw [Int.natAbs_tdiv];exact fH _ _)) h
theorem V3 (hy:y≠0)(h:ln y≤N):ln (x.tmod y)≤N:=a8 (dZ (Nat.le_of_lt (kL (x:=x) hy))) h
theorem XX {na ca:Nat}{nb cb:Nat}(hb:b≤w.heap.size)(hr:Zi w sa Aa na ca r)(la:na≤4194304)(hm:Zi w sb Ab nb cb m)(lb:nb≤4194304):aP aN 106 #[O sa Aa na ca,O sb Ab nb cb] w (Gv w (T2 (FR b (kB m r) (kC m r)) (Is (no (j9 m r))))):=by
 refine Calls.mono (R:=Gv w (T2 (FR w.heap.size (kB m r) (kC m r)) (Is (no (j9 m r))))) ?_ (Gv.imp (T2.imp (FR.imp hb) Is.imp))
 have Lr:ln r≤4194304:=a8 hr.ln la
 have Lm:ln m≤4194304:=a8 hm.ln lb
 refine bN Tryz.func106 J (n:=103) J (bq J) (args:= [O sa Aa na ca,O sb Ab nb cb]) (bG [(0,O sa Aa na ca),(1,O sb Ab nb cb)] ⟨rfl,rfl,AT⟩ (sr (bx (a5 sa Aa na ca) (Ext.refl w) J J J fun g1 _ qr _ _ ge=>(fG (a5 sb Ab nb cb) ge qr.lt J J J fun g6 _ gc _ _ e8 fk=>(bL [F0,S0,F0,S0] fk gc.lt (fun _=>by kernel_rfl) J fun fa _ ic ga _ fx da=>(mv 1 J (a7 (aD (aD ?_)))))))))
 by_cases dr:0<m
 ·refine aF (lo aA (gc.ext fx) (a5 sb Ab nb cb) J J J (cl (vs:= [O sb Ab nb cb]) da (iE (hm.ext da) (aK lb J)) J (by kernel_rfl) fun _ yg Dj fj H=>?_))
  obtain rfl:=Dj
  refine aI J J J false (BL dr) (a7 (aQ J (aY (aO (aD ?_)))))
  have im:ln (m-1)≤4194305:=a8 (jT Lm (show ln (1)≤1 by decide+kernel)) (by decide)
  have As:ln (((m-1)).tdiv 2)≤4194305:=a8 (iW _ _) im
  have Eg:ln (((m-1)).tmod 2)≤4194305:=a8 (rG _ _) im
  refine yZ bY 11 [6,7,8] [9,10] [Is (O sb Ab nb cb),ZR w.heap.size (1),ZR w.heap.size (m-1),ZR w.heap.size (2),T3 (ZR w.heap.size ((m-1).tdiv 2)) (ZR w.heap.size ((m-1).tmod 2)) (Is (no 0)),T3 (ZR w.heap.size ((m-1).tdiv 2)) (ZR w.heap.size ((m-1).tmod 2)) (Is (no 0)),ZR w.heap.size ((m-1).tdiv 2),ZR w.heap.size ((m-1).tmod 2),Is (no 0),PR yg.heap.size 24 [F0,S0],PR yg.heap.size 24 [F0,S0]] [[],[],[0,1],[],[2,3],[4],[5],[5],[5],[],[]] [[],[],[0,1],[0,1,2],[0,1,2,3],[0,1,2,3,4],[0,1,2,3,4,5],[0,1,2,3,4,5],[0,1,2,3,4,5],[],[],[0,1,2,3,4,5,6,9,10],[0,1,2,3,4,5,6,7,9,10,11],[0,1,2,3,4,5,6,7,8,9,10,11,12]] J J ⟨fun _ _ h=>PR.old h,fun _ _ h=>PR.old h,AT⟩
   (aH J J (aE J J ?_) (aH J J (aE J J ?_) (aH J J (aE J J ?_) (aH J J (aE J J ?_) (aH J J (aE J J ?_) (aH J J (aE J J ?_) (fD J J (fE J ?_) (fD J J (fE J ?_) (fD J J (fE J ?_) (aH J J (tK J ?_) (aH J J (tK J ?_) d9))))))))))) ?_
  ·exact fun _ Dm=>aC (lo aA (gc.ext (fx.t (fj.t Dm))) (a5 sb Ab nb cb) J J J (aG J aL J))
  ·intro _ Ct
   have D:=H.trans Ct
   refine aC (cl (vs:= [no 1]) D (kE D.size (by decide) (by decide)) J (by kernel_rfl) fun _ _ Da Bx W=>?_)
   obtain⟨_,_,_,_,rfl,Ci⟩:=Da
   exact aG J Bx ⟨_,_,_,_,rfl,Ci⟩
  ·intro _ Cs
   have D:=H.trans Cs
   refine dk J J (aT J J fun _ _ Dh _ Cb=>?_)
   obtain⟨Bv,Cf,Cg,Dn,rfl,kk⟩:=Dh
   have kk:=kk.ext Cb
   refine aC ?_
   have Ei:ln (m-1)≤4194305:=a8 (jT Lm (show ln (1)≤1 by decide+kernel)) (by decide)
   refine cl (vs:= [O sb Ab nb cb,O Bv Cf Cg Dn]) D (yJ D.size (hm.ext D) (aK lb J) kk.zi (kk.le (a8 (show ln (1)≤1 by decide+kernel) (by decide)))) J (by kernel_rfl) fun _ _ Ca Cd W=>?_
   obtain⟨_,_,_,_,rfl,De⟩:=Ca
   exact aG J Cd ⟨_,_,_,_,rfl,De⟩
  ·intro _ Db
   have D:=H.trans Db
   refine aC (cl (vs:= [no 2]) D (kE D.size (by decide) (by decide)) J (by kernel_rfl) fun _ _ Cl Cm W=>?_)
   obtain⟨_,_,_,_,rfl,Dl⟩:=Cl
   exact aG J Cm ⟨_,_,_,_,rfl,Dl⟩
  ·intro _ Dc
   have D:=H.trans Dc
   refine aT J J fun _ _ Cu _ Cy=>?_
   obtain⟨Dd,Ce,Cr,Dg,rfl,ks⟩:=Cu
   have ks:=ks.ext Cy
   refine aT J J fun _ _ Df _ Bw=>?_
   obtain⟨Cj,Co,Cn,Ch,rfl,kp⟩:=Df
   have kp:=kp.ext Bw
   refine aC ?_
   have Ej:ln (((m-1)).tdiv 2)≤4194305:=a8 (iW _ _) im
   have Eh:ln (((m-1)).tmod 2)≤4194305:=a8 (rG _ _) im
   refine cl (vs:= [O Dd Ce Cr Dg,O Cj Co Cn Ch]) D (D0 D.size ks.zi (ks.le (aK im J)) kp.zi (kp.le (a8 (show ln (2)≤1 by decide+kernel) (by decide))) (by decide)) J (by kernel_rfl) fun _ _ Cw Dk W=>?_
   obtain⟨_,_,_,rfl,⟨_,_,_,_,rfl,Ck⟩,⟨_,_,_,_,rfl,Cp⟩,rfl⟩:=Cw
   exact aG J Dk ⟨_,_,_,rfl,⟨_,_,_,_,rfl,Ck⟩,⟨_,_,_,_,rfl,Cp⟩,rfl⟩
  ·intro _ _
   refine aT J J fun _ _ Di _ xo=>?_
   obtain⟨_,_,_,rfl,⟨_,_,_,_,rfl,ta⟩,⟨_,_,_,_,rfl,qp⟩,rfl⟩:=Di
   have ta:=ta.ext xo
   have qp:=qp.ext xo
   refine aC (mv 1 J ?_)
   exact aG J aL ⟨_,_,_,rfl,⟨_,_,_,_,rfl,ta⟩,⟨_,_,_,_,rfl,qp⟩,rfl⟩
  ·intro _ _
   refine aT J J fun _ _ vg _ kv=>?_
   obtain⟨_,_,_,rfl,⟨Bh,vh,vw,yj,rfl,jp⟩,⟨_,_,_,_,rfl,oa⟩,rfl⟩:=vg
   have jp:=jp.ext kv
   have oa:=oa.ext kv
   refine aC ?_
   exact⟨O Bh vh vw yj,rfl,rfl,fun _=>by kernel_rfl,⟨_,_,_,_,rfl,jp⟩⟩
  ·intro _ _
   refine aT J J fun _ _ Bj _ nz=>?_
   obtain⟨_,_,_,rfl,⟨_,_,_,_,rfl,nc⟩,⟨Aw,wp,yh,Ac,rfl,ig⟩,rfl⟩:=Bj
   have nc:=nc.ext nz
   have ig:=ig.ext nz
   refine aC ?_
   exact⟨O Aw wp yh Ac,rfl,rfl,fun _=>by kernel_rfl,⟨_,_,_,_,rfl,ig⟩⟩
  ·intro _ _
   refine aT J J fun _ _ wu _ nw=>?_
   obtain⟨_,_,_,rfl,⟨_,_,_,_,rfl,ny⟩,⟨_,_,_,_,rfl,mj⟩,rfl⟩:=wu
   have ny:=ny.ext nw
   have mj:=mj.ext nw
   refine aC ?_
   exact⟨no 0,rfl,rfl,fun _=>by kernel_rfl,rfl⟩
  ·intro _ yz
   refine aC (iH J (z:= .agg #[F0,S0]) (vs:= [F0,S0]) (fun _=>by kernel_rfl) J fun _ _ nb=>?_)
   exact aG J nb.ext ⟨⟨_,rfl,by rw [←nb.at_];exact yz.size,nb.bk⟩,_,rfl,Nat.le_of_eq nb.at_⟩
  ·intro _ va
   refine aC (iH J (z:= .agg #[F0,S0]) (vs:= [F0,S0]) (fun _=>by kernel_rfl) J fun _ _ nb=>?_)
   exact aG J nb.ext ⟨⟨_,rfl,by rw [←nb.at_];exact va.size,nb.bk⟩,_,rfl,Nat.le_of_eq nb.at_⟩
  ·intro _ em
   have D:=H.trans em
   refine dk J J (aT J J fun _ _ xz _ zf=>?_)
   obtain⟨_,_,_,_,rfl,li⟩:=xz
   have li:=li.ext zf
   refine aT J J fun _ _ xh _ yt=>?_
   obtain⟨_,_,_,_,rfl,lu⟩:=xh
   have lu:=lu.ext yt
   refine aT J J fun _ _ zd _ zw=>?_
   obtain⟨_,_,_,_,rfl,og⟩:=zd
   have og:=og.ext zw
   refine aT J J fun _ _ Bi _ om=>?_
   obtain⟨_,_,_,rfl,⟨_,_,_,_,rfl,oq⟩,⟨_,_,_,_,rfl,mw⟩,rfl⟩:=Bi
   have oq:=oq.ext om
   have mw:=mw.ext om
   refine aT J J fun _ _ yv _ mu=>?_
   obtain⟨_,_,_,rfl,⟨_,_,_,_,rfl,mp⟩,⟨_,_,_,_,rfl,lh⟩,rfl⟩:=yv
   have mp:=mp.ext mu
   have lh:=lh.ext mu
   refine aT J J fun _ _ xa _ ww=>?_
   obtain⟨uw,oh,mf,lj,rfl,gr⟩:=xa
   have gr:=gr.ext ww
   refine aT J J fun _ _ xy _ zj=>?_
   obtain⟨xj,Ax,xp,zo,rfl,nm⟩:=xy
   have nm:=nm.ext zj
   refine dk J J (aT J J fun _ _ vi _ zk=>?_)
   obtain⟨fz,rfl,fc,fb⟩:=vi
   have fb:=fb.ext zk
   have Ee:fa<fz:=dJ (ic.ext fj).lt fc
   have fc:w.heap.size≤fz:=a8 H.size fc
   refine aT J J fun _ _ vu _ xx=>?_
   obtain⟨ib,rfl,fh,gf⟩:=vu
   have gf:=gf.ext xx
   have Ea:fa<ib:=dJ (ic.ext fj).lt fh
   have fh:w.heap.size≤ib:=a8 H.size fh
   refine aC ?_
   intro il
   have Dp:ib≠fz:=fun e=>il 10 (by decide) 9 (by decide) (by decide) _ _ J J _ J (by rw [e];rfl)
   clear il
   refine so aA fb (a5 uw oh mf lj) D fc J J J J fun _ jq ef W=>?_
   have jz:=(gf.vN ef)
   refine so aA jz (a5 xj Ax xp zo) W fh J J J J fun _ pe dh kt=>(mv 1 J (aX (dC (aO (sr (pf fz 1 J (bB J J (bM dS (jq.vN dh) J) (dQ J J (vs:= [we oh mf lj]) (by kernel_rfl) (by decide) (XB kt.size ((gr.updT fb ef).updT jz dh).zi.wi (gr.le (aK As J))) ?_))))))))
   rintro _ _ ⟨_,vc,_,rfl,za,dl⟩
   obtain rfl:=I2 dr (VZ dr) vc
   have L229a:(wd (rK m)).length≤4194305:=by have h:=pK dr Lm;rw [kP] at h;exact a8 h (by decide)
   have L229b:(wd (Int.natAbs ((m-1).tdiv 2)-(rK m)*(rK m))).length≤4194305:=a8 (gK (Nat.sub_le _ _)) As
   refine dR ?_
   have kr:=kt.trans dl
   obtain⟨_,_,rfl,⟨F,G,I,rfl,xq,yu⟩,⟨xb,xf,zy,rfl,_,_⟩⟩:=za
   refine mv 1 J (pu (v:= we F G I) J (pu (v:= we xb xf zy) J (mv 2 J (a7 (sr (mv 1 J (pu (v:= .agg #[F0,we F G I]) J (iH J (z:= .agg #[F0,S0]) (vs:= [F0,S0]) (fun _=>by kernel_rfl) J fun bu _ nb=>?_))))))))
   have ja:=nb.bk
   have py:w.heap.size≤bu:=by rw [←nb.at_];exact kr.size
   have Ed:fz<bu:=by rw [←nb.at_];exact ((jq.vN dh).ext dl).lt
   have Dy:ib<bu:=by rw [←nb.at_];exact (pe.ext dl).lt
   have el:=nb.ext
   clear nb
   have pd:=kr.trans el
   refine so aA ja [F0,we F G I] pd py J J J J fun _ ij en ez=>(a7 (sr (lo aA (((((gc.ext (fx.t (fj.t em))).vN ef).vN dh).ext (dl.t el)).vN en) (a5 sb Ab nb cb) J J J ?_)))
   have Ef:ln ((Int.natAbs m:Int))≤4194304:=(by rw [tG];exact Lm)
   refine cl (vs:= [O sb Ab nb cb]) ez (WG ez.size (hm.ext ez) (aK lb J)) J (by kernel_rfl) fun _ _ ya dz cm=>?_
   obtain⟨oi,oe,nt,nl,rfl,yb⟩:=ya
   refine cl (vs:= [I0]) cm (kE cm.size (by decide) (by decide)) J (by kernel_rfl) fun _ _ An df fy=>?_
   obtain⟨lk,mb,lm,lv,rfl,Au⟩:=An
   refine bL [F0,S0] fy (ij.ext (dz.t df)).lt (fun _=>by kernel_rfl) J fun fw _ ji jt _ de je=>(bL [F0,S0] je ji.lt (fun _=>by kernel_rfl) J fun gb _ uq ik _ cj vn=>?_)
   have fp:=(ji.ext cj)
   refine so aA fp (a5 oi oe nt nl) vn jt J J J J fun _ qi ct vt=>?_
   have fv:=(uq.vN ct)
   refine so aA fv (a5 lk mb lm lv) vt ik J J J J fun _ jd cv ia=>(a7 (sr (lo aA ((((((((qr.ext (e8.t (fx.t (fj.t em)))).vN ef).vN dh).ext (dl.t el)).vN en).ext (dz.t (df.t (de.t cj)))).vN ct).vN cv) (a5 sa Aa na ca) J J J (lo aA ((((((((gc.ext (fx.t (fj.t em))).vN ef).vN dh).ext (dl.t el)).vN en).ext (dz.t (df.t (de.t cj)))).vN ct).vN cv) (a5 sb Ab nb cb) J J J ?_))))
   have Ds:ln (r%m)≤4194304:=a8 (rH) Lm
   refine cl (vs:= [O sa Aa na ca,O sb Ab nb cb]) ia (WA ia.size (hr.ext ia) (aK la J) (hm.ext ia) (aK lb J) (by omega)) J (by kernel_rfl) fun _ _ wk cp yq=>?_
   obtain⟨_,_,rfl,⟨iv,kd,ke,ie,rfl,yc⟩,rfl⟩:=wk
   refine mv 1 J (pu (v:= O iv kd ke ie) J (pu (v:= no 0) J (bL [F0,S0] yq (jd.ext cp).lt (fun _=>by kernel_rfl) J fun ej _ ew gj _ cu yd=>(so aA ew (a5 iv kd ke ie) yd gj J J J J fun _ iy ck nj=>(mv 1 J (a7 (sr (cl (vs:= [no 1]) nj (kE nj.size (by decide) (by decide)) J (by kernel_rfl) fun _ _ yl bf Bm=>?_))))))))
   obtain⟨mr,my,ll,mx,rfl,xr⟩:=yl
   refine bL [F0,S0] Bm (iy.ext bf).lt (fun _=>by kernel_rfl) J fun ei _ dx gn _ az vm=>(so aA dx (a5 mr my ll mx) vm gn J J J J fun xe uo ba yi=>(a7 (aD (bO ?_))))
   refine d8 (T:=a6×Int×Int×Int×Int×ZC×ZC×ZC×ZC)
    (fun⟨wr,x,y,t,u,k0,k1,k2,f⟩=> [(2,i5 g1 0),(3,i5 g6 0),(4,i5 fa 0),(5,no 0),(11,i5 bu 0),(12,i5 fw 0),(13,i5 gb 0),(14,i5 ej 0),(16,i5 ei 0)])
    (fun⟨wr,x,y,t,u,k0,k1,k2,f⟩=>wr)
    (fun⟨wr,x,y,t,u,k0,k1,k2,f⟩=>(Ext w wr)∧(RecI m r x y t u)∧(hJ (rK m) y.toNat x y t u=mM m r)∧(Bk wr g1 24 (a5 sa Aa na ca))∧(Bk wr g6 24 (a5 sb Ab nb cb))∧(Bk wr fa 52 [F0,S0,F0,S0])∧(Bk wr bu 24 [F0,we F G I])∧(Bk wr fw 24 (a5 k0.s k0.A k0.n k0.c))∧(Bk wr gb 24 (a5 k2.s k2.A k2.n k2.c))∧(Bk wr ej 24 (a5 k1.s k1.A k1.n k1.c))∧(Bk wr ei 24 (a5 f.s f.A f.n f.c))∧(Zr wr w.heap.size false F G I ((rK m:Nat):Int))∧(Zr wr w.heap.size k0.s k0.A k0.n k0.c x)∧(Zr wr w.heap.size k1.s k1.A k1.n k1.c y)∧(Zr wr w.heap.size k2.s k2.A k2.n k2.c t)∧(Zr wr w.heap.size f.s f.A f.n f.c u))
    (fun⟨wr,x,y,t,u,k0,k1,k2,f⟩=>y.natAbs)
    (⟨xe,_,_,_,_,⟨oi,oe,nt,nl⟩,⟨iv,kd,ke,ie⟩,⟨lk,mb,lm,lv⟩,⟨mr,my,ll,mx⟩⟩:a6×Int×Int×Int×Int×ZC×ZC×ZC×ZC) ⟨yi,RecI.init dr,SN dr,((((((((((((qr.ext (e8.t (fx.t (fj.t em)))).vN ef).vN dh).ext (dl.t el)).vN en).ext (dz.t (df.t (de.t cj)))).vN ct).vN cv).ext (cp.t cu)).vN ck).ext (bf.t az)).vN ba),((((((((((((gc.ext (fx.t (fj.t em))).vN ef).vN dh).ext (dl.t el)).vN en).ext (dz.t (df.t (de.t cj)))).vN ct).vN cv).ext (cp.t cu)).vN ck).ext (bf.t az)).vN ba),((((((((((((ic.ext (fj.t em)).vN ef).vN dh).ext (dl.t el)).vN en).ext (dz.t (df.t (de.t cj)))).vN ct).vN cv).ext (cp.t cu)).vN ck).ext (bf.t az)).vN ba),(((((((ij.ext (dz.t (df.t (de.t cj)))).vN ct).vN cv).ext (cp.t cu)).vN ck).ext (bf.t az)).vN ba),(((((qi.vN cv).ext (cp.t cu)).vN ck).ext (bf.t az)).vN ba),((((jd.ext (cp.t cu)).vN ck).ext (bf.t az)).vN ba),((iy.ext (bf.t az)).vN ba),uo,((((((((((pY xq yu).ext el).updT ja en).ext (dz.t (df.t (de.t cj)))).updT fp ct).updT fv cv).ext (cp.t cu)).updT ew ck).ext (bf.t az)).updT dx ba),(((((((yb.ext (df.t (de.t cj))).updT fp ct).updT fv cv).ext (cp.t cu)).updT ew ck).ext (bf.t az)).updT dx ba),((((yc.ext cu).updT ew ck).ext (bf.t az)).updT dx ba),(((((((Au.ext (de.t cj)).updT fp ct).updT fv cv).ext (cp.t cu)).updT ew ck).ext (bf.t az)).updT dx ba),((xr.ext az).updT dx ba)⟩ J ⟨rfl,rfl,rfl,rfl,rfl,rfl,rfl,rfl,rfl,AT⟩ ?_
   rintro⟨wr,x,y,t,u,k0,k1,k2,f⟩ ⟨ge,hI,hR,b_2,b_3,b_4,b_11,b_12,b_13,b_14,b_16,zkk,yk,bg,yp,ae⟩
   refine cR [(2,i5 g1 0),(3,i5 g6 0),(4,i5 fa 0),(5,no 0),(11,i5 bu 0),(12,i5 fw 0),(13,i5 gb 0),(14,i5 ej 0),(16,i5 ei 0)] wr J ⟨rfl,rfl,rfl,rfl,rfl,rfl,rfl,rfl,rfl,AT⟩ ?_
   have Lx:ln x≤4194305:=a8 (hI.ln_x) (aK Lm J)
   have Ly:ln y≤4194305:=a8 (hI.ln_y) (aK Lm J)
   have Lt:ln t≤4194305:=a8 (hI.ln_t dr) (aK Lm J)
   have Lu:ln u≤4194305:=a8 (hI.ln_u dr) (aK Lm J)
   refine aD (aD ?_)
   by_cases pz:((rK m:Nat):Int)<y
   ·refine aF (lo aA b_14 (a5 k1.s k1.A k1.n k1.c) J J J (lo aA b_11 [F0,we F G I] J J J (cl (vs:= [O k1.s k1.A k1.n k1.c,.agg #[F0,we F G I]]) ge (kR bg.zi (bg.le (aK Ly J)) zkk.zi (zkk.le (a8 (show ln ((rK m:Nat):Int)≤4194305 by rw [kP];exact L229a) (by decide)))) J (by kernel_rfl) fun _ _ Ao V fk=>?_)))
    obtain rfl:=Ao
    refine aI J J J true (uQ pz) (a7 (aW J (aY (aO (bO (sr (lo aA (b_12.ext V) (a5 k0.s k0.A k0.n k0.c) J J J (lo aA (b_14.ext V) (a5 k1.s k1.A k1.n k1.c) J J J ?_))))))))
    have ix:ln ((x).tdiv y)≤4194305:=a8 (iW _ _) Lx
    have Eb:ln ((x).tmod y)≤4194305:=a8 (rG _ _) Lx
    refine cl (vs:= [O k0.s k0.A k0.n k0.c,O k1.s k1.A k1.n k1.c]) fk (D0 fk.size (yk.ext V).zi (yk.le (aK Lx J)) (bg.ext V).zi (bg.le (aK Ly J)) (by omega)) J (by kernel_rfl) fun _ _ vb ai da=>?_
    obtain⟨_,_,_,rfl,⟨bo,bm,bi,bh,rfl,nx⟩,⟨ap,aq,au,ar,rfl,zu⟩,rfl⟩:=vb
    refine mv 1 J (pu (v:= O bo bm bi bh) J (pu (v:= O ap aq au ar) J (pu (v:= no 0) J (bL [F0,S0] da (b_16.ext (V.t ai)).lt (fun _=>by kernel_rfl) J fun lz _ jj um _ ag H=>(bL [F0,S0] H jj.lt (fun _=>by kernel_rfl) J fun ni _ rk uu _ aa D=>?_)))))
    have bj:=(jj.ext aa)
    refine so aA bj (a5 bo bm bi bh) D um J J J J fun _ sx Z W=>?_
    have ci:=(rk.vN Z)
    refine so aA ci (a5 ap aq au ar) W uu J J J J fun kw kb X kt=>(mv 1 J (a7 (aD (bG [(2,i5 g1 0),(3,i5 g6 0),(4,i5 fa 0),(5,no 0),(11,i5 bu 0),(12,i5 fw 0),(13,i5 gb 0),(14,i5 ej 0),(16,i5 ei 0),(52,O k1.s k1.A k1.n k1.c),(53,.agg #[F0,we F G I]),(54,no (bE y ((rK m:Nat):Int))),(55,AI),(57,O k0.s k0.A k0.n k0.c),(58,O k1.s k1.A k1.n k1.c),(59,.tuple #[O bo bm bi bh,O ap aq au ar,I0]),(56,.tuple #[O bo bm bi bh,O ap aq au ar,I0]),(60,O bo bm bi bh),(61,O ap aq au ar),(62,no 0),(17,i5 lz 0),(18,i5 ni 0),(19,no 0)] ⟨rfl,rfl,rfl,rfl,rfl,rfl,rfl,rfl,rfl,rfl,rfl,rfl,rfl,rfl,rfl,rfl,rfl,rfl,rfl,rfl,rfl,rfl,rfl,AT⟩ ?_))))
    obtain⟨nu,hv,M⟩:∃v,v=kw.drew∧Ext kw v:=⟨_,rfl,aL.drew⟩
    have kr:=kt.trans M
    have ch:=((((b_12.ext (V.t (ai.t (ag.t aa)))).vN Z).vN X).ext M)
    obtain⟨Ah,qg,td,ab,_⟩:=iJ (P:=aN) (us:= (a5 k1.s k1.A k1.n k1.c)) (off:=0) aA J ch (bq J) J (a5 k1.s k1.A k1.n k1.c) rfl
    have pd:=ab.ext kr jt
    have bw:=(((((b_14.ext (V.t (ai.t (ag.t aa)))).vN Z).vN X).ext M).vN ab)
    obtain⟨yf,uh,ss,ah,_⟩:=iJ (P:=aN) (us:= (a5 ap aq au ar)) (off:=0) aA J bw (bq J) J (a5 ap aq au ar) rfl
    have ez:=ah.ext pd gj
    refine gX bY (w:=nu) [O k1.s k1.A k1.n k1.c,O ap aq au ar,undef,undef] [nu,Ah,yf] [2,3] [[],[],[0],[1]] [[],[],[0],[0,1,2]] [(0,0),(1,0),(1,1),(2,0),(3,1)] J hv ?_ ?_
    ·refine bA _ J J J J J (d7 J (bH aA ((((b_14.ext (V.t (ai.t (ag.t aa)))).vN Z).vN X).ext M) (a5 k1.s k1.A k1.n k1.c) J (bq J) J)) (bA _ J J J J J (d7 J (bH aA (kb.ext M) (a5 ap aq au ar) J (bq J) J)) (bA _ J J J J J (d7 J (bH aA ((kb.ext M).vN ab) (a5 ap aq au ar) J (bq J) J)) (iR _ J J J J J (iA J J qg) (iR _ J J J J J (iA J J uh) ?_))))
     exact gW
    clear hv
    refine gG [(2,i5 g1 0),(3,i5 g6 0),(4,i5 fa 0),(5,no 0),(11,i5 bu 0),(12,i5 fw 0),(13,i5 gb 0),(14,i5 ej 0),(16,i5 ei 0),(52,O k1.s k1.A k1.n k1.c),(53,.agg #[F0,we F G I]),(54,no (bE y ((rK m:Nat):Int))),(55,AI),(57,O k0.s k0.A k0.n k0.c),(58,O k1.s k1.A k1.n k1.c),(59,.tuple #[O bo bm bi bh,O ap aq au ar,I0]),(56,.tuple #[O bo bm bi bh,O ap aq au ar,I0]),(60,O bo bm bi bh),(61,O ap aq au ar),(62,no 0),(17,i5 lz 0),(18,i5 ni 0),(19,no 0),(63,O k1.s k1.A k1.n k1.c),(64,O ap aq au ar)] ⟨rfl,rfl,rfl,rfl,rfl,rfl,rfl,rfl,rfl,rfl,rfl,rfl,rfl,rfl,rfl,rfl,rfl,rfl,rfl,rfl,rfl,rfl,rfl,rfl,rfl,AT⟩ (aO ?_)
    have jw:ln ((x.tdiv y)*u)≤8388610:=a8 (cK ix Lu) (by decide)
    have Dv:ln (t-((x.tdiv y)*u))≤8388611:=a8 (jT Lt jw) (by decide)
    refine dG bY 6 [] [Is (O f.s f.A f.n f.c),Is (O k2.s k2.A k2.n k2.c),Is (O bo bm bi bh),Is (O f.s f.A f.n f.c),ZR w.heap.size ((x.tdiv y)*u),ZR w.heap.size (t-((x.tdiv y)*u))] [[],[],[],[],[2,3],[1,4]] [[],[],[],[],[2,3],[1,2,3,4],[0,1,2,3,4,5],[0,1,2,3,4,5,6]] rfl
     (aH J J (aE J J ?_) (aH J J (aE J J ?_) (aH J J (aE J J ?_) (aH J J (aE J J ?_) (aH J J (aE J J ?_) (aH J J (aE J J ?_) d9)))))) ?_
    ·exact fun _ zz=>aC (lo aA (((((((b_16.ext (V.t (ai.t (ag.t aa)))).vN Z).vN X).ext M).vN ab).vN ah).ext zz) (a5 f.s f.A f.n f.c) J J J (aG J aL J))
    ·exact fun _ Bd=>aC (lo aA (((((((b_13.ext (V.t (ai.t (ag.t aa)))).vN Z).vN X).ext M).vN ab).vN ah).ext Bd) (a5 k2.s k2.A k2.n k2.c) J J J (aG J aL J))
    ·exact fun _ ux=>aC (lo aA (((((sx.vN X).ext M).vN ab).vN ah).ext ux) (a5 bo bm bi bh) J J J (aG J aL J))
    ·exact fun _ Av=>aC (lo aA (((((((b_16.ext (V.t (ai.t (ag.t aa)))).vN Z).vN X).ext M).vN ab).vN ah).ext Av) (a5 f.s f.A f.n f.c) J J J (aG J aL J))
    ·intro _ ir
     have cm:=ez.trans ir
     refine dk J J (dk J J (aC ?_))
     have Dw:ln ((x.tdiv y)*u)≤8388610:=a8 (cK ix Lu) (by decide)
     refine cl (vs:= [O bo bm bi bh,O f.s f.A f.n f.c]) cm (rO cm.size (((((((nx.ext (ag.t aa)).updT bj Z).updT ci X).ext M).updT ch ab).updT bw ah).ext ir).zi (nx.le (aK ix J)) (((((((ae.ext (V.t (ai.t (ag.t aa)))).updT bj Z).updT ci X).ext M).updT ch ab).updT bw ah).ext ir).zi (ae.le (aK Lu J))) J (by kernel_rfl) fun _ _ wy ve fy=>?_
     obtain⟨_,_,_,_,rfl,Ai⟩:=wy
     exact aG J ve ⟨_,_,_,_,rfl,Ai⟩
    ·intro _ mc
     have cm:=ez.trans mc
     refine dk J J (aT J J fun _ _ zt _ vr=>?_)
     obtain⟨vf,Am,Ak,wm,rfl,gx⟩:=zt
     have gx:=gx.ext vr
     refine aC ?_
     have Dx:ln (t-((x.tdiv y)*u))≤8388611:=a8 (jT Lt jw) (by decide)
     refine cl (vs:= [O k2.s k2.A k2.n k2.c,O vf Am Ak wm]) cm (yJ cm.size (((((((yp.ext (V.t (ai.t (ag.t aa)))).updT bj Z).updT ci X).ext M).updT ch ab).updT bw ah).ext mc).zi (yp.le (aK Lt J)) gx.zi (gx.le (aK jw J))) J (by kernel_rfl) fun _ _ zp xg fy=>?_
     obtain⟨_,_,_,_,rfl,vj⟩:=zp
     exact aG J xg ⟨_,_,_,_,rfl,vj⟩
    ·intro _ av
     have cm:=ez.trans av
     refine dk J J (dk J J (dk J J (dk J J (aT J J fun _ _ yw _ ze=>?_))))
     obtain⟨_,_,_,_,rfl,mn⟩:=yw
     have mn:=mn.ext ze
     refine aT J J fun _ _ xc _ vl=>?_
     obtain⟨ky,me,ot,nh,rfl,ka⟩:=xc
     have ka:=ka.ext vl
     refine aC ?_
     have du:=(((((((b_13.ext (V.t (ai.t (ag.t aa)))).vN Z).vN X).ext M).vN ab).vN ah).ext av)
     refine so aA du (a5 f.s f.A f.n f.c) cm ik J J J J fun _ tc bd fy=>?_
     have dw:=((((((((b_16.ext (V.t (ai.t (ag.t aa)))).vN Z).vN X).ext M).vN ab).vN ah).ext av).vN bd)
     refine so aA dw (a5 ky me ot nh) fy gn J J J J fun wn qy aw je=>(aX (dC (bQ (cM (⟨wn,_,_,_,_,⟨k1.s,k1.A,k1.n,k1.c⟩,⟨ap,aq,au,ar⟩,⟨f.s,f.A,f.n,f.c⟩,⟨ky,me,ot,nh⟩⟩:a6×Int×Int×Int×Int×ZC×ZC×ZC×ZC) ⟨je,hI.step (by omega),HU hI.x0 pz hR,(((((((((b_2.ext (V.t (ai.t (ag.t aa)))).vN Z).vN X).ext M).vN ab).vN ah).ext av).vN bd).vN aw),(((((((((b_3.ext (V.t (ai.t (ag.t aa)))).vN Z).vN X).ext M).vN ab).vN ah).ext av).vN bd).vN aw),(((((((((b_4.ext (V.t (ai.t (ag.t aa)))).vN Z).vN X).ext M).vN ab).vN ah).ext av).vN bd).vN aw),(((((((((b_11.ext (V.t (ai.t (ag.t aa)))).vN Z).vN X).ext M).vN ab).vN ah).ext av).vN bd).vN aw),((((td.vN ah).ext av).vN bd).vN aw),(tc.vN aw),(((ss.ext av).vN bd).vN aw),qy,(((((((((zkk.ext (V.t (ai.t (ag.t aa)))).updT bj Z).updT ci X).ext M).updT ch ab).updT bw ah).ext av).updT du bd).updT dw aw),(((((((((bg.ext (V.t (ai.t (ag.t aa)))).updT bj Z).updT ci X).ext M).updT ch ab).updT bw ah).ext av).updT du bd).updT dw aw),(((((((((zu.ext (ag.t aa)).updT bj Z).updT ci X).ext M).updT ch ab).updT bw ah).ext av).updT du bd).updT dw aw),(((((((((ae.ext (V.t (ai.t (ag.t aa)))).updT bj Z).updT ci X).ext M).updT ch ab).updT bw ah).ext av).updT du bd).updT dw aw),((ka.updT du bd).updT dw aw)⟩ (kL (x:=x) (show y≠0 by omega)) J ⟨rfl,rfl,rfl,rfl,rfl,rfl,rfl,rfl,rfl,AT⟩))))
   ·have hv:=HW pz hR
    refine aF (lo aA b_14 (a5 k1.s k1.A k1.n k1.c) J J J (lo aA b_11 [F0,we F G I] J J J (cl (vs:= [O k1.s k1.A k1.n k1.c,.agg #[F0,we F G I]]) ge (kR bg.zi (bg.le (aK Ly J)) zkk.zi (zkk.le (a8 (show ln ((rK m:Nat):Int)≤4194305 by rw [kP];exact L229a) (by decide)))) J (by kernel_rfl) fun _ _ zg L fk=>?_)))
    obtain rfl:=zg
    refine aI J J J false (oF) (a7 (aQ J (d4 (cU (cY (cZ (aO (rU (T:=a6×Int×Int×ZC×ZC) (fun⟨wr,Y,U,k1,f⟩=> [(2,i5 g1 0),(3,i5 g6 0),(4,i5 fa 0),(5,no 0),(11,i5 bu 0),(14,i5 ej 0),(16,i5 ei 0)]) (fun⟨wr,Y,U,k1,f⟩=>wr) (fun⟨wr,Y,U,k1,f⟩=>(Ext w wr)∧(iP m r=(Y,U))∧(U≠0)∧(ln Y≤4194305)∧(ln U≤4194305)∧(Bk wr g1 24 (a5 sa Aa na ca))∧(Bk wr g6 24 (a5 sb Ab nb cb))∧(Bk wr fa 52 [F0,S0,F0,S0])∧(Bk wr bu 24 [F0,we F G I])∧(Bk wr ej 24 (a5 k1.s k1.A k1.n k1.c))∧(Bk wr ei 24 (a5 f.s f.A f.n f.c))∧(Zr wr w.heap.size false F G I ((rK m:Nat):Int))∧(Zr wr w.heap.size k1.s k1.A k1.n k1.c Y)∧(Zr wr w.heap.size f.s f.A f.n f.c U)) ?_ ?_))))))))
    ·refine aD ?_
     by_cases hu:u<0
     ·refine aF (lo aA (b_16.ext L) (a5 f.s f.A f.n f.c) J J J (cl (vs:= [O f.s f.A f.n f.c]) fk (iE (ae.ext L).zi (ae.le (aK Lu J))) J (by kernel_rfl) fun _ _ xl bp da=>?_))
      obtain rfl:=xl
      refine aI J J J true (sW hu) (a7 (aW J ?_))
      have Dr:ln (-y)≤4194305:=(by rw [g0];exact Ly)
      have Ec:ln (-u)≤4194305:=(by rw [g0];exact Lu)
      refine dG bY 4 [] [Is (O k1.s k1.A k1.n k1.c),ZR w.heap.size (-y),Is (O f.s f.A f.n f.c),ZR w.heap.size (-u)] [[],[0],[],[2]] [[],[0],[],[0,1,2],[0,1,2,3],[0,1,2,3,4]] rfl
       (aH J J (aE J J ?_) (aH J J (aE J J ?_) (aH J J (aE J J ?_) (aH J J (aE J J ?_) d9)))) ?_
      ·exact fun _ xw=>aC (lo aA (b_14.ext (L.t (bp.t xw))) (a5 k1.s k1.A k1.n k1.c) J J J (aG J aL J))
      ·intro _ mt
       have H:=da.trans mt
       refine dk J J (aC ?_)
       have Dz:ln (-y)≤4194305:=(by rw [g0];exact Ly)
       refine cl (vs:= [O k1.s k1.A k1.n k1.c]) H (vL H.size (bg.ext (L.t (bp.t mt))).zi (bg.le (aK Ly J))) J (by kernel_rfl) fun _ _ At wg D=>?_
       obtain⟨_,_,_,_,rfl,xu⟩:=At
       exact aG J wg ⟨_,_,_,_,rfl,xu⟩
      ·exact fun _ Az=>aC (lo aA (b_16.ext (L.t (bp.t Az))) (a5 f.s f.A f.n f.c) J J J (aG J aL J))
      ·intro _ lp
       have H:=da.trans lp
       refine dk J J (aC ?_)
       have Dq:ln (-u)≤4194305:=(by rw [g0];exact Lu)
       refine cl (vs:= [O f.s f.A f.n f.c]) H (vL H.size (ae.ext (L.t (bp.t lp))).zi (ae.le (aK Lu J))) J (by kernel_rfl) fun _ _ vo xk D=>?_
       obtain⟨_,_,_,_,rfl,Aj⟩:=vo
       exact aG J xk ⟨_,_,_,_,rfl,Aj⟩
      ·intro _ dy
       have H:=da.trans dy
       refine dk J J (aT J J fun _ _ Bc _ vk=>?_)
       obtain⟨kx,mo,mz,oo,rfl,iu⟩:=Bc
       have iu:=iu.ext vk
       refine dk J J (aT J J fun _ _ zx _ xt=>?_)
       obtain⟨mh,mq,ma,md,rfl,iw⟩:=zx
       have iw:=iw.ext xt
       refine aC ?_
       have fi:=(b_14.ext (L.t (bp.t dy)))
       refine so aA fi (a5 kx mo mz oo) H gj J J J J fun _ ub eh D=>?_
       have fq:=((b_16.ext (L.t (bp.t dy))).vN eh)
       refine so aA fq (a5 mh mq ma md) D gn J J J J fun xd qu eg W=>(aX (dC (dO (⟨xd,-y,-u,⟨kx,mo,mz,oo⟩,⟨mh,mq,ma,md⟩⟩:a6×Int×Int×ZC×ZC) ⟨W,HJ hv hu,(by have:=hI.u0;omega),(by rw [g0];exact Ly),(by rw [g0];exact Lu),(((b_2.ext (L.t (bp.t dy))).vN eh).vN eg),(((b_3.ext (L.t (bp.t dy))).vN eh).vN eg),(((b_4.ext (L.t (bp.t dy))).vN eh).vN eg),(((b_11.ext (L.t (bp.t dy))).vN eh).vN eg),(ub.vN eg),qu,(((zkk.ext (L.t (bp.t dy))).updT fi eh).updT fq eg),((iu.updT fi eh).updT fq eg),((iw.updT fi eh).updT fq eg)⟩ J ⟨rfl,rfl,rfl,rfl,rfl,rfl,rfl,AT⟩)))
     ·refine aF (lo aA (b_16.ext L) (a5 f.s f.A f.n f.c) J J J (cl (vs:= [O f.s f.A f.n f.c]) fk (iE (ae.ext L).zi (ae.le (aK Lu J))) J (by kernel_rfl) fun _ Br vz dg da=>?_))
      obtain rfl:=vz
      refine aI J J J false (sX) (a7 (aQ J (aY (dO (⟨Br,y,u,⟨k1.s,k1.A,k1.n,k1.c⟩,⟨f.s,f.A,f.n,f.c⟩⟩:a6×Int×Int×ZC×ZC) ⟨da,HH hv hu,(by have:=hI.u0;omega),Ly,Lu,(b_2.ext (L.t dg)),(b_3.ext (L.t dg)),(b_4.ext (L.t dg)),(b_11.ext (L.t dg)),(b_14.ext (L.t dg)),(b_16.ext (L.t dg)),(zkk.ext (L.t dg)),(bg.ext (L.t dg)),(ae.ext (L.t dg))⟩ J ⟨rfl,rfl,rfl,rfl,rfl,rfl,rfl,AT⟩))))
    ·rintro⟨wr,Y,U,k1,f⟩ ⟨ge,hS,_,LY,LU,b_2,b_3,b_4,b_11,b_14,b_16,zkk,bg,ae⟩
     refine cR [(2,i5 g1 0),(3,i5 g6 0),(4,i5 fa 0),(5,no 0),(11,i5 bu 0),(14,i5 ej 0),(16,i5 ei 0)] wr J ⟨rfl,rfl,rfl,rfl,rfl,rfl,rfl,AT⟩ (sr (cl (vs:= [no 1]) ge (kE ge.size (by decide) (by decide)) J (by kernel_rfl) fun _ _ Bf q fk=>?_))
     obtain⟨aj,am,ao,ak,rfl,cz⟩:=Bf
     refine bL [F0,S0] fk (b_16.ext q).lt (fun _=>by kernel_rfl) J fun _ _ E pj _ o da=>(so aA E (a5 aj am ao ak) da pj J J J J fun _ ey p H=>(a7 (aD (aD ?_))))
     by_cases h1:((rK m:Nat):Int)<U
     ·have hE:=t8 dr hS (fun hc=>hc.1 h1)
      refine dG bY 20 [] [Is (O f.s f.A f.n f.c),Is (.agg #[F0,we F G I]),Is (no (bE U ((rK m:Nat):Int))),Is (AI),Is (AI),Is (undef),Is (undef),Is (undef),Is (undef),Is (undef),Is (undef),Is (AI),Is (AI),Is (undef),Is (undef),Is (undef),Is (undef),Is (undef),Is (undef),Is (AI)] [[],[],[0,1],[2],[3],[4],[4],[4,5,6],[4],[4,7,8],[4,9],[4,10],[11],[12],[12],[12,13,14],[12],[12,15,16],[12,17],[12,18]] [[],[],[0,1],[0,1,2],[0,1,2,3],[0,1,2,3,4],[0,1,2,3,4],[0,1,2,3,4,5,6],[0,1,2,3,4],[0,1,2,3,4,5,6,7,8],[0,1,2,3,4,5,6,7,8,9],[0,1,2,3,4,5,6,7,8,9,10],[0,1,2,3,4,5,6,7,8,9,10,11],[0,1,2,3,4,5,6,7,8,9,10,11,12],[0,1,2,3,4,5,6,7,8,9,10,11,12],[0,1,2,3,4,5,6,7,8,9,10,11,12,13,14],[0,1,2,3,4,5,6,7,8,9,10,11,12],[0,1,2,3,4,5,6,7,8,9,10,11,12,13,14,15,16],[0,1,2,3,4,5,6,7,8,9,10,11,12,13,14,15,16,17],[0,1,2,3,4,5,6,7,8,9,10,11,12,13,14,15,16,17,18]] rfl
       (aH J J (aE J J ?_) (aH J J (aE J J ?_) (aH J J (aE J J ?_) (aH J J (aE J J ?_) (aH J J (aE J J ?_) (aH J J (aE J J ?_) (aH J J (aE J J ?_) (aH J J (aE J J ?_) (aH J J (aE J J ?_) (aH J J (aE J J ?_) (aH J J (aE J J ?_) (aH J J (aE J J ?_) (aH J J (aE J J ?_) (aH J J (aE J J ?_) (aH J J (aE J J ?_) (aH J J (aE J J ?_) (aH J J (aE J J ?_) (aH J J (aE J J ?_) (aH J J (aE J J ?_) (aH J J (aE J J ?_) d9)))))))))))))))))))) ?_
      ·exact fun _ Ap=>aC (lo aA (((b_16.ext (q.t o)).vN p).ext Ap) (a5 f.s f.A f.n f.c) J J J (aG J aL J))
      ·exact fun _ wh=>aC (lo aA (((b_11.ext (q.t o)).vN p).ext wh) [F0,we F G I] J J J (aG J aL J))
      ·intro _ jf
       have D:=H.trans jf
       refine dk J J (dk J J (aC (cl (vs:= [O f.s f.A f.n f.c,.agg #[F0,we F G I]]) D (kR (((ae.ext (q.t o)).updT E p).ext jf).zi (ae.le (aK LU J)) (((zkk.ext (q.t o)).updT E p).ext jf).zi (zkk.le (a8 (show ln ((rK m:Nat):Int)≤4194305 by rw [kP];exact L229a) (by decide)))) J (by kernel_rfl) fun _ _ zv zn W=>?_)))
       obtain rfl:=zv
       exact aG J zn rfl
      ·exact fun _ _=>dk J J (aC (aI J J J true (uQ h1) (aG J aL J)))
      ·exact fun _ _=>dk J J (aC (mv 1 J (aG J aL J)))
      ·exact fun _ _=>dk J J (aC (mv 1 J (aG J aL J)))
      ·exact fun _ _=>dk J J (aC (mv 1 J (aG J aL J)))
      ·exact fun _ _=>dk J J (dk J J (dk J J (aC (mv 1 J (aG J aL J)))))
      ·exact fun _ _=>dk J J (aC (mv 1 J (aG J aL J)))
      ·exact fun _ _=>dk J J (dk J J (dk J J (aC (mv 1 J (aG J aL J)))))
      ·exact fun _ _=>dk J J (dk J J (aC (mv 1 J (aG J aL J))))
      ·exact fun _ _=>dk J J (dk J J (aC (pu (v:= AI) J (aG J aL J))))
      ·exact fun _ _=>dk J J (aC (mv 1 J (aG J aL J)))
      ·exact fun _ _=>dk J J (aC (mv 1 J (aG J aL J)))
      ·exact fun _ _=>dk J J (aC (mv 1 J (aG J aL J)))
      ·exact fun _ _=>dk J J (dk J J (dk J J (aC (mv 1 J (aG J aL J)))))
      ·exact fun _ _=>dk J J (aC (mv 1 J (aG J aL J)))
      ·exact fun _ _=>dk J J (dk J J (dk J J (aC (mv 1 J (aG J aL J)))))
      ·exact fun _ _=>dk J J (dk J J (aC (mv 1 J (aG J aL J))))
      ·exact fun _ _=>dk J J (dk J J (aC (pu (v:= AI) J (aG J aL J))))
      ·intro _ mi
       have D:=H.trans mi
       refine dk J J (dk J J (dk J J (dk J J (dk J J (dk J J (dk J J (dk J J (dk J J (dk J J (dk J J (dk J J (dk J J (dk J J ?_)))))))))))))
       refine dk J J (dk J J (dk J J (dk J J (dk J J (dk J J (aC (aX (dC (aO (aW J (sr (pu (v:= .agg #[F0,S0,F0,S0]) J ?_))))))))))))
       have uj:=(((b_4.ext (q.t o)).vN p).ext mi)
       refine so bC uj [F0,S0,F0,S0] D ga J J J J fun nk sc _ W=>(mv 1 J (a7 (aV (bR (aU [.agg #[F0,S0,F0,S0],no 6] J ⟨⟨_,rfl,bH bC sc [F0,S0,F0,S0] J (bq J) rfl⟩,rfl,AT⟩ ?_)))))
       exact⟨_,rfl,⟨_,_,rfl,⟨_,_,_,_,_,_,_,_,rfl,((Zr.zero (w:=nk) (base:=w.heap.size))).cast (by rw [hE.1]),((Zr.zero (w:=nk) (base:=w.heap.size))).cast (by rw [hE.2.1])⟩,(show (no 6:aM)=_ by rw [hE.2.2])⟩,W⟩
     ·by_cases h2:Int.gcd Y U≠1
      ·have hE:=t8 dr hS (fun hc=>h2 hc.2.1)
       have zb:ln ((Int.gcd Y U:Int))≤4194305:=a8 (gU _ _) (Nat.max_le.2 ⟨a8 LY (by decide),a8 LU (by decide)⟩)
       refine dG bY 20 [] [Is (O f.s f.A f.n f.c),Is (.agg #[F0,we F G I]),Is (no (bE U ((rK m:Nat):Int))),Is (AS),Is (AS),Is (O k1.s k1.A k1.n k1.c),Is (O f.s f.A f.n f.c),ZR w.heap.size ((Int.gcd Y U:Int)),Is (O aj am ao ak),Is (no (bE (Int.gcd Y U:Int) 1)),Is (AI),Is (AI),Is (AI),Is (undef),Is (undef),Is (undef),Is (undef),Is (undef),Is (undef),Is (AI)] [[],[],[0,1],[2],[3],[4],[4],[4,5,6],[4],[4,7,8],[4,9],[4,10],[11],[12],[12],[12,13,14],[12],[12,15,16],[12,17],[12,18]] [[],[],[0,1],[0,1,2],[0,1,2,3],[0,1,2,3,4],[0,1,2,3,4],[0,1,2,3,4,5,6],[0,1,2,3,4],[0,1,2,3,4,5,6,7,8],[0,1,2,3,4,5,6,7,8,9],[0,1,2,3,4,5,6,7,8,9,10],[0,1,2,3,4,5,6,7,8,9,10,11],[0,1,2,3,4,5,6,7,8,9,10,11,12],[0,1,2,3,4,5,6,7,8,9,10,11,12],[0,1,2,3,4,5,6,7,8,9,10,11,12,13,14],[0,1,2,3,4,5,6,7,8,9,10,11,12],[0,1,2,3,4,5,6,7,8,9,10,11,12,13,14,15,16],[0,1,2,3,4,5,6,7,8,9,10,11,12,13,14,15,16,17],[0,1,2,3,4,5,6,7,8,9,10,11,12,13,14,15,16,17,18]] rfl
        (aH J J (aE J J ?_) (aH J J (aE J J ?_) (aH J J (aE J J ?_) (aH J J (aE J J ?_) (aH J J (aE J J ?_) (aH J J (aE J J ?_) (aH J J (aE J J ?_) (aH J J (aE J J ?_) (aH J J (aE J J ?_) (aH J J (aE J J ?_) (aH J J (aE J J ?_) (aH J J (aE J J ?_) (aH J J (aE J J ?_) (aH J J (aE J J ?_) (aH J J (aE J J ?_) (aH J J (aE J J ?_) (aH J J (aE J J ?_) (aH J J (aE J J ?_) (aH J J (aE J J ?_) (aH J J (aE J J ?_) d9)))))))))))))))))))) ?_
       ·exact fun _ Bl=>aC (lo aA (((b_16.ext (q.t o)).vN p).ext Bl) (a5 f.s f.A f.n f.c) J J J (aG J aL J))
       ·exact fun _ xn=>aC (lo aA (((b_11.ext (q.t o)).vN p).ext xn) [F0,we F G I] J J J (aG J aL J))
       ·intro _ kc
        have D:=H.trans kc
        refine dk J J (dk J J (aC (cl (vs:= [O f.s f.A f.n f.c,.agg #[F0,we F G I]]) D (kR (((ae.ext (q.t o)).updT E p).ext kc).zi (ae.le (aK LU J)) (((zkk.ext (q.t o)).updT E p).ext kc).zi (zkk.le (a8 (show ln ((rK m:Nat):Int)≤4194305 by rw [kP];exact L229a) (by decide)))) J (by kernel_rfl) fun _ _ vp Ba W=>?_)))
        obtain rfl:=vp
        exact aG J Ba rfl
       ·exact fun _ _=>dk J J (aC (aI J J J false (oF) (aG J aL J)))
       ·exact fun _ _=>dk J J (aC (mv 1 J (aG J aL J)))
       ·exact fun _ yo=>dk J J (aC (lo aA (((b_14.ext (q.t o)).vN p).ext yo) (a5 k1.s k1.A k1.n k1.c) J J J (aG J aL J)))
       ·exact fun _ xv=>dk J J (aC (lo aA (((b_16.ext (q.t o)).vN p).ext xv) (a5 f.s f.A f.n f.c) J J J (aG J aL J)))
       ·intro _ io
        have D:=H.trans io
        refine dk J J (dk J J (dk J J (aC ?_)))
        have Do:ln ((Int.gcd Y U:Int))≤4194305:=a8 (gU _ _) (Nat.max_le.2 ⟨a8 LY (by decide),a8 LU (by decide)⟩)
        refine cl (vs:= [O k1.s k1.A k1.n k1.c,O f.s f.A f.n f.c]) D (vP D.size (((bg.ext (q.t o)).updT E p).ext io).zi (bg.le (aK LY J)) (((ae.ext (q.t o)).updT E p).ext io).zi (ae.le (aK LU J))) J (by kernel_rfl) fun _ _ Bs ym W=>?_
        obtain⟨_,_,_,_,rfl,Bb⟩:=Bs
        exact aG J ym ⟨_,_,_,_,rfl,Bb⟩
       ·exact fun _ Be=>dk J J (aC (lo aA (ey.ext Be) (a5 aj am ao ak) J J J (aG J aL J)))
       ·intro _ mg
        have D:=H.trans mg
        refine dk J J (aT J J fun _ _ Bn _ xi=>?_)
        obtain⟨ye,Ay,yn,uy,rfl,gy⟩:=Bn
        have gy:=gy.ext xi
        refine dk J J (aC (cl (vs:= [O ye Ay yn uy,O aj am ao ak]) D (kR gy.zi (gy.le (aK zb J)) (((cz.ext o).updT E p).ext mg).zi (cz.le (a8 (show ln (1)≤1 by decide+kernel) (by decide)))) J (by kernel_rfl) fun _ _ uz vq W=>?_))
        obtain rfl:=uz
        exact aG J vq rfl
       ·exact fun _ _=>dk J J (dk J J (aC (aI J J J true (lT (fun e=>h2 (by exact_mod_cast e))) (aG J aL J))))
       ·exact fun _ _=>dk J J (dk J J (aC (pu (v:= AI) J (aG J aL J))))
       ·exact fun _ _=>dk J J (aC (mv 1 J (aG J aL J)))
       ·exact fun _ _=>dk J J (aC (mv 1 J (aG J aL J)))
       ·exact fun _ _=>dk J J (aC (mv 1 J (aG J aL J)))
       ·exact fun _ _=>dk J J (dk J J (dk J J (aC (mv 1 J (aG J aL J)))))
       ·exact fun _ _=>dk J J (aC (mv 1 J (aG J aL J)))
       ·exact fun _ _=>dk J J (dk J J (dk J J (aC (mv 1 J (aG J aL J)))))
       ·exact fun _ _=>dk J J (dk J J (aC (mv 1 J (aG J aL J))))
       ·exact fun _ _=>dk J J (dk J J (aC (pu (v:= AI) J (aG J aL J))))
       ·intro _ iz
        have D:=H.trans iz
        refine dk J J (dk J J (dk J J (dk J J (dk J J (dk J J (dk J J (aT J J fun _ _ qe _ rs=>?_)))))))
        obtain⟨_,_,_,_,rfl,jy⟩:=qe
        have jy:=jy.ext rs
        refine dk J J (dk J J (dk J J (dk J J (dk J J (dk J J (dk J J (dk J J (dk J J (dk J J (dk J J (dk J J (aC (aX ?_)))))))))))))
        refine dC (aO (aW J (sr (pu (v:= .agg #[F0,S0,F0,S0]) J ?_))))
        have kn:=(((b_4.ext (q.t o)).vN p).ext iz)
        refine so bC kn [F0,S0,F0,S0] D ga J J J J fun ju ku _ W=>(mv 1 J (a7 (aV (bR (aU [.agg #[F0,S0,F0,S0],no 6] J ⟨⟨_,rfl,bH bC ku [F0,S0,F0,S0] J (bq J) rfl⟩,rfl,AT⟩ ?_)))))
        exact⟨_,rfl,⟨_,_,rfl,⟨_,_,_,_,_,_,_,_,rfl,((Zr.zero (w:=ju) (base:=w.heap.size))).cast (by rw [hE.1]),((Zr.zero (w:=ju) (base:=w.heap.size))).cast (by rw [hE.2.1])⟩,(show (no 6:aM)=_ by rw [hE.2.2])⟩,W⟩
      ·by_cases h3:Int.gcd U m≠1
       ·have hE:=t8 dr hS (fun hc=>h3 hc.2.2)
        have qf:ln ((Int.gcd Y U:Int))≤4194305:=a8 (gU _ _) (Nat.max_le.2 ⟨a8 LY (by decide),a8 LU (by decide)⟩)
        have rg:ln ((Int.gcd U m:Int))≤4194305:=a8 (gU _ _) (Nat.max_le.2 ⟨a8 LU (by decide),a8 Lm (by decide)⟩)
        refine dG bY 20 [] [Is (O f.s f.A f.n f.c),Is (.agg #[F0,we F G I]),Is (no (bE U ((rK m:Nat):Int))),Is (AS),Is (AS),Is (O k1.s k1.A k1.n k1.c),Is (O f.s f.A f.n f.c),ZR w.heap.size ((Int.gcd Y U:Int)),Is (O aj am ao ak),Is (no (bE (Int.gcd Y U:Int) 1)),Is (AS),Is (AS),Is (AS),Is (O f.s f.A f.n f.c),Is (O sb Ab nb cb),ZR w.heap.size ((Int.gcd U m:Int)),Is (O aj am ao ak),Is (no (bE (Int.gcd U m:Int) 1)),Is (AI),Is (AI)] [[],[],[0,1],[2],[3],[4],[4],[4,5,6],[4],[4,7,8],[4,9],[4,10],[11],[12],[12],[12,13,14],[12],[12,15,16],[12,17],[12,18]] [[],[],[0,1],[0,1,2],[0,1,2,3],[0,1,2,3,4],[0,1,2,3,4],[0,1,2,3,4,5,6],[0,1,2,3,4],[0,1,2,3,4,5,6,7,8],[0,1,2,3,4,5,6,7,8,9],[0,1,2,3,4,5,6,7,8,9,10],[0,1,2,3,4,5,6,7,8,9,10,11],[0,1,2,3,4,5,6,7,8,9,10,11,12],[0,1,2,3,4,5,6,7,8,9,10,11,12],[0,1,2,3,4,5,6,7,8,9,10,11,12,13,14],[0,1,2,3,4,5,6,7,8,9,10,11,12],[0,1,2,3,4,5,6,7,8,9,10,11,12,13,14,15,16],[0,1,2,3,4,5,6,7,8,9,10,11,12,13,14,15,16,17],[0,1,2,3,4,5,6,7,8,9,10,11,12,13,14,15,16,17,18]] rfl
         (aH J J (aE J J ?_) (aH J J (aE J J ?_) (aH J J (aE J J ?_) (aH J J (aE J J ?_) (aH J J (aE J J ?_) (aH J J (aE J J ?_) (aH J J (aE J J ?_) (aH J J (aE J J ?_) (aH J J (aE J J ?_) (aH J J (aE J J ?_) (aH J J (aE J J ?_) (aH J J (aE J J ?_) (aH J J (aE J J ?_) (aH J J (aE J J ?_) (aH J J (aE J J ?_) (aH J J (aE J J ?_) (aH J J (aE J J ?_) (aH J J (aE J J ?_) (aH J J (aE J J ?_) (aH J J (aE J J ?_) d9)))))))))))))))))))) ?_
        ·exact fun _ ry=>aC (lo aA (((b_16.ext (q.t o)).vN p).ext ry) (a5 f.s f.A f.n f.c) J J J (aG J aL J))
        ·exact fun _ tw=>aC (lo aA (((b_11.ext (q.t o)).vN p).ext tw) [F0,we F G I] J J J (aG J aL J))
        ·intro _ go
         have D:=H.trans go
         refine dk J J (dk J J (aC (cl (vs:= [O f.s f.A f.n f.c,.agg #[F0,we F G I]]) D (kR (((ae.ext (q.t o)).updT E p).ext go).zi (ae.le (aK LU J)) (((zkk.ext (q.t o)).updT E p).ext go).zi (zkk.le (a8 (show ln ((rK m:Nat):Int)≤4194305 by rw [kP];exact L229a) (by decide)))) J (by kernel_rfl) fun _ _ sw ui W=>?_)))
         obtain rfl:=sw
         exact aG J ui rfl
        ·exact fun _ _=>dk J J (aC (aI J J J false (oF) (aG J aL J)))
        ·exact fun _ _=>dk J J (aC (mv 1 J (aG J aL J)))
        ·exact fun _ ue=>dk J J (aC (lo aA (((b_14.ext (q.t o)).vN p).ext ue) (a5 k1.s k1.A k1.n k1.c) J J J (aG J aL J)))
        ·exact fun _ pm=>dk J J (aC (lo aA (((b_16.ext (q.t o)).vN p).ext pm) (a5 f.s f.A f.n f.c) J J J (aG J aL J)))
        ·intro _ gi
         have D:=H.trans gi
         refine dk J J (dk J J (dk J J (aC ?_)))
         have Cc:ln ((Int.gcd Y U:Int))≤4194305:=a8 (gU _ _) (Nat.max_le.2 ⟨a8 LY (by decide),a8 LU (by decide)⟩)
         refine cl (vs:= [O k1.s k1.A k1.n k1.c,O f.s f.A f.n f.c]) D (vP D.size (((bg.ext (q.t o)).updT E p).ext gi).zi (bg.le (aK LY J)) (((ae.ext (q.t o)).updT E p).ext gi).zi (ae.le (aK LU J))) J (by kernel_rfl) fun _ _ qh qv W=>?_
         obtain⟨_,_,_,_,rfl,su⟩:=qh
         exact aG J qv ⟨_,_,_,_,rfl,su⟩
        ·exact fun _ po=>dk J J (aC (lo aA (ey.ext po) (a5 aj am ao ak) J J J (aG J aL J)))
        ·intro _ jv
         have D:=H.trans jv
         refine dk J J (aT J J fun _ _ ti _ px=>?_)
         obtain⟨ut,te,sk,tp,rfl,fg⟩:=ti
         have fg:=fg.ext px
         refine dk J J (aC (cl (vs:= [O ut te sk tp,O aj am ao ak]) D (kR fg.zi (fg.le (aK qf J)) (((cz.ext o).updT E p).ext jv).zi (cz.le (a8 (show ln (1)≤1 by decide+kernel) (by decide)))) J (by kernel_rfl) fun _ _ re qj W=>?_))
         obtain rfl:=re
         exact aG J qj rfl
        ·exact fun _ _=>dk J J (dk J J (aC (aI J J J false (lC (by have:=Decidable.not_not.1 h2;exact_mod_cast this)) (aG J aL J))))
        ·exact fun _ _=>dk J J (dk J J (aC (pu (v:= AS) J (aG J aL J))))
        ·exact fun _ _=>dk J J (aC (mv 1 J (aG J aL J)))
        ·exact fun _ rc=>dk J J (aC (lo aA (((b_16.ext (q.t o)).vN p).ext rc) (a5 f.s f.A f.n f.c) J J J (aG J aL J)))
        ·exact fun _ sj=>dk J J (aC (lo aA (((b_3.ext (q.t o)).vN p).ext sj) (a5 sb Ab nb cb) J J J (aG J aL J)))
        ·intro _ jb
         have D:=H.trans jb
         refine dk J J (dk J J (dk J J (aC ?_)))
         have Cx:ln ((Int.gcd U m:Int))≤4194305:=a8 (gU _ _) (Nat.max_le.2 ⟨a8 LU (by decide),a8 Lm (by decide)⟩)
         refine cl (vs:= [O f.s f.A f.n f.c,O sb Ab nb cb]) D (vP D.size (((ae.ext (q.t o)).updT E p).ext jb).zi (ae.le (aK LU J)) (hm.ext D) (aK lb J)) J (by kernel_rfl) fun _ _ rq ur W=>?_
         obtain⟨_,_,_,_,rfl,si⟩:=rq
         exact aG J ur ⟨_,_,_,_,rfl,si⟩
        ·exact fun _ ru=>dk J J (aC (lo aA (ey.ext ru) (a5 aj am ao ak) J J J (aG J aL J)))
        ·intro _ kf
         have D:=H.trans kf
         refine dk J J (aT J J fun _ _ qt _ oz=>?_)
         obtain⟨uv,tk,ov,qq,rfl,ft⟩:=qt
         have ft:=ft.ext oz
         refine dk J J (aC (cl (vs:= [O uv tk ov qq,O aj am ao ak]) D (kR ft.zi (ft.le (aK rg J)) (((cz.ext o).updT E p).ext kf).zi (cz.le (a8 (show ln (1)≤1 by decide+kernel) (by decide)))) J (by kernel_rfl) fun _ _ uk tv W=>?_))
         obtain rfl:=uk
         exact aG J tv rfl
        ·exact fun _ _=>dk J J (dk J J (aC (aI J J J true (lT (fun e=>h3 (by exact_mod_cast e))) (aG J aL J))))
        ·exact fun _ _=>dk J J (dk J J (aC (pu (v:= AI) J (aG J aL J))))
        ·intro _ jn
         have D:=H.trans jn
         refine dk J J (dk J J (dk J J (dk J J (dk J J (dk J J (dk J J (aT J J fun _ _ tz _ sz=>?_)))))))
         obtain⟨_,_,_,_,rfl,jm⟩:=tz
         have jm:=jm.ext sz
         refine dk J J (dk J J (dk J J (dk J J (dk J J (dk J J (dk J J (aT J J fun _ _ qs _ ua=>?_)))))))
         obtain⟨_,_,_,_,rfl,jg⟩:=qs
         have jg:=jg.ext ua
         refine dk J J (dk J J (dk J J (dk J J (aC (aX (dC (aO (aW J (sr (pu (v:= .agg #[F0,S0,F0,S0]) J ?_))))))))))
         have kq:=(((b_4.ext (q.t o)).vN p).ext jn)
         refine so bC kq [F0,S0,F0,S0] D ga J J J J fun iq ko _ W=>(mv 1 J (a7 (aV (bR (aU [.agg #[F0,S0,F0,S0],no 6] J ⟨⟨_,rfl,bH bC ko [F0,S0,F0,S0] J (bq J) rfl⟩,rfl,AT⟩ ?_)))))
         exact⟨_,rfl,⟨_,_,rfl,⟨_,_,_,_,_,_,_,_,rfl,((Zr.zero (w:=iq) (base:=w.heap.size))).cast (by rw [hE.1]),((Zr.zero (w:=iq) (base:=w.heap.size))).cast (by rw [hE.2.1])⟩,(show (no 6:aM)=_ by rw [hE.2.2])⟩,W⟩
       ·have hE:=HA dr hS ⟨h1,Decidable.not_not.1 h2,Decidable.not_not.1 h3⟩
        have tg:ln ((Int.gcd Y U:Int))≤4194305:=a8 (gU _ _) (Nat.max_le.2 ⟨a8 LY (by decide),a8 LU (by decide)⟩)
        have ph:ln ((Int.gcd U m:Int))≤4194305:=a8 (gU _ _) (Nat.max_le.2 ⟨a8 LU (by decide),a8 Lm (by decide)⟩)
        refine dG bY 20 [] [Is (O f.s f.A f.n f.c),Is (.agg #[F0,we F G I]),Is (no (bE U ((rK m:Nat):Int))),Is (AS),Is (AS),Is (O k1.s k1.A k1.n k1.c),Is (O f.s f.A f.n f.c),ZR w.heap.size ((Int.gcd Y U:Int)),Is (O aj am ao ak),Is (no (bE (Int.gcd Y U:Int) 1)),Is (AS),Is (AS),Is (AS),Is (O f.s f.A f.n f.c),Is (O sb Ab nb cb),ZR w.heap.size ((Int.gcd U m:Int)),Is (O aj am ao ak),Is (no (bE (Int.gcd U m:Int) 1)),Is (AS),Is (AS)] [[],[],[0,1],[2],[3],[4],[4],[4,5,6],[4],[4,7,8],[4,9],[4,10],[11],[12],[12],[12,13,14],[12],[12,15,16],[12,17],[12,18]] [[],[],[0,1],[0,1,2],[0,1,2,3],[0,1,2,3,4],[0,1,2,3,4],[0,1,2,3,4,5,6],[0,1,2,3,4],[0,1,2,3,4,5,6,7,8],[0,1,2,3,4,5,6,7,8,9],[0,1,2,3,4,5,6,7,8,9,10],[0,1,2,3,4,5,6,7,8,9,10,11],[0,1,2,3,4,5,6,7,8,9,10,11,12],[0,1,2,3,4,5,6,7,8,9,10,11,12],[0,1,2,3,4,5,6,7,8,9,10,11,12,13,14],[0,1,2,3,4,5,6,7,8,9,10,11,12],[0,1,2,3,4,5,6,7,8,9,10,11,12,13,14,15,16],[0,1,2,3,4,5,6,7,8,9,10,11,12,13,14,15,16,17],[0,1,2,3,4,5,6,7,8,9,10,11,12,13,14,15,16,17,18]] rfl
         (aH J J (aE J J ?_) (aH J J (aE J J ?_) (aH J J (aE J J ?_) (aH J J (aE J J ?_) (aH J J (aE J J ?_) (aH J J (aE J J ?_) (aH J J (aE J J ?_) (aH J J (aE J J ?_) (aH J J (aE J J ?_) (aH J J (aE J J ?_) (aH J J (aE J J ?_) (aH J J (aE J J ?_) (aH J J (aE J J ?_) (aH J J (aE J J ?_) (aH J J (aE J J ?_) (aH J J (aE J J ?_) (aH J J (aE J J ?_) (aH J J (aE J J ?_) (aH J J (aE J J ?_) (aH J J (aE J J ?_) d9)))))))))))))))))))) ?_
        ·exact fun _ pt=>aC (lo aA (((b_16.ext (q.t o)).vN p).ext pt) (a5 f.s f.A f.n f.c) J J J (aG J aL J))
        ·exact fun _ pq=>aC (lo aA (((b_11.ext (q.t o)).vN p).ext pq) [F0,we F G I] J J J (aG J aL J))
        ·intro _ gk
         have D:=H.trans gk
         refine dk J J (dk J J (aC (cl (vs:= [O f.s f.A f.n f.c,.agg #[F0,we F G I]]) D (kR (((ae.ext (q.t o)).updT E p).ext gk).zi (ae.le (aK LU J)) (((zkk.ext (q.t o)).updT E p).ext gk).zi (zkk.le (a8 (show ln ((rK m:Nat):Int)≤4194305 by rw [kP];exact L229a) (by decide)))) J (by kernel_rfl) fun _ _ oy pg W=>?_)))
         obtain rfl:=oy
         exact aG J pg rfl
        ·exact fun _ _=>dk J J (aC (aI J J J false (oF) (aG J aL J)))
        ·exact fun _ _=>dk J J (aC (mv 1 J (aG J aL J)))
        ·exact fun _ qx=>dk J J (aC (lo aA (((b_14.ext (q.t o)).vN p).ext qx) (a5 k1.s k1.A k1.n k1.c) J J J (aG J aL J)))
        ·exact fun _ qz=>dk J J (aC (lo aA (((b_16.ext (q.t o)).vN p).ext qz) (a5 f.s f.A f.n f.c) J J J (aG J aL J)))
        ·intro _ gg
         have D:=H.trans gg
         refine dk J J (dk J J (dk J J (aC ?_)))
         have Cq:ln ((Int.gcd Y U:Int))≤4194305:=a8 (gU _ _) (Nat.max_le.2 ⟨a8 LY (by decide),a8 LU (by decide)⟩)
         refine cl (vs:= [O k1.s k1.A k1.n k1.c,O f.s f.A f.n f.c]) D (vP D.size (((bg.ext (q.t o)).updT E p).ext gg).zi (bg.le (aK LY J)) (((ae.ext (q.t o)).updT E p).ext gg).zi (ae.le (aK LU J))) J (by kernel_rfl) fun _ _ tj tf W=>?_
         obtain⟨_,_,_,_,rfl,sn⟩:=tj
         exact aG J tf ⟨_,_,_,_,rfl,sn⟩
        ·exact fun _ ou=>dk J J (aC (lo aA (ey.ext ou) (a5 aj am ao ak) J J J (aG J aL J)))
        ·intro _ jc
         have D:=H.trans jc
         refine dk J J (aT J J fun _ _ ro _ tq=>?_)
         obtain⟨tn,qd,qm,pk,rfl,fm⟩:=ro
         have fm:=fm.ext tq
         refine dk J J (aC (cl (vs:= [O tn qd qm pk,O aj am ao ak]) D (kR fm.zi (fm.le (aK tg J)) (((cz.ext o).updT E p).ext jc).zi (cz.le (a8 (show ln (1)≤1 by decide+kernel) (by decide)))) J (by kernel_rfl) fun _ _ sy ul W=>?_))
         obtain rfl:=sy
         exact aG J ul rfl
        ·exact fun _ _=>dk J J (dk J J (aC (aI J J J false (lC (by have:=Decidable.not_not.1 h2;exact_mod_cast this)) (aG J aL J))))
        ·exact fun _ _=>dk J J (dk J J (aC (pu (v:= AS) J (aG J aL J))))
        ·exact fun _ _=>dk J J (aC (mv 1 J (aG J aL J)))
        ·exact fun _ rt=>dk J J (aC (lo aA (((b_16.ext (q.t o)).vN p).ext rt) (a5 f.s f.A f.n f.c) J J J (aG J aL J)))
        ·exact fun _ ox=>dk J J (aC (lo aA (((b_3.ext (q.t o)).vN p).ext ox) (a5 sb Ab nb cb) J J J (aG J aL J)))
        ·intro _ jl
         have D:=H.trans jl
         refine dk J J (dk J J (dk J J (aC ?_)))
         have Cv:ln ((Int.gcd U m:Int))≤4194305:=a8 (gU _ _) (Nat.max_le.2 ⟨a8 LU (by decide),a8 Lm (by decide)⟩)
         refine cl (vs:= [O f.s f.A f.n f.c,O sb Ab nb cb]) D (vP D.size (((ae.ext (q.t o)).updT E p).ext jl).zi (ae.le (aK LU J)) (hm.ext D) (aK lb J)) J (by kernel_rfl) fun _ _ tx uc W=>?_
         obtain⟨_,_,_,_,rfl,pr⟩:=tx
         exact aG J uc ⟨_,_,_,_,rfl,pr⟩
        ·exact fun _ uf=>dk J J (aC (lo aA (ey.ext uf) (a5 aj am ao ak) J J J (aG J aL J)))
        ·intro _ jo
         have D:=H.trans jo
         refine dk J J (aT J J fun _ _ sm _ ow=>?_)
         obtain⟨tr,qw,rj,rz,rfl,fo⟩:=sm
         have fo:=fo.ext ow
         refine dk J J (aC (cl (vs:= [O tr qw rj rz,O aj am ao ak]) D (kR fo.zi (fo.le (aK ph J)) (((cz.ext o).updT E p).ext jo).zi (cz.le (a8 (show ln (1)≤1 by decide+kernel) (by decide)))) J (by kernel_rfl) fun _ _ rp ug W=>?_))
         obtain rfl:=rp
         exact aG J ug rfl
        ·exact fun _ _=>dk J J (dk J J (aC (aI J J J false (lC (by have:=Decidable.not_not.1 h3;exact_mod_cast this)) (aG J aL J))))
        ·exact fun _ _=>dk J J (dk J J (aC (pu (v:= AS) J (aG J aL J))))
        ·intro _ dt
         have D:=H.trans dt
         refine dk J J (dk J J (dk J J (dk J J (dk J J (dk J J (dk J J (aT J J fun _ _ sv _ rm=>?_)))))))
         obtain⟨_,_,_,_,rfl,jh⟩:=sv
         have jh:=jh.ext rm
         refine dk J J (dk J J (dk J J (dk J J (dk J J (dk J J (dk J J (aT J J fun _ _ ud _ tu=>?_)))))))
         obtain⟨_,_,_,_,rfl,jk⟩:=ud
         have jk:=jk.ext tu
         refine dk J J (dk J J (dk J J (dk J J (aC (aX (dC (aO (aQ J (aY (aO (sr (lo aA (((b_14.ext (q.t o)).vN p).ext dt) (a5 k1.s k1.A k1.n k1.c) J J J (lo aA (((b_16.ext (q.t o)).vN p).ext dt) (a5 f.s f.A f.n f.c) J J J ?_)))))))))))))
         refine pu (v:= a9 k1.s k1.A k1.n k1.c f.s f.A f.n f.c) J ?_
         have fe:=(((b_4.ext (q.t o)).vN p).ext dt)
         refine so bC fe [.bool k1.s,we k1.A k1.n k1.c,.bool f.s,we f.A f.n f.c] D ga J J J J fun _ kj jx W=>(mv 1 J (a7 (aV (aU [a9 k1.s k1.A k1.n k1.c f.s f.A f.n f.c,I0] J ⟨⟨_,rfl,bH bC kj [.bool k1.s,we k1.A k1.n k1.c,.bool f.s,we f.A f.n f.c] J (bq J) rfl⟩,rfl,AT⟩ ?_))))
         exact⟨_,rfl,⟨_,_,rfl,⟨_,_,_,_,_,_,_,_,rfl,(((((bg.ext (q.t o)).updT E p).ext dt).updT fe jx)).cast (by rw [hE.1]),(((((ae.ext (q.t o)).updT E p).ext dt).updT fe jx)).cast (by rw [hE.2.1])⟩,(show (no 0:aM)=_ by rw [hE.2.2])⟩,W⟩
 ·have hE:=HC (r:=r) dr
  refine aF (lo aA (gc.ext fx) (a5 sb Ab nb cb) J J J (cl (vs:= [O sb Ab nb cb]) da (iE (hm.ext da) (aK lb J)) J (by kernel_rfl) fun _ _ qo rn H=>?_))
  obtain rfl:=qo
  refine aI J J J true (G9 (by omega)) (a7 (aW J (sr (pu (v:= .agg #[F0,S0,F0,S0]) J ?_))))
  have ki:=(ic.ext rn)
  refine so bC ki [F0,S0,F0,S0] H ga J J J J fun jr kg _ D=>(mv 1 J (a7 (aV (bR (aU [.agg #[F0,S0,F0,S0],no 3] J ⟨⟨_,rfl,bH bC kg [F0,S0,F0,S0] J (bq J) rfl⟩,rfl,AT⟩ ?_)))))
  exact⟨_,rfl,⟨_,_,rfl,⟨_,_,_,_,_,_,_,_,rfl,((Zr.zero (w:=jr) (base:=w.heap.size))).cast (by rw [hE.1]),((Zr.zero (w:=jr) (base:=w.heap.size))).cast (by rw [hE.2.1])⟩,(show (no 3:aM)=_ by rw [hE.2.2])⟩,D⟩
theorem rM:(Tryz.prog.info? 3).map (fun i=>(i.zero,i.size,i.bytes))=some (some (no 0),1,8):=by kernel_rfl
abbrev I6 (x:Nat):aM:= no (x:Int)
theorem rC (xs:List Nat)(i x:Nat):(xs.map I6).set i (no (x:Int))=(xs.set i x).map I6:=by rw [List.map_set]
theorem xN (n:Nat):cJ n (dP .i64 0)=(cJ n 0).map I6:=by rw [List.map_replicate];rfl
structure Ri (b:Nat)(w:a6)(A:Option aB)(n cap:Nat)(ds:List Nat):Prop where
 rv:Rv w 1 A n cap (ds.map I6)
 wf:Wfb b ds
theorem Ri.ext (h:Ri b w A n cap xs)(e:Ext w w'):Ri b w' A n cap xs:=⟨h.rv.ext e,h.wf⟩
theorem Ri.len (h:Ri b w A n cap xs):xs.length=n:=by simpa using h.rv.len
theorem Ri.get (hb:0<b)(h:Ri b w A n cap xs)(hi:i<n):∃a x,A=some a∧Hid (xs.getD i 0=x)∧x<b∧w.cell? (a.add i)=some (no (x:Int)):=by
 obtain⟨a,e,f⟩:=h.rv.get i (by omega)
 have hl:i<xs.length:=by rw [h.len];exact hi
 refine⟨a,_,e,rfl,i6 h.wf i (hb:=hb),?_⟩
 rw [f]
 simp [bK,mE,cC hl]
theorem Bk.digit (hb:0<b)(h:Bk w g t (xs.map I6))(hw:Wfb b xs)(hi:i<xs.length):∃x,Hid (xs.getD i 0=x)∧x<b∧w.cell? ⟨g,i,none⟩=some (no (x:Int)):=by
 refine⟨_,rfl,i6 hw i (hb:=hb),?_⟩
 rw [h.cell (by simpa using hi)]
 simp [bK,mE,cC hi]
theorem Bk.ri (h:Bk w g t (xs.map I6))(hw:Wfb b xs){o:Nat}(hn:n≤cap)(hc:o+cap≤xs.length)(hm:cap≤maxLen):Ri b w (some ⟨g,o,none⟩) n cap ((xs.drop o).take n):=by
 refine⟨?_,jM (E5 hw _) _⟩
 rw [kW,List.map_drop]
 exact h.rv hn (by simpa using hc) hm
theorem Rv.take {s:Nat}(h:Rv w s A n cap vs){m:Nat}(hk:k≤n)(hm:k≤m)(hc:m≤cap):Rv w s A k m (vs.take (k*s)):=by
 have:=h.cut (l:=0) (bJ _) hk hm hc
 simp only [Nat.sub_zero,Nat.zero_mul,gP] at this
 have e:(if m=0 then A else A.map (·.add 0))=A:=by
  have h0:∀a:aB,a.add 0=a:=fun a=>by simp [Addr.add]
  split
  ·rfl
  ·cases A <;> simp [h0]
 rwa [e] at this
theorem Own.take {s:Nat}(h:Own w base t s A n cap vs)(hk:k≤n):Own w base t s A k cap (vs.take (k*s)):=by
 rcases h with⟨rfl,rfl,rfl,rfl⟩ | ⟨g,cs,rfl,hb,e,hn,f,hl,rfl⟩
 ·exact cH ⟨rfl,by omega,rfl,by simp⟩
 ·refine cO ⟨g,cs,rfl,hb,e,by omega,f,hl,?_⟩
  rw [List.take_take,gD (eI s hk)]
def EB (w:a6)(m:Nat)(e:dL)(w':a6):Prop:=
 ∃A n cap,e= .returned (we A n cap)∧Hid (n=(db 65536 m).length)∧Ri 65536 w' A n cap (db 65536 m)∧Own w' w.heap.size 3 1 A n cap ((db 65536 m).map I6)∧Ext w w'
theorem gH:2≤65536:=by decide
theorem sA:WB=65536^4:=by decide
def a0w (A:Option aB)(n cap:Nat)(m:Nat)(w:a6)(e:dL)(w':a6):Prop:=
 ∃k:Nat,Hid (k=(db 65536 m).length)∧k≤n∧e= .returned (we A k cap)∧w=w'
theorem H8 (hx:Ri 65536 w A n cap ds)(hl:n≤1099511627776):aP aN 221 #[we A n cap] w (a0w A n cap (nb 65536 ds) w):=by
 have hlen:=Lib.hid hx.len
 have hcap:=hx.rv.le
 go_enter Tryz.func221,Tryz.ntmps221
 go_wp2_with fail
 go_loop [3] (fun u=>∃k:Nat,k≤n∧u= no (k:Int)∧nb 65536 (ds.take k)=nb 65536 ds) (fun u=>(intOf u).toNat)
 case atStart=>exact⟨n,aZ _,rfl,by rw [←hlen.out,List.take_length]⟩
 case round=>
  obtain⟨k,hk,rfl,hv⟩:=hrel
  have HV:=Lib.hid hv
  clear hv
  by_cases h0:0<k
  ·obtain⟨a,x,rfl,hxk,hxb,hc⟩:=hx.get (by omega) (i:=k-1) (by omega)
   by_cases hz:x=0
   ·subst hz
    go_wp2_with fail
    go_round
    case rel=>
     refine⟨k-1,by omega,by congr 1;omega,?_⟩
     rw [←HV.out,←xX 65536 ds (k-1) (by rw [hlen.out];omega) hxk.out,jO h0]
    case measure=>simp [intOf];omega
   ·have hzb:((x:Int)==0)=false:=by simp;omega
    go_wp2_with fail
    go_ret
    refine⟨k,?_,hk,?_,rfl⟩
    ·have:=yW gH (k:=k) hx.wf (by rw [hlen.out];exact hk) HV.out (cO (by rw [hxk.out];exact hz))
     show k=_
     rw [this,dH,hlen.out];omega
    ·rfl
  ·go_wp2_with fail
   go_ret
   refine⟨k,?_,hk,?_,rfl⟩
   ·have:=yW gH (k:=k) hx.wf (by rw [hlen.out];exact hk) HV.out (cH (by omega))
    show k=_
    rw [this,dH,hlen.out];omega
   ·rfl
theorem Q5 {x w:Nat}(hl:ds.length=n)(h:nb 65536 ds+65536^n*w=x):nb 65536 (ds++ [w%65536])+65536^(n+1)*(w/65536)=x:=by
 rw [CH,hl,cW,bX,iM,←cI,iS]
 exact h
theorem qY (hx:Rd w A n cap xs)(hl:n≤274877906943):aP aN 177 #[we A n cap] w (EB w (nv xs)):=by
 have hlx:=Lib.hid hx.len
 have hmk:=GM (P:=aN) Tryz.underlying140 rM J (by decide) (4*(n:Int)) (by omega) (by omega)
 have et:(4*(n:Int)).toNat=4*n:=by omega
 rw [et] at hmk
 clear et
 go_enter Tryz.func177,Tryz.ntmps177
 go_wp2_with fail
 clear hmk
 obtain⟨g,hg⟩:∃g,w.heap.size=g:=⟨_,rfl⟩
 rw [hg]
 obtain⟨wa,hwa⟩:∃wa,w.alloc (.cells (zc (.int .i64 0) (4*n)) 3)=wa:=⟨_,rfl⟩
 rw [hwa]
 have hoa:Own wa w.heap.size 3 1 (some ⟨g,0,none⟩) 0 (4*n) (([]:List Nat).map I6):=by
  rw [←hwa,←hg]
  exact Own.mk_ (cs:=cJ (4*n) (no 0)) (aZ _) (Bk.new' _ _ _) (by omega) (by rw [eG];omega) (by simp) (by simp)
 have hea:Ext w wa:=by rw [←hwa];exact (Ext.refl w).alloc _
 clear hg hwa
 go_loopw [4,3] (fun u v wr=>∃(i:Nat) (A':Option aB) (c':Nat) (ds:List Nat),i≤n∧u= no (i:Int)∧v= we A' (4*i) c'∧Own wr w.heap.size 3 1 A' (4*i) c' (ds.map I6)∧Wfb 65536 ds∧
  Hid (ds.length=4*i)∧Hid (nb 65536 ds=nv (xs.take i))∧Ext w wr) (fun u v wr=>n-(intOf u).toNat)
 case atStart=>exact⟨0,_,_,[],bJ _,rfl,rfl,hoa,E4 _,rfl,rfl,hea⟩
 case round=>
  obtain⟨i,A',c',ds,hi,rfl,rfl,ho,hw,hdl,hv,hr⟩:=hrel
  clear hoa hea
  by_cases him:i<n
  ·obtain⟨a,x,rfl,hxk,hxb,hcx⟩:=(hx.ext hr).get (i:=i) (by omega)
   go_wp2_with fail
   obtain⟨wo,rfl⟩:∃wo:a6,wo=wr:=⟨_,rfl⟩
   go_loopw [6,3,5] (fun u v y wr=>∃(k:Nat) (A':Option aB) (c':Nat) (ds:List Nat) (q:Nat),k≤4∧u= no (k:Int)∧v= we A' (4*i+k) c'∧y= up (q:Int)∧q≤18446744073709551615∧Own wr w.heap.size 3 1 A' (4*i+k) c' (ds.map I6)∧Wfb 65536 ds∧
    Hid (ds.length=4*i+k)∧Hid (nb 65536 ds+65536^(4*i+k)*q=nv (xs.take (i+1)))∧Hid (q*65536^k<WB)∧Ext w wr) (fun u v y wr=>4-(intOf u).toNat)
   case atStart=>
    refine⟨0,_,_,ds,x,bJ _,rfl,rfl,rfl,hxb,ho,hw,hdl,?_,?_,hr⟩
    ·show _=_
     rw [hv.out,eT xs i (by rw [hlx.out];omega),hxk.out,sA,←Nat.pow_mul];rfl
    ·show _<_
     rw [cP];omega
   case round=>
    obtain⟨k,A2,c2,es,q,hk,rfl,rfl,rfl,hqb,ho2,hw2,hel,hev,hq,hr2⟩:=hrel
    clear ho hw hdl hv
    by_cases hk4:k<4
    ·have r1:(4*i+k+1)*8≤140737488355328:=by omega
     go_wp2_with ((with_reducible refine d5 (some 30) ?_);refine F1 J (.tmp 25) (.tmp 29) 140 J J J Tryz.underlying140 rM J (by decide) (ho2.ext (aL.alloc _)) (Rv.one _ _ _) (by simp [Value.oneCell']) r1 (by rw [eG];omega) (by have:=hr2.size;simp;omega) ?_;intro A3 c3 w3 ho3 hu3 _)
     have he3:Ext w w3:=hu3.ext (hr2.alloc _) (fun p hp=>(ho2.block p hp).1)
     go_roundw
     case rel=>
      refine⟨k+1,A3,c3,es++ [q%65536],q/65536,by omega,by go_num,rfl,by go_num,by omega,?_,zO hw2 (a0v (by omega)),?_,Q5 hel.out hev.out,?_,he3⟩
      ·have:(es++ [q%65536]).map I6=es.map I6++ [no ((q:Int)%65536)]:=by simp
       rw [this];exact ho3
      ·show _=_
       rw [fU,hel.out];rfl
      ·show _<_
       have h2:q/65536*65536≤q:=Nat.div_mul_le_self q 65536
       calc q/65536*65536^(k+1)=(q/65536*65536)*65536^k:=by rw [cW,cL (65536^k),bX]
        _≤q*65536^k:=eI _ h2
        _<WB:=hq.out
     case measure=>simp [intOf];omega
    ·obtain rfl:k=4:=by omega
     have hq0:q=0:=by
      have h:=hq.out
      rw [cP] at h
      omega
     go_wp2_with fail
     go_roundw
     case rel=>
      refine⟨i+1,A2,c2,es,by omega,by go_num,rfl,ho2,hw2,hel.out,?_,hr2⟩
      show _=_
      have h:=hev.out
      rw [hq0,gM,fC] at h
      exact h
     case measure=>simp [intOf];omega
  ·obtain rfl:i=n:=by omega
   have hri:Ri 65536 wr A' (4*i) c' ds:=⟨ho.rv,hw⟩
   go_wp2_with fail
   refine (H8 hri (by omega)).mono ?_
   rintro e w' ⟨k,hk,hkn,rfl,rfl⟩
   go_wp2_with fail
   go_ret
   have e:nb 65536 ds=nv xs:=by rw [hv.out,←hlx.out,List.take_length]
   have e2:=DK gH hw hk.out
   rw [e] at e2
   have hot:=ho.take hkn
   rw [dV,←kW,←e2] at hot
   refine⟨A',k,c',rfl,?_,⟨hot.rv,jX gH _⟩,hot,hr⟩
   show _=_
   rw [hk.out,e]
theorem xP (hx:Ri 65536 w A n cap ds)(hl:n≤1099511627775):aP aN 179 #[we A n cap] w (iF w (nb 65536 ds)):=by
 go_enter Tryz.func179,Tryz.ntmps179
 go_wp2_with fail
 refine (H8 hx (by omega)).mono ?_
 rintro e w' ⟨k,hk,hkn,rfl,rfl⟩
 obtain⟨es,hes⟩:∃es,es=db 65536 (nb 65536 ds):=⟨_,rfl⟩
 have hes2:es=ds.take k:=by rw [hes];exact DK gH hx.wf hk.out
 have hlen:=Lib.hid hx.len
 have he:Ri 65536 w A k cap es:=by
  have h:=hx.rv.take (k:=k) (m:=cap) hkn (by have:=hx.rv.le;omega) (aZ _)
  rw [dV,←kW,←hes2] at h
  exact⟨h,by rw [hes2];exact jM hx.wf _⟩
 have hel:=Lib.hid he.len
 have hval:Hid (nb 65536 es=nb 65536 ds):=by show _=_;rw [hes,gI gH]
 have htop:Hid (k=0∨65536^(k-1)≤nb 65536 ds):=by
  by_cases h0:nb 65536 ds=0
  ·left
   have h:=hk.out
   rw [h0,jH] at h
   exact h
  ·right
   have:=IG gH h0
   rwa [←hk.out] at this
 clear hes hes2 hk
 have hmk:=GM (P:=aN) Tryz.underlying22 iD J (by decide) ((k:Int)/4+1) (by omega) (by omega)
 have et:((k:Int)/4+1).toNat=k/4+1:=by omega
 rw [et] at hmk
 clear et
 go_wp2_with fail
 clear hmk
 obtain⟨g,hg⟩:∃g,w.heap.size=g:=⟨_,rfl⟩
 rw [hg]
 obtain⟨wa,hwa⟩:∃wa,w.alloc (.cells (zc (.int .u64 0) (k/4+1)) 65)=wa:=⟨_,rfl⟩
 rw [hwa]
 have hoa:Own wa w.heap.size 65 1 (some ⟨g,0,none⟩) 0 (k/4+1) (([]:List Nat).map bF):=by
  rw [←hwa,←hg]
  exact Own.mk_ (cs:=cJ (k/4+1) (up 0)) (aZ _) (Bk.new' _ _ _) (by omega) (by rw [eG];omega) (by simp) (by simp)
 have hea:Ext w wa:=by rw [←hwa];exact (Ext.refl w).alloc _
 clear hg hwa
 go_loopw [4,3] (fun u v wr=>∃(i:Nat) (A':Option aB) (c':Nat) (ws:List Nat),4*i≤k+3∧u= no (4*(i:Int))∧v= we A' i c'∧Own wr w.heap.size 65 1 A' i c' (ws.map bF)∧Wf ws∧
  Hid (ws.length=i)∧Hid (nv ws=nb 65536 (es.take (4*i)))∧Ext w wr) (fun u v wr=>k+4-(intOf u).toNat)
 case atStart=>exact⟨0,_,_,[],by omega,rfl,rfl,hoa,MK,rfl,rfl,hea⟩
 case round=>
  obtain⟨i,A',c',ws,hi,rfl,rfl,ho,hw,hwl,hv,hr⟩:=hrel
  clear hoa hea
  by_cases him:4*i<k
  ·go_wp2_with fail
   obtain⟨wo,rfl⟩:∃wo:a6,wo=wr:=⟨_,rfl⟩
   go_loop [6,5] (fun u v=>∃(j q:Nat),j≤4∧u= no ((j:Int)-1)∧v= up (q:Int)∧Hid (q=nb 65536 ((es.drop (4*i+j)).take (4-j)))) (fun u v=>(intOf u+1).toNat)
   case atStart=>exact⟨4,0,aZ _,rfl,rfl,by simp [Hid,nb]⟩
   case round=>
    obtain⟨j,q,hj,rfl,rfl,hq⟩:=hrel
    have hqlt:q<65536^(4-j):=by
     rw [hq.out]
     have h1:=oL (jM (E5 he.wf (4*i+j)) (4-j))
     have h2:65536^(List.take (4-j) (List.drop (4*i+j) es)).length≤65536^(4-j):=eS (by omega) (by rw [dH];omega)
     omega
    by_cases hj0:0<j
    ·have hqb:q≤281474976710655:=by
      have:(65536:Nat)^(4-j)≤65536^3:=eS (by omega) (by omega)
      omega
     clear hqlt
     have hstep:Hid (es.getD (4*i+(j-1)) 0+65536*q=nb 65536 ((es.drop (4*i+(j-1))).take (4-(j-1)))):=by
      show _=_
      have e2:4-(j-1)=(4-j)+1:=by omega
      have e3:4*i+(j-1)+1=4*i+j:=by omega
      rw [e2,J2,e3,hq.out]
     by_cases hin:4*i+(j-1)<k
     ·obtain⟨a,x,rfl,hxk,hxb,hcx⟩:=(he.ext hr).get (by omega) (i:=4*i+(j-1)) (by omega)
      have hin':4*(i:Int)+((j:Int)-1)<(k:Int):=by omega
      go_wp2_with fail
      go_round
      case rel=>exact⟨j-1,x+65536*q,by omega,fQ,fQ,by show _=_;rw [←hstep.out,hxk.out]⟩
      case measure=>simp [intOf];omega
     ·have hin':¬4*(i:Int)+((j:Int)-1)<(k:Int):=by omega
      go_wp2_with fail
      go_round
      case rel=>exact⟨j-1,65536*q,by omega,fQ,fQ,by show _=_;rw [←hstep.out,bK,k8 (by rw [hel.out];omega)];simp⟩
      case measure=>simp [intOf];omega
    ·obtain rfl:j=0:=by omega
     have hqW:q<WB:=by rw [sA];exact hqlt
     clear hqlt
     have r1:(i+1)*8≤140737488355328:=by omega
     go_wp2_with ((with_reducible refine d5 (some 44) ?_);refine F1 J (.tmp 41) (.tmp 43) 22 J J J Tryz.underlying22 iD J (by decide) (ho.ext (aL.alloc _)) (Rv.one _ _ _) (by simp [Value.oneCell']) r1 (by rw [eG];omega) (by have:=hr.size;simp;omega) ?_;intro A3 c3 w3 ho3 hu3 _)
     have he3:Ext w w3:=hu3.ext (hr.alloc _) (fun p hp=>(ho.block p hp).1)
     go_roundw
     case rel=>
      refine⟨i+1,A3,c3,ws++ [q],by omega,fQ,rfl,?_,E8 hw (E6 hqW),?_,?_,he3⟩
      ·have:(ws++ [q]).map bF=ws.map bF++ [up (q:Int)]:=by simp
       rw [this];exact ho3
      ·show _=_
       rw [fU,hwl.out];rfl
      ·show _=_
       rw [IV,hwl.out,hv.out,show 4*(i+1)=4*i+4 from by omega,J1 65536 es (4*i) 4 (by rw [hel.out];omega),hq.out,sA,←Nat.pow_mul]
       rfl
     case measure=>simp [intOf];omega
  ·go_wp2_with fail
   go_ret
   have e1:nv ws=nb 65536 ds:=by rw [hv.out,List.take_of_length_le (by rw [hel.out];omega),hval.out]
   have e2:wd (nv ws)=ws:=by
    refine FA hw ?_
    rw [hwl.out,e1]
    by_cases h0:i=0
    ·exact cH h0
    ·refine cO ?_
     rcases htop.out with h | h
     ·omega
     ·refine a8 ?_ h
      rw [sA,←Nat.pow_mul]
      exact eS (by omega) (by omega)
   rw [←e1]
   rw [←e2] at ho
   refine⟨A',i,c',rfl,?_,ho.rd (by rw [e2];exact hw),ho,hr⟩
   show _=_
   rw [e2,hwl.out]
theorem H9 {x y:Nat}(hx:Ri 65536 w A n cap (db 65536 x))(hl:n≤1099511627776)(hy:Ri 65536 w B n' cap' (db 65536 y))(hl':n'≤1099511627776):aP aN 186 #[we A n cap,we B n' cap'] w (wF x y w):=by
 have hlx:=Lib.hid hx.len
 have hly:=Lib.hid hy.len
 rcases Nat.lt_trichotomy n n' with hlt | rfl | hgt
 ·have h1:((n:Int) != (n':Int))=true:=by simp;omega
  go_enter Tryz.func186,Tryz.ntmps186
  go_wp2_with fail
  go_ret
  exact nS (zD (J9 gH (by rw [hlx.out,hly.out];exact hlt))) (Ext.refl w)
 ·have h1:((n:Int) != (n:Int))=false:=by simp
  obtain⟨ds,hds⟩:∃ds,ds=db 65536 x:=⟨_,rfl⟩
  obtain⟨es,hes⟩:∃es,es=db 65536 y:=⟨_,rfl⟩
  have hvx:=Lib.hid (show nb 65536 ds=x by rw [hds,gI gH])
  have hvy:=Lib.hid (show nb 65536 es=y by rw [hes,gI gH])
  rw [←hds] at hx hlx
  rw [←hes] at hy hly
  clear hds hes
  go_enter Tryz.func186,Tryz.ntmps186
  go_wp2_with fail
  go_loopw [5] (fun u wr=>∃i:Nat,i≤n∧u= no ((i:Int)-1)∧Hid (dY (nb 65536 (ds.take i)) (nb 65536 (es.take i))=dY x y)∧Ext w wr) (fun u wr=>(intOf u+1).toNat)
  case atStart=>exact⟨n,aZ _,rfl,(show _=_ by rw [List.take_of_length_le (by rw [hlx.out];omega),List.take_of_length_le (by rw [hly.out];omega),hvx.out,hvy.out]),Ext.refl w⟩
  case round=>
   obtain⟨i,hi,rfl,hv,hext⟩:=hrel
   by_cases h0:0<i
   ·obtain⟨a,p,rfl,hxk,hxb,hc⟩:=(hx.ext hext).get (by omega) (i:=i-1) (by omega)
    obtain⟨b,q,rfl,hyk,hyb,hd⟩:=(hy.ext hext).get (by omega) (i:=i-1) (by omega)
    have hi':i-1+1=i:=by omega
    have hcast:((i-1:Nat):Int)=(i:Int)-1:=by omega
    have b1:(0:Int)≤(i:Int)-1:=by omega
    rcases Nat.lt_trichotomy p q with hlt | rfl | hgt
    ·go_wp2_with fail
     go_quiet (fail)
     go_wp2_with fail
     go_ret
     refine nS ?_ (by repeat (first | exact Ext.refl _ | assumption | apply Ext.drewN | apply Ext.drew | apply Ext.alloc))
     rw [←hv.out,←hi']
     exact zD (IZ (by omega) hx.wf (by rw [hlx.out];omega) (by rw [hly.out];omega) (by rw [hxk.out,hyk.out];exact hlt))
    ·go_wp2_with fail
     go_quiet (fail)
     go_wp2_with fail
     go_quiet (fail)
     go_wp2_with fail
     go_roundw
     case rel=>
      refine⟨i-1,by omega,by congr 1;omega,?_,(by repeat (first | exact Ext.refl _ | assumption | apply Ext.drewN | apply Ext.drew | apply Ext.alloc))⟩
      show _=_
      rw [←hv.out,←ZH (k:=i-1) (by rw [hlx.out];omega) (by rw [hly.out];omega) (by rw [hxk.out,hyk.out]),hi']
     case measure=>simp [intOf];omega
    ·go_wp2_with fail
     go_quiet (fail)
     go_wp2_with fail
     go_quiet (fail)
     go_wp2_with fail
     go_ret
     refine nS ?_ (by repeat (first | exact Ext.refl _ | assumption | apply Ext.drewN | apply Ext.drew | apply Ext.alloc))
     rw [←hv.out,←hi']
     exact zE (IZ (by omega) hy.wf (by rw [hly.out];omega) (by rw [hlx.out];omega) (by rw [hxk.out,hyk.out];exact hgt))
   ·go_wp2_with fail
    go_ret
    refine nS ?_ hext
    rw [←hv.out,show i=0 from by omega]
    simp [LQ]
 ·have h1:((n:Int) != (n':Int))=true:=by simp;omega
  go_enter Tryz.func186,Tryz.ntmps186
  go_wp2_with fail
  go_ret
  exact nS (zE (J9 gH (by rw [hlx.out,hly.out];exact hgt))) (Ext.refl w)
theorem pR (hw:Wf xs):(db 65536 (nv xs)).length≤4*xs.length:=by
 refine kD gH ?_
 have:=iV hw
 rwa [sA,←Nat.pow_mul] at this
theorem SH (hx:Rd w A n cap xs)(hl:n≤274877906943):aP aN 180 #[we A n cap] w (iF w (nv xs)):=by
 go_enter Tryz.func180,Tryz.ntmps180
 go_wp2_with fail
 refine (qY hx hl).mono ?_
 rintro e w1 ⟨A1,n1,c1,rfl,hn1,hr1,_,hx1⟩
 have hb:n1≤1099511627775:=by have:=pR hx.wf;rw [hn1.out];rw [hx.len] at this;omega
 go_wp2_with fail
 refine (xP hr1 hb).mono ?_
 rintro e w2 ⟨A2,n2,c2,rfl,hn2,hr2,ho2,hx2⟩
 go_wp2_with fail
 go_ret
 rw [gI gH] at hn2 hr2 ho2
 exact⟨A2,n2,c2,rfl,hn2,hr2,ho2.mono hx1.size,hx1.trans hx2⟩
theorem SI (hx:Rd w A n cap xs)(hl:n≤274877906943)(hy:Rd w B n' cap' ys)(hl':n'≤274877906943):aP aN 128 #[we A n cap,we B n' cap'] w (wF (nv xs) (nv ys) w):=by
 go_enter Tryz.func128,Tryz.ntmps128
 go_wp2_with fail
 refine (qY hx hl).mono ?_
 rintro e w1 ⟨A1,n1,c1,rfl,hn1,hr1,_,hx1⟩
 have hb1:n1≤1099511627775:=by have:=pR hx.wf;rw [hn1.out];rw [hx.len] at this;omega
 go_wp2_with fail
 refine (qY (hy.ext hx1) hl').mono ?_
 rintro e w2 ⟨A2,n2,c2,rfl,hn2,hr2,_,hx2⟩
 have hb2:n2≤1099511627775:=by have:=pR hy.wf;rw [hn2.out];rw [hy.len] at this;omega
 go_wp2_with fail
 refine (H9 (hr1.ext hx2) (by omega) hr2 (by omega)).mono ?_
 rintro e w3 ⟨c,hc,hc1,hc2,rfl,hx3⟩
 go_wp2_with fail
 go_ret
 exact⟨c,hc,hc1,hc2,rfl,(hx1.trans hx2).trans hx3⟩
theorem BZ (hx:Ri 65536 w A n cap ds)(hl:n≤1099511627776){i:Int}(h0:0≤i:=by omega)(hi:i≤4398046511104:=by omega):aP aN 187 #[we A n cap,no i] w fun e w'=>∃x:Nat,Hid (x=ds.getD i.toNat 0)∧x≤65535∧e= .returned (no (x:Int))∧w=w':=by
 obtain⟨k,rfl⟩:=Int.eq_ofNat_of_zero_le h0
 rw [gZ]
 have hlx:=Lib.hid hx.len
 by_cases hk:k<n
 ·obtain⟨a,x,rfl,hxk,hxb,hc⟩:=hx.get (by omega) (i:=k) hk
  go_enter Tryz.func187,Tryz.ntmps187
  go_wp2_with fail
  go_ret
  exact⟨x,hxk.out.symm,by omega,rfl,rfl⟩
 ·go_enter Tryz.func187,Tryz.ntmps187
  go_wp2_with fail
  go_ret
  refine⟨0,?_,by omega,rfl,rfl⟩
  show _=_
  rw [bK,k8 (by rw [hlx.out];omega)];rfl
theorem J0 (b:Nat)(xs:List Nat)(k:Nat):nb b (xs.take (k+1))=nb b (xs.take k)+b^k*xs.getD k 0:=by
 by_cases h:k<xs.length
 ·exact hZ b xs k h
 ·rw [List.take_of_length_le (by omega),List.take_of_length_le (by omega),bK,k8 (by omega)];simp
theorem a0r {x y:Nat}(hli:i<l.length)(h:nb b (l.take i)+b^i*c=nb b (xs.take i)+nb b (ys.take i))(hx:x=xs.getD i 0)(hy:y=ys.getD i 0){s:Nat}(hs:s+b*d=x+y+c):nb b ((l.set i s).take (i+1))+b^(i+1)*d=nb b (xs.take (i+1))+nb b (ys.take (i+1)):=by
 have o:(l.set i s).getD i 0=s:=by simp [bK,hli]
 have e:(l.set i s).take i=l.take i:=by rw [List.take_set_of_le (aZ i)]
 rw [hZ b _ i (by rw [List.length_set];exact hli),o,e,J0 b xs i,J0 b ys i,←hx,←hy,cW,bX]
 have f:b^i*(s+b*d)=b^i*(x+y+c):=by rw [hs]
 simp only [cI] at f
 omega
theorem SJ (hx:Rd w A n cap xs)(hl:n≤137438953471)(hy:Rd w B n' cap' ys)(hl':n'≤137438953471):aP aN 129 #[we A n cap,we B n' cap'] w (iF w (nv xs+nv ys)):=by
 go_enter Tryz.func129,Tryz.ntmps129
 go_wp2_with fail
 refine (qY hx (by omega)).mono ?_
 rintro e w1 ⟨A1,p,c1,rfl,hp,hr1,_,hx1⟩
 have hb1:p≤549755813888:=by have:=pR hx.wf;rw [hp.out];rw [hx.len] at this;omega
 go_wp2_with fail
 refine (qY (hy.ext hx1) (by omega)).mono ?_
 rintro e w2 ⟨A2,q,c2,rfl,hq,hr2,_,hx2⟩
 have hb2:q≤549755813888:=by have:=pR hy.wf;rw [hq.out];rw [hy.len] at this;omega
 have hr1':=hr1.ext hx2
 have hx12:=hx1.trans hx2
 clear hr1 hx1 hx2
 obtain⟨ds,hds⟩:∃ds,ds=db 65536 (nv xs):=⟨_,rfl⟩
 obtain⟨es,hes⟩:∃es,es=db 65536 (nv ys):=⟨_,rfl⟩
 have hvx:=Lib.hid (show nb 65536 ds=nv xs by rw [hds,gI gH])
 have hvy:=Lib.hid (show nb 65536 es=nv ys by rw [hes,gI gH])
 have hdl:=Lib.hid hr1'.len
 have hel:=Lib.hid hr2.len
 rw [←hds] at hr1' hdl
 rw [←hes] at hr2 hel
 clear hds hes hp hq hx hy
 go_upto_if 21 with (fail)
 go_cut [7] (fun u wc=>∃m:Nat,u= no (m:Int)∧p≤m∧q≤m∧m≤549755813888∧w2=wc)
 case first=>
  by_cases hlt:p<q
  ·go_wp2_with fail
   go_meet
   case rel=>exact⟨q,rfl,by omega,by omega,hb2,rfl⟩
  ·go_wp2_with fail
   go_meet
   case rel=>exact⟨p,rfl,by omega,by omega,hb1,rfl⟩
 case rest=>
  obtain⟨m,rfl,hpm,hqm,hmb,rfl⟩:=hcut
  have hmk:=kN (P:=aN) Tryz.underlying140 rM J (by decide) ((m:Int)+1) (by omega) (by omega)
  have et:((m:Int)+1).toNat=m+1:=by omega
  rw [et] at hmk
  clear et
  go_wp2_with fail
  clear hmk
  obtain⟨g,hg⟩:∃g,w2.heap.size=g:=⟨_,rfl⟩
  rw [hg]
  obtain⟨wa,hwa⟩:∃wa,w2.alloc (.cells (zc (.int .i64 0) (m+1)) 3)=wa:=⟨_,rfl⟩
  rw [hwa]
  have hbk:Bk wa g 3 ((cJ (m+1) 0).map I6):=by
   rw [←hwa,←hg,←xN];exact Bk.new' _ _ _
  have hea:Ext w2 wa:=by rw [←hwa];exact (Ext.refl w2).alloc _
  have hgs:w.heap.size≤g:=by rw [←hg];exact hx12.size
  have hgc:w2.heap.size≤g:=by rw [hg];exact aZ _
  clear hg hwa
  go_loopw [10,9] (fun u v wr=>∃(i c:Nat) (l:List Nat),i≤m∧c≤1∧u= no (i:Int)∧v= no (c:Int)∧Hid (l.length=m+1)∧Wfb 65536 l∧Bk wr g 3 (l.map I6)∧
   Hid (nb 65536 (l.take i)+65536^i*c=nb 65536 (ds.take i)+nb 65536 (es.take i))∧Ext w2 wr) (fun u v wr=>m-(intOf u).toNat)
  case atStart=>exact⟨0,0,_,bJ _,bJ _,rfl,rfl,List.length_replicate,oR _ (hb:=(by omega)),hbk,by simp [Hid,nb],hea⟩
  case round=>
   obtain⟨i,c,l,hi,hc,rfl,rfl,hll,hwl,hb,hv,hr⟩:=hrel
   clear hbk hea
   by_cases him:i<m
   ·obtain⟨o,ho,_,hco⟩:=hb.digit (by omega) hwl (i:=i) (by rw [hll.out];omega)
    have hfr:=hb.frozen i
    go_wp2_with fail
    refine (BZ (hr1'.ext hr) (by omega) (i:=(i:Int))).mono ?_
    rintro e w' ⟨x,hx,hxb,rfl,rfl⟩
    go_wp2_with fail
    refine (BZ (hr2.ext hr) (by omega) (i:=(i:Int))).mono ?_
    rintro e w' ⟨y,hy,hyb,rfl,rfl⟩
    rw [gZ] at hx hy
    go_wp2_with fail
    go_roundw
    case rel=>
     have ec:((x:Int)+(y:Int)+(c:Int))%65536=(((x+y+c)%65536:Nat):Int):=by omega
     refine⟨i+1,(x+y+c)/65536,l.set i ((x+y+c)%65536),by omega,by omega,by go_num,fQ,by show _=_;rw [List.length_set];exact hll.out,i0 hwl i,?_,
      a0r (by rw [hll.out];omega) hv.out hx.out hy.out (iS _ _),hr.setCell hgc _⟩
     rw [←rC,ec];exact hb.set i _
    case measure=>simp [intOf];omega
   ·obtain rfl:i=m:=by omega
    obtain⟨o,ho,_,hco⟩:=hb.digit (by omega) hwl (i:=i) (by rw [hll.out];omega)
    have hfr:=hb.frozen i
    have hb2:=hb.set i (no (c:Int))
    rw [rC] at hb2
    have hll2:Hid ((l.set i c).length=i+1):=by show _=_;rw [List.length_set];exact hll.out
    have hwl2:Wfb 65536 (l.set i c):=i0 hwl i
    have hr3:Ri 65536 (wr.setCell ⟨g,i,none⟩ (no (c:Int))) (some ⟨g,0,none⟩) (i+1) (i+1) (l.set i c):=by
     have:=hb2.ri hwl2 (o:=0) (n:=i+1) (cap:=i+1) (aZ _) (by rw [hll2.out];omega) (by rw [eG];omega)
     rwa [gP,List.take_of_length_le (by rw [hll2.out];omega)] at this
    have hval:Hid (nb 65536 (l.set i c)=nv xs+nv ys):=by
     show _=_
     have e1:(l.set i c).getD i 0=c:=by
      have:=hll.out
      simp [bK,this]
     have e2:(l.set i c).take i=l.take i:=by rw [List.take_set_of_le (aZ i)]
     have e3:=hZ 65536 (l.set i c) i (by rw [hll2.out];omega)
     rw [e1,e2,List.take_of_length_le (by rw [hll2.out];omega),hv.out,List.take_of_length_le (by rw [hdl.out];omega),List.take_of_length_le (by rw [hel.out];omega)] at e3
     rw [e3,hvx.out,hvy.out]
    go_wp2_with fail
    refine (xP hr3 (by omega)).mono ?_
    rintro e w3 ⟨A3,n3,c3,rfl,hn3,hr4,ho4,hx3⟩
    go_wp2_with fail
    go_ret
    rw [hval.out] at hn3 hr4 ho4
    exact⟨A3,n3,c3,rfl,hn3,hr4,ho4.mono (by have:=hx12.size;have:=hr.size;simp;omega),((hx12.trans hr).setCell hgs _).trans hx3⟩
theorem Z7 {x q:Nat}(hl:n<l.length)(h:nb 65536 (l.take n)+65536^n*q=x):nb 65536 ((l.set n (q%65536)).take (n+1))+65536^(n+1)*(q/65536)=x:=by
 rw [nG 65536 hl,cW,bX,iM,←cI,iS]
 exact h
theorem H7 (hx:Rd w A n cap xs)(hl:n≤274877906943):aP aN 188 #[we A n cap] w (EB w (nv xs)):=by
 have hlx:=Lib.hid hx.len
 have hmk:=kN (P:=aN) Tryz.underlying140 rM J (by decide) (4*(n:Int)) (by omega) (by omega)
 have et:(4*(n:Int)).toNat=4*n:=by omega
 rw [et] at hmk
 clear et
 go_enter Tryz.func188,Tryz.ntmps188
 go_wp2_with fail
 clear hmk
 obtain⟨g,hg⟩:∃g,w.heap.size=g:=⟨_,rfl⟩
 rw [hg]
 obtain⟨wa,hwa⟩:∃wa,w.alloc (.cells (zc (.int .i64 0) (4*n)) 3)=wa:=⟨_,rfl⟩
 rw [hwa]
 have hbk:Bk wa g 3 ((cJ (4*n) 0).map I6):=by
  rw [←hwa,←hg,←xN];exact Bk.new' _ _ _
 have hea:Ext w wa:=by rw [←hwa];exact (Ext.refl w).alloc _
 have hgs:w.heap.size≤g:=by rw [hg];exact aZ _
 clear hg hwa
 go_loopw [4] (fun u wr=>∃(i:Nat) (l:List Nat),i≤n∧u= no (i:Int)∧Bk wr g 3 (l.map I6)∧Wfb 65536 l∧Hid (l.length=4*n)∧Hid (nb 65536 (l.take (4*i))=nv (xs.take i))∧Ext w wr) (fun u wr=>n-(intOf u).toNat)
 case atStart=>exact⟨0,_,bJ _,rfl,hbk,oR _ (hb:=(by omega)),List.length_replicate,rfl,hea⟩
 case round=>
  obtain⟨i,l,hi,rfl,hb,hw,hll,hv,hr⟩:=hrel
  clear hbk hea
  by_cases him:i<n
  ·obtain⟨a,x,rfl,hxk,hxb,hcx⟩:=(hx.ext hr).get (i:=i) (by omega)
   go_wp2_with fail
   obtain⟨wo,rfl⟩:∃wo:a6,wo=wr:=⟨_,rfl⟩
   go_loopw [6,5] (fun u y wr=>∃(k:Nat) (l:List Nat) (q:Nat),k≤4∧u= no (k:Int)∧y= up (q:Int)∧q≤18446744073709551615∧Bk wr g 3 (l.map I6)∧Wfb 65536 l∧
    Hid (l.length=4*n)∧Hid (nb 65536 (l.take (4*i+k))+65536^(4*i+k)*q=nv (xs.take (i+1)))∧Hid (q*65536^k<WB)∧Ext w wr) (fun u y wr=>4-(intOf u).toNat)
   case atStart=>
    refine⟨0,l,x,bJ _,rfl,rfl,hxb,hb,hw,hll,?_,?_,hr⟩
    ·show _=_
     rw [show 4*i+0=4*i from rfl,hv.out,eT xs i (by rw [hlx.out];omega),hxk.out,sA,←Nat.pow_mul]
    ·show _<_
     rw [cP];omega
   case round=>
    obtain⟨k,l2,q,hk,rfl,rfl,hqb,hb2,hw2,hl2,hev,hq,hr2⟩:=hrel
    clear hb hw hll hv
    by_cases hk4:k<4
    ·obtain⟨o,ho,_,hco⟩:=hb2.digit (by omega) hw2 (i:=4*i+k) (by rw [hl2.out];omega)
     have hfr:=hb2.frozen (4*i+k)
     go_wp2_with fail
     go_roundw
     case rel=>
      refine⟨k+1,l2.set (4*i+k) (q%65536),q/65536,by omega,by go_num,by go_num,by omega,?_,i0 hw2 _ (hx:=(f7 q (by omega))),by show _=_;rw [List.length_set];exact hl2.out,Z7 (n:=4*i+k) (by rw [hl2.out];omega) hev.out,?_,hr2.setCell hgs _⟩
      ·have e:((q:Int)%65536)=((q%65536:Nat):Int):=by omega
       rw [←rC,e];exact hb2.set _ _
      ·show _<_
       have h2:q/65536*65536≤q:=Nat.div_mul_le_self q 65536
       calc q/65536*65536^(k+1)=(q/65536*65536)*65536^k:=by rw [cW,cL (65536^k),bX]
        _≤q*65536^k:=eI _ h2
        _<WB:=hq.out
     case measure=>simp [intOf];omega
    ·obtain rfl:k=4:=by omega
     have hq0:q=0:=by
      have h:=hq.out
      rw [cP] at h
      omega
     go_wp2_with fail
     go_roundw
     case rel=>
      refine⟨i+1,l2,by omega,by go_num,hb2,hw2,hl2.out,?_,hr2⟩
      show _=_
      have h:=hev.out
      rw [hq0,gM,fC] at h
      exact h
     case measure=>simp [intOf];omega
  ·obtain rfl:i=n:=by omega
   have hval:Hid (nb 65536 l=nv xs):=by
    show _=_
    have h:=hv.out
    rwa [List.take_of_length_le (by rw [hll.out];omega),List.take_of_length_le (by rw [hlx.out];omega)] at h
   clear hv
   go_wp2_with fail
   go_loop [7] (fun u=>∃k:Nat,k≤4*i∧u= no (k:Int)∧Hid (nb 65536 (l.take k)=nb 65536 l)) (fun u=>(intOf u).toNat)
   case atStart=>exact⟨4*i,aZ _,by go_num,(show _=_ by rw [List.take_of_length_le (by rw [hll.out];omega)])⟩
   case round=>
    obtain⟨k,hk,rfl,hv⟩:=hrel
    have fin:k=0∨l.getD (k-1) 0≠0→EB w (nv xs) (.returned (we (some ⟨g,0,none⟩) k (4*i))) wr:=by
     intro h
     have e:=yW gH (k:=k) hw (by rw [hll.out];exact hk) hv.out h
     rw [hval.out] at e
     have ho:Own wr w.heap.size 3 1 (some ⟨g,0,none⟩) k (4*i) ((db 65536 (nv xs)).map I6):=
      Own.mk_ hgs hb hk (by rw [eG];omega) (by rw [List.length_map,hll.out,dV]) (by rw [dV,←kW,e])
     refine⟨_,_,_,rfl,?_,⟨ho.rv,jX gH _⟩,ho,hr⟩
     show _=_
     rw [e,dH,hll.out];omega
    have FIN:=Lib.hid fin
    clear fin
    by_cases h0:0<k
    ·obtain⟨x,hxk,hxb,hc⟩:=hb.digit (by omega) hw (i:=k-1) (by rw [hll.out];omega)
     by_cases hz:x=0
     ·subst hz
      go_wp2_with fail
      go_round
      case rel=>
       refine⟨k-1,by omega,fQ,?_⟩
       show _=_
       rw [←hv.out,←xX 65536 l (k-1) (by rw [hll.out];omega) hxk.out,jO h0]
      case measure=>simp [intOf];omega
     ·have hzb:((x:Int)==0)=false:=by simp;omega
      go_wp2_with fail
      go_ret
      exact FIN.out (cO (by rw [hxk.out];exact hz))
    ·go_wp2_with fail
     go_ret
     exact FIN.out (cH (by omega))
theorem SC (hx:Ri 65536 w A n cap ds)(hl:n≤1099511627775):aP aN 189 #[we A n cap] w (iF w (nb 65536 ds)):=by
 have hlx:=Lib.hid hx.len
 obtain⟨m,hm⟩:∃m,m=(n+3)/4:=⟨_,rfl⟩
 have hm1:n≤4*m:=by omega
 have hm2:4*m<n+4:=by omega
 have hmk:=kN (P:=aN) Tryz.underlying22 iD J (by decide) (((n:Int)+3)/4) (by omega) (by omega)
 have et:(((n:Int)+3)/4).toNat=m:=by omega
 rw [et] at hmk
 clear et hm
 go_enter Tryz.func189,Tryz.ntmps189
 go_wp2_with fail
 clear hmk
 obtain⟨g,hg⟩:∃g,w.heap.size=g:=⟨_,rfl⟩
 rw [hg]
 obtain⟨wa,hwa⟩:∃wa,w.alloc (.cells (zc (.int .u64 0) m) 65)=wa:=⟨_,rfl⟩
 rw [hwa]
 have hbk:Bk wa g 65 ((cJ m 0).map bF):=by
  rw [←hwa,←hg,←j7];exact Bk.new' _ _ _
 have hea:Ext w wa:=by rw [←hwa];exact (Ext.refl w).alloc _
 have hgs:w.heap.size≤g:=by rw [hg];exact aZ _
 clear hg hwa
 go_loopw [4] (fun u wr=>∃(i:Nat) (l:List Nat),i≤n∧u= no ((i:Int)-1)∧Bk wr g 65 (l.map bF)∧Hid (l.length=m)∧Hid (∀t,t<m→l.getD t 0=l7 ds i t)∧Ext w wr) (fun u wr=>(intOf u+1).toNat)
 case atStart=>
  refine⟨n,_,aZ _,rfl,hbk,List.length_replicate,?_,hea⟩
  intro t ht
  have e1:(cJ m 0).getD t 0=0:=by simp [bK,ht]
  unfold l7
  rw [e1,List.drop_eq_nil_of_le (by rw [hlx.out];omega)];simp [nb]
 case round=>
  obtain⟨i,l,hi,rfl,hb,hll,hv,hr⟩:=hrel
  clear hbk hea
  have hwl:Wf l:=by
   intro x hx'
   obtain⟨t,ht,rfl⟩:=List.getElem_of_mem hx'
   have:=hv.out t (by rw [←hll.out];exact ht)
   rw [bK,cC ht,oU] at this
   rw [this];exact EV hx.wf _ _
  by_cases h0:0<i
  ·obtain⟨j,rfl⟩:∃j,i=j+1:=⟨i-1,by omega⟩
   obtain⟨a,d,rfl,hdk,hdb,hcd⟩:=(hx.ext hr).get (by omega) (i:=j) (by omega)
   obtain⟨x,hxk,hxb,hcx⟩:=hb.word hwl (i:=j/4) (by rw [hll.out];omega)
   have hfr:=hb.frozen (j/4)
   have hval:Hid (d+65536*x=l7 ds j (j/4)):=by
    show _=_
    rw [NQ,hdk.out,←hv.out (j/4) (by omega),hxk.out]
   have hbd:d+65536*x≤18446744073709551615:=by
    rw [hval.out]
    have:=EV hx.wf j (j/4)
    rw [cP] at this;omega
   have hj:((j+1:Nat):Int)-1=(j:Int):=by omega
   rw [hj]
   clear hj h0
   have c1:(j:Int)/4<(m:Int):=by omega
   have c2:(0:Int)≤(j:Int)/4:=by omega
   go_wp2_with fail
   go_region
   go_wp2_with fail
   go_roundw
   case rel=>
    have ev:(x:Int)*65536+(d:Int)=((d+65536*x:Nat):Int):=by omega
    refine⟨j,l.set (j/4) (d+65536*x),by omega,fQ,?_,by show _=_;rw [List.length_set];exact hll.out,?_,(hr.setCell hgs _).drew⟩
    ·rw [←dX,ev];exact (hb.set _ _).drew
    ·intro t ht
     by_cases htj:t=j/4
     ·subst htj
      rw [tL (by rw [hll.out];omega),hval.out]
     ·rw [getD_set_ne (fun e=>htj e.symm),hv.out t ht,NR htj]
   case measure=>simp [intOf]
  ·obtain rfl:i=0:=by omega
   have hval:Hid (nv l=nb 65536 ds):=NS (fun t ht=>hv.out t (by rw [←hll.out];exact ht)) (by rw [hll.out,hlx.out];exact hm1) (by rw [hll.out,hlx.out];exact hm2)
   clear hv
   go_wp2_with fail
   go_loop [5] (fun u=>∃k:Nat,k≤m∧u= no (k:Int)∧Hid (nv (l.take k)=nv l)) (fun u=>(intOf u).toNat)
   case atStart=>exact⟨m,aZ _,rfl,(show _=_ by rw [List.take_of_length_le (by rw [hll.out];omega)])⟩
   case round=>
    obtain⟨k,hk,rfl,hv⟩:=hrel
    have fin:k=0∨l.getD (k-1) 0≠0→iF w (nb 65536 ds) (.returned (we (some ⟨g,0,none⟩) k m)) wr:=by
     intro h
     have e:=uJ (k:=k) hwl (by rw [hll.out];exact hk) hv.out h
     rw [←hval.out]
     exact sB (ys:=l) hgs hb hll.out hk (by rw [eG];omega) e.symm hr
    have FIN:=Lib.hid fin
    clear fin
    by_cases h0:0<k
    ·obtain⟨x,hxk,hxb,hc⟩:=hb.word hwl (i:=k-1) (by rw [hll.out];omega)
     by_cases hz:x=0
     ·subst hz
      go_wp2_with fail
      go_round
      case rel=>
       refine⟨k-1,by omega,fQ,?_⟩
       show _=_
       rw [←hv.out,←rB l (k-1) (by rw [hll.out];omega) hxk.out,jO h0]
      case measure=>simp [intOf];omega
     ·have hzb:((x:Int)==0)=false:=by simp;omega
      go_wp2_with fail
      go_ret
      exact FIN.out (cO (by rw [hxk.out];exact hz))
    ·go_wp2_with fail
     go_ret
     exact FIN.out (cH (by omega))
theorem UM {m o x y P j s:Nat}(hk:k=i+j)(hkm:k<m)(hml:m≤l.length)(h:nb b (l.take m)+b^k*c=P+x*(b^i*nb b (ys.take j)))(ho:l.getD k 0=o)(hj:j<ys.length)(hy:ys.getD j 0=y)(hs:s+b*d=o+x*y+c):nb b ((l.set k s).take m)+b^(k+1)*d=P+x*(b^i*nb b (ys.take (j+1))):=by
 have p:=vB b (l:=l.take m) (k:=k) (by rw [dH];omega) s
 rw [yH hkm,ho] at p
 rw [List.take_set,hZ b ys j hj,hy,cI (b^i),cI x,←iM,←h,←bX (b^i),←Nat.pow_add,←hk,cW,bX (b^k)]
 have e:b^k*(s+b*d)=b^k*(o+x*y+c):=by rw [hs]
 simp only [cI] at e
 have f:b^k*(x*y)=x*(b^k*y):=by rw [←bX,cL (b^k) x,bX]
 rw [f] at e
 omega
theorem UP {x y B:Nat}(hx:x≤B)(hy:y≤B):((x:Int)*(y:Int))≤((B*B:Nat):Int)∧0≤((x:Int)*(y:Int))∧((x:Int)*(y:Int))=((x*y:Nat):Int):=by
 have h:x*y≤B*B:=jP hx hy
 rw [←mX]
 omega
theorem SE (hx:Rd w A n cap xs)(hl:n≤68719476735)(hy:Rd w B n' cap' ys)(hl':n'≤68719476735):aP aN 131 #[we A n cap,we B n' cap'] w (iF w (nv xs*nv ys)):=by
 go_enter Tryz.func131,Tryz.ntmps131
 go_wp2_with fail
 refine (H7 hx (by omega)).mono ?_
 rintro e w1 ⟨A1,p,c1,rfl,hp,hr1,_,hx1⟩
 have hbp:p≤274877906944:=by have:=pR hx.wf;rw [hp.out];rw [hx.len] at this;omega
 go_wp2_with fail
 refine (H7 (hy.ext hx1) (by omega)).mono ?_
 rintro e w2 ⟨A2,q,c2,rfl,hq,hr2,_,hx2⟩
 have hbq:q≤274877906944:=by have:=pR hy.wf;rw [hq.out];rw [hy.len] at this;omega
 have hr1':=hr1.ext hx2
 have hx12:=hx1.trans hx2
 clear hr1 hx1 hx2
 obtain⟨ds,hds⟩:∃ds,ds=db 65536 (nv xs):=⟨_,rfl⟩
 obtain⟨es,hes⟩:∃es,es=db 65536 (nv ys):=⟨_,rfl⟩
 have hvx:=Lib.hid (show nb 65536 ds=nv xs by rw [hds,gI gH])
 have hvy:=Lib.hid (show nb 65536 es=nv ys by rw [hes,gI gH])
 have hdl:=Lib.hid hr1'.len
 have hel:=Lib.hid hr2.len
 rw [←hds] at hr1' hdl
 rw [←hes] at hr2 hel
 clear hds hes hp hq hx hy
 have hmk:=kN (P:=aN) Tryz.underlying140 rM J (by decide) ((p:Int)+(q:Int)) (by omega) (by omega)
 have et:((p:Int)+(q:Int)).toNat=p+q:=by omega
 rw [et] at hmk
 clear et
 go_wp2_with fail
 clear hmk
 obtain⟨g,hg⟩:∃g,w2.heap.size=g:=⟨_,rfl⟩
 rw [hg]
 obtain⟨wa,hwa⟩:∃wa,w2.alloc (.cells (zc (.int .i64 0) (p+q)) 3)=wa:=⟨_,rfl⟩
 rw [hwa]
 have hbk:Bk wa g 3 ((cJ (p+q) 0).map I6):=by
  rw [←hwa,←hg,←xN];exact Bk.new' _ _ _
 have hea:Ext w2 wa:=by rw [←hwa];exact (Ext.refl w2).alloc _
 have hgs:w.heap.size≤g:=by rw [←hg];exact hx12.size
 have hgc:w2.heap.size≤g:=by rw [hg];exact aZ _
 clear hg hwa
 go_loopw [8] (fun u wr=>∃(i:Nat) (l:List Nat),i≤p∧u= no (i:Int)∧Hid (l.length=p+q)∧Wfb 65536 l∧Bk wr g 3 (l.map I6)∧
  Hid (nb 65536 (l.take (i+q))=nb 65536 (ds.take i)*nb 65536 es)∧Ext w2 wr) (fun u wr=>p-(intOf u).toNat)
 case atStart=>
  refine⟨0,_,bJ _,rfl,List.length_replicate,oR _ (hb:=(by omega)),hbk,?_,hea⟩
  show _=_
  rw [List.take_replicate,vA];simp [nb]
 case round=>
  obtain⟨i,l,hi,rfl,hll,hwl,hb,hv,hr⟩:=hrel
  clear hbk hea
  by_cases hip:i<p
  ·obtain⟨a,x,rfl,hxk,hxb,hcx⟩:=(hr1'.ext hr).get (by omega) (i:=i) (by omega)
   go_wp2_with fail
   obtain⟨wo,rfl⟩:∃wo:a6,wo=wr:=⟨_,rfl⟩
   go_loopw [10,9] (fun u v wr=>∃(j c:Nat) (l:List Nat),j≤q∧c≤65535∧u= no (j:Int)∧v= no (c:Int)∧Hid (l.length=p+q)∧Wfb 65536 l∧Bk wr g 3 (l.map I6)∧
    Hid (nb 65536 (l.take (i+q))+65536^(i+j)*c=nb 65536 (ds.take i)*nb 65536 es+x*(65536^i*nb 65536 (es.take j)))∧Ext w2 wr) (fun u v wr=>q-(intOf u).toNat)
   case atStart=>exact⟨0,0,l,bJ _,bJ _,rfl,rfl,hll.out,hwl,hb,(show _=_ by rw [hv.out];simp [nb]),hr⟩
   case round=>
    obtain⟨j,c,l2,hj,hc,rfl,rfl,hl2,hw2,hb2,hv2,hr2'⟩:=hrel
    clear hll hwl hb hv
    by_cases hjq:j<q
    ·have hcx2:=(hr1'.ext hr2').get (by omega) (i:=i) (by omega)
     obtain⟨a',x',ha',hxk',_,hcx'⟩:=hcx2
     cases ha'
     obtain rfl:x'=x:=by rw [←hxk'.out,hxk.out]
     obtain⟨b,y,rfl,hyk,hyb,hcy⟩:=(hr2.ext hr2').get (by omega) (i:=j) (by omega)
     obtain⟨o,hok,aE,hco⟩:=hb2.digit (by omega) hw2 (i:=i+j) (by rw [hl2.out];omega)
     have hfr:=hb2.frozen (i+j)
     obtain⟨m1,m2,m3⟩:=UP (B:=65535) (x:=x') (y:=y) (by omega) (by omega)
     have M3:=Lib.hid m3
     clear m3 hcx hxk'
     have m1':(x':Int)*(y:Int)≤4294836225:=by simpa using m1
     clear m1
     go_wp2_with fail
     go_quiet (fail)
     go_wp2_with fail
     go_roundw
     case rel=>
      have hs:o+x'*y+c≤4294967295:=by
       have h:=M3.out
       have:x'*y≤4294836225:=by omega
       omega
      have ev:((o:Int)+(x':Int)*(y:Int)+(c:Int))=((o+x'*y+c:Nat):Int):=by rw [M3.out];omega
      refine⟨j+1,(o+x'*y+c)/65536,l2.set (i+j) ((o+x'*y+c)%65536),by omega,by omega,by go_num,by rw [ev];exact fQ,by show _=_;rw [List.length_set];exact hl2.out,i0 hw2 _ (hx:=(f7 _ (by omega))),?_,
       UM (k:=i+j) (m:=i+q) J (by omega) (by rw [hl2.out];omega) hv2.out hok.out (by rw [hel.out];omega) hyk.out (iS _ _),(by first | exact (hr2'.drewN _).setCell hgc _ | exact (hr2'.setCell hgc _).drewN _)⟩
      have ev2:((o:Int)+(x':Int)*(y:Int)+(c:Int))%65536=(((o+x'*y+c)%65536:Nat):Int):=by rw [ev];omega
      rw [←rC,←ev2];exact (hb2.drewN _).set _ _
     case measure=>simp [intOf];omega
    ·obtain rfl:j=q:=by omega
     obtain⟨o,hok,aE,hco⟩:=hb2.digit (by omega) hw2 (i:=i+j) (by rw [hl2.out];omega)
     have hfr:=hb2.frozen (i+j)
     go_wp2_with fail
     go_roundw
     case rel=>
      refine⟨i+1,l2.set (i+j) c,by omega,by go_num,by show _=_;rw [List.length_set];exact hl2.out,i0 hw2 _,by rw [←rC];exact hb2.set _ _,?_,hr2'.setCell hgc _⟩
      show _=_
      rw [show i+1+j=i+j+1 from by omega,nG 65536 (by rw [hl2.out];omega),hv2.out,List.take_of_length_le (l:=es) (i:=j) (by rw [hel.out];omega),hZ 65536 ds i (by rw [hdl.out];omega),hxk.out,dK,←bX,cL x]
     case measure=>simp [intOf];omega
  ·obtain rfl:i=p:=by omega
   have hr3:Ri 65536 wr (some ⟨g,0,none⟩) (i+q) (i+q) l:=by
    have:=hb.ri hwl (o:=0) (n:=i+q) (cap:=i+q) (aZ _) (by rw [hll.out];omega) (by rw [eG];omega)
    rwa [gP,List.take_of_length_le (by rw [hll.out];omega)] at this
   have hval:Hid (nb 65536 l=nv xs*nv ys):=by
    show _=_
    have h:=hv.out
    rwa [List.take_of_length_le (by rw [hll.out];omega),List.take_of_length_le (by rw [hdl.out];omega),hvx.out,hvy.out] at h
   go_wp2_with fail
   refine (SC hr3 (by omega)).mono ?_
   rintro e w3 ⟨A3,n3,c3,rfl,hn3,hr4,ho4,hx3⟩
   go_wp2_with fail
   go_ret
   rw [hval.out] at hn3 hr4 ho4
   exact⟨A3,n3,c3,rfl,hn3,hr4,ho4.mono (hx12.trans hr).size,(hx12.trans hr).trans hx3⟩
theorem sP (w:a6):(sizeOf 3).run aN w= .ok 1 w:=by kernel_rfl
theorem MF (w:a6):(isAgg 3).run aN w= .ok false w:=by kernel_rfl
theorem uK:Tryz.prog.underlying 140=some (.slice 3):=Tryz.underlying140
theorem Ri.at (hb:0<b)(h:Ri b w A n c xs)(hi:i<n):∃p,A.map (·.add (i*1))=some p∧w.cell? p=some (no ((xs.getD i 0:Nat):Int))∧xs.getD i 0<b:=by
 obtain⟨a,x,rfl,f,e,o⟩:=h.get hb hi
 refine⟨a.add i,by rw [dV];rfl,?_,by rw [f.out];exact e⟩
 rw [f.out];exact o
theorem Ri.updL (h:Ri b w A n c xs)(e:Upd g w w')(hne:0<c→∀a,A=some a→a.block≠g):Ri b w' A n c xs:=
 ⟨⟨h.rv.len,h.rv.le,h.rv.max,fun i hi=>by
  obtain⟨a,f,o⟩:=h.rv.get i hi
  exact⟨a,f,e.cell o (by rw [tS];exact hne (by have:=h.rv.le;omega) a f)⟩,fun a f o=>dJ (h.rv.blk a f o) e.size⟩,h.wf⟩
def SD (m:Nat)(v:aM)(w:a6):Prop:=∃A k c,v= we A k c∧Ri 65536 w A k c (db 65536 m)
theorem KB {x y:Nat}(e:dL)(w':a6)(h:wF x y w e w'):Gv w (Is (no (dY x y))) e w':=by
 obtain⟨c,h1,_,_,rfl,h2⟩:=h
 exact⟨_,rfl,(show dP .i64 c=_ by rw [h1.out]),h2⟩
theorem JR (h:Rd w A n c xs):(db 65536 (nv xs)).length≤4*n:=by
 have:=pR h.wf
 rwa [h.len] at this
theorem KN (hx:Rd w A n c xs)(hl:n≤274877906943):aP aN 177 #[we A n c] w (Gv w (SD (nv xs))):=
 (qY hx hl).mono fun e w' h=>by
  obtain⟨A,n,c,rfl,_,h2,_,f⟩:=h
  exact⟨_,rfl,⟨A,n,c,rfl,h2⟩,f⟩
theorem WY (hb:b≤w.heap.size)(hx:Ri 65536 w A n c ds)(hl:n≤1099511627775):aP aN 179 #[we A n c] w (Gv w (WR b (nb 65536 ds))):=(xP hx hl).mono (gw hb)
theorem WW {m x y:Nat}(hx:Ri 65536 w A n c (db 65536 x))(hl:n≤1099511627776)(hy:Ri 65536 w B m d (db 65536 y))(hl':m≤1099511627776):aP aN 186 #[we A n c,we B m d] w (Gv w (Is (no (dY x y)))):=(H9 hx hl hy hl').mono KB
theorem KM (hx:Ri 65536 w A n c ds)(hl:n≤1099511627776)(hi:i≤4398046511104):aP aN 187 #[we A n c,no (i:Int)] w (Gv w (Is (no ((ds.getD i 0:Nat):Int)))):=
 (BZ hx hl (i:=(i:Int))).mono fun e w' h=>by
  obtain⟨x,h1,_,rfl,rfl⟩:=h
  have h2:=h1.out
  rw [gZ] at h2
  exact⟨_,rfl,(show dP .i64 (x:Int)=_ by rw [h2]),Ext.refl _⟩
theorem FT {t t':Nat}(hl:i<l.length)(hd:i<ds.length)(h:nb 65536 (l.take i)+nb 65536 (es.take i)=nb 65536 (ds.take i)+65536^i*t)(hs:d+es.getD i 0+t=ds.getD i 0+65536*t'):nb 65536 ((l.set i d).take (i+1))+nb 65536 (es.take (i+1))=nb 65536 (ds.take (i+1))+65536^(i+1)*t':=by
 have he:nb 65536 (es.take (i+1))=nb 65536 (es.take i)+65536^i*es.getD i 0:=by
  by_cases h:i<es.length
  ·exact hZ _ _ _ h
  ·rw [List.take_of_length_le (by omega),List.take_of_length_le (by omega),bK,k8 (by omega)]
   rfl
 rw [nG 65536 hl,he,hZ 65536 ds i hd,cW,bX]
 have e:65536^i*(d+es.getD i 0+t)=65536^i*(ds.getD i 0+65536*t'):=by rw [hs]
 simp only [cI] at e
 omega
theorem PN {x y t:Nat}(hds:ds=db 65536 x)(hes:es=db 65536 y)(hxy:y≤x)(hn:ds.length=n)(hl:l.length=n)(hw:Wfb 65536 l)(h:nb 65536 (l.take n)+nb 65536 (es.take n)=nb 65536 (ds.take n)+65536^n*t):nb 65536 l=x-y:=by
 have h1:es.length≤n:=by rw [←hn,hds,hes];exact tI gH hxy
 rw [List.take_of_length_le (by omega),List.take_of_length_le h1,List.take_of_length_le (by omega),hds,hes,gI gH,gI gH] at h
 have h2:=oL hw
 rw [hl] at h2
 have e:t=0:=by
  refine Nat.eq_zero_of_not_pos fun f=>?_
  have e:65536^n*1≤65536^n*t:=fJ _ f
  omega
 rw [e] at h
 omega
theorem ZJ {x y:Nat}(h:y≤x):cG .lss (dY x y) 0=some false:=by
 have e:¬dY x y<0:=fun e=>by have:=lO.1 e;omega
 exact rD
theorem ZO {x y:Nat}(h:y≤x):y≤x:=h
theorem Bk.ri0 (h:Bk w g t (l.map I6))(hw:Wfb 65536 l)(hl:l.length=N)(hN:N≤9223372036854775807):Ri 65536 w (some ⟨g,0,none⟩) N N l:=by
 have:=h.ri hw (o:=0) (n:=N) (cap:=N) (aZ _) (by omega) (by rw [eG];exact hN)
 rwa [gP,List.take_of_length_le (Nat.le_of_eq hl)] at this
theorem SF {m cd:Nat}(hx:Rd w A n cap xs)(hln:n≤137438953472)(hy:Rd w D m cd ys)(hlm:m≤137438953472)(hle:nv ys≤nv xs):aP aN 130 #[we A n cap,we D m cd] w (Gv w (T2 (WR w.heap.size (nv xs-nv ys)) (Is (no 0)))):=by
 refine bN Tryz.func130 J (n:=49) J (bq J) (args:= [we A n cap,we D m cd]) (bG [(0,we A n cap),(1,we D m cd)] ⟨rfl,rfl,AT⟩ (sr (mv 2 J (a7 (sr (mv 1 J (cl (vs:= [we A n cap]) (Ext.refl w) (KN hx (by omega)) J (by kernel_rfl) fun _ _ r3 e2 p=>?_)))))))
 obtain⟨A4,e,c4,rfl,E⟩:=r3
 refine mv 1 J (a7 (sr (mv 1 J (cl (vs:= [we D m cd]) p (KN (hy.ext e2) (by omega)) J (by kernel_rfl) fun _ _ r7 e6 f=>?_))))
 obtain⟨U,W,I,rfl,eO⟩:=r7
 refine mv 1 J (a7 (aD (aD ?_)))
 have Y:=E.len
 have bo:=JR hx
 have bu:=eO.len
 have ch:=JR hy
 refine aF (mv 2 J (cl (vs:= [we A4 e c4,we U W I]) f (WW (E.ext e6) (by omega) eO (by omega)) J (by kernel_rfl) fun _ _ de r o=>?_))
 obtain rfl:=de
 refine aI J J J false (ZJ hle) (a7 (aQ J (aY (aO (aD ?_)))))
 obtain⟨ds,bd⟩:∃ds,ds=(db 65536 (nv xs)):=⟨_,rfl⟩
 rw [←bd] at E Y bo
 have bh:=E.wf
 obtain⟨es,ck⟩:∃es,es=(db 65536 (nv ys)):=⟨_,rfl⟩
 rw [←ck] at eO bu ch
 have da:=eO.wf
 refine aF (mv 1 J (pu (v:= no e) J (oA J (k:=e) J J J uK rM J fun h dr ae ai ak=>?_)))
 rw [xN] at ai
 have ag:w.heap.size≤h:=by rw [←ae];exact o.size
 have du:0<cap→∀a,A=some a→a.block≠h:=fun hc a ha=>by have:=((hx.ext (e2.t (e6.t r)))).rv.blk a ha hc;omega
 have dx:0<cd→∀a,D=some a→a.block≠h:=fun hc a ha=>by have:=((hy.ext (e2.t (e6.t r)))).rv.blk a ha hc;omega
 have ah:0<c4→∀a,A4=some a→a.block≠h:=fun hc a ha=>by have:=((E.ext (e6.t r))).rv.blk a ha hc;omega
 have Z:0<I→∀a,U=some a→a.block≠h:=fun hc a ha=>by have:=((eO.ext r)).rv.blk a ha hc;omega
 clear ae
 have df:=o.trans ak
 refine mv 1 J (a7 (sr (mv 1 J (a7 (aD (sr (mv 1 J (a7 (bO ?_)))))))))
 refine d8 (T:=a6×Nat×Nat×List Nat)
  (fun⟨wr,i,t,l⟩=> [(6,we A4 e c4),(7,we U W I),(8,we (some ⟨h,0,none⟩) e e),(9,no t),(10,no i)])
  (fun⟨wr,i,t,l⟩=>wr)
  (fun⟨wr,i,t,l⟩=>(Ext w wr)∧(i≤e)∧(t≤1)∧(Bk wr h 3 (l.map I6))∧(l.length=e)∧(Wfb 65536 l)∧(nb 65536 (l.take i)+nb 65536 (es.take i)=nb 65536 (ds.take i)+65536^i*t)∧(Ri 65536 wr A4 e c4 ds)∧(Ri 65536 wr U W I es))
  (fun⟨wr,i,t,l⟩=>e-i)
  (⟨dr,0,0,_⟩:a6×Nat×Nat×List Nat) ⟨df,bJ _,bJ _,ai,(List.length_replicate (n:=e) (a:=0)),oR _,by simp [nb],(E.ext (e6.t (r.t ak))),(eO.ext (r.t ak))⟩ J ⟨rfl,rfl,rfl,rfl,rfl,AT⟩ ?_
 rintro⟨wr,i,t,l⟩ ⟨p,hi,ht,hb,hl,H,hv,L,M⟩
 refine cR [(6,we A4 e c4),(7,we U W I),(8,we (some ⟨h,0,none⟩) e e),(9,no t),(10,no i)] wr J ⟨rfl,rfl,rfl,rfl,rfl,AT⟩ (aD (aD ?_))
 by_cases dy:i<e
 ·refine aF (mv 2 J (pu (v:= no e) J (aI J J J true (eD (a:=i) (b:=e) J J) (a7 (aW J (aY (aO (aD (bO (aD ?_))))))))))
  have eh:=i6 (b:=65536) bh i
  have eg:=i6 (b:=65536) da i
  by_cases dw:es.getD i 0+t≤ds.getD i 0
  ·obtain⟨cu,bi,cv,_⟩:=(L).at (by decide) (i:=i) (by omega)
   refine dG bY 10 [] [Is (we A4 e c4),Is (no i),Is (.pointer (some cu)),Is (no ((ds.getD i 0:Nat):Int)),Is (we U W I),Is (no i),Is (no ((es.getD i 0:Nat):Int)),Is (no (((ds.getD i 0)-(es.getD i 0):Nat):Int)),Is (no t),Is (no ((((ds.getD i 0)-(es.getD i 0))-t:Nat):Int))] [[],[],[0,1],[2],[],[],[4,5],[3,6],[],[7,8]] [[],[],[0,1],[0,1,2],[],[],[4,5],[0,1,2,3,4,5,6],[],[0,1,2,3,4,5,6,7,8],[0,1,2,3,4,5,6,7,8,9]] rfl
    (aH J J (aE J J ?_) (aH J J (aE J J ?_) (aH J J (aE J J ?_) (aH J J (aE J J ?_) (aH J J (aE J J ?_) (aH J J (aE J J ?_) (aH J J (aE J J ?_) (aH J J (aE J J ?_) (aH J J (aE J J ?_) (aH J J (aE J J ?_) d9)))))))))) ?_
   ·exact fun _ _=>aC (mv 1 J (aG J aL J))
   ·exact fun _ _=>aC (mv 1 J (aG J aL J))
   ·exact fun _ _=>dk J J (dk J J (aC (cD J J J uK sP i J cu bi (aG J aL J))))
   ·exact fun _ dl=>dk J J (aC (bB J J (dF MF (dl.cell cv)) (aG J aL J)))
   ·exact fun _ _=>aC (mv 1 J (aG J aL J))
   ·exact fun _ _=>aC (mv 1 J (aG J aL J))
   ·intro _ ct
    have f:=p.trans ct
    refine dk J J (dk J J (aC (cl (vs:= [we U W I,no i]) f (KM (M.ext ct) (by omega) (by omega)) J (by kernel_rfl) fun _ _ dm dg o=>?_)))
    obtain rfl:=dm
    exact aG J dg rfl
   ·exact fun _ _=>dk J J (dk J J (aC (aR J J J (((ds.getD i 0)-(es.getD i 0):Nat):Int) (gL (a:=ds.getD i 0) (b:=es.getD i 0) J J) (aG J aL J))))
   ·exact fun _ _=>aC (mv 1 J (aG J aL J))
   ·exact fun _ _=>dk J J (dk J J (aC (aR J J J ((((ds.getD i 0)-(es.getD i 0))-t:Nat):Int) (gL (a:=(ds.getD i 0)-(es.getD i 0)) (b:=t) J J) (aG J aL J))))
   ·intro _ V
    have f:=p.trans V
    refine dk J J (dk J J (dk J J (dk J J (dk J J (dk J J (dk J J (dk J J (dk J J (dk J J (aC (mv 1 J (aX (dC ?_)))))))))))))
    refine aO (sr (mv 1 J (a7 (aD (sr (mv 1 J (aI J J J false (eE (a:=((ds.getD i 0)-(es.getD i 0))-t) (b:=0) J J) (a7 (aQ J (aY (aO (aF (mv 1 J ?_)))))))))))))
    refine mv 2 J (cD J J J uK sP i J ⟨h,i,none⟩ (eA _ _) ?_)
    have ba:=(hb.ext V)
    refine dE J J J sP J ba (gV (by rw [hl];omega)) J ((l.set i (((ds.getD i 0)-(es.getD i 0))-t)).map I6) (rC _ _ _) fun cz am F _=>?_
    have o:=F.ext f ag
    refine aX (bQ (aO (aF (mv 1 J (aR J J J ((i+1:Nat):Int) (cA (a:=i) (b:=1) J J) (mv 1 J (aX (cM (⟨cz,i+1,0,_⟩:a6×Nat×Nat×List Nat) ⟨o,(by omega),(by decide),am,(iC (l:=l) (hl)),i0 H _,FT (by omega) (by omega) hv (by omega),(Ri.updL (L.ext V) F ah),(Ri.updL (M.ext V) F Z)⟩ (show e-(i+1)<e-i by omega) J ⟨rfl,rfl,rfl,rfl,rfl,AT⟩))))))))
  ·obtain⟨X,av,az,_⟩:=(L).at (by decide) (i:=i) (by omega)
   refine dG bY 10 [] [Is (we A4 e c4),Is (no i),Is (.pointer (some X)),Is (no ((ds.getD i 0:Nat):Int)),Is (we U W I),Is (no i),Is (no ((es.getD i 0:Nat):Int)),Is (no (((ds.getD i 0:Nat):Int)-((es.getD i 0:Nat):Int))),Is (no t),Is (no ((((ds.getD i 0:Nat):Int)-((es.getD i 0:Nat):Int))-((t:Nat):Int)))] [[],[],[0,1],[2],[],[],[4,5],[3,6],[],[7,8]] [[],[],[0,1],[0,1,2],[],[],[4,5],[0,1,2,3,4,5,6],[],[0,1,2,3,4,5,6,7,8],[0,1,2,3,4,5,6,7,8,9]] rfl
    (aH J J (aE J J ?_) (aH J J (aE J J ?_) (aH J J (aE J J ?_) (aH J J (aE J J ?_) (aH J J (aE J J ?_) (aH J J (aE J J ?_) (aH J J (aE J J ?_) (aH J J (aE J J ?_) (aH J J (aE J J ?_) (aH J J (aE J J ?_) d9)))))))))) ?_
   ·exact fun _ _=>aC (mv 1 J (aG J aL J))
   ·exact fun _ _=>aC (mv 1 J (aG J aL J))
   ·exact fun _ _=>dk J J (dk J J (aC (cD J J J uK sP i J X av (aG J aL J))))
   ·exact fun _ bm=>dk J J (aC (bB J J (dF MF (bm.cell az)) (aG J aL J)))
   ·exact fun _ _=>aC (mv 1 J (aG J aL J))
   ·exact fun _ _=>aC (mv 1 J (aG J aL J))
   ·intro _ aj
    have f:=p.trans aj
    refine dk J J (dk J J (aC (cl (vs:= [we U W I,no i]) f (KM (M.ext aj) (by omega) (by omega)) J (by kernel_rfl) fun _ _ bp bf o=>?_)))
    obtain rfl:=bp
    exact aG J bf rfl
   ·exact fun _ _=>dk J J (dk J J (aC (aR J J J (((ds.getD i 0:Nat):Int)-((es.getD i 0:Nat):Int)) (eL J) (aG J aL J))))
   ·exact fun _ _=>aC (mv 1 J (aG J aL J))
   ·exact fun _ _=>dk J J (dk J J (aC (aR J J J ((((ds.getD i 0:Nat):Int)-((es.getD i 0:Nat):Int))-((t:Nat):Int)) (eL J) (aG J aL J))))
   ·intro _ q
    have f:=p.trans q
    refine dk J J (dk J J (dk J J (dk J J (dk J J (dk J J (dk J J (dk J J (dk J J (dk J J (aC (mv 1 J (aX (dC ?_)))))))))))))
    refine aO (sr (mv 1 J (a7 (aD (sr (mv 1 J (aI J J J true (vE (by omega)) (a7 (aW J (sr (mv 1 J (aR J J J ((ds.getD i 0+65536-es.getD i 0-t:Nat):Int) (tT) (mv 1 J ?_)))))))))))))
    refine a7 (aF (mv 1 J (a7 (aF (mv 3 J (cD J J J uK sP i J ⟨h,i,none⟩ (eA _ _) ?_))))))
    have ar:=(hb.ext q)
    refine dE J J J sP J ar (gV (by rw [hl];omega)) J ((l.set i (ds.getD i 0+65536-es.getD i 0-t)).map I6) (rC _ _ _) fun ci aq G _=>?_
    have o:=G.ext f ag
    refine aX (bQ (aO (aF (mv 1 J (aR J J J ((i+1:Nat):Int) (cA (a:=i) (b:=1) J J) (mv 1 J (aX (cM (⟨ci,i+1,1,_⟩:a6×Nat×Nat×List Nat) ⟨o,(by omega),(by decide),aq,(iC (l:=l) (hl)),i0 H _,FT (by omega) (by omega) hv (by omega),(Ri.updL (L.ext q) G ah),(Ri.updL (M.ext q) G Z)⟩ (show e-(i+1)<e-i by omega) J ⟨rfl,rfl,rfl,rfl,rfl,AT⟩))))))))
 ·refine aF (mv 2 J (pu (v:= no e) J (aI J J J false (eE (a:=i) (b:=e) J J) (a7 (aQ J (d4 (cU (cY (cZ (aO (aD ?_)))))))))))
  obtain rfl:e=i:=by omega
  have cm:=PN bd ck (ZO hle) Y hl H hv
  refine aF (mv 1 J (cl (vs:= [we (some ⟨h,0,none⟩) e e]) p (WY p.size (hb.ri0 H hl (by omega)) (by omega)) J (by kernel_rfl) fun _ _ bj _ f=>?_))
  obtain⟨cj,bw,cp,rfl,aa,ab⟩:=bj
  refine mv 2 J (a7 (aV (aU [we cj bw cp,I0] J ⟨rfl,rfl,AT⟩ ?_)))
  rw [cm] at aa ab
  exact⟨_,rfl,⟨_,_,rfl,⟨_,_,_,rfl,aa,ab⟩,rfl⟩,f⟩
def TR (A:Option aB)(n c:Nat)(xs:List Nat)(v:aM)(_:a6):Prop:=∃k,v= we A k c∧k≤n∧(k=0∨xs.getD (k-1) 0≠0)∧∀b,nb b (xs.take k)=nb b xs
theorem P0 (hk:k>0)(hl:k≤xs.length)(h0:xs.getD (k-1) 0=0)(hv:∀b,nb b (xs.take k)=nb b xs)(b:Nat):nb b (xs.take (k-1))=nb b xs:=by
 rw [←hv b,←xX b xs (k-1) (by omega) h0,jO hk]
theorem FZ (A:Option aB)(c k:Nat):Value.slice (if c=0 then A else A.map (·.add (0*1))) (k-0) (c-0)= we A k c:=by
 have h0:A.map (·.add (0*1))=A:=by
  cases A with
  | none=>rfl
  | some a=>simp [a0s]
 rw [h0,ite_self];rfl
def WD (m:Nat)(v:aM)(w:a6):Prop:=∃A k c,v= we A k c∧Rd w A k c (db 4294967296 m)
theorem fT:2≤4294967296:=by decide
theorem wA:WB=4294967296^2:=by decide
theorem Wfb.wf (h:Wfb 4294967296 xs):Wf xs:=fun x hx=>Nat.lt_trans (h x hx) (by decide)
theorem Bk.rd0 (h:Bk w g t (l.map bF))(hw:Wf l)(hl:l.length=N)(hN:N≤9223372036854775807):Rd w (some ⟨g,0,none⟩) N N l:=by
 have:=h.rd hw (o:=0) (n:=N) (cap:=N) (aZ _) (by omega) (by rw [eG];exact hN)
 rwa [gP,List.take_of_length_le (Nat.le_of_eq hl)] at this
theorem Rd.trim (h:Rd w A n c xs)(hw:Wfb 4294967296 xs)(hk:k≤n)(ht:k=0∨xs.getD (k-1) 0≠0)(hv:∀b,nb b (xs.take k)=nb b xs):Rd w A k c (db 4294967296 (nb 4294967296 xs)):=by
 rw [yW fT hw (by rw [h.len];exact hk) (hv _) ht]
 exact h.take hk (by have:=h.rv.le;omega) (aZ _)
theorem VX {x:Nat}(hl:2*i+1<l.length)(hi:i<xs.length)(hx:xs.getD i 0=x)(h:nb 4294967296 (l.take (2*i))=nv (xs.take i)):nb 4294967296 (((l.set (2*i) (x%4294967296)).set (2*i+1) (x/4294967296)).take (2*(i+1)))=nv (xs.take (i+1)):=by
 rw [show 2*(i+1)=2*i+1+1 by omega,nG 4294967296 (by rw [List.length_set];exact hl),nG 4294967296 (by omega),h,eT xs i hi,hx,wA,←Nat.pow_mul,cW,bX,iM,←cI,iS]
structure WI (ys l:List Nat)(i:Nat):Prop where
 wf:Wf l
 v:nv l=nb 4294967296 (ys.take i)
 z:∀j,i≤2*j→l.getD j 0=0
 o:i%2=1→l.getD (i/2) 0<4294967296
theorem WI.start (ys:List Nat)(N:Nat):WI ys (cJ N 0) 0:=by
 refine⟨fun x hx=>by rw [(List.mem_replicate.1 hx).2];decide,?_,fun j _=>?_,fun h=>by omega⟩
 ·rw [uZ,vA];rfl
 ·rw [bK]
  by_cases h:j<N
  ·rw [List.getElem?_replicate_of_lt h];rfl
  ·rw [k8 (by rw [List.length_replicate];omega)];rfl
theorem WI.even (h:WI ys l i)(he:i%2=0)(hi:i<ys.length)(hl:i/2<l.length)(hd:ys.getD i 0<4294967296):WI ys (l.set (i/2) (ys.getD i 0)) (i+1):=by
 have h0:=h.z (i/2) (by omega)
 have h1:=oK hl (ys.getD i 0)
 refine⟨gR h.wf _ (Nat.lt_trans hd (by decide)),?_,fun j _=>?_,fun _=>?_⟩
 ·rw [hZ 4294967296 ys i hi,←h.v]
  rw [h0,gM,fC,wA,←Nat.pow_mul,show 2*(i/2)=i by omega] at h1
  exact h1
 ·rw [getD_set_ne (by omega),h.z j (by omega)]
 ·rw [show (i+1)/2=i/2 by omega,tL hl];exact hd
theorem WI.odd (h:WI ys l i)(he:i%2=1)(hi:i<ys.length)(hl:i/2<l.length)(hd:ys.getD i 0<4294967296):WI ys (l.set (i/2) (l.getD (i/2) 0+ys.getD i 0*4294967296)) (i+1):=by
 have h0:=h.o he
 have h1:=oK hl (l.getD (i/2) 0+ys.getD i 0*4294967296)
 refine⟨gR h.wf _ (by rw [cP];omega),?_,fun j _=>?_,fun h=>by omega⟩
 ·have e:WB^(i/2)*4294967296=4294967296^i:=by
   rw [wA,←Nat.pow_mul,←cW,show (2*(i/2)).succ=i by omega]
  rw [hZ 4294967296 ys i hi,←h.v,←e]
  rw [cI] at h1
  have f:WB^(i/2)*(ys.getD i 0*4294967296)=WB^(i/2)*4294967296*ys.getD i 0:=by rw [cL (ys.getD i 0),bX]
  omega
 ·rw [getD_set_ne (by omega),h.z j (by omega)]
theorem WI.done (h:WI ys l k)(hk:ys.length=k)(hl:l.length=(k+1)/2)(hv:nb 4294967296 ys=nb 4294967296 xs)(ht:k=0∨ys.getD (k-1) 0≠0):l.take ((k+1)/2)=wd (nb 4294967296 xs):=by
 have e:nv l=nb 4294967296 xs:=by rw [h.v,List.take_of_length_le (Nat.le_of_eq hk),hv]
 rw [List.take_of_length_le (by omega),←e]
 refine (FA h.wf ?_).symm
 by_cases h0:k=0
 ·left;omega
 ·right
  have h1:ys.getD (k-1) 0≠0:=by omega
  rw [e,←hv,mO 4294967296 ys (k-1),hl]
  have h2:WB^((k+1)/2-1)≤4294967296^(k-1):=by
   rw [wA,←Nat.pow_mul]
   exact eS (by decide) (by omega)
  have f:1≤nb 4294967296 (ys.drop (k-1)):=by
   rw [nW (by omega),lJ]
   rw [bK,cC (by omega),oU] at h1
   omega
  have o:4294967296^(k-1)*1≤4294967296^(k-1)*nb 4294967296 (ys.drop (k-1)):=fJ _ f
  omega
theorem P3 (h:k=0∨xs.getD (k-1) 0≠0):k=0∨(xs.take k).getD (k-1) 0≠0:=by
 by_cases h0:k=0
 ·exact cH h0
 ·rw [yH (by omega)];exact h
theorem mL (hx:Rd w A n cap xs)(hln:n≤1099511627776:=by omega):aP aN 241 #[we A n cap] w (Gv w (TR A n cap xs)):=by
 have G:=hx.len
 have L:=hx.rv.le
 refine bN Tryz.func241 J (n:=21) J (bq J) (args:= [we A n cap]) (bG [(0,we A n cap)] ⟨rfl,AT⟩ (sr (mv 1 J (a7 (sr (mv 1 J (pu (v:= no n) J (mv 1 J (a7 (aD (bO ?_)))))))))))
 refine d8 (T:=a6×Nat)
  (fun⟨wr,k⟩=> [(0,we A n cap),(3,no k)])
  (fun⟨wr,k⟩=>wr)
  (fun⟨wr,k⟩=>(Ext w wr)∧(k≤n)∧(∀b,nb b (xs.take k)=nb b xs)∧(Rd wr A n cap xs))
  (fun⟨wr,k⟩=>k)
  (⟨w,n⟩:a6×Nat) ⟨(Ext.refl w),aZ _,fun b=>by rw [List.take_of_length_le (by omega)],hx⟩ J ⟨rfl,rfl,AT⟩ ?_
 rintro⟨wr,k⟩ ⟨f,F,p,e⟩
 refine cR [(0,we A n cap),(3,no k)] wr J ⟨rfl,rfl,AT⟩ (aD (aD ?_))
 by_cases h:k>0
 ·by_cases E:xs.getD (k-1) 0=0
  ·refine aF (mv 1 J (aI J J J true (eW (a:=k) (b:=0) J J) (mv 3 J (aR J J J ((k-1:Nat):Int) (gL (a:=k) (b:=1) J J) ?_))))
   obtain⟨H,o,r,_⟩:=(e).at (i:=k-1) (by omega)
   refine cD J J J bU bT (k-1) J H o (bB J J (dF cT r) (aI J J J true (fF (a:=xs.getD (k-1) 0) (b:=0) J J) (pu (v:= AI) J (a7 (aW J (aY (aO (bO (aF (mv 1 J (aR J J J ((k-1:Nat):Int) (gL (a:=k) (b:=1) J J) (mv 1 J (aX ?_)))))))))))))
   refine bQ (cM (⟨wr,k-1⟩:a6×Nat) ⟨f,(by omega),P0 h (by omega) E p,e⟩ (show k-1<k by omega) J ⟨rfl,rfl,AT⟩)
  ·refine aF (mv 1 J (aI J J J true (eW (a:=k) (b:=0) J J) (mv 3 J (aR J J J ((k-1:Nat):Int) (gL (a:=k) (b:=1) J J) ?_))))
   obtain⟨I,q,D,_⟩:=(e).at (i:=k-1) (by omega)
   refine cD J J J bU bT (k-1) J I q (bB J J (dF cT D) (aI J J J false (eR (a:=xs.getD (k-1) 0) (b:=0) J J) (pu (v:= AS) J (a7 (aQ J (d4 (cU (cY (cZ (aO (sr (mv 2 J (mI J J bU bT (lo:=0) (hi:=k) J J (by omega) (by omega) (v:= we A k cap) (FZ _ _ _) (by decide) ?_)))))))))))))
   refine mv 1 J (a7 (aV (aU [we A k cap] J ⟨rfl,AT⟩ ?_)))
   exact⟨_,rfl,⟨k,rfl,F,cO E,p⟩,f⟩
 ·refine aF (mv 1 J (aI J J J false (fS (a:=k) (b:=0) J J) (mv 7 J (pu (v:= AS) J (a7 (aQ J (d4 (cU (cY (cZ (aO (sr (mv 1 J ?_)))))))))))))
  refine mv 1 J (mI J J bU bT (lo:=0) (hi:=k) J J (by omega) (by omega) (v:= we A k cap) (FZ _ _ _) (by decide) (mv 1 J (a7 (aV (aU [we A k cap] J ⟨rfl,AT⟩ ?_)))))
  exact⟨_,rfl,⟨k,rfl,F,cH (by omega),p⟩,f⟩
theorem sZ (hx:Rd w A n cap xs)(hln:n≤274877906944:=by omega):aP aN 229 #[we A n cap] w (Gv w (WD (nv xs))):=by
 have aw:=hx.len
 have bh:=hx.rv.le
 refine bN Tryz.func229 J (n:=38) J (bq J) (args:= [we A n cap]) (bG [(0,we A n cap)] ⟨rfl,AT⟩ (sr (mv 1 J (a7 (sr (mv 1 J (cl (vs:= [we A n cap]) (Ext.refl w) (mL hx) J (by kernel_rfl) fun _ _ r3 e2 p=>?_)))))))
 obtain⟨e,rfl,am,_,ah⟩:=r3
 have h:=((hx.ext e2)).take am (by omega) (aZ _)
 refine mv 1 J (a7 (aD ?_))
 obtain⟨ys,W⟩:∃ys,xs.take e=ys:=⟨_,rfl⟩
 have aq:nv ys=nv xs:=by rw [←W,uZ,uZ];exact ah _
 rw [W] at h
 have bj:=h.len
 refine aF (mv 1 J (pu (v:= no e) J (aR J J J ((2*e:Nat):Int) (oQ (a:=2) (b:=e) J J) (oA J (k:=2*e) J J J bU iD J fun r v6 ae H e9=>?_))))
 rw [j7] at H
 have D:w.heap.size≤r:=by rw [←ae];exact p.size
 have f:0<cap→∀a,A=some a→a.block≠r:=fun hc a ha=>by have:=(h).rv.blk a ha hc;omega
 clear ae
 have o:=p.trans e9
 refine mv 1 J (a7 (aD (sr (mv 1 J (a7 (bO ?_))))))
 refine d8 (T:=a6×Nat×List Nat)
  (fun⟨wr,i,l⟩=> [(0,we A e cap),(3,we (some ⟨r,0,none⟩) (2*e) (2*e)),(4,no i)])
  (fun⟨wr,i,l⟩=>wr)
  (fun⟨wr,i,l⟩=>(Ext w wr)∧(i≤e)∧(Bk wr r 65 (l.map bF))∧(l.length=2*e)∧(Wfb 4294967296 l)∧(nb 4294967296 (l.take (2*i))=nv (ys.take i))∧(Rd wr A e cap ys))
  (fun⟨wr,i,l⟩=>e-i)
  (⟨v6,0,_⟩:a6×Nat×List Nat) ⟨o,bJ _,H,(List.length_replicate (n:=2*e) (a:=0)),oR _,by simp [nb,nv],(h.ext e9)⟩ J ⟨rfl,rfl,rfl,AT⟩ ?_
 rintro⟨wr,i,l⟩ ⟨p,hi,hb,hl,q,hv,E⟩
 refine cR [(0,we A e cap),(3,we (some ⟨r,0,none⟩) (2*e) (2*e)),(4,no i)] wr J ⟨rfl,rfl,rfl,AT⟩ (aD (aD ?_))
 by_cases bd:i<e
 ·refine aF (mv 2 J (pu (v:= no e) J (aI J J J true (eD (a:=i) (b:=e) J J) (a7 (aW J (aY (aO (aD (bO (aD ?_))))))))))
  have bi:ys.getD i 0≤18446744073709551615:=by have:=tV h.wf i;rw [cP] at this;omega
  refine aF (mv 2 J (aR J J J ((2*i:Nat):Int) (oQ (a:=2) (b:=i) J J) (mv 2 J ?_)))
  obtain⟨ap,I,U,_⟩:=(E).at (i:=i) (by omega)
  refine cD J J J bU bT i J ap I (bB J J (dF cT U) (aR J J J (((ys.getD i 0)%4294967296:Nat):Int) (jJ (a:=ys.getD i 0) (b:=4294967296) J J) (cD J J J bU bT (2*i) J ⟨r,2*i,none⟩ (eA _ _) ?_)))
  have Z:=hb
  refine dE J J J bT J Z (gV (by rw [hl];omega)) J ((l.set (2*i) ((ys.getD i 0)%4294967296)).map bF) (dX _ _ _) fun _ L F _=>?_
  have o:=F.ext p D
  refine a7 (aF (mv 2 J (aR J J J ((2*i:Nat):Int) (oQ (a:=2) (b:=i) J J) (aR J J J (((2*i)+1:Nat):Int) (cA (a:=2*i) (b:=1) J J) (mv 2 J ?_)))))
  obtain⟨aj,Y,V,_⟩:=((Rd.updL E F f)).at (i:=i) (by omega)
  refine cD J J J bU bT i J aj Y (bB J J (dF cT V) (aR J J J (((ys.getD i 0)/4294967296:Nat):Int) (jK (a:=ys.getD i 0) (b:=4294967296) J J) (cD J J J bU bT ((2*i)+1) J ⟨r,(2*i)+1,none⟩ (eA _ _) (dE J J J bT J L (gV (by rw [(iC (l:=l) (hl))];omega)) J (((l.set (2*i) ((ys.getD i 0)%4294967296)).set ((2*i)+1) ((ys.getD i 0)/4294967296)).map bF) (dX _ _ _) fun ak aa G _=>?_))))
  have ao:=G.ext o D
  refine aX (bQ (aO (aF (mv 1 J (aR J J J ((i+1:Nat):Int) (cA (a:=i) (b:=1) J J) (mv 1 J (aX (cM (⟨ak,i+1,_⟩:a6×Nat×List Nat) ⟨ao,(by omega),aa,(iC (l:=l.set (2*i) ((ys.getD i 0)%4294967296)) ((iC (l:=l) (hl)))),i0 (i0 q _ (hx:=(f7 _ (by decide)))) _,VX (by omega) (by omega) J hv,(Rd.updL (Rd.updL E F f) G f)⟩ (show e-(i+1)<e-i by omega) J ⟨rfl,rfl,rfl,AT⟩))))))))
 ·refine aF (mv 2 J (pu (v:= no e) J (aI J J J false (eE (a:=i) (b:=e) J J) (a7 (aQ J (d4 (cU (cY (cZ (aO (aD ?_)))))))))))
  obtain rfl:e=i:=by omega
  have M:nb 4294967296 l=nv xs:=by rw [←aq];rwa [List.take_of_length_le (by omega),List.take_of_length_le (by omega)] at hv
  refine aF (mv 1 J (cl (vs:= [we (some ⟨r,0,none⟩) (2*e) (2*e)]) p (mL (hb.rd0 q.wf hl (by omega))) J (by kernel_rfl) fun _ _ ar au o=>?_))
  obtain⟨ai,rfl,ag,X,ab⟩:=ar
  refine mv 1 J (a7 (aV (aU [we (some ⟨r,0,none⟩) ai (2*e)] J ⟨rfl,AT⟩ ?_)))
  have hr:=((hb.ext au).rd0 q.wf hl (by omega)).trim q ag X ab
  rw [M] at hr
  exact⟨_,rfl,⟨_,_,_,rfl,hr⟩,o⟩
theorem BX (hx:Rd w A n cap xs)(hln:n≤1099511627776)(hwx:Wfb 4294967296 xs):aP aN 231 #[we A n cap] w (Gv w (WR w.heap.size (nb 4294967296 xs))):=by
 have bd:=hx.len
 have bm:=hx.rv.le
 refine bN Tryz.func231 J (n:=45) J (bq J) (args:= [we A n cap]) (bG [(0,we A n cap)] ⟨rfl,AT⟩ (sr (mv 1 J (a7 (sr (mv 1 J (cl (vs:= [we A n cap]) (Ext.refl w) (mL hx) J (by kernel_rfl) fun _ _ r3 e2 h=>?_)))))))
 obtain⟨e,rfl,aq,ao,ap⟩:=r3
 have D:=((hx.ext e2)).take aq (by omega) (aZ _)
 refine mv 1 J (a7 (aD ?_))
 have ag:Wfb 4294967296 (xs.take e):=jM hwx _
 have I:=P3 ao
 have Z:=ap 4294967296
 obtain⟨ys,az⟩:∃ys,xs.take e=ys:=⟨_,rfl⟩
 rw [az] at D ag I Z
 have ar:=D.len
 refine aF (mv 1 J (pu (v:= no e) J (aR J J J ((e+1:Nat):Int) (cA (a:=e) (b:=1) J J) (aR J J J (((e+1)/2:Nat):Int) (lP (a:=e+1) (b:=2) J J) (oA J (k:=(e+1)/2) J J J bU iD J fun f v6 ak H e9=>?_)))))
 rw [j7] at H
 have p:w.heap.size≤f:=by rw [←ak];exact h.size
 have E:0<cap→∀a,A=some a→a.block≠f:=fun hc a ha=>by have:=(D).rv.blk a ha hc;omega
 clear ak
 have q:=h.trans e9
 refine mv 1 J (a7 (aD (sr (mv 1 J (a7 (bO ?_))))))
 refine d8 (T:=a6×Nat×List Nat)
  (fun⟨wr,i,l⟩=> [(0,we A e cap),(3,we (some ⟨f,0,none⟩) ((e+1)/2) ((e+1)/2)),(4,no i)])
  (fun⟨wr,i,l⟩=>wr)
  (fun⟨wr,i,l⟩=>(Ext w wr)∧(i≤e)∧(Bk wr f 65 (l.map bF))∧(l.length=(e+1)/2)∧(WI ys l i)∧(Rd wr A e cap ys))
  (fun⟨wr,i,l⟩=>e-i)
  (⟨v6,0,_⟩:a6×Nat×List Nat) ⟨q,bJ _,H,(List.length_replicate (n:=(e+1)/2) (a:=0)),WI.start _ _,(D.ext e9)⟩ J ⟨rfl,rfl,rfl,AT⟩ ?_
 rintro⟨wr,i,l⟩ ⟨h,hi,hb,hl,hI,r⟩
 refine cR [(0,we A e cap),(3,we (some ⟨f,0,none⟩) ((e+1)/2) ((e+1)/2)),(4,no i)] wr J ⟨rfl,rfl,rfl,AT⟩ (aD (aD ?_))
 by_cases bh:i<e
 ·refine aF (mv 2 J (pu (v:= no e) J (aI J J J true (eD (a:=i) (b:=e) J J) (a7 (aW J (aY (aO (aD (bO (aD ?_))))))))))
  have aa:=i6 (b:=4294967296) ag i
  by_cases hp:i%2=0
  ·refine aF (mv 1 J (aR J J J ((i%2:Nat):Int) (jJ (a:=i) (b:=2) J J) (aI J J J true (fF (a:=i%2) (b:=0) J J) (a7 (aW J (aF (mv 2 J (aR J J J ((i/2:Nat):Int) (lP (a:=i) (b:=2) J J) (mv 2 J ?_)))))))))
   obtain⟨au,M,ab,_⟩:=(r).at (i:=i) (by omega)
   refine cD J J J bU bT i J au M (bB J J (dF cT ab) (cD J J J bU bT (i/2) J ⟨f,i/2,none⟩ (eA _ _) ?_))
   have ah:=hb
   refine dE J J J bT J ah (gV (by rw [hl];omega)) J ((l.set (i/2) (ys.getD i 0)).map bF) (dX _ _ _) fun aw V ai _=>?_
   have q:=ai.ext h p
   refine aX (bQ (aO (aF (mv 1 J (aR J J J ((i+1:Nat):Int) (cA (a:=i) (b:=1) J J) (mv 1 J (aX (cM (⟨aw,i+1,_⟩:a6×Nat×List Nat) ⟨q,(by omega),V,(iC (l:=l) (hl)),hI.even hp (by omega) (by omega) aa,(Rd.updL r ai E)⟩ (show e-(i+1)<e-i by omega) J ⟨rfl,rfl,rfl,AT⟩))))))))
  ·have aE:=hI.o (by omega)
   refine aF (mv 1 J (aR J J J ((i%2:Nat):Int) (jJ (a:=i) (b:=2) J J) (aI J J J false (eR (a:=i%2) (b:=0) J J) (a7 (aQ J (bG [(0,we A e cap),(3,we (some ⟨f,0,none⟩) ((e+1)/2) ((e+1)/2)),(4,no i),(12,no i),(13,we A e cap),(14,no e),(15,AI),(18,no i),(19,no ((i%2:Nat):Int)),(20,AS)] ⟨rfl,rfl,rfl,rfl,rfl,rfl,rfl,rfl,rfl,rfl,AT⟩ ?_))))))
   obtain⟨W,hv,o⟩:∃v,v=wr.drew∧Ext wr v:=⟨_,rfl,aL.drew⟩
   have q:=h.trans o
   obtain⟨F,Y,G,_⟩:=((r.ext o)).at (i:=i) (by omega)
   have aj:=(hb.ext o)
   obtain⟨ae,U,X,L,_⟩:=BN (P:=aN) (v:= up (((l.getD (i/2) 0)+((ys.getD i 0)*4294967296):Nat):Int)) (off:=i/2) bT J aj (gV (by rw [hl];omega)) J ((l.set (i/2) ((l.getD (i/2) 0)+((ys.getD i 0)*4294967296))).map bF) (dX _ _ _)
   have av:=L.ext q p
   refine gX bY (w:=W) [we (some ⟨f,0,none⟩) ((e+1)/2) ((e+1)/2),no i,no ((i/2:Nat):Int),we (some ⟨f,0,none⟩) ((e+1)/2) ((e+1)/2),no i,no ((i/2:Nat):Int),.pointer (some (⟨f,i/2,none⟩)),up ((l.getD (i/2) 0:Nat):Int),we A e cap,no i,.pointer (some F),up ((ys.getD i 0:Nat):Int),up (((ys.getD i 0)*4294967296:Nat):Int),up (((l.getD (i/2) 0)+((ys.getD i 0)*4294967296):Nat):Int),.pointer (some (⟨f,i/2,none⟩)),undef] [W,ae] [15] [[],[],[1],[],[],[4],[3,5],[6],[],[],[8,9],[10],[11],[7,12],[0,2],[13,14]] [[],[],[1],[],[],[4],[3,4,5],[3,4,5,6],[],[],[8,9],[8,9,10],[8,9,10,11],[3,4,5,6,7,8,9,10,11,12],[0,1,2,3,4,5,6,7,8,9,10,11,12,13],[0,1,2,3,4,5,6,7,8,9,10,11,12,13,14]] [(0,0),(1,0),(2,0),(3,0),(4,0),(5,0),(6,0),(7,0),(8,0),(9,0),(10,0),(11,0),(12,0),(13,0),(14,0),(15,0)] J hv ?_ ?_
   ·refine bA _ J J J J J (bZ J) (bA _ J J J J J (bZ J) (bA _ J J J J J (lV J J ((i/2:Nat):Int) (lP (a:=i) (b:=2) J J)) (bA _ J J J J J (bZ J) (bA _ J J J J J (bZ J) (bA _ J J J J J (lV J J ((i/2:Nat):Int) (lP (a:=i) (b:=2) J J)) (bA _ J J J J J (fX J J bU bT (i/2) J ⟨f,i/2,none⟩ (eA _ _)) (bA _ J J J J J (d7 J (iB cT (hb.ext o) (by rw [hl];omega))) (bA _ J J J J J (bZ J) (bA _ J J J J J (bZ J) (bA _ J J J J J (fX J J bU bT i J F Y) (bA _ J J J J J (d7 J (dF cT G)) (bA _ J J J J J (lV J J (((ys.getD i 0)*4294967296:Nat):Int) (kU (a:=ys.getD i 0) (b:=4294967296) J J)) (bA _ J J J J J (lV J J (((l.getD (i/2) 0)+((ys.getD i 0)*4294967296):Nat):Int) (iY (a:=l.getD (i/2) 0) (b:=(ys.getD i 0)*4294967296) J J)) ?_)))))))))))))
    refine bA _ J J J J J (fX J J bU bT (i/2) J ⟨f,i/2,none⟩ (eA _ _)) (iR _ J J J J J (iA J J U) ?_)
    exact gW
   clear hv
   refine gG [(0,we A e cap),(3,we (some ⟨f,0,none⟩) ((e+1)/2) ((e+1)/2)),(4,no i),(12,no i),(13,we A e cap),(14,no e),(15,AI),(18,no i),(19,no ((i%2:Nat):Int)),(20,AS),(29,we (some ⟨f,0,none⟩) ((e+1)/2) ((e+1)/2)),(30,no i),(31,no ((i/2:Nat):Int)),(32,we (some ⟨f,0,none⟩) ((e+1)/2) ((e+1)/2)),(33,no i),(34,no ((i/2:Nat):Int)),(35,.pointer (some (⟨f,i/2,none⟩))),(36,up ((l.getD (i/2) 0:Nat):Int)),(37,we A e cap),(38,no i),(39,.pointer (some F)),(40,up ((ys.getD i 0:Nat):Int)),(41,up (((ys.getD i 0)*4294967296:Nat):Int)),(42,up (((l.getD (i/2) 0)+((ys.getD i 0)*4294967296):Nat):Int)),(43,.pointer (some (⟨f,i/2,none⟩)))] ⟨rfl,rfl,rfl,rfl,rfl,rfl,rfl,rfl,rfl,rfl,rfl,rfl,rfl,rfl,rfl,rfl,rfl,rfl,rfl,rfl,rfl,rfl,rfl,rfl,rfl,AT⟩ (bQ (aO (aF (mv 1 J (aR J J J ((i+1:Nat):Int) (cA (a:=i) (b:=1) J J) (mv 1 J (aX (cM (⟨ae,i+1,_⟩:a6×Nat×List Nat) ⟨av,(by omega),X,(iC (l:=l) (hl)),hI.odd (by omega) (by omega) (by omega) aa,(Rd.updL (r.ext o) L E)⟩ (show e-(i+1)<e-i by omega) J ⟨rfl,rfl,rfl,AT⟩))))))))
 ·refine aF (mv 2 J (pu (v:= no e) J (aI J J J false (eE (a:=i) (b:=e) J J) (a7 (aQ J (d4 (cU (cY (cZ (aO (sr (mv 2 J (aX ?_)))))))))))))
  refine aO (aV (aU [we (some ⟨f,0,none⟩) ((e+1)/2) ((e+1)/2)] J ⟨rfl,AT⟩ ?_))
  obtain rfl:e=i:=by omega
  exact gw (aZ _) _ _ (sB (ys:=l) p hb hl (aZ _) (by rw [eG];omega) (hI.done ar hl Z I) h)
def AR (b N m:Nat)(v:aM)(w:a6):Prop:=∃g l,v= we (some ⟨g,0,none⟩) N N∧b≤g∧Bk w g 65 (l.map bF)∧l.length=N∧Wfb 4294967296 l∧nb 4294967296 l=m
theorem QT (hl:i<l.length)(hi:i<xs.length)(h:nb 4294967296 (l.take i)+4294967296^i*c=nb 4294967296 (xs.take i)*f):nb 4294967296 ((l.set i ((xs.getD i 0*f+c)%4294967296)).take (i+1))+4294967296^(i+1)*((xs.getD i 0*f+c)/4294967296)=nb 4294967296 (xs.take (i+1))*f:=by
 rw [nG 4294967296 hl,cW,bX,iM,←cI,iS,hZ 4294967296 xs i hi,dK,←h,cI,bX]
 omega
theorem GY (hx:Rd w A n cap xs)(hln:n≤274877906944)(hwx:Wfb 4294967296 xs)(hf:f≤4294967295):aP aN 259 #[we A n cap,up f] w (Gv w (AR w.heap.size (n+1) (nb 4294967296 xs*f))):=by
 have Y:=hx.len
 have ah:=hx.rv.le
 refine bN Tryz.func259 J (n:=40) J (bq J) (args:= [we A n cap,up f]) (bG [(0,we A n cap),(1,up f)] ⟨rfl,rfl,AT⟩ (sr (mv 1 J (a7 (sr (mv 1 J (pu (v:= no n) J (aR J J J ((n+1:Nat):Int) (cA (a:=n) (b:=1) J J) (oA J (k:=n+1) J J J bU iD J fun h v2 I E e5=>?_)))))))))
 rw [j7] at E
 have o:w.heap.size≤h:=by rw [←I];exact (Ext.refl w).size
 have X:0<cap→∀a,A=some a→a.block≠h:=fun Z a ha=>by have:=(hx).rv.blk a ha Z;omega
 clear I
 have e:=(Ext.refl w).trans e5
 refine mv 1 J (a7 (sr (mv 1 J (a7 (aD (sr (mv 1 J (a7 (bO ?_)))))))))
 refine d8 (T:=a6×Nat×Nat×List Nat)
  (fun⟨wr,i,c,l⟩=> [(0,we A n cap),(1,up f),(5,we (some ⟨h,0,none⟩) (n+1) (n+1)),(6,up c),(7,no i)])
  (fun⟨wr,i,c,l⟩=>wr)
  (fun⟨wr,i,c,l⟩=>(Ext w wr)∧(i≤n)∧(c≤4294967295)∧(Bk wr h 65 (l.map bF))∧(l.length=n+1)∧(Wfb 4294967296 l)∧(nb 4294967296 (l.take i)+4294967296^i*c=nb 4294967296 (xs.take i)*f)∧(Rd wr A n cap xs))
  (fun⟨wr,i,c,l⟩=>n-i)
  (⟨v2,0,0,_⟩:a6×Nat×Nat×List Nat) ⟨e,bJ _,bJ _,E,(List.length_replicate (n:=n+1) (a:=0)),oR _,by simp [nb],(hx.ext e5)⟩ J ⟨rfl,rfl,rfl,rfl,rfl,AT⟩ ?_
 rintro⟨wr,i,c,l⟩ ⟨e,hi,Z,hb,hl,r,hv,D⟩
 refine cR [(0,we A n cap),(1,up f),(5,we (some ⟨h,0,none⟩) (n+1) (n+1)),(6,up c),(7,no i)] wr J ⟨rfl,rfl,rfl,rfl,rfl,AT⟩ (aD (aD ?_))
 by_cases ae:i<n
 ·refine aF (mv 2 J (pu (v:= no n) J (aI J J J true (eD (a:=i) (b:=n) J J) (a7 (aW J (aY (aO (aD (bO (aD ?_))))))))))
  have ai:=i6 (b:=4294967296) hwx i
  have hm:(xs.getD i 0)*f≤4294967295*4294967295:=jP (by omega) hf
  refine aF (mv 2 J ?_)
  obtain⟨p9,U,V,_⟩:=(D).at (i:=i) (by omega)
  refine cD J J J bU bT i J p9 U (bB J J (dF cT V) (mv 1 J (aR J J J (((xs.getD i 0)*f:Nat):Int) (kU (a:=xs.getD i 0) (b:=f) J J) (mv 1 J (aR J J J ((((xs.getD i 0)*f)+c:Nat):Int) (iY (a:=(xs.getD i 0)*f) (b:=c) J J) (mv 1 J (a7 (sr (mv 3 J (aR J J J (((((xs.getD i 0)*f)+c)%4294967296:Nat):Int) (jJ (a:=((xs.getD i 0)*f)+c) (b:=4294967296) J J) (cD J J J bU bT i J ⟨h,i,none⟩ (eA _ _) ?_)))))))))))
  have H:=hb
  refine dE J J J bT J H (gV (by rw [hl];omega)) J ((l.set i ((((xs.getD i 0)*f)+c)%4294967296)).map bF) (dX _ _ _) fun W G L _=>?_
  have p:=L.ext e o
  refine a7 (aF (mv 1 J (aR J J J (((((xs.getD i 0)*f)+c)/4294967296:Nat):Int) (jK (a:=((xs.getD i 0)*f)+c) (b:=4294967296) J J) (mv 1 J (aX (bQ (aO (aF (mv 1 J (aR J J J ((i+1:Nat):Int) (cA (a:=i) (b:=1) J J) (mv 1 J (aX (cM (⟨W,i+1,_,_⟩:a6×Nat×Nat×List Nat) ⟨p,(by omega),(by omega),G,(iC (l:=l) (hl)),i0 r _ (hx:=(f7 _ (by decide))),QT (by omega) (by omega) hv,(Rd.updL D L X)⟩ (show n-(i+1)<n-i by omega) J ⟨rfl,rfl,rfl,rfl,rfl,AT⟩)))))))))))))
 ·refine aF (mv 2 J (pu (v:= no n) J (aI J J J false (eE (a:=i) (b:=n) J J) (a7 (aQ J (d4 (cU (cY (cZ (aO (aD ?_)))))))))))
  obtain rfl:n=i:=by omega
  refine aF (mv 2 J (pu (v:= no n) J (mv 1 J (cD J J J bU bT n J ⟨h,n,none⟩ (eA _ _) ?_))))
  have F:=hb
  refine dE J J J bT J F (gV (by rw [hl];omega)) J ((l.set n c).map bF) (dX _ _ _) fun _ q M _=>?_
  have p:=M.ext e o
  refine a7 (sr (mv 2 J (a7 (aV (aU [we (some ⟨h,0,none⟩) (n+1) (n+1)] J ⟨rfl,AT⟩ (⟨_,rfl,⟨_,_,rfl,o,q,(iC (l:=l) (hl)),i0 r _,?_⟩,p⟩))))))
  have h2:=nG 4294967296 (l:=l) (i:=n) (by omega) c
  rw [List.take_of_length_le (by rw [List.length_set];omega)] at h2
  rw [h2,hv,List.take_of_length_le (by omega)]
end
end Go.Proofs.YtkepckmdjncehaaGreatDoor
